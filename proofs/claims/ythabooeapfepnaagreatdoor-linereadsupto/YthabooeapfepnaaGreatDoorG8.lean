import Derived.Test.YthabooeapfepnaaGreatDoorG7
import Derived.LoopN
namespace Go.Proofs.YthabooeapfepnaaGreatDoor.Given
open Go.RowKit Go.Proofs.YthabooeapfepnaaGreatDoorW.PrintWords Go.Shelf
set_option linter.unusedVariables false
set_option pp.maxSteps 1500
theorem Kp.mono {l l2 : List Nat} {w w1 : World} (h : Kp l w w1) (hl : ∀ i, i ∈ l → i ∈ l2) : Kp l2 w w1 := ⟨h.os, h.tape, h.output, h.size, fun i hi hn => h.block i hi (fun hm => hn (hl i hm))⟩
def RepIs (w : World) (R : Nat) (d s : Int) (s2 i o : Value) : Prop := w.heap[R]? = some (.cells #[.int .u32 d, .int .i32 s, s2, i, o] 117 (0, 0))
set_option maxRecDepth 100000 in
set_option maxHeartbeats 1600000 in
theorem once_slow (R : Nat) (s2 i0 o0 : Value) (w : World) (P' : Value → Value → World → Prop) (hR : RepIs w R 0 0 s2 i0 o0)
    (hB : ∀ W, Kp [R] w W → RepIs W R 0 1 s2 i0 o0 → Calls Tryz.prog 88 #[PT R] W fun e W' => e = .returned (.tuple #[]) ∧ (∃ i1 o1, RepIs W' R 0 1 s2 i1 o1 ∧ P' i1 o1 W') ∧ Kp [R] W W') :
    Calls Tryz.prog 123 #[PT R, .func (.func 88) #[PT R] #[]] w fun e w' => e = .returned (.tuple #[]) ∧ ∃ i1 o1 W', P' i1 o1 W' ∧ RepIs w' R 1 0 s2 i1 o1 ∧ Kp [R] W' w' ∧ Kp [R] w w' := by
  have x1 : w.cell? ⟨R, 1, none⟩ = some (.int .i32 0) := (bkC hR 1).trans rfl
  have u1 := bkF hR 1
  have hR1 : RepIs (w.setCell ⟨R, 1, none⟩ (.int .i32 1)) R 0 1 s2 i0 o0 := bkP hR 1 _ rfl
  have hk1 : Kp [R] w (w.setCell ⟨R, 1, none⟩ (.int .i32 1)) := (Kp.refl _ _).setCell _ (.inl (by simp)) _
  have cl := lock_free ⟨R, 1, none⟩ w x1 u1
  obtain ⟨w1, hw1⟩ : ∃ w1, w1 = w.setCell ⟨R, 1, none⟩ (.int .i32 1) := ⟨_, rfl⟩
  rw [← hw1] at hR1 hk1 cl
  have y0 : w1.cell? ⟨R, 0, none⟩ = some (.int .u32 0) := (bkC hR1 0).trans rfl
  have co := once_load ⟨R, 0, none⟩ 0 w1 y0
  have cb := hB w1 hk1 hR1
  have hnot : ∀ (x : Bool) (w : World), (Op.unary .not (.bool x)).run Tryz.prog w = .ok (.bool (!x)) w := fun _ _ => rfl
  have HK := Lib.hid (And.intro hk1 hR1)
  clear hR x1 u1 hR1 hk1 y0 hB hw1
  go_enter_defers Tryz.func123, Tryz.ntmps123
  go_wp2_with fail
  refine cl.mono ?_
  rintro e w' ⟨rfl, rfl⟩
  go_wp2_with fail
  refine co.mono ?_
  rintro e w' ⟨rfl, rfl⟩
  go_wp2_with fail
  refine cb.mono ?_
  rintro e w2 ⟨rfl, ⟨i1, o1, hR2, hP⟩, hk2⟩
  go_wp2_with fail
  have z0 : w2.cell? ⟨R, 0, none⟩ = some (.int .u32 0) := (bkC hR2 0).trans rfl
  have v0 := bkF hR2 0
  have hR3 : RepIs (w2.drew.setCell ⟨R, 0, none⟩ (.int .u32 1)) R 1 1 s2 i1 o1 := bkP hR2 0 _ rfl
  have hk3 : Kp [R] w2 (w2.drew.setCell ⟨R, 0, none⟩ (.int .u32 1)) := (Kp.refl _ _).drew.setCell _ (.inl (by simp)) _
  obtain ⟨w3, hw3⟩ : ∃ w3, w3 = w2.drew.setCell ⟨R, 0, none⟩ (.int .u32 1) := ⟨_, rfl⟩
  rw [← hw3] at hR3 hk3
  have z1 : w3.cell? ⟨R, 1, none⟩ = some (.int .i32 1) := (bkC hR3 1).trans rfl
  have v1 := bkF hR3 1
  have hR4 : RepIs (w3.setCell ⟨R, 1, none⟩ (.int .i32 0)) R 1 0 s2 i1 o1 := bkP hR3 1 _ rfl
  have hk4 : Kp [R] w2 (w3.setCell ⟨R, 1, none⟩ (.int .i32 0)) := hk3.setCell _ (.inl (by simp)) _
  refine leaves_cons (f := 150) (args := #[.pointer (some ⟨R, 0, none⟩), .bool true]) (by simp) (by simp [go_sem]) ?_
  refine (store_deferred ⟨R, 0, none⟩ (.int .u32 0) .returning w2 z0 v0).mono ?_
  rintro e u' w'' ⟨rfl, rfl, rfl⟩
  rw [← hw3]
  refine leaves_cons (f := 149) (args := #[.pointer (some ⟨R, 1, none⟩)]) (by simp [settle]) (by simp [go_sem]) ?_
  refine (unlock_deferred ⟨R, 1, none⟩ _ w3 z1 v1).mono ?_
  rintro e u' w'' ⟨rfl, rfl, rfl⟩
  simp only [Leaves, settle, results, Tryz.results123]
  refine ⟨.tuple #[], by simp, rfl, i1, o1, w2, hP, hR4, hk4, ?_⟩
  exact Kp.trans (Kp.trans HK.out.1 hk2 (fun i hi => .inl hi)) hk4 (fun i hi => .inl hi)
set_option maxRecDepth 100000 in
theorem once_do (R : Nat) (s2 i0 o0 : Value) (w : World) (P' : Value → Value → World → Prop) (hR : RepIs w R 0 0 s2 i0 o0)
    (hB : ∀ W, Kp [R] w W → RepIs W R 0 1 s2 i0 o0 → Calls Tryz.prog 88 #[PT R] W fun e W' => e = .returned (.tuple #[]) ∧ (∃ i1 o1, RepIs W' R 0 1 s2 i1 o1 ∧ P' i1 o1 W') ∧ Kp [R] W W') :
    Calls Tryz.prog 87 #[PT R, .func (.func 88) #[PT R] #[]] w fun e w' => e = .returned (.tuple #[]) ∧ ∃ i1 o1 W', P' i1 o1 W' ∧ RepIs w' R 1 0 s2 i1 o1 ∧ Kp [R] W' w' ∧ Kp [R] w w' := by
  have y0 : w.cell? ⟨R, 0, none⟩ = some (.int .u32 0) := (bkC hR 0).trans rfl
  have co := once_load ⟨R, 0, none⟩ 0 w y0
  have cs := once_slow R s2 i0 o0 w P' hR hB
  have hnot : ∀ (x : Bool) (w : World), (Op.unary .not (.bool x)).run Tryz.prog w = .ok (.bool (!x)) w := fun _ _ => rfl
  clear hR y0 hB
  go_enter Tryz.func87, Tryz.ntmps87
  go_wp2_with fail
  refine co.mono ?_
  rintro e w' ⟨rfl, rfl⟩
  go_wp2_with fail
  refine cs.mono ?_
  rintro e w' ⟨rfl, h⟩
  go_wp2
  exact bodyPost_end (results_none rfl _ _ _) rfl ⟨rfl, h⟩
set_option maxRecDepth 100000 in
theorem build_once (R : Nat) (ty : TypeId) (vi : Value) (s2 i0 o0 : Value) (w : World) (P' : World → Prop) (hR : RepIs w R 0 1 s2 i0 o0)
    (hB : Calls Tryz.prog 124 #[PT R] w fun e W => e = .returned (.iface ty vi) ∧ P' W ∧ Kp [] w W) :
    Calls Tryz.prog 88 #[PT R] w fun e W' => e = .returned (.tuple #[]) ∧ (∃ i o, RepIs W' R 0 1 s2 i o ∧ (i = .iface ty vi ∧ ∃ W, P' W ∧ RepIs W R 0 1 s2 i0 o0 ∧ Kp [R] W W')) ∧ Kp [R] w W' := by
  have HR := Lib.hid hR
  clear hR
  go_enter Tryz.func88, Tryz.ntmps88
  go_wp2_with fail
  refine hB.mono ?_
  rintro e w1 ⟨rfl, hP, hk⟩
  have hR1 : RepIs w1 R 0 1 s2 i0 o0 := hk.at_ HR.out (by simp)
  have z1 : w1.cell? ⟨R, 3, none⟩ = some i0 := (bkC hR1 3).trans rfl
  have v1 := bkF hR1 3
  have z2 : w1.cell? ⟨R, 4, none⟩ = some o0 := (bkC hR1 4).trans rfl
  have v2 := bkF hR1 4
  go_wp2_with fail
  refine bodyPost_end (results_none rfl _ _ _) rfl ?_
  refine ⟨rfl, ⟨.iface ty vi, _, bkP (bkP hR1 3 _ rfl) 4 _ rfl, rfl, w1, hP, hR1, ?_⟩, ?_⟩
  · exact ((Kp.refl [R] w1).setCell _ (.inl (by simp)) _).setCell _ (.inl (by simp)) _
  · exact Kp.trans (hk.mono (fun i hi => by cases hi)) (((Kp.refl [R] w1).setCell _ (.inl (by simp)) _).setCell _ (.inl (by simp)) _) (fun i hi => .inl hi)
set_option maxRecDepth 100000 in
set_option maxHeartbeats 1600000 in
theorem build_generic (R O c : Nat) (d s : Int) (s2 i0 : Value) (w : World) (hR : RepIs w R d s s2 i0 (.slice (some ⟨O, 0, none⟩) 6 c)) (z0 : w.cell? ⟨O, 0, none⟩ = some (.string ⟨#[94, 110]⟩)) 
    (g : Value) (P' : World → Prop) (hG : Calls Tryz.prog 152 #[.slice (some ⟨O, 0, none⟩) 6 c] w fun e W => e = .returned g ∧ P' W) :
    Calls Tryz.prog 124 #[PT R] w fun e W => e = .returned (.iface 190 g) ∧ P' W := by
  have z : w.cell? ⟨R, 4, none⟩ = some (.slice (some ⟨O, 0, none⟩) 6 c) := (bkC hR 4).trans rfl
  clear hR
  go_enter Tryz.func124, Tryz.ntmps124
  go_wp2_with fail
  refine wp_loop_once ?_
  go_wp2_with fail
  refine hG.mono ?_
  rintro e w' ⟨rfl, hP⟩
  go_wp2_with fail
  go_ret
  exact ⟨rfl, hP⟩
end Go.Proofs.YthabooeapfepnaaGreatDoor.Given
