import Derived.Test.YthabooeapfepnaaGreatDoorG1
import Derived.WalkMore
import Derived.IntWalk
import Derived.Lib.Hide
import Derived.Outline
import Derived.WalkSpells
import Derived.StillTailTactics
import Derived.RegionTactic
import Derived.BigQuiet
import Derived.BigRegion
import Derived.Deep.QuietTactic
import Derived.WalkLawsBesides
namespace Go.Proofs.YthabooeapfepnaaGreatDoor.Given
open Go.RowKit Go.Proofs.YthabooeapfepnaaGreatDoorW.PrintWords Go.Shelf
set_option linter.unusedVariables false
set_option pp.maxSteps 1500
structure Kp (l : List Nat) (w w' : World) : Prop where
  os : w'.os = w.os
  tape : w'.tape = w.tape
  output : w'.output = w.output
  size : w.heap.size ≤ w'.heap.size
  block : ∀ i, i < w.heap.size → i ∉ l → w'.heap[i]? = w.heap[i]?
namespace Kp
variable {l l2 : List Nat} {w w1 w2 : World}
theorem refl (l : List Nat) (w : World) : Kp l w w := ⟨rfl, rfl, rfl, Nat.le_refl _, fun _ _ _ => rfl⟩
theorem alloc (h : Kp l w w1) (o : Obj) : Kp l w (w1.alloc o) := ⟨h.os, h.tape, h.output, by show _ ≤ (w1.heap.push o).size; rw [Array.size_push]; exact Nat.le_succ_of_le h.size, fun i hi hl => by
  have : i < w1.heap.size := Nat.lt_of_lt_of_le hi h.size
  show (w1.heap.push o)[i]? = _
  rw [Array.getElem?_push, if_neg (by omega)]
  exact h.block i hi hl⟩
theorem drewN (h : Kp l w w1) (n : Nat) : Kp l w (w1.drewN n) := ⟨h.os, h.tape, h.output, h.size, h.block⟩
theorem drew (h : Kp l w w1) : Kp l w w1.drew := ⟨h.os, h.tape, h.output, h.size, h.block⟩
theorem setCell (h : Kp l w w1) (p : Addr) (hp : p.block ∈ l ∨ w.heap.size ≤ p.block) (v : Value) : Kp l w (w1.setCell p v) := ⟨h.os, h.tape, h.output, by show _ ≤ (w1.heap.modify _ _).size; rw [Array.size_modify]; exact h.size, fun i hi hl => by
  rw [Below.heap_setCell w1 p v i (by rintro rfl; rcases hp with hp | hp <;> first | exact hl hp | omega)]
  exact h.block i hi hl⟩
theorem trans (h : Kp l w w1) (h2 : Kp l2 w1 w2) (hl : ∀ i, i ∈ l2 → i ∈ l ∨ w.heap.size ≤ i) : Kp l w w2 :=
  ⟨h2.os.trans h.os, h2.tape.trans h.tape, h2.output.trans h.output, Nat.le_trans h.size h2.size, fun i hi hn => (h2.block i (Nat.lt_of_lt_of_le hi h.size) (fun hm => by rcases hl i hm with k | k <;> first | exact hn k | omega)).trans (h.block i hi hn)⟩
theorem below {B : Nat} (h : Kp l w w1) (hl : ∀ i, i ∈ l → B ≤ i) (hB : B ≤ w.heap.size) : Below B w w1 :=
  ⟨h.os, h.tape, h.output, h.size, fun i hi => h.block i (by omega) (fun hm => by have := hl i hm; omega)⟩
theorem at_ (h : Kp l w w1) {i : Nat} {o : Obj} (hi : w.heap[i]? = some o) (hl : i ∉ l) : w1.heap[i]? = some o :=
  (h.block i (Array.getElem?_eq_some_iff.1 hi).1 hl).trans hi
theorem cell {p : Addr} {v : Value} (h : Kp l w w1) (hp : w.cell? p = some v) (hl : p.block ∉ l) : w1.cell? p = some v := by
  have hi : p.block < w.heap.size := by
    refine Classical.byContradiction fun hn => ?_
    simp [World.cell?, Array.getElem?_eq_none (Nat.le_of_not_lt hn)] at hp
  rw [← hp]
  simp only [World.cell?, h.block p.block hi hl]
end Kp
theorem blk_new' {W : World} {n : Nat} (h : W.heap.size = n) (o : Obj) : (W.alloc o).heap[n]? = some o := h ▸ blk_new W o
theorem size_set (W : World) (p : Addr) (v : Value) : (W.setCell p v).heap.size = W.heap.size := by show (W.heap.modify _ _).size = _; rw [Array.size_modify]
def NodeIs (w : World) (t : Nat) (val : ByteArray) (prio : Int) (px : ByteArray) (nx tb : Value) : Prop :=
  w.heap[t]? = some (.cells #[.string val, .int .i64 prio, .string px, nx, tb] 220 (0, 0))
set_option maxHeartbeats 1000000 in
set_option maxRecDepth 100000 in
theorem add_leaf (t : Nat) (val : ByteArray) (prio : Int) (g : Value) (w : World) (h : NodeIs w t ⟨#[]⟩ 0 ⟨#[]⟩ (.pointer none) (.slice none 0 0)) :
    Calls Tryz.prog 168 #[.pointer (some ⟨t, 0, none⟩), .string ⟨#[]⟩, .string val, .int .i64 prio, g] w fun e w' => e = .returned (.tuple #[]) ∧ NodeIs w' t val prio ⟨#[]⟩ (.pointer none) (.slice none 0 0) ∧ Kp [t] w w' := by
  have c0 : w.cell? ⟨t, 0, none⟩ = some (.string ⟨#[]⟩) := (bkC h 0).trans rfl
  have c1 : w.cell? ⟨t, 1, none⟩ = some (.int .i64 0) := (bkC h 1).trans rfl
  have f0 := bkF h 0
  have f1 := bkF h 1
  have HN := Lib.hid h
  clear h
  go_enter Tryz.func168, Tryz.ntmps168
  go_wp2
  refine bodyPost_ret (results_none rfl _ _ _) rfl ?_
  exact ⟨rfl, bkP (bkP HN.out 0 _ rfl) 1 _ rfl, ((Kp.refl [t] w).setCell _ (.inl (by simp)) _).setCell _ (.inl (by simp)) _⟩
set_option maxHeartbeats 1000000 in
set_option maxRecDepth 100000 in
theorem add_fresh (t : Nat) (b : UInt8) (val : ByteArray) (prio : Int) (g : Value) (w : World) (h : NodeIs w t ⟨#[]⟩ 0 ⟨#[]⟩ (.pointer none) (.slice none 0 0)) :
    Calls Tryz.prog 168 #[.pointer (some ⟨t, 0, none⟩), .string ⟨#[b]⟩, .string val, .int .i64 prio, g] w fun e w' => e = .returned (.tuple #[]) ∧ NodeIs w' t ⟨#[]⟩ 0 ⟨#[b]⟩ (.pointer (some ⟨w.heap.size, 0, none⟩)) (.slice none 0 0)
      ∧ NodeIs w' w.heap.size val prio ⟨#[]⟩ (.pointer none) (.slice none 0 0) ∧ Kp [t] w w' := by
  have c2 : w.cell? ⟨t, 2, none⟩ = some (.string ⟨#[]⟩) := (bkC h 2).trans rfl
  have c3 : w.cell? ⟨t, 3, none⟩ = some (.pointer none) := (bkC h 3).trans rfl
  have c4 : w.cell? ⟨t, 4, none⟩ = some (.slice none 0 0) := (bkC h 4).trans rfl
  have f2 := bkF h 2
  have f3 := bkF h 3
  have hlt := bkL h
  have hne : t ≠ w.heap.size := by omega
  have hne' : w.heap.size ≠ t := by omega
  have HN := Lib.hid h
  clear h
  go_enter Tryz.func168, Tryz.ntmps168
  go_wp2_with fail
  refine (add_leaf w.heap.size val prio g _ ?hn).mono ?_
  case hn => exact blk_new' (by simp) _
  rintro e w1 ⟨rfl, hn1, hk⟩
  go_wp2
  refine bodyPost_end (results_none rfl _ _ _) rfl ?_
  refine ⟨rfl, hk.at_ (bkA (bkP (bkP HN.out 2 _ rfl) 3 _ rfl) _) (by simp [hne]), hn1, Kp.trans ((((Kp.refl [t] w).setCell _ (.inl (by simp)) _).setCell _ (.inl (by simp)) _).alloc _) hk (fun i hi => .inr ?_)⟩
  rw [List.mem_singleton.1 hi]
  exact Nat.le_refl _
theorem mk3 (w : World) : (Instr.makeSlice 218 (.int .i64 3) (.int .i64 3)).run Tryz.prog w = .ok (.slice (some ⟨w.heap.size, 0, none⟩) 3 3) (w.alloc (.cells #[.pointer none, .pointer none, .pointer none] 217 (0, 0))) := by kernel_rfl
set_option maxHeartbeats 1000000 in
set_option maxRecDepth 100000 in
theorem add_split (t G C : Nat) (val : ByteArray) (prio : Int) (w : World) (h : NodeIs w t ⟨#[]⟩ 0 ⟨#[110]⟩ (.pointer (some ⟨C, 0, none⟩)) (.slice none 0 0))
    (g5 : w.cell? ⟨G, 5, none⟩ = some (.int .i64 3)) (g1 : w.cell? ⟨G, 100, none⟩ = some (.int .u8 1)) (g2 : w.cell? ⟨G, 116, none⟩ = some (.int .u8 2)) (hG : G < w.heap.size) (hGt : G ≠ t) :
    Calls Tryz.prog 168 #[.pointer (some ⟨t, 0, none⟩), .string ⟨#[94]⟩, .string val, .int .i64 prio, .pointer (some ⟨G, 0, none⟩)] w fun e w' => e = .returned (.tuple #[])
      ∧ NodeIs w' t ⟨#[]⟩ 0 ⟨#[]⟩ (.pointer none) (.slice (some ⟨w.heap.size + 1, 0, none⟩) 3 3)
      ∧ NodeIs w' w.heap.size val prio ⟨#[]⟩ (.pointer none) (.slice none 0 0)
      ∧ w'.heap[w.heap.size + 1]? = some (.cells #[.pointer none, .pointer (some ⟨w.heap.size, 0, none⟩), .pointer (some ⟨C, 0, none⟩)] 217 (0, 0)) ∧ Kp [t] w w' := by
  have c0 : w.cell? ⟨t, 0, none⟩ = some (.string ⟨#[]⟩) := (bkC h 0).trans rfl
  have c1 : w.cell? ⟨t, 1, none⟩ = some (.int .i64 0) := (bkC h 1).trans rfl
  have c2 : w.cell? ⟨t, 2, none⟩ = some (.string ⟨#[110]⟩) := (bkC h 2).trans rfl
  have c3 : w.cell? ⟨t, 3, none⟩ = some (.pointer (some ⟨C, 0, none⟩)) := (bkC h 3).trans rfl
  have c4 : w.cell? ⟨t, 4, none⟩ = some (.slice none 0 0) := (bkC h 4).trans rfl
  have f2 := bkF h 2
  have f3 := bkF h 3
  have f4 := bkF h 4
  have hlt := bkL h
  have hne : t ≠ w.heap.size := by omega
  have hne' : w.heap.size ≠ t := by omega
  have hGt' : t ≠ G := by omega
  have hGs : G ≠ w.heap.size := by omega
  have hGs2 : G ≠ w.heap.size + 1 := by omega
  have hts2 : t ≠ w.heap.size + 1 := by omega
  have hss : w.heap.size ≠ w.heap.size + 1 := by omega
  have hss2 : w.heap.size + 1 ≠ w.heap.size := by omega
  have hb8 : (((({data := #[110]} : ByteArray)[0]'(by decide)).toNat : Int) != ((({data := #[94]} : ByteArray)[0]'(by decide)).toNat : Int)) = true := by decide
  have HN := Lib.hid h
  clear h
  go_enter Tryz.func168, Tryz.ntmps168
  go_wp2_with fail
  refine wp_loop_once ?_
  go_wp2_with fail
  go_quiet (fail)
  obtain ⟨w2, hw2⟩ : ∃ w2, w2 = w.drewN nq := ⟨_, rfl⟩
  rw [← hw2]
  have hz2 : w2.heap.size = w.heap.size := by rw [hw2]; rfl
  have hc2 : ∀ p, w2.cell? p = w.cell? p := by intro p; rw [hw2]; rfl
  have hf2 : ∀ p, w2.frozen? p = w.frozen? p := by intro p; rw [hw2]; rfl
  rw [← hc2] at g5 g1 g2 c0 c1 c2 c3 c4
  rw [← hf2] at f2 f3 f4
  rw [← hz2] at hG hlt hne hne' hGs hGs2 hts2 hss hss2
  have HK : Hid (w2.heap.size = w.heap.size ∧ w2 = w.drewN nq ∧ (∀ p, w2.cell? p = w.cell? p) ∧ ∀ p, w2.frozen? p = w.frozen? p) := Lib.hid ⟨hz2, hw2, hc2, hf2⟩
  clear hw2 hc2 hf2 hz2
  have hmk := mk3
  go_wp2_with fail
  obtain ⟨w4, hw4⟩ : ∃ w4, w4 = (((w2.setCell ⟨t, 4, none⟩ (.slice (some ⟨w2.heap.size + 1, 0, none⟩) 3 3)).alloc (.cells #[.string ⟨#[]⟩, .int .i64 0, .string ⟨#[]⟩, .pointer none, .slice none 0 0] 220 (0, 0))).alloc (.cells #[.pointer none, .pointer none, .pointer none] 217 (0, 0))) := ⟨_, rfl⟩
  rw [← hw4]
  have HN2 : NodeIs w2 t ⟨#[]⟩ 0 ⟨#[110]⟩ (.pointer (some ⟨C, 0, none⟩)) (.slice none 0 0) := by rw [HK.out.2.1]; exact HN.out
  have hk24 : Kp [t] w2 w4 := by
    rw [hw4]
    exact (((Kp.refl [t] w2).setCell _ (.inl (by simp)) _).alloc _).alloc _
  have n4 : NodeIs w4 t ⟨#[]⟩ 0 ⟨#[110]⟩ (.pointer (some ⟨C, 0, none⟩)) (.slice (some ⟨w2.heap.size + 1, 0, none⟩) 3 3) := by
    rw [hw4]
    exact bkA (bkA (bkP HN2 4 _ rfl) _) _
  have k4 : NodeIs w4 w2.heap.size ⟨#[]⟩ 0 ⟨#[]⟩ (.pointer none) (.slice none 0 0) := by
    rw [hw4]
    exact bkA (blk_new' (size_set _ _ _) _) _
  have r4 : w4.heap[w2.heap.size + 1]? = some (.cells #[.pointer none, .pointer none, .pointer none] 217 (0, 0)) := by
    rw [hw4]
    exact blk_new' (by show (Array.push _ _).size = _; rw [Array.size_push, size_set]) _
  clear hw4
  have d1 := hk24.cell g1 (by simp [hGt])
  have d2 := hk24.cell g2 (by simp [hGt])
  have e2 : w4.cell? ⟨t, 2, none⟩ = some (.string ⟨#[110]⟩) := (bkC n4 2).trans rfl
  have e4 : w4.cell? ⟨t, 4, none⟩ = some (.slice (some ⟨w2.heap.size + 1, 0, none⟩) 3 3) := (bkC n4 4).trans rfl
  have v2 : w4.cell? ⟨w2.heap.size + 1, 2, none⟩ = some (.pointer none) := (bkC r4 2).trans rfl
  have u2 := bkF r4 2
  have H4 := Lib.hid (And.intro hk24 (And.intro n4 (And.intro k4 r4)))
  clear hk24 n4 k4 r4 HN2
  have b110 : (({data := #[110]} : ByteArray)[0]'(by decide)).toNat = 110 := rfl
  have b94 : (({data := #[94]} : ByteArray)[0]'(by decide)).toNat = 94 := rfl
  clear hb8
  go_region
  obtain ⟨w5, hw5⟩ : ∃ w5, w5 = (w4.setCell ⟨w2.heap.size + 1, 2, none⟩ (.pointer (some ⟨C, 0, none⟩))).drew := ⟨_, rfl⟩
  rw [← hw5]
  obtain ⟨hk24, n4, k4, r4⟩ := H4.out
  clear H4
  have hk25 : Kp [t] w2 w5 := by
    rw [hw5]
    exact (hk24.setCell _ (.inr (by show _ ≤ _ + 1; omega)) _).drew
  have n5 : NodeIs w5 t ⟨#[]⟩ 0 ⟨#[110]⟩ (.pointer (some ⟨C, 0, none⟩)) (.slice (some ⟨w2.heap.size + 1, 0, none⟩) 3 3) := by
    rw [hw5]
    exact (Below.heap_setCell _ _ _ _ hts2).trans n4
  have k5 : NodeIs w5 w2.heap.size ⟨#[]⟩ 0 ⟨#[]⟩ (.pointer none) (.slice none 0 0) := by
    rw [hw5]
    exact (Below.heap_setCell _ _ _ _ hss).trans k4
  have r5 : w5.heap[w2.heap.size + 1]? = some (.cells #[.pointer none, .pointer none, .pointer (some ⟨C, 0, none⟩)] 217 (0, 0)) := by
    rw [hw5]
    exact bkP r4 2 _ rfl
  clear hw5 hk24 n4 k4 r4 d1 d2 e2 e4 v2 u2
  have d1 := hk25.cell g1 (by simp [hGt])
  have d2 := hk25.cell g2 (by simp [hGt])
  have e2 : w5.cell? ⟨t, 2, none⟩ = some (.string ⟨#[110]⟩) := (bkC n5 2).trans rfl
  have e4 : w5.cell? ⟨t, 4, none⟩ = some (.slice (some ⟨w2.heap.size + 1, 0, none⟩) 3 3) := (bkC n5 4).trans rfl
  have v1 : w5.cell? ⟨w2.heap.size + 1, 1, none⟩ = some (.pointer none) := (bkC r5 1).trans rfl
  have u1 := bkF r5 1
  have H5 := Lib.hid (And.intro hk25 (And.intro n5 (And.intro k5 r5)))
  clear hk25 n5 k5 r5
  go_wp2_with fail
  go_region
  obtain ⟨w6, hw6⟩ : ∃ w6, w6 = (w5.setCell ⟨w2.heap.size + 1, 1, none⟩ (.pointer (some ⟨w2.heap.size, 0, none⟩))).drew := ⟨_, rfl⟩
  rw [← hw6]
  obtain ⟨hk25, n5, k5, r5⟩ := H5.out
  clear H5
  have hk26 : Kp [t] w2 w6 := by
    rw [hw6]
    exact (hk25.setCell _ (.inr (by show _ ≤ _ + 1; omega)) _).drew
  have n6 : NodeIs w6 t ⟨#[]⟩ 0 ⟨#[110]⟩ (.pointer (some ⟨C, 0, none⟩)) (.slice (some ⟨w2.heap.size + 1, 0, none⟩) 3 3) := by
    rw [hw6]
    exact (Below.heap_setCell _ _ _ _ hts2).trans n5
  have k6 : NodeIs w6 w2.heap.size ⟨#[]⟩ 0 ⟨#[]⟩ (.pointer none) (.slice none 0 0) := by
    rw [hw6]
    exact (Below.heap_setCell _ _ _ _ hss).trans k5
  have r6 : w6.heap[w2.heap.size + 1]? = some (.cells #[.pointer none, .pointer (some ⟨w2.heap.size, 0, none⟩), .pointer (some ⟨C, 0, none⟩)] 217 (0, 0)) := by
    rw [hw6]
    exact bkP r5 1 _ rfl
  clear hw6 hk25 n5 k5 r5 d1 d2 e2 e4 v1 u1
  have e2 : w6.cell? ⟨t, 2, none⟩ = some (.string ⟨#[110]⟩) := (bkC n6 2).trans rfl
  have e3 : w6.cell? ⟨t, 3, none⟩ = some (.pointer (some ⟨C, 0, none⟩)) := (bkC n6 3).trans rfl
  have e4 : w6.cell? ⟨t, 4, none⟩ = some (.slice (some ⟨w2.heap.size + 1, 0, none⟩) 3 3) := (bkC n6 4).trans rfl
  have u2 := bkF n6 2
  have u3 := bkF n6 3
  have H6 := Lib.hid (And.intro hk26 (And.intro n6 (And.intro k6 r6)))
  clear hk26 n6 k6 r6
  go_wp2_with fail
  refine (add_leaf w2.heap.size val prio _ _ ?hn).mono ?_
  case hn => exact (Below.heap_setCell _ _ _ _ hne').trans ((Below.heap_setCell _ _ _ _ hne').trans H6.out.2.2.1)
  rintro e w7 ⟨rfl, hn7, hk7⟩
  go_wp2
  refine bodyPost_end (results_none rfl _ _ _) rfl ?_
  obtain ⟨hk26, n6, k6, r6⟩ := H6.out
  rw [← HK.out.1]
  have hk27 : Kp [t] w2 w7 := Kp.trans ((hk26.setCell _ (.inl (by simp)) _).setCell _ (.inl (by simp)) _) hk7 (fun i hi => .inr (by rw [List.mem_singleton.1 hi]; exact Nat.le_refl _))
  refine ⟨rfl, hk7.at_ (bkP (bkP n6 2 _ rfl) 3 _ rfl) (by simp [hne]), hn7, hk7.at_ ((Below.heap_setCell _ _ _ _ (Ne.symm hts2)).trans ((Below.heap_setCell _ _ _ _ (Ne.symm hts2)).trans r6)) (by simp), ?_⟩
  have hkk : Kp [t] w w2 := by rw [HK.out.2.1]; exact (Kp.refl [t] w).drewN _
  exact Kp.trans hkk hk27 (fun i hi => .inl hi)
end Go.Proofs.YthabooeapfepnaaGreatDoor.Given
