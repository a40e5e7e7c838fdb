import Derived.Test.YthabooeapfepnaaGreatDoorG12
import Derived.Deep.WholeRow
import Derived.Lib.ConvBytes
namespace Go.Proofs.YthabooeapfepnaaGreatDoor.Given
open Go.RowKit Go.Proofs.YthabooeapfepnaaGreatDoorW.PrintWords Go.Shelf
set_option linter.unusedVariables false
set_option pp.maxSteps 1500
def PairsB : Array Value := #[.string ⟨#[10]⟩, .string ⟨#[94, 110]⟩, .string ⟨#[94]⟩, .string ⟨#[94, 94]⟩, .string ⟨#[34]⟩, .string ⟨#[94, 39]⟩]
set_option maxRecDepth 100000 in
theorem pairs_true (w : World) :
    Calls Tryz.prog 46 #[.bool true] w fun e w' => ∃ R, e = .returned (PT R) ∧ NewRep w.heap.size w' R PairsB ∧ Below w.heap.size w w' := by
  go_enter Tryz.func46, Tryz.ntmps46
  go_wp2_with fail
  refine (new_replacer w _ w.heap.size 6 PairsB rfl (blk_new w _) (by decide) (bA (Below.refl _ w) _)).mono ?_
  rintro e w1 ⟨R, rfl, hN, hb⟩
  go_wp2_with fail
  go_ret
  exact ⟨R, rfl, hN, hb⟩
def bsCells (f : Nat → Value) (tr : Value) : Array Value := (Array.range 256).map f ++ #[tr]
theorem zero_bs : Tryz.zeroCells196 = bsCells (fun _ => SN) SN := by kernel_rfl
theorem bs_size (f : Nat → Value) (tr : Value) : (bsCells f tr).size = 257 := by simp [bsCells]
theorem bs_at (f : Nat → Value) (tr : Value) (b : Nat) (hb : b < 256) : (bsCells f tr)[b]? = some (f b) := by
  unfold bsCells
  rw [Array.getElem?_append_left (by simpa using hb)]
  simp [hb]
theorem bs_tr (f : Nat → Value) (tr : Value) : (bsCells f tr)[256]? = some tr := by
  unfold bsCells
  rw [Array.getElem?_append_right (by simp)]
  simp
def updV (f : Nat → Value) (b : Nat) (v : Value) : Nat → Value := fun j => if j = b then v else f j
theorem bs_put (f : Nat → Value) (tr : Value) (b : Nat) (v : Value) (hb : b < 256) : (bsCells f tr).setIfInBounds b v = bsCells (updV f b v) tr := by
  apply Array.ext_getElem?
  intro i
  by_cases h : i = b
  · subst h
    rw [bs_at _ _ _ hb, Array.getElem?_setIfInBounds_self_of_lt (by rw [bs_size]; omega)]
    simp [updV]
  · rw [Array.getElem?_setIfInBounds_ne (Ne.symm h)]
    by_cases h6 : i < 256
    · rw [bs_at _ _ _ h6, bs_at _ _ _ h6]
      simp [updV, h]
    · unfold bsCells
      rw [Array.getElem?_append_right (by simpa using h6), Array.getElem?_append_right (by simpa using h6)]
      simp
theorem bs_put_tr (f : Nat → Value) (tr v : Value) : (bsCells f tr).setIfInBounds 256 v = bsCells f v := by
  unfold bsCells
  rw [Array.setIfInBounds_append_right (by simp)]
  simp
theorem bs_set (f : Nat → Value) (tr v : Value) : ((bsCells f tr).toList.set 256 v).toArray = bsCells f v := by
  rw [← bs_put_tr f tr v]
  apply Array.ext'
  simp
theorem nil_eq (W : World) : (binOp .eql 90 (.slice none 0 0) (.slice none 0 0)).run Tryz.prog W = .ok (.bool true) W := by kernel_rfl
theorem conv1 (x : UInt8) (W : World) : (convert 90 9 (.slice (some ⟨W.heap.size, 0, none⟩) 1 1)).run Tryz.prog (W.alloc (.cells #[.int .u8 (x.toNat : Int)] 5)) = .ok (.string ⟨#[x]⟩) (W.alloc (.cells #[.int .u8 (x.toNat : Int)] 5)) := by
  have h := World.ownsRow_lit (base := W.heap.size) (e := 5) (size := 1) W #[.int .u8 (x.toNat : Int)] 1 (Nat.le_refl _) (by simp [maxLen]) rfl
  have h2 := own_string (P := Tryz.prog) (src := 90) (dst := 9) (e := 5) (xs := [(x.toNat : Int)]) (by kernel_rfl) (by kernel_rfl) (by kernel_rfl) h
  have e : strOfNums [(x.toNat : Int)] = ⟨#[x]⟩ := by simp [strOfNums]
  rw [e] at h2
  exact h2
set_option maxRecDepth 100000 in
theorem conv_bytes (s : ByteArray) (W : World) : ∃ c W', (convert 9 90 (.string s)).run Tryz.prog W = .ok (.slice (some ⟨W.heap.size, 0, none⟩) s.size c) W' ∧ Kp [] W W' ∧ ∀ j, j < s.size → W'.cell? ⟨W.heap.size, j, none⟩ = some (.int .u8 (s.data.toList.getD j 0).toNat) := by
  have h9 : Tryz.prog.underlying 9 = some .string := by kernel_rfl
  have h90 : Tryz.prog.underlying 90 = some (.slice 5) := by kernel_rfl
  have h5 : Tryz.prog.underlying 5 = some (.int .u8) := by kernel_rfl
  have h := Lib.run_convert_string_bytes (P := Tryz.prog) W 9 90 5 s h9 h90 h5
  have hsz := Lib.bytesWorld_size W 5 s
  refine ⟨_, Lib.bytesWorld W 5 s, h, ⟨rfl, rfl, rfl, by omega, fun i hi _ => Lib.bytesWorld_at_old W 5 s i hi⟩, fun j hj => Lib.bytesWorld_cell W 5 s j hj⟩
theorem mkS3 (w : World) : (Instr.makeSlice 29 (.int .i64 0) (.int .i64 3)).run Tryz.prog w = .ok (.slice (some ⟨w.heap.size, 0, none⟩) 0 3) (w.alloc (.cells #[.string ⟨#[]⟩, .string ⟨#[]⟩, .string ⟨#[]⟩] 9)) := by kernel_rfl
def rowAt (W : World) (v : Value) (b0 b1 : Int) : Prop := ∃ r c, v = .slice (some ⟨r, 0, none⟩) 2 c ∧ W.cell? ⟨r, 0, none⟩ = some (.int .u8 b0) ∧ W.cell? ⟨r, 1, none⟩ = some (.int .u8 b1)
def BsIs (W : World) (M : Nat) : Prop :=
  ∃ T f, W.heap[M]? = some (.cells (bsCells f (.slice (some ⟨T, 0, none⟩) 3 3)) 196 (0, 0)) ∧ W.heap[T]? = some (.cells #[.string ⟨#[34]⟩, .string ⟨#[94]⟩, .string ⟨#[10]⟩] 9 (0, 0))
    ∧ (∀ b, b < 256 → b ≠ 10 → b ≠ 94 → b ≠ 34 → f b = SN) ∧ rowAt W (f 10) 94 110 ∧ rowAt W (f 94) 94 94 ∧ rowAt W (f 34) 94 39
set_option maxRecDepth 100000 in
set_option maxHeartbeats 4000000 in
theorem build_bytes (R O c : Nat) (d s : Int) (s2 i0 : Value) (w : World) (hR : RepIs w R d s s2 i0 (.slice (some ⟨O, 0, none⟩) 6 c)) (cs : Array Value) (hO : w.heap[O]? = some (.cells cs 9 (0, 0))) (hcs : ∀ (i : Nat) (v : Value), PairsB[i]? = some v → cs[i]? = some v) :
    Calls Tryz.prog 124 #[PT R] w fun e W => ∃ M, M = w.heap.size + 1 ∧ e = .returned (.iface 197 (PT M)) ∧ BsIs W M ∧ Kp [] w W := by
  have z : w.cell? ⟨R, 4, none⟩ = some (.slice (some ⟨O, 0, none⟩) 6 c) := (bkC hR 4).trans rfl
  have z0 : w.cell? ⟨O, 0, none⟩ = some (.string ⟨#[10]⟩) := (bkC hO 0).trans (hcs 0 _ rfl)
  have z1 : w.cell? ⟨O, 1, none⟩ = some (.string ⟨#[94, 110]⟩) := (bkC hO 1).trans (hcs 1 _ rfl)
  have z2 : w.cell? ⟨O, 2, none⟩ = some (.string ⟨#[94]⟩) := (bkC hO 2).trans (hcs 2 _ rfl)
  have z3 : w.cell? ⟨O, 3, none⟩ = some (.string ⟨#[94, 94]⟩) := (bkC hO 3).trans (hcs 3 _ rfl)
  have z4 : w.cell? ⟨O, 4, none⟩ = some (.string ⟨#[34]⟩) := (bkC hO 4).trans (hcs 4 _ rfl)
  have z5 : w.cell? ⟨O, 5, none⟩ = some (.string ⟨#[94, 39]⟩) := (bkC hO 5).trans (hcs 5 _ rfl)
  have hOs := bkL hO
  have hmk := mkS3
  have hne := nil_eq
  have k34 : ∀ W : World, (convert 90 9 (.slice (some ⟨W.heap.size, 0, none⟩) 1 1)).run Tryz.prog (W.alloc (.cells #[.int .u8 34] 5)) = .ok (.string ⟨#[34]⟩) (W.alloc (.cells #[.int .u8 34] 5)) := conv1 34
  have k94 : ∀ W : World, (convert 90 9 (.slice (some ⟨W.heap.size, 0, none⟩) 1 1)).run Tryz.prog (W.alloc (.cells #[.int .u8 94] 5)) = .ok (.string ⟨#[94]⟩) (W.alloc (.cells #[.int .u8 94] 5)) := conv1 94
  have k10 : ∀ W : World, (convert 90 9 (.slice (some ⟨W.heap.size, 0, none⟩) 1 1)).run Tryz.prog (W.alloc (.cells #[.int .u8 10] 5)) = .ok (.string ⟨#[10]⟩) (W.alloc (.cells #[.int .u8 10] 5)) := conv1 10
  have HO := Lib.hid (And.intro hO hcs)
  have hst : (storeCells ⟨w.heap.size + 1, 0, none⟩ (Tryz.zeroCells196.toList.set 256 (.slice (some ⟨w.heap.size, 0, none⟩) 0 3))).run Tryz.prog ((w.alloc (.cells #[.string ⟨#[]⟩, .string ⟨#[]⟩, .string ⟨#[]⟩] 9)).alloc (.cells Tryz.zeroCells196 196)) = .ok () ((w.alloc (.cells #[.string ⟨#[]⟩, .string ⟨#[]⟩, .string ⟨#[]⟩] 9)).alloc (.cells (bsCells (fun _ => SN) (.slice (some ⟨w.heap.size, 0, none⟩) 0 3)) 196)) := by
    have h := run_storeCells_new (P := Tryz.prog) (w.alloc (.cells #[.string ⟨#[]⟩, .string ⟨#[]⟩, .string ⟨#[]⟩] 9)) 196 Tryz.zeroCells196 (bsCells (fun _ => SN) (.slice (some ⟨w.heap.size, 0, none⟩) 0 3)) (by rw [bs_size]; kernel_rfl) (by rw [bs_size]; kernel_rfl) (by kernel_rfl)
    have hz : (w.alloc (.cells #[.string ⟨#[]⟩, .string ⟨#[]⟩, .string ⟨#[]⟩] 9)).heap.size = w.heap.size + 1 := by show (Array.push _ _).size = _; rw [Array.size_push]
    have e : Tryz.zeroCells196.toList.set 256 (.slice (some ⟨w.heap.size, 0, none⟩) 0 3) = (bsCells (fun _ => SN) (.slice (some ⟨w.heap.size, 0, none⟩) 0 3)).toList := by
      rw [zero_bs]
      exact congrArg Array.toList (bs_set (fun _ => SN) SN (.slice (some ⟨w.heap.size, 0, none⟩) 0 3))
    rw [hz] at h
    rw [e]
    exact h
  clear hR hO hcs
  go_enter Tryz.func124, Tryz.ntmps124
  go_wp2_with fail
  refine wp_loop_rounds 4 ?_
  rw [rounds_succ]
  go_wp2_with fail
  rw [rounds_succ]
  go_wp2_with fail
  rw [rounds_succ]
  go_wp2_with fail
  rw [rounds_succ]
  go_wp2_with fail
  obtain ⟨w2, hw2⟩ : ∃ w2, w2 = ((w.alloc (.cells #[.string ⟨#[]⟩, .string ⟨#[]⟩, .string ⟨#[]⟩] 9)).alloc (.cells (bsCells (fun _ => SN) (.slice (some ⟨w.heap.size, 0, none⟩) 0 3)) 196)) := ⟨_, rfl⟩
  rw [← hw2]
  obtain ⟨T, hT⟩ : ∃ T, T = w.heap.size := ⟨_, rfl⟩
  obtain ⟨M, hM⟩ : ∃ M, M = w.heap.size + 1 := ⟨_, rfl⟩
  rw [← hM, ← hT]
  have hk2 : Kp [] w w2 := by rw [hw2]; exact ((Kp.refl [] w).alloc _).alloc _
  have t2 : w2.heap[T]? = some (.cells #[.string ⟨#[]⟩, .string ⟨#[]⟩, .string ⟨#[]⟩] 9 (0, 0)) := by rw [hw2, hT]; exact bkA (blk_new _ _) _
  have m2 : w2.heap[M]? = some (.cells (bsCells (fun _ => SN) (.slice (some ⟨T, 0, none⟩) 0 3)) 196 (0, 0)) := by
    rw [hw2, hM, hT]
    exact blk_new' (by show (Array.push _ _).size = _; rw [Array.size_push]) _
  have b34 : (({data := #[34]} : ByteArray)[0]'(by decide)).toNat = 34 := rfl
  have b94 : (({data := #[94]} : ByteArray)[0]'(by decide)).toNat = 94 := rfl
  have b10 : (({data := #[10]} : ByteArray)[0]'(by decide)).toNat = 10 := rfl
  have wr3 : IntKind.i64.wrap 3 = 3 := IntWalk.i64_in _ (by omega)
  have wr5 : IntKind.i64.wrap 5 = 5 := IntWalk.i64_in _ (by omega)
  have wr1 : IntKind.i64.wrap 1 = 1 := IntWalk.i64_in _ (by omega)
  have HZ := Lib.hid (And.intro hT hM)
  have HZ0 := Lib.hid (And.intro z0 (And.intro z1 (And.intro z2 (And.intro z3 (And.intro z4 z5)))))
  have hTM : T ≠ M := by omega
  have hMT : M ≠ T := by omega
  have hwT : w.heap.size ≤ T := by omega
  have hwM : w.heap.size ≤ M := by omega
  have HW := Lib.hid (And.intro hwT hwM)
  clear hw2 hT hM z z0 z1 z2 z3 z4 z5 hst hmk hOs hwT hwM
  refine wp_loop_rounds 4 ?_
  have ya := hk2.cell HZ0.out.2.2.2.2.1 (by simp)
  have yb := hk2.cell HZ0.out.2.2.2.2.2 (by simp)
  have mo : w2.cell? ⟨M, 34, none⟩ = some (.slice none 0 0) := (bkC m2 34).trans (bs_at _ _ 34 (by omega))
  have mtr : w2.cell? ⟨M, 256, none⟩ = some (.slice (some ⟨T, 0, none⟩) 0 3) := (bkC m2 256).trans (bs_tr _ _)
  have ut := bkF m2 256
  have tt : w2.cell? ⟨T, 0, none⟩ = some (.string ⟨#[]⟩) := (bkC t2 0).trans rfl
  have utt := bkF t2 0
  have hTl := bkL t2
  have hMl := bkL m2
  have H2 := Lib.hid (And.intro hk2 (And.intro t2 m2))
  clear hk2 t2 m2
  rw [rounds_succ]
  go_wp2_with fail
  obtain ⟨w3, hw3⟩ : ∃ w3, w3 = ((((w2.setCell ⟨T, 0, none⟩ (.string ⟨#[34]⟩)).setCell ⟨M, 256, none⟩ (.slice (some ⟨T, 0, none⟩) 1 3)).alloc (.cells #[.int .u8 34] 5)).alloc (.cells #[.string ⟨#[34]⟩] 9)) := ⟨_, rfl⟩
  rw [← hw3]
  obtain ⟨hk2, t2, m2⟩ := H2.out
  have hk3 : Kp [] w w3 := by rw [hw3]; exact (((hk2.setCell _ (.inr HW.out.1) _).setCell _ (.inr HW.out.2) _).alloc _).alloc _
  have hkab : Kp [T, M] w2 w3 := by rw [hw3]; exact ((((Kp.refl _ _).setCell _ (.inl (by simp)) _).setCell _ (.inl (by simp)) _).alloc _).alloc _
  have t3 : w3.heap[T]? = some (.cells #[.string ⟨#[34]⟩, .string ⟨#[]⟩, .string ⟨#[]⟩] 9 (0, 0)) := by
    rw [hw3]
    exact bkA (bkA ((Below.heap_setCell _ _ _ _ hTM).trans (bkP t2 0 _ rfl)) _) _
  have m3 : w3.heap[M]? = some (.cells (bsCells (fun _ => SN) (.slice (some ⟨T, 0, none⟩) 1 3)) 196 (0, 0)) := by
    rw [hw3]
    exact bkA (bkA (bkP ((Below.heap_setCell _ _ _ _ hMT).trans m2) 256 _ (bs_put_tr _ _ _)) _) _
  obtain ⟨c34, w4', hcv, hkc, hrow⟩ := conv_bytes ⟨#[94, 39]⟩ w3
  rw [hcv]
  obtain ⟨r34, hr34⟩ : ∃ r, r = w3.heap.size := ⟨_, rfl⟩
  rw [← hr34]
  rw [← hr34] at hrow
  have hk3' : Kp [] w w4' := Kp.trans hk3 hkc (fun i hi => .inl hi)
  have t3' := hkc.at_ t3 (by simp)
  have m3' := hkc.at_ m3 (by simp)
  have mo : w4'.cell? ⟨M, 34, none⟩ = some (.slice none 0 0) := (bkC m3' 34).trans (bs_at _ _ 34 (by omega))
  have uo := bkF m3' 34
  have n34 : Hid (r34 ≠ T ∧ r34 ≠ M) := Lib.hid ⟨by have := bkL t3; omega, by have := bkL m3; omega⟩
  have HQ := Lib.hid (And.intro hk3' (And.intro t3' (And.intro m3' hrow)))
  have HB34 := Lib.hid hkc
  clear hw3 hk2 t2 m2 hk3 t3 m3 hcv hkc hrow hr34 hk3' t3' m3' ya yb mtr ut tt utt hTl hMl H2 hkab
  go_wp2_with fail
  obtain ⟨hkq, tq, mq, hrow⟩ := HQ.out
  obtain ⟨w4, hw4⟩ : ∃ w4, w4 = w4'.setCell ⟨M, 34, none⟩ (.slice (some ⟨r34, 0, none⟩) 2 c34) := ⟨_, rfl⟩
  rw [← hw4]
  have hk4 : Kp [] w w4 := by rw [hw4]; exact hkq.setCell _ (.inr HW.out.2) _
  have t4 : w4.heap[T]? = some (.cells #[.string ⟨#[34]⟩, .string ⟨#[]⟩, .string ⟨#[]⟩] 9 (0, 0)) := by rw [hw4]; exact (Below.heap_setCell _ _ _ _ hTM).trans tq
  have m4 : w4.heap[M]? = some (.cells (bsCells (updV (fun _ => SN) 34 (.slice (some ⟨r34, 0, none⟩) 2 c34)) (.slice (some ⟨T, 0, none⟩) 1 3)) 196 (0, 0)) := by rw [hw4]; exact bkP mq 34 _ (bs_put _ _ 34 _ (by omega))
  have hkM : Kp [M] w4' w4 := by rw [hw4]; exact (Kp.refl _ _).setCell _ (.inl (by simp)) _
  have R34 : Hid (w4.cell? ⟨r34, 0, none⟩ = some (.int .u8 94) ∧ w4.cell? ⟨r34, 1, none⟩ = some (.int .u8 39)) :=
    Lib.hid ⟨hkM.cell (hrow 0 (by decide)) (by simp [n34.out.2]), hkM.cell (hrow 1 (by decide)) (by simp [n34.out.2])⟩
  clear hkM hkq tq mq hrow HQ HB34 hw4 mo uo
  have ya := hk4.cell HZ0.out.2.2.1 (by simp)
  have yb := hk4.cell HZ0.out.2.2.2.1 (by simp)
  have mo : w4.cell? ⟨M, 94, none⟩ = some (.slice none 0 0) := (bkC m4 94).trans (bs_at _ _ 94 (by omega))
  have mtr : w4.cell? ⟨M, 256, none⟩ = some (.slice (some ⟨T, 0, none⟩) 1 3) := (bkC m4 256).trans (bs_tr _ _)
  have ut := bkF m4 256
  have tt : w4.cell? ⟨T, 1, none⟩ = some (.string ⟨#[]⟩) := (bkC t4 1).trans rfl
  have utt := bkF t4 1
  have hTl := bkL t4
  have hMl := bkL m4
  have H4 := Lib.hid (And.intro hk4 (And.intro t4 m4))
  clear hk4 t4 m4
  rw [rounds_succ]
  go_wp2_with fail
  obtain ⟨w5, hw5⟩ : ∃ w5, w5 = ((((w4.setCell ⟨T, 1, none⟩ (.string ⟨#[94]⟩)).setCell ⟨M, 256, none⟩ (.slice (some ⟨T, 0, none⟩) 2 3)).alloc (.cells #[.int .u8 94] 5)).alloc (.cells #[.string ⟨#[94]⟩] 9)) := ⟨_, rfl⟩
  rw [← hw5]
  obtain ⟨hk4, t4, m4⟩ := H4.out
  have hk5 : Kp [] w w5 := by rw [hw5]; exact (((hk4.setCell _ (.inr HW.out.1) _).setCell _ (.inr HW.out.2) _).alloc _).alloc _
  have hkab : Kp [T, M] w4 w5 := by rw [hw5]; exact ((((Kp.refl _ _).setCell _ (.inl (by simp)) _).setCell _ (.inl (by simp)) _).alloc _).alloc _
  have t5 : w5.heap[T]? = some (.cells #[.string ⟨#[34]⟩, .string ⟨#[94]⟩, .string ⟨#[]⟩] 9 (0, 0)) := by
    rw [hw5]
    exact bkA (bkA ((Below.heap_setCell _ _ _ _ hTM).trans (bkP t4 1 _ rfl)) _) _
  have m5 : w5.heap[M]? = some (.cells (bsCells (updV (fun _ => SN) 34 (.slice (some ⟨r34, 0, none⟩) 2 c34)) (.slice (some ⟨T, 0, none⟩) 2 3)) 196 (0, 0)) := by
    rw [hw5]
    exact bkA (bkA (bkP ((Below.heap_setCell _ _ _ _ hMT).trans m4) 256 _ (bs_put_tr _ _ _)) _) _
  have q34b : ∀ j x, w4.cell? ⟨r34, j, none⟩ = some x → w5.cell? ⟨r34, j, none⟩ = some x := fun j x hx => hkab.cell hx (by simp [n34.out.1, n34.out.2])
  obtain ⟨c94, w6', hcv, hkc, hrow⟩ := conv_bytes ⟨#[94, 94]⟩ w5
  rw [hcv]
  obtain ⟨r94, hr94⟩ : ∃ r, r = w5.heap.size := ⟨_, rfl⟩
  rw [← hr94]
  rw [← hr94] at hrow
  have hk5' : Kp [] w w6' := Kp.trans hk5 hkc (fun i hi => .inl hi)
  have t5' := hkc.at_ t5 (by simp)
  have m5' := hkc.at_ m5 (by simp)
  have mo : w6'.cell? ⟨M, 94, none⟩ = some (.slice none 0 0) := (bkC m5' 94).trans (bs_at _ _ 94 (by omega))
  have uo := bkF m5' 94
  have n94 : Hid (r94 ≠ T ∧ r94 ≠ M) := Lib.hid ⟨by have := bkL t5; omega, by have := bkL m5; omega⟩
  have HQ := Lib.hid (And.intro hk5' (And.intro t5' (And.intro m5' hrow)))
  have HB94 := Lib.hid hkc
  clear hw5 hk4 t4 m4 hk5 t5 m5 hcv hkc hrow hr94 hk5' t5' m5' ya yb mtr ut tt utt hTl hMl H4 hkab
  go_wp2_with fail
  obtain ⟨hkq, tq, mq, hrow⟩ := HQ.out
  obtain ⟨w6, hw6⟩ : ∃ w6, w6 = w6'.setCell ⟨M, 94, none⟩ (.slice (some ⟨r94, 0, none⟩) 2 c94) := ⟨_, rfl⟩
  rw [← hw6]
  have hk6 : Kp [] w w6 := by rw [hw6]; exact hkq.setCell _ (.inr HW.out.2) _
  have t6 : w6.heap[T]? = some (.cells #[.string ⟨#[34]⟩, .string ⟨#[94]⟩, .string ⟨#[]⟩] 9 (0, 0)) := by rw [hw6]; exact (Below.heap_setCell _ _ _ _ hTM).trans tq
  have m6 : w6.heap[M]? = some (.cells (bsCells (updV (updV (fun _ => SN) 34 (.slice (some ⟨r34, 0, none⟩) 2 c34)) 94 (.slice (some ⟨r94, 0, none⟩) 2 c94)) (.slice (some ⟨T, 0, none⟩) 2 3)) 196 (0, 0)) := by rw [hw6]; exact bkP mq 94 _ (bs_put _ _ 94 _ (by omega))
  have hkM : Kp [M] w6' w6 := by rw [hw6]; exact (Kp.refl _ _).setCell _ (.inl (by simp)) _
  have R94 : Hid (w6.cell? ⟨r94, 0, none⟩ = some (.int .u8 94) ∧ w6.cell? ⟨r94, 1, none⟩ = some (.int .u8 94)) :=
    Lib.hid ⟨hkM.cell (hrow 0 (by decide)) (by simp [n94.out.2]), hkM.cell (hrow 1 (by decide)) (by simp [n94.out.2])⟩
  have R34 : Hid (w6.cell? ⟨r34, 0, none⟩ = some (.int .u8 94) ∧ w6.cell? ⟨r34, 1, none⟩ = some (.int .u8 39)) :=
    Lib.hid ⟨hkM.cell (HB94.out.cell (q34b 0 _ R34.out.1) (by simp)) (by simp [n34.out.2]), hkM.cell (HB94.out.cell (q34b 1 _ R34.out.2) (by simp)) (by simp [n34.out.2])⟩
  clear q34b
  clear hkM hkq tq mq hrow HQ HB94 hw6 mo uo
  have ya := hk6.cell HZ0.out.1 (by simp)
  have yb := hk6.cell HZ0.out.2.1 (by simp)
  have mo : w6.cell? ⟨M, 10, none⟩ = some (.slice none 0 0) := (bkC m6 10).trans (bs_at _ _ 10 (by omega))
  have mtr : w6.cell? ⟨M, 256, none⟩ = some (.slice (some ⟨T, 0, none⟩) 2 3) := (bkC m6 256).trans (bs_tr _ _)
  have ut := bkF m6 256
  have tt : w6.cell? ⟨T, 2, none⟩ = some (.string ⟨#[]⟩) := (bkC t6 2).trans rfl
  have utt := bkF t6 2
  have hTl := bkL t6
  have hMl := bkL m6
  have H6 := Lib.hid (And.intro hk6 (And.intro t6 m6))
  clear hk6 t6 m6
  rw [rounds_succ]
  go_wp2_with fail
  obtain ⟨w7, hw7⟩ : ∃ w7, w7 = ((((w6.setCell ⟨T, 2, none⟩ (.string ⟨#[10]⟩)).setCell ⟨M, 256, none⟩ (.slice (some ⟨T, 0, none⟩) 3 3)).alloc (.cells #[.int .u8 10] 5)).alloc (.cells #[.string ⟨#[10]⟩] 9)) := ⟨_, rfl⟩
  rw [← hw7]
  obtain ⟨hk6, t6, m6⟩ := H6.out
  have hk7 : Kp [] w w7 := by rw [hw7]; exact (((hk6.setCell _ (.inr HW.out.1) _).setCell _ (.inr HW.out.2) _).alloc _).alloc _
  have hkab : Kp [T, M] w6 w7 := by rw [hw7]; exact ((((Kp.refl _ _).setCell _ (.inl (by simp)) _).setCell _ (.inl (by simp)) _).alloc _).alloc _
  have t7 : w7.heap[T]? = some (.cells #[.string ⟨#[34]⟩, .string ⟨#[94]⟩, .string ⟨#[10]⟩] 9 (0, 0)) := by
    rw [hw7]
    exact bkA (bkA ((Below.heap_setCell _ _ _ _ hTM).trans (bkP t6 2 _ rfl)) _) _
  have m7 : w7.heap[M]? = some (.cells (bsCells (updV (updV (fun _ => SN) 34 (.slice (some ⟨r34, 0, none⟩) 2 c34)) 94 (.slice (some ⟨r94, 0, none⟩) 2 c94)) (.slice (some ⟨T, 0, none⟩) 3 3)) 196 (0, 0)) := by
    rw [hw7]
    exact bkA (bkA (bkP ((Below.heap_setCell _ _ _ _ hMT).trans m6) 256 _ (bs_put_tr _ _ _)) _) _
  have q34b : ∀ j x, w6.cell? ⟨r34, j, none⟩ = some x → w7.cell? ⟨r34, j, none⟩ = some x := fun j x hx => hkab.cell hx (by simp [n34.out.1, n34.out.2])
  have q94b : ∀ j x, w6.cell? ⟨r94, j, none⟩ = some x → w7.cell? ⟨r94, j, none⟩ = some x := fun j x hx => hkab.cell hx (by simp [n94.out.1, n94.out.2])
  obtain ⟨c10, w8', hcv, hkc, hrow⟩ := conv_bytes ⟨#[94, 110]⟩ w7
  rw [hcv]
  obtain ⟨r10, hr10⟩ : ∃ r, r = w7.heap.size := ⟨_, rfl⟩
  rw [← hr10]
  rw [← hr10] at hrow
  have hk7' : Kp [] w w8' := Kp.trans hk7 hkc (fun i hi => .inl hi)
  have t7' := hkc.at_ t7 (by simp)
  have m7' := hkc.at_ m7 (by simp)
  have mo : w8'.cell? ⟨M, 10, none⟩ = some (.slice none 0 0) := (bkC m7' 10).trans (bs_at _ _ 10 (by omega))
  have uo := bkF m7' 10
  have n10 : Hid (r10 ≠ T ∧ r10 ≠ M) := Lib.hid ⟨by have := bkL t7; omega, by have := bkL m7; omega⟩
  have HQ := Lib.hid (And.intro hk7' (And.intro t7' (And.intro m7' hrow)))
  have HB10 := Lib.hid hkc
  clear hw7 hk6 t6 m6 hk7 t7 m7 hcv hkc hrow hr10 hk7' t7' m7' ya yb mtr ut tt utt hTl hMl H6 hkab
  go_wp2_with fail
  obtain ⟨hkq, tq, mq, hrow⟩ := HQ.out
  obtain ⟨w8, hw8⟩ : ∃ w8, w8 = w8'.setCell ⟨M, 10, none⟩ (.slice (some ⟨r10, 0, none⟩) 2 c10) := ⟨_, rfl⟩
  rw [← hw8]
  have hk8 : Kp [] w w8 := by rw [hw8]; exact hkq.setCell _ (.inr HW.out.2) _
  have t8 : w8.heap[T]? = some (.cells #[.string ⟨#[34]⟩, .string ⟨#[94]⟩, .string ⟨#[10]⟩] 9 (0, 0)) := by rw [hw8]; exact (Below.heap_setCell _ _ _ _ hTM).trans tq
  have m8 : w8.heap[M]? = some (.cells (bsCells (updV (updV (updV (fun _ => SN) 34 (.slice (some ⟨r34, 0, none⟩) 2 c34)) 94 (.slice (some ⟨r94, 0, none⟩) 2 c94)) 10 (.slice (some ⟨r10, 0, none⟩) 2 c10)) (.slice (some ⟨T, 0, none⟩) 3 3)) 196 (0, 0)) := by rw [hw8]; exact bkP mq 10 _ (bs_put _ _ 10 _ (by omega))
  have hkM : Kp [M] w8' w8 := by rw [hw8]; exact (Kp.refl _ _).setCell _ (.inl (by simp)) _
  have R10 : Hid (w8.cell? ⟨r10, 0, none⟩ = some (.int .u8 94) ∧ w8.cell? ⟨r10, 1, none⟩ = some (.int .u8 110)) :=
    Lib.hid ⟨hkM.cell (hrow 0 (by decide)) (by simp [n10.out.2]), hkM.cell (hrow 1 (by decide)) (by simp [n10.out.2])⟩
  have R34 : Hid (w8.cell? ⟨r34, 0, none⟩ = some (.int .u8 94) ∧ w8.cell? ⟨r34, 1, none⟩ = some (.int .u8 39)) :=
    Lib.hid ⟨hkM.cell (HB10.out.cell (q34b 0 _ R34.out.1) (by simp)) (by simp [n34.out.2]), hkM.cell (HB10.out.cell (q34b 1 _ R34.out.2) (by simp)) (by simp [n34.out.2])⟩
  clear q34b
  have R94 : Hid (w8.cell? ⟨r94, 0, none⟩ = some (.int .u8 94) ∧ w8.cell? ⟨r94, 1, none⟩ = some (.int .u8 94)) :=
    Lib.hid ⟨hkM.cell (HB10.out.cell (q94b 0 _ R94.out.1) (by simp)) (by simp [n94.out.2]), hkM.cell (HB10.out.cell (q94b 1 _ R94.out.2) (by simp)) (by simp [n94.out.2])⟩
  clear q94b
  clear hkM hkq tq mq hrow HQ HB10 hw8 mo uo
  rw [rounds_succ]
  go_wp2_with fail
  go_ret
  refine ⟨M, HZ.out.2, rfl, ⟨T, _, m8, t8, ?_, ?_, ?_, ?_⟩, hk8⟩
  · intro b hb h1 h2 h3
    simp [updV, h1, h2, h3]
  · exact ⟨r10, c10, rfl, R10.out.1, R10.out.2⟩
  · exact ⟨r94, c94, rfl, R94.out.1, R94.out.2⟩
  · exact ⟨r34, c34, rfl, R34.out.1, R34.out.2⟩
end Go.Proofs.YthabooeapfepnaaGreatDoor.Given
