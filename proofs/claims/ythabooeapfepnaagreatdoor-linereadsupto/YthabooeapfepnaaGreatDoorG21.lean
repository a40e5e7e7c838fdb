import Derived.Test.YthabooeapfepnaaGreatDoorG17
import Derived.Test.YthabooeapfepnaaGreatDoorG15
namespace Go.Proofs.YthabooeapfepnaaGreatDoor.PL
open Go.RowKit Go.Proofs.YthabooeapfepnaaGreatDoor.Given Go.Proofs.YthabooeapfepnaaGreatDoorW.PrintWords Go.Proofs.YthabooeapfepnaaGreatDoorW.PrintMore
set_option linter.unusedVariables false
set_option pp.maxSteps 1500
def qv (v : ByteArray) : List UInt8 := if Lib.containsAny (quoteL v.data.toList) [44, 59, 58] = true then 34 :: (quoteL v.data.toList ++ [34]) else quoteL v.data.toList
def valT (j : Nat) (v : ByteArray) : List UInt8 := (if j = 0 then 61 else 44) :: qv v
def valsN (vs : List ByteArray) (n : Nat) : List UInt8 := (List.range n).flatMap fun j => valT j (vs.getD j ByteArray.empty)
def parT (x : S31) : List UInt8 := 59 :: (x.f0.data.toList ++ valsN x.f1 x.f1.length)
def parsN (l : List S31) (n : Nat) : List UInt8 := (List.range n).flatMap fun i : Nat => parT (rd_T31 l (i : Int))
def headT (g n : ByteArray) : List UInt8 := if g.toList.isEmpty = true then n.data.toList else g.data.toList ++ 46 :: n.data.toList
def printT (g n : ByteArray) (l : List S31) (v : ByteArray) : List UInt8 := headT g n ++ (parsN l l.length ++ 58 :: v.data.toList)
def asksPrint (g n : ByteArray) (l : List S31) (v : ByteArray) : Bool :=
 asksLine g n l v && decide (checkB g n l v ≠ 0 ∨ (printT g n l v).length ≤ 4000000000) && l.all fun x => x.f1.all fun u => decide (u.size ≤ 1000000000)
def line_Print.f (a0_0 a0_1 : ByteArray) (l0_2 : List S31) (a0_3 : ByteArray) : Option (ByteArray × Int) :=
 if asksPrint a0_0 a0_1 l0_2 a0_3 = true then (if checkB a0_0 a0_1 l0_2 a0_3 = 0 then some (⟨(printT a0_0 a0_1 l0_2 a0_3).toArray⟩, 0) else some (⟨#[]⟩, checkB a0_0 a0_1 l0_2 a0_3)) else none
theorem valsN_succ (vs : List ByteArray) (n : Nat) : valsN vs (n + 1) = valsN vs n ++ valT n (vs.getD n ByteArray.empty) := by
 unfold valsN
 rw [List.range_succ, List.flatMap_append]
 simp
theorem parsN_succ (l : List S31) (n : Nat) : parsN l (n + 1) = parsN l n ++ parT (rd_T31 l (n : Int)) := by
 unfold parsN
 rw [List.range_succ, List.flatMap_append]
 simp
theorem valsN_le (vs : List ByteArray) : ∀ (n m : Nat), n ≤ m → (valsN vs n).length ≤ (valsN vs m).length
 | n, 0, h => by
  obtain rfl : n = 0 := by omega
  exact Nat.le_refl _
 | n, m + 1, h => by
  rcases Nat.lt_or_ge n (m + 1) with h1 | h1
  ·
   have := valsN_le vs n m (by omega)
   rw [valsN_succ, List.length_append]
   omega
  ·
   obtain rfl : n = m + 1 := by omega
   exact Nat.le_refl _
theorem parsN_le (l : List S31) : ∀ (n m : Nat), n ≤ m → (parsN l n).length ≤ (parsN l m).length
 | n, 0, h => by
  obtain rfl : n = 0 := by omega
  exact Nat.le_refl _
 | n, m + 1, h => by
  rcases Nat.lt_or_ge n (m + 1) with h1 | h1
  ·
   have := parsN_le l n m (by omega)
   rw [parsN_succ, List.length_append]
   omega
  ·
   obtain rfl : n = m + 1 := by omega
   exact Nat.le_refl _
theorem sign_ops (j : Nat) : ∃ (M b0 : Int) (C : ByteArray), (∀ ty (W : World), (Builtin.min_ #[3, 3] ty #[.int .i64 (j : Int), .int .i64 1]).run Tryz.prog W = .ok (.int .i64 M) W) ∧
  (∀ W : World, (Instr.index 9 (.string ⟨#[61, 44]⟩) (.int .i64 M)).run Tryz.prog W = .ok (.int .u8 b0) W) ∧ (∀ W : World, (convert 5 9 (.int .u8 b0)).run Tryz.prog W = .ok (.string C) W) ∧ C.data.toList = [if j = 0 then 61 else 44] := by
 by_cases h : j = 0
 ·
  subst h
  exact ⟨0, 61, ⟨#[61]⟩, fun _ _ => by kernel_rfl, fun _ => by kernel_rfl, fun _ => by kernel_rfl, rfl⟩
 ·
  refine ⟨1, 44, ⟨#[44]⟩, fun ty W => ?_, fun _ => by kernel_rfl, fun _ => by kernel_rfl, by rw [if_neg h]⟩
  rw [min_two, min2_int]
  by_cases h1 : (1 : Int) < j
  ·
   rw [if_pos h1]; rfl
  ·
   have : (j : Int) = 1 := by omega
   rw [if_neg h1, this]; rfl
theorem str_size (s : ByteArray) : s.data.toList.length = s.size := rfl
theorem app_data (a b : ByteArray) : (a ++ b).data.toList = a.data.toList ++ b.data.toList := by rw [ByteArray.data_append, Array.toList_append]
theorem range_le (l : List S31) (x : S31) (i : Nat) (hi : i < l.length) (hx : rd_T31 l (i : Int) = x) (j : Nat) (hj : j ≤ x.f1.length) :
  (parsN l i).length + 1 + x.f0.size + (valsN x.f1 j).length ≤ (parsN l l.length).length := by
 have h1 := parsN_le l (i + 1) l.length hi
 have h2 := valsN_le x.f1 j x.f1.length hj
 rw [parsN_succ, List.length_append, hx] at h1
 unfold parT at h1
 rw [List.length_cons, List.length_append, str_size] at h1
 omega
set_option maxRecDepth 100000 in
set_option maxHeartbeats 1000000 in
theorem line_Print.calls (a0_0 a0_1 : ByteArray) (A0_2 : Option Addr) (c0_2 : Nat) (l0_2 : List S31) (a0_3 : ByteArray) (r1 : ByteArray) (r2 : Int) (w : World) (hT : TabsW w) (hr0_2 : Kd.C k31 w A0_2 l0_2.length l0_2) (hc0_2 : l0_2.length ≤ c0_2) (h : line_Print.f a0_0 a0_1 l0_2 a0_3 = some (r1, r2)) :
  Calls Tryz.prog 17 #[.agg #[.string a0_0, .string a0_1, .slice A0_2 l0_2.length c0_2, .string a0_3]] w fun e w' => e = .returned (.tuple #[.string r1, .int .i64 r2]) ∧ Below w.heap.size w w' := by
 unfold line_Print.f at h
 split at h
 case isFalse => cases h
 rename_i hask
 unfold asksPrint at hask
 simp only [Bool.and_eq_true, decide_eq_true_eq, List.all_eq_true] at hask
 obtain ⟨⟨hal, hpl⟩, hus⟩ := hask
 have hck : line_check.f a0_0 a0_1 l0_2 a0_3 = some (checkB a0_0 a0_1 l0_2 a0_3) := by unfold line_check.f; rw [if_pos hal]
 have hll : l0_2.length ≤ 4000000000 := by
  unfold asksLine at hal
  simp only [Bool.and_eq_true, decide_eq_true_eq] at hal
  exact hal.1.1.1.1
 have hfl : ∀ x ∈ l0_2, x.f1.length ≤ 4000000000 := by
  unfold asksLine at hal
  simp only [Bool.and_eq_true, decide_eq_true_eq, List.all_eq_true] at hal
  exact fun x hx => (hal.2 x hx).1.2
 clear hal
 obtain ⟨W0, hW0⟩ : ∃ W0, W0 = w.alloc (.cells #[.string a0_0, .string a0_1, .slice A0_2 l0_2.length c0_2, .string a0_3] 25) := ⟨_, rfl⟩
 have B0 : BoxIs w a0_0 a0_1 (.slice A0_2 l0_2.length c0_2) a0_3 W0 := by rw [hW0]; exact ⟨bA (Below.refl _ w) _, blk_new w _⟩
 have cc := line_check.calls a0_0 a0_1 A0_2 c0_2 l0_2 a0_3 _ W0 (TabsW.below hT B0.below) (Kd.C_below hr0_2 B0.below) hc0_2 hck
 have H0 := Lib.hid B0
 rw [hW0] at cc
 have HALL := Lib.hid (And.intro hT (And.intro hr0_2 (And.intro hfl hus)))
 have HP := Lib.hid hpl
 by_cases hz : checkB a0_0 a0_1 l0_2 a0_3 = 0
 ·
  rw [if_pos hz] at h
  have h' := Option.some.inj h
  obtain rfl : _ = r1 := congrArg Prod.fst h'
  obtain rfl : _ = r2 := congrArg Prod.snd h'
  rw [hz] at cc
  have hlen : (printT a0_0 a0_1 l0_2 a0_3).length ≤ 4000000000 := by
   rcases hpl with h | h
   ·
    exact absurd hz h
   ·
    exact h
  have HLEN := Lib.hid hlen
  clear h h' hpl hus hfl hT hr0_2 hz hck hlen B0
  have B0 := H0.out
  rw [hW0] at B0
  have HB := Lib.hid B0
  clear B0 H0 hW0 HP
  go_enter Tryz.func17, Tryz.ntmps17
  --LOOPS
  go_wp2_with fail
  refine cc.mono ?_
  rintro e w1 ⟨rfl, hb⟩
  have HB1 := Lib.hid (HB.out.step hb)
  clear cc hb HB
  have x0 : w1.cell? ⟨w.heap.size, 0, none⟩ = some (.string a0_0) := (bkC HB1.out.box 0).trans rfl
  have x1 : w1.cell? ⟨w.heap.size, 1, none⟩ = some (.string a0_1) := (bkC HB1.out.box 1).trans rfl
  have hh0 : (headT a0_0 a0_1).length ≤ 4000000000 := by
   have h1 := HLEN.out
   unfold printT at h1
   rw [List.length_append] at h1
   omega
  cases hge : a0_0.toList.isEmpty
  ·
   have hhd : headT a0_0 a0_1 = a0_0.data.toList ++ 46 :: a0_1.data.toList := by unfold headT; rw [hge]; rfl
   have hsz : a0_0.size + 1 + a0_1.size ≤ 4000000000 := by
    rw [hhd, List.length_append, List.length_cons, str_size, str_size] at hh0
    omega
   have m10 : (a0_0.size + 1 ≤ 9223372036854775807) = True := eq_true (by omega)
   have m11 : decide (a0_0.size + 1 ≤ 9223372036854775807) = true := decide_eq_true (by omega)
   have m12 : (9223372036854775807 < a0_0.size + 1) = False := eq_false (by omega)
   have m20 : (a0_0.size + 1 + a0_1.size ≤ 9223372036854775807) = True := eq_true (by omega)
   have m21 : decide (a0_0.size + 1 + a0_1.size ≤ 9223372036854775807) = true := decide_eq_true (by omega)
   have m22 : (9223372036854775807 < a0_0.size + 1 + a0_1.size) = False := eq_false (by omega)
   have hs0 : (a0_0 ++ (⟨#[46]⟩ : ByteArray) ++ a0_1).data.toList = headT a0_0 a0_1 ++ parsN l0_2 0 := by
    rw [app_data, app_data, hhd]
    simp [parsN]
   have HS0 := Lib.hid hs0
   clear hs0 hhd hsz hh0
   have x2 : w1.cell? ⟨w.heap.size, 2, none⟩ = some (.slice A0_2 l0_2.length c0_2) := (bkC HB1.out.box 2).trans rfl
   go_wp2_with fail
   clear x0 x1 x2
   go_loopg [5, 28] l0_2.length (fun m s5 s28 wx => ∃ (i : Nat) (s : ByteArray), i + m = l0_2.length ∧ s28 = .int .i64 (i : Int) ∧ s5 = .string s ∧ s.data.toList = headT a0_0 a0_1 ++ parsN l0_2 i ∧ BoxIs w a0_0 a0_1 (.slice A0_2 l0_2.length c0_2) a0_3 wx)
   case atStart => exact ⟨0, _, by omega, rfl, rfl, HS0.out, HB1.out⟩
   case round =>
    obtain ⟨i, s, hin, rfl, rfl, hs, hB⟩ := hrel
    cases gk with
    | zero =>
     obtain rfl : i = l0_2.length := by omega
     have x3 : wr.cell? ⟨w.heap.size, 3, none⟩ = some (.string a0_3) := (bkC hB.box 3).trans rfl
     have hz1 : s.size + 1 + a0_3.size ≤ 4000000000 := by
      have h1 := HLEN.out
      unfold printT at h1
      rw [List.length_append, List.length_append, List.length_cons, str_size] at h1
      rw [← str_size s, hs, List.length_append]
      omega
     have m10 : (s.size + 1 ≤ 9223372036854775807) = True := eq_true (by omega)
     have m11 : decide (s.size + 1 ≤ 9223372036854775807) = true := decide_eq_true (by omega)
     have m12 : (9223372036854775807 < s.size + 1) = False := eq_false (by omega)
     have m20 : (s.size + 1 + a0_3.size ≤ 9223372036854775807) = True := eq_true (by omega)
     have m21 : decide (s.size + 1 + a0_3.size ≤ 9223372036854775807) = true := decide_eq_true (by omega)
     have m22 : (9223372036854775807 < s.size + 1 + a0_3.size) = False := eq_false (by omega)
     have hfin : s ++ (⟨#[58]⟩ : ByteArray) ++ a0_3 = ⟨(printT a0_0 a0_1 l0_2 a0_3).toArray⟩ := by
      apply Go.WideShapes.bytes_inj
      rw [app_data, app_data, hs]
      unfold printT
      simp
     have HE := Lib.hid (And.intro hfin hB)
     clear hs hB hz1 hfin
     go_wp2_with fail
     go_ret2
     exact ⟨by rw [← HE.out.1]; rfl, HE.out.2.below⟩
    | succ m =>
     have hi : i < l0_2.length := by omega
     have hiz : (i : Int) < l0_2.length := by omega
     have hi0 : (0 : Int) ≤ i := by omega
     have wri : IntKind.i64.wrap ((i : Int) + 1) = (i : Int) + 1 := IntWalk.i64_in _ (by omega)
     obtain ⟨x, hx⟩ : ∃ x, rd_T31 l0_2 (i : Int) = x := ⟨_, rfl⟩
     have hmem : x ∈ l0_2 := by
      rw [← hx]; unfold rd_T31
      rw [Int.toNat_natCast, List.getD_eq_getElem?_getD, List.getElem?_eq_getElem hi]
      exact List.getElem_mem hi
     obtain ⟨ad, A1, d1, e1, hc0, hc1, hl1, hg1⟩ := at_T31 (Kd.C_below HALL.out.2.1 hB.below) (i : Int) hi0 hiz
     subst e1
     rw [hx, Int.toNat_natCast] at hc0 hc1
     rw [hx] at hg1 hl1
     have hfl : x.f1.length ≤ 4000000000 := HALL.out.2.2.1 x hmem
     have hps : (headT a0_0 a0_1).length + (parsN l0_2 l0_2.length).length ≤ 4000000000 := by
      have h1 := HLEN.out
      unfold printT at h1
      rw [List.length_append, List.length_append] at h1
      omega
     have hz1 : s.size + 1 + x.f0.size ≤ 4000000000 := by
      have h2 := range_le l0_2 x i hi hx 0 (by omega)
      rw [← str_size s, hs, List.length_append]
      omega
     have m10 : (1 + x.f0.size ≤ 9223372036854775807) = True := eq_true (by omega)
     have m11 : decide (1 + x.f0.size ≤ 9223372036854775807) = true := decide_eq_true (by omega)
     have m12 : (9223372036854775807 < 1 + x.f0.size) = False := eq_false (by omega)
     have m20 : (s.size + (1 + x.f0.size) ≤ 9223372036854775807) = True := eq_true (by omega)
     have m21 : decide (s.size + (1 + x.f0.size) ≤ 9223372036854775807) = true := decide_eq_true (by omega)
     have m22 : (9223372036854775807 < s.size + (1 + x.f0.size)) = False := eq_false (by omega)
     have HX := Lib.hid (And.intro hs (And.intro hB (And.intro hx (And.intro hmem (And.intro hg1 hps)))))
     clear hs hB hx hmem hg1 hl1 hps hz1
     go_wp2_with fail
     clear m10 m11 m12 m20 m21 m22
     go_loopg [5, 40] x.f1.length (fun q s5 s40 wy => ∃ (j : Nat) (u : ByteArray), j + q = x.f1.length ∧ s40 = .int .i64 (j : Int) ∧ s5 = .string u ∧ u.data.toList = headT a0_0 a0_1 ++ (parsN l0_2 i ++ 59 :: (x.f0.data.toList ++ valsN x.f1 j)) ∧ Below wr.heap.size wr wy)
     case atStart => exact ⟨0, _, by omega, rfl, rfl, by rw [app_data, app_data, HX.out.1]; simp [valsN], bA (Below.refl _ wr) _⟩
     case round =>
      obtain ⟨j, s, hjn, rfl, rfl, hs, hBy⟩ := hrel
      cases gk with
      | zero =>
       obtain rfl : j = x.f1.length := by omega
       have HY := Lib.hid (And.intro hs hBy)
       clear hs hBy
       go_wp2_with fail
       go_roundg m
       case measure => omega
       case rel =>
        refine ⟨i + 1, s, by omega, rfl, rfl, ?_, HX.out.2.1.step HY.out.2⟩
        rw [HY.out.1, parsN_succ, HX.out.2.2.1]
        unfold parT
        simp
      | succ q =>
       have hj : j < x.f1.length := by omega
       have hjz : (j : Int) < x.f1.length := by omega
       have hj0 : (0 : Int) ≤ j := by omega
       have wrj : IntKind.i64.wrap ((j : Int) + 1) = (j : Int) + 1 := IntWalk.i64_in _ (by omega)
       obtain ⟨b, o, rfl, hcs⟩ := str_cells (Kd.C_below HX.out.2.2.2.2.1 hBy) (by omega)
       have hcj := hcs j hj
       obtain ⟨u, hu⟩ : ∃ u, x.f1.getD j ByteArray.empty = u := ⟨_, rfl⟩
       rw [hu] at hcj
       have humem : u ∈ x.f1 := by
        rw [← hu, List.getD_eq_getElem?_getD, List.getElem?_eq_getElem hj]
        exact List.getElem_mem hj
       have huz : u.size ≤ 1000000000 := HALL.out.2.2.2 x HX.out.2.2.2.1 u humem
       have hzz : s.size + 1 + (qv u).length ≤ 4000000000 := by
        have h2 := range_le l0_2 x i hi HX.out.2.2.1 (j + 1) hj
        rw [valsN_succ, List.length_append, hu] at h2
        unfold valT at h2
        rw [List.length_cons] at h2
        have h3 := HX.out.2.2.2.2.2
        rw [← str_size s, hs, List.length_append, List.length_append, List.length_cons, List.length_append, str_size]
        omega
       obtain ⟨Z, hZ⟩ : ∃ Z : ByteArray, Z = ⟨(quoteL u.data.toList).toArray⟩ := ⟨_, rfl⟩
       have hZd : Z.data.toList = quoteL u.data.toList := by rw [hZ]
       have hZz : Z.size ≤ 4000000000 := by
        rw [← str_size Z, hZd, quoteL_length]
        have := List.countP_le_length (p := sp) (l := u.data.toList)
        rw [str_size] at *
        omega
       have hca : strings_ContainsAny.f Z (⟨#[44, 59, 58]⟩ : ByteArray) = some (Lib.containsAny (quoteL u.data.toList) [44, 59, 58]) := by
        unfold strings_ContainsAny.f
        rw [if_pos ⟨hZz, by decide⟩, hZd]
       have HQ := Lib.hid (And.intro hs (And.intro hBy (And.intro hu (And.intro hZd (And.intro hca hzz)))))
       have HZ := Lib.hid hZ
       have HC := Lib.hid (fun W => pairs_true W)
       clear hs hBy hu hcs humem hzz hca hZd hZ
       go_wp2_with fail
       refine (HC.out _).mono ?_
       rintro e w2 ⟨R, rfl, hN, hb2⟩
       have cr := replace_bytes R u _ w2 (by omega) hN hb2
       rw [← HZ.out] at cr
       have HC := Lib.hid hb2
       clear hN hb2
       go_wp2_with fail
       refine cr.mono ?_
       rintro e w3 ⟨rfl, hb3⟩
       have HB3 := Lib.hid (bT HQ.out.2.1 hb3)
       clear cr hb3 HC
       have ca := strings_ContainsAny.calls Z (⟨#[44, 59, 58]⟩ : ByteArray) _ w3 HQ.out.2.2.2.2.1
       cases hq : Lib.containsAny (quoteL u.data.toList) [44, 59, 58]
       ·
        rw [hq] at ca
        have hqv : qv u = Z.data.toList := by unfold qv; rw [hq, HQ.out.2.2.2.1]; rfl
        have hz3 : s.size + 1 + Z.size ≤ 4000000000 := by
         have := HQ.out.2.2.2.2.2
         rw [hqv, str_size] at this
         exact this
        have HV := Lib.hid hqv
        clear hq hqv
        go_wp2_with fail
        refine ca.mono ?_
        rintro e w4 ⟨rfl, hb4⟩
        have HB4 := Lib.hid (bT HB3.out hb4)
        clear ca hb4 HB3
        obtain ⟨M, b0, C, hmin, hix, hcv, hC⟩ := sign_ops j
        have hCz : C.size = 1 := by rw [← str_size C, hC]; rfl
        have m10 : (C.size + Z.size ≤ 9223372036854775807) = True := eq_true (by omega)
        have m11 : decide (C.size + Z.size ≤ 9223372036854775807) = true := decide_eq_true (by omega)
        have m12 : (9223372036854775807 < C.size + Z.size) = False := eq_false (by omega)
        have m20 : (s.size + (C.size + Z.size) ≤ 9223372036854775807) = True := eq_true (by omega)
        have m21 : decide (s.size + (C.size + Z.size) ≤ 9223372036854775807) = true := decide_eq_true (by omega)
        have m22 : (9223372036854775807 < s.size + (C.size + Z.size)) = False := eq_false (by omega)
        have HCC := Lib.hid (And.intro hC hCz)
        clear hC hCz hz3
        go_wp2_with fail
        go_roundg q
        case measure => omega
        case rel =>
         refine ⟨j + 1, _, by omega, rfl, rfl, ?_, HB4.out⟩
         rw [app_data, app_data, HQ.out.1, HCC.out.1, ← HV.out, valsN_succ, HQ.out.2.2.1]
         unfold valT
         by_cases h0 : j = 0 <;> simp [h0]
       ·
        rw [hq] at ca
        have hqv : qv u = 34 :: (Z.data.toList ++ [34]) := by unfold qv; rw [hq, HQ.out.2.2.2.1]; rfl
        have hz3 : s.size + 1 + (1 + Z.size + 1) ≤ 4000000000 := by
         have := HQ.out.2.2.2.2.2
         rw [hqv, List.length_cons, List.length_append, str_size] at this
         simp only [List.length_cons, List.length_nil] at this
         omega
        have HV := Lib.hid hqv
        clear hq hqv
        obtain ⟨M, b0, C, hmin, hix, hcv, hC⟩ := sign_ops j
        have hCz : C.size = 1 := by rw [← str_size C, hC]; rfl
        have m10 : (1 + Z.size ≤ 9223372036854775807) = True := eq_true (by omega)
        have m11 : decide (1 + Z.size ≤ 9223372036854775807) = true := decide_eq_true (by omega)
        have m12 : (9223372036854775807 < 1 + Z.size) = False := eq_false (by omega)
        have m20 : (1 + Z.size + 1 ≤ 9223372036854775807) = True := eq_true (by omega)
        have m21 : decide (1 + Z.size + 1 ≤ 9223372036854775807) = true := decide_eq_true (by omega)
        have m22 : (9223372036854775807 < 1 + Z.size + 1) = False := eq_false (by omega)
        have m30 : (C.size + (1 + Z.size + 1) ≤ 9223372036854775807) = True := eq_true (by omega)
        have m31 : decide (C.size + (1 + Z.size + 1) ≤ 9223372036854775807) = true := decide_eq_true (by omega)
        have m32 : (9223372036854775807 < C.size + (1 + Z.size + 1)) = False := eq_false (by omega)
        have m40 : (s.size + (C.size + (1 + Z.size + 1)) ≤ 9223372036854775807) = True := eq_true (by omega)
        have m41 : decide (s.size + (C.size + (1 + Z.size + 1)) ≤ 9223372036854775807) = true := decide_eq_true (by omega)
        have m42 : (9223372036854775807 < s.size + (C.size + (1 + Z.size + 1))) = False := eq_false (by omega)
        have HCC := Lib.hid (And.intro hC hCz)
        clear hC hCz hz3
        go_wp2_with fail
        refine ca.mono ?_
        rintro e w4 ⟨rfl, hb4⟩
        have HB4 := Lib.hid (bT HB3.out hb4)
        clear ca hb4 HB3
        go_wp2_with fail
        go_roundg q
        case measure => omega
        case rel =>
         refine ⟨j + 1, _, by omega, rfl, rfl, ?_, HB4.out⟩
         rw [app_data, app_data, app_data, app_data, HQ.out.1, HCC.out.1, valsN_succ, HQ.out.2.2.1]
         unfold valT
         rw [HV.out]
         by_cases h0 : j = 0 <;> simp [h0]
  ·
   have hhd : headT a0_0 a0_1 = a0_1.data.toList := by unfold headT; rw [hge]; rfl
   have hs0 : a0_1.data.toList = headT a0_0 a0_1 ++ parsN l0_2 0 := by
    rw [hhd]
    simp [parsN]
   have HS0 := Lib.hid hs0
   clear hs0 hhd hh0
   have x2 : w1.cell? ⟨w.heap.size, 2, none⟩ = some (.slice A0_2 l0_2.length c0_2) := (bkC HB1.out.box 2).trans rfl
   go_wp2_with fail
   clear x0 x1 x2
   go_loopg [5, 28] l0_2.length (fun m s5 s28 wx => ∃ (i : Nat) (s : ByteArray), i + m = l0_2.length ∧ s28 = .int .i64 (i : Int) ∧ s5 = .string s ∧ s.data.toList = headT a0_0 a0_1 ++ parsN l0_2 i ∧ BoxIs w a0_0 a0_1 (.slice A0_2 l0_2.length c0_2) a0_3 wx)
   case atStart => exact ⟨0, _, by omega, rfl, rfl, HS0.out, HB1.out⟩
   case round =>
    obtain ⟨i, s, hin, rfl, rfl, hs, hB⟩ := hrel
    cases gk with
    | zero =>
     obtain rfl : i = l0_2.length := by omega
     have x3 : wr.cell? ⟨w.heap.size, 3, none⟩ = some (.string a0_3) := (bkC hB.box 3).trans rfl
     have hz1 : s.size + 1 + a0_3.size ≤ 4000000000 := by
      have h1 := HLEN.out
      unfold printT at h1
      rw [List.length_append, List.length_append, List.length_cons, str_size] at h1
      rw [← str_size s, hs, List.length_append]
      omega
     have m10 : (s.size + 1 ≤ 9223372036854775807) = True := eq_true (by omega)
     have m11 : decide (s.size + 1 ≤ 9223372036854775807) = true := decide_eq_true (by omega)
     have m12 : (9223372036854775807 < s.size + 1) = False := eq_false (by omega)
     have m20 : (s.size + 1 + a0_3.size ≤ 9223372036854775807) = True := eq_true (by omega)
     have m21 : decide (s.size + 1 + a0_3.size ≤ 9223372036854775807) = true := decide_eq_true (by omega)
     have m22 : (9223372036854775807 < s.size + 1 + a0_3.size) = False := eq_false (by omega)
     have hfin : s ++ (⟨#[58]⟩ : ByteArray) ++ a0_3 = ⟨(printT a0_0 a0_1 l0_2 a0_3).toArray⟩ := by
      apply Go.WideShapes.bytes_inj
      rw [app_data, app_data, hs]
      unfold printT
      simp
     have HE := Lib.hid (And.intro hfin hB)
     clear hs hB hz1 hfin
     go_wp2_with fail
     go_ret2
     exact ⟨by rw [← HE.out.1]; rfl, HE.out.2.below⟩
    | succ m =>
     have hi : i < l0_2.length := by omega
     have hiz : (i : Int) < l0_2.length := by omega
     have hi0 : (0 : Int) ≤ i := by omega
     have wri : IntKind.i64.wrap ((i : Int) + 1) = (i : Int) + 1 := IntWalk.i64_in _ (by omega)
     obtain ⟨x, hx⟩ : ∃ x, rd_T31 l0_2 (i : Int) = x := ⟨_, rfl⟩
     have hmem : x ∈ l0_2 := by
      rw [← hx]; unfold rd_T31
      rw [Int.toNat_natCast, List.getD_eq_getElem?_getD, List.getElem?_eq_getElem hi]
      exact List.getElem_mem hi
     obtain ⟨ad, A1, d1, e1, hc0, hc1, hl1, hg1⟩ := at_T31 (Kd.C_below HALL.out.2.1 hB.below) (i : Int) hi0 hiz
     subst e1
     rw [hx, Int.toNat_natCast] at hc0 hc1
     rw [hx] at hg1 hl1
     have hfl : x.f1.length ≤ 4000000000 := HALL.out.2.2.1 x hmem
     have hps : (headT a0_0 a0_1).length + (parsN l0_2 l0_2.length).length ≤ 4000000000 := by
      have h1 := HLEN.out
      unfold printT at h1
      rw [List.length_append, List.length_append] at h1
      omega
     have hz1 : s.size + 1 + x.f0.size ≤ 4000000000 := by
      have h2 := range_le l0_2 x i hi hx 0 (by omega)
      rw [← str_size s, hs, List.length_append]
      omega
     have m10 : (1 + x.f0.size ≤ 9223372036854775807) = True := eq_true (by omega)
     have m11 : decide (1 + x.f0.size ≤ 9223372036854775807) = true := decide_eq_true (by omega)
     have m12 : (9223372036854775807 < 1 + x.f0.size) = False := eq_false (by omega)
     have m20 : (s.size + (1 + x.f0.size) ≤ 9223372036854775807) = True := eq_true (by omega)
     have m21 : decide (s.size + (1 + x.f0.size) ≤ 9223372036854775807) = true := decide_eq_true (by omega)
     have m22 : (9223372036854775807 < s.size + (1 + x.f0.size)) = False := eq_false (by omega)
     have HX := Lib.hid (And.intro hs (And.intro hB (And.intro hx (And.intro hmem (And.intro hg1 hps)))))
     clear hs hB hx hmem hg1 hl1 hps hz1
     go_wp2_with fail
     clear m10 m11 m12 m20 m21 m22
     go_loopg [5, 40] x.f1.length (fun q s5 s40 wy => ∃ (j : Nat) (u : ByteArray), j + q = x.f1.length ∧ s40 = .int .i64 (j : Int) ∧ s5 = .string u ∧ u.data.toList = headT a0_0 a0_1 ++ (parsN l0_2 i ++ 59 :: (x.f0.data.toList ++ valsN x.f1 j)) ∧ Below wr.heap.size wr wy)
     case atStart => exact ⟨0, _, by omega, rfl, rfl, by rw [app_data, app_data, HX.out.1]; simp [valsN], bA (Below.refl _ wr) _⟩
     case round =>
      obtain ⟨j, s, hjn, rfl, rfl, hs, hBy⟩ := hrel
      cases gk with
      | zero =>
       obtain rfl : j = x.f1.length := by omega
       have HY := Lib.hid (And.intro hs hBy)
       clear hs hBy
       go_wp2_with fail
       go_roundg m
       case measure => omega
       case rel =>
        refine ⟨i + 1, s, by omega, rfl, rfl, ?_, HX.out.2.1.step HY.out.2⟩
        rw [HY.out.1, parsN_succ, HX.out.2.2.1]
        unfold parT
        simp
      | succ q =>
       have hj : j < x.f1.length := by omega
       have hjz : (j : Int) < x.f1.length := by omega
       have hj0 : (0 : Int) ≤ j := by omega
       have wrj : IntKind.i64.wrap ((j : Int) + 1) = (j : Int) + 1 := IntWalk.i64_in _ (by omega)
       obtain ⟨b, o, rfl, hcs⟩ := str_cells (Kd.C_below HX.out.2.2.2.2.1 hBy) (by omega)
       have hcj := hcs j hj
       obtain ⟨u, hu⟩ : ∃ u, x.f1.getD j ByteArray.empty = u := ⟨_, rfl⟩
       rw [hu] at hcj
       have humem : u ∈ x.f1 := by
        rw [← hu, List.getD_eq_getElem?_getD, List.getElem?_eq_getElem hj]
        exact List.getElem_mem hj
       have huz : u.size ≤ 1000000000 := HALL.out.2.2.2 x HX.out.2.2.2.1 u humem
       have hzz : s.size + 1 + (qv u).length ≤ 4000000000 := by
        have h2 := range_le l0_2 x i hi HX.out.2.2.1 (j + 1) hj
        rw [valsN_succ, List.length_append, hu] at h2
        unfold valT at h2
        rw [List.length_cons] at h2
        have h3 := HX.out.2.2.2.2.2
        rw [← str_size s, hs, List.length_append, List.length_append, List.length_cons, List.length_append, str_size]
        omega
       obtain ⟨Z, hZ⟩ : ∃ Z : ByteArray, Z = ⟨(quoteL u.data.toList).toArray⟩ := ⟨_, rfl⟩
       have hZd : Z.data.toList = quoteL u.data.toList := by rw [hZ]
       have hZz : Z.size ≤ 4000000000 := by
        rw [← str_size Z, hZd, quoteL_length]
        have := List.countP_le_length (p := sp) (l := u.data.toList)
        rw [str_size] at *
        omega
       have hca : strings_ContainsAny.f Z (⟨#[44, 59, 58]⟩ : ByteArray) = some (Lib.containsAny (quoteL u.data.toList) [44, 59, 58]) := by
        unfold strings_ContainsAny.f
        rw [if_pos ⟨hZz, by decide⟩, hZd]
       have HQ := Lib.hid (And.intro hs (And.intro hBy (And.intro hu (And.intro hZd (And.intro hca hzz)))))
       have HZ := Lib.hid hZ
       have HC := Lib.hid (fun W => pairs_true W)
       clear hs hBy hu hcs humem hzz hca hZd hZ
       go_wp2_with fail
       refine (HC.out _).mono ?_
       rintro e w2 ⟨R, rfl, hN, hb2⟩
       have cr := replace_bytes R u _ w2 (by omega) hN hb2
       rw [← HZ.out] at cr
       have HC := Lib.hid hb2
       clear hN hb2
       go_wp2_with fail
       refine cr.mono ?_
       rintro e w3 ⟨rfl, hb3⟩
       have HB3 := Lib.hid (bT HQ.out.2.1 hb3)
       clear cr hb3 HC
       have ca := strings_ContainsAny.calls Z (⟨#[44, 59, 58]⟩ : ByteArray) _ w3 HQ.out.2.2.2.2.1
       cases hq : Lib.containsAny (quoteL u.data.toList) [44, 59, 58]
       ·
        rw [hq] at ca
        have hqv : qv u = Z.data.toList := by unfold qv; rw [hq, HQ.out.2.2.2.1]; rfl
        have hz3 : s.size + 1 + Z.size ≤ 4000000000 := by
         have := HQ.out.2.2.2.2.2
         rw [hqv, str_size] at this
         exact this
        have HV := Lib.hid hqv
        clear hq hqv
        go_wp2_with fail
        refine ca.mono ?_
        rintro e w4 ⟨rfl, hb4⟩
        have HB4 := Lib.hid (bT HB3.out hb4)
        clear ca hb4 HB3
        obtain ⟨M, b0, C, hmin, hix, hcv, hC⟩ := sign_ops j
        have hCz : C.size = 1 := by rw [← str_size C, hC]; rfl
        have m10 : (C.size + Z.size ≤ 9223372036854775807) = True := eq_true (by omega)
        have m11 : decide (C.size + Z.size ≤ 9223372036854775807) = true := decide_eq_true (by omega)
        have m12 : (9223372036854775807 < C.size + Z.size) = False := eq_false (by omega)
        have m20 : (s.size + (C.size + Z.size) ≤ 9223372036854775807) = True := eq_true (by omega)
        have m21 : decide (s.size + (C.size + Z.size) ≤ 9223372036854775807) = true := decide_eq_true (by omega)
        have m22 : (9223372036854775807 < s.size + (C.size + Z.size)) = False := eq_false (by omega)
        have HCC := Lib.hid (And.intro hC hCz)
        clear hC hCz hz3
        go_wp2_with fail
        go_roundg q
        case measure => omega
        case rel =>
         refine ⟨j + 1, _, by omega, rfl, rfl, ?_, HB4.out⟩
         rw [app_data, app_data, HQ.out.1, HCC.out.1, ← HV.out, valsN_succ, HQ.out.2.2.1]
         unfold valT
         by_cases h0 : j = 0 <;> simp [h0]
       ·
        rw [hq] at ca
        have hqv : qv u = 34 :: (Z.data.toList ++ [34]) := by unfold qv; rw [hq, HQ.out.2.2.2.1]; rfl
        have hz3 : s.size + 1 + (1 + Z.size + 1) ≤ 4000000000 := by
         have := HQ.out.2.2.2.2.2
         rw [hqv, List.length_cons, List.length_append, str_size] at this
         simp only [List.length_cons, List.length_nil] at this
         omega
        have HV := Lib.hid hqv
        clear hq hqv
        obtain ⟨M, b0, C, hmin, hix, hcv, hC⟩ := sign_ops j
        have hCz : C.size = 1 := by rw [← str_size C, hC]; rfl
        have m10 : (1 + Z.size ≤ 9223372036854775807) = True := eq_true (by omega)
        have m11 : decide (1 + Z.size ≤ 9223372036854775807) = true := decide_eq_true (by omega)
        have m12 : (9223372036854775807 < 1 + Z.size) = False := eq_false (by omega)
        have m20 : (1 + Z.size + 1 ≤ 9223372036854775807) = True := eq_true (by omega)
        have m21 : decide (1 + Z.size + 1 ≤ 9223372036854775807) = true := decide_eq_true (by omega)
        have m22 : (9223372036854775807 < 1 + Z.size + 1) = False := eq_false (by omega)
        have m30 : (C.size + (1 + Z.size + 1) ≤ 9223372036854775807) = True := eq_true (by omega)
        have m31 : decide (C.size + (1 + Z.size + 1) ≤ 9223372036854775807) = true := decide_eq_true (by omega)
        have m32 : (9223372036854775807 < C.size + (1 + Z.size + 1)) = False := eq_false (by omega)
        have m40 : (s.size + (C.size + (1 + Z.size + 1)) ≤ 9223372036854775807) = True := eq_true (by omega)
        have m41 : decide (s.size + (C.size + (1 + Z.size + 1)) ≤ 9223372036854775807) = true := decide_eq_true (by omega)
        have m42 : (9223372036854775807 < s.size + (C.size + (1 + Z.size + 1))) = False := eq_false (by omega)
        have HCC := Lib.hid (And.intro hC hCz)
        clear hC hCz hz3
        go_wp2_with fail
        refine ca.mono ?_
        rintro e w4 ⟨rfl, hb4⟩
        have HB4 := Lib.hid (bT HB3.out hb4)
        clear ca hb4 HB3
        go_wp2_with fail
        go_roundg q
        case measure => omega
        case rel =>
         refine ⟨j + 1, _, by omega, rfl, rfl, ?_, HB4.out⟩
         rw [app_data, app_data, app_data, app_data, HQ.out.1, HCC.out.1, valsN_succ, HQ.out.2.2.1]
         unfold valT
         rw [HV.out]
         by_cases h0 : j = 0 <;> simp [h0]
  --ENDLOOPS
 ·
  rw [if_neg hz] at h
  have h' := Option.some.inj h
  obtain rfl : _ = r1 := congrArg Prod.fst h'
  obtain rfl : _ = r2 := congrArg Prod.snd h'
  obtain ⟨E, hE⟩ : ∃ E, E = checkB a0_0 a0_1 l0_2 a0_3 := ⟨_, rfl⟩
  rw [← hE] at cc hz ⊢
  have hz1 : (E == 0) = false := beq_eq_false_iff_ne.mpr hz
  have hz2 : (E != 0) = true := bne_iff_ne.mpr hz
  clear h h' hpl hus hfl hT hr0_2 hz hck hE B0
  have B0 := H0.out
  rw [hW0] at B0
  have HB := Lib.hid B0
  clear B0 H0 hW0 HP
  go_enter Tryz.func17, Tryz.ntmps17
  go_wp2_with fail
  refine cc.mono ?_
  rintro e w1 ⟨rfl, hb⟩
  have HB1 := Lib.hid (HB.out.step hb)
  clear cc hb
  go_wp2_with fail
  go_ret2
  exact ⟨rfl, HB1.out.below⟩
end Go.Proofs.YthabooeapfepnaaGreatDoor.PL
