import Derived.Test.YthabooeapfepnaaGreatDoorPLx0
import Derived.Test.YthabooeapfepnaaGreatDoorPLx9
namespace Go.Proofs.YthabooeapfepnaaGreatDoor.PL
open Go.RowKit Go.Proofs.YthabooeapfepnaaGreatDoor.Given Go.Proofs.YthabooeapfepnaaGreatDoorW.PrintWords Go.Proofs.YthabooeapfepnaaGreatDoorW.PrintLast Go.Proofs.YthabooeapfepnaaGreatDoorW.PrintMore
attribute [local go_sem] max2_int min2_int max_two min_two max_three min_three max_four min_four   -- for this text's walks alone
set_option linter.unusedVariables false
set_option linter.unusedSimpArgs false
mutual
def rPr.j0 : Nat → ByteArray → ByteArray → ByteArray → List (S31) → ByteArray → Option (ByteArray)
 | 0, _, _, _, _, _ => none
 | k + 1, x3, x325000, x325001, x325002, x325003 => rPr.l0 k x3 x325002 (x325002.length : Int) 0 x325000 x325001 x325002 x325003
def rPr.l0 : Nat → ByteArray → List (S31) → Int → Int → ByteArray → ByteArray → List (S31) → ByteArray → Option (ByteArray)
 | 0, _, _, _, _, _, _, _, _ => none
 | k + 1, x3, x23, x24, x25, x325000, x325001, x325002, x325003 => if x25 < x24 then (if 0 ≤ x25 then (if x25 < (x23.length : Int) then (if 1 + ((rd_T31 x23 x25).f0).size ≤ 9223372036854775807 then (if 1 + ((rd_T31 x23 x25).f0).size + 1 ≤ 9223372036854775807 then (if x3.size + 1 + ((rd_T31 x23 x25).f0).size + 1 ≤ 9223372036854775807 then (rPr.l1 k (x3 ++ (((⟨#[59]⟩ : ByteArray) ++ ((rd_T31 x23 x25).f0)) ++ (⟨#[61]⟩ : ByteArray))) x23 x24 x25 ((rd_T31 x23 x25).f1) (((rd_T31 x23 x25).f1).length : Int) 0 x325000 x325001 x325002 x325003) else (none)) else (none)) else (none)) else (none)) else (none)) else (if x3.size + 1 ≤ 9223372036854775807 then (if x3.size + 1 + x325003.size ≤ 9223372036854775807 then (some ((x3 ++ (⟨#[58]⟩ : ByteArray)) ++ x325003)) else (none)) else (none))
def rPr.l1 : Nat → ByteArray → List (S31) → Int → Int → List ByteArray → Int → Int → ByteArray → ByteArray → List (S31) → ByteArray → Option (ByteArray)
 | 0, _, _, _, _, _, _, _, _, _, _, _ => none
 | k + 1, x3, x23, x24, x25, x36, x37, x38, x325000, x325001, x325002, x325003 => if x38 < x37 then (if 0 ≤ x38 then (if x38 < (x36.length : Int) then (if x38 > 0 then (if x3.size + 1 ≤ 9223372036854775807 then (rPr.j3 k (x3 ++ (⟨#[44]⟩ : ByteArray)) (rdOf ByteArray.empty x36 x38) x23 x24 x25 x36 x37 x38 x325000 x325001 x325002 x325003) else (none)) else (rPr.j3 k x3 (rdOf ByteArray.empty x36 x38) x23 x24 x25 x36 x37 x38 x325000 x325001 x325002 x325003)) else (none)) else (none)) else (rPr.l0 k x3 x23 x24 (wrap64 (x25 + 1)) x325000 x325001 x325002 x325003)
def rPr.j3 : Nat → ByteArray → ByteArray → List (S31) → Int → Int → List ByteArray → Int → Int → ByteArray → ByteArray → List (S31) → ByteArray → Option (ByteArray)
 | 0, _, _, _, _, _, _, _, _, _, _, _, _ => none
 | k + 1, x3, x7, x23, x24, x25, x36, x37, x38, x325000, x325001, x325002, x325003 => rPr.l2 k x3 x7 (⟨#[]⟩ : ByteArray) 0 x23 x24 x25 x36 x37 x38 x325000 x325001 x325002 x325003
def rPr.l2 : Nat → ByteArray → ByteArray → ByteArray → Int → List (S31) → Int → Int → List ByteArray → Int → Int → ByteArray → ByteArray → List (S31) → ByteArray → Option (ByteArray)
 | 0, _, _, _, _, _, _, _, _, _, _, _, _, _, _ => none
 | k + 1, x3, x7, x8, x9, x23, x24, x25, x36, x37, x38, x325000, x325001, x325002, x325003 => if x9 < (x7.size : Int) then (if 0 ≤ x9 then (if (bt x7 x9) = 10 then (if x8.size + 2 ≤ 9223372036854775807 then (rPr.l2 k x3 x7 (x8 ++ (⟨#[94, 110]⟩ : ByteArray)) (wrap64 (x9 + 1)) x23 x24 x25 x36 x37 x38 x325000 x325001 x325002 x325003) else (none)) else (if (bt x7 x9) = 94 then (if x8.size + 2 ≤ 9223372036854775807 then (rPr.l2 k x3 x7 (x8 ++ (⟨#[94, 94]⟩ : ByteArray)) (wrap64 (x9 + 1)) x23 x24 x25 x36 x37 x38 x325000 x325001 x325002 x325003) else (none)) else (if (bt x7 x9) = 34 then (if x8.size + 2 ≤ 9223372036854775807 then (rPr.l2 k x3 x7 (x8 ++ (⟨#[94, 39]⟩ : ByteArray)) (wrap64 (x9 + 1)) x23 x24 x25 x36 x37 x38 x325000 x325001 x325002 x325003) else (none)) else (if x9 ≤ (wrap64 (x9 + 1)) then (if (wrap64 (x9 + 1)) ≤ (x7.size : Int) then (if x8.size + (x7.extract (x9 : Int).toNat ((wrap64 (x9 + 1)) : Int).toNat).size ≤ 9223372036854775807 then (rPr.l2 k x3 x7 (x8 ++ (x7.extract (x9 : Int).toNat ((wrap64 (x9 + 1)) : Int).toNat)) (wrap64 (x9 + 1)) x23 x24 x25 x36 x37 x38 x325000 x325001 x325002 x325003) else (none)) else (none)) else (none))))) else (none)) else ((rHa.f k x8 (⟨#[44, 59, 58]⟩ : ByteArray)).bind fun t328 => (if t328 = true then (if 1 + x8.size ≤ 9223372036854775807 then (if 1 + x8.size + 1 ≤ 9223372036854775807 then (if x3.size + 1 + x8.size + 1 ≤ 9223372036854775807 then (rPr.l1 k (x3 ++ (((⟨#[34]⟩ : ByteArray) ++ x8) ++ (⟨#[34]⟩ : ByteArray))) x23 x24 x25 x36 x37 (wrap64 (x38 + 1)) x325000 x325001 x325002 x325003) else (none)) else (none)) else (none)) else (if x3.size + x8.size ≤ 9223372036854775807 then (rPr.l1 k (x3 ++ x8) x23 x24 x25 x36 x37 (wrap64 (x38 + 1)) x325000 x325001 x325002 x325003) else (none))))
end
def rPr.f (k : Nat) (a0_0 : ByteArray) (a0_1 : ByteArray) (l0_2 : List (S31)) (a0_3 : ByteArray) : Option (ByteArray) := if (a0_0.size : Int) > 0 then (if a0_0.size + 1 ≤ 9223372036854775807 then (if a0_0.size + 1 + a0_1.size ≤ 9223372036854775807 then (rPr.j0 k ((a0_0 ++ (⟨#[46]⟩ : ByteArray)) ++ a0_1) a0_0 a0_1 l0_2 a0_3) else (none)) else (none)) else (rPr.j0 k a0_1 a0_0 a0_1 l0_2 a0_3)
set_option maxHeartbeats 8000000 in
set_option maxRecDepth 100000 in
theorem rPr.calls (k : Nat) (a0_0 : ByteArray) (a0_1 : ByteArray) (A0_2 : Option Addr) (c0_2 : Nat) (l0_2 : List (S31)) (a0_3 : ByteArray) (r : ByteArray) (w : World) (hr0_2 : Kd.C k31 w A0_2 l0_2.length l0_2) (hc0_2 : l0_2.length ≤ c0_2) (h : rPr.f k a0_0 a0_1 l0_2 a0_3 = some r) :
  Calls Tryz.prog 24 #[.agg #[.string a0_0, .string a0_1, .slice A0_2 l0_2.length c0_2, .string a0_3]] w fun e w' => e = .returned (.string r) ∧ Below w.heap.size w w' := by
 have hu25 := Tryz.underlying25
 have hu31 := Tryz.underlying31
 have HR0_2 := A0q.mk hr0_2
 have HC0_2 := A0q.mk hc0_2
 clear hr0_2 hc0_2
 have HB := A0q.mk (Below.refl w.heap.size w)
 have H : (if (a0_0.size : Int) > 0 then (if a0_0.size + 1 ≤ 9223372036854775807 then (if a0_0.size + 1 + a0_1.size ≤ 9223372036854775807 then (rPr.j0 k ((a0_0 ++ (⟨#[46]⟩ : ByteArray)) ++ a0_1) a0_0 a0_1 l0_2 a0_3) else (none)) else (none)) else (rPr.j0 k a0_1 a0_0 a0_1 l0_2 a0_3)) = some r := h
 clear h
 have HC2 := A0q.mk H
 clear H
 go_enter Tryz.func24, Tryz.ntmps24
 go_upto_if 15 with (first | ((with_reducible refine gate_dst (N := 1) rfl ?_); refine box_event ?hg (N := 1) ?hd (cs := #[.string a0_0, .string a0_1, .slice A0_2 l0_2.length c0_2, .string a0_3]) (t := 25) ?hr ?_; (case hd => rfl); (case hg => rfl); (case hr => first | (go_simp; done) | (go_simp; rfl)); intro gb324 hg w3 hbox hb; have n0_ := A0q.mk (bT (by repeat (first | (with_reducible first | exact HB.out | apply bA | apply bdN | apply bd1) | exact HB.out)) hb); have n1_ := A0q.mk (hbox); have n2_ := A0q.mk ((by rw [hg]; exact (bZ (by repeat (first | (with_reducible first | exact HB.out | apply bA | apply bdN | apply bd1) | exact HB.out))) : w.heap.size ≤ gb324)); have n3_ := A0q.mk ((by rw [hg]; exact (bZ (by repeat (first | (with_reducible first | exact HB.out | apply bA | apply bdN | apply bd1) | exact HB.out))) : w.heap.size ≤ gb324)); clear HB; have HB := n0_; have BK324 := n1_; have GW324 := n2_; have GE324 := n3_; clear n0_ n1_ n2_ n3_; clear hb hbox hg; have hcz4_0 : w3.cell? ⟨gb324, 0, none⟩ = some (.string a0_0) := (bkC BK324.out 0).trans rfl; have hcz4_1 : w3.cell? ⟨gb324, 1, none⟩ = some (.string a0_1) := (bkC BK324.out 1).trans rfl; have hcz4_2 : w3.cell? ⟨gb324, 2, none⟩ = some (.slice A0_2 l0_2.length c0_2) := (bkC BK324.out 2).trans rfl; have hcz4_3 : w3.cell? ⟨gb324, 3, none⟩ = some (.string a0_3) := (bkC BK324.out 3).trans rfl; have hfz4_0 := bkF BK324.out 0; have hfz4_1 := bkF BK324.out 1; have hfz4_2 := bkF BK324.out 2; have hfz4_3 := bkF BK324.out 3))
 (try simp only [Act.put, List.setIfInBounds_toArray, List.set_cons_zero, List.set_cons_succ])
 go_cut [3] (fun v3 wc => ∃ (kq : Nat) (x3_1 : ByteArray), v3 = .string x3_1 ∧ A0q (rPr.j0 kq x3_1 a0_0 a0_1 l0_2 a0_3 = some r) ∧ A0q (kq ≤ k) ∧ A0q (wc.heap[gb324]? = some (.cells #[.string a0_0, .string a0_1, (.slice A0_2 l0_2.length c0_2), .string a0_3] 25 (0, 0))) ∧ A0q (Below w.heap.size w wc))
 case first =>
  have H := HC2.out
  clear HC2
  by_cases c5 : (a0_0.size : Int) > 0
  ·
   rw [if_pos c5] at H
   have c5b0 : decide (0 < (a0_0.size : Int)) = true := decide_eq_true c5
   have c5b1 : decide (0 < a0_0.size) = true := decide_eq_true (by omega)
   clear c5
   (first | rw [c5b0] | (simp only [i64_w, i32_w]; rw [c5b0]) | rw [c5b1] | skip)
   by_cases c6 : a0_0.size + 1 ≤ 9223372036854775807
   ·
    rw [if_pos c6] at H
    have c6b0 := eq_true c6
    have c6b1 : decide (a0_0.size + 1 ≤ 9223372036854775807) = true := decide_eq_true c6
    try have c6b2 : (9223372036854775807 < a0_0.size + 1) = False := eq_false (Nat.not_lt.2 c6)
    by_cases c7 : a0_0.size + 1 + a0_1.size ≤ 9223372036854775807
    ·
     rw [if_pos c7] at H
     have c7b0 := eq_true c7
     have c7b1 : decide (a0_0.size + 1 + a0_1.size ≤ 9223372036854775807) = true := decide_eq_true c7
     try have c7b2 : (9223372036854775807 < a0_0.size + 1 + a0_1.size) = False := eq_false (Nat.not_lt.2 c7)
     have H' := A0q.mk H
     clear H
     have hcz8_0 : w3.cell? ⟨gb324, 0, none⟩ = some (.string a0_0) := (bkC BK324.out 0).trans rfl
     have hcz8_1 : w3.cell? ⟨gb324, 1, none⟩ = some (.string a0_1) := (bkC BK324.out 1).trans rfl
     have hcz8_2 : w3.cell? ⟨gb324, 2, none⟩ = some (.slice A0_2 l0_2.length c0_2) := (bkC BK324.out 2).trans rfl
     have hcz8_3 : w3.cell? ⟨gb324, 3, none⟩ = some (.string a0_3) := (bkC BK324.out 3).trans rfl
     have hfz8_0 := bkF BK324.out 0
     have hfz8_1 := bkF BK324.out 1
     have hfz8_2 := bkF BK324.out 2
     have hfz8_3 := bkF BK324.out 3
     go_wp2
     go_meet
     case rel => exact ⟨_, ((a0_0 ++ (⟨#[46]⟩ : ByteArray)) ++ a0_1), (by first | rfl | (simp; done) | (simp [*]; done)), H', ⟨by first | omega | exact Nat.le_refl _⟩, ⟨by (with_reducible repeat (first | refine bkN ?_ _ | refine bkD ?_ | refine bkA ?_ _)); exact BK324.out⟩, ⟨by repeat (first | (with_reducible first | exact HB.out | apply bA | apply bdN | apply bd1 | refine bS ?_ GE324.out) | exact HB.out)⟩⟩
    ·
     rw [if_neg c7] at H
     exact absurd H (by simp)
   ·
    rw [if_neg c6] at H
    exact absurd H (by simp)
  ·
   rw [if_neg c5] at H
   have c5b0 : decide (0 < (a0_0.size : Int)) = false := decide_eq_false c5
   have c5b1 : decide (0 < a0_0.size) = false := decide_eq_false (by omega)
   clear c5
   (first | rw [c5b0] | (simp only [i64_w, i32_w]; rw [c5b0]) | rw [c5b1] | skip)
   have H' := A0q.mk H
   clear H
   go_wp2
   go_meet
   case rel => exact ⟨_, (a0_1), (by first | rfl | (simp; done) | (simp [*]; done)), H', ⟨by first | omega | exact Nat.le_refl _⟩, ⟨by (with_reducible repeat (first | refine bkN ?_ _ | refine bkD ?_ | refine bkA ?_ _)); exact BK324.out⟩, ⟨by repeat (first | (with_reducible first | exact HB.out | apply bA | apply bdN | apply bd1 | refine bS ?_ GE324.out) | exact HB.out)⟩⟩
 case rest =>
  clear HC2
  try clear c2
  try clear p2
  try clear c5
  try clear c5b0
  try clear c5b1
  try clear c6
  try clear c6b0
  try clear c6b1
  try clear c6b2
  try clear c7
  try clear c7b0
  try clear c7b1
  try clear c7b2
  try clear hcz4_0
  try clear hcz4_1
  try clear hcz4_2
  try clear hcz4_3
  try clear hcz8_0
  try clear hcz8_1
  try clear hcz8_2
  try clear hcz8_3
  try clear hfz4_0
  try clear hfz4_1
  try clear hfz4_2
  try clear hfz4_3
  try clear hfz8_0
  try clear hfz8_1
  try clear hfz8_2
  try clear hfz8_3
  obtain ⟨kq, x3_1, rfl, HA, HJ1, BK324, HB⟩ := hcut
  cases kq with
  | zero => exact absurd HA.out (by simp [rPr.j0])
  | succ kj1 =>
   have H := HA.out
   clear HA
   simp only [rPr.j0] at H
   have H' := A0q.mk H
   clear H
   have hcz9_0 : wc.cell? ⟨gb324, 0, none⟩ = some (.string a0_0) := (bkC BK324.out 0).trans rfl
   have hcz9_1 : wc.cell? ⟨gb324, 1, none⟩ = some (.string a0_1) := (bkC BK324.out 1).trans rfl
   have hcz9_2 : wc.cell? ⟨gb324, 2, none⟩ = some (.slice A0_2 l0_2.length c0_2) := (bkC BK324.out 2).trans rfl
   have hcz9_3 : wc.cell? ⟨gb324, 3, none⟩ = some (.string a0_3) := (bkC BK324.out 3).trans rfl
   have hfz9_0 := bkF BK324.out 0
   have hfz9_1 := bkF BK324.out 1
   have hfz9_2 := bkF BK324.out 2
   have hfz9_3 := bkF BK324.out 3
   go_wp2
   go_loopg [3, 25] kj1 (fun kq v3 v25 w' => ∃ (x3_2 : ByteArray) (x25_2 : Int), v3 = .string x3_2 ∧ v25 = .int .i64 x25_2 ∧ A0q (rPr.l0 kq x3_2 l0_2 (l0_2.length : Int) x25_2 a0_0 a0_1 l0_2 a0_3 = some r) ∧ A0q (kq ≤ kj1) ∧ A0q (w'.heap[gb324]? = some (.cells #[.string a0_0, .string a0_1, (.slice A0_2 l0_2.length c0_2), .string a0_3] 25 (0, 0))) ∧ A0q (Below w.heap.size w w'))
   case atStart => exact ⟨(x3_1), (0), (by first | rfl | (simp; done) | (simp [*]; done)), (by first | rfl | (simp; done) | (simp [*]; done)), H', ⟨Nat.le_refl _⟩, ⟨by (with_reducible repeat (first | refine bkN ?_ _ | refine bkD ?_ | refine bkA ?_ _)); exact BK324.out⟩, ⟨by repeat (first | (with_reducible first | exact HB.out | apply bA | apply bdN | apply bd1 | refine bS ?_ GE324.out) | exact HB.out)⟩⟩
   case round =>
    clear H'
    try clear c2
    try clear p2
    try clear c5
    try clear c5b0
    try clear c5b1
    try clear c6
    try clear c6b0
    try clear c6b1
    try clear c6b2
    try clear c7
    try clear c7b0
    try clear c7b1
    try clear c7b2
    try clear hcz4_0
    try clear hcz4_1
    try clear hcz4_2
    try clear hcz4_3
    try clear hcz8_0
    try clear hcz8_1
    try clear hcz8_2
    try clear hcz8_3
    try clear hcz9_0
    try clear hcz9_1
    try clear hcz9_2
    try clear hcz9_3
    try clear hfz4_0
    try clear hfz4_1
    try clear hfz4_2
    try clear hfz4_3
    try clear hfz8_0
    try clear hfz8_1
    try clear hfz8_2
    try clear hfz8_3
    try clear hfz9_0
    try clear hfz9_1
    try clear hfz9_2
    try clear hfz9_3
    try clear p2
    obtain ⟨x3_2, x25_2, rfl, rfl, HA, HK2, BK324, HB⟩ := hrel
    cases gk with
    | zero => exact absurd HA.out (by simp [rPr.l0])
    | succ k2 =>
     have H := HA.out
     clear HA
     simp only [rPr.l0] at H
     by_cases c10 : x25_2 < (l0_2.length : Int)
     ·
      rw [if_pos c10] at H
      have c10b0 : decide (x25_2 < (l0_2.length : Int)) = true := decide_eq_true c10
      clear c10
      by_cases c11 : 0 ≤ x25_2
      ·
       rw [if_pos c11] at H
       have c11b0 : decide (0 ≤ x25_2) = true := decide_eq_true c11
       clear c11
       by_cases c12 : x25_2 < (l0_2.length : Int)
       ·
        rw [if_pos c12] at H
        have c12b0 : decide (x25_2 < (l0_2.length : Int)) = true := decide_eq_true c12
        clear c12
        by_cases c13 : 1 + ((rd_T31 l0_2 x25_2).f0).size ≤ 9223372036854775807
        ·
         rw [if_pos c13] at H
         have c13b0 := eq_true c13
         have c13b1 : decide (1 + ((rd_T31 l0_2 x25_2).f0).size ≤ 9223372036854775807) = true := decide_eq_true c13
         try have c13b2 : (9223372036854775807 < 1 + ((rd_T31 l0_2 x25_2).f0).size) = False := eq_false (Nat.not_lt.2 c13)
         by_cases c14 : 1 + ((rd_T31 l0_2 x25_2).f0).size + 1 ≤ 9223372036854775807
         ·
          rw [if_pos c14] at H
          have c14b0 := eq_true c14
          have c14b1 : decide (1 + ((rd_T31 l0_2 x25_2).f0).size + 1 ≤ 9223372036854775807) = true := decide_eq_true c14
          try have c14b2 : (9223372036854775807 < 1 + ((rd_T31 l0_2 x25_2).f0).size + 1) = False := eq_false (Nat.not_lt.2 c14)
          by_cases c15 : x3_2.size + 1 + ((rd_T31 l0_2 x25_2).f0).size + 1 ≤ 9223372036854775807
          ·
           rw [if_pos c15] at H
           have c15b0 := eq_true c15
           have c15b1 : decide (x3_2.size + 1 + ((rd_T31 l0_2 x25_2).f0).size + 1 ≤ 9223372036854775807) = true := decide_eq_true c15
           try have c15b2 : (9223372036854775807 < x3_2.size + 1 + ((rd_T31 l0_2 x25_2).f0).size + 1) = False := eq_false (Nat.not_lt.2 c15)
           have H' := A0q.mk H
           clear H
           have p325 : 0 ≤ (x25_2 : Int) := of_decide_eq_true (by first | (with_reducible assumption) | assumption)
           have q325 : x25_2 < (l0_2.length : Int) := of_decide_eq_true (by first | (with_reducible assumption) | assumption)
           obtain ⟨ad325, A325_1, c325_1, e325, hx325_0, hx325_1, hl325_1, hi325_1⟩ := at_T31 HR0_2.out x25_2 p325 q325
           cases e325
           replace hx325_0 := (HB.out.cell (World.block_lt_of_cell? w _ hx325_0)).trans hx325_0
           replace hx325_1 := (HB.out.cell (World.block_lt_of_cell? w _ hx325_1)).trans hx325_1
           have HR325_1 := A0q.mk hi325_1
           have HC325_1 := A0q.mk hl325_1
           clear hi325_1 hl325_1
           replace p325 := eq_true p325
           replace q325 := eq_true q325
           go_wp2_with (first | ((with_reducible refine gate_dst (N := 5) rfl ?_); refine box_event ?hg (N := 5) ?hd (cs := #[.string (⟨#[]⟩ : ByteArray), .slice none 0 0]) (t := 31) ?hr ?_; (case hd => rfl); (case hg => rfl); (case hr => first | (go_simp; done) | (go_simp; rfl)); intro gb326 hg w16 hbox hb; have n0_ := A0q.mk (bkB (g := gb324) (o := .cells #[.string a0_0, .string a0_1, .slice (some ad325) l0_2.length c0_2, .string a0_3] 25 (0, 0)) (by (with_reducible repeat (first | refine bkN ?_ _ | refine bkD ?_ | refine bkA ?_ _)); exact BK324.out) hb); have n1_ := A0q.mk (bT (by repeat (first | (with_reducible first | exact HB.out | apply bA | apply bdN | apply bd1 | refine bS ?_ GE324.out) | exact HB.out)) hb); have n2_ := A0q.mk (hbox); have n3_ := A0q.mk ((by rw [hg]; exact (bZ (by repeat (first | (with_reducible first | exact HB.out | apply bA | apply bdN | apply bd1 | refine bS ?_ GE324.out) | exact HB.out))) : w.heap.size ≤ gb326)); have n4_ := A0q.mk ((by rw [hg]; exact (bZ (by repeat (first | (with_reducible first | exact HB.out | apply bA | apply bdN | apply bd1 | refine bS ?_ GE324.out) | exact HB.out))) : w.heap.size ≤ gb326)); have n5_ := A0q.mk ((by rw [hg]; exact Nat.ne_of_lt (bkL (g := gb324) (o := .cells #[.string a0_0, .string a0_1, .slice (some ad325) l0_2.length c0_2, .string a0_3] 25 (0, 0)) (by (with_reducible repeat (first | refine bkN ?_ _ | refine bkD ?_ | refine bkA ?_ _)); exact BK324.out)) : gb324 ≠ gb326)); have n6_ := A0q.mk ((by rw [hg]; exact Nat.ne_of_gt (bkL (g := gb324) (o := .cells #[.string a0_0, .string a0_1, .slice (some ad325) l0_2.length c0_2, .string a0_3] 25 (0, 0)) (by (with_reducible repeat (first | refine bkN ?_ _ | refine bkD ?_ | refine bkA ?_ _)); exact BK324.out)) : gb326 ≠ gb324)); clear BK324; clear HB; have BK324 := n0_; have HB := n1_; have BK326 := n2_; have GW326 := n3_; have GE326 := n4_; have NB324_326 := n5_; have NB326_324 := n6_; clear n0_ n1_ n2_ n3_ n4_ n5_ n6_; clear hb hbox hg; have hnb17 := NB326_324.out; have hnc17 := NB324_326.out; have hcz18_0 : w16.cell? ⟨gb326, 0, none⟩ = some (.string (⟨#[]⟩ : ByteArray)) := (bkC BK326.out 0).trans rfl; have hcz18_1 : w16.cell? ⟨gb326, 1, none⟩ = some (.slice none 0 0) := (bkC BK326.out 1).trans rfl; have hfz18_0 := bkF BK326.out 0; have hfz18_1 := bkF BK326.out 1))
           go_loopg [3, 38] k2 (fun kq v3 v38 w' => ∃ (x3_3 : ByteArray) (x38_3 : Int), v3 = .string x3_3 ∧ v38 = .int .i64 x38_3 ∧ A0q (rPr.l1 kq x3_3 l0_2 (l0_2.length : Int) x25_2 ((rd_T31 l0_2 x25_2).f1) (((rd_T31 l0_2 x25_2).f1).length : Int) x38_3 a0_0 a0_1 l0_2 a0_3 = some r) ∧ A0q (kq ≤ k2) ∧ A0q (w'.heap[gb324]? = some (.cells #[.string a0_0, .string a0_1, (.slice (some ad325) l0_2.length c0_2), .string a0_3] 25 (0, 0))) ∧ A0q (w'.heap[gb326]? = some (.cells #[.string ((rd_T31 l0_2 x25_2).f0), (.slice A325_1 ((rd_T31 l0_2 x25_2).f1).length c325_1)] 31 (0, 0))) ∧ A0q (Below w.heap.size w w'))
           case atStart => exact ⟨(x3_2 ++ (((⟨#[59]⟩ : ByteArray) ++ ((rd_T31 l0_2 x25_2).f0)) ++ (⟨#[61]⟩ : ByteArray))), (0), (by first | rfl | (simp; done) | (simp [*]; done)), (by first | rfl | (simp; done) | (simp [*]; done)), H', ⟨Nat.le_refl _⟩, ⟨by (with_reducible repeat (first | refine bkN ?_ _ | refine bkD ?_ | refine bkA ?_ _)); refine bkR ?_ NB324_326.out _; (with_reducible repeat (first | refine bkN ?_ _ | refine bkD ?_ | refine bkA ?_ _)); refine bkR ?_ NB324_326.out _; (with_reducible repeat (first | refine bkN ?_ _ | refine bkD ?_ | refine bkA ?_ _)); exact BK324.out⟩, ⟨by (with_reducible repeat (first | refine bkN ?_ _ | refine bkD ?_ | refine bkA ?_ _)); refine bkP (cs := #[.string ((rd_T31 l0_2 x25_2).f0), .slice none 0 0]) ?_ 1 _ rfl; (with_reducible repeat (first | refine bkN ?_ _ | refine bkD ?_ | refine bkA ?_ _)); refine bkP (cs := #[.string (⟨#[]⟩ : ByteArray), .slice none 0 0]) ?_ 0 _ rfl; (with_reducible repeat (first | refine bkN ?_ _ | refine bkD ?_ | refine bkA ?_ _)); exact BK326.out⟩, ⟨by repeat (first | (with_reducible first | exact HB.out | apply bA | apply bdN | apply bd1 | refine bS ?_ GE324.out | refine bS ?_ GE326.out) | exact HB.out)⟩⟩
           case round =>
            clear H'
            try clear c1
            try clear c2
            try clear p2
            try clear c3
            try clear p3
            try clear q3
            try clear hx3
            try clear c5
            try clear c5b0
            try clear c5b1
            try clear c6
            try clear c6b0
            try clear c6b1
            try clear c6b2
            try clear c7
            try clear c7b0
            try clear c7b1
            try clear c7b2
            try clear c10
            try clear c10b0
            try clear c11
            try clear c11b0
            try clear c12
            try clear c12b0
            try clear c13
            try clear c13b0
            try clear c13b1
            try clear c13b2
            try clear c14
            try clear c14b0
            try clear c14b1
            try clear c14b2
            try clear c15
            try clear c15b0
            try clear c15b1
            try clear c15b2
            try clear c17
            try clear hcz18_0
            try clear hcz18_1
            try clear hcz4_0
            try clear hcz4_1
            try clear hcz4_2
            try clear hcz4_3
            try clear hcz8_0
            try clear hcz8_1
            try clear hcz8_2
            try clear hcz8_3
            try clear hcz9_0
            try clear hcz9_1
            try clear hcz9_2
            try clear hcz9_3
            try clear hfz18_0
            try clear hfz18_1
            try clear hfz4_0
            try clear hfz4_1
            try clear hfz4_2
            try clear hfz4_3
            try clear hfz8_0
            try clear hfz8_1
            try clear hfz8_2
            try clear hfz8_3
            try clear hfz9_0
            try clear hfz9_1
            try clear hfz9_2
            try clear hfz9_3
            try clear hx325_0
            try clear hx325_1
            try clear p2
            try clear p325
            try clear q325
            obtain ⟨x3_3, x38_3, rfl, rfl, HA, HK3, BK324, BK326, HB⟩ := hrel
            cases gk with
            | zero => exact absurd HA.out (by simp [rPr.l1])
            | succ k3 =>
             have H := HA.out
             clear HA
             simp only [rPr.l1] at H
             by_cases c19 : x38_3 < (((rd_T31 l0_2 x25_2).f1).length : Int)
             ·
              rw [if_pos c19] at H
              have c19b0 : decide (x38_3 < (((rd_T31 l0_2 x25_2).f1).length : Int)) = true := decide_eq_true c19
              clear c19
              by_cases c20 : 0 ≤ x38_3
              ·
               rw [if_pos c20] at H
               have c20b0 : decide (0 ≤ x38_3) = true := decide_eq_true c20
               clear c20
               by_cases c21 : x38_3 < (((rd_T31 l0_2 x25_2).f1).length : Int)
               ·
                rw [if_pos c21] at H
                have c21b0 : decide (x38_3 < (((rd_T31 l0_2 x25_2).f1).length : Int)) = true := decide_eq_true c21
                clear c21
                have HC22 := A0q.mk H
                clear H
                have p327 : 0 ≤ (x38_3 : Int) := of_decide_eq_true (by first | (with_reducible assumption) | assumption)
                have q327 : x38_3 < (((rd_T31 l0_2 x25_2).f1).length : Int) := of_decide_eq_true (by first | (with_reducible assumption) | assumption)
                obtain ⟨ad327, e327, hx327_0⟩ := Kd.at_string HR325_1.out x38_3 p327 q327
                cases e327
                replace hx327_0 := (HB.out.cell (World.block_lt_of_cell? w _ hx327_0)).trans hx327_0
                replace p327 := eq_true p327
                replace q327 := eq_true q327
                go_upto_if 44 with (fail)
                go_cut [3] (fun v3 wc => ∃ (kq : Nat) (x3_21 : ByteArray), v3 = .string x3_21 ∧ A0q (rPr.j3 kq x3_21 (rdOf ByteArray.empty ((rd_T31 l0_2 x25_2).f1) x38_3) l0_2 (l0_2.length : Int) x25_2 ((rd_T31 l0_2 x25_2).f1) (((rd_T31 l0_2 x25_2).f1).length : Int) x38_3 a0_0 a0_1 l0_2 a0_3 = some r) ∧ A0q (kq ≤ k3) ∧ A0q (wc.heap[gb324]? = some (.cells #[.string a0_0, .string a0_1, (.slice (some ad325) l0_2.length c0_2), .string a0_3] 25 (0, 0))) ∧ A0q (wc.heap[gb326]? = some (.cells #[.string ((rd_T31 l0_2 x25_2).f0), (.slice (some ad327) ((rd_T31 l0_2 x25_2).f1).length c325_1)] 31 (0, 0))) ∧ A0q (Below w.heap.size w wc))
                case first =>
                 have H := HC22.out
                 clear HC22
                 by_cases c23 : x38_3 > 0
                 ·
                  rw [if_pos c23] at H
                  have c23b0 : decide (0 < x38_3) = true := decide_eq_true c23
                  clear c23
                  (first | rw [c23b0] | (simp only [i64_w, i32_w]; rw [c23b0]) | rw [c23b1] | skip)
                  by_cases c24 : x3_3.size + 1 ≤ 9223372036854775807
                  ·
                   rw [if_pos c24] at H
                   have c24b0 := eq_true c24
                   have c24b1 : decide (x3_3.size + 1 ≤ 9223372036854775807) = true := decide_eq_true c24
                   try have c24b2 : (9223372036854775807 < x3_3.size + 1) = False := eq_false (Nat.not_lt.2 c24)
                   have H' := A0q.mk H
                   clear H
                   go_wp2
                   go_meet
                   case rel => exact ⟨_, (x3_3 ++ (⟨#[44]⟩ : ByteArray)), (by first | rfl | (simp; done) | (simp [*]; done)), H', ⟨by have := HJ1.out; have := HK2.out; have := HK3.out; first | omega | exact Nat.le_refl _⟩, ⟨by (with_reducible repeat (first | refine bkN ?_ _ | refine bkD ?_ | refine bkA ?_ _)); exact BK324.out⟩, ⟨by (with_reducible repeat (first | refine bkN ?_ _ | refine bkD ?_ | refine bkA ?_ _)); exact BK326.out⟩, ⟨by repeat (first | (with_reducible first | exact HB.out | apply bA | apply bdN | apply bd1 | refine bS ?_ GE324.out | refine bS ?_ GE326.out) | exact HB.out)⟩⟩
                  ·
                   rw [if_neg c24] at H
                   exact absurd H (by simp)
                 ·
                  rw [if_neg c23] at H
                  have c23b0 : decide (0 < x38_3) = false := decide_eq_false c23
                  clear c23
                  (first | rw [c23b0] | (simp only [i64_w, i32_w]; rw [c23b0]) | rw [c23b1] | skip)
                  have H' := A0q.mk H
                  clear H
                  go_wp2
                  go_meet
                  case rel => exact ⟨_, (x3_3), (by first | rfl | (simp; done) | (simp [*]; done)), H', ⟨by have := HJ1.out; have := HK2.out; have := HK3.out; first | omega | exact Nat.le_refl _⟩, ⟨by (with_reducible repeat (first | refine bkN ?_ _ | refine bkD ?_ | refine bkA ?_ _)); exact BK324.out⟩, ⟨by (with_reducible repeat (first | refine bkN ?_ _ | refine bkD ?_ | refine bkA ?_ _)); exact BK326.out⟩, ⟨by repeat (first | (with_reducible first | exact HB.out | apply bA | apply bdN | apply bd1 | refine bS ?_ GE324.out | refine bS ?_ GE326.out) | exact HB.out)⟩⟩
                case rest =>
                 clear HC22
                 try clear c1
                 try clear c2
                 try clear p2
                 try clear c3
                 try clear p3
                 try clear q3
                 try clear hx3
                 try clear c5
                 try clear c5b0
                 try clear c5b1
                 try clear c6
                 try clear c6b0
                 try clear c6b1
                 try clear c6b2
                 try clear c7
                 try clear c7b0
                 try clear c7b1
                 try clear c7b2
                 try clear c10
                 try clear c10b0
                 try clear c11
                 try clear c11b0
                 try clear c12
                 try clear c12b0
                 try clear c13
                 try clear c13b0
                 try clear c13b1
                 try clear c13b2
                 try clear c14
                 try clear c14b0
                 try clear c14b1
                 try clear c14b2
                 try clear c15
                 try clear c15b0
                 try clear c15b1
                 try clear c15b2
                 try clear c17
                 try clear c19
                 try clear c19b0
                 try clear c20
                 try clear c20b0
                 try clear c21
                 try clear c21b0
                 try clear c23
                 try clear c23b0
                 try clear c23b1
                 try clear c24
                 try clear c24b0
                 try clear c24b1
                 try clear c24b2
                 try clear hcz18_0
                 try clear hcz18_1
                 try clear hcz4_0
                 try clear hcz4_1
                 try clear hcz4_2
                 try clear hcz4_3
                 try clear hcz8_0
                 try clear hcz8_1
                 try clear hcz8_2
                 try clear hcz8_3
                 try clear hcz9_0
                 try clear hcz9_1
                 try clear hcz9_2
                 try clear hcz9_3
                 try clear hfz18_0
                 try clear hfz18_1
                 try clear hfz4_0
                 try clear hfz4_1
                 try clear hfz4_2
                 try clear hfz4_3
                 try clear hfz8_0
                 try clear hfz8_1
                 try clear hfz8_2
                 try clear hfz8_3
                 try clear hfz9_0
                 try clear hfz9_1
                 try clear hfz9_2
                 try clear hfz9_3
                 try clear hx325_0
                 try clear hx325_1
                 try clear hx327_0
                 try clear p2
                 try clear p3
                 try clear p325
                 try clear p327
                 try clear q3
                 try clear q325
                 try clear q327
                 obtain ⟨kq, x3_21, rfl, HA, HJ21, BK324, BK326, HB⟩ := hcut
                 cases kq with
                 | zero => exact absurd HA.out (by simp [rPr.j3])
                 | succ kj21 =>
                  have H := HA.out
                  clear HA
                  simp only [rPr.j3] at H
                  have H' := A0q.mk H
                  clear H
                  go_wp2
                  go_loopg [8, 9] kj21 (fun kq v8 v9 w' => ∃ (x8_5 : ByteArray) (x9_5 : Int), v8 = .string x8_5 ∧ v9 = .int .i64 x9_5 ∧ A0q (rPr.l2 kq x3_21 (rdOf ByteArray.empty ((rd_T31 l0_2 x25_2).f1) x38_3) x8_5 x9_5 l0_2 (l0_2.length : Int) x25_2 ((rd_T31 l0_2 x25_2).f1) (((rd_T31 l0_2 x25_2).f1).length : Int) x38_3 a0_0 a0_1 l0_2 a0_3 = some r) ∧ A0q (kq ≤ kj21) ∧ A0q (w'.heap[gb324]? = some (.cells #[.string a0_0, .string a0_1, (.slice (some ad325) l0_2.length c0_2), .string a0_3] 25 (0, 0))) ∧ A0q (w'.heap[gb326]? = some (.cells #[.string ((rd_T31 l0_2 x25_2).f0), (.slice (some ad327) ((rd_T31 l0_2 x25_2).f1).length c325_1)] 31 (0, 0))) ∧ A0q (Below w.heap.size w w'))
                  case atStart => exact ⟨((⟨#[]⟩ : ByteArray)), (0), (by first | rfl | (simp; done) | (simp [*]; done)), (by first | rfl | (simp; done) | (simp [*]; done)), H', ⟨Nat.le_refl _⟩, ⟨by (with_reducible repeat (first | refine bkN ?_ _ | refine bkD ?_ | refine bkA ?_ _)); exact BK324.out⟩, ⟨by (with_reducible repeat (first | refine bkN ?_ _ | refine bkD ?_ | refine bkA ?_ _)); exact BK326.out⟩, ⟨by repeat (first | (with_reducible first | exact HB.out | apply bA | apply bdN | apply bd1 | refine bS ?_ GE324.out | refine bS ?_ GE326.out) | exact HB.out)⟩⟩
                  case round =>
                   clear H'
                   try clear c1
                   try clear c2
                   try clear p2
                   try clear c3
                   try clear p3
                   try clear q3
                   try clear hx3
                   try clear c5
                   try clear c5b0
                   try clear c5b1
                   try clear c6
                   try clear c6b0
                   try clear c6b1
                   try clear c6b2
                   try clear c7
                   try clear c7b0
                   try clear c7b1
                   try clear c7b2
                   try clear c10
                   try clear c10b0
                   try clear c11
                   try clear c11b0
                   try clear c12
                   try clear c12b0
                   try clear c13
                   try clear c13b0
                   try clear c13b1
                   try clear c13b2
                   try clear c14
                   try clear c14b0
                   try clear c14b1
                   try clear c14b2
                   try clear c15
                   try clear c15b0
                   try clear c15b1
                   try clear c15b2
                   try clear c17
                   try clear c19
                   try clear c19b0
                   try clear c20
                   try clear c20b0
                   try clear c21
                   try clear c21b0
                   try clear c23
                   try clear c23b0
                   try clear c23b1
                   try clear c24
                   try clear c24b0
                   try clear c24b1
                   try clear c24b2
                   try clear hcz18_0
                   try clear hcz18_1
                   try clear hcz4_0
                   try clear hcz4_1
                   try clear hcz4_2
                   try clear hcz4_3
                   try clear hcz8_0
                   try clear hcz8_1
                   try clear hcz8_2
                   try clear hcz8_3
                   try clear hcz9_0
                   try clear hcz9_1
                   try clear hcz9_2
                   try clear hcz9_3
                   try clear hfz18_0
                   try clear hfz18_1
                   try clear hfz4_0
                   try clear hfz4_1
                   try clear hfz4_2
                   try clear hfz4_3
                   try clear hfz8_0
                   try clear hfz8_1
                   try clear hfz8_2
                   try clear hfz8_3
                   try clear hfz9_0
                   try clear hfz9_1
                   try clear hfz9_2
                   try clear hfz9_3
                   try clear hx325_0
                   try clear hx325_1
                   try clear hx327_0
                   try clear p2
                   try clear p3
                   try clear p325
                   try clear p327
                   try clear q3
                   try clear q325
                   try clear q327
                   obtain ⟨x8_5, x9_5, rfl, rfl, HA, HK5, BK324, BK326, HB⟩ := hrel
                   cases gk with
                   | zero => exact absurd HA.out (by simp [rPr.l2])
                   | succ k5 =>
                    have H := HA.out
                    clear HA
                    simp only [rPr.l2] at H
                    by_cases c25 : x9_5 < ((rdOf ByteArray.empty ((rd_T31 l0_2 x25_2).f1) x38_3).size : Int)
                    ·
                     rw [if_pos c25] at H
                     have c25b0 : decide (x9_5 < ((rdOf ByteArray.empty ((rd_T31 l0_2 x25_2).f1) x38_3).size : Int)) = true := decide_eq_true c25
                     clear c25
                     by_cases c26 : 0 ≤ x9_5
                     ·
                      rw [if_pos c26] at H
                      have c26b0 : decide (0 ≤ x9_5) = true := decide_eq_true c26
                      clear c26
                      by_cases c28 : (bt (rdOf ByteArray.empty ((rd_T31 l0_2 x25_2).f1) x38_3) x9_5) = 10
                      ·
                       rw [if_pos c28] at H
                       have c28b0 : ((bt (rdOf ByteArray.empty ((rd_T31 l0_2 x25_2).f1) x38_3) x9_5) == 10) = true := beq_iff_eq.mpr c28
                       have c28b1 : ((bt (rdOf ByteArray.empty ((rd_T31 l0_2 x25_2).f1) x38_3) x9_5) != 10) = false := bne_eq_false_iff_eq.mpr c28
                       clear c28
                       by_cases c29 : x8_5.size + 2 ≤ 9223372036854775807
                       ·
                        rw [if_pos c29] at H
                        have c29b0 := eq_true c29
                        have c29b1 : decide (x8_5.size + 2 ≤ 9223372036854775807) = true := decide_eq_true c29
                        try have c29b2 : (9223372036854775807 < x8_5.size + 2) = False := eq_false (Nat.not_lt.2 c29)
                        have H' := A0q.mk H
                        clear H
                        have p27 : 0 ≤ (x9_5 : Int) := of_decide_eq_true (by first | (with_reducible assumption) | assumption)
                        have q27 : x9_5 < ((rdOf ByteArray.empty ((rd_T31 l0_2 x25_2).f1) x38_3).size : Int) := of_decide_eq_true (by first | (with_reducible assumption) | assumption)
                        have hx27 := bt_at (rdOf ByteArray.empty ((rd_T31 l0_2 x25_2).f1) x38_3) x9_5
                        replace p27 := eq_true p27
                        replace q27 := eq_true q27
                        go_wp2
                        go_roundg k5
                        case measure => have := HJ1.out; have := HK2.out; have := HK3.out; have := HJ21.out; have := HK5.out; omega
                        case rel => exact ⟨(x8_5 ++ (⟨#[94, 110]⟩ : ByteArray)), (wrap64 (x9_5 + 1)), (by first | rfl | (simp; done) | (simp [*]; done)), (by first | rfl | (simp; done) | (simp [*]; done)), H', ⟨by have := HJ1.out; have := HK2.out; have := HK3.out; have := HJ21.out; have := HK5.out; omega⟩, ⟨by (with_reducible repeat (first | refine bkN ?_ _ | refine bkD ?_ | refine bkA ?_ _)); exact BK324.out⟩, ⟨by (with_reducible repeat (first | refine bkN ?_ _ | refine bkD ?_ | refine bkA ?_ _)); exact BK326.out⟩, ⟨by repeat (first | (with_reducible first | exact HB.out | apply bA | apply bdN | apply bd1 | refine bS ?_ GE324.out | refine bS ?_ GE326.out) | exact HB.out)⟩⟩
                       ·
                        rw [if_neg c29] at H
                        exact absurd H (by simp)
                      ·
                       rw [if_neg c28] at H
                       have c28b0 : ((bt (rdOf ByteArray.empty ((rd_T31 l0_2 x25_2).f1) x38_3) x9_5) == 10) = false := beq_eq_false_iff_ne.mpr c28
                       have c28b1 : ((bt (rdOf ByteArray.empty ((rd_T31 l0_2 x25_2).f1) x38_3) x9_5) != 10) = true := bne_iff_ne.mpr c28
                       by_cases c30 : (bt (rdOf ByteArray.empty ((rd_T31 l0_2 x25_2).f1) x38_3) x9_5) = 94
                       ·
                        rw [if_pos c30] at H
                        have c30b0 : ((bt (rdOf ByteArray.empty ((rd_T31 l0_2 x25_2).f1) x38_3) x9_5) == 94) = true := beq_iff_eq.mpr c30
                        have c30b1 : ((bt (rdOf ByteArray.empty ((rd_T31 l0_2 x25_2).f1) x38_3) x9_5) != 94) = false := bne_eq_false_iff_eq.mpr c30
                        clear c30
                        by_cases c31 : x8_5.size + 2 ≤ 9223372036854775807
                        ·
                         rw [if_pos c31] at H
                         have c31b0 := eq_true c31
                         have c31b1 : decide (x8_5.size + 2 ≤ 9223372036854775807) = true := decide_eq_true c31
                         try have c31b2 : (9223372036854775807 < x8_5.size + 2) = False := eq_false (Nat.not_lt.2 c31)
                         have H' := A0q.mk H
                         clear H
                         have p27 : 0 ≤ (x9_5 : Int) := of_decide_eq_true (by first | (with_reducible assumption) | assumption)
                         have q27 : x9_5 < ((rdOf ByteArray.empty ((rd_T31 l0_2 x25_2).f1) x38_3).size : Int) := of_decide_eq_true (by first | (with_reducible assumption) | assumption)
                         have hx27 := bt_at (rdOf ByteArray.empty ((rd_T31 l0_2 x25_2).f1) x38_3) x9_5
                         replace p27 := eq_true p27
                         replace q27 := eq_true q27
                         go_wp2
                         go_roundg k5
                         case measure => have := HJ1.out; have := HK2.out; have := HK3.out; have := HJ21.out; have := HK5.out; omega
                         case rel => exact ⟨(x8_5 ++ (⟨#[94, 94]⟩ : ByteArray)), (wrap64 (x9_5 + 1)), (by first | rfl | (simp; done) | (simp [*]; done)), (by first | rfl | (simp; done) | (simp [*]; done)), H', ⟨by have := HJ1.out; have := HK2.out; have := HK3.out; have := HJ21.out; have := HK5.out; omega⟩, ⟨by (with_reducible repeat (first | refine bkN ?_ _ | refine bkD ?_ | refine bkA ?_ _)); exact BK324.out⟩, ⟨by (with_reducible repeat (first | refine bkN ?_ _ | refine bkD ?_ | refine bkA ?_ _)); exact BK326.out⟩, ⟨by repeat (first | (with_reducible first | exact HB.out | apply bA | apply bdN | apply bd1 | refine bS ?_ GE324.out | refine bS ?_ GE326.out) | exact HB.out)⟩⟩
                        ·
                         rw [if_neg c31] at H
                         exact absurd H (by simp)
                       ·
                        rw [if_neg c30] at H
                        have c30b0 : ((bt (rdOf ByteArray.empty ((rd_T31 l0_2 x25_2).f1) x38_3) x9_5) == 94) = false := beq_eq_false_iff_ne.mpr c30
                        have c30b1 : ((bt (rdOf ByteArray.empty ((rd_T31 l0_2 x25_2).f1) x38_3) x9_5) != 94) = true := bne_iff_ne.mpr c30
                        by_cases c32 : (bt (rdOf ByteArray.empty ((rd_T31 l0_2 x25_2).f1) x38_3) x9_5) = 34
                        ·
                         rw [if_pos c32] at H
                         have c32b0 : ((bt (rdOf ByteArray.empty ((rd_T31 l0_2 x25_2).f1) x38_3) x9_5) == 34) = true := beq_iff_eq.mpr c32
                         have c32b1 : ((bt (rdOf ByteArray.empty ((rd_T31 l0_2 x25_2).f1) x38_3) x9_5) != 34) = false := bne_eq_false_iff_eq.mpr c32
                         clear c32
                         by_cases c33 : x8_5.size + 2 ≤ 9223372036854775807
                         ·
                          rw [if_pos c33] at H
                          have c33b0 := eq_true c33
                          have c33b1 : decide (x8_5.size + 2 ≤ 9223372036854775807) = true := decide_eq_true c33
                          try have c33b2 : (9223372036854775807 < x8_5.size + 2) = False := eq_false (Nat.not_lt.2 c33)
                          have H' := A0q.mk H
                          clear H
                          have p27 : 0 ≤ (x9_5 : Int) := of_decide_eq_true (by first | (with_reducible assumption) | assumption)
                          have q27 : x9_5 < ((rdOf ByteArray.empty ((rd_T31 l0_2 x25_2).f1) x38_3).size : Int) := of_decide_eq_true (by first | (with_reducible assumption) | assumption)
                          have hx27 := bt_at (rdOf ByteArray.empty ((rd_T31 l0_2 x25_2).f1) x38_3) x9_5
                          replace p27 := eq_true p27
                          replace q27 := eq_true q27
                          go_wp2
                          go_roundg k5
                          case measure => have := HJ1.out; have := HK2.out; have := HK3.out; have := HJ21.out; have := HK5.out; omega
                          case rel => exact ⟨(x8_5 ++ (⟨#[94, 39]⟩ : ByteArray)), (wrap64 (x9_5 + 1)), (by first | rfl | (simp; done) | (simp [*]; done)), (by first | rfl | (simp; done) | (simp [*]; done)), H', ⟨by have := HJ1.out; have := HK2.out; have := HK3.out; have := HJ21.out; have := HK5.out; omega⟩, ⟨by (with_reducible repeat (first | refine bkN ?_ _ | refine bkD ?_ | refine bkA ?_ _)); exact BK324.out⟩, ⟨by (with_reducible repeat (first | refine bkN ?_ _ | refine bkD ?_ | refine bkA ?_ _)); exact BK326.out⟩, ⟨by repeat (first | (with_reducible first | exact HB.out | apply bA | apply bdN | apply bd1 | refine bS ?_ GE324.out | refine bS ?_ GE326.out) | exact HB.out)⟩⟩
                         ·
                          rw [if_neg c33] at H
                          exact absurd H (by simp)
                        ·
                         rw [if_neg c32] at H
                         have c32b0 : ((bt (rdOf ByteArray.empty ((rd_T31 l0_2 x25_2).f1) x38_3) x9_5) == 34) = false := beq_eq_false_iff_ne.mpr c32
                         have c32b1 : ((bt (rdOf ByteArray.empty ((rd_T31 l0_2 x25_2).f1) x38_3) x9_5) != 34) = true := bne_iff_ne.mpr c32
                         have c34b0 := eq_true (of_decide_eq_true (by first | (with_reducible assumption) | assumption) : 0 ≤ x9_5)
                         by_cases c35 : x9_5 ≤ (wrap64 (x9_5 + 1))
                         ·
                          rw [if_pos c35] at H
                          have c35b0 := eq_true c35
                          have c35b1 : decide (x9_5 ≤ (wrap64 (x9_5 + 1))) = true := decide_eq_true c35
                          by_cases c36 : (wrap64 (x9_5 + 1)) ≤ ((rdOf ByteArray.empty ((rd_T31 l0_2 x25_2).f1) x38_3).size : Int)
                          ·
                           rw [if_pos c36] at H
                           have c36b0 := eq_true c36
                           have c36b1 : decide ((wrap64 (x9_5 + 1)) ≤ ((rdOf ByteArray.empty ((rd_T31 l0_2 x25_2).f1) x38_3).size : Int)) = true := decide_eq_true c36
                           by_cases c37 : x8_5.size + ((rdOf ByteArray.empty ((rd_T31 l0_2 x25_2).f1) x38_3).extract (x9_5 : Int).toNat ((wrap64 (x9_5 + 1)) : Int).toNat).size ≤ 9223372036854775807
                           ·
                            rw [if_pos c37] at H
                            have c37b0 := eq_true c37
                            have c37b1 : decide (x8_5.size + ((rdOf ByteArray.empty ((rd_T31 l0_2 x25_2).f1) x38_3).extract (x9_5 : Int).toNat ((wrap64 (x9_5 + 1)) : Int).toNat).size ≤ 9223372036854775807) = true := decide_eq_true c37
                            try have c37b2 : (9223372036854775807 < x8_5.size + ((rdOf ByteArray.empty ((rd_T31 l0_2 x25_2).f1) x38_3).extract (x9_5 : Int).toNat ((wrap64 (x9_5 + 1)) : Int).toNat).size) = False := eq_false (Nat.not_lt.2 c37)
                            have H' := A0q.mk H
                            clear H
                            have p27 : 0 ≤ (x9_5 : Int) := of_decide_eq_true (by first | (with_reducible assumption) | assumption)
                            have q27 : x9_5 < ((rdOf ByteArray.empty ((rd_T31 l0_2 x25_2).f1) x38_3).size : Int) := of_decide_eq_true (by first | (with_reducible assumption) | assumption)
                            have hx27 := bt_at (rdOf ByteArray.empty ((rd_T31 l0_2 x25_2).f1) x38_3) x9_5
                            replace p27 := eq_true p27
                            replace q27 := eq_true q27
                            go_wp2
                            go_roundg k5
                            case measure => have := HJ1.out; have := HK2.out; have := HK3.out; have := HJ21.out; have := HK5.out; omega
                            case rel => exact ⟨(x8_5 ++ ((rdOf ByteArray.empty ((rd_T31 l0_2 x25_2).f1) x38_3).extract (x9_5 : Int).toNat ((wrap64 (x9_5 + 1)) : Int).toNat)), (wrap64 (x9_5 + 1)), (by first | rfl | (simp; done) | (simp [*]; done)), (by first | rfl | (simp; done) | (simp [*]; done)), H', ⟨by have := HJ1.out; have := HK2.out; have := HK3.out; have := HJ21.out; have := HK5.out; omega⟩, ⟨by (with_reducible repeat (first | refine bkN ?_ _ | refine bkD ?_ | refine bkA ?_ _)); exact BK324.out⟩, ⟨by (with_reducible repeat (first | refine bkN ?_ _ | refine bkD ?_ | refine bkA ?_ _)); exact BK326.out⟩, ⟨by repeat (first | (with_reducible first | exact HB.out | apply bA | apply bdN | apply bd1 | refine bS ?_ GE324.out | refine bS ?_ GE326.out) | exact HB.out)⟩⟩
                           ·
                            rw [if_neg c37] at H
                            exact absurd H (by simp)
                          ·
                           rw [if_neg c36] at H
                           exact absurd H (by simp)
                         ·
                          rw [if_neg c35] at H
                          exact absurd H (by simp)
                     ·
                      rw [if_neg c26] at H
                      exact absurd H (by simp)
                    ·
                     rw [if_neg c25] at H
                     have c25b0 : decide (x9_5 < ((rdOf ByteArray.empty ((rd_T31 l0_2 x25_2).f1) x38_3).size : Int)) = false := decide_eq_false c25
                     clear c25
                     replace H := Option.bind_eq_some_iff.mp H
                     obtain ⟨t328, A380, H⟩ := H
                     replace H : (if t328 = true then (if 1 + x8_5.size ≤ 9223372036854775807 then (if 1 + x8_5.size + 1 ≤ 9223372036854775807 then (if x3_21.size + 1 + x8_5.size + 1 ≤ 9223372036854775807 then (rPr.l1 k5 (x3_21 ++ (((⟨#[34]⟩ : ByteArray) ++ x8_5) ++ (⟨#[34]⟩ : ByteArray))) l0_2 (l0_2.length : Int) x25_2 ((rd_T31 l0_2 x25_2).f1) (((rd_T31 l0_2 x25_2).f1).length : Int) (wrap64 (x38_3 + 1)) a0_0 a0_1 l0_2 a0_3) else (none)) else (none)) else (none)) else (if x3_21.size + x8_5.size ≤ 9223372036854775807 then (rPr.l1 k5 (x3_21 ++ x8_5) l0_2 (l0_2.length : Int) x25_2 ((rd_T31 l0_2 x25_2).f1) (((rd_T31 l0_2 x25_2).f1).length : Int) (wrap64 (x38_3 + 1)) a0_0 a0_1 l0_2 a0_3) else (none))) = some r := H
                     have A38 := A0q.mk A380
                     clear A380
                     by_cases c39 : t328 = true
                     ·
                      subst c39
                      have H1 : (if 1 + x8_5.size ≤ 9223372036854775807 then (if 1 + x8_5.size + 1 ≤ 9223372036854775807 then (if x3_21.size + 1 + x8_5.size + 1 ≤ 9223372036854775807 then (rPr.l1 k5 (x3_21 ++ (((⟨#[34]⟩ : ByteArray) ++ x8_5) ++ (⟨#[34]⟩ : ByteArray))) l0_2 (l0_2.length : Int) x25_2 ((rd_T31 l0_2 x25_2).f1) (((rd_T31 l0_2 x25_2).f1).length : Int) (wrap64 (x38_3 + 1)) a0_0 a0_1 l0_2 a0_3) else (none)) else (none)) else (none)) = some r := by rw [if_pos rfl] at H; exact H
                      clear H
                      have H := H1
                      clear H1
                      by_cases c40 : 1 + x8_5.size ≤ 9223372036854775807
                      ·
                       rw [if_pos c40] at H
                       have c40b0 := eq_true c40
                       have c40b1 : decide (1 + x8_5.size ≤ 9223372036854775807) = true := decide_eq_true c40
                       try have c40b2 : (9223372036854775807 < 1 + x8_5.size) = False := eq_false (Nat.not_lt.2 c40)
                       by_cases c41 : 1 + x8_5.size + 1 ≤ 9223372036854775807
                       ·
                        rw [if_pos c41] at H
                        have c41b0 := eq_true c41
                        have c41b1 : decide (1 + x8_5.size + 1 ≤ 9223372036854775807) = true := decide_eq_true c41
                        try have c41b2 : (9223372036854775807 < 1 + x8_5.size + 1) = False := eq_false (Nat.not_lt.2 c41)
                        by_cases c42 : x3_21.size + 1 + x8_5.size + 1 ≤ 9223372036854775807
                        ·
                         rw [if_pos c42] at H
                         have c42b0 := eq_true c42
                         have c42b1 : decide (x3_21.size + 1 + x8_5.size + 1 ≤ 9223372036854775807) = true := decide_eq_true c42
                         try have c42b2 : (9223372036854775807 < x3_21.size + 1 + x8_5.size + 1) = False := eq_false (Nat.not_lt.2 c42)
                         have H' := A0q.mk H
                         clear H
                         go_wp2_with (first | ((with_reducible refine gC (f := 55) rfl ?_); refine goesL_ (some 76) rfl rfl Tryz.func55 (by kernel_rfl) rfl #[.string x8_5, .string (⟨#[44, 59, 58]⟩ : ByteArray)] rfl (by (try simp only [List.map_toArray, List.map_cons, List.map_nil]); first | done | rfl | (simp only [List.length_drop, List.length_take]; rfl)) ?_; (with_reducible refine (rHa.calls k5 x8_5 (⟨#[44, 59, 58]⟩ : ByteArray) true _ A38.out).mono ?_); rintro e w' ⟨rfl, ⟨nd, rfl⟩⟩; refine ⟨_, rfl, ?_⟩))
                         go_roundg k5
                         case measure => have := HJ1.out; have := HK2.out; have := HK3.out; have := HJ21.out; have := HK5.out; omega
                         case rel => exact ⟨(x3_21 ++ (((⟨#[34]⟩ : ByteArray) ++ x8_5) ++ (⟨#[34]⟩ : ByteArray))), (wrap64 (x38_3 + 1)), (by first | rfl | (simp; done) | (simp [*]; done)), (by first | rfl | (simp; done) | (simp [*]; done)), H', ⟨by have := HJ1.out; have := HK2.out; have := HK3.out; have := HJ21.out; have := HK5.out; omega⟩, ⟨by (with_reducible repeat (first | refine bkN ?_ _ | refine bkD ?_ | refine bkA ?_ _)); exact BK324.out⟩, ⟨by (with_reducible repeat (first | refine bkN ?_ _ | refine bkD ?_ | refine bkA ?_ _)); exact BK326.out⟩, ⟨by repeat (first | (with_reducible first | exact HB.out | apply bA | apply bdN | apply bd1 | refine bS ?_ GE324.out | refine bS ?_ GE326.out) | exact HB.out)⟩⟩
                        ·
                         rw [if_neg c42] at H
                         exact absurd H (by simp)
                       ·
                        rw [if_neg c41] at H
                        exact absurd H (by simp)
                      ·
                       rw [if_neg c40] at H
                       exact absurd H (by simp)
                     ·
                      replace c39 := Bool.eq_false_iff.mpr c39
                      subst c39
                      have H1 : (if x3_21.size + x8_5.size ≤ 9223372036854775807 then (rPr.l1 k5 (x3_21 ++ x8_5) l0_2 (l0_2.length : Int) x25_2 ((rd_T31 l0_2 x25_2).f1) (((rd_T31 l0_2 x25_2).f1).length : Int) (wrap64 (x38_3 + 1)) a0_0 a0_1 l0_2 a0_3) else (none)) = some r := by rw [if_neg (show ¬ (false = true) by decide)] at H; exact H
                      clear H
                      have H := H1
                      clear H1
                      by_cases c43 : x3_21.size + x8_5.size ≤ 9223372036854775807
                      ·
                       rw [if_pos c43] at H
                       have c43b0 := eq_true c43
                       have c43b1 : decide (x3_21.size + x8_5.size ≤ 9223372036854775807) = true := decide_eq_true c43
                       try have c43b2 : (9223372036854775807 < x3_21.size + x8_5.size) = False := eq_false (Nat.not_lt.2 c43)
                       have H' := A0q.mk H
                       clear H
                       go_wp2_with (first | ((with_reducible refine gC (f := 55) rfl ?_); refine goesL_ (some 76) rfl rfl Tryz.func55 (by kernel_rfl) rfl #[.string x8_5, .string (⟨#[44, 59, 58]⟩ : ByteArray)] rfl (by (try simp only [List.map_toArray, List.map_cons, List.map_nil]); first | done | rfl | (simp only [List.length_drop, List.length_take]; rfl)) ?_; (with_reducible refine (rHa.calls k5 x8_5 (⟨#[44, 59, 58]⟩ : ByteArray) false _ A38.out).mono ?_); rintro e w' ⟨rfl, ⟨nd, rfl⟩⟩; refine ⟨_, rfl, ?_⟩))
                       go_roundg k5
                       case measure => have := HJ1.out; have := HK2.out; have := HK3.out; have := HJ21.out; have := HK5.out; omega
                       case rel => exact ⟨(x3_21 ++ x8_5), (wrap64 (x38_3 + 1)), (by first | rfl | (simp; done) | (simp [*]; done)), (by first | rfl | (simp; done) | (simp [*]; done)), H', ⟨by have := HJ1.out; have := HK2.out; have := HK3.out; have := HJ21.out; have := HK5.out; omega⟩, ⟨by (with_reducible repeat (first | refine bkN ?_ _ | refine bkD ?_ | refine bkA ?_ _)); exact BK324.out⟩, ⟨by (with_reducible repeat (first | refine bkN ?_ _ | refine bkD ?_ | refine bkA ?_ _)); exact BK326.out⟩, ⟨by repeat (first | (with_reducible first | exact HB.out | apply bA | apply bdN | apply bd1 | refine bS ?_ GE324.out | refine bS ?_ GE326.out) | exact HB.out)⟩⟩
                      ·
                       rw [if_neg c43] at H
                       exact absurd H (by simp)
               ·
                rw [if_neg c21] at H
                exact absurd H (by simp)
              ·
               rw [if_neg c20] at H
               exact absurd H (by simp)
             ·
              rw [if_neg c19] at H
              have c19b0 : decide (x38_3 < (((rd_T31 l0_2 x25_2).f1).length : Int)) = false := decide_eq_false c19
              clear c19
              have H' := A0q.mk H
              clear H
              go_wp2
              go_roundg k3
              case measure => have := HJ1.out; have := HK2.out; have := HK3.out; omega
              case rel => exact ⟨(x3_3), (wrap64 (x25_2 + 1)), (by first | rfl | (simp; done) | (simp [*]; done)), (by first | rfl | (simp; done) | (simp [*]; done)), H', ⟨by have := HJ1.out; have := HK2.out; have := HK3.out; omega⟩, ⟨by (with_reducible repeat (first | refine bkN ?_ _ | refine bkD ?_ | refine bkA ?_ _)); exact BK324.out⟩, ⟨by repeat (first | (with_reducible first | exact HB.out | apply bA | apply bdN | apply bd1 | refine bS ?_ GE324.out | refine bS ?_ GE326.out) | exact HB.out)⟩⟩
          ·
           rw [if_neg c15] at H
           exact absurd H (by simp)
         ·
          rw [if_neg c14] at H
          exact absurd H (by simp)
        ·
         rw [if_neg c13] at H
         exact absurd H (by simp)
       ·
        rw [if_neg c12] at H
        exact absurd H (by simp)
      ·
       rw [if_neg c11] at H
       exact absurd H (by simp)
     ·
      rw [if_neg c10] at H
      have c10b0 : decide (x25_2 < (l0_2.length : Int)) = false := decide_eq_false c10
      clear c10
      by_cases c44 : x3_2.size + 1 ≤ 9223372036854775807
      ·
       rw [if_pos c44] at H
       have c44b0 := eq_true c44
       have c44b1 : decide (x3_2.size + 1 ≤ 9223372036854775807) = true := decide_eq_true c44
       try have c44b2 : (9223372036854775807 < x3_2.size + 1) = False := eq_false (Nat.not_lt.2 c44)
       by_cases c45 : x3_2.size + 1 + a0_3.size ≤ 9223372036854775807
       ·
        rw [if_pos c45] at H
        have c45b0 := eq_true c45
        have c45b1 : decide (x3_2.size + 1 + a0_3.size ≤ 9223372036854775807) = true := decide_eq_true c45
        try have c45b2 : (9223372036854775807 < x3_2.size + 1 + a0_3.size) = False := eq_false (Nat.not_lt.2 c45)
        obtain rfl := Option.some.inj H
        have hcz46_0 : wr.cell? ⟨gb324, 0, none⟩ = some (.string a0_0) := (bkC BK324.out 0).trans rfl
        have hcz46_1 : wr.cell? ⟨gb324, 1, none⟩ = some (.string a0_1) := (bkC BK324.out 1).trans rfl
        have hcz46_2 : wr.cell? ⟨gb324, 2, none⟩ = some (.slice A0_2 l0_2.length c0_2) := (bkC BK324.out 2).trans rfl
        have hcz46_3 : wr.cell? ⟨gb324, 3, none⟩ = some (.string a0_3) := (bkC BK324.out 3).trans rfl
        have hfz46_0 := bkF BK324.out 0
        have hfz46_1 := bkF BK324.out 1
        have hfz46_2 := bkF BK324.out 2
        have hfz46_3 := bkF BK324.out 3
        go_wp2
        go_ret
        exact ⟨by first | rfl | (simp [eWn, eWs] <;> rfl) | (simp [*, eWn, eWs] <;> rfl), by repeat (first | (with_reducible first | exact HB.out | apply bA | apply bdN | apply bd1 | refine bS ?_ GE324.out) | exact HB.out)⟩
       ·
        rw [if_neg c45] at H
        exact absurd H (by simp)
      ·
       rw [if_neg c44] at H
       exact absurd H (by simp)
end Go.Proofs.YthabooeapfepnaaGreatDoor.PL
