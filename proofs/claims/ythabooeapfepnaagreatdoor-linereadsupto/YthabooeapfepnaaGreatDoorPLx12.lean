import Derived.Test.YthabooeapfepnaaGreatDoorPLx0
import Derived.Test.YthabooeapfepnaaGreatDoorPLx9
import Derived.Test.YthabooeapfepnaaGreatDoorPLx10
import Derived.Test.YthabooeapfepnaaGreatDoorPLx11
namespace Go.Proofs.YthabooeapfepnaaGreatDoor.PL
open Go.RowKit Go.Proofs.YthabooeapfepnaaGreatDoor.Given Go.Proofs.YthabooeapfepnaaGreatDoorW.PrintWords Go.Proofs.YthabooeapfepnaaGreatDoorW.PrintLast Go.Proofs.YthabooeapfepnaaGreatDoorW.PrintMore
attribute [local go_sem] max2_int min2_int max_two min_two max_three min_three max_four min_four   -- for this text's walks alone
set_option linter.unusedVariables false
set_option linter.unusedSimpArgs false
mutual
def rSv.j0 : Nat → Int → Bool → ByteArray → Int → Int → Option (ByteArray × ByteArray × Int × Int)
 | 0, _, _, _, _, _ => none
 | k + 1, x3, x29, x1000, x1001, x1002 => if x29 = true then (rSv.l0 k x3 x1000 (wrap64 (x1001 + 1)) x1002) else (rSv.l1 k x3 x1000 x1001 x1002)
def rSv.j2 : Nat → Int → ByteArray → Int → Int → Option (ByteArray × ByteArray × Int × Int)
 | 0, _, _, _, _ => none
 | k + 1, x3, x1000, x1001, x1002 => if x1001 = (x1000.size : Int) then (if x1002 = 0 then (some ((⟨#[]⟩ : ByteArray), x1000, x1001, 31)) else (some ((⟨#[]⟩ : ByteArray), x1000, x1001, x1002))) else (if 0 ≤ (wrap64 (x3 + 1)) then (if (wrap64 (x3 + 1)) ≤ (wrap64 ((wrap64 (x1001 + 1)) - 1)) then (if (wrap64 ((wrap64 (x1001 + 1)) - 1)) ≤ (x1000.size : Int) then ((rMe.f k (x1000.extract ((wrap64 (x3 + 1)) : Int).toNat ((wrap64 ((wrap64 (x1001 + 1)) - 1)) : Int).toNat)).bind fun t276 => (some (t276, x1000, wrap64 (x1001 + 1), x1002))) else (none)) else (none)) else (none))
def rSv.l0 : Nat → Int → ByteArray → Int → Int → Option (ByteArray × ByteArray × Int × Int)
 | 0, _, _, _, _ => none
 | k + 1, x3, x1000, x1001, x1002 => if x1001 < (x1000.size : Int) then (if 0 ≤ x1001 then (if (bt x1000 x1001) = 34 then (rSv.j2 k x3 x1000 x1001 x1002) else (rSv.l0 k x3 x1000 (wrap64 (x1001 + 1)) x1002)) else (none)) else (rSv.j2 k x3 x1000 x1001 x1002)
def rSv.l1 : Nat → Int → ByteArray → Int → Int → Option (ByteArray × ByteArray × Int × Int)
 | 0, _, _, _, _ => none
 | k + 1, x3, x1000, x1001, x1002 => if x1001 < (x1000.size : Int) then (if 0 ≤ x1001 then (if x1001 ≤ (wrap64 (x1001 + 1)) then (if (wrap64 (x1001 + 1)) ≤ (x1000.size : Int) then ((rHa.f k (x1000.extract (x1001 : Int).toNat ((wrap64 (x1001 + 1)) : Int).toNat) (⟨#[44, 59, 58, 34]⟩ : ByteArray)).bind fun t277 => (if t277 = true then (if 0 ≤ x3 then (if x3 ≤ x1001 then (if x1001 ≤ (x1000.size : Int) then ((rMe.f k (x1000.extract (x3 : Int).toNat (x1001 : Int).toNat)).bind fun t278 => (some (t278, x1000, x1001, x1002))) else (none)) else (none)) else (none)) else (rSv.l1 k x3 x1000 (wrap64 (x1001 + 1)) x1002))) else (none)) else (none)) else (none)) else (if 0 ≤ x3 then (if x3 ≤ x1001 then (if x1001 ≤ (x1000.size : Int) then ((rMe.f k (x1000.extract (x3 : Int).toNat (x1001 : Int).toNat)).bind fun t279 => (some (t279, x1000, x1001, x1002))) else (none)) else (none)) else (none))
end
def rSv.f (k : Nat) (s0_0 : ByteArray) (s0_1 : Int) (s0_2 : Int) : Option (ByteArray × ByteArray × Int × Int) := if s0_1 < (s0_0.size : Int) then (if 0 ≤ s0_1 then (rSv.j0 k s0_1 ((bt s0_0 s0_1) == 34) s0_0 s0_1 s0_2) else (none)) else (rSv.j0 k s0_1 false s0_0 s0_1 s0_2)
set_option maxHeartbeats 8000000 in
set_option maxRecDepth 100000 in
theorem rSv.calls (k : Nat) (g : Nat) (s0_0 : ByteArray) (s0_1 : Int) (s0_2 : Int) (r1 : ByteArray) (r2 : ByteArray) (r3 : Int) (r4 : Int) (w0 w : World) (hI : I79 w0 w g s0_0 s0_1 s0_2) (hB : Below w0.heap.size w0 w) (h : rSv.f k s0_0 s0_1 s0_2 = some (r1, r2, r3, r4)) :
  Calls Tryz.prog 58 #[.pointer (some ⟨g, 0, none⟩)] w fun e w' => e = .returned (.string r1) ∧ I79 w0 w' g r2 r3 r4 ∧ Below w0.heap.size w0 w' ∧ KpB w w' g none := by
 have HI0 := A0q.mk hI
 have HK := A0q.mk (KpB.refl w g none)
 have HL := A0q.mk hB.size
 clear hI
 have HW0 := A0q.mk hB.size
 have HB := A0q.mk hB
 clear hB
 have H : (if s0_1 < (s0_0.size : Int) then (if 0 ≤ s0_1 then (rSv.j0 k s0_1 ((bt s0_0 s0_1) == 34) s0_0 s0_1 s0_2) else (none)) else (rSv.j0 k s0_1 false s0_0 s0_1 s0_2)) = some (r1, r2, r3, r4) := h
 clear h
 have HC2 := A0q.mk H
 clear H
 obtain ⟨HGz3, hgz3⟩ := HI0.out
 have hcz3_0 := cellS79_0 HGz3
 have hcz3_1 := cellS79_1 HGz3
 have hcz3_2 := cellS79_2 HGz3
 have hfz3_0 := bkF HGz3 0
 have hfz3_1 := bkF HGz3 1
 have hfz3_2 := bkF HGz3 2
 clear HGz3 hgz3
 go_enter Tryz.func58, Tryz.ntmps58
 go_upto_region 2 with (fail)
 repeat (go_quiet (fail); go_upto_region 2 with (fail))
 go_cut [29] (fun v29 wc => ∃ (kq : Nat) (x29_1 : Bool), v29 = .bool x29_1 ∧ A0q (rSv.j0 kq s0_1 x29_1 s0_0 s0_1 s0_2 = some (r1, r2, r3, r4)) ∧ A0q (kq ≤ k) ∧ A0q (I79 w0 wc g s0_0 s0_1 s0_2) ∧ A0q (KpB w wc g none) ∧ A0q (Below w0.heap.size w0 wc))
 case first =>
  have H := HC2.out
  clear HC2
  by_cases c4 : s0_1 < (s0_0.size : Int)
  ·
   rw [if_pos c4] at H
   have c4b0 : decide (s0_1 < (s0_0.size : Int)) = true := decide_eq_true c4
   clear c4
   (first | rw [c4b0] | (simp only [i64_w, i32_w]; rw [c4b0]) | rw [c4b1] | skip)
   by_cases c5 : 0 ≤ s0_1
   ·
    rw [if_pos c5] at H
    have c5b0 : decide (0 ≤ s0_1) = true := decide_eq_true c5
    clear c5
    have H' := A0q.mk H
    clear H
    obtain ⟨HGz7, hgz7⟩ := HI0.out
    have hcz7_0 := cellS79_0 HGz7
    have hcz7_1 := cellS79_1 HGz7
    have hcz7_2 := cellS79_2 HGz7
    have hfz7_0 := bkF HGz7 0
    have hfz7_1 := bkF HGz7 1
    have hfz7_2 := bkF HGz7 2
    clear HGz7 hgz7
    have p6 : 0 ≤ (s0_1 : Int) := of_decide_eq_true (by first | (with_reducible assumption) | assumption)
    have q6 : s0_1 < (s0_0.size : Int) := of_decide_eq_true (by first | (with_reducible assumption) | assumption)
    have hx6 := bt_at s0_0 s0_1
    replace p6 := eq_true p6
    replace q6 := eq_true q6
    go_wp2
    repeat (go_quiet (fail); try go_wp2)
    go_meet
    case rel => exact ⟨_, (((bt s0_0 s0_1) == 34)), (by first | rfl | (simp; done) | (simp [*]; done)), H', ⟨by first | omega | exact Nat.le_refl _⟩, ⟨by repeat (first | (with_reducible first | exact HI0.out | apply I79.alloc | apply I79.drewN | apply I79.drew | apply I79.set_0 | apply I79.set_1 | apply I79.set_2) | exact HI0.out)⟩, ⟨by repeat (first | (with_reducible first | exact HK.out | apply KpB.set_ | apply kdN | apply kD | apply kA) | exact HK.out)⟩, ⟨by repeat (first | (with_reducible first | exact HB.out | apply bA | apply bdN | apply bd1 | refine bS ?_ (I79.ge HI0.out)) | exact HB.out)⟩⟩
   ·
    rw [if_neg c5] at H
    exact absurd H (by simp)
  ·
   rw [if_neg c4] at H
   have c4b0 : decide (s0_1 < (s0_0.size : Int)) = false := decide_eq_false c4
   clear c4
   (first | rw [c4b0] | (simp only [i64_w, i32_w]; rw [c4b0]) | rw [c4b1] | skip)
   have H' := A0q.mk H
   clear H
   obtain ⟨HGz8, hgz8⟩ := HI0.out
   have hcz8_0 := cellS79_0 HGz8
   have hcz8_1 := cellS79_1 HGz8
   have hcz8_2 := cellS79_2 HGz8
   have hfz8_0 := bkF HGz8 0
   have hfz8_1 := bkF HGz8 1
   have hfz8_2 := bkF HGz8 2
   clear HGz8 hgz8
   go_wp2
   repeat (go_quiet (fail); try go_wp2)
   go_meet
   case rel => exact ⟨_, (false), (by first | rfl | (simp; done) | (simp [*]; done)), H', ⟨by first | omega | exact Nat.le_refl _⟩, ⟨by repeat (first | (with_reducible first | exact HI0.out | apply I79.alloc | apply I79.drewN | apply I79.drew | apply I79.set_0 | apply I79.set_1 | apply I79.set_2) | exact HI0.out)⟩, ⟨by repeat (first | (with_reducible first | exact HK.out | apply KpB.set_ | apply kdN | apply kD | apply kA) | exact HK.out)⟩, ⟨by repeat (first | (with_reducible first | exact HB.out | apply bA | apply bdN | apply bd1 | refine bS ?_ (I79.ge HI0.out)) | exact HB.out)⟩⟩
 case rest =>
  clear HC2
  try clear p2
  try clear c4
  try clear c4b0
  try clear c4b1
  try clear c5
  try clear c5b0
  try clear p6
  try clear q6
  try clear hx6
  try clear hcz3_0
  try clear hcz3_1
  try clear hcz3_2
  try clear hcz7_0
  try clear hcz7_1
  try clear hcz7_2
  try clear hcz8_0
  try clear hcz8_1
  try clear hcz8_2
  try clear hfz3_0
  try clear hfz3_1
  try clear hfz3_2
  try clear hfz7_0
  try clear hfz7_1
  try clear hfz7_2
  try clear hfz8_0
  try clear hfz8_1
  try clear hfz8_2
  try clear p6
  try clear q6
  obtain ⟨kq, x29_1, rfl, HA, HJ1, HI0, HK, HB⟩ := hcut
  cases kq with
  | zero => exact absurd HA.out (by simp [rSv.j0])
  | succ kj1 =>
   have H := HA.out
   clear HA
   simp only [rSv.j0] at H
   by_cases c9 : x29_1 = true
   ·
    subst c9
    have H1 : (rSv.l0 kj1 s0_1 s0_0 (wrap64 (s0_1 + 1)) s0_2) = some (r1, r2, r3, r4) := by rw [if_pos rfl] at H; exact H
    clear H
    have H := H1
    clear H1
    have HC10 := A0q.mk H
    clear H
    obtain ⟨HGz11, hgz11⟩ := HI0.out
    have hcz11_0 := cellS79_0 HGz11
    have hcz11_1 := cellS79_1 HGz11
    have hcz11_2 := cellS79_2 HGz11
    have hfz11_0 := bkF HGz11 0
    have hfz11_1 := bkF HGz11 1
    have hfz11_2 := bkF HGz11 2
    clear HGz11 hgz11
    go_upto_block 0 with (fail)
    repeat (go_quiet (fail); go_upto_block 0 with (fail))
    go_cut [] (fun wc => ∃ (kq : Nat) (x1001_9 : Int), A0q (rSv.j2 kq s0_1 s0_0 x1001_9 s0_2 = some (r1, r2, r3, r4)) ∧ A0q (kq ≤ kj1) ∧ A0q (I79 w0 wc g s0_0 x1001_9 s0_2) ∧ A0q (KpB w wc g none) ∧ A0q (Below w0.heap.size w0 wc))
    case first =>
     have H := HC10.out
     clear HC10
     have H' := A0q.mk H
     clear H
     go_wp2
     repeat (go_quiet (fail); try go_wp2)
     go_loopg [] kj1 (fun kq w' => ∃ (x1001_2 : Int), A0q (rSv.l0 kq s0_1 s0_0 x1001_2 s0_2 = some (r1, r2, r3, r4)) ∧ A0q (kq ≤ kj1) ∧ A0q (I79 w0 w' g s0_0 x1001_2 s0_2) ∧ A0q (KpB w w' g none) ∧ A0q (Below w0.heap.size w0 w'))
     case atStart => exact ⟨(wrap64 (s0_1 + 1)), H', ⟨Nat.le_refl _⟩, ⟨by repeat (first | (with_reducible first | exact HI0.out | apply I79.alloc | apply I79.drewN | apply I79.drew | apply I79.set_0 | apply I79.set_1 | apply I79.set_2) | exact HI0.out)⟩, ⟨by repeat (first | (with_reducible first | exact HK.out | apply KpB.set_ | apply kdN | apply kD | apply kA) | exact HK.out)⟩, ⟨by repeat (first | (with_reducible first | exact HB.out | apply bA | apply bdN | apply bd1 | refine bS ?_ (I79.ge HI0.out)) | exact HB.out)⟩⟩
     case round =>
      clear H'
      try clear p2
      try clear c4
      try clear c4b0
      try clear c4b1
      try clear c5
      try clear c5b0
      try clear p6
      try clear q6
      try clear hx6
      try clear c9
      try clear hcz11_0
      try clear hcz11_1
      try clear hcz11_2
      try clear hcz3_0
      try clear hcz3_1
      try clear hcz3_2
      try clear hcz7_0
      try clear hcz7_1
      try clear hcz7_2
      try clear hcz8_0
      try clear hcz8_1
      try clear hcz8_2
      try clear hfz11_0
      try clear hfz11_1
      try clear hfz11_2
      try clear hfz3_0
      try clear hfz3_1
      try clear hfz3_2
      try clear hfz7_0
      try clear hfz7_1
      try clear hfz7_2
      try clear hfz8_0
      try clear hfz8_1
      try clear hfz8_2
      try clear p2
      try clear p6
      try clear q6
      obtain ⟨x1001_2, HA, HK2, HI0, HK, HB⟩ := hrel
      cases gk with
      | zero => exact absurd HA.out (by simp [rSv.l0])
      | succ k2 =>
       have H := HA.out
       clear HA
       simp only [rSv.l0] at H
       by_cases c12 : x1001_2 < (s0_0.size : Int)
       ·
        rw [if_pos c12] at H
        have c12b0 : decide (x1001_2 < (s0_0.size : Int)) = true := decide_eq_true c12
        clear c12
        (first | rw [c12b0] | (simp only [i64_w, i32_w]; rw [c12b0]) | rw [c12b1] | skip)
        by_cases c13 : 0 ≤ x1001_2
        ·
         rw [if_pos c13] at H
         have c13b0 : decide (0 ≤ x1001_2) = true := decide_eq_true c13
         clear c13
         by_cases c15 : (bt s0_0 x1001_2) = 34
         ·
          rw [if_pos c15] at H
          have c15b0 : ((bt s0_0 x1001_2) == 34) = true := beq_iff_eq.mpr c15
          have c15b1 : ((bt s0_0 x1001_2) != 34) = false := bne_eq_false_iff_eq.mpr c15
          clear c15
          have H' := A0q.mk H
          clear H
          obtain ⟨HGz16, hgz16⟩ := HI0.out
          have hcz16_0 := cellS79_0 HGz16
          have hcz16_1 := cellS79_1 HGz16
          have hcz16_2 := cellS79_2 HGz16
          have hfz16_0 := bkF HGz16 0
          have hfz16_1 := bkF HGz16 1
          have hfz16_2 := bkF HGz16 2
          clear HGz16 hgz16
          have p14 : 0 ≤ (x1001_2 : Int) := of_decide_eq_true (by first | (with_reducible assumption) | assumption)
          have q14 : x1001_2 < (s0_0.size : Int) := of_decide_eq_true (by first | (with_reducible assumption) | assumption)
          have hx14 := bt_at s0_0 x1001_2
          replace p14 := eq_true p14
          replace q14 := eq_true q14
          go_wp2
          repeat (go_quiet (fail); try go_wp2)
          go_meet
          case rel => exact ⟨_, (x1001_2), H', ⟨by have := HJ1.out; have := HK2.out; first | omega | exact Nat.le_refl _⟩, ⟨by repeat (first | (with_reducible first | exact HI0.out | apply I79.alloc | apply I79.drewN | apply I79.drew | apply I79.set_0 | apply I79.set_1 | apply I79.set_2) | exact HI0.out)⟩, ⟨by repeat (first | (with_reducible first | exact HK.out | apply KpB.set_ | apply kdN | apply kD | apply kA) | exact HK.out)⟩, ⟨by repeat (first | (with_reducible first | exact HB.out | apply bA | apply bdN | apply bd1 | refine bS ?_ (I79.ge HI0.out)) | exact HB.out)⟩⟩
         ·
          rw [if_neg c15] at H
          have c15b0 : ((bt s0_0 x1001_2) == 34) = false := beq_eq_false_iff_ne.mpr c15
          have c15b1 : ((bt s0_0 x1001_2) != 34) = true := bne_iff_ne.mpr c15
          have H' := A0q.mk H
          clear H
          obtain ⟨HGz17, hgz17⟩ := HI0.out
          have hcz17_0 := cellS79_0 HGz17
          have hcz17_1 := cellS79_1 HGz17
          have hcz17_2 := cellS79_2 HGz17
          have hfz17_0 := bkF HGz17 0
          have hfz17_1 := bkF HGz17 1
          have hfz17_2 := bkF HGz17 2
          clear HGz17 hgz17
          have p14 : 0 ≤ (x1001_2 : Int) := of_decide_eq_true (by first | (with_reducible assumption) | assumption)
          have q14 : x1001_2 < (s0_0.size : Int) := of_decide_eq_true (by first | (with_reducible assumption) | assumption)
          have hx14 := bt_at s0_0 x1001_2
          replace p14 := eq_true p14
          replace q14 := eq_true q14
          go_wp2
          repeat (go_quiet (fail); try go_wp2)
          go_roundg k2
          case measure => have := HJ1.out; have := HK2.out; omega
          case rel => exact ⟨(wrap64 (x1001_2 + 1)), H', ⟨by have := HJ1.out; have := HK2.out; omega⟩, ⟨by repeat (first | (with_reducible first | exact HI0.out | apply I79.alloc | apply I79.drewN | apply I79.drew | apply I79.set_0 | apply I79.set_1 | apply I79.set_2) | exact HI0.out)⟩, ⟨by repeat (first | (with_reducible first | exact HK.out | apply KpB.set_ | apply kdN | apply kD | apply kA) | exact HK.out)⟩, ⟨by repeat (first | (with_reducible first | exact HB.out | apply bA | apply bdN | apply bd1 | refine bS ?_ (I79.ge HI0.out)) | exact HB.out)⟩⟩
        ·
         rw [if_neg c13] at H
         exact absurd H (by simp)
       ·
        rw [if_neg c12] at H
        have c12b0 : decide (x1001_2 < (s0_0.size : Int)) = false := decide_eq_false c12
        clear c12
        (first | rw [c12b0] | (simp only [i64_w, i32_w]; rw [c12b0]) | rw [c12b1] | skip)
        have H' := A0q.mk H
        clear H
        obtain ⟨HGz18, hgz18⟩ := HI0.out
        have hcz18_0 := cellS79_0 HGz18
        have hcz18_1 := cellS79_1 HGz18
        have hcz18_2 := cellS79_2 HGz18
        have hfz18_0 := bkF HGz18 0
        have hfz18_1 := bkF HGz18 1
        have hfz18_2 := bkF HGz18 2
        clear HGz18 hgz18
        go_wp2
        repeat (go_quiet (fail); try go_wp2)
        go_meet
        case rel => exact ⟨_, (x1001_2), H', ⟨by have := HJ1.out; have := HK2.out; first | omega | exact Nat.le_refl _⟩, ⟨by repeat (first | (with_reducible first | exact HI0.out | apply I79.alloc | apply I79.drewN | apply I79.drew | apply I79.set_0 | apply I79.set_1 | apply I79.set_2) | exact HI0.out)⟩, ⟨by repeat (first | (with_reducible first | exact HK.out | apply KpB.set_ | apply kdN | apply kD | apply kA) | exact HK.out)⟩, ⟨by repeat (first | (with_reducible first | exact HB.out | apply bA | apply bdN | apply bd1 | refine bS ?_ (I79.ge HI0.out)) | exact HB.out)⟩⟩
    case rest =>
     clear HC10
     try clear c1
     try clear p1
     try clear q1
     try clear hx1
     try clear p2
     try clear c4
     try clear c4b0
     try clear c4b1
     try clear c5
     try clear c5b0
     try clear p6
     try clear q6
     try clear hx6
     try clear c9
     try clear c12
     try clear c12b0
     try clear c12b1
     try clear c13
     try clear c13b0
     try clear p14
     try clear q14
     try clear hx14
     try clear c15
     try clear c15b0
     try clear c15b1
     try clear hcz11_0
     try clear hcz11_1
     try clear hcz11_2
     try clear hcz16_0
     try clear hcz16_1
     try clear hcz16_2
     try clear hcz17_0
     try clear hcz17_1
     try clear hcz17_2
     try clear hcz18_0
     try clear hcz18_1
     try clear hcz18_2
     try clear hcz3_0
     try clear hcz3_1
     try clear hcz3_2
     try clear hcz7_0
     try clear hcz7_1
     try clear hcz7_2
     try clear hcz8_0
     try clear hcz8_1
     try clear hcz8_2
     try clear hfz11_0
     try clear hfz11_1
     try clear hfz11_2
     try clear hfz16_0
     try clear hfz16_1
     try clear hfz16_2
     try clear hfz17_0
     try clear hfz17_1
     try clear hfz17_2
     try clear hfz18_0
     try clear hfz18_1
     try clear hfz18_2
     try clear hfz3_0
     try clear hfz3_1
     try clear hfz3_2
     try clear hfz7_0
     try clear hfz7_1
     try clear hfz7_2
     try clear hfz8_0
     try clear hfz8_1
     try clear hfz8_2
     try clear p14
     try clear p2
     try clear p6
     try clear q14
     try clear q6
     obtain ⟨kq, x1001_9, HA, HJ9, HI0, HK, HB⟩ := hcut
     cases kq with
     | zero => exact absurd HA.out (by simp [rSv.j2])
     | succ kj9 =>
      have H := HA.out
      clear HA
      simp only [rSv.j2] at H
      by_cases c19 : x1001_9 = (s0_0.size : Int)
      ·
       rw [if_pos c19] at H
       have c19b0 : (x1001_9 == (s0_0.size : Int)) = true := beq_iff_eq.mpr c19
       have c19b1 : (x1001_9 != (s0_0.size : Int)) = false := bne_eq_false_iff_eq.mpr c19
       clear c19
       by_cases c20 : s0_2 = 0
       ·
        rw [if_pos c20] at H
        have c20b0 : (s0_2 == 0) = true := beq_iff_eq.mpr c20
        have c20b1 : (s0_2 != 0) = false := bne_eq_false_iff_eq.mpr c20
        clear c20
        simp only [Option.some.injEq, Prod.mk.injEq] at H
        obtain ⟨rfl, rfl, rfl, rfl⟩ := H
        obtain ⟨HGz21, hgz21⟩ := HI0.out
        have hcz21_0 := cellS79_0 HGz21
        have hcz21_1 := cellS79_1 HGz21
        have hcz21_2 := cellS79_2 HGz21
        have hfz21_0 := bkF HGz21 0
        have hfz21_1 := bkF HGz21 1
        have hfz21_2 := bkF HGz21 2
        clear HGz21 hgz21
        go_wp2
        repeat (go_quiet (fail); try go_wp2)
        go_ret
        exact ⟨by first | rfl | (simp [eWn, eWs] <;> rfl) | (simp [*, eWn, eWs] <;> rfl), by repeat (first | (with_reducible first | exact HI0.out | apply I79.alloc | apply I79.drewN | apply I79.drew | apply I79.set_0 | apply I79.set_1 | apply I79.set_2) | exact HI0.out), by repeat (first | (with_reducible first | exact HB.out | apply bA | apply bdN | apply bd1 | refine bS ?_ (I79.ge HI0.out)) | exact HB.out), by repeat (first | (with_reducible first | exact HK.out | apply KpB.set_ | apply kdN | apply kD | apply kA) | exact HK.out)⟩
       ·
        rw [if_neg c20] at H
        have c20b0 : (s0_2 == 0) = false := beq_eq_false_iff_ne.mpr c20
        have c20b1 : (s0_2 != 0) = true := bne_iff_ne.mpr c20
        simp only [Option.some.injEq, Prod.mk.injEq] at H
        obtain ⟨rfl, rfl, rfl, rfl⟩ := H
        obtain ⟨HGz22, hgz22⟩ := HI0.out
        have hcz22_0 := cellS79_0 HGz22
        have hcz22_1 := cellS79_1 HGz22
        have hcz22_2 := cellS79_2 HGz22
        have hfz22_0 := bkF HGz22 0
        have hfz22_1 := bkF HGz22 1
        have hfz22_2 := bkF HGz22 2
        clear HGz22 hgz22
        go_wp2
        repeat (go_quiet (fail); try go_wp2)
        go_ret
        exact ⟨by first | rfl | (simp [eWn, eWs] <;> rfl) | (simp [*, eWn, eWs] <;> rfl), by repeat (first | (with_reducible first | exact HI0.out | apply I79.alloc | apply I79.drewN | apply I79.drew | apply I79.set_0 | apply I79.set_1 | apply I79.set_2) | exact HI0.out), by repeat (first | (with_reducible first | exact HB.out | apply bA | apply bdN | apply bd1 | refine bS ?_ (I79.ge HI0.out)) | exact HB.out), by repeat (first | (with_reducible first | exact HK.out | apply KpB.set_ | apply kdN | apply kD | apply kA) | exact HK.out)⟩
      ·
       rw [if_neg c19] at H
       have c19b0 : (x1001_9 == (s0_0.size : Int)) = false := beq_eq_false_iff_ne.mpr c19
       have c19b1 : (x1001_9 != (s0_0.size : Int)) = true := bne_iff_ne.mpr c19
       obtain ⟨ji23, hji23⟩ : ∃ j_ : Int, (wrap64 (s0_1 + 1)) = j_ := ⟨_, rfl⟩
       replace H : (if 0 ≤ (ji23) then (if (ji23) ≤ (wrap64 ((wrap64 (x1001_9 + 1)) - 1)) then (if (wrap64 ((wrap64 (x1001_9 + 1)) - 1)) ≤ (s0_0.size : Int) then ((rMe.f kj9 (s0_0.extract ((ji23) : Int).toNat ((wrap64 ((wrap64 (x1001_9 + 1)) - 1)) : Int).toNat)).bind fun t276 => (some (t276, s0_0, wrap64 (x1001_9 + 1), s0_2))) else (none)) else (none)) else (none)) = some (r1, r2, r3, r4) := by first | (rw [hji23] at H; exact H) | (simp only [hji23] at H ⊢; exact H)
       have hji23w : (IntKind.i64.wrap (s0_1 + 1)) = ji23 := (i64_w _).trans hji23
       by_cases c24 : 0 ≤ (ji23)
       ·
        rw [if_pos c24] at H
        have c24b0 := eq_true c24
        have c24b1 : decide (0 ≤ (ji23)) = true := decide_eq_true c24
        clear c24
        by_cases c25 : (ji23) ≤ (wrap64 ((wrap64 (x1001_9 + 1)) - 1))
        ·
         rw [if_pos c25] at H
         have c25b0 := eq_true c25
         have c25b1 : decide ((ji23) ≤ (wrap64 ((wrap64 (x1001_9 + 1)) - 1))) = true := decide_eq_true c25
         by_cases c26 : (wrap64 ((wrap64 (x1001_9 + 1)) - 1)) ≤ (s0_0.size : Int)
         ·
          rw [if_pos c26] at H
          have c26b0 := eq_true c26
          have c26b1 : decide ((wrap64 ((wrap64 (x1001_9 + 1)) - 1)) ≤ (s0_0.size : Int)) = true := decide_eq_true c26
          replace H := Option.bind_eq_some_iff.mp H
          obtain ⟨t276, A270, H⟩ := H
          replace H : (some (t276, s0_0, wrap64 (x1001_9 + 1), s0_2)) = some (r1, r2, r3, r4) := H
          have A27 := A0q.mk A270
          clear A270
          simp only [Option.some.injEq, Prod.mk.injEq] at H
          obtain ⟨rfl, rfl, rfl, rfl⟩ := H
          obtain ⟨HGz28, hgz28⟩ := HI0.out
          have hcz28_0 := cellS79_0 HGz28
          have hcz28_1 := cellS79_1 HGz28
          have hcz28_2 := cellS79_2 HGz28
          have hfz28_0 := bkF HGz28 0
          have hfz28_1 := bkF HGz28 1
          have hfz28_2 := bkF HGz28 2
          clear HGz28 hgz28
          go_wp2_with (first | (go_at_call 91; (with_reducible refine (rMe.calls kj9 (s0_0.extract ((ji23) : Int).toNat ((wrap64 ((wrap64 (x1001_9 + 1)) - 1)) : Int).toNat) t276 _ A27.out).mono ?_); rintro e w' ⟨rfl, ⟨nd, rfl⟩⟩; (try first | exact ⟨rfl, _, World.drewN_drewN _ _ _⟩ | exact ⟨rfl, _, Eq.trans (World.drewN_drewN _ _ _) (congrArg (World.drewN _) (Nat.add_assoc _ _ _))⟩)))
          repeat (go_quiet (first | (go_at_call 91; (with_reducible refine (rMe.calls kj9 (s0_0.extract ((ji23) : Int).toNat ((wrap64 ((wrap64 (x1001_9 + 1)) - 1)) : Int).toNat) t276 _ A27.out).mono ?_); rintro e w' ⟨rfl, ⟨nd, rfl⟩⟩; (try first | exact ⟨rfl, _, World.drewN_drewN _ _ _⟩ | exact ⟨rfl, _, Eq.trans (World.drewN_drewN _ _ _) (congrArg (World.drewN _) (Nat.add_assoc _ _ _))⟩))); try go_wp2_with (first | (go_at_call 91; (with_reducible refine (rMe.calls kj9 (s0_0.extract ((ji23) : Int).toNat ((wrap64 ((wrap64 (x1001_9 + 1)) - 1)) : Int).toNat) t276 _ A27.out).mono ?_); rintro e w' ⟨rfl, ⟨nd, rfl⟩⟩; (try first | exact ⟨rfl, _, World.drewN_drewN _ _ _⟩ | exact ⟨rfl, _, Eq.trans (World.drewN_drewN _ _ _) (congrArg (World.drewN _) (Nat.add_assoc _ _ _))⟩))))
          go_ret
          exact ⟨by first | rfl | (simp [eWn, eWs] <;> rfl) | (simp only [← hji23]; first | rfl | (simp [eWn, eWs] <;> rfl)) | (simp [*, eWn, eWs] <;> rfl), by repeat (first | (with_reducible first | exact HI0.out | apply I79.alloc | apply I79.drewN | apply I79.drew | apply I79.set_0 | apply I79.set_1 | apply I79.set_2) | exact HI0.out), by repeat (first | (with_reducible first | exact HB.out | apply bA | apply bdN | apply bd1 | refine bS ?_ (I79.ge HI0.out)) | exact HB.out), by repeat (first | (with_reducible first | exact HK.out | apply KpB.set_ | apply kdN | apply kD | apply kA) | exact HK.out)⟩
         ·
          rw [if_neg c26] at H
          exact absurd H (by simp)
        ·
         rw [if_neg c25] at H
         exact absurd H (by simp)
       ·
        rw [if_neg c24] at H
        exact absurd H (by simp)
   ·
    replace c9 := Bool.eq_false_iff.mpr c9
    subst c9
    have H1 : (rSv.l1 kj1 s0_1 s0_0 s0_1 s0_2) = some (r1, r2, r3, r4) := by rw [if_neg (show ¬ (false = true) by decide)] at H; exact H
    clear H
    have H := H1
    clear H1
    have H' := A0q.mk H
    clear H
    go_wp2
    repeat (go_quiet (fail); try go_wp2)
    go_loopg [] kj1 (fun kq w' => ∃ (x1001_2 : Int), A0q (rSv.l1 kq s0_1 s0_0 x1001_2 s0_2 = some (r1, r2, r3, r4)) ∧ A0q (kq ≤ kj1) ∧ A0q (I79 w0 w' g s0_0 x1001_2 s0_2) ∧ A0q (KpB w w' g none) ∧ A0q (Below w0.heap.size w0 w'))
    case atStart => exact ⟨(s0_1), H', ⟨Nat.le_refl _⟩, ⟨by repeat (first | (with_reducible first | exact HI0.out | apply I79.alloc | apply I79.drewN | apply I79.drew | apply I79.set_0 | apply I79.set_1 | apply I79.set_2) | exact HI0.out)⟩, ⟨by repeat (first | (with_reducible first | exact HK.out | apply KpB.set_ | apply kdN | apply kD | apply kA) | exact HK.out)⟩, ⟨by repeat (first | (with_reducible first | exact HB.out | apply bA | apply bdN | apply bd1 | refine bS ?_ (I79.ge HI0.out)) | exact HB.out)⟩⟩
    case round =>
     clear H'
     try clear c1
     try clear p1
     try clear q1
     try clear hx1
     try clear c2
     try clear p2
     try clear c4
     try clear c4b0
     try clear c4b1
     try clear c5
     try clear c5b0
     try clear p6
     try clear q6
     try clear hx6
     try clear c9
     try clear c12
     try clear c12b0
     try clear c12b1
     try clear c13
     try clear c13b0
     try clear p14
     try clear q14
     try clear hx14
     try clear c15
     try clear c15b0
     try clear c15b1
     try clear c19
     try clear c19b0
     try clear c19b1
     try clear c20
     try clear c20b0
     try clear c20b1
     try clear c24
     try clear c24b0
     try clear c24b1
     try clear c25
     try clear c25b0
     try clear c25b1
     try clear c26
     try clear c26b0
     try clear c26b1
     try clear hcz11_0
     try clear hcz11_1
     try clear hcz11_2
     try clear hcz16_0
     try clear hcz16_1
     try clear hcz16_2
     try clear hcz17_0
     try clear hcz17_1
     try clear hcz17_2
     try clear hcz18_0
     try clear hcz18_1
     try clear hcz18_2
     try clear hcz21_0
     try clear hcz21_1
     try clear hcz21_2
     try clear hcz22_0
     try clear hcz22_1
     try clear hcz22_2
     try clear hcz28_0
     try clear hcz28_1
     try clear hcz28_2
     try clear hcz3_0
     try clear hcz3_1
     try clear hcz3_2
     try clear hcz7_0
     try clear hcz7_1
     try clear hcz7_2
     try clear hcz8_0
     try clear hcz8_1
     try clear hcz8_2
     try clear hfz11_0
     try clear hfz11_1
     try clear hfz11_2
     try clear hfz16_0
     try clear hfz16_1
     try clear hfz16_2
     try clear hfz17_0
     try clear hfz17_1
     try clear hfz17_2
     try clear hfz18_0
     try clear hfz18_1
     try clear hfz18_2
     try clear hfz21_0
     try clear hfz21_1
     try clear hfz21_2
     try clear hfz22_0
     try clear hfz22_1
     try clear hfz22_2
     try clear hfz28_0
     try clear hfz28_1
     try clear hfz28_2
     try clear hfz3_0
     try clear hfz3_1
     try clear hfz3_2
     try clear hfz7_0
     try clear hfz7_1
     try clear hfz7_2
     try clear hfz8_0
     try clear hfz8_1
     try clear hfz8_2
     try clear p1
     try clear p14
     try clear p2
     try clear p6
     try clear q1
     try clear q14
     try clear q6
     obtain ⟨x1001_2, HA, HK2, HI0, HK, HB⟩ := hrel
     cases gk with
     | zero => exact absurd HA.out (by simp [rSv.l1])
     | succ k2 =>
      have H := HA.out
      clear HA
      simp only [rSv.l1] at H
      by_cases c29 : x1001_2 < (s0_0.size : Int)
      ·
       rw [if_pos c29] at H
       have c29b0 : decide (x1001_2 < (s0_0.size : Int)) = true := decide_eq_true c29
       clear c29
       by_cases c30 : 0 ≤ x1001_2
       ·
        rw [if_pos c30] at H
        have c30b0 := eq_true c30
        have c30b1 : decide (0 ≤ x1001_2) = true := decide_eq_true c30
        clear c30
        by_cases c31 : x1001_2 ≤ (wrap64 (x1001_2 + 1))
        ·
         rw [if_pos c31] at H
         have c31b0 := eq_true c31
         have c31b1 : decide (x1001_2 ≤ (wrap64 (x1001_2 + 1))) = true := decide_eq_true c31
         by_cases c32 : (wrap64 (x1001_2 + 1)) ≤ (s0_0.size : Int)
         ·
          rw [if_pos c32] at H
          have c32b0 := eq_true c32
          have c32b1 : decide ((wrap64 (x1001_2 + 1)) ≤ (s0_0.size : Int)) = true := decide_eq_true c32
          replace H := Option.bind_eq_some_iff.mp H
          obtain ⟨t277, A330, H⟩ := H
          replace H : (if t277 = true then (if 0 ≤ s0_1 then (if s0_1 ≤ x1001_2 then (if x1001_2 ≤ (s0_0.size : Int) then ((rMe.f k2 (s0_0.extract (s0_1 : Int).toNat (x1001_2 : Int).toNat)).bind fun t278 => (some (t278, s0_0, x1001_2, s0_2))) else (none)) else (none)) else (none)) else (rSv.l1 k2 s0_1 s0_0 (wrap64 (x1001_2 + 1)) s0_2)) = some (r1, r2, r3, r4) := H
          have A33 := A0q.mk A330
          clear A330
          by_cases c34 : t277 = true
          ·
           subst c34
           have H1 : (if 0 ≤ s0_1 then (if s0_1 ≤ x1001_2 then (if x1001_2 ≤ (s0_0.size : Int) then ((rMe.f k2 (s0_0.extract (s0_1 : Int).toNat (x1001_2 : Int).toNat)).bind fun t278 => (some (t278, s0_0, x1001_2, s0_2))) else (none)) else (none)) else (none)) = some (r1, r2, r3, r4) := by rw [if_pos rfl] at H; exact H
           clear H
           have H := H1
           clear H1
           by_cases c35 : 0 ≤ s0_1
           ·
            rw [if_pos c35] at H
            have c35b0 := eq_true c35
            have c35b1 : decide (0 ≤ s0_1) = true := decide_eq_true c35
            clear c35
            by_cases c36 : s0_1 ≤ x1001_2
            ·
             rw [if_pos c36] at H
             have c36b0 := eq_true c36
             have c36b1 : decide (s0_1 ≤ x1001_2) = true := decide_eq_true c36
             clear c36
             by_cases c37 : x1001_2 ≤ (s0_0.size : Int)
             ·
              rw [if_pos c37] at H
              have c37b0 := eq_true c37
              have c37b1 : decide (x1001_2 ≤ (s0_0.size : Int)) = true := decide_eq_true c37
              clear c37
              replace H := Option.bind_eq_some_iff.mp H
              obtain ⟨t278, A380, H⟩ := H
              replace H : (some (t278, s0_0, x1001_2, s0_2)) = some (r1, r2, r3, r4) := H
              have A38 := A0q.mk A380
              clear A380
              simp only [Option.some.injEq, Prod.mk.injEq] at H
              obtain ⟨rfl, rfl, rfl, rfl⟩ := H
              obtain ⟨HGz39, hgz39⟩ := HI0.out
              have hcz39_0 := cellS79_0 HGz39
              have hcz39_1 := cellS79_1 HGz39
              have hcz39_2 := cellS79_2 HGz39
              have hfz39_0 := bkF HGz39 0
              have hfz39_1 := bkF HGz39 1
              have hfz39_2 := bkF HGz39 2
              clear HGz39 hgz39
              go_wp2_with (first | (go_at_call 55; (with_reducible refine (rHa.calls k2 (s0_0.extract (x1001_2 : Int).toNat ((wrap64 (x1001_2 + 1)) : Int).toNat) (⟨#[44, 59, 58, 34]⟩ : ByteArray) true _ A33.out).mono ?_); rintro e w' ⟨rfl, ⟨nd, rfl⟩⟩; (try first | exact ⟨rfl, _, World.drewN_drewN _ _ _⟩ | exact ⟨rfl, _, Eq.trans (World.drewN_drewN _ _ _) (congrArg (World.drewN _) (Nat.add_assoc _ _ _))⟩)) | (go_at_call 91; (with_reducible refine (rMe.calls k2 (s0_0.extract (s0_1 : Int).toNat (x1001_2 : Int).toNat) t278 _ A38.out).mono ?_); rintro e w' ⟨rfl, ⟨nd, rfl⟩⟩; (try first | exact ⟨rfl, _, World.drewN_drewN _ _ _⟩ | exact ⟨rfl, _, Eq.trans (World.drewN_drewN _ _ _) (congrArg (World.drewN _) (Nat.add_assoc _ _ _))⟩)))
              repeat (go_quiet (first | (go_at_call 55; (with_reducible refine (rHa.calls k2 (s0_0.extract (x1001_2 : Int).toNat ((wrap64 (x1001_2 + 1)) : Int).toNat) (⟨#[44, 59, 58, 34]⟩ : ByteArray) true _ A33.out).mono ?_); rintro e w' ⟨rfl, ⟨nd, rfl⟩⟩; (try first | exact ⟨rfl, _, World.drewN_drewN _ _ _⟩ | exact ⟨rfl, _, Eq.trans (World.drewN_drewN _ _ _) (congrArg (World.drewN _) (Nat.add_assoc _ _ _))⟩)) | (go_at_call 91; (with_reducible refine (rMe.calls k2 (s0_0.extract (s0_1 : Int).toNat (x1001_2 : Int).toNat) t278 _ A38.out).mono ?_); rintro e w' ⟨rfl, ⟨nd, rfl⟩⟩; (try first | exact ⟨rfl, _, World.drewN_drewN _ _ _⟩ | exact ⟨rfl, _, Eq.trans (World.drewN_drewN _ _ _) (congrArg (World.drewN _) (Nat.add_assoc _ _ _))⟩))); try go_wp2_with (first | (go_at_call 55; (with_reducible refine (rHa.calls k2 (s0_0.extract (x1001_2 : Int).toNat ((wrap64 (x1001_2 + 1)) : Int).toNat) (⟨#[44, 59, 58, 34]⟩ : ByteArray) true _ A33.out).mono ?_); rintro e w' ⟨rfl, ⟨nd, rfl⟩⟩; (try first | exact ⟨rfl, _, World.drewN_drewN _ _ _⟩ | exact ⟨rfl, _, Eq.trans (World.drewN_drewN _ _ _) (congrArg (World.drewN _) (Nat.add_assoc _ _ _))⟩)) | (go_at_call 91; (with_reducible refine (rMe.calls k2 (s0_0.extract (s0_1 : Int).toNat (x1001_2 : Int).toNat) t278 _ A38.out).mono ?_); rintro e w' ⟨rfl, ⟨nd, rfl⟩⟩; (try first | exact ⟨rfl, _, World.drewN_drewN _ _ _⟩ | exact ⟨rfl, _, Eq.trans (World.drewN_drewN _ _ _) (congrArg (World.drewN _) (Nat.add_assoc _ _ _))⟩))))
              go_ret
              exact ⟨by first | rfl | (simp [eWn, eWs] <;> rfl) | (simp [*, eWn, eWs] <;> rfl), by repeat (first | (with_reducible first | exact HI0.out | apply I79.alloc | apply I79.drewN | apply I79.drew | apply I79.set_0 | apply I79.set_1 | apply I79.set_2) | exact HI0.out), by repeat (first | (with_reducible first | exact HB.out | apply bA | apply bdN | apply bd1 | refine bS ?_ (I79.ge HI0.out)) | exact HB.out), by repeat (first | (with_reducible first | exact HK.out | apply KpB.set_ | apply kdN | apply kD | apply kA) | exact HK.out)⟩
             ·
              rw [if_neg c37] at H
              exact absurd H (by simp)
            ·
             rw [if_neg c36] at H
             exact absurd H (by simp)
           ·
            rw [if_neg c35] at H
            exact absurd H (by simp)
          ·
           replace c34 := Bool.eq_false_iff.mpr c34
           subst c34
           have H1 : (rSv.l1 k2 s0_1 s0_0 (wrap64 (x1001_2 + 1)) s0_2) = some (r1, r2, r3, r4) := by rw [if_neg (show ¬ (false = true) by decide)] at H; exact H
           clear H
           have H := H1
           clear H1
           have H' := A0q.mk H
           clear H
           obtain ⟨HGz40, hgz40⟩ := HI0.out
           have hcz40_0 := cellS79_0 HGz40
           have hcz40_1 := cellS79_1 HGz40
           have hcz40_2 := cellS79_2 HGz40
           have hfz40_0 := bkF HGz40 0
           have hfz40_1 := bkF HGz40 1
           have hfz40_2 := bkF HGz40 2
           clear HGz40 hgz40
           go_wp2_with (first | (go_at_call 55; (with_reducible refine (rHa.calls k2 (s0_0.extract (x1001_2 : Int).toNat ((wrap64 (x1001_2 + 1)) : Int).toNat) (⟨#[44, 59, 58, 34]⟩ : ByteArray) false _ A33.out).mono ?_); rintro e w' ⟨rfl, ⟨nd, rfl⟩⟩; (try first | exact ⟨rfl, _, World.drewN_drewN _ _ _⟩ | exact ⟨rfl, _, Eq.trans (World.drewN_drewN _ _ _) (congrArg (World.drewN _) (Nat.add_assoc _ _ _))⟩)))
           repeat (go_quiet (first | (go_at_call 55; (with_reducible refine (rHa.calls k2 (s0_0.extract (x1001_2 : Int).toNat ((wrap64 (x1001_2 + 1)) : Int).toNat) (⟨#[44, 59, 58, 34]⟩ : ByteArray) false _ A33.out).mono ?_); rintro e w' ⟨rfl, ⟨nd, rfl⟩⟩; (try first | exact ⟨rfl, _, World.drewN_drewN _ _ _⟩ | exact ⟨rfl, _, Eq.trans (World.drewN_drewN _ _ _) (congrArg (World.drewN _) (Nat.add_assoc _ _ _))⟩))); try go_wp2_with (first | (go_at_call 55; (with_reducible refine (rHa.calls k2 (s0_0.extract (x1001_2 : Int).toNat ((wrap64 (x1001_2 + 1)) : Int).toNat) (⟨#[44, 59, 58, 34]⟩ : ByteArray) false _ A33.out).mono ?_); rintro e w' ⟨rfl, ⟨nd, rfl⟩⟩; (try first | exact ⟨rfl, _, World.drewN_drewN _ _ _⟩ | exact ⟨rfl, _, Eq.trans (World.drewN_drewN _ _ _) (congrArg (World.drewN _) (Nat.add_assoc _ _ _))⟩))))
           go_roundg k2
           case measure => have := HJ1.out; have := HK2.out; omega
           case rel => exact ⟨(wrap64 (x1001_2 + 1)), H', ⟨by have := HJ1.out; have := HK2.out; omega⟩, ⟨by repeat (first | (with_reducible first | exact HI0.out | apply I79.alloc | apply I79.drewN | apply I79.drew | apply I79.set_0 | apply I79.set_1 | apply I79.set_2) | exact HI0.out)⟩, ⟨by repeat (first | (with_reducible first | exact HK.out | apply KpB.set_ | apply kdN | apply kD | apply kA) | exact HK.out)⟩, ⟨by repeat (first | (with_reducible first | exact HB.out | apply bA | apply bdN | apply bd1 | refine bS ?_ (I79.ge HI0.out)) | exact HB.out)⟩⟩
         ·
          rw [if_neg c32] at H
          exact absurd H (by simp)
        ·
         rw [if_neg c31] at H
         exact absurd H (by simp)
       ·
        rw [if_neg c30] at H
        exact absurd H (by simp)
      ·
       rw [if_neg c29] at H
       have c29b0 : decide (x1001_2 < (s0_0.size : Int)) = false := decide_eq_false c29
       clear c29
       by_cases c41 : 0 ≤ s0_1
       ·
        rw [if_pos c41] at H
        have c41b0 := eq_true c41
        have c41b1 : decide (0 ≤ s0_1) = true := decide_eq_true c41
        clear c41
        by_cases c42 : s0_1 ≤ x1001_2
        ·
         rw [if_pos c42] at H
         have c42b0 := eq_true c42
         have c42b1 : decide (s0_1 ≤ x1001_2) = true := decide_eq_true c42
         clear c42
         by_cases c43 : x1001_2 ≤ (s0_0.size : Int)
         ·
          rw [if_pos c43] at H
          have c43b0 := eq_true c43
          have c43b1 : decide (x1001_2 ≤ (s0_0.size : Int)) = true := decide_eq_true c43
          clear c43
          replace H := Option.bind_eq_some_iff.mp H
          obtain ⟨t279, A440, H⟩ := H
          replace H : (some (t279, s0_0, x1001_2, s0_2)) = some (r1, r2, r3, r4) := H
          have A44 := A0q.mk A440
          clear A440
          simp only [Option.some.injEq, Prod.mk.injEq] at H
          obtain ⟨rfl, rfl, rfl, rfl⟩ := H
          obtain ⟨HGz45, hgz45⟩ := HI0.out
          have hcz45_0 := cellS79_0 HGz45
          have hcz45_1 := cellS79_1 HGz45
          have hcz45_2 := cellS79_2 HGz45
          have hfz45_0 := bkF HGz45 0
          have hfz45_1 := bkF HGz45 1
          have hfz45_2 := bkF HGz45 2
          clear HGz45 hgz45
          go_wp2_with (first | (go_at_call 91; (with_reducible refine (rMe.calls k2 (s0_0.extract (s0_1 : Int).toNat (x1001_2 : Int).toNat) t279 _ A44.out).mono ?_); rintro e w' ⟨rfl, ⟨nd, rfl⟩⟩; (try first | exact ⟨rfl, _, World.drewN_drewN _ _ _⟩ | exact ⟨rfl, _, Eq.trans (World.drewN_drewN _ _ _) (congrArg (World.drewN _) (Nat.add_assoc _ _ _))⟩)))
          repeat (go_quiet (first | (go_at_call 91; (with_reducible refine (rMe.calls k2 (s0_0.extract (s0_1 : Int).toNat (x1001_2 : Int).toNat) t279 _ A44.out).mono ?_); rintro e w' ⟨rfl, ⟨nd, rfl⟩⟩; (try first | exact ⟨rfl, _, World.drewN_drewN _ _ _⟩ | exact ⟨rfl, _, Eq.trans (World.drewN_drewN _ _ _) (congrArg (World.drewN _) (Nat.add_assoc _ _ _))⟩))); try go_wp2_with (first | (go_at_call 91; (with_reducible refine (rMe.calls k2 (s0_0.extract (s0_1 : Int).toNat (x1001_2 : Int).toNat) t279 _ A44.out).mono ?_); rintro e w' ⟨rfl, ⟨nd, rfl⟩⟩; (try first | exact ⟨rfl, _, World.drewN_drewN _ _ _⟩ | exact ⟨rfl, _, Eq.trans (World.drewN_drewN _ _ _) (congrArg (World.drewN _) (Nat.add_assoc _ _ _))⟩))))
          go_ret
          exact ⟨by first | rfl | (simp [eWn, eWs] <;> rfl) | (simp [*, eWn, eWs] <;> rfl), by repeat (first | (with_reducible first | exact HI0.out | apply I79.alloc | apply I79.drewN | apply I79.drew | apply I79.set_0 | apply I79.set_1 | apply I79.set_2) | exact HI0.out), by repeat (first | (with_reducible first | exact HB.out | apply bA | apply bdN | apply bd1 | refine bS ?_ (I79.ge HI0.out)) | exact HB.out), by repeat (first | (with_reducible first | exact HK.out | apply KpB.set_ | apply kdN | apply kD | apply kA) | exact HK.out)⟩
         ·
          rw [if_neg c43] at H
          exact absurd H (by simp)
        ·
         rw [if_neg c42] at H
         exact absurd H (by simp)
       ·
        rw [if_neg c41] at H
        exact absurd H (by simp)
end Go.Proofs.YthabooeapfepnaaGreatDoor.PL
