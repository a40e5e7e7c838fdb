import Derived.Test.YthabooeapfepnaaGreatDoorPLx0
namespace Go.Proofs.YthabooeapfepnaaGreatDoor.PL
open Go.RowKit Go.Proofs.YthabooeapfepnaaGreatDoor.Given Go.Proofs.YthabooeapfepnaaGreatDoorW.PrintWords Go.Proofs.YthabooeapfepnaaGreatDoorW.PrintLast Go.Proofs.YthabooeapfepnaaGreatDoorW.PrintMore
attribute [local go_sem] max2_int min2_int max_two min_two max_three min_three max_four min_four   -- for this text's walks alone
set_option linter.unusedVariables false
set_option linter.unusedSimpArgs false
mutual
def rMe.l0 : Nat → ByteArray → ByteArray → Int → Option (ByteArray)
 | 0, _, _, _ => none
 | k + 1, x0, x3, x4 => if x4 < (x0.size : Int) then (if 0 ≤ x4 then (if (bt x0 x4) = 94 then (rMe.j1 k x0 x3 x4 (decide ((wrap64 (x4 + 1)) < (x0.size : Int)))) else (rMe.j1 k x0 x3 x4 false)) else (none)) else (some x3)
def rMe.j1 : Nat → ByteArray → ByteArray → Int → Bool → Option (ByteArray)
 | 0, _, _, _, _ => none
 | k + 1, x0, x3, x4, x21 => if x21 = true then (if 0 ≤ (wrap64 (x4 + 1)) then (if (wrap64 (x4 + 1)) < (x0.size : Int) then (if (bt x0 (wrap64 (x4 + 1))) = 110 then (if x3.size + 1 ≤ 9223372036854775807 then (rMe.l0 k x0 (x3 ++ (⟨#[10]⟩ : ByteArray)) (wrap64 ((wrap64 (x4 + 1)) + 1))) else (none)) else (if (bt x0 (wrap64 (x4 + 1))) = 94 then (if x3.size + 1 ≤ 9223372036854775807 then (rMe.l0 k x0 (x3 ++ (⟨#[94]⟩ : ByteArray)) (wrap64 ((wrap64 (x4 + 1)) + 1))) else (none)) else (if (bt x0 (wrap64 (x4 + 1))) = 39 then (if x3.size + 1 ≤ 9223372036854775807 then (rMe.l0 k x0 (x3 ++ (⟨#[34]⟩ : ByteArray)) (wrap64 ((wrap64 (x4 + 1)) + 1))) else (none)) else (if 0 ≤ x4 then (if x4 ≤ (wrap64 (x4 + 1)) then (if (wrap64 (x4 + 1)) ≤ (x0.size : Int) then (if x3.size + (x0.extract (x4 : Int).toNat ((wrap64 (x4 + 1)) : Int).toNat).size ≤ 9223372036854775807 then (rMe.l0 k x0 (x3 ++ (x0.extract (x4 : Int).toNat ((wrap64 (x4 + 1)) : Int).toNat)) (wrap64 (x4 + 1))) else (none)) else (none)) else (none)) else (none))))) else (none)) else (none)) else (if 0 ≤ x4 then (if x4 ≤ (wrap64 (x4 + 1)) then (if (wrap64 (x4 + 1)) ≤ (x0.size : Int) then (if x3.size + (x0.extract (x4 : Int).toNat ((wrap64 (x4 + 1)) : Int).toNat).size ≤ 9223372036854775807 then (rMe.l0 k x0 (x3 ++ (x0.extract (x4 : Int).toNat ((wrap64 (x4 + 1)) : Int).toNat)) (wrap64 (x4 + 1))) else (none)) else (none)) else (none)) else (none))
end
def rMe.f (k : Nat) (a0 : ByteArray) : Option (ByteArray) := rMe.l0 k a0 (⟨#[]⟩ : ByteArray) 0
set_option maxHeartbeats 8000000 in
set_option maxRecDepth 100000 in
theorem rMe.calls (k : Nat) (a0 : ByteArray) (r : ByteArray) (w : World) (h : rMe.f k a0 = some r) :
  Calls Tryz.prog 91 #[.string a0] w fun e w' => e = .returned (.string r) ∧ Dr0 w w' := by
 have H : (rMe.l0 k a0 (⟨#[]⟩ : ByteArray) 0) = some r := h
 clear h
 have H' := A0q.mk H
 clear H
 go_enter Tryz.func91, Tryz.ntmps91
 go_wp2
 go_loopg [3, 4] k (fun kq v3 v4 w' => ∃ (x3_1 : ByteArray) (x4_1 : Int), v3 = .string x3_1 ∧ v4 = .int .i64 x4_1 ∧ A0q (rMe.l0 kq a0 x3_1 x4_1 = some r) ∧ A0q (kq ≤ k) ∧ Dr0 w w')
 case atStart => exact ⟨((⟨#[]⟩ : ByteArray)), (0), (by first | rfl | (simp; done) | (simp [*]; done)), (by first | rfl | (simp; done) | (simp [*]; done)), H', ⟨Nat.le_refl _⟩, by repeat (first | exact Dr0.refl _ | apply Dr0.step)⟩
 case round =>
  clear H'
  obtain ⟨x3_1, x4_1, rfl, rfl, HA, HK1, ⟨m1, rfl⟩⟩ := hrel
  cases gk with
  | zero => exact absurd HA.out (by simp [rMe.l0])
  | succ k1 =>
   have H := HA.out
   clear HA
   simp only [rMe.l0] at H
   by_cases c2 : x4_1 < (a0.size : Int)
   ·
    rw [if_pos c2] at H
    have c2b0 : decide (x4_1 < (a0.size : Int)) = true := decide_eq_true c2
    clear c2
    have HC3 := A0q.mk H
    clear H
    go_upto_region 5 with (fail)
    go_cut [21] (fun v21 wc => ∃ (kq : Nat) (x21_2 : Bool), v21 = .bool x21_2 ∧ A0q (rMe.j1 kq a0 x3_1 x4_1 x21_2 = some r) ∧ A0q (kq ≤ k1) ∧ Dr0 w wc)
    case first =>
     have H := HC3.out
     clear HC3
     by_cases c4 : 0 ≤ x4_1
     ·
      rw [if_pos c4] at H
      have c4b0 : decide (0 ≤ x4_1) = true := decide_eq_true c4
      clear c4
      (first | rw [c4b0] | (simp only [i64_w, i32_w]; rw [c4b0]) | rw [c4b1] | skip)
      by_cases c6 : (bt a0 x4_1) = 94
      ·
       rw [if_pos c6] at H
       have c6b0 : ((bt a0 x4_1) == 94) = true := beq_iff_eq.mpr c6
       have c6b1 : ((bt a0 x4_1) != 94) = false := bne_eq_false_iff_eq.mpr c6
       clear c6
       have H' := A0q.mk H
       clear H
       have p5 : 0 ≤ (x4_1 : Int) := of_decide_eq_true (by first | (with_reducible assumption) | assumption)
       have q5 : x4_1 < (a0.size : Int) := of_decide_eq_true (by first | (with_reducible assumption) | assumption)
       have hx5 := bt_at a0 x4_1
       replace p5 := eq_true p5
       replace q5 := eq_true q5
       go_wp2
       go_meet
       case rel => exact ⟨_, (decide ((wrap64 (x4_1 + 1)) < (a0.size : Int))), (by first | rfl | (simp; done) | (simp [*]; done)), H', ⟨by have := HK1.out; first | omega | exact Nat.le_refl _⟩, by repeat (first | exact Dr0.refl _ | apply Dr0.step)⟩
      ·
       rw [if_neg c6] at H
       have c6b0 : ((bt a0 x4_1) == 94) = false := beq_eq_false_iff_ne.mpr c6
       have c6b1 : ((bt a0 x4_1) != 94) = true := bne_iff_ne.mpr c6
       have H' := A0q.mk H
       clear H
       have p5 : 0 ≤ (x4_1 : Int) := of_decide_eq_true (by first | (with_reducible assumption) | assumption)
       have q5 : x4_1 < (a0.size : Int) := of_decide_eq_true (by first | (with_reducible assumption) | assumption)
       have hx5 := bt_at a0 x4_1
       replace p5 := eq_true p5
       replace q5 := eq_true q5
       go_wp2
       go_meet
       case rel => exact ⟨_, (false), (by first | rfl | (simp; done) | (simp [*]; done)), H', ⟨by have := HK1.out; first | omega | exact Nat.le_refl _⟩, by repeat (first | exact Dr0.refl _ | apply Dr0.step)⟩
     ·
      rw [if_neg c4] at H
      exact absurd H (by simp)
    case rest =>
     clear HC3
     try clear c2
     try clear c2b0
     try clear p2
     try clear c4
     try clear c4b0
     try clear c4b1
     try clear p5
     try clear q5
     try clear hx5
     try clear c6
     try clear c6b0
     try clear c6b1
     try clear p6
     try clear p5
     try clear q5
     obtain ⟨kq, x21_2, rfl, HA, HJ2, ⟨mc2, rfl⟩⟩ := hcut
     cases kq with
     | zero => exact absurd HA.out (by simp [rMe.j1])
     | succ kj2 =>
      have H := HA.out
      clear HA
      simp only [rMe.j1] at H
      by_cases c7 : x21_2 = true
      ·
       subst c7
       have H1 : (if 0 ≤ (wrap64 (x4_1 + 1)) then (if (wrap64 (x4_1 + 1)) < (a0.size : Int) then (if (bt a0 (wrap64 (x4_1 + 1))) = 110 then (if x3_1.size + 1 ≤ 9223372036854775807 then (rMe.l0 kj2 a0 (x3_1 ++ (⟨#[10]⟩ : ByteArray)) (wrap64 ((wrap64 (x4_1 + 1)) + 1))) else (none)) else (if (bt a0 (wrap64 (x4_1 + 1))) = 94 then (if x3_1.size + 1 ≤ 9223372036854775807 then (rMe.l0 kj2 a0 (x3_1 ++ (⟨#[94]⟩ : ByteArray)) (wrap64 ((wrap64 (x4_1 + 1)) + 1))) else (none)) else (if (bt a0 (wrap64 (x4_1 + 1))) = 39 then (if x3_1.size + 1 ≤ 9223372036854775807 then (rMe.l0 kj2 a0 (x3_1 ++ (⟨#[34]⟩ : ByteArray)) (wrap64 ((wrap64 (x4_1 + 1)) + 1))) else (none)) else (if 0 ≤ x4_1 then (if x4_1 ≤ (wrap64 (x4_1 + 1)) then (if (wrap64 (x4_1 + 1)) ≤ (a0.size : Int) then (if x3_1.size + (a0.extract (x4_1 : Int).toNat ((wrap64 (x4_1 + 1)) : Int).toNat).size ≤ 9223372036854775807 then (rMe.l0 kj2 a0 (x3_1 ++ (a0.extract (x4_1 : Int).toNat ((wrap64 (x4_1 + 1)) : Int).toNat)) (wrap64 (x4_1 + 1))) else (none)) else (none)) else (none)) else (none))))) else (none)) else (none)) = some r := by rw [if_pos rfl] at H; exact H
       clear H
       have H := H1
       clear H1
       obtain ⟨ji8, hji8⟩ : ∃ j_ : Int, (wrap64 (x4_1 + 1)) = j_ := ⟨_, rfl⟩
       replace H : (if 0 ≤ (ji8) then (if (ji8) < (a0.size : Int) then (if (bt a0 (ji8)) = 110 then (if x3_1.size + 1 ≤ 9223372036854775807 then (rMe.l0 kj2 a0 (x3_1 ++ (⟨#[10]⟩ : ByteArray)) (wrap64 ((ji8) + 1))) else (none)) else (if (bt a0 (ji8)) = 94 then (if x3_1.size + 1 ≤ 9223372036854775807 then (rMe.l0 kj2 a0 (x3_1 ++ (⟨#[94]⟩ : ByteArray)) (wrap64 ((ji8) + 1))) else (none)) else (if (bt a0 (ji8)) = 39 then (if x3_1.size + 1 ≤ 9223372036854775807 then (rMe.l0 kj2 a0 (x3_1 ++ (⟨#[34]⟩ : ByteArray)) (wrap64 ((ji8) + 1))) else (none)) else (if 0 ≤ x4_1 then (if x4_1 ≤ (ji8) then (if (ji8) ≤ (a0.size : Int) then (if x3_1.size + (a0.extract (x4_1 : Int).toNat ((ji8) : Int).toNat).size ≤ 9223372036854775807 then (rMe.l0 kj2 a0 (x3_1 ++ (a0.extract (x4_1 : Int).toNat ((ji8) : Int).toNat)) ji8) else (none)) else (none)) else (none)) else (none))))) else (none)) else (none)) = some r := by first | (rw [hji8] at H; exact H) | (simp only [hji8] at H ⊢; exact H)
       have hji8w : (IntKind.i64.wrap (x4_1 + 1)) = ji8 := (i64_w _).trans hji8
       by_cases c9 : 0 ≤ (ji8)
       ·
        rw [if_pos c9] at H
        have c9b0 : decide (0 ≤ (ji8)) = true := decide_eq_true c9
        clear c9
        by_cases c10 : (ji8) < (a0.size : Int)
        ·
         rw [if_pos c10] at H
         have c10b0 : decide ((ji8) < (a0.size : Int)) = true := decide_eq_true c10
         clear c10
         by_cases c12 : (bt a0 (ji8)) = 110
         ·
          rw [if_pos c12] at H
          have c12b0 : ((bt a0 (ji8)) == 110) = true := beq_iff_eq.mpr c12
          have c12b1 : ((bt a0 (ji8)) != 110) = false := bne_eq_false_iff_eq.mpr c12
          clear c12
          by_cases c13 : x3_1.size + 1 ≤ 9223372036854775807
          ·
           rw [if_pos c13] at H
           have c13b0 := eq_true c13
           have c13b1 : decide (x3_1.size + 1 ≤ 9223372036854775807) = true := decide_eq_true c13
           try have c13b2 : (9223372036854775807 < x3_1.size + 1) = False := eq_false (Nat.not_lt.2 c13)
           have H' := A0q.mk H
           clear H
           have p11 : 0 ≤ ((ji8) : Int) := of_decide_eq_true (by first | (with_reducible assumption) | assumption)
           have q11 : (ji8) < (a0.size : Int) := of_decide_eq_true (by first | (with_reducible assumption) | assumption)
           have hx11 := bt_at a0 (ji8)
           replace p11 := eq_true p11
           replace q11 := eq_true q11
           go_wp2
           go_roundg kj2
           case measure => have := HK1.out; have := HJ2.out; omega
           case rel => exact ⟨(x3_1 ++ (⟨#[10]⟩ : ByteArray)), (wrap64 ((ji8) + 1)), (by first | rfl | (simp; done) | (simp [*]; done)), (by first | rfl | (simp; done) | (simp only [← hji8] <;> (first | rfl | simp)) | (simp [*]; done)), H', ⟨by have := HK1.out; have := HJ2.out; omega⟩, by repeat (first | exact Dr0.refl _ | apply Dr0.step)⟩
          ·
           rw [if_neg c13] at H
           exact absurd H (by simp)
         ·
          rw [if_neg c12] at H
          have c12b0 : ((bt a0 (ji8)) == 110) = false := beq_eq_false_iff_ne.mpr c12
          have c12b1 : ((bt a0 (ji8)) != 110) = true := bne_iff_ne.mpr c12
          by_cases c14 : (bt a0 (ji8)) = 94
          ·
           rw [if_pos c14] at H
           have c14b0 : ((bt a0 (ji8)) == 94) = true := beq_iff_eq.mpr c14
           have c14b1 : ((bt a0 (ji8)) != 94) = false := bne_eq_false_iff_eq.mpr c14
           clear c14
           by_cases c15 : x3_1.size + 1 ≤ 9223372036854775807
           ·
            rw [if_pos c15] at H
            have c15b0 := eq_true c15
            have c15b1 : decide (x3_1.size + 1 ≤ 9223372036854775807) = true := decide_eq_true c15
            try have c15b2 : (9223372036854775807 < x3_1.size + 1) = False := eq_false (Nat.not_lt.2 c15)
            have H' := A0q.mk H
            clear H
            have p11 : 0 ≤ ((ji8) : Int) := of_decide_eq_true (by first | (with_reducible assumption) | assumption)
            have q11 : (ji8) < (a0.size : Int) := of_decide_eq_true (by first | (with_reducible assumption) | assumption)
            have hx11 := bt_at a0 (ji8)
            replace p11 := eq_true p11
            replace q11 := eq_true q11
            go_wp2
            go_roundg kj2
            case measure => have := HK1.out; have := HJ2.out; omega
            case rel => exact ⟨(x3_1 ++ (⟨#[94]⟩ : ByteArray)), (wrap64 ((ji8) + 1)), (by first | rfl | (simp; done) | (simp [*]; done)), (by first | rfl | (simp; done) | (simp only [← hji8] <;> (first | rfl | simp)) | (simp [*]; done)), H', ⟨by have := HK1.out; have := HJ2.out; omega⟩, by repeat (first | exact Dr0.refl _ | apply Dr0.step)⟩
           ·
            rw [if_neg c15] at H
            exact absurd H (by simp)
          ·
           rw [if_neg c14] at H
           have c14b0 : ((bt a0 (ji8)) == 94) = false := beq_eq_false_iff_ne.mpr c14
           have c14b1 : ((bt a0 (ji8)) != 94) = true := bne_iff_ne.mpr c14
           by_cases c16 : (bt a0 (ji8)) = 39
           ·
            rw [if_pos c16] at H
            have c16b0 : ((bt a0 (ji8)) == 39) = true := beq_iff_eq.mpr c16
            have c16b1 : ((bt a0 (ji8)) != 39) = false := bne_eq_false_iff_eq.mpr c16
            clear c16
            by_cases c17 : x3_1.size + 1 ≤ 9223372036854775807
            ·
             rw [if_pos c17] at H
             have c17b0 := eq_true c17
             have c17b1 : decide (x3_1.size + 1 ≤ 9223372036854775807) = true := decide_eq_true c17
             try have c17b2 : (9223372036854775807 < x3_1.size + 1) = False := eq_false (Nat.not_lt.2 c17)
             have H' := A0q.mk H
             clear H
             have p11 : 0 ≤ ((ji8) : Int) := of_decide_eq_true (by first | (with_reducible assumption) | assumption)
             have q11 : (ji8) < (a0.size : Int) := of_decide_eq_true (by first | (with_reducible assumption) | assumption)
             have hx11 := bt_at a0 (ji8)
             replace p11 := eq_true p11
             replace q11 := eq_true q11
             go_wp2
             go_roundg kj2
             case measure => have := HK1.out; have := HJ2.out; omega
             case rel => exact ⟨(x3_1 ++ (⟨#[34]⟩ : ByteArray)), (wrap64 ((ji8) + 1)), (by first | rfl | (simp; done) | (simp [*]; done)), (by first | rfl | (simp; done) | (simp only [← hji8] <;> (first | rfl | simp)) | (simp [*]; done)), H', ⟨by have := HK1.out; have := HJ2.out; omega⟩, by repeat (first | exact Dr0.refl _ | apply Dr0.step)⟩
            ·
             rw [if_neg c17] at H
             exact absurd H (by simp)
           ·
            rw [if_neg c16] at H
            have c16b0 : ((bt a0 (ji8)) == 39) = false := beq_eq_false_iff_ne.mpr c16
            have c16b1 : ((bt a0 (ji8)) != 39) = true := bne_iff_ne.mpr c16
            by_cases c18 : 0 ≤ x4_1
            ·
             rw [if_pos c18] at H
             have c18b0 := eq_true c18
             have c18b1 : decide (0 ≤ x4_1) = true := decide_eq_true c18
             clear c18
             by_cases c19 : x4_1 ≤ (ji8)
             ·
              rw [if_pos c19] at H
              have c19b0 := eq_true c19
              have c19b1 : decide (x4_1 ≤ (ji8)) = true := decide_eq_true c19
              clear c19
              by_cases c20 : (ji8) ≤ (a0.size : Int)
              ·
               rw [if_pos c20] at H
               have c20b0 := eq_true c20
               have c20b1 : decide ((ji8) ≤ (a0.size : Int)) = true := decide_eq_true c20
               clear c20
               by_cases c21 : x3_1.size + (a0.extract (x4_1 : Int).toNat ((ji8) : Int).toNat).size ≤ 9223372036854775807
               ·
                rw [if_pos c21] at H
                have c21b0 := eq_true c21
                have c21b1 : decide (x3_1.size + (a0.extract (x4_1 : Int).toNat ((ji8) : Int).toNat).size ≤ 9223372036854775807) = true := decide_eq_true c21
                try have c21b2 : (9223372036854775807 < x3_1.size + (a0.extract (x4_1 : Int).toNat ((ji8) : Int).toNat).size) = False := eq_false (Nat.not_lt.2 c21)
                have H' := A0q.mk H
                clear H
                have p11 : 0 ≤ ((ji8) : Int) := of_decide_eq_true (by first | (with_reducible assumption) | assumption)
                have q11 : (ji8) < (a0.size : Int) := of_decide_eq_true (by first | (with_reducible assumption) | assumption)
                have hx11 := bt_at a0 (ji8)
                replace p11 := eq_true p11
                replace q11 := eq_true q11
                go_wp2
                go_roundg kj2
                case measure => have := HK1.out; have := HJ2.out; omega
                case rel => exact ⟨(x3_1 ++ (a0.extract (x4_1 : Int).toNat ((ji8) : Int).toNat)), (ji8), (by first | rfl | (simp; done) | (simp only [← hji8] <;> (first | rfl | simp)) | (simp [*]; done)), (by first | rfl | (simp; done) | (simp only [← hji8] <;> (first | rfl | simp)) | (simp [*]; done)), H', ⟨by have := HK1.out; have := HJ2.out; omega⟩, by repeat (first | exact Dr0.refl _ | apply Dr0.step)⟩
               ·
                rw [if_neg c21] at H
                exact absurd H (by simp)
              ·
               rw [if_neg c20] at H
               exact absurd H (by simp)
             ·
              rw [if_neg c19] at H
              exact absurd H (by simp)
            ·
             rw [if_neg c18] at H
             exact absurd H (by simp)
        ·
         rw [if_neg c10] at H
         exact absurd H (by simp)
       ·
        rw [if_neg c9] at H
        exact absurd H (by simp)
      ·
       replace c7 := Bool.eq_false_iff.mpr c7
       subst c7
       have H1 : (if 0 ≤ x4_1 then (if x4_1 ≤ (wrap64 (x4_1 + 1)) then (if (wrap64 (x4_1 + 1)) ≤ (a0.size : Int) then (if x3_1.size + (a0.extract (x4_1 : Int).toNat ((wrap64 (x4_1 + 1)) : Int).toNat).size ≤ 9223372036854775807 then (rMe.l0 kj2 a0 (x3_1 ++ (a0.extract (x4_1 : Int).toNat ((wrap64 (x4_1 + 1)) : Int).toNat)) (wrap64 (x4_1 + 1))) else (none)) else (none)) else (none)) else (none)) = some r := by rw [if_neg (show ¬ (false = true) by decide)] at H; exact H
       clear H
       have H := H1
       clear H1
       by_cases c22 : 0 ≤ x4_1
       ·
        rw [if_pos c22] at H
        have c22b0 := eq_true c22
        have c22b1 : decide (0 ≤ x4_1) = true := decide_eq_true c22
        clear c22
        by_cases c23 : x4_1 ≤ (wrap64 (x4_1 + 1))
        ·
         rw [if_pos c23] at H
         have c23b0 := eq_true c23
         have c23b1 : decide (x4_1 ≤ (wrap64 (x4_1 + 1))) = true := decide_eq_true c23
         by_cases c24 : (wrap64 (x4_1 + 1)) ≤ (a0.size : Int)
         ·
          rw [if_pos c24] at H
          have c24b0 := eq_true c24
          have c24b1 : decide ((wrap64 (x4_1 + 1)) ≤ (a0.size : Int)) = true := decide_eq_true c24
          by_cases c25 : x3_1.size + (a0.extract (x4_1 : Int).toNat ((wrap64 (x4_1 + 1)) : Int).toNat).size ≤ 9223372036854775807
          ·
           rw [if_pos c25] at H
           have c25b0 := eq_true c25
           have c25b1 : decide (x3_1.size + (a0.extract (x4_1 : Int).toNat ((wrap64 (x4_1 + 1)) : Int).toNat).size ≤ 9223372036854775807) = true := decide_eq_true c25
           try have c25b2 : (9223372036854775807 < x3_1.size + (a0.extract (x4_1 : Int).toNat ((wrap64 (x4_1 + 1)) : Int).toNat).size) = False := eq_false (Nat.not_lt.2 c25)
           have H' := A0q.mk H
           clear H
           go_wp2
           go_roundg kj2
           case measure => have := HK1.out; have := HJ2.out; omega
           case rel => exact ⟨(x3_1 ++ (a0.extract (x4_1 : Int).toNat ((wrap64 (x4_1 + 1)) : Int).toNat)), (wrap64 (x4_1 + 1)), (by first | rfl | (simp; done) | (simp [*]; done)), (by first | rfl | (simp; done) | (simp [*]; done)), H', ⟨by have := HK1.out; have := HJ2.out; omega⟩, by repeat (first | exact Dr0.refl _ | apply Dr0.step)⟩
          ·
           rw [if_neg c25] at H
           exact absurd H (by simp)
         ·
          rw [if_neg c24] at H
          exact absurd H (by simp)
        ·
         rw [if_neg c23] at H
         exact absurd H (by simp)
       ·
        rw [if_neg c22] at H
        exact absurd H (by simp)
   ·
    rw [if_neg c2] at H
    have c2b0 : decide (x4_1 < (a0.size : Int)) = false := decide_eq_false c2
    clear c2
    obtain rfl := Option.some.inj H
    go_wp2
    go_ret
    exact ⟨by first | rfl | (simp; done) | (simp [*]; done), by repeat (first | exact Dr0.refl _ | apply Dr0.step)⟩
end Go.Proofs.YthabooeapfepnaaGreatDoor.PL
