import Derived.Test.YthabooeapfepnaaGreatDoorPLx0
import Derived.Test.YthabooeapfepnaaGreatDoorPLx8
namespace Go.Proofs.YthabooeapfepnaaGreatDoor.PL
open Go.RowKit Go.Proofs.YthabooeapfepnaaGreatDoor.Given Go.Proofs.YthabooeapfepnaaGreatDoorW.PrintWords Go.Proofs.YthabooeapfepnaaGreatDoorW.PrintLast Go.Proofs.YthabooeapfepnaaGreatDoorW.PrintMore
attribute [local go_sem] max2_int min2_int max_two min_two max_three min_three max_four min_four   -- for this text's walks alone
set_option linter.unusedVariables false
set_option linter.unusedSimpArgs false
def rVa.l0 : Nat → ByteArray → Option (Bool)
 | 0, _ => none
 | k + 1, x0 => if (x0.size : Int) > 0 then ((rRu.f k x0).bind fun bt272 => (if bt272.2 = 0 then (some false) else (if bt272.1 = 127 then (some false) else (if bt272.1 < 32 then (if bt272.1 = 9 then (if 0 ≤ bt272.2 then (if bt272.2 ≤ (x0.size : Int) then (rVa.l0 k (x0.extract (bt272.2 : Int).toNat x0.size)) else (none)) else (none)) else (if bt272.1 = 10 then (if 0 ≤ bt272.2 then (if bt272.2 ≤ (x0.size : Int) then (rVa.l0 k (x0.extract (bt272.2 : Int).toNat x0.size)) else (none)) else (none)) else (if bt272.1 = 13 then (if 0 ≤ bt272.2 then (if bt272.2 ≤ (x0.size : Int) then (rVa.l0 k (x0.extract (bt272.2 : Int).toNat x0.size)) else (none)) else (none)) else (some false)))) else (if 0 ≤ bt272.2 then (if bt272.2 ≤ (x0.size : Int) then (rVa.l0 k (x0.extract (bt272.2 : Int).toNat x0.size)) else (none)) else (none)))))) else (some true)
def rVa.f (k : Nat) (a0 : ByteArray) : Option (Bool) := rVa.l0 k a0
set_option maxHeartbeats 8000000 in
set_option maxRecDepth 100000 in
theorem rVa.calls (k : Nat) (a0 : ByteArray) (r : Bool) (w : World) (h : rVa.f k a0 = some r) :
  Calls Tryz.prog 54 #[.string a0] w fun e w' => e = .returned (.bool r) ∧ Dr0 w w' := by
 have H : (rVa.l0 k a0) = some r := h
 clear h
 have H' := A0q.mk H
 clear H
 go_enter Tryz.func54, Tryz.ntmps54
 go_wp2
 go_loopg [0] k (fun kq v0 w' => ∃ (x0_1 : ByteArray), v0 = .string x0_1 ∧ A0q (rVa.l0 kq x0_1 = some r) ∧ A0q (kq ≤ k) ∧ Dr0 w w')
 case atStart => exact ⟨(a0), (by first | rfl | (simp; done) | (simp [*]; done)), H', ⟨Nat.le_refl _⟩, by repeat (first | exact Dr0.refl _ | apply Dr0.step)⟩
 case round =>
  clear H'
  obtain ⟨x0_1, rfl, HA, HK1, ⟨m1, rfl⟩⟩ := hrel
  cases gk with
  | zero => exact absurd HA.out (by simp [rVa.l0])
  | succ k1 =>
   have H := HA.out
   clear HA
   simp only [rVa.l0] at H
   by_cases c2 : (x0_1.size : Int) > 0
   ·
    rw [if_pos c2] at H
    have c2b0 : decide (0 < (x0_1.size : Int)) = true := decide_eq_true c2
    have c2b1 : decide (0 < x0_1.size) = true := decide_eq_true (by omega)
    clear c2
    replace H := Option.bind_eq_some_iff.mp H
    obtain ⟨⟨t272, t273⟩, A30, H⟩ := H
    replace H : (if t273 = 0 then (some false) else (if t272 = 127 then (some false) else (if t272 < 32 then (if t272 = 9 then (if 0 ≤ t273 then (if t273 ≤ (x0_1.size : Int) then (rVa.l0 k1 (x0_1.extract (t273 : Int).toNat x0_1.size)) else (none)) else (none)) else (if t272 = 10 then (if 0 ≤ t273 then (if t273 ≤ (x0_1.size : Int) then (rVa.l0 k1 (x0_1.extract (t273 : Int).toNat x0_1.size)) else (none)) else (none)) else (if t272 = 13 then (if 0 ≤ t273 then (if t273 ≤ (x0_1.size : Int) then (rVa.l0 k1 (x0_1.extract (t273 : Int).toNat x0_1.size)) else (none)) else (none)) else (some false)))) else (if 0 ≤ t273 then (if t273 ≤ (x0_1.size : Int) then (rVa.l0 k1 (x0_1.extract (t273 : Int).toNat x0_1.size)) else (none)) else (none))))) = some r := H
    have A3 := A0q.mk A30
    clear A30
    by_cases c4 : t273 = 0
    ·
     rw [if_pos c4] at H
     have c4b0 : (t273 == 0) = true := beq_iff_eq.mpr c4
     have c4b1 : (t273 != 0) = false := bne_eq_false_iff_eq.mpr c4
     clear c4
     obtain rfl := Option.some.inj H
     go_wp2_with (first | ((with_reducible refine gC (f := 90) rfl ?_); refine goesL_ (some 10) rfl rfl Tryz.func90 (by kernel_rfl) rfl #[.string x0_1] rfl (by (try simp only [List.map_toArray, List.map_cons, List.map_nil]); first | done | rfl | (simp only [List.length_drop, List.length_take]; rfl)) ?_; (with_reducible refine (rRu.calls k1 x0_1 t272 t273 _ A3.out).mono ?_); rintro e w' ⟨rfl, ⟨nd, rfl⟩⟩; refine ⟨_, rfl, ?_⟩))
     go_ret
     exact ⟨by first | rfl | (simp; done) | (simp [*]; done), by repeat (first | exact Dr0.refl _ | apply Dr0.step)⟩
    ·
     rw [if_neg c4] at H
     have c4b0 : (t273 == 0) = false := beq_eq_false_iff_ne.mpr c4
     have c4b1 : (t273 != 0) = true := bne_iff_ne.mpr c4
     by_cases c5 : t272 = 127
     ·
      rw [if_pos c5] at H
      have c5b0 : (t272 == 127) = true := beq_iff_eq.mpr c5
      have c5b1 : (t272 != 127) = false := bne_eq_false_iff_eq.mpr c5
      clear c5
      obtain rfl := Option.some.inj H
      go_wp2_with (first | ((with_reducible refine gC (f := 90) rfl ?_); refine goesL_ (some 10) rfl rfl Tryz.func90 (by kernel_rfl) rfl #[.string x0_1] rfl (by (try simp only [List.map_toArray, List.map_cons, List.map_nil]); first | done | rfl | (simp only [List.length_drop, List.length_take]; rfl)) ?_; (with_reducible refine (rRu.calls k1 x0_1 t272 t273 _ A3.out).mono ?_); rintro e w' ⟨rfl, ⟨nd, rfl⟩⟩; refine ⟨_, rfl, ?_⟩))
      go_ret
      exact ⟨by first | rfl | (simp; done) | (simp [*]; done), by repeat (first | exact Dr0.refl _ | apply Dr0.step)⟩
     ·
      rw [if_neg c5] at H
      have c5b0 : (t272 == 127) = false := beq_eq_false_iff_ne.mpr c5
      have c5b1 : (t272 != 127) = true := bne_iff_ne.mpr c5
      by_cases c6 : t272 < 32
      ·
       rw [if_pos c6] at H
       have c6b0 : decide (t272 < 32) = true := decide_eq_true c6
       clear c6
       by_cases c7 : t272 = 9
       ·
        rw [if_pos c7] at H
        have c7b0 : (t272 == 9) = true := beq_iff_eq.mpr c7
        have c7b1 : (t272 != 9) = false := bne_eq_false_iff_eq.mpr c7
        clear c7
        by_cases c8 : 0 ≤ t273
        ·
         rw [if_pos c8] at H
         have c8b0 := eq_true c8
         have c8b1 : decide (0 ≤ t273) = true := decide_eq_true c8
         clear c8
         by_cases c9 : t273 ≤ (x0_1.size : Int)
         ·
          rw [if_pos c9] at H
          have c9b0 := eq_true c9
          have c9b1 : decide (t273 ≤ (x0_1.size : Int)) = true := decide_eq_true c9
          clear c9
          have H' := A0q.mk H
          clear H
          go_wp2_with (first | ((with_reducible refine gC (f := 90) rfl ?_); refine goesL_ (some 10) rfl rfl Tryz.func90 (by kernel_rfl) rfl #[.string x0_1] rfl (by (try simp only [List.map_toArray, List.map_cons, List.map_nil]); first | done | rfl | (simp only [List.length_drop, List.length_take]; rfl)) ?_; (with_reducible refine (rRu.calls k1 x0_1 t272 t273 _ A3.out).mono ?_); rintro e w' ⟨rfl, ⟨nd, rfl⟩⟩; refine ⟨_, rfl, ?_⟩))
          go_roundg k1
          case measure => have := HK1.out; omega
          case rel => exact ⟨(x0_1.extract (t273 : Int).toNat x0_1.size), (by first | rfl | (simp; done) | (simp [*]; done)), H', ⟨by have := HK1.out; omega⟩, by repeat (first | exact Dr0.refl _ | apply Dr0.step)⟩
         ·
          rw [if_neg c9] at H
          exact absurd H (by simp)
        ·
         rw [if_neg c8] at H
         exact absurd H (by simp)
       ·
        rw [if_neg c7] at H
        have c7b0 : (t272 == 9) = false := beq_eq_false_iff_ne.mpr c7
        have c7b1 : (t272 != 9) = true := bne_iff_ne.mpr c7
        by_cases c10 : t272 = 10
        ·
         rw [if_pos c10] at H
         have c10b0 : (t272 == 10) = true := beq_iff_eq.mpr c10
         have c10b1 : (t272 != 10) = false := bne_eq_false_iff_eq.mpr c10
         clear c10
         by_cases c11 : 0 ≤ t273
         ·
          rw [if_pos c11] at H
          have c11b0 := eq_true c11
          have c11b1 : decide (0 ≤ t273) = true := decide_eq_true c11
          clear c11
          by_cases c12 : t273 ≤ (x0_1.size : Int)
          ·
           rw [if_pos c12] at H
           have c12b0 := eq_true c12
           have c12b1 : decide (t273 ≤ (x0_1.size : Int)) = true := decide_eq_true c12
           clear c12
           have H' := A0q.mk H
           clear H
           go_wp2_with (first | ((with_reducible refine gC (f := 90) rfl ?_); refine goesL_ (some 10) rfl rfl Tryz.func90 (by kernel_rfl) rfl #[.string x0_1] rfl (by (try simp only [List.map_toArray, List.map_cons, List.map_nil]); first | done | rfl | (simp only [List.length_drop, List.length_take]; rfl)) ?_; (with_reducible refine (rRu.calls k1 x0_1 t272 t273 _ A3.out).mono ?_); rintro e w' ⟨rfl, ⟨nd, rfl⟩⟩; refine ⟨_, rfl, ?_⟩))
           go_roundg k1
           case measure => have := HK1.out; omega
           case rel => exact ⟨(x0_1.extract (t273 : Int).toNat x0_1.size), (by first | rfl | (simp; done) | (simp [*]; done)), H', ⟨by have := HK1.out; omega⟩, by repeat (first | exact Dr0.refl _ | apply Dr0.step)⟩
          ·
           rw [if_neg c12] at H
           exact absurd H (by simp)
         ·
          rw [if_neg c11] at H
          exact absurd H (by simp)
        ·
         rw [if_neg c10] at H
         have c10b0 : (t272 == 10) = false := beq_eq_false_iff_ne.mpr c10
         have c10b1 : (t272 != 10) = true := bne_iff_ne.mpr c10
         by_cases c13 : t272 = 13
         ·
          rw [if_pos c13] at H
          have c13b0 : (t272 == 13) = true := beq_iff_eq.mpr c13
          have c13b1 : (t272 != 13) = false := bne_eq_false_iff_eq.mpr c13
          clear c13
          by_cases c14 : 0 ≤ t273
          ·
           rw [if_pos c14] at H
           have c14b0 := eq_true c14
           have c14b1 : decide (0 ≤ t273) = true := decide_eq_true c14
           clear c14
           by_cases c15 : t273 ≤ (x0_1.size : Int)
           ·
            rw [if_pos c15] at H
            have c15b0 := eq_true c15
            have c15b1 : decide (t273 ≤ (x0_1.size : Int)) = true := decide_eq_true c15
            clear c15
            have H' := A0q.mk H
            clear H
            go_wp2_with (first | ((with_reducible refine gC (f := 90) rfl ?_); refine goesL_ (some 10) rfl rfl Tryz.func90 (by kernel_rfl) rfl #[.string x0_1] rfl (by (try simp only [List.map_toArray, List.map_cons, List.map_nil]); first | done | rfl | (simp only [List.length_drop, List.length_take]; rfl)) ?_; (with_reducible refine (rRu.calls k1 x0_1 t272 t273 _ A3.out).mono ?_); rintro e w' ⟨rfl, ⟨nd, rfl⟩⟩; refine ⟨_, rfl, ?_⟩))
            go_roundg k1
            case measure => have := HK1.out; omega
            case rel => exact ⟨(x0_1.extract (t273 : Int).toNat x0_1.size), (by first | rfl | (simp; done) | (simp [*]; done)), H', ⟨by have := HK1.out; omega⟩, by repeat (first | exact Dr0.refl _ | apply Dr0.step)⟩
           ·
            rw [if_neg c15] at H
            exact absurd H (by simp)
          ·
           rw [if_neg c14] at H
           exact absurd H (by simp)
         ·
          rw [if_neg c13] at H
          have c13b0 : (t272 == 13) = false := beq_eq_false_iff_ne.mpr c13
          have c13b1 : (t272 != 13) = true := bne_iff_ne.mpr c13
          obtain rfl := Option.some.inj H
          go_wp2_with (first | ((with_reducible refine gC (f := 90) rfl ?_); refine goesL_ (some 10) rfl rfl Tryz.func90 (by kernel_rfl) rfl #[.string x0_1] rfl (by (try simp only [List.map_toArray, List.map_cons, List.map_nil]); first | done | rfl | (simp only [List.length_drop, List.length_take]; rfl)) ?_; (with_reducible refine (rRu.calls k1 x0_1 t272 t273 _ A3.out).mono ?_); rintro e w' ⟨rfl, ⟨nd, rfl⟩⟩; refine ⟨_, rfl, ?_⟩))
          go_ret
          exact ⟨by first | rfl | (simp; done) | (simp [*]; done), by repeat (first | exact Dr0.refl _ | apply Dr0.step)⟩
      ·
       rw [if_neg c6] at H
       have c6b0 : decide (t272 < 32) = false := decide_eq_false c6
       clear c6
       by_cases c16 : 0 ≤ t273
       ·
        rw [if_pos c16] at H
        have c16b0 := eq_true c16
        have c16b1 : decide (0 ≤ t273) = true := decide_eq_true c16
        clear c16
        by_cases c17 : t273 ≤ (x0_1.size : Int)
        ·
         rw [if_pos c17] at H
         have c17b0 := eq_true c17
         have c17b1 : decide (t273 ≤ (x0_1.size : Int)) = true := decide_eq_true c17
         clear c17
         have H' := A0q.mk H
         clear H
         go_wp2_with (first | ((with_reducible refine gC (f := 90) rfl ?_); refine goesL_ (some 10) rfl rfl Tryz.func90 (by kernel_rfl) rfl #[.string x0_1] rfl (by (try simp only [List.map_toArray, List.map_cons, List.map_nil]); first | done | rfl | (simp only [List.length_drop, List.length_take]; rfl)) ?_; (with_reducible refine (rRu.calls k1 x0_1 t272 t273 _ A3.out).mono ?_); rintro e w' ⟨rfl, ⟨nd, rfl⟩⟩; refine ⟨_, rfl, ?_⟩))
         go_roundg k1
         case measure => have := HK1.out; omega
         case rel => exact ⟨(x0_1.extract (t273 : Int).toNat x0_1.size), (by first | rfl | (simp; done) | (simp [*]; done)), H', ⟨by have := HK1.out; omega⟩, by repeat (first | exact Dr0.refl _ | apply Dr0.step)⟩
        ·
         rw [if_neg c17] at H
         exact absurd H (by simp)
       ·
        rw [if_neg c16] at H
        exact absurd H (by simp)
   ·
    rw [if_neg c2] at H
    have c2b0 : decide (0 < (x0_1.size : Int)) = false := decide_eq_false c2
    have c2b1 : decide (0 < x0_1.size) = false := decide_eq_false (by omega)
    clear c2
    obtain rfl := Option.some.inj H
    go_wp2
    go_ret
    exact ⟨by first | rfl | (simp; done) | (simp [*]; done), by repeat (first | exact Dr0.refl _ | apply Dr0.step)⟩
mutual
def rHa.l0 : Nat → ByteArray → ByteArray → Int → Option (Bool)
 | 0, _, _, _ => none
 | k + 1, x0, x1, x5 => if x5 < (x0.size : Int) then (rHa.l1 k x0 x1 x5 0) else (some false)
def rHa.l1 : Nat → ByteArray → ByteArray → Int → Int → Option (Bool)
 | 0, _, _, _, _ => none
 | k + 1, x0, x1, x5, x6 => if x6 < (x1.size : Int) then (if 0 ≤ x5 then (if x5 < (x0.size : Int) then (if 0 ≤ x6 then (if (bt x0 x5) = (bt x1 x6) then (some true) else (rHa.l1 k x0 x1 x5 (wrap64 (x6 + 1)))) else (none)) else (none)) else (none)) else (rHa.l0 k x0 x1 (wrap64 (x5 + 1)))
end
def rHa.f (k : Nat) (a0 : ByteArray) (a1 : ByteArray) : Option (Bool) := rHa.l0 k a0 a1 0
set_option maxHeartbeats 8000000 in
set_option maxRecDepth 100000 in
theorem rHa.calls (k : Nat) (a0 : ByteArray) (a1 : ByteArray) (r : Bool) (w : World) (h : rHa.f k a0 a1 = some r) :
  Calls Tryz.prog 55 #[.string a0, .string a1] w fun e w' => e = .returned (.bool r) ∧ Dr0 w w' := by
 have H : (rHa.l0 k a0 a1 0) = some r := h
 clear h
 have H' := A0q.mk H
 clear H
 go_enter Tryz.func55, Tryz.ntmps55
 go_wp2
 repeat (go_quiet (fail); try go_wp2)
 go_loopg [5] k (fun kq v5 w' => ∃ (x5_1 : Int), v5 = .int .i64 x5_1 ∧ A0q (rHa.l0 kq a0 a1 x5_1 = some r) ∧ A0q (kq ≤ k) ∧ Dr0 w w')
 case atStart => exact ⟨(0), (by first | rfl | (simp; done) | (simp [*]; done)), H', ⟨Nat.le_refl _⟩, by repeat (first | exact Dr0.refl _ | apply Dr0.step)⟩
 case round =>
  clear H'
  try clear p2
  obtain ⟨x5_1, rfl, HA, HK1, ⟨m1, rfl⟩⟩ := hrel
  cases gk with
  | zero => exact absurd HA.out (by simp [rHa.l0])
  | succ k1 =>
   have H := HA.out
   clear HA
   simp only [rHa.l0] at H
   by_cases c3 : x5_1 < (a0.size : Int)
   ·
    rw [if_pos c3] at H
    have c3b0 : decide (x5_1 < (a0.size : Int)) = true := decide_eq_true c3
    clear c3
    have H' := A0q.mk H
    clear H
    go_wp2
    repeat (go_quiet (fail); try go_wp2)
    go_loopg [6] k1 (fun kq v6 w' => ∃ (x6_2 : Int), v6 = .int .i64 x6_2 ∧ A0q (rHa.l1 kq a0 a1 x5_1 x6_2 = some r) ∧ A0q (kq ≤ k1) ∧ Dr0 w w')
    case atStart => exact ⟨(0), (by first | rfl | (simp; done) | (simp [*]; done)), H', ⟨Nat.le_refl _⟩, by repeat (first | exact Dr0.refl _ | apply Dr0.step)⟩
    case round =>
     clear H'
     try clear p2
     try clear c3
     try clear c3b0
     try clear p2
     obtain ⟨x6_2, rfl, HA, HK2, ⟨m2, rfl⟩⟩ := hrel
     cases gk with
     | zero => exact absurd HA.out (by simp [rHa.l1])
     | succ k2 =>
      have H := HA.out
      clear HA
      simp only [rHa.l1] at H
      by_cases c4 : x6_2 < (a1.size : Int)
      ·
       rw [if_pos c4] at H
       have c4b0 : decide (x6_2 < (a1.size : Int)) = true := decide_eq_true c4
       clear c4
       by_cases c5 : 0 ≤ x5_1
       ·
        rw [if_pos c5] at H
        have c5b0 : decide (0 ≤ x5_1) = true := decide_eq_true c5
        clear c5
        by_cases c6 : x5_1 < (a0.size : Int)
        ·
         rw [if_pos c6] at H
         have c6b0 : decide (x5_1 < (a0.size : Int)) = true := decide_eq_true c6
         clear c6
         by_cases c8 : 0 ≤ x6_2
         ·
          rw [if_pos c8] at H
          have c8b0 : decide (0 ≤ x6_2) = true := decide_eq_true c8
          clear c8
          by_cases c10 : (bt a0 x5_1) = (bt a1 x6_2)
          ·
           rw [if_pos c10] at H
           have c10b0 : ((bt a0 x5_1) == (bt a1 x6_2)) = true := beq_iff_eq.mpr c10
           have c10b1 : ((bt a0 x5_1) != (bt a1 x6_2)) = false := bne_eq_false_iff_eq.mpr c10
           clear c10
           obtain rfl := Option.some.inj H
           have p7 : 0 ≤ (x5_1 : Int) := of_decide_eq_true (by first | (with_reducible assumption) | assumption)
           have q7 : x5_1 < (a0.size : Int) := of_decide_eq_true (by first | (with_reducible assumption) | assumption)
           have hx7 := bt_at a0 x5_1
           replace p7 := eq_true p7
           replace q7 := eq_true q7
           have p9 : 0 ≤ (x6_2 : Int) := of_decide_eq_true (by first | (with_reducible assumption) | assumption)
           have q9 : x6_2 < (a1.size : Int) := of_decide_eq_true (by first | (with_reducible assumption) | assumption)
           have hx9 := bt_at a1 x6_2
           replace p9 := eq_true p9
           replace q9 := eq_true q9
           go_wp2
           repeat (go_quiet (fail); try go_wp2)
           go_ret
           exact ⟨by first | rfl | (simp; done) | (simp [*]; done), by repeat (first | exact Dr0.refl _ | apply Dr0.step)⟩
          ·
           rw [if_neg c10] at H
           have c10b0 : ((bt a0 x5_1) == (bt a1 x6_2)) = false := beq_eq_false_iff_ne.mpr c10
           have c10b1 : ((bt a0 x5_1) != (bt a1 x6_2)) = true := bne_iff_ne.mpr c10
           have H' := A0q.mk H
           clear H
           have p7 : 0 ≤ (x5_1 : Int) := of_decide_eq_true (by first | (with_reducible assumption) | assumption)
           have q7 : x5_1 < (a0.size : Int) := of_decide_eq_true (by first | (with_reducible assumption) | assumption)
           have hx7 := bt_at a0 x5_1
           replace p7 := eq_true p7
           replace q7 := eq_true q7
           have p9 : 0 ≤ (x6_2 : Int) := of_decide_eq_true (by first | (with_reducible assumption) | assumption)
           have q9 : x6_2 < (a1.size : Int) := of_decide_eq_true (by first | (with_reducible assumption) | assumption)
           have hx9 := bt_at a1 x6_2
           replace p9 := eq_true p9
           replace q9 := eq_true q9
           go_wp2
           repeat (go_quiet (fail); try go_wp2)
           go_roundg k2
           case measure => have := HK1.out; have := HK2.out; omega
           case rel => exact ⟨(wrap64 (x6_2 + 1)), (by first | rfl | (simp; done) | (simp [*]; done)), H', ⟨by have := HK1.out; have := HK2.out; omega⟩, by repeat (first | exact Dr0.refl _ | apply Dr0.step)⟩
         ·
          rw [if_neg c8] at H
          exact absurd H (by simp)
        ·
         rw [if_neg c6] at H
         exact absurd H (by simp)
       ·
        rw [if_neg c5] at H
        exact absurd H (by simp)
      ·
       rw [if_neg c4] at H
       have c4b0 : decide (x6_2 < (a1.size : Int)) = false := decide_eq_false c4
       clear c4
       have H' := A0q.mk H
       clear H
       go_wp2
       repeat (go_quiet (fail); try go_wp2)
       go_roundg k2
       case measure => have := HK1.out; have := HK2.out; omega
       case rel => exact ⟨(wrap64 (x5_1 + 1)), (by first | rfl | (simp; done) | (simp [*]; done)), H', ⟨by have := HK1.out; have := HK2.out; omega⟩, by repeat (first | exact Dr0.refl _ | apply Dr0.step)⟩
   ·
    rw [if_neg c3] at H
    have c3b0 : decide (x5_1 < (a0.size : Int)) = false := decide_eq_false c3
    clear c3
    obtain rfl := Option.some.inj H
    go_wp2
    repeat (go_quiet (fail); try go_wp2)
    go_ret
    exact ⟨by first | rfl | (simp; done) | (simp [*]; done), by repeat (first | exact Dr0.refl _ | apply Dr0.step)⟩
end Go.Proofs.YthabooeapfepnaaGreatDoor.PL
