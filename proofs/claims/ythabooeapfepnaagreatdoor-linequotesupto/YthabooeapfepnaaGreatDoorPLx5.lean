-- printed by gprint.py (the kit's print, with contracts given by hand)
import Derived.Test.YthabooeapfepnaaGreatDoorPLx0
import Derived.Test.YthabooeapfepnaaGreatDoorPLx2
import Derived.Test.YthabooeapfepnaaGreatDoorPLx3
import Derived.Test.YthabooeapfepnaaGreatDoorPLx4
namespace Go.Proofs.YthabooeapfepnaaGreatDoor.PL
open Go.RowKit Go.Proofs.YthabooeapfepnaaGreatDoor.Given Go.Proofs.YthabooeapfepnaaGreatDoorW.PrintWords Go.Proofs.YthabooeapfepnaaGreatDoorW.PrintLast Go.Proofs.YthabooeapfepnaaGreatDoorW.PrintMore
attribute [local go_sem] max2_int min2_int max_two min_two max_three min_three max_four min_four   -- for this text's walks alone
set_option linter.unusedVariables false
set_option linter.unusedSimpArgs false

/-! ### calepinlaw03_LineQuotes: function 3 -/
mutual
def calepinlaw03_LineQuotes.l0 : Nat → ByteArray → ByteArray → Int → Option (Bool)
  | 0, _, _, _ => none
  | k + 1, x0, x1, x5 => if x5 < (wrap64 ((x0.size : Int) + (x1.size : Int))) then (if x0.size + x1.size ≤ 9223372036854775807 then (if 0 ≤ x5 then (if x5 < ((x0.size : Int) + (x1.size : Int)) then (if (bt (x0 ++ x1) x5) = 34 then (some true) else (if (bt (x0 ++ x1) x5) = 10 then (some true) else (if (bt (x0 ++ x1) x5) = 13 then (some true) else (calepinlaw03_LineQuotes.l0 k x0 x1 (wrap64 (x5 + 1)))))) else (none)) else (none)) else (none)) else (if 5 + x0.size ≤ 9223372036854775807 then (if 5 + x0.size + 5 ≤ 9223372036854775807 then (if 5 + x0.size + 5 + x1.size ≤ 9223372036854775807 then (if 5 + x0.size + 5 + x1.size + 3 ≤ 9223372036854775807 then ((line_Parse.f k (((((⟨#[65, 59, 66, 61, 34]⟩ : ByteArray) ++ x0) ++ (⟨#[34, 59, 67, 61, 34]⟩ : ByteArray)) ++ x1) ++ (⟨#[34, 58, 120]⟩ : ByteArray))).bind fun bt191 => (if bt191.2.2.2.2 = 0 then (calepinlaw03_LineQuotes.l1 k x0 x1 0 bt191.1 bt191.2.1 bt191.2.2.1 bt191.2.2.2.1) else (some (bt191.2.2.2.2 == 10)))) else (none)) else (none)) else (none)) else (none))
def calepinlaw03_LineQuotes.l1 : Nat → ByteArray → ByteArray → Int → ByteArray → ByteArray → List (S31) → ByteArray → Option (Bool)
  | 0, _, _, _, _, _, _, _ => none
  | k + 1, x0, x1, x9, x199000, x199001, x199002, x199003 => if x9 < (x0.size : Int) then (if 0 ≤ x9 then (if (bt x0 x9) = 44 then (if (x199002.length : Int) = 2 then (if 0 < (x199002.length : Int) then (some ((((rd_T31 x199002 0).f1).length : Int) == 1)) else (none)) else (some false)) else (if (bt x0 x9) = 59 then (if (x199002.length : Int) = 2 then (if 0 < (x199002.length : Int) then (some ((((rd_T31 x199002 0).f1).length : Int) == 1)) else (none)) else (some false)) else (if (bt x0 x9) = 58 then (if (x199002.length : Int) = 2 then (if 0 < (x199002.length : Int) then (some ((((rd_T31 x199002 0).f1).length : Int) == 1)) else (none)) else (some false)) else (calepinlaw03_LineQuotes.l1 k x0 x1 (wrap64 (x9 + 1)) x199000 x199001 x199002 x199003)))) else (none)) else (if 4 + x0.size ≤ 9223372036854775807 then (if 4 + x0.size + 4 ≤ 9223372036854775807 then (if 4 + x0.size + 4 + x1.size ≤ 9223372036854775807 then (if 4 + x0.size + 4 + x1.size + 3 ≤ 9223372036854775807 then ((line_Parse.f k (((((⟨#[65, 59, 66, 61]⟩ : ByteArray) ++ x0) ++ (⟨#[59, 67, 61, 34]⟩ : ByteArray)) ++ x1) ++ (⟨#[34, 58, 120]⟩ : ByteArray))).bind fun bt202 => (if bt202.2.2.2.2 = 0 then ((calepinref03_Same.f k x199000 x199001 x199002 x199003 bt202.1 bt202.2.1 bt202.2.2.1 bt202.2.2.2.1).bind fun t210 => (if t210 = true then (some ((x199002.length : Int) == 2)) else (some false))) else (some false))) else (none)) else (none)) else (none)) else (none))
end
def calepinlaw03_LineQuotes.f (k : Nat) (a0 : ByteArray) (a1 : ByteArray) : Option (Bool) := (calepinlaw03_first.f k).bind fun t190 => (if t190 = true then (calepinlaw03_LineQuotes.l0 k a0 a1 0) else (some false))
theorem calepinlaw03_LineQuotes.mono_l : ∀ k, (∀ y0 y1 y2, LeO (calepinlaw03_LineQuotes.l0 k y0 y1 y2) (calepinlaw03_LineQuotes.l0 (k + 1) y0 y1 y2)) ∧ (∀ y0 y1 y2 y3 y4 y5 y6, LeO (calepinlaw03_LineQuotes.l1 k y0 y1 y2 y3 y4 y5 y6) (calepinlaw03_LineQuotes.l1 (k + 1) y0 y1 y2 y3 y4 y5 y6))
  | 0 => ⟨fun _ _ _ r h => by simp [calepinlaw03_LineQuotes.l0] at h, fun _ _ _ _ _ _ _ r h => by simp [calepinlaw03_LineQuotes.l1] at h⟩
  | k + 1 => by
    obtain ⟨ih0, ih1⟩ := calepinlaw03_LineQuotes.mono_l k
    refine ⟨?_, ?_⟩
    · intro y0 y1 y2
      unfold calepinlaw03_LineQuotes.l0
      repeat' first
      | (with_reducible exact ih0 _ _ _)
      | (with_reducible exact ih1 _ _ _ _ _ _ _)
      | (with_reducible exact calepinlaw03_first.mono _)
      | (with_reducible exact calepinref03_Same.mono _ _ _ _ _ _ _ _ _)
      | (with_reducible exact line_Parse.mono _ _)
      | (with_reducible exact LeO.refl _)
      | (with_reducible exact LeO.none _)
      | (with_reducible refine LeO.ite ?_ ?_)
      | (with_reducible refine LeO.bind ?_ (fun _ => ?_))
      | exact ih0 _ _ _
      | exact ih1 _ _ _ _ _ _ _
      | exact calepinlaw03_first.mono _
      | exact calepinref03_Same.mono _ _ _ _ _ _ _ _ _
      | exact line_Parse.mono _ _
      | exact LeO.none _
      | refine LeO.ite ?_ ?_
      | refine LeO.bind ?_ (fun _ => ?_)
    · intro y0 y1 y2 y3 y4 y5 y6
      unfold calepinlaw03_LineQuotes.l1
      repeat' first
      | (with_reducible exact ih0 _ _ _)
      | (with_reducible exact ih1 _ _ _ _ _ _ _)
      | (with_reducible exact calepinlaw03_first.mono _)
      | (with_reducible exact calepinref03_Same.mono _ _ _ _ _ _ _ _ _)
      | (with_reducible exact line_Parse.mono _ _)
      | (with_reducible exact LeO.refl _)
      | (with_reducible exact LeO.none _)
      | (with_reducible refine LeO.ite ?_ ?_)
      | (with_reducible refine LeO.bind ?_ (fun _ => ?_))
      | exact ih0 _ _ _
      | exact ih1 _ _ _ _ _ _ _
      | exact calepinlaw03_first.mono _
      | exact calepinref03_Same.mono _ _ _ _ _ _ _ _ _
      | exact line_Parse.mono _ _
      | exact LeO.none _
      | refine LeO.ite ?_ ?_
      | refine LeO.bind ?_ (fun _ => ?_)
theorem calepinlaw03_LineQuotes.mono : ∀ a0 a1 k, LeO (calepinlaw03_LineQuotes.f k a0 a1) (calepinlaw03_LineQuotes.f (k + 1) a0 a1) := by
  intro a0 a1 k
  obtain ⟨ih0, ih1⟩ := calepinlaw03_LineQuotes.mono_l k
  unfold calepinlaw03_LineQuotes.f
  repeat' first
      | (with_reducible exact ih0 _ _ _)
      | (with_reducible exact ih1 _ _ _ _ _ _ _)
      | (with_reducible exact calepinlaw03_first.mono _)
      | (with_reducible exact calepinref03_Same.mono _ _ _ _ _ _ _ _ _)
      | (with_reducible exact line_Parse.mono _ _)
      | (with_reducible exact LeO.refl _)
      | (with_reducible exact LeO.none _)
      | (with_reducible refine LeO.ite ?_ ?_)
      | (with_reducible refine LeO.bind ?_ (fun _ => ?_))
      | exact ih0 _ _ _
      | exact ih1 _ _ _ _ _ _ _
      | exact calepinlaw03_first.mono _
      | exact calepinref03_Same.mono _ _ _ _ _ _ _ _ _
      | exact line_Parse.mono _ _
      | exact LeO.none _
      | refine LeO.ite ?_ ?_
      | refine LeO.bind ?_ (fun _ => ?_)
set_option maxHeartbeats 8000000 in
set_option maxRecDepth 100000 in
theorem calepinlaw03_LineQuotes.calls (k : Nat) (a0 : ByteArray) (a1 : ByteArray) (r : Bool) (w : World) (hT : TabsW w) (h : calepinlaw03_LineQuotes.f k a0 a1 = some r) :
    Calls Tryz.prog 3 #[.string a0, .string a1] w fun e w' => e = .returned (.bool r) ∧ Below w.heap.size w w' := by
  have hu25 := Tryz.underlying25
  have HT := Aside0.mk hT
  clear hT
  have HB := Aside0.mk (Below.refl w.heap.size w)
  have H : ((calepinlaw03_first.f k).bind fun t190 => (if t190 = true then (calepinlaw03_LineQuotes.l0 k a0 a1 0) else (some false))) = some r := h
  clear h
  replace H := Option.bind_eq_some_iff.mp H
  obtain ⟨t190, A30, H⟩ := H
  replace H : (if t190 = true then (calepinlaw03_LineQuotes.l0 k a0 a1 0) else (some false)) = some r := H
  have A3 := Aside0.mk A30
  clear A30
  by_cases c4 : t190 = true
  · subst c4
    have H1 : (calepinlaw03_LineQuotes.l0 k a0 a1 0) = some r := by rw [if_pos rfl] at H; exact H
    clear H
    have H := H1
    clear H1
    have H' := Aside0.mk H
    clear H
    go_enter Tryz.func3, Tryz.ntmps3
    go_wp2_with (first | ((with_reducible refine gate_callee (f := 14) rfl ?_); refine goesL_ (some 12) rfl rfl Tryz.func14 (by kernel_rfl) rfl #[] rfl (by (try simp only [List.map_toArray, List.map_cons, List.map_nil]); first | done | rfl | (simp only [List.length_drop, List.length_take]; rfl)) ?_; (with_reducible refine (calepinlaw03_first.calls k  true _ ?side1 A3.out).mono ?_); (case side1 => exact TabsW.below HT.out (by repeat (first | (with_reducible first | exact HB.out | apply below_alloc | apply pw_below_drewN | apply below_drew1) | exact HB.out))); rintro e w5 ⟨rfl, hb⟩; refine ⟨_, rfl, ?_⟩; have n0_ := Aside0.mk (below_step (by repeat (first | (with_reducible first | exact HB.out | apply below_alloc | apply pw_below_drewN | apply below_drew1) | exact HB.out)) hb); clear HB; have HB := n0_; clear n0_; (try clear hb); (try clear hb2); (try clear hk); (try clear hi)))
    go_loopg [5] k (fun kq v5 w' => ∃ (x5_1 : Int), v5 = .int .i64 x5_1 ∧ Aside0 (calepinlaw03_LineQuotes.l0 kq a0 a1 x5_1 = some r) ∧ Aside0 (kq ≤ k) ∧ Aside0 (Below w.heap.size w w'))
    case atStart => exact ⟨(0), (by first | rfl | (simp; done) | (simp [*]; done)), H', ⟨Nat.le_refl _⟩, ⟨by repeat (first | (with_reducible first | exact HB.out | apply below_alloc | apply pw_below_drewN | apply below_drew1) | exact HB.out)⟩⟩
    case round =>
      clear H'
      try clear c1
      try clear p2
      try clear c3
      try clear c4
      obtain ⟨x5_1, rfl, HA, HK1, HB⟩ := hrel
      cases gk with
      | zero => exact absurd HA.out (by simp [calepinlaw03_LineQuotes.l0])
      | succ k1 =>
        have H := HA.out
        clear HA
        simp only [calepinlaw03_LineQuotes.l0] at H
        by_cases c6 : x5_1 < (wrap64 ((a0.size : Int) + (a1.size : Int)))
        · rw [if_pos c6] at H
          have c6b0 : decide (x5_1 < (wrap64 ((a0.size : Int) + (a1.size : Int)))) = true := decide_eq_true c6
          clear c6
          by_cases c7 : a0.size + a1.size ≤ 9223372036854775807
          · rw [if_pos c7] at H
            have c7b0 := eq_true c7
            have c7b1 : decide (a0.size + a1.size ≤ 9223372036854775807) = true := decide_eq_true c7
            try have c7b2 : (9223372036854775807 < a0.size + a1.size) = False := eq_false (Nat.not_lt.2 c7)
            by_cases c8 : 0 ≤ x5_1
            · rw [if_pos c8] at H
              have c8b0 : decide (0 ≤ x5_1) = true := decide_eq_true c8
              clear c8
              by_cases c9 : x5_1 < ((a0.size : Int) + (a1.size : Int))
              · rw [if_pos c9] at H
                have c9b0 : decide (x5_1 < ((a0.size : Int) + (a1.size : Int))) = true := decide_eq_true c9
                clear c9
                by_cases c11 : (bt (a0 ++ a1) x5_1) = 34
                · rw [if_pos c11] at H
                  have c11b0 : ((bt (a0 ++ a1) x5_1) == 34) = true := beq_iff_eq.mpr c11
                  have c11b1 : ((bt (a0 ++ a1) x5_1) != 34) = false := bne_eq_false_iff_eq.mpr c11
                  clear c11
                  obtain rfl := Option.some.inj H
                  have p10 : 0 ≤ (x5_1 : Int) := of_decide_eq_true (by first | (with_reducible assumption) | assumption)
                  have q10 : x5_1 < (a0.size : Int) + (a1.size : Int) := of_decide_eq_true (by first | (with_reducible assumption) | assumption)
                  have hx10 := bt_at (a0 ++ a1) x5_1
                  replace p10 := eq_true p10
                  replace q10 := eq_true q10
                  go_wp2
                  go_ret
                  exact ⟨by first | rfl | (simp [errW_none, errW_some] <;> rfl) | (simp [*, errW_none, errW_some] <;> rfl), by repeat (first | (with_reducible first | exact HB.out | apply below_alloc | apply pw_below_drewN | apply below_drew1) | exact HB.out)⟩
                · rw [if_neg c11] at H
                  have c11b0 : ((bt (a0 ++ a1) x5_1) == 34) = false := beq_eq_false_iff_ne.mpr c11
                  have c11b1 : ((bt (a0 ++ a1) x5_1) != 34) = true := bne_iff_ne.mpr c11
                  by_cases c12 : (bt (a0 ++ a1) x5_1) = 10
                  · rw [if_pos c12] at H
                    have c12b0 : ((bt (a0 ++ a1) x5_1) == 10) = true := beq_iff_eq.mpr c12
                    have c12b1 : ((bt (a0 ++ a1) x5_1) != 10) = false := bne_eq_false_iff_eq.mpr c12
                    clear c12
                    obtain rfl := Option.some.inj H
                    have p10 : 0 ≤ (x5_1 : Int) := of_decide_eq_true (by first | (with_reducible assumption) | assumption)
                    have q10 : x5_1 < (a0.size : Int) + (a1.size : Int) := of_decide_eq_true (by first | (with_reducible assumption) | assumption)
                    have hx10 := bt_at (a0 ++ a1) x5_1
                    replace p10 := eq_true p10
                    replace q10 := eq_true q10
                    go_wp2
                    go_ret
                    exact ⟨by first | rfl | (simp [errW_none, errW_some] <;> rfl) | (simp [*, errW_none, errW_some] <;> rfl), by repeat (first | (with_reducible first | exact HB.out | apply below_alloc | apply pw_below_drewN | apply below_drew1) | exact HB.out)⟩
                  · rw [if_neg c12] at H
                    have c12b0 : ((bt (a0 ++ a1) x5_1) == 10) = false := beq_eq_false_iff_ne.mpr c12
                    have c12b1 : ((bt (a0 ++ a1) x5_1) != 10) = true := bne_iff_ne.mpr c12
                    by_cases c13 : (bt (a0 ++ a1) x5_1) = 13
                    · rw [if_pos c13] at H
                      have c13b0 : ((bt (a0 ++ a1) x5_1) == 13) = true := beq_iff_eq.mpr c13
                      have c13b1 : ((bt (a0 ++ a1) x5_1) != 13) = false := bne_eq_false_iff_eq.mpr c13
                      clear c13
                      obtain rfl := Option.some.inj H
                      have p10 : 0 ≤ (x5_1 : Int) := of_decide_eq_true (by first | (with_reducible assumption) | assumption)
                      have q10 : x5_1 < (a0.size : Int) + (a1.size : Int) := of_decide_eq_true (by first | (with_reducible assumption) | assumption)
                      have hx10 := bt_at (a0 ++ a1) x5_1
                      replace p10 := eq_true p10
                      replace q10 := eq_true q10
                      go_wp2
                      go_ret
                      exact ⟨by first | rfl | (simp [errW_none, errW_some] <;> rfl) | (simp [*, errW_none, errW_some] <;> rfl), by repeat (first | (with_reducible first | exact HB.out | apply below_alloc | apply pw_below_drewN | apply below_drew1) | exact HB.out)⟩
                    · rw [if_neg c13] at H
                      have c13b0 : ((bt (a0 ++ a1) x5_1) == 13) = false := beq_eq_false_iff_ne.mpr c13
                      have c13b1 : ((bt (a0 ++ a1) x5_1) != 13) = true := bne_iff_ne.mpr c13
                      have H' := Aside0.mk H
                      clear H
                      have p10 : 0 ≤ (x5_1 : Int) := of_decide_eq_true (by first | (with_reducible assumption) | assumption)
                      have q10 : x5_1 < (a0.size : Int) + (a1.size : Int) := of_decide_eq_true (by first | (with_reducible assumption) | assumption)
                      have hx10 := bt_at (a0 ++ a1) x5_1
                      replace p10 := eq_true p10
                      replace q10 := eq_true q10
                      go_wp2
                      go_roundg k1
                      case measure => have := HK1.out; omega
                      case rel => exact ⟨(wrap64 (x5_1 + 1)), (by first | rfl | (simp; done) | (simp [*]; done)), H', ⟨by have := HK1.out; omega⟩, ⟨by repeat (first | (with_reducible first | exact HB.out | apply below_alloc | apply pw_below_drewN | apply below_drew1) | exact HB.out)⟩⟩
              · rw [if_neg c9] at H
                exact absurd H (by simp)
            · rw [if_neg c8] at H
              exact absurd H (by simp)
          · rw [if_neg c7] at H
            exact absurd H (by simp)
        · rw [if_neg c6] at H
          have c6b0 : decide (x5_1 < (wrap64 ((a0.size : Int) + (a1.size : Int)))) = false := decide_eq_false c6
          clear c6
          by_cases c14 : 5 + a0.size ≤ 9223372036854775807
          · rw [if_pos c14] at H
            have c14b0 := eq_true c14
            have c14b1 : decide (5 + a0.size ≤ 9223372036854775807) = true := decide_eq_true c14
            try have c14b2 : (9223372036854775807 < 5 + a0.size) = False := eq_false (Nat.not_lt.2 c14)
            by_cases c15 : 5 + a0.size + 5 ≤ 9223372036854775807
            · rw [if_pos c15] at H
              have c15b0 := eq_true c15
              have c15b1 : decide (5 + a0.size + 5 ≤ 9223372036854775807) = true := decide_eq_true c15
              try have c15b2 : (9223372036854775807 < 5 + a0.size + 5) = False := eq_false (Nat.not_lt.2 c15)
              by_cases c16 : 5 + a0.size + 5 + a1.size ≤ 9223372036854775807
              · rw [if_pos c16] at H
                have c16b0 := eq_true c16
                have c16b1 : decide (5 + a0.size + 5 + a1.size ≤ 9223372036854775807) = true := decide_eq_true c16
                try have c16b2 : (9223372036854775807 < 5 + a0.size + 5 + a1.size) = False := eq_false (Nat.not_lt.2 c16)
                by_cases c17 : 5 + a0.size + 5 + a1.size + 3 ≤ 9223372036854775807
                · rw [if_pos c17] at H
                  have c17b0 := eq_true c17
                  have c17b1 : decide (5 + a0.size + 5 + a1.size + 3 ≤ 9223372036854775807) = true := decide_eq_true c17
                  try have c17b2 : (9223372036854775807 < 5 + a0.size + 5 + a1.size + 3) = False := eq_false (Nat.not_lt.2 c17)
                  have c6b9 : decide (x5_1 < (a0.size : Int) + (a1.size : Int)) = false := by rw [show wrap64 ((a0.size : Int) + (a1.size : Int)) = (a0.size : Int) + (a1.size : Int) by unfold wrap64; omega] at c6b0; exact c6b0
                  replace H := Option.bind_eq_some_iff.mp H
                  obtain ⟨⟨t191, t192, t193, t196, t197⟩, A180, H⟩ := H
                  replace H : (if t197 = 0 then (calepinlaw03_LineQuotes.l1 k1 a0 a1 0 t191 t192 t193 t196) else (some (t197 == 10))) = some r := H
                  have A18 := Aside0.mk A180
                  clear A180
                  by_cases c19 : t197 = 0
                  · rw [if_pos c19] at H
                    have c19b0 : (t197 == 0) = true := beq_iff_eq.mpr c19
                    have c19b1 : (t197 != 0) = false := bne_eq_false_iff_eq.mpr c19
                    clear c19
                    have H' := Aside0.mk H
                    clear H
                    go_wp2_with (first | ((with_reducible refine gate_callee (f := 15) rfl ?_); refine goesL_ (some 45) rfl rfl Tryz.func15 (by kernel_rfl) rfl #[.string (((((⟨#[65, 59, 66, 61, 34]⟩ : ByteArray) ++ a0) ++ (⟨#[34, 59, 67, 61, 34]⟩ : ByteArray)) ++ a1) ++ (⟨#[34, 58, 120]⟩ : ByteArray))] rfl (by (try simp only [List.map_toArray, List.map_cons, List.map_nil]); first | done | rfl | (simp only [List.length_drop, List.length_take]; rfl)) ?_; (with_reducible refine (line_Parse.calls k1 (((((⟨#[65, 59, 66, 61, 34]⟩ : ByteArray) ++ a0) ++ (⟨#[34, 59, 67, 61, 34]⟩ : ByteArray)) ++ a1) ++ (⟨#[34, 58, 120]⟩ : ByteArray)) t191 t192 t193 t196 t197 _ ?side1 A18.out).mono ?_); (case side1 => exact TabsW.below HT.out (by repeat (first | (with_reducible first | exact HB.out | apply below_alloc | apply pw_below_drewN | apply below_drew1) | exact HB.out))); rintro e w20 ⟨v194, rfl, ho0, hb⟩; refine ⟨_, rfl, ?_⟩; have n0_ := Aside0.mk (Kd.S_lower ho0 (below_size (by repeat (first | (with_reducible first | exact HB.out | apply below_alloc | apply pw_below_drewN | apply below_drew1) | exact HB.out)))); have n1_ := Aside0.mk (below_step (by repeat (first | (with_reducible first | exact HB.out | apply below_alloc | apply pw_below_drewN | apply below_drew1) | exact HB.out)) hb); clear HB; have HO195 := n0_; have HB := n1_; clear n0_ n1_; (try clear hb); (try clear hb2); (try clear hk); (try clear hi); (try clear ho0)) | ((with_reducible refine gate_dst (N := 7) rfl ?_); (try (refine gate_guard (by rfl) ?_; dsimp only)); refine box_event ?hg (N := 7) ?hd (cs := #[.string (⟨#[]⟩ : ByteArray), .string (⟨#[]⟩ : ByteArray), .slice none 0 0, .string (⟨#[]⟩ : ByteArray)]) (t := 25) ?hr ?_; (case hd => rfl); (case hg => rfl); (case hr => first | (go_simp; done) | (go_simp; rfl)); intro gb198 hg w21 hbox hb; have n0_ := Aside0.mk (Kd.S_below (by (with_reducible repeat (first | apply Kd.S_alloc | apply Kd.S_drewN | apply Kd.S_drew)); exact HO195.out) hb); have n1_ := Aside0.mk (below_step (by repeat (first | (with_reducible first | exact HB.out | apply below_alloc | apply pw_below_drewN | apply below_drew1) | exact HB.out)) hb); have n2_ := Aside0.mk (hbox); have n3_ := Aside0.mk ((by rw [hg]; exact (below_size (by repeat (first | (with_reducible first | exact HB.out | apply below_alloc | apply pw_below_drewN | apply below_drew1) | exact HB.out))) : w.heap.size ≤ gb198)); have n4_ := Aside0.mk ((by rw [hg]; exact (below_size (by repeat (first | (with_reducible first | exact HB.out | apply below_alloc | apply pw_below_drewN | apply below_drew1) | exact HB.out))) : w.heap.size ≤ gb198)); clear HO195; clear HB; have HO195 := n0_; have HB := n1_; have BK198 := n2_; have GW198 := n3_; have GE198 := n4_; clear n0_ n1_ n2_ n3_ n4_; clear hb hbox hg; have hcz22_0 : w21.cell? ⟨gb198, 0, none⟩ = some (.string (⟨#[]⟩ : ByteArray)) := (blk_cell BK198.out 0).trans rfl; have hcz22_1 : w21.cell? ⟨gb198, 1, none⟩ = some (.string (⟨#[]⟩ : ByteArray)) := (blk_cell BK198.out 1).trans rfl; have hcz22_2 : w21.cell? ⟨gb198, 2, none⟩ = some (.slice none 0 0) := (blk_cell BK198.out 2).trans rfl; have hcz22_3 : w21.cell? ⟨gb198, 3, none⟩ = some (.string (⟨#[]⟩ : ByteArray)) := (blk_cell BK198.out 3).trans rfl; have hfz22_0 := blk_frozen BK198.out 0; have hfz22_1 := blk_frozen BK198.out 1; have hfz22_2 := blk_frozen BK198.out 2; have hfz22_3 := blk_frozen BK198.out 3; obtain ⟨Ao23, co23, eo23⟩ := Kd.S_slice HO195.out; subst eo23))
                    go_loopg [9] k1 (fun kq v9 w' => ∃ (x9_2 : Int), v9 = .int .i64 x9_2 ∧ Aside0 (calepinlaw03_LineQuotes.l1 kq a0 a1 x9_2 t191 t192 t193 t196 = some r) ∧ Aside0 (kq ≤ k1) ∧ Aside0 (Kd.S k31 31 w' w.heap.size (fun _ => True) (.slice Ao23 t193.length co23) t193) ∧ Aside0 (w'.heap[gb198]? = some (.cells #[.string t191, .string t192, (.slice Ao23 t193.length co23), .string t196] 25 (0, 0))) ∧ Aside0 (Below w.heap.size w w'))
                    case atStart => exact ⟨(0), (by first | rfl | (simp; done) | (simp [*]; done)), H', ⟨Nat.le_refl _⟩, ⟨by (with_reducible repeat (first | apply Kd.S_alloc | apply Kd.S_drewN | apply Kd.S_drew)); exact Kd.S_mono (Kd.S_far (p := ⟨gb198, 3, none⟩) (Kd.S_far (p := ⟨gb198, 2, none⟩) (Kd.S_far (p := ⟨gb198, 1, none⟩) (Kd.S_far (p := ⟨gb198, 0, none⟩) (Kd.S_types HO195.out BK198.out (by decide)) (fun _ hk => hk.2) (.string t191)) (fun _ hk => hk.2) (.string t192)) (fun _ hk => hk.2) (.slice Ao23 t193.length co23)) (fun _ hk => hk.2) (.string t196)) (fun _ hk => trivial)⟩, ⟨by (with_reducible repeat (first | refine blk_drewN ?_ _ | refine blk_drew ?_ | refine blk_alloc ?_ _)); refine blk_put (cs := #[.string t191, .string t192, .slice Ao23 t193.length co23, .string (⟨#[]⟩ : ByteArray)]) ?_ 3 _ rfl; (with_reducible repeat (first | refine blk_drewN ?_ _ | refine blk_drew ?_ | refine blk_alloc ?_ _)); refine blk_put (cs := #[.string t191, .string t192, .slice none 0 0, .string (⟨#[]⟩ : ByteArray)]) ?_ 2 _ rfl; (with_reducible repeat (first | refine blk_drewN ?_ _ | refine blk_drew ?_ | refine blk_alloc ?_ _)); refine blk_put (cs := #[.string t191, .string (⟨#[]⟩ : ByteArray), .slice none 0 0, .string (⟨#[]⟩ : ByteArray)]) ?_ 1 _ rfl; (with_reducible repeat (first | refine blk_drewN ?_ _ | refine blk_drew ?_ | refine blk_alloc ?_ _)); refine blk_put (cs := #[.string (⟨#[]⟩ : ByteArray), .string (⟨#[]⟩ : ByteArray), .slice none 0 0, .string (⟨#[]⟩ : ByteArray)]) ?_ 0 _ rfl; (with_reducible repeat (first | refine blk_drewN ?_ _ | refine blk_drew ?_ | refine blk_alloc ?_ _)); exact BK198.out⟩, ⟨by repeat (first | (with_reducible first | exact HB.out | apply below_alloc | apply pw_below_drewN | apply below_drew1 | refine below_set ?_ GE198.out) | exact HB.out)⟩⟩
                    case round =>
                      clear H'
                      try clear c1
                      try clear p1
                      try clear q1
                      try clear hx1
                      try clear p2
                      try clear c3
                      try clear c4
                      try clear c6
                      try clear c6b0
                      try clear p6
                      try clear c7
                      try clear c7b0
                      try clear c7b1
                      try clear c7b2
                      try clear c8
                      try clear c8b0
                      try clear c9
                      try clear c9b0
                      try clear p10
                      try clear q10
                      try clear hx10
                      try clear c11
                      try clear c11b0
                      try clear c11b1
                      try clear c12
                      try clear c12b0
                      try clear c12b1
                      try clear c13
                      try clear c13b0
                      try clear c13b1
                      try clear c14
                      try clear c14b0
                      try clear c14b1
                      try clear c14b2
                      try clear c15
                      try clear c15b0
                      try clear c15b1
                      try clear c15b2
                      try clear c16
                      try clear c16b0
                      try clear c16b1
                      try clear c16b2
                      try clear c17
                      try clear c17b0
                      try clear c17b1
                      try clear c17b2
                      try clear c19
                      try clear c19b0
                      try clear c19b1
                      try clear hcz22_0
                      try clear hcz22_1
                      try clear hcz22_2
                      try clear hcz22_3
                      try clear hfz22_0
                      try clear hfz22_1
                      try clear hfz22_2
                      try clear hfz22_3
                      try clear p10
                      try clear p2
                      try clear q10
                      obtain ⟨x9_2, rfl, HA, HK2, HO_199002, BK198, HB⟩ := hrel
                      cases gk with
                      | zero => exact absurd HA.out (by simp [calepinlaw03_LineQuotes.l1])
                      | succ k2 =>
                        have H := HA.out
                        clear HA
                        simp only [calepinlaw03_LineQuotes.l1] at H
                        by_cases c24 : x9_2 < (a0.size : Int)
                        · rw [if_pos c24] at H
                          have c24b0 : decide (x9_2 < (a0.size : Int)) = true := decide_eq_true c24
                          clear c24
                          by_cases c25 : 0 ≤ x9_2
                          · rw [if_pos c25] at H
                            have c25b0 : decide (0 ≤ x9_2) = true := decide_eq_true c25
                            clear c25
                            by_cases c27 : (bt a0 x9_2) = 44
                            · rw [if_pos c27] at H
                              have c27b0 : ((bt a0 x9_2) == 44) = true := beq_iff_eq.mpr c27
                              have c27b1 : ((bt a0 x9_2) != 44) = false := bne_eq_false_iff_eq.mpr c27
                              clear c27
                              by_cases c28 : (t193.length : Int) = 2
                              · rw [if_pos c28] at H
                                have c28b0 : ((t193.length : Int) == 2) = true := beq_iff_eq.mpr c28
                                have c28b1 : ((t193.length : Int) != 2) = false := bne_eq_false_iff_eq.mpr c28
                                clear c28
                                by_cases c29 : 0 < (t193.length : Int)
                                · rw [if_pos c29] at H
                                  have c29b0 : decide (0 < (t193.length : Int)) = true := decide_eq_true c29
                                  have c29b1 : decide (0 < t193.length) = true := decide_eq_true (by omega)
                                  clear c29
                                  obtain rfl := Option.some.inj H
                                  have p26 : 0 ≤ (x9_2 : Int) := of_decide_eq_true (by first | (with_reducible assumption) | assumption)
                                  have q26 : x9_2 < (a0.size : Int) := of_decide_eq_true (by first | (with_reducible assumption) | assumption)
                                  have hx26 := bt_at a0 x9_2
                                  replace p26 := eq_true p26
                                  replace q26 := eq_true q26
                                  have hcz30_0 : wr.cell? ⟨gb198, 0, none⟩ = some (.string t191) := (blk_cell BK198.out 0).trans rfl
                                  have hcz30_1 : wr.cell? ⟨gb198, 1, none⟩ = some (.string t192) := (blk_cell BK198.out 1).trans rfl
                                  have hcz30_2 : wr.cell? ⟨gb198, 2, none⟩ = some (.slice Ao23 t193.length co23) := (blk_cell BK198.out 2).trans rfl
                                  have hcz30_3 : wr.cell? ⟨gb198, 3, none⟩ = some (.string t196) := (blk_cell BK198.out 3).trans rfl
                                  have hfz30_0 := blk_frozen BK198.out 0
                                  have hfz30_1 := blk_frozen BK198.out 1
                                  have hfz30_2 := blk_frozen BK198.out 2
                                  have hfz30_3 := blk_frozen BK198.out 3
                                  have p199 : 0 ≤ (0 : Int) := (by omega)
                                  have q199 : 0 < (t193.length : Int) := of_decide_eq_true (by first | (with_reducible assumption) | assumption)
                                  obtain ⟨ad199, A199_1, c199_1, e199, hx199_0, hx199_1, hl199_1, hi199_1⟩ := at_T31 (Kd.S_reads' HO_199002.out).2.2 0 p199 q199
                                  cases e199
                                  obtain ⟨ce199, hce199, hMe199, hcc199⟩ := Kd.S_get HO_199002.out z31 0 p199 (by first | exact q199 | exact of_decide_eq_true (by first | (with_reducible assumption) | assumption) | (have e_ := (Kd.S_reads' HO_199002.out).1; omega))
                                  obtain ⟨ve199_1, rfl, ge199_1⟩ := k31_openM hMe199
                                  have hv199_1 := hcc199 1 _ rfl
                                  rw [add_field _ _ 1 (by omega)] at hv199_1
                                  replace hv199_1 := Option.some.inj (hv199_1.symm.trans hx199_1)
                                  rw [hv199_1] at ge199_1
                                  have HL199_1 := Aside0.mk (show Kd.R Kd.string 9 _ _ _ _ ((rd_T31 t193 0).f1) from ge199_1)
                                  clear hv199_1 ge199_1
                                  clear hcc199 hce199
                                  have qi199 : (0 < t193.length) = True := eq_true (by omega)
                                  (try rw [show ((0 : Int)).toNat = 0 from rfl] at hx199_0)
                                  (try rw [show 0 * 2 = 0 from rfl] at hx199_0)
                                  (try rw [Addr.add_zero'] at hx199_0)
                                  (try rw [show ((0 : Int)).toNat = 0 from rfl] at hx199_1)
                                  (try rw [show 0 * 2 = 0 from rfl] at hx199_1)
                                  (try rw [Addr.add_zero'] at hx199_1)
                                  have HR199_1 := Aside0.mk hi199_1
                                  have HC199_1 := Aside0.mk hl199_1
                                  clear hi199_1 hl199_1
                                  replace p199 := eq_true p199
                                  replace q199 := eq_true q199
                                  go_wp2
                                  go_ret
                                  exact ⟨by first | rfl | (simp [errW_none, errW_some] <;> rfl) | (simp [*, errW_none, errW_some] <;> rfl), by repeat (first | (with_reducible first | exact HB.out | apply below_alloc | apply pw_below_drewN | apply below_drew1 | refine below_set ?_ GE198.out) | exact HB.out)⟩
                                · rw [if_neg c29] at H
                                  exact absurd H (by simp)
                              · rw [if_neg c28] at H
                                have c28b0 : ((t193.length : Int) == 2) = false := beq_eq_false_iff_ne.mpr c28
                                have c28b1 : ((t193.length : Int) != 2) = true := bne_iff_ne.mpr c28
                                obtain rfl := Option.some.inj H
                                have p26 : 0 ≤ (x9_2 : Int) := of_decide_eq_true (by first | (with_reducible assumption) | assumption)
                                have q26 : x9_2 < (a0.size : Int) := of_decide_eq_true (by first | (with_reducible assumption) | assumption)
                                have hx26 := bt_at a0 x9_2
                                replace p26 := eq_true p26
                                replace q26 := eq_true q26
                                have hcz31_0 : wr.cell? ⟨gb198, 0, none⟩ = some (.string t191) := (blk_cell BK198.out 0).trans rfl
                                have hcz31_1 : wr.cell? ⟨gb198, 1, none⟩ = some (.string t192) := (blk_cell BK198.out 1).trans rfl
                                have hcz31_2 : wr.cell? ⟨gb198, 2, none⟩ = some (.slice Ao23 t193.length co23) := (blk_cell BK198.out 2).trans rfl
                                have hcz31_3 : wr.cell? ⟨gb198, 3, none⟩ = some (.string t196) := (blk_cell BK198.out 3).trans rfl
                                have hfz31_0 := blk_frozen BK198.out 0
                                have hfz31_1 := blk_frozen BK198.out 1
                                have hfz31_2 := blk_frozen BK198.out 2
                                have hfz31_3 := blk_frozen BK198.out 3
                                go_wp2
                                go_ret
                                exact ⟨by first | rfl | (simp [errW_none, errW_some] <;> rfl) | (simp [*, errW_none, errW_some] <;> rfl), by repeat (first | (with_reducible first | exact HB.out | apply below_alloc | apply pw_below_drewN | apply below_drew1 | refine below_set ?_ GE198.out) | exact HB.out)⟩
                            · rw [if_neg c27] at H
                              have c27b0 : ((bt a0 x9_2) == 44) = false := beq_eq_false_iff_ne.mpr c27
                              have c27b1 : ((bt a0 x9_2) != 44) = true := bne_iff_ne.mpr c27
                              by_cases c33 : (bt a0 x9_2) = 59
                              · rw [if_pos c33] at H
                                have c33b0 : ((bt a0 x9_2) == 59) = true := beq_iff_eq.mpr c33
                                have c33b1 : ((bt a0 x9_2) != 59) = false := bne_eq_false_iff_eq.mpr c33
                                clear c33
                                by_cases c34 : (t193.length : Int) = 2
                                · rw [if_pos c34] at H
                                  have c34b0 : ((t193.length : Int) == 2) = true := beq_iff_eq.mpr c34
                                  have c34b1 : ((t193.length : Int) != 2) = false := bne_eq_false_iff_eq.mpr c34
                                  clear c34
                                  by_cases c35 : 0 < (t193.length : Int)
                                  · rw [if_pos c35] at H
                                    have c35b0 : decide (0 < (t193.length : Int)) = true := decide_eq_true c35
                                    have c35b1 : decide (0 < t193.length) = true := decide_eq_true (by omega)
                                    clear c35
                                    obtain rfl := Option.some.inj H
                                    have p26 : 0 ≤ (x9_2 : Int) := of_decide_eq_true (by first | (with_reducible assumption) | assumption)
                                    have q26 : x9_2 < (a0.size : Int) := of_decide_eq_true (by first | (with_reducible assumption) | assumption)
                                    have hx26 := bt_at a0 x9_2
                                    replace p26 := eq_true p26
                                    replace q26 := eq_true q26
                                    have p32 : 0 ≤ (x9_2 : Int) := of_decide_eq_true (by first | (with_reducible assumption) | assumption)
                                    have q32 : x9_2 < (a0.size : Int) := of_decide_eq_true (by first | (with_reducible assumption) | assumption)
                                    have hx32 := bt_at a0 x9_2
                                    replace p32 := eq_true p32
                                    replace q32 := eq_true q32
                                    have hcz36_0 : wr.cell? ⟨gb198, 0, none⟩ = some (.string t191) := (blk_cell BK198.out 0).trans rfl
                                    have hcz36_1 : wr.cell? ⟨gb198, 1, none⟩ = some (.string t192) := (blk_cell BK198.out 1).trans rfl
                                    have hcz36_2 : wr.cell? ⟨gb198, 2, none⟩ = some (.slice Ao23 t193.length co23) := (blk_cell BK198.out 2).trans rfl
                                    have hcz36_3 : wr.cell? ⟨gb198, 3, none⟩ = some (.string t196) := (blk_cell BK198.out 3).trans rfl
                                    have hfz36_0 := blk_frozen BK198.out 0
                                    have hfz36_1 := blk_frozen BK198.out 1
                                    have hfz36_2 := blk_frozen BK198.out 2
                                    have hfz36_3 := blk_frozen BK198.out 3
                                    have p200 : 0 ≤ (0 : Int) := (by omega)
                                    have q200 : 0 < (t193.length : Int) := of_decide_eq_true (by first | (with_reducible assumption) | assumption)
                                    obtain ⟨ad200, A200_1, c200_1, e200, hx200_0, hx200_1, hl200_1, hi200_1⟩ := at_T31 (Kd.S_reads' HO_199002.out).2.2 0 p200 q200
                                    cases e200
                                    obtain ⟨ce200, hce200, hMe200, hcc200⟩ := Kd.S_get HO_199002.out z31 0 p200 (by first | exact q200 | exact of_decide_eq_true (by first | (with_reducible assumption) | assumption) | (have e_ := (Kd.S_reads' HO_199002.out).1; omega))
                                    obtain ⟨ve200_1, rfl, ge200_1⟩ := k31_openM hMe200
                                    have hv200_1 := hcc200 1 _ rfl
                                    rw [add_field _ _ 1 (by omega)] at hv200_1
                                    replace hv200_1 := Option.some.inj (hv200_1.symm.trans hx200_1)
                                    rw [hv200_1] at ge200_1
                                    have HL200_1 := Aside0.mk (show Kd.R Kd.string 9 _ _ _ _ ((rd_T31 t193 0).f1) from ge200_1)
                                    clear hv200_1 ge200_1
                                    clear hcc200 hce200
                                    have qi200 : (0 < t193.length) = True := eq_true (by omega)
                                    (try rw [show ((0 : Int)).toNat = 0 from rfl] at hx200_0)
                                    (try rw [show 0 * 2 = 0 from rfl] at hx200_0)
                                    (try rw [Addr.add_zero'] at hx200_0)
                                    (try rw [show ((0 : Int)).toNat = 0 from rfl] at hx200_1)
                                    (try rw [show 0 * 2 = 0 from rfl] at hx200_1)
                                    (try rw [Addr.add_zero'] at hx200_1)
                                    have HR200_1 := Aside0.mk hi200_1
                                    have HC200_1 := Aside0.mk hl200_1
                                    clear hi200_1 hl200_1
                                    replace p200 := eq_true p200
                                    replace q200 := eq_true q200
                                    go_wp2
                                    go_ret
                                    exact ⟨by first | rfl | (simp [errW_none, errW_some] <;> rfl) | (simp [*, errW_none, errW_some] <;> rfl), by repeat (first | (with_reducible first | exact HB.out | apply below_alloc | apply pw_below_drewN | apply below_drew1 | refine below_set ?_ GE198.out) | exact HB.out)⟩
                                  · rw [if_neg c35] at H
                                    exact absurd H (by simp)
                                · rw [if_neg c34] at H
                                  have c34b0 : ((t193.length : Int) == 2) = false := beq_eq_false_iff_ne.mpr c34
                                  have c34b1 : ((t193.length : Int) != 2) = true := bne_iff_ne.mpr c34
                                  obtain rfl := Option.some.inj H
                                  have p26 : 0 ≤ (x9_2 : Int) := of_decide_eq_true (by first | (with_reducible assumption) | assumption)
                                  have q26 : x9_2 < (a0.size : Int) := of_decide_eq_true (by first | (with_reducible assumption) | assumption)
                                  have hx26 := bt_at a0 x9_2
                                  replace p26 := eq_true p26
                                  replace q26 := eq_true q26
                                  have p32 : 0 ≤ (x9_2 : Int) := of_decide_eq_true (by first | (with_reducible assumption) | assumption)
                                  have q32 : x9_2 < (a0.size : Int) := of_decide_eq_true (by first | (with_reducible assumption) | assumption)
                                  have hx32 := bt_at a0 x9_2
                                  replace p32 := eq_true p32
                                  replace q32 := eq_true q32
                                  have hcz37_0 : wr.cell? ⟨gb198, 0, none⟩ = some (.string t191) := (blk_cell BK198.out 0).trans rfl
                                  have hcz37_1 : wr.cell? ⟨gb198, 1, none⟩ = some (.string t192) := (blk_cell BK198.out 1).trans rfl
                                  have hcz37_2 : wr.cell? ⟨gb198, 2, none⟩ = some (.slice Ao23 t193.length co23) := (blk_cell BK198.out 2).trans rfl
                                  have hcz37_3 : wr.cell? ⟨gb198, 3, none⟩ = some (.string t196) := (blk_cell BK198.out 3).trans rfl
                                  have hfz37_0 := blk_frozen BK198.out 0
                                  have hfz37_1 := blk_frozen BK198.out 1
                                  have hfz37_2 := blk_frozen BK198.out 2
                                  have hfz37_3 := blk_frozen BK198.out 3
                                  go_wp2
                                  go_ret
                                  exact ⟨by first | rfl | (simp [errW_none, errW_some] <;> rfl) | (simp [*, errW_none, errW_some] <;> rfl), by repeat (first | (with_reducible first | exact HB.out | apply below_alloc | apply pw_below_drewN | apply below_drew1 | refine below_set ?_ GE198.out) | exact HB.out)⟩
                              · rw [if_neg c33] at H
                                have c33b0 : ((bt a0 x9_2) == 59) = false := beq_eq_false_iff_ne.mpr c33
                                have c33b1 : ((bt a0 x9_2) != 59) = true := bne_iff_ne.mpr c33
                                by_cases c39 : (bt a0 x9_2) = 58
                                · rw [if_pos c39] at H
                                  have c39b0 : ((bt a0 x9_2) == 58) = true := beq_iff_eq.mpr c39
                                  have c39b1 : ((bt a0 x9_2) != 58) = false := bne_eq_false_iff_eq.mpr c39
                                  clear c39
                                  by_cases c40 : (t193.length : Int) = 2
                                  · rw [if_pos c40] at H
                                    have c40b0 : ((t193.length : Int) == 2) = true := beq_iff_eq.mpr c40
                                    have c40b1 : ((t193.length : Int) != 2) = false := bne_eq_false_iff_eq.mpr c40
                                    clear c40
                                    by_cases c41 : 0 < (t193.length : Int)
                                    · rw [if_pos c41] at H
                                      have c41b0 : decide (0 < (t193.length : Int)) = true := decide_eq_true c41
                                      have c41b1 : decide (0 < t193.length) = true := decide_eq_true (by omega)
                                      clear c41
                                      obtain rfl := Option.some.inj H
                                      have p26 : 0 ≤ (x9_2 : Int) := of_decide_eq_true (by first | (with_reducible assumption) | assumption)
                                      have q26 : x9_2 < (a0.size : Int) := of_decide_eq_true (by first | (with_reducible assumption) | assumption)
                                      have hx26 := bt_at a0 x9_2
                                      replace p26 := eq_true p26
                                      replace q26 := eq_true q26
                                      have p32 : 0 ≤ (x9_2 : Int) := of_decide_eq_true (by first | (with_reducible assumption) | assumption)
                                      have q32 : x9_2 < (a0.size : Int) := of_decide_eq_true (by first | (with_reducible assumption) | assumption)
                                      have hx32 := bt_at a0 x9_2
                                      replace p32 := eq_true p32
                                      replace q32 := eq_true q32
                                      have p38 : 0 ≤ (x9_2 : Int) := of_decide_eq_true (by first | (with_reducible assumption) | assumption)
                                      have q38 : x9_2 < (a0.size : Int) := of_decide_eq_true (by first | (with_reducible assumption) | assumption)
                                      have hx38 := bt_at a0 x9_2
                                      replace p38 := eq_true p38
                                      replace q38 := eq_true q38
                                      have hcz42_0 : wr.cell? ⟨gb198, 0, none⟩ = some (.string t191) := (blk_cell BK198.out 0).trans rfl
                                      have hcz42_1 : wr.cell? ⟨gb198, 1, none⟩ = some (.string t192) := (blk_cell BK198.out 1).trans rfl
                                      have hcz42_2 : wr.cell? ⟨gb198, 2, none⟩ = some (.slice Ao23 t193.length co23) := (blk_cell BK198.out 2).trans rfl
                                      have hcz42_3 : wr.cell? ⟨gb198, 3, none⟩ = some (.string t196) := (blk_cell BK198.out 3).trans rfl
                                      have hfz42_0 := blk_frozen BK198.out 0
                                      have hfz42_1 := blk_frozen BK198.out 1
                                      have hfz42_2 := blk_frozen BK198.out 2
                                      have hfz42_3 := blk_frozen BK198.out 3
                                      have p201 : 0 ≤ (0 : Int) := (by omega)
                                      have q201 : 0 < (t193.length : Int) := of_decide_eq_true (by first | (with_reducible assumption) | assumption)
                                      obtain ⟨ad201, A201_1, c201_1, e201, hx201_0, hx201_1, hl201_1, hi201_1⟩ := at_T31 (Kd.S_reads' HO_199002.out).2.2 0 p201 q201
                                      cases e201
                                      obtain ⟨ce201, hce201, hMe201, hcc201⟩ := Kd.S_get HO_199002.out z31 0 p201 (by first | exact q201 | exact of_decide_eq_true (by first | (with_reducible assumption) | assumption) | (have e_ := (Kd.S_reads' HO_199002.out).1; omega))
                                      obtain ⟨ve201_1, rfl, ge201_1⟩ := k31_openM hMe201
                                      have hv201_1 := hcc201 1 _ rfl
                                      rw [add_field _ _ 1 (by omega)] at hv201_1
                                      replace hv201_1 := Option.some.inj (hv201_1.symm.trans hx201_1)
                                      rw [hv201_1] at ge201_1
                                      have HL201_1 := Aside0.mk (show Kd.R Kd.string 9 _ _ _ _ ((rd_T31 t193 0).f1) from ge201_1)
                                      clear hv201_1 ge201_1
                                      clear hcc201 hce201
                                      have qi201 : (0 < t193.length) = True := eq_true (by omega)
                                      (try rw [show ((0 : Int)).toNat = 0 from rfl] at hx201_0)
                                      (try rw [show 0 * 2 = 0 from rfl] at hx201_0)
                                      (try rw [Addr.add_zero'] at hx201_0)
                                      (try rw [show ((0 : Int)).toNat = 0 from rfl] at hx201_1)
                                      (try rw [show 0 * 2 = 0 from rfl] at hx201_1)
                                      (try rw [Addr.add_zero'] at hx201_1)
                                      have HR201_1 := Aside0.mk hi201_1
                                      have HC201_1 := Aside0.mk hl201_1
                                      clear hi201_1 hl201_1
                                      replace p201 := eq_true p201
                                      replace q201 := eq_true q201
                                      go_wp2
                                      go_ret
                                      exact ⟨by first | rfl | (simp [errW_none, errW_some] <;> rfl) | (simp [*, errW_none, errW_some] <;> rfl), by repeat (first | (with_reducible first | exact HB.out | apply below_alloc | apply pw_below_drewN | apply below_drew1 | refine below_set ?_ GE198.out) | exact HB.out)⟩
                                    · rw [if_neg c41] at H
                                      exact absurd H (by simp)
                                  · rw [if_neg c40] at H
                                    have c40b0 : ((t193.length : Int) == 2) = false := beq_eq_false_iff_ne.mpr c40
                                    have c40b1 : ((t193.length : Int) != 2) = true := bne_iff_ne.mpr c40
                                    obtain rfl := Option.some.inj H
                                    have p26 : 0 ≤ (x9_2 : Int) := of_decide_eq_true (by first | (with_reducible assumption) | assumption)
                                    have q26 : x9_2 < (a0.size : Int) := of_decide_eq_true (by first | (with_reducible assumption) | assumption)
                                    have hx26 := bt_at a0 x9_2
                                    replace p26 := eq_true p26
                                    replace q26 := eq_true q26
                                    have p32 : 0 ≤ (x9_2 : Int) := of_decide_eq_true (by first | (with_reducible assumption) | assumption)
                                    have q32 : x9_2 < (a0.size : Int) := of_decide_eq_true (by first | (with_reducible assumption) | assumption)
                                    have hx32 := bt_at a0 x9_2
                                    replace p32 := eq_true p32
                                    replace q32 := eq_true q32
                                    have p38 : 0 ≤ (x9_2 : Int) := of_decide_eq_true (by first | (with_reducible assumption) | assumption)
                                    have q38 : x9_2 < (a0.size : Int) := of_decide_eq_true (by first | (with_reducible assumption) | assumption)
                                    have hx38 := bt_at a0 x9_2
                                    replace p38 := eq_true p38
                                    replace q38 := eq_true q38
                                    have hcz43_0 : wr.cell? ⟨gb198, 0, none⟩ = some (.string t191) := (blk_cell BK198.out 0).trans rfl
                                    have hcz43_1 : wr.cell? ⟨gb198, 1, none⟩ = some (.string t192) := (blk_cell BK198.out 1).trans rfl
                                    have hcz43_2 : wr.cell? ⟨gb198, 2, none⟩ = some (.slice Ao23 t193.length co23) := (blk_cell BK198.out 2).trans rfl
                                    have hcz43_3 : wr.cell? ⟨gb198, 3, none⟩ = some (.string t196) := (blk_cell BK198.out 3).trans rfl
                                    have hfz43_0 := blk_frozen BK198.out 0
                                    have hfz43_1 := blk_frozen BK198.out 1
                                    have hfz43_2 := blk_frozen BK198.out 2
                                    have hfz43_3 := blk_frozen BK198.out 3
                                    go_wp2
                                    go_ret
                                    exact ⟨by first | rfl | (simp [errW_none, errW_some] <;> rfl) | (simp [*, errW_none, errW_some] <;> rfl), by repeat (first | (with_reducible first | exact HB.out | apply below_alloc | apply pw_below_drewN | apply below_drew1 | refine below_set ?_ GE198.out) | exact HB.out)⟩
                                · rw [if_neg c39] at H
                                  have c39b0 : ((bt a0 x9_2) == 58) = false := beq_eq_false_iff_ne.mpr c39
                                  have c39b1 : ((bt a0 x9_2) != 58) = true := bne_iff_ne.mpr c39
                                  have H' := Aside0.mk H
                                  clear H
                                  have p26 : 0 ≤ (x9_2 : Int) := of_decide_eq_true (by first | (with_reducible assumption) | assumption)
                                  have q26 : x9_2 < (a0.size : Int) := of_decide_eq_true (by first | (with_reducible assumption) | assumption)
                                  have hx26 := bt_at a0 x9_2
                                  replace p26 := eq_true p26
                                  replace q26 := eq_true q26
                                  have p32 : 0 ≤ (x9_2 : Int) := of_decide_eq_true (by first | (with_reducible assumption) | assumption)
                                  have q32 : x9_2 < (a0.size : Int) := of_decide_eq_true (by first | (with_reducible assumption) | assumption)
                                  have hx32 := bt_at a0 x9_2
                                  replace p32 := eq_true p32
                                  replace q32 := eq_true q32
                                  have p38 : 0 ≤ (x9_2 : Int) := of_decide_eq_true (by first | (with_reducible assumption) | assumption)
                                  have q38 : x9_2 < (a0.size : Int) := of_decide_eq_true (by first | (with_reducible assumption) | assumption)
                                  have hx38 := bt_at a0 x9_2
                                  replace p38 := eq_true p38
                                  replace q38 := eq_true q38
                                  go_wp2
                                  go_roundg k2
                                  case measure => have := HK1.out; have := HK2.out; omega
                                  case rel => exact ⟨(wrap64 (x9_2 + 1)), (by first | rfl | (simp; done) | (simp [*]; done)), H', ⟨by have := HK1.out; have := HK2.out; omega⟩, ⟨by (with_reducible repeat (first | apply Kd.S_alloc | apply Kd.S_drewN | apply Kd.S_drew)); exact HO_199002.out⟩, ⟨by (with_reducible repeat (first | refine blk_drewN ?_ _ | refine blk_drew ?_ | refine blk_alloc ?_ _)); exact BK198.out⟩, ⟨by repeat (first | (with_reducible first | exact HB.out | apply below_alloc | apply pw_below_drewN | apply below_drew1 | refine below_set ?_ GE198.out) | exact HB.out)⟩⟩
                          · rw [if_neg c25] at H
                            exact absurd H (by simp)
                        · rw [if_neg c24] at H
                          have c24b0 : decide (x9_2 < (a0.size : Int)) = false := decide_eq_false c24
                          clear c24
                          by_cases c44 : 4 + a0.size ≤ 9223372036854775807
                          · rw [if_pos c44] at H
                            have c44b0 := eq_true c44
                            have c44b1 : decide (4 + a0.size ≤ 9223372036854775807) = true := decide_eq_true c44
                            try have c44b2 : (9223372036854775807 < 4 + a0.size) = False := eq_false (Nat.not_lt.2 c44)
                            by_cases c45 : 4 + a0.size + 4 ≤ 9223372036854775807
                            · rw [if_pos c45] at H
                              have c45b0 := eq_true c45
                              have c45b1 : decide (4 + a0.size + 4 ≤ 9223372036854775807) = true := decide_eq_true c45
                              try have c45b2 : (9223372036854775807 < 4 + a0.size + 4) = False := eq_false (Nat.not_lt.2 c45)
                              by_cases c46 : 4 + a0.size + 4 + a1.size ≤ 9223372036854775807
                              · rw [if_pos c46] at H
                                have c46b0 := eq_true c46
                                have c46b1 : decide (4 + a0.size + 4 + a1.size ≤ 9223372036854775807) = true := decide_eq_true c46
                                try have c46b2 : (9223372036854775807 < 4 + a0.size + 4 + a1.size) = False := eq_false (Nat.not_lt.2 c46)
                                by_cases c47 : 4 + a0.size + 4 + a1.size + 3 ≤ 9223372036854775807
                                · rw [if_pos c47] at H
                                  have c47b0 := eq_true c47
                                  have c47b1 : decide (4 + a0.size + 4 + a1.size + 3 ≤ 9223372036854775807) = true := decide_eq_true c47
                                  try have c47b2 : (9223372036854775807 < 4 + a0.size + 4 + a1.size + 3) = False := eq_false (Nat.not_lt.2 c47)
                                  replace H := Option.bind_eq_some_iff.mp H
                                  obtain ⟨⟨t202, t203, t204, t207, t208⟩, A480, H⟩ := H
                                  replace H : (if t208 = 0 then ((calepinref03_Same.f k2 t191 t192 t193 t196 t202 t203 t204 t207).bind fun t210 => (if t210 = true then (some ((t193.length : Int) == 2)) else (some false))) else (some false)) = some r := H
                                  have A48 := Aside0.mk A480
                                  clear A480
                                  by_cases c49 : t208 = 0
                                  · rw [if_pos c49] at H
                                    have c49b0 : (t208 == 0) = true := beq_iff_eq.mpr c49
                                    have c49b1 : (t208 != 0) = false := bne_eq_false_iff_eq.mpr c49
                                    clear c49
                                    replace H := Option.bind_eq_some_iff.mp H
                                    obtain ⟨t210, A500, H⟩ := H
                                    replace H : (if t210 = true then (some ((t193.length : Int) == 2)) else (some false)) = some r := H
                                    have A50 := Aside0.mk A500
                                    clear A500
                                    by_cases c51 : t210 = true
                                    · subst c51
                                      have H1 : (some ((t193.length : Int) == 2)) = some r := by rw [if_pos rfl] at H; exact H
                                      clear H
                                      have H := H1
                                      clear H1
                                      obtain rfl := Option.some.inj H
                                      go_wp2_with (first | ((with_reducible refine gate_callee (f := 15) rfl ?_); refine goesL_ (some 94) rfl rfl Tryz.func15 (by kernel_rfl) rfl #[.string (((((⟨#[65, 59, 66, 61]⟩ : ByteArray) ++ a0) ++ (⟨#[59, 67, 61, 34]⟩ : ByteArray)) ++ a1) ++ (⟨#[34, 58, 120]⟩ : ByteArray))] rfl (by (try simp only [List.map_toArray, List.map_cons, List.map_nil]); first | done | rfl | (simp only [List.length_drop, List.length_take]; rfl)) ?_; (with_reducible refine (line_Parse.calls k2 (((((⟨#[65, 59, 66, 61]⟩ : ByteArray) ++ a0) ++ (⟨#[59, 67, 61, 34]⟩ : ByteArray)) ++ a1) ++ (⟨#[34, 58, 120]⟩ : ByteArray)) t202 t203 t204 t207 t208 _ ?side1 A48.out).mono ?_); (case side1 => exact TabsW.below HT.out (by repeat (first | (with_reducible first | exact HB.out | apply below_alloc | apply pw_below_drewN | apply below_drew1 | refine below_set ?_ GE198.out) | exact HB.out))); rintro e w52 ⟨v205, rfl, ho0, hb⟩; refine ⟨_, rfl, ?_⟩; have n0_ := Aside0.mk (Kd.S_elder' (by (with_reducible repeat (first | apply Kd.S_alloc | apply Kd.S_drewN | apply Kd.S_drew)); exact HO_199002.out) (Kd.S_base ho0) hb); have n1_ := Aside0.mk (Kd.S_lower (Kd.S_new' ho0 (Kd.S_lt (by (with_reducible repeat (first | apply Kd.S_alloc | apply Kd.S_drewN | apply Kd.S_drew)); exact HO_199002.out))) (below_size (by repeat (first | (with_reducible first | exact HB.out | apply below_alloc | apply pw_below_drewN | apply below_drew1 | refine below_set ?_ GE198.out) | exact HB.out)))); have n2_ := Aside0.mk (blk_below (g := gb198) (o := .cells #[.string t191, .string t192, .slice Ao23 t193.length co23, .string t196] 25 (0, 0)) (by (with_reducible repeat (first | refine blk_drewN ?_ _ | refine blk_drew ?_ | refine blk_alloc ?_ _)); exact BK198.out) hb); have n3_ := Aside0.mk (below_step (by repeat (first | (with_reducible first | exact HB.out | apply below_alloc | apply pw_below_drewN | apply below_drew1 | refine below_set ?_ GE198.out) | exact HB.out)) hb); clear HO_199002; clear BK198; clear HB; have HO_199002 := n0_; have HO206 := n1_; have BK198 := n2_; have HB := n3_; clear n0_ n1_ n2_ n3_; (try clear hb); (try clear hb2); (try clear hk); (try clear hi); (try clear ho0)) | ((with_reducible refine gate_dst (N := 10) rfl ?_); (try (refine gate_guard (by rfl) ?_; dsimp only)); refine box_event ?hg (N := 10) ?hd (cs := #[.string (⟨#[]⟩ : ByteArray), .string (⟨#[]⟩ : ByteArray), .slice none 0 0, .string (⟨#[]⟩ : ByteArray)]) (t := 25) ?hr ?_; (case hd => rfl); (case hg => rfl); (case hr => first | (go_simp; done) | (go_simp; rfl)); intro gb209 hg w53 hbox hb; have n0_ := Aside0.mk (Kd.S_below (by (with_reducible repeat (first | apply Kd.S_alloc | apply Kd.S_drewN | apply Kd.S_drew)); exact HO_199002.out) hb); have n1_ := Aside0.mk (Kd.S_below (by (with_reducible repeat (first | apply Kd.S_alloc | apply Kd.S_drewN | apply Kd.S_drew)); exact HO206.out) hb); have n2_ := Aside0.mk (blk_below (g := gb198) (o := .cells #[.string t191, .string t192, .slice Ao23 t193.length co23, .string t196] 25 (0, 0)) (by (with_reducible repeat (first | refine blk_drewN ?_ _ | refine blk_drew ?_ | refine blk_alloc ?_ _)); exact BK198.out) hb); have n3_ := Aside0.mk (below_step (by repeat (first | (with_reducible first | exact HB.out | apply below_alloc | apply pw_below_drewN | apply below_drew1 | refine below_set ?_ GE198.out) | exact HB.out)) hb); have n4_ := Aside0.mk (hbox); have n5_ := Aside0.mk ((by rw [hg]; exact (below_size (by repeat (first | (with_reducible first | exact HB.out | apply below_alloc | apply pw_below_drewN | apply below_drew1 | refine below_set ?_ GE198.out) | exact HB.out))) : w.heap.size ≤ gb209)); have n6_ := Aside0.mk ((by rw [hg]; exact (below_size (by repeat (first | (with_reducible first | exact HB.out | apply below_alloc | apply pw_below_drewN | apply below_drew1 | refine below_set ?_ GE198.out) | exact HB.out))) : w.heap.size ≤ gb209)); have n7_ := Aside0.mk ((by rw [hg]; exact Nat.ne_of_lt (blk_lt (g := gb198) (o := .cells #[.string t191, .string t192, .slice Ao23 t193.length co23, .string t196] 25 (0, 0)) (by (with_reducible repeat (first | refine blk_drewN ?_ _ | refine blk_drew ?_ | refine blk_alloc ?_ _)); exact BK198.out)) : gb198 ≠ gb209)); have n8_ := Aside0.mk ((by rw [hg]; exact Nat.ne_of_gt (blk_lt (g := gb198) (o := .cells #[.string t191, .string t192, .slice Ao23 t193.length co23, .string t196] 25 (0, 0)) (by (with_reducible repeat (first | refine blk_drewN ?_ _ | refine blk_drew ?_ | refine blk_alloc ?_ _)); exact BK198.out)) : gb209 ≠ gb198)); clear HO_199002; clear HO206; clear BK198; clear HB; have HO_199002 := n0_; have HO206 := n1_; have BK198 := n2_; have HB := n3_; have BK209 := n4_; have GW209 := n5_; have GE209 := n6_; have NB198_209 := n7_; have NB209_198 := n8_; clear n0_ n1_ n2_ n3_ n4_ n5_ n6_ n7_ n8_; clear hb hbox hg; have hnb54 := NB209_198.out; have hnc54 := NB198_209.out; have hcz55_0 : w53.cell? ⟨gb209, 0, none⟩ = some (.string (⟨#[]⟩ : ByteArray)) := (blk_cell BK209.out 0).trans rfl; have hcz55_1 : w53.cell? ⟨gb209, 1, none⟩ = some (.string (⟨#[]⟩ : ByteArray)) := (blk_cell BK209.out 1).trans rfl; have hcz55_2 : w53.cell? ⟨gb209, 2, none⟩ = some (.slice none 0 0) := (blk_cell BK209.out 2).trans rfl; have hcz55_3 : w53.cell? ⟨gb209, 3, none⟩ = some (.string (⟨#[]⟩ : ByteArray)) := (blk_cell BK209.out 3).trans rfl; have hfz55_0 := blk_frozen BK209.out 0; have hfz55_1 := blk_frozen BK209.out 1; have hfz55_2 := blk_frozen BK209.out 2; have hfz55_3 := blk_frozen BK209.out 3; obtain ⟨Ao56, co56, eo56⟩ := Kd.S_slice HO206.out; subst eo56; have hcz57_0 : w53.cell? ⟨gb198, 0, none⟩ = some (.string t191) := (blk_cell BK198.out 0).trans rfl; have hcz57_1 : w53.cell? ⟨gb198, 1, none⟩ = some (.string t192) := (blk_cell BK198.out 1).trans rfl; have hcz57_2 : w53.cell? ⟨gb198, 2, none⟩ = some (.slice Ao23 t193.length co23) := (blk_cell BK198.out 2).trans rfl; have hcz57_3 : w53.cell? ⟨gb198, 3, none⟩ = some (.string t196) := (blk_cell BK198.out 3).trans rfl; have hfz57_0 := blk_frozen BK198.out 0; have hfz57_1 := blk_frozen BK198.out 1; have hfz57_2 := blk_frozen BK198.out 2; have hfz57_3 := blk_frozen BK198.out 3) | (go_at_call 16; (with_reducible refine (calepinref03_Same.calls k2 t191 t192 _ _ t193 t196 t202 t203 _ _ t204 t207 true _ ?side1 ?side2 ?side3 ?side4 A50.out).mono ?_); (case side1 => refine (Kd.S_reads' (e := 31) (base := w.heap.size) (ok := fun k_ => (True ∧ some k_ ≠ (.slice Ao56 t204.length co56 : Value).ownBlock)) (n := t193.length) (c := co23) ?_).2.2; exact (by (with_reducible repeat (first | apply Kd.S_alloc | apply Kd.S_drewN | apply Kd.S_drew)); exact (Kd.S_mono (Kd.S_far (p := ⟨gb209, 3, none⟩) (Kd.S_far (p := ⟨gb209, 2, none⟩) (Kd.S_far (p := ⟨gb209, 1, none⟩) (Kd.S_far (p := ⟨gb209, 0, none⟩) (Kd.S_types HO_199002.out BK209.out (by decide)) (fun _ hk => hk.2) (.string t202)) (fun _ hk => hk.2) (.string t203)) (fun _ hk => hk.2) (.slice Ao56 t204.length co56)) (fun _ hk => hk.2) (.string t207)) (fun _ h_ => h_.1)))); (case side2 => exact (Kd.S_reads' HO_199002.out).2.1); (case side3 => refine (Kd.S_reads' (e := 31) (base := w.heap.size) (ok := fun k_ => (True ∧ some k_ ≠ (.slice Ao23 t193.length co23 : Value).ownBlock)) (n := t204.length) (c := co56) ?_).2.2; exact (by (with_reducible repeat (first | apply Kd.S_alloc | apply Kd.S_drewN | apply Kd.S_drew)); exact (Kd.S_mono (Kd.S_far (p := ⟨gb209, 3, none⟩) (Kd.S_far (p := ⟨gb209, 2, none⟩) (Kd.S_far (p := ⟨gb209, 1, none⟩) (Kd.S_far (p := ⟨gb209, 0, none⟩) (Kd.S_types HO206.out BK209.out (by decide)) (fun _ hk => hk.2) (.string t202)) (fun _ hk => hk.2) (.string t203)) (fun _ hk => hk.2) (.slice Ao56 t204.length co56)) (fun _ hk => hk.2) (.string t207)) (fun _ h_ => h_.1)))); (case side4 => exact (Kd.S_reads' HO206.out).2.1); rintro e w58 ⟨rfl, hb⟩; have n0_ := Aside0.mk (Kd.S_below (by (with_reducible repeat (first | apply Kd.S_alloc | apply Kd.S_drewN | apply Kd.S_drew)); exact (Kd.S_mono (Kd.S_far (p := ⟨gb209, 3, none⟩) (Kd.S_far (p := ⟨gb209, 2, none⟩) (Kd.S_far (p := ⟨gb209, 1, none⟩) (Kd.S_far (p := ⟨gb209, 0, none⟩) (Kd.S_types HO_199002.out BK209.out (by decide)) (fun _ hk => hk.2) (.string t202)) (fun _ hk => hk.2) (.string t203)) (fun _ hk => hk.2) (.slice Ao56 t204.length co56)) (fun _ hk => hk.2) (.string t207)) (fun _ h_ => h_.1))) hb); have n1_ := Aside0.mk (Kd.S_below (by (with_reducible repeat (first | apply Kd.S_alloc | apply Kd.S_drewN | apply Kd.S_drew)); exact (Kd.S_mono (Kd.S_far (p := ⟨gb209, 3, none⟩) (Kd.S_far (p := ⟨gb209, 2, none⟩) (Kd.S_far (p := ⟨gb209, 1, none⟩) (Kd.S_far (p := ⟨gb209, 0, none⟩) (Kd.S_types HO206.out BK209.out (by decide)) (fun _ hk => hk.2) (.string t202)) (fun _ hk => hk.2) (.string t203)) (fun _ hk => hk.2) (.slice Ao56 t204.length co56)) (fun _ hk => hk.2) (.string t207)) (fun _ h_ => h_.1))) hb); have n2_ := Aside0.mk (blk_below (g := gb198) (o := .cells #[.string t191, .string t192, .slice Ao23 t193.length co23, .string t196] 25 (0, 0)) (by (with_reducible repeat (first | refine blk_drewN ?_ _ | refine blk_drew ?_ | refine blk_alloc ?_ _)); refine blk_far ?_ NB198_209.out _; (with_reducible repeat (first | refine blk_drewN ?_ _ | refine blk_drew ?_ | refine blk_alloc ?_ _)); refine blk_far ?_ NB198_209.out _; (with_reducible repeat (first | refine blk_drewN ?_ _ | refine blk_drew ?_ | refine blk_alloc ?_ _)); refine blk_far ?_ NB198_209.out _; (with_reducible repeat (first | refine blk_drewN ?_ _ | refine blk_drew ?_ | refine blk_alloc ?_ _)); refine blk_far ?_ NB198_209.out _; (with_reducible repeat (first | refine blk_drewN ?_ _ | refine blk_drew ?_ | refine blk_alloc ?_ _)); exact BK198.out) hb); have n3_ := Aside0.mk (blk_below (g := gb209) (o := .cells #[.string t202, .string t203, .slice Ao56 t204.length co56, .string t207] 25 (0, 0)) (by (with_reducible repeat (first | refine blk_drewN ?_ _ | refine blk_drew ?_ | refine blk_alloc ?_ _)); refine blk_put (cs := #[.string t202, .string t203, .slice Ao56 t204.length co56, .string (⟨#[]⟩ : ByteArray)]) ?_ 3 _ rfl; (with_reducible repeat (first | refine blk_drewN ?_ _ | refine blk_drew ?_ | refine blk_alloc ?_ _)); refine blk_put (cs := #[.string t202, .string t203, .slice none 0 0, .string (⟨#[]⟩ : ByteArray)]) ?_ 2 _ rfl; (with_reducible repeat (first | refine blk_drewN ?_ _ | refine blk_drew ?_ | refine blk_alloc ?_ _)); refine blk_put (cs := #[.string t202, .string (⟨#[]⟩ : ByteArray), .slice none 0 0, .string (⟨#[]⟩ : ByteArray)]) ?_ 1 _ rfl; (with_reducible repeat (first | refine blk_drewN ?_ _ | refine blk_drew ?_ | refine blk_alloc ?_ _)); refine blk_put (cs := #[.string (⟨#[]⟩ : ByteArray), .string (⟨#[]⟩ : ByteArray), .slice none 0 0, .string (⟨#[]⟩ : ByteArray)]) ?_ 0 _ rfl; (with_reducible repeat (first | refine blk_drewN ?_ _ | refine blk_drew ?_ | refine blk_alloc ?_ _)); exact BK209.out) hb); have n4_ := Aside0.mk (below_step (by repeat (first | (with_reducible first | exact HB.out | apply below_alloc | apply pw_below_drewN | apply below_drew1 | refine below_set ?_ GE198.out | refine below_set ?_ GE209.out) | exact HB.out)) hb); clear HO_199002; clear HO206; clear BK198; clear BK209; clear HB; have HO_199002 := n0_; have HO206 := n1_; have BK198 := n2_; have BK209 := n3_; have HB := n4_; clear n0_ n1_ n2_ n3_ n4_; (try clear hb); (try clear hb2); (try clear hk); (try clear hi); have hcz59_0 : w58.cell? ⟨gb198, 0, none⟩ = some (.string t191) := (blk_cell BK198.out 0).trans rfl; have hcz59_1 : w58.cell? ⟨gb198, 1, none⟩ = some (.string t192) := (blk_cell BK198.out 1).trans rfl; have hcz59_2 : w58.cell? ⟨gb198, 2, none⟩ = some (.slice Ao23 t193.length co23) := (blk_cell BK198.out 2).trans rfl; have hcz59_3 : w58.cell? ⟨gb198, 3, none⟩ = some (.string t196) := (blk_cell BK198.out 3).trans rfl; have hfz59_0 := blk_frozen BK198.out 0; have hfz59_1 := blk_frozen BK198.out 1; have hfz59_2 := blk_frozen BK198.out 2; have hfz59_3 := blk_frozen BK198.out 3))
                                      go_ret
                                      exact ⟨by first | rfl | (simp [errW_none, errW_some] <;> rfl) | (simp [*, errW_none, errW_some] <;> rfl), by repeat (first | (with_reducible first | exact HB.out | apply below_alloc | apply pw_below_drewN | apply below_drew1 | refine below_set ?_ GE198.out | refine below_set ?_ GE209.out) | exact HB.out)⟩
                                    · replace c51 := Bool.eq_false_iff.mpr c51
                                      subst c51
                                      have H1 : (some false) = some r := by rw [if_neg (show ¬ (false = true) by decide)] at H; exact H
                                      clear H
                                      have H := H1
                                      clear H1
                                      obtain rfl := Option.some.inj H
                                      go_wp2_with (first | ((with_reducible refine gate_callee (f := 15) rfl ?_); refine goesL_ (some 94) rfl rfl Tryz.func15 (by kernel_rfl) rfl #[.string (((((⟨#[65, 59, 66, 61]⟩ : ByteArray) ++ a0) ++ (⟨#[59, 67, 61, 34]⟩ : ByteArray)) ++ a1) ++ (⟨#[34, 58, 120]⟩ : ByteArray))] rfl (by (try simp only [List.map_toArray, List.map_cons, List.map_nil]); first | done | rfl | (simp only [List.length_drop, List.length_take]; rfl)) ?_; (with_reducible refine (line_Parse.calls k2 (((((⟨#[65, 59, 66, 61]⟩ : ByteArray) ++ a0) ++ (⟨#[59, 67, 61, 34]⟩ : ByteArray)) ++ a1) ++ (⟨#[34, 58, 120]⟩ : ByteArray)) t202 t203 t204 t207 t208 _ ?side1 A48.out).mono ?_); (case side1 => exact TabsW.below HT.out (by repeat (first | (with_reducible first | exact HB.out | apply below_alloc | apply pw_below_drewN | apply below_drew1 | refine below_set ?_ GE198.out) | exact HB.out))); rintro e w60 ⟨v205, rfl, ho0, hb⟩; refine ⟨_, rfl, ?_⟩; have n0_ := Aside0.mk (Kd.S_elder' (by (with_reducible repeat (first | apply Kd.S_alloc | apply Kd.S_drewN | apply Kd.S_drew)); exact HO_199002.out) (Kd.S_base ho0) hb); have n1_ := Aside0.mk (Kd.S_lower (Kd.S_new' ho0 (Kd.S_lt (by (with_reducible repeat (first | apply Kd.S_alloc | apply Kd.S_drewN | apply Kd.S_drew)); exact HO_199002.out))) (below_size (by repeat (first | (with_reducible first | exact HB.out | apply below_alloc | apply pw_below_drewN | apply below_drew1 | refine below_set ?_ GE198.out) | exact HB.out)))); have n2_ := Aside0.mk (blk_below (g := gb198) (o := .cells #[.string t191, .string t192, .slice Ao23 t193.length co23, .string t196] 25 (0, 0)) (by (with_reducible repeat (first | refine blk_drewN ?_ _ | refine blk_drew ?_ | refine blk_alloc ?_ _)); exact BK198.out) hb); have n3_ := Aside0.mk (below_step (by repeat (first | (with_reducible first | exact HB.out | apply below_alloc | apply pw_below_drewN | apply below_drew1 | refine below_set ?_ GE198.out) | exact HB.out)) hb); clear HO_199002; clear BK198; clear HB; have HO_199002 := n0_; have HO206 := n1_; have BK198 := n2_; have HB := n3_; clear n0_ n1_ n2_ n3_; (try clear hb); (try clear hb2); (try clear hk); (try clear hi); (try clear ho0)) | ((with_reducible refine gate_dst (N := 10) rfl ?_); (try (refine gate_guard (by rfl) ?_; dsimp only)); refine box_event ?hg (N := 10) ?hd (cs := #[.string (⟨#[]⟩ : ByteArray), .string (⟨#[]⟩ : ByteArray), .slice none 0 0, .string (⟨#[]⟩ : ByteArray)]) (t := 25) ?hr ?_; (case hd => rfl); (case hg => rfl); (case hr => first | (go_simp; done) | (go_simp; rfl)); intro gb209 hg w61 hbox hb; have n0_ := Aside0.mk (Kd.S_below (by (with_reducible repeat (first | apply Kd.S_alloc | apply Kd.S_drewN | apply Kd.S_drew)); exact HO_199002.out) hb); have n1_ := Aside0.mk (Kd.S_below (by (with_reducible repeat (first | apply Kd.S_alloc | apply Kd.S_drewN | apply Kd.S_drew)); exact HO206.out) hb); have n2_ := Aside0.mk (blk_below (g := gb198) (o := .cells #[.string t191, .string t192, .slice Ao23 t193.length co23, .string t196] 25 (0, 0)) (by (with_reducible repeat (first | refine blk_drewN ?_ _ | refine blk_drew ?_ | refine blk_alloc ?_ _)); exact BK198.out) hb); have n3_ := Aside0.mk (below_step (by repeat (first | (with_reducible first | exact HB.out | apply below_alloc | apply pw_below_drewN | apply below_drew1 | refine below_set ?_ GE198.out) | exact HB.out)) hb); have n4_ := Aside0.mk (hbox); have n5_ := Aside0.mk ((by rw [hg]; exact (below_size (by repeat (first | (with_reducible first | exact HB.out | apply below_alloc | apply pw_below_drewN | apply below_drew1 | refine below_set ?_ GE198.out) | exact HB.out))) : w.heap.size ≤ gb209)); have n6_ := Aside0.mk ((by rw [hg]; exact (below_size (by repeat (first | (with_reducible first | exact HB.out | apply below_alloc | apply pw_below_drewN | apply below_drew1 | refine below_set ?_ GE198.out) | exact HB.out))) : w.heap.size ≤ gb209)); have n7_ := Aside0.mk ((by rw [hg]; exact Nat.ne_of_lt (blk_lt (g := gb198) (o := .cells #[.string t191, .string t192, .slice Ao23 t193.length co23, .string t196] 25 (0, 0)) (by (with_reducible repeat (first | refine blk_drewN ?_ _ | refine blk_drew ?_ | refine blk_alloc ?_ _)); exact BK198.out)) : gb198 ≠ gb209)); have n8_ := Aside0.mk ((by rw [hg]; exact Nat.ne_of_gt (blk_lt (g := gb198) (o := .cells #[.string t191, .string t192, .slice Ao23 t193.length co23, .string t196] 25 (0, 0)) (by (with_reducible repeat (first | refine blk_drewN ?_ _ | refine blk_drew ?_ | refine blk_alloc ?_ _)); exact BK198.out)) : gb209 ≠ gb198)); clear HO_199002; clear HO206; clear BK198; clear HB; have HO_199002 := n0_; have HO206 := n1_; have BK198 := n2_; have HB := n3_; have BK209 := n4_; have GW209 := n5_; have GE209 := n6_; have NB198_209 := n7_; have NB209_198 := n8_; clear n0_ n1_ n2_ n3_ n4_ n5_ n6_ n7_ n8_; clear hb hbox hg; have hnb62 := NB209_198.out; have hnc62 := NB198_209.out; have hcz63_0 : w61.cell? ⟨gb209, 0, none⟩ = some (.string (⟨#[]⟩ : ByteArray)) := (blk_cell BK209.out 0).trans rfl; have hcz63_1 : w61.cell? ⟨gb209, 1, none⟩ = some (.string (⟨#[]⟩ : ByteArray)) := (blk_cell BK209.out 1).trans rfl; have hcz63_2 : w61.cell? ⟨gb209, 2, none⟩ = some (.slice none 0 0) := (blk_cell BK209.out 2).trans rfl; have hcz63_3 : w61.cell? ⟨gb209, 3, none⟩ = some (.string (⟨#[]⟩ : ByteArray)) := (blk_cell BK209.out 3).trans rfl; have hfz63_0 := blk_frozen BK209.out 0; have hfz63_1 := blk_frozen BK209.out 1; have hfz63_2 := blk_frozen BK209.out 2; have hfz63_3 := blk_frozen BK209.out 3; obtain ⟨Ao64, co64, eo64⟩ := Kd.S_slice HO206.out; subst eo64; have hcz65_0 : w61.cell? ⟨gb198, 0, none⟩ = some (.string t191) := (blk_cell BK198.out 0).trans rfl; have hcz65_1 : w61.cell? ⟨gb198, 1, none⟩ = some (.string t192) := (blk_cell BK198.out 1).trans rfl; have hcz65_2 : w61.cell? ⟨gb198, 2, none⟩ = some (.slice Ao23 t193.length co23) := (blk_cell BK198.out 2).trans rfl; have hcz65_3 : w61.cell? ⟨gb198, 3, none⟩ = some (.string t196) := (blk_cell BK198.out 3).trans rfl; have hfz65_0 := blk_frozen BK198.out 0; have hfz65_1 := blk_frozen BK198.out 1; have hfz65_2 := blk_frozen BK198.out 2; have hfz65_3 := blk_frozen BK198.out 3) | (go_at_call 16; (with_reducible refine (calepinref03_Same.calls k2 t191 t192 _ _ t193 t196 t202 t203 _ _ t204 t207 false _ ?side1 ?side2 ?side3 ?side4 A50.out).mono ?_); (case side1 => refine (Kd.S_reads' (e := 31) (base := w.heap.size) (ok := fun k_ => (True ∧ some k_ ≠ (.slice Ao64 t204.length co64 : Value).ownBlock)) (n := t193.length) (c := co23) ?_).2.2; exact (by (with_reducible repeat (first | apply Kd.S_alloc | apply Kd.S_drewN | apply Kd.S_drew)); exact (Kd.S_mono (Kd.S_far (p := ⟨gb209, 3, none⟩) (Kd.S_far (p := ⟨gb209, 2, none⟩) (Kd.S_far (p := ⟨gb209, 1, none⟩) (Kd.S_far (p := ⟨gb209, 0, none⟩) (Kd.S_types HO_199002.out BK209.out (by decide)) (fun _ hk => hk.2) (.string t202)) (fun _ hk => hk.2) (.string t203)) (fun _ hk => hk.2) (.slice Ao64 t204.length co64)) (fun _ hk => hk.2) (.string t207)) (fun _ h_ => h_.1)))); (case side2 => exact (Kd.S_reads' HO_199002.out).2.1); (case side3 => refine (Kd.S_reads' (e := 31) (base := w.heap.size) (ok := fun k_ => (True ∧ some k_ ≠ (.slice Ao23 t193.length co23 : Value).ownBlock)) (n := t204.length) (c := co64) ?_).2.2; exact (by (with_reducible repeat (first | apply Kd.S_alloc | apply Kd.S_drewN | apply Kd.S_drew)); exact (Kd.S_mono (Kd.S_far (p := ⟨gb209, 3, none⟩) (Kd.S_far (p := ⟨gb209, 2, none⟩) (Kd.S_far (p := ⟨gb209, 1, none⟩) (Kd.S_far (p := ⟨gb209, 0, none⟩) (Kd.S_types HO206.out BK209.out (by decide)) (fun _ hk => hk.2) (.string t202)) (fun _ hk => hk.2) (.string t203)) (fun _ hk => hk.2) (.slice Ao64 t204.length co64)) (fun _ hk => hk.2) (.string t207)) (fun _ h_ => h_.1)))); (case side4 => exact (Kd.S_reads' HO206.out).2.1); rintro e w66 ⟨rfl, hb⟩; have n0_ := Aside0.mk (Kd.S_below (by (with_reducible repeat (first | apply Kd.S_alloc | apply Kd.S_drewN | apply Kd.S_drew)); exact (Kd.S_mono (Kd.S_far (p := ⟨gb209, 3, none⟩) (Kd.S_far (p := ⟨gb209, 2, none⟩) (Kd.S_far (p := ⟨gb209, 1, none⟩) (Kd.S_far (p := ⟨gb209, 0, none⟩) (Kd.S_types HO_199002.out BK209.out (by decide)) (fun _ hk => hk.2) (.string t202)) (fun _ hk => hk.2) (.string t203)) (fun _ hk => hk.2) (.slice Ao64 t204.length co64)) (fun _ hk => hk.2) (.string t207)) (fun _ h_ => h_.1))) hb); have n1_ := Aside0.mk (Kd.S_below (by (with_reducible repeat (first | apply Kd.S_alloc | apply Kd.S_drewN | apply Kd.S_drew)); exact (Kd.S_mono (Kd.S_far (p := ⟨gb209, 3, none⟩) (Kd.S_far (p := ⟨gb209, 2, none⟩) (Kd.S_far (p := ⟨gb209, 1, none⟩) (Kd.S_far (p := ⟨gb209, 0, none⟩) (Kd.S_types HO206.out BK209.out (by decide)) (fun _ hk => hk.2) (.string t202)) (fun _ hk => hk.2) (.string t203)) (fun _ hk => hk.2) (.slice Ao64 t204.length co64)) (fun _ hk => hk.2) (.string t207)) (fun _ h_ => h_.1))) hb); have n2_ := Aside0.mk (blk_below (g := gb198) (o := .cells #[.string t191, .string t192, .slice Ao23 t193.length co23, .string t196] 25 (0, 0)) (by (with_reducible repeat (first | refine blk_drewN ?_ _ | refine blk_drew ?_ | refine blk_alloc ?_ _)); refine blk_far ?_ NB198_209.out _; (with_reducible repeat (first | refine blk_drewN ?_ _ | refine blk_drew ?_ | refine blk_alloc ?_ _)); refine blk_far ?_ NB198_209.out _; (with_reducible repeat (first | refine blk_drewN ?_ _ | refine blk_drew ?_ | refine blk_alloc ?_ _)); refine blk_far ?_ NB198_209.out _; (with_reducible repeat (first | refine blk_drewN ?_ _ | refine blk_drew ?_ | refine blk_alloc ?_ _)); refine blk_far ?_ NB198_209.out _; (with_reducible repeat (first | refine blk_drewN ?_ _ | refine blk_drew ?_ | refine blk_alloc ?_ _)); exact BK198.out) hb); have n3_ := Aside0.mk (blk_below (g := gb209) (o := .cells #[.string t202, .string t203, .slice Ao64 t204.length co64, .string t207] 25 (0, 0)) (by (with_reducible repeat (first | refine blk_drewN ?_ _ | refine blk_drew ?_ | refine blk_alloc ?_ _)); refine blk_put (cs := #[.string t202, .string t203, .slice Ao64 t204.length co64, .string (⟨#[]⟩ : ByteArray)]) ?_ 3 _ rfl; (with_reducible repeat (first | refine blk_drewN ?_ _ | refine blk_drew ?_ | refine blk_alloc ?_ _)); refine blk_put (cs := #[.string t202, .string t203, .slice none 0 0, .string (⟨#[]⟩ : ByteArray)]) ?_ 2 _ rfl; (with_reducible repeat (first | refine blk_drewN ?_ _ | refine blk_drew ?_ | refine blk_alloc ?_ _)); refine blk_put (cs := #[.string t202, .string (⟨#[]⟩ : ByteArray), .slice none 0 0, .string (⟨#[]⟩ : ByteArray)]) ?_ 1 _ rfl; (with_reducible repeat (first | refine blk_drewN ?_ _ | refine blk_drew ?_ | refine blk_alloc ?_ _)); refine blk_put (cs := #[.string (⟨#[]⟩ : ByteArray), .string (⟨#[]⟩ : ByteArray), .slice none 0 0, .string (⟨#[]⟩ : ByteArray)]) ?_ 0 _ rfl; (with_reducible repeat (first | refine blk_drewN ?_ _ | refine blk_drew ?_ | refine blk_alloc ?_ _)); exact BK209.out) hb); have n4_ := Aside0.mk (below_step (by repeat (first | (with_reducible first | exact HB.out | apply below_alloc | apply pw_below_drewN | apply below_drew1 | refine below_set ?_ GE198.out | refine below_set ?_ GE209.out) | exact HB.out)) hb); clear HO_199002; clear HO206; clear BK198; clear BK209; clear HB; have HO_199002 := n0_; have HO206 := n1_; have BK198 := n2_; have BK209 := n3_; have HB := n4_; clear n0_ n1_ n2_ n3_ n4_; (try clear hb); (try clear hb2); (try clear hk); (try clear hi)))
                                      go_ret
                                      exact ⟨by first | rfl | (simp [errW_none, errW_some] <;> rfl) | (simp [*, errW_none, errW_some] <;> rfl), by repeat (first | (with_reducible first | exact HB.out | apply below_alloc | apply pw_below_drewN | apply below_drew1 | refine below_set ?_ GE198.out | refine below_set ?_ GE209.out) | exact HB.out)⟩
                                  · rw [if_neg c49] at H
                                    have c49b0 : (t208 == 0) = false := beq_eq_false_iff_ne.mpr c49
                                    have c49b1 : (t208 != 0) = true := bne_iff_ne.mpr c49
                                    obtain rfl := Option.some.inj H
                                    go_wp2_with (first | ((with_reducible refine gate_callee (f := 15) rfl ?_); refine goesL_ (some 94) rfl rfl Tryz.func15 (by kernel_rfl) rfl #[.string (((((⟨#[65, 59, 66, 61]⟩ : ByteArray) ++ a0) ++ (⟨#[59, 67, 61, 34]⟩ : ByteArray)) ++ a1) ++ (⟨#[34, 58, 120]⟩ : ByteArray))] rfl (by (try simp only [List.map_toArray, List.map_cons, List.map_nil]); first | done | rfl | (simp only [List.length_drop, List.length_take]; rfl)) ?_; (with_reducible refine (line_Parse.calls k2 (((((⟨#[65, 59, 66, 61]⟩ : ByteArray) ++ a0) ++ (⟨#[59, 67, 61, 34]⟩ : ByteArray)) ++ a1) ++ (⟨#[34, 58, 120]⟩ : ByteArray)) t202 t203 t204 t207 t208 _ ?side1 A48.out).mono ?_); (case side1 => exact TabsW.below HT.out (by repeat (first | (with_reducible first | exact HB.out | apply below_alloc | apply pw_below_drewN | apply below_drew1 | refine below_set ?_ GE198.out) | exact HB.out))); rintro e w67 ⟨v205, rfl, ho0, hb⟩; refine ⟨_, rfl, ?_⟩; have n0_ := Aside0.mk (Kd.S_elder' (by (with_reducible repeat (first | apply Kd.S_alloc | apply Kd.S_drewN | apply Kd.S_drew)); exact HO_199002.out) (Kd.S_base ho0) hb); have n1_ := Aside0.mk (Kd.S_lower (Kd.S_new' ho0 (Kd.S_lt (by (with_reducible repeat (first | apply Kd.S_alloc | apply Kd.S_drewN | apply Kd.S_drew)); exact HO_199002.out))) (below_size (by repeat (first | (with_reducible first | exact HB.out | apply below_alloc | apply pw_below_drewN | apply below_drew1 | refine below_set ?_ GE198.out) | exact HB.out)))); have n2_ := Aside0.mk (blk_below (g := gb198) (o := .cells #[.string t191, .string t192, .slice Ao23 t193.length co23, .string t196] 25 (0, 0)) (by (with_reducible repeat (first | refine blk_drewN ?_ _ | refine blk_drew ?_ | refine blk_alloc ?_ _)); exact BK198.out) hb); have n3_ := Aside0.mk (below_step (by repeat (first | (with_reducible first | exact HB.out | apply below_alloc | apply pw_below_drewN | apply below_drew1 | refine below_set ?_ GE198.out) | exact HB.out)) hb); clear HO_199002; clear BK198; clear HB; have HO_199002 := n0_; have HO206 := n1_; have BK198 := n2_; have HB := n3_; clear n0_ n1_ n2_ n3_; (try clear hb); (try clear hb2); (try clear hk); (try clear hi); (try clear ho0)) | ((with_reducible refine gate_dst (N := 10) rfl ?_); (try (refine gate_guard (by rfl) ?_; dsimp only)); refine box_event ?hg (N := 10) ?hd (cs := #[.string (⟨#[]⟩ : ByteArray), .string (⟨#[]⟩ : ByteArray), .slice none 0 0, .string (⟨#[]⟩ : ByteArray)]) (t := 25) ?hr ?_; (case hd => rfl); (case hg => rfl); (case hr => first | (go_simp; done) | (go_simp; rfl)); intro gb209 hg w68 hbox hb; have n0_ := Aside0.mk (Kd.S_below (by (with_reducible repeat (first | apply Kd.S_alloc | apply Kd.S_drewN | apply Kd.S_drew)); exact HO_199002.out) hb); have n1_ := Aside0.mk (Kd.S_below (by (with_reducible repeat (first | apply Kd.S_alloc | apply Kd.S_drewN | apply Kd.S_drew)); exact HO206.out) hb); have n2_ := Aside0.mk (blk_below (g := gb198) (o := .cells #[.string t191, .string t192, .slice Ao23 t193.length co23, .string t196] 25 (0, 0)) (by (with_reducible repeat (first | refine blk_drewN ?_ _ | refine blk_drew ?_ | refine blk_alloc ?_ _)); exact BK198.out) hb); have n3_ := Aside0.mk (below_step (by repeat (first | (with_reducible first | exact HB.out | apply below_alloc | apply pw_below_drewN | apply below_drew1 | refine below_set ?_ GE198.out) | exact HB.out)) hb); have n4_ := Aside0.mk (hbox); have n5_ := Aside0.mk ((by rw [hg]; exact (below_size (by repeat (first | (with_reducible first | exact HB.out | apply below_alloc | apply pw_below_drewN | apply below_drew1 | refine below_set ?_ GE198.out) | exact HB.out))) : w.heap.size ≤ gb209)); have n6_ := Aside0.mk ((by rw [hg]; exact (below_size (by repeat (first | (with_reducible first | exact HB.out | apply below_alloc | apply pw_below_drewN | apply below_drew1 | refine below_set ?_ GE198.out) | exact HB.out))) : w.heap.size ≤ gb209)); have n7_ := Aside0.mk ((by rw [hg]; exact Nat.ne_of_lt (blk_lt (g := gb198) (o := .cells #[.string t191, .string t192, .slice Ao23 t193.length co23, .string t196] 25 (0, 0)) (by (with_reducible repeat (first | refine blk_drewN ?_ _ | refine blk_drew ?_ | refine blk_alloc ?_ _)); exact BK198.out)) : gb198 ≠ gb209)); have n8_ := Aside0.mk ((by rw [hg]; exact Nat.ne_of_gt (blk_lt (g := gb198) (o := .cells #[.string t191, .string t192, .slice Ao23 t193.length co23, .string t196] 25 (0, 0)) (by (with_reducible repeat (first | refine blk_drewN ?_ _ | refine blk_drew ?_ | refine blk_alloc ?_ _)); exact BK198.out)) : gb209 ≠ gb198)); clear HO_199002; clear HO206; clear BK198; clear HB; have HO_199002 := n0_; have HO206 := n1_; have BK198 := n2_; have HB := n3_; have BK209 := n4_; have GW209 := n5_; have GE209 := n6_; have NB198_209 := n7_; have NB209_198 := n8_; clear n0_ n1_ n2_ n3_ n4_ n5_ n6_ n7_ n8_; clear hb hbox hg; have hnb69 := NB209_198.out; have hnc69 := NB198_209.out; have hcz70_0 : w68.cell? ⟨gb209, 0, none⟩ = some (.string (⟨#[]⟩ : ByteArray)) := (blk_cell BK209.out 0).trans rfl; have hcz70_1 : w68.cell? ⟨gb209, 1, none⟩ = some (.string (⟨#[]⟩ : ByteArray)) := (blk_cell BK209.out 1).trans rfl; have hcz70_2 : w68.cell? ⟨gb209, 2, none⟩ = some (.slice none 0 0) := (blk_cell BK209.out 2).trans rfl; have hcz70_3 : w68.cell? ⟨gb209, 3, none⟩ = some (.string (⟨#[]⟩ : ByteArray)) := (blk_cell BK209.out 3).trans rfl; have hfz70_0 := blk_frozen BK209.out 0; have hfz70_1 := blk_frozen BK209.out 1; have hfz70_2 := blk_frozen BK209.out 2; have hfz70_3 := blk_frozen BK209.out 3; obtain ⟨Ao71, co71, eo71⟩ := Kd.S_slice HO206.out; subst eo71))
                                    go_ret
                                    exact ⟨by first | rfl | (simp [errW_none, errW_some] <;> rfl) | (simp [*, errW_none, errW_some] <;> rfl), by repeat (first | (with_reducible first | exact HB.out | apply below_alloc | apply pw_below_drewN | apply below_drew1 | refine below_set ?_ GE198.out | refine below_set ?_ GE209.out) | exact HB.out)⟩
                                · rw [if_neg c47] at H
                                  exact absurd H (by simp)
                              · rw [if_neg c46] at H
                                exact absurd H (by simp)
                            · rw [if_neg c45] at H
                              exact absurd H (by simp)
                          · rw [if_neg c44] at H
                            exact absurd H (by simp)
                  · rw [if_neg c19] at H
                    have c19b0 : (t197 == 0) = false := beq_eq_false_iff_ne.mpr c19
                    have c19b1 : (t197 != 0) = true := bne_iff_ne.mpr c19
                    obtain rfl := Option.some.inj H
                    go_wp2_with (first | ((with_reducible refine gate_callee (f := 15) rfl ?_); refine goesL_ (some 45) rfl rfl Tryz.func15 (by kernel_rfl) rfl #[.string (((((⟨#[65, 59, 66, 61, 34]⟩ : ByteArray) ++ a0) ++ (⟨#[34, 59, 67, 61, 34]⟩ : ByteArray)) ++ a1) ++ (⟨#[34, 58, 120]⟩ : ByteArray))] rfl (by (try simp only [List.map_toArray, List.map_cons, List.map_nil]); first | done | rfl | (simp only [List.length_drop, List.length_take]; rfl)) ?_; (with_reducible refine (line_Parse.calls k1 (((((⟨#[65, 59, 66, 61, 34]⟩ : ByteArray) ++ a0) ++ (⟨#[34, 59, 67, 61, 34]⟩ : ByteArray)) ++ a1) ++ (⟨#[34, 58, 120]⟩ : ByteArray)) t191 t192 t193 t196 t197 _ ?side1 A18.out).mono ?_); (case side1 => exact TabsW.below HT.out (by repeat (first | (with_reducible first | exact HB.out | apply below_alloc | apply pw_below_drewN | apply below_drew1) | exact HB.out))); rintro e w72 ⟨v194, rfl, ho0, hb⟩; refine ⟨_, rfl, ?_⟩; have n0_ := Aside0.mk (Kd.S_lower ho0 (below_size (by repeat (first | (with_reducible first | exact HB.out | apply below_alloc | apply pw_below_drewN | apply below_drew1) | exact HB.out)))); have n1_ := Aside0.mk (below_step (by repeat (first | (with_reducible first | exact HB.out | apply below_alloc | apply pw_below_drewN | apply below_drew1) | exact HB.out)) hb); clear HB; have HO195 := n0_; have HB := n1_; clear n0_ n1_; (try clear hb); (try clear hb2); (try clear hk); (try clear hi); (try clear ho0)) | ((with_reducible refine gate_dst (N := 7) rfl ?_); (try (refine gate_guard (by rfl) ?_; dsimp only)); refine box_event ?hg (N := 7) ?hd (cs := #[.string (⟨#[]⟩ : ByteArray), .string (⟨#[]⟩ : ByteArray), .slice none 0 0, .string (⟨#[]⟩ : ByteArray)]) (t := 25) ?hr ?_; (case hd => rfl); (case hg => rfl); (case hr => first | (go_simp; done) | (go_simp; rfl)); intro gb198 hg w73 hbox hb; have n0_ := Aside0.mk (Kd.S_below (by (with_reducible repeat (first | apply Kd.S_alloc | apply Kd.S_drewN | apply Kd.S_drew)); exact HO195.out) hb); have n1_ := Aside0.mk (below_step (by repeat (first | (with_reducible first | exact HB.out | apply below_alloc | apply pw_below_drewN | apply below_drew1) | exact HB.out)) hb); have n2_ := Aside0.mk (hbox); have n3_ := Aside0.mk ((by rw [hg]; exact (below_size (by repeat (first | (with_reducible first | exact HB.out | apply below_alloc | apply pw_below_drewN | apply below_drew1) | exact HB.out))) : w.heap.size ≤ gb198)); have n4_ := Aside0.mk ((by rw [hg]; exact (below_size (by repeat (first | (with_reducible first | exact HB.out | apply below_alloc | apply pw_below_drewN | apply below_drew1) | exact HB.out))) : w.heap.size ≤ gb198)); clear HO195; clear HB; have HO195 := n0_; have HB := n1_; have BK198 := n2_; have GW198 := n3_; have GE198 := n4_; clear n0_ n1_ n2_ n3_ n4_; clear hb hbox hg; have hcz74_0 : w73.cell? ⟨gb198, 0, none⟩ = some (.string (⟨#[]⟩ : ByteArray)) := (blk_cell BK198.out 0).trans rfl; have hcz74_1 : w73.cell? ⟨gb198, 1, none⟩ = some (.string (⟨#[]⟩ : ByteArray)) := (blk_cell BK198.out 1).trans rfl; have hcz74_2 : w73.cell? ⟨gb198, 2, none⟩ = some (.slice none 0 0) := (blk_cell BK198.out 2).trans rfl; have hcz74_3 : w73.cell? ⟨gb198, 3, none⟩ = some (.string (⟨#[]⟩ : ByteArray)) := (blk_cell BK198.out 3).trans rfl; have hfz74_0 := blk_frozen BK198.out 0; have hfz74_1 := blk_frozen BK198.out 1; have hfz74_2 := blk_frozen BK198.out 2; have hfz74_3 := blk_frozen BK198.out 3; obtain ⟨Ao75, co75, eo75⟩ := Kd.S_slice HO195.out; subst eo75))
                    go_ret
                    exact ⟨by first | rfl | (simp [errW_none, errW_some] <;> rfl) | (simp [*, errW_none, errW_some] <;> rfl), by repeat (first | (with_reducible first | exact HB.out | apply below_alloc | apply pw_below_drewN | apply below_drew1 | refine below_set ?_ GE198.out) | exact HB.out)⟩
                · rw [if_neg c17] at H
                  exact absurd H (by simp)
              · rw [if_neg c16] at H
                exact absurd H (by simp)
            · rw [if_neg c15] at H
              exact absurd H (by simp)
          · rw [if_neg c14] at H
            exact absurd H (by simp)
  · replace c4 := Bool.eq_false_iff.mpr c4
    subst c4
    have H1 : (some false) = some r := by rw [if_neg (show ¬ (false = true) by decide)] at H; exact H
    clear H
    have H := H1
    clear H1
    obtain rfl := Option.some.inj H
    go_enter Tryz.func3, Tryz.ntmps3
    go_wp2_with (first | ((with_reducible refine gate_callee (f := 14) rfl ?_); refine goesL_ (some 12) rfl rfl Tryz.func14 (by kernel_rfl) rfl #[] rfl (by (try simp only [List.map_toArray, List.map_cons, List.map_nil]); first | done | rfl | (simp only [List.length_drop, List.length_take]; rfl)) ?_; (with_reducible refine (calepinlaw03_first.calls k  false _ ?side1 A3.out).mono ?_); (case side1 => exact TabsW.below HT.out (by repeat (first | (with_reducible first | exact HB.out | apply below_alloc | apply pw_below_drewN | apply below_drew1) | exact HB.out))); rintro e w76 ⟨rfl, hb⟩; refine ⟨_, rfl, ?_⟩; have n0_ := Aside0.mk (below_step (by repeat (first | (with_reducible first | exact HB.out | apply below_alloc | apply pw_below_drewN | apply below_drew1) | exact HB.out)) hb); clear HB; have HB := n0_; clear n0_; (try clear hb); (try clear hb2); (try clear hk); (try clear hi)))
    go_ret
    exact ⟨by first | rfl | (simp [errW_none, errW_some] <;> rfl) | (simp [*, errW_none, errW_some] <;> rfl), by repeat (first | (with_reducible first | exact HB.out | apply below_alloc | apply pw_below_drewN | apply below_drew1) | exact HB.out)⟩
end Go.Proofs.YthabooeapfepnaaGreatDoor.PL
