import Derived.Test.YthabooeapfepnaaGreatDoorPLx0
namespace Go.Proofs.YthabooeapfepnaaGreatDoor.PL
open Go.RowKit Go.Proofs.YthabooeapfepnaaGreatDoor.Given Go.Proofs.YthabooeapfepnaaGreatDoorW.PrintWords Go.Proofs.YthabooeapfepnaaGreatDoorW.PrintLast Go.Proofs.YthabooeapfepnaaGreatDoorW.PrintMore
attribute [local go_sem] max2_int min2_int max_two min_two max_three min_three max_four min_four   -- for this text's walks alone
set_option linter.unusedVariables false
set_option linter.unusedSimpArgs false
def line_part.f (a0 : Int) : Option (Bool) := if a0 ≥ 97 then (if a0 ≤ 122 then (some true) else (if a0 ≥ 65 then (if a0 ≤ 90 then (some true) else (if a0 ≥ 48 then (if a0 ≤ 57 then (some true) else (some (a0 == 45))) else (some (a0 == 45)))) else (if a0 ≥ 48 then (if a0 ≤ 57 then (some true) else (some (a0 == 45))) else (some (a0 == 45))))) else (if a0 ≥ 65 then (if a0 ≤ 90 then (some true) else (if a0 ≥ 48 then (if a0 ≤ 57 then (some true) else (some (a0 == 45))) else (some (a0 == 45)))) else (if a0 ≥ 48 then (if a0 ≤ 57 then (some true) else (some (a0 == 45))) else (some (a0 == 45))))
set_option maxHeartbeats 8000000 in
set_option maxRecDepth 100000 in
theorem line_part.calls (a0 : Int) (r : Bool) (w : World) (h : line_part.f a0 = some r) :
  Calls Tryz.prog 92 #[.int .u8 a0] w fun e w' => e = .returned (.bool r) ∧ Dr0 w w' := by
 have H : (if a0 ≥ 97 then (if a0 ≤ 122 then (some true) else (if a0 ≥ 65 then (if a0 ≤ 90 then (some true) else (if a0 ≥ 48 then (if a0 ≤ 57 then (some true) else (some (a0 == 45))) else (some (a0 == 45)))) else (if a0 ≥ 48 then (if a0 ≤ 57 then (some true) else (some (a0 == 45))) else (some (a0 == 45))))) else (if a0 ≥ 65 then (if a0 ≤ 90 then (some true) else (if a0 ≥ 48 then (if a0 ≤ 57 then (some true) else (some (a0 == 45))) else (some (a0 == 45)))) else (if a0 ≥ 48 then (if a0 ≤ 57 then (some true) else (some (a0 == 45))) else (some (a0 == 45))))) = some r := h
 clear h
 by_cases c2 : a0 ≥ 97
 ·
  rw [if_pos c2] at H
  have c2b0 : decide (97 ≤ a0) = true := decide_eq_true c2
  clear c2
  by_cases c3 : a0 ≤ 122
  ·
   rw [if_pos c3] at H
   have c3b0 : decide (a0 ≤ 122) = true := decide_eq_true c3
   clear c3
   obtain rfl := Option.some.inj H
   go_enter Tryz.func92, Tryz.ntmps92
   go_wp2
   go_ret
   exact ⟨by first | rfl | (simp; done) | (simp [*]; done), by repeat (first | exact Dr0.refl _ | apply Dr0.step)⟩
  ·
   rw [if_neg c3] at H
   have c3b0 : decide (a0 ≤ 122) = false := decide_eq_false c3
   clear c3
   by_cases c4 : a0 ≥ 65
   ·
    rw [if_pos c4] at H
    have c4b0 : decide (65 ≤ a0) = true := decide_eq_true c4
    clear c4
    by_cases c5 : a0 ≤ 90
    ·
     rw [if_pos c5] at H
     have c5b0 : decide (a0 ≤ 90) = true := decide_eq_true c5
     clear c5
     obtain rfl := Option.some.inj H
     go_enter Tryz.func92, Tryz.ntmps92
     go_wp2
     go_ret
     exact ⟨by first | rfl | (simp; done) | (simp [*]; done), by repeat (first | exact Dr0.refl _ | apply Dr0.step)⟩
    ·
     rw [if_neg c5] at H
     have c5b0 : decide (a0 ≤ 90) = false := decide_eq_false c5
     clear c5
     by_cases c6 : a0 ≥ 48
     ·
      rw [if_pos c6] at H
      have c6b0 : decide (48 ≤ a0) = true := decide_eq_true c6
      clear c6
      by_cases c7 : a0 ≤ 57
      ·
       rw [if_pos c7] at H
       have c7b0 : decide (a0 ≤ 57) = true := decide_eq_true c7
       clear c7
       obtain rfl := Option.some.inj H
       go_enter Tryz.func92, Tryz.ntmps92
       go_wp2
       go_ret
       exact ⟨by first | rfl | (simp; done) | (simp [*]; done), by repeat (first | exact Dr0.refl _ | apply Dr0.step)⟩
      ·
       rw [if_neg c7] at H
       have c7b0 : decide (a0 ≤ 57) = false := decide_eq_false c7
       clear c7
       obtain rfl := Option.some.inj H
       go_enter Tryz.func92, Tryz.ntmps92
       go_wp2
       go_ret
       exact ⟨by first | rfl | (simp; done) | (simp [*]; done), by repeat (first | exact Dr0.refl _ | apply Dr0.step)⟩
     ·
      rw [if_neg c6] at H
      have c6b0 : decide (48 ≤ a0) = false := decide_eq_false c6
      clear c6
      obtain rfl := Option.some.inj H
      go_enter Tryz.func92, Tryz.ntmps92
      go_wp2
      go_ret
      exact ⟨by first | rfl | (simp; done) | (simp [*]; done), by repeat (first | exact Dr0.refl _ | apply Dr0.step)⟩
   ·
    rw [if_neg c4] at H
    have c4b0 : decide (65 ≤ a0) = false := decide_eq_false c4
    clear c4
    by_cases c8 : a0 ≥ 48
    ·
     rw [if_pos c8] at H
     have c8b0 : decide (48 ≤ a0) = true := decide_eq_true c8
     clear c8
     by_cases c9 : a0 ≤ 57
     ·
      rw [if_pos c9] at H
      have c9b0 : decide (a0 ≤ 57) = true := decide_eq_true c9
      clear c9
      obtain rfl := Option.some.inj H
      go_enter Tryz.func92, Tryz.ntmps92
      go_wp2
      go_ret
      exact ⟨by first | rfl | (simp; done) | (simp [*]; done), by repeat (first | exact Dr0.refl _ | apply Dr0.step)⟩
     ·
      rw [if_neg c9] at H
      have c9b0 : decide (a0 ≤ 57) = false := decide_eq_false c9
      clear c9
      obtain rfl := Option.some.inj H
      go_enter Tryz.func92, Tryz.ntmps92
      go_wp2
      go_ret
      exact ⟨by first | rfl | (simp; done) | (simp [*]; done), by repeat (first | exact Dr0.refl _ | apply Dr0.step)⟩
    ·
     rw [if_neg c8] at H
     have c8b0 : decide (48 ≤ a0) = false := decide_eq_false c8
     clear c8
     obtain rfl := Option.some.inj H
     go_enter Tryz.func92, Tryz.ntmps92
     go_wp2
     go_ret
     exact ⟨by first | rfl | (simp; done) | (simp [*]; done), by repeat (first | exact Dr0.refl _ | apply Dr0.step)⟩
 ·
  rw [if_neg c2] at H
  have c2b0 : decide (97 ≤ a0) = false := decide_eq_false c2
  clear c2
  by_cases c10 : a0 ≥ 65
  ·
   rw [if_pos c10] at H
   have c10b0 : decide (65 ≤ a0) = true := decide_eq_true c10
   clear c10
   by_cases c11 : a0 ≤ 90
   ·
    rw [if_pos c11] at H
    have c11b0 : decide (a0 ≤ 90) = true := decide_eq_true c11
    clear c11
    obtain rfl := Option.some.inj H
    go_enter Tryz.func92, Tryz.ntmps92
    go_wp2
    go_ret
    exact ⟨by first | rfl | (simp; done) | (simp [*]; done), by repeat (first | exact Dr0.refl _ | apply Dr0.step)⟩
   ·
    rw [if_neg c11] at H
    have c11b0 : decide (a0 ≤ 90) = false := decide_eq_false c11
    clear c11
    by_cases c12 : a0 ≥ 48
    ·
     rw [if_pos c12] at H
     have c12b0 : decide (48 ≤ a0) = true := decide_eq_true c12
     clear c12
     by_cases c13 : a0 ≤ 57
     ·
      rw [if_pos c13] at H
      have c13b0 : decide (a0 ≤ 57) = true := decide_eq_true c13
      clear c13
      obtain rfl := Option.some.inj H
      go_enter Tryz.func92, Tryz.ntmps92
      go_wp2
      go_ret
      exact ⟨by first | rfl | (simp; done) | (simp [*]; done), by repeat (first | exact Dr0.refl _ | apply Dr0.step)⟩
     ·
      rw [if_neg c13] at H
      have c13b0 : decide (a0 ≤ 57) = false := decide_eq_false c13
      clear c13
      obtain rfl := Option.some.inj H
      go_enter Tryz.func92, Tryz.ntmps92
      go_wp2
      go_ret
      exact ⟨by first | rfl | (simp; done) | (simp [*]; done), by repeat (first | exact Dr0.refl _ | apply Dr0.step)⟩
    ·
     rw [if_neg c12] at H
     have c12b0 : decide (48 ≤ a0) = false := decide_eq_false c12
     clear c12
     obtain rfl := Option.some.inj H
     go_enter Tryz.func92, Tryz.ntmps92
     go_wp2
     go_ret
     exact ⟨by first | rfl | (simp; done) | (simp [*]; done), by repeat (first | exact Dr0.refl _ | apply Dr0.step)⟩
  ·
   rw [if_neg c10] at H
   have c10b0 : decide (65 ≤ a0) = false := decide_eq_false c10
   clear c10
   by_cases c14 : a0 ≥ 48
   ·
    rw [if_pos c14] at H
    have c14b0 : decide (48 ≤ a0) = true := decide_eq_true c14
    clear c14
    by_cases c15 : a0 ≤ 57
    ·
     rw [if_pos c15] at H
     have c15b0 : decide (a0 ≤ 57) = true := decide_eq_true c15
     clear c15
     obtain rfl := Option.some.inj H
     go_enter Tryz.func92, Tryz.ntmps92
     go_wp2
     go_ret
     exact ⟨by first | rfl | (simp; done) | (simp [*]; done), by repeat (first | exact Dr0.refl _ | apply Dr0.step)⟩
    ·
     rw [if_neg c15] at H
     have c15b0 : decide (a0 ≤ 57) = false := decide_eq_false c15
     clear c15
     obtain rfl := Option.some.inj H
     go_enter Tryz.func92, Tryz.ntmps92
     go_wp2
     go_ret
     exact ⟨by first | rfl | (simp; done) | (simp [*]; done), by repeat (first | exact Dr0.refl _ | apply Dr0.step)⟩
   ·
    rw [if_neg c14] at H
    have c14b0 : decide (48 ≤ a0) = false := decide_eq_false c14
    clear c14
    obtain rfl := Option.some.inj H
    go_enter Tryz.func92, Tryz.ntmps92
    go_wp2
    go_ret
    exact ⟨by first | rfl | (simp; done) | (simp [*]; done), by repeat (first | exact Dr0.refl _ | apply Dr0.step)⟩
def line_lead.l0 : Nat → ByteArray → Int → Option (Int)
 | 0, _, _ => none
 | k + 1, x0, x3 => if x3 < (x0.size : Int) then (if 0 ≤ x3 then ((line_part.f (bt x0 x3)).bind fun t101 => (if t101 = true then (line_lead.l0 k x0 (wrap64 (x3 + 1))) else (some x3))) else (none)) else (some x3)
def line_lead.f (k : Nat) (a0 : ByteArray) : Option (Int) := line_lead.l0 k a0 0
set_option maxHeartbeats 8000000 in
set_option maxRecDepth 100000 in
theorem line_lead.calls (k : Nat) (a0 : ByteArray) (r : Int) (w : World) (h : line_lead.f k a0 = some r) :
  Calls Tryz.prog 59 #[.string a0] w fun e w' => e = .returned (.int .i64 r) ∧ Dr0 w w' := by
 have H : (line_lead.l0 k a0 0) = some r := h
 clear h
 have H' := A0q.mk H
 clear H
 go_enter Tryz.func59, Tryz.ntmps59
 go_wp2
 go_loopg [3] k (fun kq v3 w' => ∃ (x3_1 : Int), v3 = .int .i64 x3_1 ∧ A0q (line_lead.l0 kq a0 x3_1 = some r) ∧ A0q (kq ≤ k) ∧ Dr0 w w')
 case atStart => exact ⟨(0), (by first | rfl | (simp; done) | (simp [*]; done)), H', ⟨Nat.le_refl _⟩, by repeat (first | exact Dr0.refl _ | apply Dr0.step)⟩
 case round =>
  clear H'
  obtain ⟨x3_1, rfl, HA, HK1, ⟨m1, rfl⟩⟩ := hrel
  cases gk with
  | zero => exact absurd HA.out (by simp [line_lead.l0])
  | succ k1 =>
   have H := HA.out
   clear HA
   simp only [line_lead.l0] at H
   by_cases c2 : x3_1 < (a0.size : Int)
   ·
    rw [if_pos c2] at H
    have c2b0 : decide (x3_1 < (a0.size : Int)) = true := decide_eq_true c2
    clear c2
    by_cases c3 : 0 ≤ x3_1
    ·
     rw [if_pos c3] at H
     have c3b0 : decide (0 ≤ x3_1) = true := decide_eq_true c3
     clear c3
     replace H := Option.bind_eq_some_iff.mp H
     obtain ⟨t101, A50, H⟩ := H
     replace H : (if t101 = true then (line_lead.l0 k1 a0 (wrap64 (x3_1 + 1))) else (some x3_1)) = some r := H
     have A5 := A0q.mk A50
     clear A50
     by_cases c6 : t101 = true
     ·
      subst c6
      have H1 : (line_lead.l0 k1 a0 (wrap64 (x3_1 + 1))) = some r := by rw [if_pos rfl] at H; exact H
      clear H
      have H := H1
      clear H1
      have H' := A0q.mk H
      clear H
      have p4 : 0 ≤ (x3_1 : Int) := of_decide_eq_true (by first | (with_reducible assumption) | assumption)
      have q4 : x3_1 < (a0.size : Int) := of_decide_eq_true (by first | (with_reducible assumption) | assumption)
      have hx4 := bt_at a0 x3_1
      replace p4 := eq_true p4
      replace q4 := eq_true q4
      go_wp2_with (first | (go_at_call 92; (with_reducible refine (line_part.calls (bt a0 x3_1) true _ A5.out).mono ?_); rintro e w' ⟨rfl, ⟨nd, rfl⟩⟩))
      go_roundg k1
      case measure => have := HK1.out; omega
      case rel => exact ⟨(wrap64 (x3_1 + 1)), (by first | rfl | (simp; done) | (simp [*]; done)), H', ⟨by have := HK1.out; omega⟩, by repeat (first | exact Dr0.refl _ | apply Dr0.step)⟩
     ·
      replace c6 := Bool.eq_false_iff.mpr c6
      subst c6
      have H1 : (some x3_1) = some r := by rw [if_neg (show ¬ (false = true) by decide)] at H; exact H
      clear H
      have H := H1
      clear H1
      obtain rfl := Option.some.inj H
      have p4 : 0 ≤ (x3_1 : Int) := of_decide_eq_true (by first | (with_reducible assumption) | assumption)
      have q4 : x3_1 < (a0.size : Int) := of_decide_eq_true (by first | (with_reducible assumption) | assumption)
      have hx4 := bt_at a0 x3_1
      replace p4 := eq_true p4
      replace q4 := eq_true q4
      go_wp2_with (first | (go_at_call 92; (with_reducible refine (line_part.calls (bt a0 x3_1) false _ A5.out).mono ?_); rintro e w' ⟨rfl, ⟨nd, rfl⟩⟩))
      go_ret
      exact ⟨by first | rfl | (simp; done) | (simp [*]; done), by repeat (first | exact Dr0.refl _ | apply Dr0.step)⟩
    ·
     rw [if_neg c3] at H
     exact absurd H (by simp)
   ·
    rw [if_neg c2] at H
    have c2b0 : decide (x3_1 < (a0.size : Int)) = false := decide_eq_false c2
    clear c2
    obtain rfl := Option.some.inj H
    go_wp2
    go_ret
    exact ⟨by first | rfl | (simp; done) | (simp [*]; done), by repeat (first | exact Dr0.refl _ | apply Dr0.step)⟩
def line_fits.f (a0 : ByteArray) : Option (Bool) := if (a0.size : Int) ≥ 1 then (some (decide ((a0.size : Int) ≤ 64))) else (some false)
set_option maxHeartbeats 8000000 in
set_option maxRecDepth 100000 in
theorem line_fits.calls (a0 : ByteArray) (r : Bool) (w : World) (h : line_fits.f a0 = some r) :
  Calls Tryz.prog 60 #[.string a0] w fun e w' => e = .returned (.bool r) ∧ Dr0 w w' := by
 have H : (if (a0.size : Int) ≥ 1 then (some (decide ((a0.size : Int) ≤ 64))) else (some false)) = some r := h
 clear h
 by_cases c2 : (a0.size : Int) ≥ 1
 ·
  rw [if_pos c2] at H
  have c2b0 : decide (1 ≤ (a0.size : Int)) = true := decide_eq_true c2
  have c2b1 : decide (1 ≤ a0.size) = true := decide_eq_true (by omega)
  clear c2
  obtain rfl := Option.some.inj H
  go_enter Tryz.func60, Tryz.ntmps60
  go_wp2
  go_ret
  exact ⟨by first | rfl | (simp; done) | (simp [*]; done), by repeat (first | exact Dr0.refl _ | apply Dr0.step)⟩
 ·
  rw [if_neg c2] at H
  have c2b0 : decide (1 ≤ (a0.size : Int)) = false := decide_eq_false c2
  have c2b1 : decide (1 ≤ a0.size) = false := decide_eq_false (by omega)
  clear c2
  obtain rfl := Option.some.inj H
  go_enter Tryz.func60, Tryz.ntmps60
  go_wp2
  go_ret
  exact ⟨by first | rfl | (simp; done) | (simp [*]; done), by repeat (first | exact Dr0.refl _ | apply Dr0.step)⟩
def I66 (w0 W : World) (g : Nat) (f0 : ByteArray) (f1 : Int) : Prop := W.heap[g]? = some (.cells #[.string f0, .int .i64 f1] 66 (0, 0)) ∧ w0.heap.size ≤ g
theorem I66.grown {w0 W : World} {g : Nat} {f0 : ByteArray} {f1 : Int} {W1 : World} {row : Option Nat} (h : I66 w0 W g f0 f1) (hw : W.grownBy W1 row) (hne : some g ≠ row) : I66 w0 W1 g f0 f1 := by
 obtain ⟨hb, hg⟩ := h
 exact ⟨blk_grown hb hw hne, hg⟩
theorem I66.kept {w0 W : World} {g : Nat} {f0 : ByteArray} {f1 : Int} {W1 : World} {S : Nat → Prop} (h : I66 w0 W g f0 f1) (hk : Kept W W1 S) (hne : ¬ S g) : I66 w0 W1 g f0 f1 := by
 obtain ⟨hb, hg⟩ := h
 exact ⟨blk_kept hb hk hne, hg⟩
theorem I66.below {w0 W : World} {g : Nat} {f0 : ByteArray} {f1 : Int} {W1 : World} (h : I66 w0 W g f0 f1) (hw : Below W.heap.size W W1) : I66 w0 W1 g f0 f1 := h.grown (grown_of_below hw none) (by simp)
theorem I66.alloc {w0 W : World} {g : Nat} {f0 : ByteArray} {f1 : Int} (h : I66 w0 W g f0 f1) (o : Obj) : I66 w0 (W.alloc o) g f0 f1 := h.below (bA (Below.refl _ _) o)
theorem I66.drewN {w0 W : World} {g : Nat} {f0 : ByteArray} {f1 : Int} (h : I66 w0 W g f0 f1) (m : Nat) : I66 w0 (W.drewN m) g f0 f1 := h
theorem I66.drew {w0 W : World} {g : Nat} {f0 : ByteArray} {f1 : Int} (h : I66 w0 W g f0 f1) : I66 w0 W.drew g f0 f1 := h
theorem I66.at_ {w0 W : World} {g : Nat} {f0 : ByteArray} {f1 : Int} {w' : World} {m : Nat} (hq : W.drewN m = w') (h : I66 w0 W g f0 f1) : I66 w0 w' g f0 f1 := by subst hq; exact I66.drewN h m
theorem I66.apart {w0 W : World} {g : Nat} {f0 : ByteArray} {f1 : Int} {α : Type} {d : Kd α} {e : Nat} {base : Nat} {ok : Nat → Prop} {v : Value} {xs : List α} (h : I66 w0 W g f0 f1) (ho : d.R e W base ok v xs) (ht : ∀ q, q ∈ e :: d.E → q ≠ 66) : d.R e W base (fun k => ok k ∧ k ≠ g) v xs := by
 obtain ⟨hb, hg⟩ := h
 exact Kd.R_types ho hb ht
theorem I66.own_ne {w0 W : World} {g : Nat} {f0 : ByteArray} {f1 : Int} {α : Type} {d : Kd α} {e : Nat} {base : Nat} {ok : Nat → Prop} {v : Value} {xs : List α} (h : I66 w0 W g f0 f1) (ho : d.R e W base ok v xs) (ht : e ≠ 66) : some g ≠ v.ownBlock := by
 obtain ⟨hb, hg⟩ := h
 exact Kd.R_ne ho hb ht
theorem I66.apartS {w0 W : World} {g : Nat} {f0 : ByteArray} {f1 : Int} {α : Type} {d : Kd α} {e : Nat} {base : Nat} {ok : Nat → Prop} {v : Value} {xs : List α} (h : I66 w0 W g f0 f1) (ho : d.S e W base ok v xs) (ht : ∀ q, q ∈ e :: d.E → q ≠ 66) : d.S e W base (fun k => ok k ∧ k ≠ g) v xs := by
 obtain ⟨hb, hg⟩ := h
 exact Kd.S_types ho hb ht
theorem I66.own_neS {w0 W : World} {g : Nat} {f0 : ByteArray} {f1 : Int} {α : Type} {d : Kd α} {e : Nat} {base : Nat} {ok : Nat → Prop} {v : Value} {xs : List α} (h : I66 w0 W g f0 f1) (ho : d.S e W base ok v xs) (ht : e ≠ 66) : some g ≠ v.ownBlock := by
 obtain ⟨hb, hg⟩ := h
 exact Kd.S_ne ho hb ht
theorem I66.lt {w0 W : World} {g : Nat} {f0 : ByteArray} {f1 : Int} (h : I66 w0 W g f0 f1) : g < W.heap.size := by
 obtain ⟨hb, hg⟩ := h
 exact bkL hb
theorem I66.ge {w0 W : World} {g : Nat} {f0 : ByteArray} {f1 : Int} (h : I66 w0 W g f0 f1) : w0.heap.size ≤ g := by
 obtain ⟨hb, hg⟩ := h
 exact hg
theorem I66.far {w0 W : World} {g : Nat} {f0 : ByteArray} {f1 : Int} {p : Addr} (h : I66 w0 W g f0 f1) (hne : g ≠ p.block) (u : Value) : I66 w0 (W.setCell p u) g f0 f1 := by
 obtain ⟨hb, hg⟩ := h
 exact ⟨bkR hb hne u, hg⟩
theorem cellS66_0 {W : World} {g : Nat} {f0 : ByteArray} {f1 : Int} (h : W.heap[g]? = some (.cells #[.string f0, .int .i64 f1] 66 (0, 0))) : W.cell? ⟨g, 0, none⟩ = some (.string f0) := (bkC h 0).trans rfl
theorem I66.set_0 {w0 W : World} {g : Nat} {f0 : ByteArray} {f1 : Int} (h : I66 w0 W g f0 f1) (x : ByteArray) : I66 w0 (W.setCell ⟨g, 0, none⟩ (.string x)) g x f1 := by
 obtain ⟨hb, hg⟩ := h
 exact ⟨by simpa using blk_set hb 0 (.string x), hg⟩
theorem cellS66_1 {W : World} {g : Nat} {f0 : ByteArray} {f1 : Int} (h : W.heap[g]? = some (.cells #[.string f0, .int .i64 f1] 66 (0, 0))) : W.cell? ⟨g, 1, none⟩ = some (.int .i64 f1) := (bkC h 1).trans rfl
theorem I66.set_1 {w0 W : World} {g : Nat} {f0 : ByteArray} {f1 : Int} (h : I66 w0 W g f0 f1) (x : Int) : I66 w0 (W.setCell ⟨g, 1, none⟩ (.int .i64 x)) g f0 x := by
 obtain ⟨hb, hg⟩ := h
 exact ⟨by simpa using blk_set hb 1 (.int .i64 x), hg⟩
def lrf.f (s0_0 : ByteArray) (s0_1 : Int) (a1 : Int) : Option (ByteArray × Int) := if s0_1 = 0 then (some (s0_0, a1)) else (some (s0_0, s0_1))
set_option maxHeartbeats 8000000 in
set_option maxRecDepth 100000 in
theorem lrf.calls (g : Nat) (s0_0 : ByteArray) (s0_1 : Int) (a1 : Int) (r1 : ByteArray) (r2 : Int) (w0 w : World) (hI : I66 w0 w g s0_0 s0_1) (hB : Below w0.heap.size w0 w) (h : lrf.f s0_0 s0_1 a1 = some (r1, r2)) :
  Calls Tryz.prog 77 #[.pointer (some ⟨g, 0, none⟩), .int .i64 a1] w fun e w' => e = .returned (.tuple #[]) ∧ I66 w0 w' g r1 r2 ∧ Below w0.heap.size w0 w' ∧ KpB w w' g none := by
 have HI0 := A0q.mk hI
 have HK := A0q.mk (KpB.refl w g none)
 have HL := A0q.mk hB.size
 clear hI
 have HW0 := A0q.mk hB.size
 have HB := A0q.mk hB
 clear hB
 have H : (if s0_1 = 0 then (some (s0_0, a1)) else (some (s0_0, s0_1))) = some (r1, r2) := h
 clear h
 by_cases c3 : s0_1 = 0
 ·
  rw [if_pos c3] at H
  have c3b0 : (s0_1 == 0) = true := beq_iff_eq.mpr c3
  have c3b1 : (s0_1 != 0) = false := bne_eq_false_iff_eq.mpr c3
  clear c3
  simp only [Option.some.injEq, Prod.mk.injEq] at H
  obtain ⟨rfl, rfl⟩ := H
  obtain ⟨HGz4, hgz4⟩ := HI0.out
  have hcz4_0 := cellS66_0 HGz4
  have hcz4_1 := cellS66_1 HGz4
  have hfz4_0 := bkF HGz4 0
  have hfz4_1 := bkF HGz4 1
  clear HGz4 hgz4
  go_enter Tryz.func77, Tryz.ntmps77
  go_wp2
  first | go_end0 | ((try simp only [Exit.inBlock, Exit.then]); refine bodyPost_ret (results_none rfl _ _ _) rfl ?_)
  exact ⟨by first | rfl | (simp [eWn, eWs] <;> rfl) | (simp [*, eWn, eWs] <;> rfl), by repeat (first | (with_reducible first | exact HI0.out | apply I66.alloc | apply I66.drewN | apply I66.drew | apply I66.set_0 | apply I66.set_1) | exact HI0.out), by repeat (first | (with_reducible first | exact HB.out | apply bA | apply bdN | apply bd1 | refine bS ?_ (I66.ge HI0.out)) | exact HB.out), by repeat (first | (with_reducible first | exact HK.out | apply KpB.set_ | apply kdN | apply kD | apply kA) | exact HK.out)⟩
 ·
  rw [if_neg c3] at H
  have c3b0 : (s0_1 == 0) = false := beq_eq_false_iff_ne.mpr c3
  have c3b1 : (s0_1 != 0) = true := bne_iff_ne.mpr c3
  simp only [Option.some.injEq, Prod.mk.injEq] at H
  obtain ⟨rfl, rfl⟩ := H
  obtain ⟨HGz5, hgz5⟩ := HI0.out
  have hcz5_0 := cellS66_0 HGz5
  have hcz5_1 := cellS66_1 HGz5
  have hfz5_0 := bkF HGz5 0
  have hfz5_1 := bkF HGz5 1
  clear HGz5 hgz5
  go_enter Tryz.func77, Tryz.ntmps77
  go_wp2
  first | go_end0 | ((try simp only [Exit.inBlock, Exit.then]); refine bodyPost_ret (results_none rfl _ _ _) rfl ?_)
  exact ⟨by first | rfl | (simp [eWn, eWs] <;> rfl) | (simp [*, eWn, eWs] <;> rfl), by repeat (first | (with_reducible first | exact HI0.out | apply I66.alloc | apply I66.drewN | apply I66.drew | apply I66.set_0 | apply I66.set_1) | exact HI0.out), by repeat (first | (with_reducible first | exact HB.out | apply bA | apply bdN | apply bd1 | refine bS ?_ (I66.ge HI0.out)) | exact HB.out), by repeat (first | (with_reducible first | exact HK.out | apply KpB.set_ | apply kdN | apply kD | apply kA) | exact HK.out)⟩
def lrn.f (k : Nat) (s0_0 : ByteArray) (s0_1 : Int) : Option (ByteArray × ByteArray × Int) := (line_lead.f k s0_0).bind fun t102 => (if 0 ≤ t102 then (if t102 ≤ (s0_0.size : Int) then ((line_fits.f (s0_0.extract 0 (t102 : Int).toNat)).bind fun t103 => (if t103 = true then (some (s0_0.extract 0 (t102 : Int).toNat, s0_0.extract (t102 : Int).toNat s0_0.size, s0_1)) else ((lrf.f s0_0 s0_1 30).bind fun bt104 => (if t102 ≤ (bt104.1.size : Int) then (some (s0_0.extract 0 (t102 : Int).toNat, bt104.1.extract (t102 : Int).toNat bt104.1.size, bt104.2)) else (none))))) else (none)) else (none))
set_option maxHeartbeats 8000000 in
set_option maxRecDepth 100000 in
theorem lrn.calls (k : Nat) (g : Nat) (s0_0 : ByteArray) (s0_1 : Int) (r1 : ByteArray) (r2 : ByteArray) (r3 : Int) (w0 w : World) (hI : I66 w0 w g s0_0 s0_1) (hB : Below w0.heap.size w0 w) (h : lrn.f k s0_0 s0_1 = some (r1, r2, r3)) :
  Calls Tryz.prog 42 #[.pointer (some ⟨g, 0, none⟩)] w fun e w' => e = .returned (.string r1) ∧ I66 w0 w' g r2 r3 ∧ Below w0.heap.size w0 w' ∧ KpB w w' g none := by
 have HI0 := A0q.mk hI
 have HK := A0q.mk (KpB.refl w g none)
 have HL := A0q.mk hB.size
 clear hI
 have HW0 := A0q.mk hB.size
 have HB := A0q.mk hB
 clear hB
 have H : ((line_lead.f k s0_0).bind fun t102 => (if 0 ≤ t102 then (if t102 ≤ (s0_0.size : Int) then ((line_fits.f (s0_0.extract 0 (t102 : Int).toNat)).bind fun t103 => (if t103 = true then (some (s0_0.extract 0 (t102 : Int).toNat, s0_0.extract (t102 : Int).toNat s0_0.size, s0_1)) else ((lrf.f s0_0 s0_1 30).bind fun bt104 => (if t102 ≤ (bt104.1.size : Int) then (some (s0_0.extract 0 (t102 : Int).toNat, bt104.1.extract (t102 : Int).toNat bt104.1.size, bt104.2)) else (none))))) else (none)) else (none))) = some (r1, r2, r3) := h
 clear h
 replace H := Option.bind_eq_some_iff.mp H
 obtain ⟨t102, A20, H⟩ := H
 replace H : (if 0 ≤ t102 then (if t102 ≤ (s0_0.size : Int) then ((line_fits.f (s0_0.extract 0 (t102 : Int).toNat)).bind fun t103 => (if t103 = true then (some (s0_0.extract 0 (t102 : Int).toNat, s0_0.extract (t102 : Int).toNat s0_0.size, s0_1)) else ((lrf.f s0_0 s0_1 30).bind fun bt104 => (if t102 ≤ (bt104.1.size : Int) then (some (s0_0.extract 0 (t102 : Int).toNat, bt104.1.extract (t102 : Int).toNat bt104.1.size, bt104.2)) else (none))))) else (none)) else (none)) = some (r1, r2, r3) := H
 have A2 := A0q.mk A20
 clear A20
 by_cases c3 : 0 ≤ t102
 ·
  rw [if_pos c3] at H
  have c3b0 := eq_true c3
  have c3b1 : decide (0 ≤ t102) = true := decide_eq_true c3
  clear c3
  by_cases c4 : t102 ≤ (s0_0.size : Int)
  ·
   rw [if_pos c4] at H
   have c4b0 := eq_true c4
   have c4b1 : decide (t102 ≤ (s0_0.size : Int)) = true := decide_eq_true c4
   clear c4
   replace H := Option.bind_eq_some_iff.mp H
   obtain ⟨t103, A50, H⟩ := H
   replace H : (if t103 = true then (some (s0_0.extract 0 (t102 : Int).toNat, s0_0.extract (t102 : Int).toNat s0_0.size, s0_1)) else ((lrf.f s0_0 s0_1 30).bind fun bt104 => (if t102 ≤ (bt104.1.size : Int) then (some (s0_0.extract 0 (t102 : Int).toNat, bt104.1.extract (t102 : Int).toNat bt104.1.size, bt104.2)) else (none)))) = some (r1, r2, r3) := H
   have A5 := A0q.mk A50
   clear A50
   by_cases c6 : t103 = true
   ·
    subst c6
    have H1 : (some (s0_0.extract 0 (t102 : Int).toNat, s0_0.extract (t102 : Int).toNat s0_0.size, s0_1)) = some (r1, r2, r3) := by rw [if_pos rfl] at H; exact H
    clear H
    have H := H1
    clear H1
    have c7b0 := eq_true (of_decide_eq_true (by first | (with_reducible assumption) | assumption) : 0 ≤ t102)
    have c8b0 := eq_true (of_decide_eq_true (by first | (with_reducible assumption) | assumption) : t102 ≤ (s0_0.size : Int))
    simp only [Option.some.injEq, Prod.mk.injEq] at H
    obtain ⟨rfl, rfl, rfl⟩ := H
    obtain ⟨HGz9, hgz9⟩ := HI0.out
    have hcz9_0 := cellS66_0 HGz9
    have hcz9_1 := cellS66_1 HGz9
    have hfz9_0 := bkF HGz9 0
    have hfz9_1 := bkF HGz9 1
    clear HGz9 hgz9
    go_enter Tryz.func42, Tryz.ntmps42
    go_wp2_with (first | ((with_reducible refine gC (f := 59) rfl ?_); refine goesL_ (some 9) rfl rfl Tryz.func59 (by kernel_rfl) rfl #[.string s0_0] rfl (by (try simp only [List.map_toArray, List.map_cons, List.map_nil]); first | done | rfl | (simp only [List.length_drop, List.length_take]; rfl)) ?_; (with_reducible refine (line_lead.calls k s0_0 t102 _ A2.out).mono ?_); rintro e w' ⟨rfl, ⟨nd, rfl⟩⟩; refine ⟨_, rfl, ?_⟩) | ((with_reducible refine gC (f := 60) rfl ?_); refine goesL_ (some 17) rfl rfl Tryz.func60 (by kernel_rfl) rfl #[.string (s0_0.extract 0 (t102 : Int).toNat)] rfl (by (try simp only [List.map_toArray, List.map_cons, List.map_nil]); first | done | rfl | (simp only [List.length_drop, List.length_take]; rfl)) ?_; (with_reducible refine (line_fits.calls (s0_0.extract 0 (t102 : Int).toNat) true _ A5.out).mono ?_); rintro e w' ⟨rfl, ⟨nd, rfl⟩⟩; refine ⟨_, rfl, ?_⟩))
    go_ret
    exact ⟨by first | rfl | (simp [eWn, eWs] <;> rfl) | (simp [*, eWn, eWs] <;> rfl), by repeat (first | (with_reducible first | exact HI0.out | apply I66.alloc | apply I66.drewN | apply I66.drew | apply I66.set_0 | apply I66.set_1) | exact HI0.out), by repeat (first | (with_reducible first | exact HB.out | apply bA | apply bdN | apply bd1 | refine bS ?_ (I66.ge HI0.out)) | exact HB.out), by repeat (first | (with_reducible first | exact HK.out | apply KpB.set_ | apply kdN | apply kD | apply kA) | exact HK.out)⟩
   ·
    replace c6 := Bool.eq_false_iff.mpr c6
    subst c6
    have H1 : ((lrf.f s0_0 s0_1 30).bind fun bt104 => (if t102 ≤ (bt104.1.size : Int) then (some (s0_0.extract 0 (t102 : Int).toNat, bt104.1.extract (t102 : Int).toNat bt104.1.size, bt104.2)) else (none))) = some (r1, r2, r3) := by rw [if_neg (show ¬ (false = true) by decide)] at H; exact H
    clear H
    have H := H1
    clear H1
    replace H := Option.bind_eq_some_iff.mp H
    obtain ⟨⟨t104, t105⟩, A100, H⟩ := H
    replace H : (if t102 ≤ (t104.size : Int) then (some (s0_0.extract 0 (t102 : Int).toNat, t104.extract (t102 : Int).toNat t104.size, t105)) else (none)) = some (r1, r2, r3) := H
    have A10 := A0q.mk A100
    clear A100
    have c11b0 := eq_true (of_decide_eq_true (by first | (with_reducible assumption) | assumption) : 0 ≤ t102)
    by_cases c12 : t102 ≤ (t104.size : Int)
    ·
     rw [if_pos c12] at H
     have c12b0 := eq_true c12
     have c12b1 : decide (t102 ≤ (t104.size : Int)) = true := decide_eq_true c12
     clear c12
     simp only [Option.some.injEq, Prod.mk.injEq] at H
     obtain ⟨rfl, rfl, rfl⟩ := H
     obtain ⟨HGz13, hgz13⟩ := HI0.out
     have hcz13_0 := cellS66_0 HGz13
     have hcz13_1 := cellS66_1 HGz13
     have hfz13_0 := bkF HGz13 0
     have hfz13_1 := bkF HGz13 1
     clear HGz13 hgz13
     go_enter Tryz.func42, Tryz.ntmps42
     go_wp2_with (first | ((with_reducible refine gC (f := 59) rfl ?_); refine goesL_ (some 9) rfl rfl Tryz.func59 (by kernel_rfl) rfl #[.string s0_0] rfl (by (try simp only [List.map_toArray, List.map_cons, List.map_nil]); first | done | rfl | (simp only [List.length_drop, List.length_take]; rfl)) ?_; (with_reducible refine (line_lead.calls k s0_0 t102 _ A2.out).mono ?_); rintro e w' ⟨rfl, ⟨nd, rfl⟩⟩; refine ⟨_, rfl, ?_⟩) | ((with_reducible refine gC (f := 60) rfl ?_); refine goesL_ (some 17) rfl rfl Tryz.func60 (by kernel_rfl) rfl #[.string (s0_0.extract 0 (t102 : Int).toNat)] rfl (by (try simp only [List.map_toArray, List.map_cons, List.map_nil]); first | done | rfl | (simp only [List.length_drop, List.length_take]; rfl)) ?_; (with_reducible refine (line_fits.calls (s0_0.extract 0 (t102 : Int).toNat) false _ A5.out).mono ?_); rintro e w' ⟨rfl, ⟨nd, rfl⟩⟩; refine ⟨_, rfl, ?_⟩) | ((with_reducible refine gC (f := 77) rfl ?_); refine goesL_ (some 20) rfl rfl Tryz.func77 (by kernel_rfl) rfl #[.pointer (some ⟨g, 0, none⟩), .int .i64 30] rfl (by (try simp only [List.map_toArray, List.map_cons, List.map_nil]); first | done | rfl | (simp only [List.length_drop, List.length_take]; rfl)) ?_; (with_reducible refine (lrf.calls g s0_0 s0_1 30 t104 t105 w0 _ ?side1 ?side2 A10.out).mono ?_); (case side1 => repeat (first | (with_reducible first | exact HI0.out | apply I66.alloc | apply I66.drewN | apply I66.drew | apply I66.set_0 | apply I66.set_1) | exact HI0.out)); (case side2 => repeat (first | (with_reducible first | exact HB.out | apply bA | apply bdN | apply bd1 | refine bS ?_ (I66.ge HI0.out)) | exact HB.out)); rintro e w14 ⟨rfl, hi, hb, hk⟩; refine ⟨_, rfl, ?_⟩; have n0_ := A0q.mk (KpB.trans (by repeat (first | (with_reducible first | exact HK.out | apply KpB.set_ | apply kdN | apply kD | apply kA) | exact HK.out)) hk (.inl rfl)); have n1_ := A0q.mk (hb); have n2_ := A0q.mk (hi); clear HK; clear HB; clear HI0; have HK := n0_; have HB := n1_; have HI0 := n2_; clear n0_ n1_ n2_; (try clear hb); (try clear hb2); (try clear hk); (try clear hi); obtain ⟨HGz15, hgz15⟩ := HI0.out; have hcz15_0 := cellS66_0 HGz15; have hcz15_1 := cellS66_1 HGz15; have hfz15_0 := bkF HGz15 0; have hfz15_1 := bkF HGz15 1; clear HGz15 hgz15))
     go_ret
     exact ⟨by first | rfl | (simp [eWn, eWs] <;> rfl) | (simp [*, eWn, eWs] <;> rfl), by repeat (first | (with_reducible first | exact HI0.out | apply I66.alloc | apply I66.drewN | apply I66.drew | apply I66.set_0 | apply I66.set_1) | exact HI0.out), by repeat (first | (with_reducible first | exact HB.out | apply bA | apply bdN | apply bd1 | refine bS ?_ (I66.ge HI0.out)) | exact HB.out), by repeat (first | (with_reducible first | exact HK.out | apply KpB.set_ | apply kdN | apply kD | apply kA) | exact HK.out)⟩
    ·
     rw [if_neg c12] at H
     exact absurd H (by simp)
  ·
   rw [if_neg c4] at H
   exact absurd H (by simp)
 ·
  rw [if_neg c3] at H
  exact absurd H (by simp)
def lrs.f (s0_0 : ByteArray) (s0_1 : Int) (a1 : ByteArray) : Option (Int × ByteArray × Int) := if s0_0.toList = ([] : List UInt8) then ((lrf.f s0_0 s0_1 31).bind fun bt106 => (some (0, bt106.1, bt106.2))) else (if 0 < (s0_0.size : Int) then ((strings_IndexByte.f a1 (bt s0_0 0)).bind fun t108 => (if t108 < 0 then ((lrf.f s0_0 s0_1 31).bind fun bt109 => (some (0, bt109.1, bt109.2))) else (if 1 ≤ (s0_0.size : Int) then (some (bt s0_0 0, s0_0.extract 1 s0_0.size, s0_1)) else (none)))) else (none))
set_option maxHeartbeats 8000000 in
set_option maxRecDepth 100000 in
theorem lrs.calls (g : Nat) (s0_0 : ByteArray) (s0_1 : Int) (a1 : ByteArray) (r1 : Int) (r2 : ByteArray) (r3 : Int) (w0 w : World) (hI : I66 w0 w g s0_0 s0_1) (hB : Below w0.heap.size w0 w) (h : lrs.f s0_0 s0_1 a1 = some (r1, r2, r3)) :
  Calls Tryz.prog 43 #[.pointer (some ⟨g, 0, none⟩), .string a1] w fun e w' => e = .returned (.int .u8 r1) ∧ I66 w0 w' g r2 r3 ∧ Below w0.heap.size w0 w' ∧ KpB w w' g none := by
 have HI0 := A0q.mk hI
 have HK := A0q.mk (KpB.refl w g none)
 have HL := A0q.mk hB.size
 clear hI
 have HW0 := A0q.mk hB.size
 have HB := A0q.mk hB
 clear hB
 have H : (if s0_0.toList = ([] : List UInt8) then ((lrf.f s0_0 s0_1 31).bind fun bt106 => (some (0, bt106.1, bt106.2))) else (if 0 < (s0_0.size : Int) then ((strings_IndexByte.f a1 (bt s0_0 0)).bind fun t108 => (if t108 < 0 then ((lrf.f s0_0 s0_1 31).bind fun bt109 => (some (0, bt109.1, bt109.2))) else (if 1 ≤ (s0_0.size : Int) then (some (bt s0_0 0, s0_0.extract 1 s0_0.size, s0_1)) else (none)))) else (none))) = some (r1, r2, r3) := h
 clear h
 by_cases c3 : s0_0.toList = ([] : List UInt8)
 ·
  rw [if_pos c3] at H
  have c3b0 : (s0_0.toList == ([] : List UInt8)) = true := beq_iff_eq.mpr c3
  have c3b1 : (s0_0.toList != ([] : List UInt8)) = false := bne_eq_false_iff_eq.mpr c3
  clear c3
  replace H := Option.bind_eq_some_iff.mp H
  obtain ⟨⟨t106, t107⟩, A40, H⟩ := H
  replace H : (some (0, t106, t107)) = some (r1, r2, r3) := H
  have A4 := A0q.mk A40
  clear A40
  simp only [Option.some.injEq, Prod.mk.injEq] at H
  obtain ⟨rfl, rfl, rfl⟩ := H
  obtain ⟨HGz5, hgz5⟩ := HI0.out
  have hcz5_0 := cellS66_0 HGz5
  have hcz5_1 := cellS66_1 HGz5
  have hfz5_0 := bkF HGz5 0
  have hfz5_1 := bkF HGz5 1
  clear HGz5 hgz5
  go_enter Tryz.func43, Tryz.ntmps43
  go_wp2_with (first | ((with_reducible refine gC (f := 77) rfl ?_); refine goesL_ (some 22) rfl rfl Tryz.func77 (by kernel_rfl) rfl #[.pointer (some ⟨g, 0, none⟩), .int .i64 31] rfl (by (try simp only [List.map_toArray, List.map_cons, List.map_nil]); first | done | rfl | (simp only [List.length_drop, List.length_take]; rfl)) ?_; (with_reducible refine (lrf.calls g s0_0 s0_1 31 t106 t107 w0 _ ?side1 ?side2 A4.out).mono ?_); (case side1 => repeat (first | (with_reducible first | exact HI0.out | apply I66.alloc | apply I66.drewN | apply I66.drew | apply I66.set_0 | apply I66.set_1) | exact HI0.out)); (case side2 => repeat (first | (with_reducible first | exact HB.out | apply bA | apply bdN | apply bd1 | refine bS ?_ (I66.ge HI0.out)) | exact HB.out)); rintro e w6 ⟨rfl, hi, hb, hk⟩; refine ⟨_, rfl, ?_⟩; have n0_ := A0q.mk (KpB.trans (by repeat (first | (with_reducible first | exact HK.out | apply KpB.set_ | apply kdN | apply kD | apply kA) | exact HK.out)) hk (.inl rfl)); have n1_ := A0q.mk (hb); have n2_ := A0q.mk (hi); clear HK; clear HB; clear HI0; have HK := n0_; have HB := n1_; have HI0 := n2_; clear n0_ n1_ n2_; (try clear hb); (try clear hb2); (try clear hk); (try clear hi)))
  go_ret
  exact ⟨by first | rfl | (simp [eWn, eWs] <;> rfl) | (simp [*, eWn, eWs] <;> rfl), by repeat (first | (with_reducible first | exact HI0.out | apply I66.alloc | apply I66.drewN | apply I66.drew | apply I66.set_0 | apply I66.set_1) | exact HI0.out), by repeat (first | (with_reducible first | exact HB.out | apply bA | apply bdN | apply bd1 | refine bS ?_ (I66.ge HI0.out)) | exact HB.out), by repeat (first | (with_reducible first | exact HK.out | apply KpB.set_ | apply kdN | apply kD | apply kA) | exact HK.out)⟩
 ·
  rw [if_neg c3] at H
  have c3b0 : (s0_0.toList == ([] : List UInt8)) = false := beq_eq_false_iff_ne.mpr c3
  have c3b1 : (s0_0.toList != ([] : List UInt8)) = true := bne_iff_ne.mpr c3
  by_cases c7 : 0 < (s0_0.size : Int)
  ·
   rw [if_pos c7] at H
   have c7b0 : decide (0 < (s0_0.size : Int)) = true := decide_eq_true c7
   have c7b1 : decide (0 < s0_0.size) = true := decide_eq_true (by omega)
   clear c7
   replace H := Option.bind_eq_some_iff.mp H
   obtain ⟨t108, A90, H⟩ := H
   replace H : (if t108 < 0 then ((lrf.f s0_0 s0_1 31).bind fun bt109 => (some (0, bt109.1, bt109.2))) else (if 1 ≤ (s0_0.size : Int) then (some (bt s0_0 0, s0_0.extract 1 s0_0.size, s0_1)) else (none))) = some (r1, r2, r3) := H
   have A9 := A0q.mk A90
   clear A90
   by_cases c10 : t108 < 0
   ·
    rw [if_pos c10] at H
    have c10b0 : decide (t108 < 0) = true := decide_eq_true c10
    clear c10
    replace H := Option.bind_eq_some_iff.mp H
    obtain ⟨⟨t109, t110⟩, A110, H⟩ := H
    replace H : (some (0, t109, t110)) = some (r1, r2, r3) := H
    have A11 := A0q.mk A110
    clear A110
    simp only [Option.some.injEq, Prod.mk.injEq] at H
    obtain ⟨rfl, rfl, rfl⟩ := H
    obtain ⟨HGz12, hgz12⟩ := HI0.out
    have hcz12_0 := cellS66_0 HGz12
    have hcz12_1 := cellS66_1 HGz12
    have hfz12_0 := bkF HGz12 0
    have hfz12_1 := bkF HGz12 1
    clear HGz12 hgz12
    have p8 : 0 ≤ (0 : Int) := (by omega)
    have q8 : 0 < s0_0.size := (by have : (0 : Int) < (s0_0.size : Int) := of_decide_eq_true (by first | (with_reducible assumption) | assumption); omega)
    have hx8 : ∀ h : 0 < s0_0.size, ((s0_0[0]'h).toNat : Int) = bt s0_0 0 := bt_at s0_0 0
    clear p8
    have qi8 : (0 < (s0_0.size : Int)) = True := eq_true (of_decide_eq_true (by first | (with_reducible assumption) | assumption))
    replace q8 := eq_true q8
    go_enter Tryz.func43, Tryz.ntmps43
    go_wp2_with (first | (go_at_call 78; (with_reducible refine (strings_IndexByte.calls a1 (bt s0_0 0) t108 _ A9.out).mono ?_); rintro e w' ⟨rfl, ⟨nd, rfl⟩⟩) | ((with_reducible refine gC (f := 77) rfl ?_); refine goesL_ (some 22) rfl rfl Tryz.func77 (by kernel_rfl) rfl #[.pointer (some ⟨g, 0, none⟩), .int .i64 31] rfl (by (try simp only [List.map_toArray, List.map_cons, List.map_nil]); first | done | rfl | (simp only [List.length_drop, List.length_take]; rfl)) ?_; (with_reducible refine (lrf.calls g s0_0 s0_1 31 t109 t110 w0 _ ?side1 ?side2 A11.out).mono ?_); (case side1 => repeat (first | (with_reducible first | exact HI0.out | apply I66.alloc | apply I66.drewN | apply I66.drew | apply I66.set_0 | apply I66.set_1) | exact HI0.out)); (case side2 => repeat (first | (with_reducible first | exact HB.out | apply bA | apply bdN | apply bd1 | refine bS ?_ (I66.ge HI0.out)) | exact HB.out)); rintro e w13 ⟨rfl, hi, hb, hk⟩; refine ⟨_, rfl, ?_⟩; have n0_ := A0q.mk (KpB.trans (by repeat (first | (with_reducible first | exact HK.out | apply KpB.set_ | apply kdN | apply kD | apply kA) | exact HK.out)) hk (.inl rfl)); have n1_ := A0q.mk (hb); have n2_ := A0q.mk (hi); clear HK; clear HB; clear HI0; have HK := n0_; have HB := n1_; have HI0 := n2_; clear n0_ n1_ n2_; (try clear hb); (try clear hb2); (try clear hk); (try clear hi)))
    go_ret
    exact ⟨by first | rfl | (simp [eWn, eWs] <;> rfl) | (simp [*, eWn, eWs] <;> rfl), by repeat (first | (with_reducible first | exact HI0.out | apply I66.alloc | apply I66.drewN | apply I66.drew | apply I66.set_0 | apply I66.set_1) | exact HI0.out), by repeat (first | (with_reducible first | exact HB.out | apply bA | apply bdN | apply bd1 | refine bS ?_ (I66.ge HI0.out)) | exact HB.out), by repeat (first | (with_reducible first | exact HK.out | apply KpB.set_ | apply kdN | apply kD | apply kA) | exact HK.out)⟩
   ·
    rw [if_neg c10] at H
    have c10b0 : decide (t108 < 0) = false := decide_eq_false c10
    clear c10
    by_cases c15 : 1 ≤ (s0_0.size : Int)
    ·
     rw [if_pos c15] at H
     have c15b0 := eq_true c15
     have c15b1 : decide (1 ≤ (s0_0.size : Int)) = true := decide_eq_true c15
     clear c15
     simp only [Option.some.injEq, Prod.mk.injEq] at H
     obtain ⟨rfl, rfl, rfl⟩ := H
     obtain ⟨HGz16, hgz16⟩ := HI0.out
     have hcz16_0 := cellS66_0 HGz16
     have hcz16_1 := cellS66_1 HGz16
     have hfz16_0 := bkF HGz16 0
     have hfz16_1 := bkF HGz16 1
     clear HGz16 hgz16
     have p8 : 0 ≤ (0 : Int) := (by omega)
     have q8 : 0 < s0_0.size := (by have : (0 : Int) < (s0_0.size : Int) := of_decide_eq_true (by first | (with_reducible assumption) | assumption); omega)
     have hx8 : ∀ h : 0 < s0_0.size, ((s0_0[0]'h).toNat : Int) = bt s0_0 0 := bt_at s0_0 0
     clear p8
     have qi8 : (0 < (s0_0.size : Int)) = True := eq_true (of_decide_eq_true (by first | (with_reducible assumption) | assumption))
     replace q8 := eq_true q8
     go_enter Tryz.func43, Tryz.ntmps43
     go_wp2_with (first | (go_at_call 78; (with_reducible refine (strings_IndexByte.calls a1 (bt s0_0 0) t108 _ A9.out).mono ?_); rintro e w' ⟨rfl, ⟨nd, rfl⟩⟩; have p14 : 0 ≤ (0 : Int) := (by omega); have q14 : 0 < s0_0.size := (by have : (0 : Int) < (s0_0.size : Int) := of_decide_eq_true (by first | (with_reducible assumption) | assumption); omega); have hx14 : ∀ h : 0 < s0_0.size, ((s0_0[0]'h).toNat : Int) = bt s0_0 0 := bt_at s0_0 0; clear p14; have qi14 : (0 < (s0_0.size : Int)) = True := eq_true (of_decide_eq_true (by first | (with_reducible assumption) | assumption)); replace q14 := eq_true q14))
     go_ret
     exact ⟨by first | rfl | (simp [eWn, eWs] <;> rfl) | (simp [*, eWn, eWs] <;> rfl), by repeat (first | (with_reducible first | exact HI0.out | apply I66.alloc | apply I66.drewN | apply I66.drew | apply I66.set_0 | apply I66.set_1) | exact HI0.out), by repeat (first | (with_reducible first | exact HB.out | apply bA | apply bdN | apply bd1 | refine bS ?_ (I66.ge HI0.out)) | exact HB.out), by repeat (first | (with_reducible first | exact HK.out | apply KpB.set_ | apply kdN | apply kD | apply kA) | exact HK.out)⟩
    ·
     rw [if_neg c15] at H
     exact absurd H (by simp)
  ·
   rw [if_neg c7] at H
   exact absurd H (by simp)
def lrv.f (s0_0 : ByteArray) (s0_1 : Int) : Option (ByteArray × ByteArray × Int) := (strings_HasPrefix.f s0_0 (⟨#[34]⟩ : ByteArray)).bind fun t111 => (if t111 = true then (if 1 ≤ (s0_0.size : Int) then ((strings_Cut.f (s0_0.extract 1 s0_0.size) (⟨#[34]⟩ : ByteArray)).bind fun bt112 => (if bt112.2.2 = true then ((line_meant.f bt112.1).bind fun t115 => (some (t115, bt112.2.1, s0_1))) else ((lrf.f s0_0 s0_1 31).bind fun bt116 => ((line_meant.f bt112.1).bind fun t118 => (some (t118, bt112.2.1, bt116.2)))))) else (none)) else ((strings_IndexAny.f s0_0 (⟨#[44, 59, 58, 34]⟩ : ByteArray)).bind fun t119 => (if t119 < 0 then (if 0 ≤ (s0_0.size : Int) then (if (s0_0.size : Int) ≤ (s0_0.size : Int) then ((line_meant.f s0_0).bind fun t120 => (some (t120, ByteArray.empty, s0_1))) else (none)) else (none)) else (if 0 ≤ t119 then (if t119 ≤ (s0_0.size : Int) then ((line_meant.f (s0_0.extract 0 (t119 : Int).toNat)).bind fun t121 => (some (t121, s0_0.extract (t119 : Int).toNat s0_0.size, s0_1))) else (none)) else (none)))))
set_option maxHeartbeats 8000000 in
set_option maxRecDepth 100000 in
theorem lrv.calls (g : Nat) (s0_0 : ByteArray) (s0_1 : Int) (r1 : ByteArray) (r2 : ByteArray) (r3 : Int) (w0 w : World) (hI : I66 w0 w g s0_0 s0_1) (hB : Below w0.heap.size w0 w) (hT : TabsW w0) (h : lrv.f s0_0 s0_1 = some (r1, r2, r3)) :
  Calls Tryz.prog 44 #[.pointer (some ⟨g, 0, none⟩)] w fun e w' => e = .returned (.string r1) ∧ I66 w0 w' g r2 r3 ∧ Below w0.heap.size w0 w' ∧ KpB w w' g none := by
 have HT := A0q.mk hT
 clear hT
 have HI0 := A0q.mk hI
 have HK := A0q.mk (KpB.refl w g none)
 have HL := A0q.mk hB.size
 clear hI
 have HW0 := A0q.mk hB.size
 have HB := A0q.mk hB
 clear hB
 have H : ((strings_HasPrefix.f s0_0 (⟨#[34]⟩ : ByteArray)).bind fun t111 => (if t111 = true then (if 1 ≤ (s0_0.size : Int) then ((strings_Cut.f (s0_0.extract 1 s0_0.size) (⟨#[34]⟩ : ByteArray)).bind fun bt112 => (if bt112.2.2 = true then ((line_meant.f bt112.1).bind fun t115 => (some (t115, bt112.2.1, s0_1))) else ((lrf.f s0_0 s0_1 31).bind fun bt116 => ((line_meant.f bt112.1).bind fun t118 => (some (t118, bt112.2.1, bt116.2)))))) else (none)) else ((strings_IndexAny.f s0_0 (⟨#[44, 59, 58, 34]⟩ : ByteArray)).bind fun t119 => (if t119 < 0 then (if 0 ≤ (s0_0.size : Int) then (if (s0_0.size : Int) ≤ (s0_0.size : Int) then ((line_meant.f s0_0).bind fun t120 => (some (t120, ByteArray.empty, s0_1))) else (none)) else (none)) else (if 0 ≤ t119 then (if t119 ≤ (s0_0.size : Int) then ((line_meant.f (s0_0.extract 0 (t119 : Int).toNat)).bind fun t121 => (some (t121, s0_0.extract (t119 : Int).toNat s0_0.size, s0_1))) else (none)) else (none)))))) = some (r1, r2, r3) := h
 clear h
 replace H := Option.bind_eq_some_iff.mp H
 obtain ⟨t111, A20, H⟩ := H
 replace H : (if t111 = true then (if 1 ≤ (s0_0.size : Int) then ((strings_Cut.f (s0_0.extract 1 s0_0.size) (⟨#[34]⟩ : ByteArray)).bind fun bt112 => (if bt112.2.2 = true then ((line_meant.f bt112.1).bind fun t115 => (some (t115, bt112.2.1, s0_1))) else ((lrf.f s0_0 s0_1 31).bind fun bt116 => ((line_meant.f bt112.1).bind fun t118 => (some (t118, bt112.2.1, bt116.2)))))) else (none)) else ((strings_IndexAny.f s0_0 (⟨#[44, 59, 58, 34]⟩ : ByteArray)).bind fun t119 => (if t119 < 0 then (if 0 ≤ (s0_0.size : Int) then (if (s0_0.size : Int) ≤ (s0_0.size : Int) then ((line_meant.f s0_0).bind fun t120 => (some (t120, ByteArray.empty, s0_1))) else (none)) else (none)) else (if 0 ≤ t119 then (if t119 ≤ (s0_0.size : Int) then ((line_meant.f (s0_0.extract 0 (t119 : Int).toNat)).bind fun t121 => (some (t121, s0_0.extract (t119 : Int).toNat s0_0.size, s0_1))) else (none)) else (none))))) = some (r1, r2, r3) := H
 have A2 := A0q.mk A20
 clear A20
 by_cases c3 : t111 = true
 ·
  subst c3
  have H1 : (if 1 ≤ (s0_0.size : Int) then ((strings_Cut.f (s0_0.extract 1 s0_0.size) (⟨#[34]⟩ : ByteArray)).bind fun bt112 => (if bt112.2.2 = true then ((line_meant.f bt112.1).bind fun t115 => (some (t115, bt112.2.1, s0_1))) else ((lrf.f s0_0 s0_1 31).bind fun bt116 => ((line_meant.f bt112.1).bind fun t118 => (some (t118, bt112.2.1, bt116.2)))))) else (none)) = some (r1, r2, r3) := by rw [if_pos rfl] at H; exact H
  clear H
  have H := H1
  clear H1
  by_cases c4 : 1 ≤ (s0_0.size : Int)
  ·
   rw [if_pos c4] at H
   have c4b0 := eq_true c4
   have c4b1 : decide (1 ≤ (s0_0.size : Int)) = true := decide_eq_true c4
   clear c4
   replace H := Option.bind_eq_some_iff.mp H
   obtain ⟨⟨t112, t113, t114⟩, A50, H⟩ := H
   replace H : (if t114 = true then ((line_meant.f t112).bind fun t115 => (some (t115, t113, s0_1))) else ((lrf.f s0_0 s0_1 31).bind fun bt116 => ((line_meant.f t112).bind fun t118 => (some (t118, t113, bt116.2))))) = some (r1, r2, r3) := H
   have A5 := A0q.mk A50
   clear A50
   by_cases c6 : t114 = true
   ·
    subst c6
    have H1 : ((line_meant.f t112).bind fun t115 => (some (t115, t113, s0_1))) = some (r1, r2, r3) := by rw [if_pos rfl] at H; exact H
    clear H
    have H := H1
    clear H1
    replace H := Option.bind_eq_some_iff.mp H
    obtain ⟨t115, A70, H⟩ := H
    replace H : (some (t115, t113, s0_1)) = some (r1, r2, r3) := H
    have A7 := A0q.mk A70
    clear A70
    simp only [Option.some.injEq, Prod.mk.injEq] at H
    obtain ⟨rfl, rfl, rfl⟩ := H
    obtain ⟨HGz8, hgz8⟩ := HI0.out
    have hcz8_0 := cellS66_0 HGz8
    have hcz8_1 := cellS66_1 HGz8
    have hfz8_0 := bkF HGz8 0
    have hfz8_1 := bkF HGz8 1
    clear HGz8 hgz8
    go_enter Tryz.func44, Tryz.ntmps44
    go_wp2_with (first | ((with_reducible refine gC (f := 79) rfl ?_); refine goesL_ (some 12) rfl rfl Tryz.func79 (by kernel_rfl) rfl #[.string s0_0, .string (⟨#[34]⟩ : ByteArray)] rfl (by (try simp only [List.map_toArray, List.map_cons, List.map_nil]); first | done | rfl | (simp only [List.length_drop, List.length_take]; rfl)) ?_; (with_reducible refine (strings_HasPrefix.calls s0_0 (⟨#[34]⟩ : ByteArray) true _ A2.out).mono ?_); rintro e w' ⟨rfl, ⟨nd, rfl⟩⟩; refine ⟨_, rfl, ?_⟩) | ((with_reducible refine gC (f := 80) rfl ?_); refine goesL_ (some 19) rfl rfl Tryz.func80 (by kernel_rfl) rfl #[.string (s0_0.extract 1 s0_0.size), .string (⟨#[34]⟩ : ByteArray)] rfl (by (try simp only [List.map_toArray, List.map_cons, List.map_nil]); first | done | rfl | (simp only [List.length_drop, List.length_take]; rfl)) ?_; (with_reducible refine (strings_Cut.calls (s0_0.extract 1 s0_0.size) (⟨#[34]⟩ : ByteArray) t112 t113 true _ ?side1 A5.out).mono ?_); (case side1 => exact TabsW.below HT.out (by repeat (first | (with_reducible first | exact HB.out | apply bA | apply bdN | apply bd1 | refine bS ?_ (I66.ge HI0.out)) | exact HB.out))); rintro e w9 ⟨rfl, hb⟩; refine ⟨_, rfl, ?_⟩; have n0_ := A0q.mk (I66.below (by repeat (first | (with_reducible first | exact HI0.out | apply I66.alloc | apply I66.drewN | apply I66.drew | apply I66.set_0 | apply I66.set_1) | exact HI0.out)) hb); have n1_ := A0q.mk (KpB.trans (by repeat (first | (with_reducible first | exact HK.out | apply KpB.set_ | apply kdN | apply kD | apply kA) | exact HK.out)) (KpB.of_below hb g none) (.inl rfl)); have n2_ := A0q.mk (bT (by repeat (first | (with_reducible first | exact HB.out | apply bA | apply bdN | apply bd1 | refine bS ?_ (I66.ge HI0.out)) | exact HB.out)) hb); clear HI0; clear HK; clear HB; have HI0 := n0_; have HK := n1_; have HB := n2_; clear n0_ n1_ n2_; (try clear hb); (try clear hb2); (try clear hk); (try clear hi); obtain ⟨HGz10, hgz10⟩ := HI0.out; have hcz10_0 := cellS66_0 HGz10; have hcz10_1 := cellS66_1 HGz10; have hfz10_0 := bkF HGz10 0; have hfz10_1 := bkF HGz10 1; clear HGz10 hgz10) | ((with_reducible refine gC (f := 81) rfl ?_); refine goesL_ (some 32) rfl rfl Tryz.func81 (by kernel_rfl) rfl #[.string t112] rfl (by (try simp only [List.map_toArray, List.map_cons, List.map_nil]); first | done | rfl | (simp only [List.length_drop, List.length_take]; rfl)) ?_; (with_reducible refine (line_meant.calls t112 t115 _ A7.out).mono ?_); rintro e w11 ⟨rfl, hb⟩; refine ⟨_, rfl, ?_⟩; have n0_ := A0q.mk (I66.below (show I66 w0 (w9.setCell ⟨g, 0, none⟩ (.string t113)) g t113 s0_1 from by repeat (first | (with_reducible first | exact HI0.out | apply I66.alloc | apply I66.drewN | apply I66.drew | apply I66.set_0 | apply I66.set_1) | exact HI0.out)) hb); have n1_ := A0q.mk (KpB.trans (by repeat (first | (with_reducible first | exact HK.out | apply KpB.set_ | apply kdN | apply kD | apply kA) | exact HK.out)) (KpB.of_below hb g none) (.inl rfl)); have n2_ := A0q.mk (bT (by repeat (first | (with_reducible first | exact HB.out | apply bA | apply bdN | apply bd1 | refine bS ?_ (I66.ge HI0.out)) | exact HB.out)) hb); clear HI0; clear HK; clear HB; have HI0 := n0_; have HK := n1_; have HB := n2_; clear n0_ n1_ n2_; (try clear hb); (try clear hb2); (try clear hk); (try clear hi)))
    go_ret
    exact ⟨by first | rfl | (simp [eWn, eWs] <;> rfl) | (simp [*, eWn, eWs] <;> rfl), by repeat (first | (with_reducible first | exact HI0.out | apply I66.alloc | apply I66.drewN | apply I66.drew | apply I66.set_0 | apply I66.set_1) | exact HI0.out), by repeat (first | (with_reducible first | exact HB.out | apply bA | apply bdN | apply bd1 | refine bS ?_ (I66.ge HI0.out)) | exact HB.out), by repeat (first | (with_reducible first | exact HK.out | apply KpB.set_ | apply kdN | apply kD | apply kA) | exact HK.out)⟩
   ·
    replace c6 := Bool.eq_false_iff.mpr c6
    subst c6
    have H1 : ((lrf.f s0_0 s0_1 31).bind fun bt116 => ((line_meant.f t112).bind fun t118 => (some (t118, t113, bt116.2)))) = some (r1, r2, r3) := by rw [if_neg (show ¬ (false = true) by decide)] at H; exact H
    clear H
    have H := H1
    clear H1
    replace H := Option.bind_eq_some_iff.mp H
    obtain ⟨⟨t116, t117⟩, A120, H⟩ := H
    replace H : ((line_meant.f t112).bind fun t118 => (some (t118, t113, t117))) = some (r1, r2, r3) := H
    have A12 := A0q.mk A120
    clear A120
    replace H := Option.bind_eq_some_iff.mp H
    obtain ⟨t118, A130, H⟩ := H
    replace H : (some (t118, t113, t117)) = some (r1, r2, r3) := H
    have A13 := A0q.mk A130
    clear A130
    simp only [Option.some.injEq, Prod.mk.injEq] at H
    obtain ⟨rfl, rfl, rfl⟩ := H
    obtain ⟨HGz14, hgz14⟩ := HI0.out
    have hcz14_0 := cellS66_0 HGz14
    have hcz14_1 := cellS66_1 HGz14
    have hfz14_0 := bkF HGz14 0
    have hfz14_1 := bkF HGz14 1
    clear HGz14 hgz14
    go_enter Tryz.func44, Tryz.ntmps44
    go_wp2_with (first | ((with_reducible refine gC (f := 79) rfl ?_); refine goesL_ (some 12) rfl rfl Tryz.func79 (by kernel_rfl) rfl #[.string s0_0, .string (⟨#[34]⟩ : ByteArray)] rfl (by (try simp only [List.map_toArray, List.map_cons, List.map_nil]); first | done | rfl | (simp only [List.length_drop, List.length_take]; rfl)) ?_; (with_reducible refine (strings_HasPrefix.calls s0_0 (⟨#[34]⟩ : ByteArray) true _ A2.out).mono ?_); rintro e w' ⟨rfl, ⟨nd, rfl⟩⟩; refine ⟨_, rfl, ?_⟩) | ((with_reducible refine gC (f := 80) rfl ?_); refine goesL_ (some 19) rfl rfl Tryz.func80 (by kernel_rfl) rfl #[.string (s0_0.extract 1 s0_0.size), .string (⟨#[34]⟩ : ByteArray)] rfl (by (try simp only [List.map_toArray, List.map_cons, List.map_nil]); first | done | rfl | (simp only [List.length_drop, List.length_take]; rfl)) ?_; (with_reducible refine (strings_Cut.calls (s0_0.extract 1 s0_0.size) (⟨#[34]⟩ : ByteArray) t112 t113 false _ ?side1 A5.out).mono ?_); (case side1 => exact TabsW.below HT.out (by repeat (first | (with_reducible first | exact HB.out | apply bA | apply bdN | apply bd1 | refine bS ?_ (I66.ge HI0.out)) | exact HB.out))); rintro e w15 ⟨rfl, hb⟩; refine ⟨_, rfl, ?_⟩; have n0_ := A0q.mk (I66.below (by repeat (first | (with_reducible first | exact HI0.out | apply I66.alloc | apply I66.drewN | apply I66.drew | apply I66.set_0 | apply I66.set_1) | exact HI0.out)) hb); have n1_ := A0q.mk (KpB.trans (by repeat (first | (with_reducible first | exact HK.out | apply KpB.set_ | apply kdN | apply kD | apply kA) | exact HK.out)) (KpB.of_below hb g none) (.inl rfl)); have n2_ := A0q.mk (bT (by repeat (first | (with_reducible first | exact HB.out | apply bA | apply bdN | apply bd1 | refine bS ?_ (I66.ge HI0.out)) | exact HB.out)) hb); clear HI0; clear HK; clear HB; have HI0 := n0_; have HK := n1_; have HB := n2_; clear n0_ n1_ n2_; (try clear hb); (try clear hb2); (try clear hk); (try clear hi)) | ((with_reducible refine gC (f := 77) rfl ?_); refine goesL_ (some 26) rfl rfl Tryz.func77 (by kernel_rfl) rfl #[.pointer (some ⟨g, 0, none⟩), .int .i64 31] rfl (by (try simp only [List.map_toArray, List.map_cons, List.map_nil]); first | done | rfl | (simp only [List.length_drop, List.length_take]; rfl)) ?_; (with_reducible refine (lrf.calls g s0_0 s0_1 31 t116 t117 w0 _ ?side1 ?side2 A12.out).mono ?_); (case side1 => repeat (first | (with_reducible first | exact HI0.out | apply I66.alloc | apply I66.drewN | apply I66.drew | apply I66.set_0 | apply I66.set_1) | exact HI0.out)); (case side2 => repeat (first | (with_reducible first | exact HB.out | apply bA | apply bdN | apply bd1 | refine bS ?_ (I66.ge HI0.out)) | exact HB.out)); rintro e w16 ⟨rfl, hi, hb, hk⟩; refine ⟨_, rfl, ?_⟩; have n0_ := A0q.mk (KpB.trans (by repeat (first | (with_reducible first | exact HK.out | apply KpB.set_ | apply kdN | apply kD | apply kA) | exact HK.out)) hk (.inl rfl)); have n1_ := A0q.mk (hb); have n2_ := A0q.mk (hi); clear HK; clear HB; clear HI0; have HK := n0_; have HB := n1_; have HI0 := n2_; clear n0_ n1_ n2_; (try clear hb); (try clear hb2); (try clear hk); (try clear hi); obtain ⟨HGz17, hgz17⟩ := HI0.out; have hcz17_0 := cellS66_0 HGz17; have hcz17_1 := cellS66_1 HGz17; have hfz17_0 := bkF HGz17 0; have hfz17_1 := bkF HGz17 1; clear HGz17 hgz17) | ((with_reducible refine gC (f := 81) rfl ?_); refine goesL_ (some 32) rfl rfl Tryz.func81 (by kernel_rfl) rfl #[.string t112] rfl (by (try simp only [List.map_toArray, List.map_cons, List.map_nil]); first | done | rfl | (simp only [List.length_drop, List.length_take]; rfl)) ?_; (with_reducible refine (line_meant.calls t112 t118 _ A13.out).mono ?_); rintro e w18 ⟨rfl, hb⟩; refine ⟨_, rfl, ?_⟩; have n0_ := A0q.mk (I66.below (show I66 w0 (w16.setCell ⟨g, 0, none⟩ (.string t113)) g t113 t117 from by repeat (first | (with_reducible first | exact HI0.out | apply I66.alloc | apply I66.drewN | apply I66.drew | apply I66.set_0 | apply I66.set_1) | exact HI0.out)) hb); have n1_ := A0q.mk (KpB.trans (by repeat (first | (with_reducible first | exact HK.out | apply KpB.set_ | apply kdN | apply kD | apply kA) | exact HK.out)) (KpB.of_below hb g none) (.inl rfl)); have n2_ := A0q.mk (bT (by repeat (first | (with_reducible first | exact HB.out | apply bA | apply bdN | apply bd1 | refine bS ?_ (I66.ge HI0.out)) | exact HB.out)) hb); clear HI0; clear HK; clear HB; have HI0 := n0_; have HK := n1_; have HB := n2_; clear n0_ n1_ n2_; (try clear hb); (try clear hb2); (try clear hk); (try clear hi)))
    go_ret
    exact ⟨by first | rfl | (simp [eWn, eWs] <;> rfl) | (simp [*, eWn, eWs] <;> rfl), by repeat (first | (with_reducible first | exact HI0.out | apply I66.alloc | apply I66.drewN | apply I66.drew | apply I66.set_0 | apply I66.set_1) | exact HI0.out), by repeat (first | (with_reducible first | exact HB.out | apply bA | apply bdN | apply bd1 | refine bS ?_ (I66.ge HI0.out)) | exact HB.out), by repeat (first | (with_reducible first | exact HK.out | apply KpB.set_ | apply kdN | apply kD | apply kA) | exact HK.out)⟩
  ·
   rw [if_neg c4] at H
   exact absurd H (by simp)
 ·
  replace c3 := Bool.eq_false_iff.mpr c3
  subst c3
  have H1 : ((strings_IndexAny.f s0_0 (⟨#[44, 59, 58, 34]⟩ : ByteArray)).bind fun t119 => (if t119 < 0 then (if 0 ≤ (s0_0.size : Int) then (if (s0_0.size : Int) ≤ (s0_0.size : Int) then ((line_meant.f s0_0).bind fun t120 => (some (t120, ByteArray.empty, s0_1))) else (none)) else (none)) else (if 0 ≤ t119 then (if t119 ≤ (s0_0.size : Int) then ((line_meant.f (s0_0.extract 0 (t119 : Int).toNat)).bind fun t121 => (some (t121, s0_0.extract (t119 : Int).toNat s0_0.size, s0_1))) else (none)) else (none)))) = some (r1, r2, r3) := by rw [if_neg (show ¬ (false = true) by decide)] at H; exact H
  clear H
  have H := H1
  clear H1
  replace H := Option.bind_eq_some_iff.mp H
  obtain ⟨t119, A190, H⟩ := H
  replace H : (if t119 < 0 then (if 0 ≤ (s0_0.size : Int) then (if (s0_0.size : Int) ≤ (s0_0.size : Int) then ((line_meant.f s0_0).bind fun t120 => (some (t120, ByteArray.empty, s0_1))) else (none)) else (none)) else (if 0 ≤ t119 then (if t119 ≤ (s0_0.size : Int) then ((line_meant.f (s0_0.extract 0 (t119 : Int).toNat)).bind fun t121 => (some (t121, s0_0.extract (t119 : Int).toNat s0_0.size, s0_1))) else (none)) else (none))) = some (r1, r2, r3) := H
  have A19 := A0q.mk A190
  clear A190
  by_cases c20 : t119 < 0
  ·
   rw [if_pos c20] at H
   have c20b0 : decide (t119 < 0) = true := decide_eq_true c20
   clear c20
   by_cases c21 : 0 ≤ (s0_0.size : Int)
   ·
    rw [if_pos c21] at H
    have c21b0 := eq_true c21
    have c21b1 : decide (0 ≤ (s0_0.size : Int)) = true := decide_eq_true c21
    clear c21
    by_cases c22 : (s0_0.size : Int) ≤ (s0_0.size : Int)
    ·
     rw [if_pos c22] at H
     have c22b0 := eq_true c22
     have c22b1 : decide ((s0_0.size : Int) ≤ (s0_0.size : Int)) = true := decide_eq_true c22
     clear c22
     have c23b0 := eq_true (of_decide_eq_true (by first | (with_reducible assumption) | assumption) : 0 ≤ (s0_0.size : Int))
     have c24b0 := eq_true (of_decide_eq_true (by first | (with_reducible assumption) | assumption) : (s0_0.size : Int) ≤ (s0_0.size : Int))
     replace H := Option.bind_eq_some_iff.mp H
     obtain ⟨t120, A250, H⟩ := H
     replace H : (some (t120, ByteArray.empty, s0_1)) = some (r1, r2, r3) := H
     have A25 := A0q.mk A250
     clear A250
     simp only [Option.some.injEq, Prod.mk.injEq] at H
     obtain ⟨rfl, rfl, rfl⟩ := H
     obtain ⟨HGz26, hgz26⟩ := HI0.out
     have hcz26_0 := cellS66_0 HGz26
     have hcz26_1 := cellS66_1 HGz26
     have hfz26_0 := bkF HGz26 0
     have hfz26_1 := bkF HGz26 1
     clear HGz26 hgz26
     go_enter Tryz.func44, Tryz.ntmps44
     go_wp2_with (first | ((with_reducible refine gC (f := 79) rfl ?_); refine goesL_ (some 12) rfl rfl Tryz.func79 (by kernel_rfl) rfl #[.string s0_0, .string (⟨#[34]⟩ : ByteArray)] rfl (by (try simp only [List.map_toArray, List.map_cons, List.map_nil]); first | done | rfl | (simp only [List.length_drop, List.length_take]; rfl)) ?_; (with_reducible refine (strings_HasPrefix.calls s0_0 (⟨#[34]⟩ : ByteArray) false _ A2.out).mono ?_); rintro e w' ⟨rfl, ⟨nd, rfl⟩⟩; refine ⟨_, rfl, ?_⟩) | ((with_reducible refine gC (f := 76) rfl ?_); refine goesL_ (some 37) rfl rfl Tryz.func76 (by kernel_rfl) rfl #[.string s0_0, .string (⟨#[44, 59, 58, 34]⟩ : ByteArray)] rfl (by (try simp only [List.map_toArray, List.map_cons, List.map_nil]); first | done | rfl | (simp only [List.length_drop, List.length_take]; rfl)) ?_; (with_reducible refine (strings_IndexAny.calls s0_0 (⟨#[44, 59, 58, 34]⟩ : ByteArray) t119 _ A19.out).mono ?_); rintro e w27 ⟨rfl, hb⟩; refine ⟨_, rfl, ?_⟩; have n0_ := A0q.mk (I66.below (by repeat (first | (with_reducible first | exact HI0.out | apply I66.alloc | apply I66.drewN | apply I66.drew | apply I66.set_0 | apply I66.set_1) | exact HI0.out)) hb); have n1_ := A0q.mk (KpB.trans (by repeat (first | (with_reducible first | exact HK.out | apply KpB.set_ | apply kdN | apply kD | apply kA) | exact HK.out)) (KpB.of_below hb g none) (.inl rfl)); have n2_ := A0q.mk (bT (by repeat (first | (with_reducible first | exact HB.out | apply bA | apply bdN | apply bd1 | refine bS ?_ (I66.ge HI0.out)) | exact HB.out)) hb); clear HI0; clear HK; clear HB; have HI0 := n0_; have HK := n1_; have HB := n2_; clear n0_ n1_ n2_; (try clear hb); (try clear hb2); (try clear hk); (try clear hi); obtain ⟨HGz28, hgz28⟩ := HI0.out; have hcz28_0 := cellS66_0 HGz28; have hcz28_1 := cellS66_1 HGz28; have hfz28_0 := bkF HGz28 0; have hfz28_1 := bkF HGz28 1; clear HGz28 hgz28) | ((with_reducible refine gC (f := 81) rfl ?_); refine goesL_ (some 61) rfl rfl Tryz.func81 (by kernel_rfl) rfl #[.string s0_0] rfl (by (try simp only [List.map_toArray, List.map_cons, List.map_nil]); first | done | rfl | (simp only [List.length_drop, List.length_take]; rfl)) ?_; (with_reducible refine (line_meant.calls s0_0 t120 _ A25.out).mono ?_); rintro e w29 ⟨rfl, hb⟩; refine ⟨_, rfl, ?_⟩; have n0_ := A0q.mk (I66.below (show I66 w0 (w27.setCell ⟨g, 0, none⟩ (.string ByteArray.empty)) g ByteArray.empty s0_1 from by repeat (first | (with_reducible first | exact HI0.out | apply I66.alloc | apply I66.drewN | apply I66.drew | apply I66.set_0 | apply I66.set_1) | exact HI0.out)) hb); have n1_ := A0q.mk (KpB.trans (by repeat (first | (with_reducible first | exact HK.out | apply KpB.set_ | apply kdN | apply kD | apply kA) | exact HK.out)) (KpB.of_below hb g none) (.inl rfl)); have n2_ := A0q.mk (bT (by repeat (first | (with_reducible first | exact HB.out | apply bA | apply bdN | apply bd1 | refine bS ?_ (I66.ge HI0.out)) | exact HB.out)) hb); clear HI0; clear HK; clear HB; have HI0 := n0_; have HK := n1_; have HB := n2_; clear n0_ n1_ n2_; (try clear hb); (try clear hb2); (try clear hk); (try clear hi)))
     go_ret
     exact ⟨by first | rfl | (simp [eWn, eWs] <;> rfl) | (simp [*, eWn, eWs] <;> rfl), by repeat (first | (with_reducible first | exact HI0.out | apply I66.alloc | apply I66.drewN | apply I66.drew | apply I66.set_0 | apply I66.set_1) | exact HI0.out), by repeat (first | (with_reducible first | exact HB.out | apply bA | apply bdN | apply bd1 | refine bS ?_ (I66.ge HI0.out)) | exact HB.out), by repeat (first | (with_reducible first | exact HK.out | apply KpB.set_ | apply kdN | apply kD | apply kA) | exact HK.out)⟩
    ·
     rw [if_neg c22] at H
     exact absurd H (by simp)
   ·
    rw [if_neg c21] at H
    exact absurd H (by simp)
  ·
   rw [if_neg c20] at H
   have c20b0 : decide (t119 < 0) = false := decide_eq_false c20
   clear c20
   by_cases c30 : 0 ≤ t119
   ·
    rw [if_pos c30] at H
    have c30b0 := eq_true c30
    have c30b1 : decide (0 ≤ t119) = true := decide_eq_true c30
    clear c30
    by_cases c31 : t119 ≤ (s0_0.size : Int)
    ·
     rw [if_pos c31] at H
     have c31b0 := eq_true c31
     have c31b1 : decide (t119 ≤ (s0_0.size : Int)) = true := decide_eq_true c31
     clear c31
     have c32b0 := eq_true (of_decide_eq_true (by first | (with_reducible assumption) | assumption) : 0 ≤ t119)
     have c33b0 := eq_true (of_decide_eq_true (by first | (with_reducible assumption) | assumption) : t119 ≤ (s0_0.size : Int))
     replace H := Option.bind_eq_some_iff.mp H
     obtain ⟨t121, A340, H⟩ := H
     replace H : (some (t121, s0_0.extract (t119 : Int).toNat s0_0.size, s0_1)) = some (r1, r2, r3) := H
     have A34 := A0q.mk A340
     clear A340
     simp only [Option.some.injEq, Prod.mk.injEq] at H
     obtain ⟨rfl, rfl, rfl⟩ := H
     obtain ⟨HGz35, hgz35⟩ := HI0.out
     have hcz35_0 := cellS66_0 HGz35
     have hcz35_1 := cellS66_1 HGz35
     have hfz35_0 := bkF HGz35 0
     have hfz35_1 := bkF HGz35 1
     clear HGz35 hgz35
     go_enter Tryz.func44, Tryz.ntmps44
     go_wp2_with (first | ((with_reducible refine gC (f := 79) rfl ?_); refine goesL_ (some 12) rfl rfl Tryz.func79 (by kernel_rfl) rfl #[.string s0_0, .string (⟨#[34]⟩ : ByteArray)] rfl (by (try simp only [List.map_toArray, List.map_cons, List.map_nil]); first | done | rfl | (simp only [List.length_drop, List.length_take]; rfl)) ?_; (with_reducible refine (strings_HasPrefix.calls s0_0 (⟨#[34]⟩ : ByteArray) false _ A2.out).mono ?_); rintro e w' ⟨rfl, ⟨nd, rfl⟩⟩; refine ⟨_, rfl, ?_⟩) | ((with_reducible refine gC (f := 76) rfl ?_); refine goesL_ (some 37) rfl rfl Tryz.func76 (by kernel_rfl) rfl #[.string s0_0, .string (⟨#[44, 59, 58, 34]⟩ : ByteArray)] rfl (by (try simp only [List.map_toArray, List.map_cons, List.map_nil]); first | done | rfl | (simp only [List.length_drop, List.length_take]; rfl)) ?_; (with_reducible refine (strings_IndexAny.calls s0_0 (⟨#[44, 59, 58, 34]⟩ : ByteArray) t119 _ A19.out).mono ?_); rintro e w36 ⟨rfl, hb⟩; refine ⟨_, rfl, ?_⟩; have n0_ := A0q.mk (I66.below (by repeat (first | (with_reducible first | exact HI0.out | apply I66.alloc | apply I66.drewN | apply I66.drew | apply I66.set_0 | apply I66.set_1) | exact HI0.out)) hb); have n1_ := A0q.mk (KpB.trans (by repeat (first | (with_reducible first | exact HK.out | apply KpB.set_ | apply kdN | apply kD | apply kA) | exact HK.out)) (KpB.of_below hb g none) (.inl rfl)); have n2_ := A0q.mk (bT (by repeat (first | (with_reducible first | exact HB.out | apply bA | apply bdN | apply bd1 | refine bS ?_ (I66.ge HI0.out)) | exact HB.out)) hb); clear HI0; clear HK; clear HB; have HI0 := n0_; have HK := n1_; have HB := n2_; clear n0_ n1_ n2_; (try clear hb); (try clear hb2); (try clear hk); (try clear hi); obtain ⟨HGz37, hgz37⟩ := HI0.out; have hcz37_0 := cellS66_0 HGz37; have hcz37_1 := cellS66_1 HGz37; have hfz37_0 := bkF HGz37 0; have hfz37_1 := bkF HGz37 1; clear HGz37 hgz37) | ((with_reducible refine gC (f := 81) rfl ?_); refine goesL_ (some 61) rfl rfl Tryz.func81 (by kernel_rfl) rfl #[.string (s0_0.extract 0 (t119 : Int).toNat)] rfl (by (try simp only [List.map_toArray, List.map_cons, List.map_nil]); first | done | rfl | (simp only [List.length_drop, List.length_take]; rfl)) ?_; (with_reducible refine (line_meant.calls (s0_0.extract 0 (t119 : Int).toNat) t121 _ A34.out).mono ?_); rintro e w38 ⟨rfl, hb⟩; refine ⟨_, rfl, ?_⟩; have n0_ := A0q.mk (I66.below (show I66 w0 (w36.setCell ⟨g, 0, none⟩ (.string (s0_0.extract (t119 : Int).toNat s0_0.size))) g (s0_0.extract (t119 : Int).toNat s0_0.size) s0_1 from by repeat (first | (with_reducible first | exact HI0.out | apply I66.alloc | apply I66.drewN | apply I66.drew | apply I66.set_0 | apply I66.set_1) | exact HI0.out)) hb); have n1_ := A0q.mk (KpB.trans (by repeat (first | (with_reducible first | exact HK.out | apply KpB.set_ | apply kdN | apply kD | apply kA) | exact HK.out)) (KpB.of_below hb g none) (.inl rfl)); have n2_ := A0q.mk (bT (by repeat (first | (with_reducible first | exact HB.out | apply bA | apply bdN | apply bd1 | refine bS ?_ (I66.ge HI0.out)) | exact HB.out)) hb); clear HI0; clear HK; clear HB; have HI0 := n0_; have HK := n1_; have HB := n2_; clear n0_ n1_ n2_; (try clear hb); (try clear hb2); (try clear hk); (try clear hi)))
     go_ret
     exact ⟨by first | rfl | (simp [eWn, eWs] <;> rfl) | (simp [*, eWn, eWs] <;> rfl), by repeat (first | (with_reducible first | exact HI0.out | apply I66.alloc | apply I66.drewN | apply I66.drew | apply I66.set_0 | apply I66.set_1) | exact HI0.out), by repeat (first | (with_reducible first | exact HB.out | apply bA | apply bdN | apply bd1 | refine bS ?_ (I66.ge HI0.out)) | exact HB.out), by repeat (first | (with_reducible first | exact HK.out | apply KpB.set_ | apply kdN | apply kD | apply kA) | exact HK.out)⟩
    ·
     rw [if_neg c31] at H
     exact absurd H (by simp)
   ·
    rw [if_neg c30] at H
    exact absurd H (by simp)
end Go.Proofs.YthabooeapfepnaaGreatDoor.PL
