import Derived.Test.YthabooeapfepnaaGreatDoorPLx0
import Derived.Test.YthabooeapfepnaaGreatDoorPLx8
import Derived.Test.YthabooeapfepnaaGreatDoorPLx9
namespace Go.Proofs.YthabooeapfepnaaGreatDoor.PL
open Go.RowKit Go.Proofs.YthabooeapfepnaaGreatDoor.Given Go.Proofs.YthabooeapfepnaaGreatDoorW.PrintWords Go.Proofs.YthabooeapfepnaaGreatDoorW.PrintLast Go.Proofs.YthabooeapfepnaaGreatDoorW.PrintMore
attribute [local go_sem] max2_int min2_int max_two min_two max_three min_three max_four min_four   -- for this text's walks alone
set_option linter.unusedVariables false
set_option linter.unusedSimpArgs false
def I79 (w0 W : World) (g : Nat) (f0 : ByteArray) (f1 : Int) (f2 : Int) : Prop := W.heap[g]? = some (.cells #[.string f0, .int .i64 f1, .int .i64 f2] 79 (0, 0)) ∧ w0.heap.size ≤ g
theorem I79.grown {w0 W : World} {g : Nat} {f0 : ByteArray} {f1 : Int} {f2 : Int} {W1 : World} {row : Option Nat} (h : I79 w0 W g f0 f1 f2) (hw : W.grownBy W1 row) (hne : some g ≠ row) : I79 w0 W1 g f0 f1 f2 := by
 obtain ⟨hb, hg⟩ := h
 exact ⟨blk_grown hb hw hne, hg⟩
theorem I79.kept {w0 W : World} {g : Nat} {f0 : ByteArray} {f1 : Int} {f2 : Int} {W1 : World} {S : Nat → Prop} (h : I79 w0 W g f0 f1 f2) (hk : Kept W W1 S) (hne : ¬ S g) : I79 w0 W1 g f0 f1 f2 := by
 obtain ⟨hb, hg⟩ := h
 exact ⟨blk_kept hb hk hne, hg⟩
theorem I79.below {w0 W : World} {g : Nat} {f0 : ByteArray} {f1 : Int} {f2 : Int} {W1 : World} (h : I79 w0 W g f0 f1 f2) (hw : Below W.heap.size W W1) : I79 w0 W1 g f0 f1 f2 := h.grown (grown_of_below hw none) (by simp)
theorem I79.alloc {w0 W : World} {g : Nat} {f0 : ByteArray} {f1 : Int} {f2 : Int} (h : I79 w0 W g f0 f1 f2) (o : Obj) : I79 w0 (W.alloc o) g f0 f1 f2 := h.below (bA (Below.refl _ _) o)
theorem I79.drewN {w0 W : World} {g : Nat} {f0 : ByteArray} {f1 : Int} {f2 : Int} (h : I79 w0 W g f0 f1 f2) (m : Nat) : I79 w0 (W.drewN m) g f0 f1 f2 := h
theorem I79.drew {w0 W : World} {g : Nat} {f0 : ByteArray} {f1 : Int} {f2 : Int} (h : I79 w0 W g f0 f1 f2) : I79 w0 W.drew g f0 f1 f2 := h
theorem I79.at_ {w0 W : World} {g : Nat} {f0 : ByteArray} {f1 : Int} {f2 : Int} {w' : World} {m : Nat} (hq : W.drewN m = w') (h : I79 w0 W g f0 f1 f2) : I79 w0 w' g f0 f1 f2 := by subst hq; exact I79.drewN h m
theorem I79.apart {w0 W : World} {g : Nat} {f0 : ByteArray} {f1 : Int} {f2 : Int} {α : Type} {d : Kd α} {e : Nat} {base : Nat} {ok : Nat → Prop} {v : Value} {xs : List α} (h : I79 w0 W g f0 f1 f2) (ho : d.R e W base ok v xs) (ht : ∀ q, q ∈ e :: d.E → q ≠ 79) : d.R e W base (fun k => ok k ∧ k ≠ g) v xs := by
 obtain ⟨hb, hg⟩ := h
 exact Kd.R_types ho hb ht
theorem I79.own_ne {w0 W : World} {g : Nat} {f0 : ByteArray} {f1 : Int} {f2 : Int} {α : Type} {d : Kd α} {e : Nat} {base : Nat} {ok : Nat → Prop} {v : Value} {xs : List α} (h : I79 w0 W g f0 f1 f2) (ho : d.R e W base ok v xs) (ht : e ≠ 79) : some g ≠ v.ownBlock := by
 obtain ⟨hb, hg⟩ := h
 exact Kd.R_ne ho hb ht
theorem I79.apartS {w0 W : World} {g : Nat} {f0 : ByteArray} {f1 : Int} {f2 : Int} {α : Type} {d : Kd α} {e : Nat} {base : Nat} {ok : Nat → Prop} {v : Value} {xs : List α} (h : I79 w0 W g f0 f1 f2) (ho : d.S e W base ok v xs) (ht : ∀ q, q ∈ e :: d.E → q ≠ 79) : d.S e W base (fun k => ok k ∧ k ≠ g) v xs := by
 obtain ⟨hb, hg⟩ := h
 exact Kd.S_types ho hb ht
theorem I79.own_neS {w0 W : World} {g : Nat} {f0 : ByteArray} {f1 : Int} {f2 : Int} {α : Type} {d : Kd α} {e : Nat} {base : Nat} {ok : Nat → Prop} {v : Value} {xs : List α} (h : I79 w0 W g f0 f1 f2) (ho : d.S e W base ok v xs) (ht : e ≠ 79) : some g ≠ v.ownBlock := by
 obtain ⟨hb, hg⟩ := h
 exact Kd.S_ne ho hb ht
theorem I79.lt {w0 W : World} {g : Nat} {f0 : ByteArray} {f1 : Int} {f2 : Int} (h : I79 w0 W g f0 f1 f2) : g < W.heap.size := by
 obtain ⟨hb, hg⟩ := h
 exact bkL hb
theorem I79.ge {w0 W : World} {g : Nat} {f0 : ByteArray} {f1 : Int} {f2 : Int} (h : I79 w0 W g f0 f1 f2) : w0.heap.size ≤ g := by
 obtain ⟨hb, hg⟩ := h
 exact hg
theorem I79.far {w0 W : World} {g : Nat} {f0 : ByteArray} {f1 : Int} {f2 : Int} {p : Addr} (h : I79 w0 W g f0 f1 f2) (hne : g ≠ p.block) (u : Value) : I79 w0 (W.setCell p u) g f0 f1 f2 := by
 obtain ⟨hb, hg⟩ := h
 exact ⟨bkR hb hne u, hg⟩
theorem cellS79_0 {W : World} {g : Nat} {f0 : ByteArray} {f1 : Int} {f2 : Int} (h : W.heap[g]? = some (.cells #[.string f0, .int .i64 f1, .int .i64 f2] 79 (0, 0))) : W.cell? ⟨g, 0, none⟩ = some (.string f0) := (bkC h 0).trans rfl
theorem I79.set_0 {w0 W : World} {g : Nat} {f0 : ByteArray} {f1 : Int} {f2 : Int} (h : I79 w0 W g f0 f1 f2) (x : ByteArray) : I79 w0 (W.setCell ⟨g, 0, none⟩ (.string x)) g x f1 f2 := by
 obtain ⟨hb, hg⟩ := h
 exact ⟨by simpa using blk_set hb 0 (.string x), hg⟩
theorem cellS79_1 {W : World} {g : Nat} {f0 : ByteArray} {f1 : Int} {f2 : Int} (h : W.heap[g]? = some (.cells #[.string f0, .int .i64 f1, .int .i64 f2] 79 (0, 0))) : W.cell? ⟨g, 1, none⟩ = some (.int .i64 f1) := (bkC h 1).trans rfl
theorem I79.set_1 {w0 W : World} {g : Nat} {f0 : ByteArray} {f1 : Int} {f2 : Int} (h : I79 w0 W g f0 f1 f2) (x : Int) : I79 w0 (W.setCell ⟨g, 1, none⟩ (.int .i64 x)) g f0 x f2 := by
 obtain ⟨hb, hg⟩ := h
 exact ⟨by simpa using blk_set hb 1 (.int .i64 x), hg⟩
theorem cellS79_2 {W : World} {g : Nat} {f0 : ByteArray} {f1 : Int} {f2 : Int} (h : W.heap[g]? = some (.cells #[.string f0, .int .i64 f1, .int .i64 f2] 79 (0, 0))) : W.cell? ⟨g, 2, none⟩ = some (.int .i64 f2) := (bkC h 2).trans rfl
theorem I79.set_2 {w0 W : World} {g : Nat} {f0 : ByteArray} {f1 : Int} {f2 : Int} (h : I79 w0 W g f0 f1 f2) (x : Int) : I79 w0 (W.setCell ⟨g, 2, none⟩ (.int .i64 x)) g f0 f1 x := by
 obtain ⟨hb, hg⟩ := h
 exact ⟨by simpa using blk_set hb 2 (.int .i64 x), hg⟩
def rSn.l0 : Nat → Int → ByteArray → Int → Int → Option (ByteArray × ByteArray × Int × Int)
 | 0, _, _, _, _ => none
 | k + 1, x3, x1000, x1001, x1002 => if x1001 < (x1000.size : Int) then (if 0 ≤ x1001 then ((rIn.f (bt x1000 x1001)).bind fun t274 => (if t274 = true then (rSn.l0 k x3 x1000 (wrap64 (x1001 + 1)) x1002) else (if x1002 = 0 then (if (wrap64 (x1001 - x3)) < 1 then (if 0 ≤ x3 then (if x3 ≤ x1001 then (if x1001 ≤ (x1000.size : Int) then (some (x1000.extract (x3 : Int).toNat (x1001 : Int).toNat, x1000, x1001, 30)) else (none)) else (none)) else (none)) else (if (wrap64 (x1001 - x3)) > 64 then (if 0 ≤ x3 then (if x3 ≤ x1001 then (if x1001 ≤ (x1000.size : Int) then (some (x1000.extract (x3 : Int).toNat (x1001 : Int).toNat, x1000, x1001, 30)) else (none)) else (none)) else (none)) else (if 0 ≤ x3 then (if x3 ≤ x1001 then (if x1001 ≤ (x1000.size : Int) then (some (x1000.extract (x3 : Int).toNat (x1001 : Int).toNat, x1000, x1001, x1002)) else (none)) else (none)) else (none)))) else (if 0 ≤ x3 then (if x3 ≤ x1001 then (if x1001 ≤ (x1000.size : Int) then (some (x1000.extract (x3 : Int).toNat (x1001 : Int).toNat, x1000, x1001, x1002)) else (none)) else (none)) else (none))))) else (none)) else (if x1002 = 0 then (if (wrap64 (x1001 - x3)) < 1 then (if 0 ≤ x3 then (if x3 ≤ x1001 then (if x1001 ≤ (x1000.size : Int) then (some (x1000.extract (x3 : Int).toNat (x1001 : Int).toNat, x1000, x1001, 30)) else (none)) else (none)) else (none)) else (if (wrap64 (x1001 - x3)) > 64 then (if 0 ≤ x3 then (if x3 ≤ x1001 then (if x1001 ≤ (x1000.size : Int) then (some (x1000.extract (x3 : Int).toNat (x1001 : Int).toNat, x1000, x1001, 30)) else (none)) else (none)) else (none)) else (if 0 ≤ x3 then (if x3 ≤ x1001 then (if x1001 ≤ (x1000.size : Int) then (some (x1000.extract (x3 : Int).toNat (x1001 : Int).toNat, x1000, x1001, x1002)) else (none)) else (none)) else (none)))) else (if 0 ≤ x3 then (if x3 ≤ x1001 then (if x1001 ≤ (x1000.size : Int) then (some (x1000.extract (x3 : Int).toNat (x1001 : Int).toNat, x1000, x1001, x1002)) else (none)) else (none)) else (none)))
def rSn.f (k : Nat) (s0_0 : ByteArray) (s0_1 : Int) (s0_2 : Int) : Option (ByteArray × ByteArray × Int × Int) := rSn.l0 k s0_1 s0_0 s0_1 s0_2
set_option maxHeartbeats 8000000 in
set_option maxRecDepth 100000 in
theorem rSn.calls (k : Nat) (g : Nat) (s0_0 : ByteArray) (s0_1 : Int) (s0_2 : Int) (r1 : ByteArray) (r2 : ByteArray) (r3 : Int) (r4 : Int) (w0 w : World) (hI : I79 w0 w g s0_0 s0_1 s0_2) (hB : Below w0.heap.size w0 w) (h : rSn.f k s0_0 s0_1 s0_2 = some (r1, r2, r3, r4)) :
  Calls Tryz.prog 56 #[.pointer (some ⟨g, 0, none⟩)] w fun e w' => e = .returned (.string r1) ∧ I79 w0 w' g r2 r3 r4 ∧ Below w0.heap.size w0 w' ∧ KpB w w' g none := by
 have HI0 := A0q.mk hI
 have HK := A0q.mk (KpB.refl w g none)
 have HL := A0q.mk hB.size
 clear hI
 have HW0 := A0q.mk hB.size
 have HB := A0q.mk hB
 clear hB
 have H : (rSn.l0 k s0_1 s0_0 s0_1 s0_2) = some (r1, r2, r3, r4) := h
 clear h
 have H' := A0q.mk H
 clear H
 obtain ⟨HGz2, hgz2⟩ := HI0.out
 have hcz2_0 := cellS79_0 HGz2
 have hcz2_1 := cellS79_1 HGz2
 have hcz2_2 := cellS79_2 HGz2
 have hfz2_0 := bkF HGz2 0
 have hfz2_1 := bkF HGz2 1
 have hfz2_2 := bkF HGz2 2
 clear HGz2 hgz2
 go_enter Tryz.func56, Tryz.ntmps56
 go_wp2
 repeat (go_quiet (fail); try go_wp2)
 go_loopg [] k (fun kq w' => ∃ (x1001_1 : Int), A0q (rSn.l0 kq s0_1 s0_0 x1001_1 s0_2 = some (r1, r2, r3, r4)) ∧ A0q (kq ≤ k) ∧ A0q (I79 w0 w' g s0_0 x1001_1 s0_2) ∧ A0q (KpB w w' g none) ∧ A0q (Below w0.heap.size w0 w'))
 case atStart => exact ⟨(s0_1), H', ⟨Nat.le_refl _⟩, ⟨by repeat (first | (with_reducible first | exact HI0.out | apply I79.alloc | apply I79.drewN | apply I79.drew | apply I79.set_0 | apply I79.set_1 | apply I79.set_2) | exact HI0.out)⟩, ⟨by repeat (first | (with_reducible first | exact HK.out | apply KpB.set_ | apply kdN | apply kD | apply kA) | exact HK.out)⟩, ⟨by repeat (first | (with_reducible first | exact HB.out | apply bA | apply bdN | apply bd1 | refine bS ?_ (I79.ge HI0.out)) | exact HB.out)⟩⟩
 case round =>
  clear H'
  try clear p2
  try clear hcz2_0
  try clear hcz2_1
  try clear hcz2_2
  try clear hfz2_0
  try clear hfz2_1
  try clear hfz2_2
  obtain ⟨x1001_1, HA, HK1, HI0, HK, HB⟩ := hrel
  cases gk with
  | zero => exact absurd HA.out (by simp [rSn.l0])
  | succ k1 =>
   have H := HA.out
   clear HA
   simp only [rSn.l0] at H
   by_cases c3 : x1001_1 < (s0_0.size : Int)
   ·
    rw [if_pos c3] at H
    have c3b0 : decide (x1001_1 < (s0_0.size : Int)) = true := decide_eq_true c3
    clear c3
    by_cases c4 : 0 ≤ x1001_1
    ·
     rw [if_pos c4] at H
     have c4b0 : decide (0 ≤ x1001_1) = true := decide_eq_true c4
     clear c4
     replace H := Option.bind_eq_some_iff.mp H
     obtain ⟨t274, A60, H⟩ := H
     replace H : (if t274 = true then (rSn.l0 k1 s0_1 s0_0 (wrap64 (x1001_1 + 1)) s0_2) else (if s0_2 = 0 then (if (wrap64 (x1001_1 - s0_1)) < 1 then (if 0 ≤ s0_1 then (if s0_1 ≤ x1001_1 then (if x1001_1 ≤ (s0_0.size : Int) then (some (s0_0.extract (s0_1 : Int).toNat (x1001_1 : Int).toNat, s0_0, x1001_1, 30)) else (none)) else (none)) else (none)) else (if (wrap64 (x1001_1 - s0_1)) > 64 then (if 0 ≤ s0_1 then (if s0_1 ≤ x1001_1 then (if x1001_1 ≤ (s0_0.size : Int) then (some (s0_0.extract (s0_1 : Int).toNat (x1001_1 : Int).toNat, s0_0, x1001_1, 30)) else (none)) else (none)) else (none)) else (if 0 ≤ s0_1 then (if s0_1 ≤ x1001_1 then (if x1001_1 ≤ (s0_0.size : Int) then (some (s0_0.extract (s0_1 : Int).toNat (x1001_1 : Int).toNat, s0_0, x1001_1, s0_2)) else (none)) else (none)) else (none)))) else (if 0 ≤ s0_1 then (if s0_1 ≤ x1001_1 then (if x1001_1 ≤ (s0_0.size : Int) then (some (s0_0.extract (s0_1 : Int).toNat (x1001_1 : Int).toNat, s0_0, x1001_1, s0_2)) else (none)) else (none)) else (none)))) = some (r1, r2, r3, r4) := H
     have A6 := A0q.mk A60
     clear A60
     by_cases c7 : t274 = true
     ·
      subst c7
      have H1 : (rSn.l0 k1 s0_1 s0_0 (wrap64 (x1001_1 + 1)) s0_2) = some (r1, r2, r3, r4) := by rw [if_pos rfl] at H; exact H
      clear H
      have H := H1
      clear H1
      have H' := A0q.mk H
      clear H
      obtain ⟨HGz8, hgz8⟩ := HI0.out
      have hcz8_0 := cellS79_0 HGz8
      have hcz8_1 := cellS79_1 HGz8
      have hcz8_2 := cellS79_2 HGz8
      have hfz8_0 := bkF HGz8 0
      have hfz8_1 := bkF HGz8 1
      have hfz8_2 := bkF HGz8 2
      clear HGz8 hgz8
      have p5 : 0 ≤ (x1001_1 : Int) := of_decide_eq_true (by first | (with_reducible assumption) | assumption)
      have q5 : x1001_1 < (s0_0.size : Int) := of_decide_eq_true (by first | (with_reducible assumption) | assumption)
      have hx5 := bt_at s0_0 x1001_1
      replace p5 := eq_true p5
      replace q5 := eq_true q5
      go_wp2_with (first | (go_at_call 48; (with_reducible refine (rIn.calls (bt s0_0 x1001_1) true _ A6.out).mono ?_); rintro e w' ⟨rfl, ⟨nd, rfl⟩⟩; (try first | exact ⟨rfl, _, World.drewN_drewN _ _ _⟩ | exact ⟨rfl, _, Eq.trans (World.drewN_drewN _ _ _) (congrArg (World.drewN _) (Nat.add_assoc _ _ _))⟩)))
      repeat (go_quiet (first | (go_at_call 48; (with_reducible refine (rIn.calls (bt s0_0 x1001_1) true _ A6.out).mono ?_); rintro e w' ⟨rfl, ⟨nd, rfl⟩⟩; (try first | exact ⟨rfl, _, World.drewN_drewN _ _ _⟩ | exact ⟨rfl, _, Eq.trans (World.drewN_drewN _ _ _) (congrArg (World.drewN _) (Nat.add_assoc _ _ _))⟩))); try go_wp2_with (first | (go_at_call 48; (with_reducible refine (rIn.calls (bt s0_0 x1001_1) true _ A6.out).mono ?_); rintro e w' ⟨rfl, ⟨nd, rfl⟩⟩; (try first | exact ⟨rfl, _, World.drewN_drewN _ _ _⟩ | exact ⟨rfl, _, Eq.trans (World.drewN_drewN _ _ _) (congrArg (World.drewN _) (Nat.add_assoc _ _ _))⟩))))
      go_roundg k1
      case measure => have := HK1.out; omega
      case rel => exact ⟨(wrap64 (x1001_1 + 1)), H', ⟨by have := HK1.out; omega⟩, ⟨by repeat (first | (with_reducible first | exact HI0.out | apply I79.alloc | apply I79.drewN | apply I79.drew | apply I79.set_0 | apply I79.set_1 | apply I79.set_2) | exact HI0.out)⟩, ⟨by repeat (first | (with_reducible first | exact HK.out | apply KpB.set_ | apply kdN | apply kD | apply kA) | exact HK.out)⟩, ⟨by repeat (first | (with_reducible first | exact HB.out | apply bA | apply bdN | apply bd1 | refine bS ?_ (I79.ge HI0.out)) | exact HB.out)⟩⟩
     ·
      replace c7 := Bool.eq_false_iff.mpr c7
      subst c7
      have H1 : (if s0_2 = 0 then (if (wrap64 (x1001_1 - s0_1)) < 1 then (if 0 ≤ s0_1 then (if s0_1 ≤ x1001_1 then (if x1001_1 ≤ (s0_0.size : Int) then (some (s0_0.extract (s0_1 : Int).toNat (x1001_1 : Int).toNat, s0_0, x1001_1, 30)) else (none)) else (none)) else (none)) else (if (wrap64 (x1001_1 - s0_1)) > 64 then (if 0 ≤ s0_1 then (if s0_1 ≤ x1001_1 then (if x1001_1 ≤ (s0_0.size : Int) then (some (s0_0.extract (s0_1 : Int).toNat (x1001_1 : Int).toNat, s0_0, x1001_1, 30)) else (none)) else (none)) else (none)) else (if 0 ≤ s0_1 then (if s0_1 ≤ x1001_1 then (if x1001_1 ≤ (s0_0.size : Int) then (some (s0_0.extract (s0_1 : Int).toNat (x1001_1 : Int).toNat, s0_0, x1001_1, s0_2)) else (none)) else (none)) else (none)))) else (if 0 ≤ s0_1 then (if s0_1 ≤ x1001_1 then (if x1001_1 ≤ (s0_0.size : Int) then (some (s0_0.extract (s0_1 : Int).toNat (x1001_1 : Int).toNat, s0_0, x1001_1, s0_2)) else (none)) else (none)) else (none))) = some (r1, r2, r3, r4) := by rw [if_neg (show ¬ (false = true) by decide)] at H; exact H
      clear H
      have H := H1
      clear H1
      by_cases c9 : s0_2 = 0
      ·
       rw [if_pos c9] at H
       have c9b0 : (s0_2 == 0) = true := beq_iff_eq.mpr c9
       have c9b1 : (s0_2 != 0) = false := bne_eq_false_iff_eq.mpr c9
       clear c9
       by_cases c10 : (wrap64 (x1001_1 - s0_1)) < 1
       ·
        rw [if_pos c10] at H
        have c10b0 : decide ((wrap64 (x1001_1 - s0_1)) < 1) = true := decide_eq_true c10
        clear c10
        by_cases c11 : 0 ≤ s0_1
        ·
         rw [if_pos c11] at H
         have c11b0 := eq_true c11
         have c11b1 : decide (0 ≤ s0_1) = true := decide_eq_true c11
         clear c11
         by_cases c12 : s0_1 ≤ x1001_1
         ·
          rw [if_pos c12] at H
          have c12b0 := eq_true c12
          have c12b1 : decide (s0_1 ≤ x1001_1) = true := decide_eq_true c12
          clear c12
          by_cases c13 : x1001_1 ≤ (s0_0.size : Int)
          ·
           rw [if_pos c13] at H
           have c13b0 := eq_true c13
           have c13b1 : decide (x1001_1 ≤ (s0_0.size : Int)) = true := decide_eq_true c13
           clear c13
           simp only [Option.some.injEq, Prod.mk.injEq] at H
           obtain ⟨rfl, rfl, rfl, rfl⟩ := H
           obtain ⟨HGz14, hgz14⟩ := HI0.out
           have hcz14_0 := cellS79_0 HGz14
           have hcz14_1 := cellS79_1 HGz14
           have hcz14_2 := cellS79_2 HGz14
           have hfz14_0 := bkF HGz14 0
           have hfz14_1 := bkF HGz14 1
           have hfz14_2 := bkF HGz14 2
           clear HGz14 hgz14
           have p5 : 0 ≤ (x1001_1 : Int) := of_decide_eq_true (by first | (with_reducible assumption) | assumption)
           have q5 : x1001_1 < (s0_0.size : Int) := of_decide_eq_true (by first | (with_reducible assumption) | assumption)
           have hx5 := bt_at s0_0 x1001_1
           replace p5 := eq_true p5
           replace q5 := eq_true q5
           go_wp2_with (first | (go_at_call 48; (with_reducible refine (rIn.calls (bt s0_0 x1001_1) false _ A6.out).mono ?_); rintro e w' ⟨rfl, ⟨nd, rfl⟩⟩; (try first | exact ⟨rfl, _, World.drewN_drewN _ _ _⟩ | exact ⟨rfl, _, Eq.trans (World.drewN_drewN _ _ _) (congrArg (World.drewN _) (Nat.add_assoc _ _ _))⟩)))
           repeat (go_quiet (first | (go_at_call 48; (with_reducible refine (rIn.calls (bt s0_0 x1001_1) false _ A6.out).mono ?_); rintro e w' ⟨rfl, ⟨nd, rfl⟩⟩; (try first | exact ⟨rfl, _, World.drewN_drewN _ _ _⟩ | exact ⟨rfl, _, Eq.trans (World.drewN_drewN _ _ _) (congrArg (World.drewN _) (Nat.add_assoc _ _ _))⟩))); try go_wp2_with (first | (go_at_call 48; (with_reducible refine (rIn.calls (bt s0_0 x1001_1) false _ A6.out).mono ?_); rintro e w' ⟨rfl, ⟨nd, rfl⟩⟩; (try first | exact ⟨rfl, _, World.drewN_drewN _ _ _⟩ | exact ⟨rfl, _, Eq.trans (World.drewN_drewN _ _ _) (congrArg (World.drewN _) (Nat.add_assoc _ _ _))⟩))))
           go_ret
           exact ⟨by first | rfl | (simp [eWn, eWs] <;> rfl) | (simp [*, eWn, eWs] <;> rfl), by repeat (first | (with_reducible first | exact HI0.out | apply I79.alloc | apply I79.drewN | apply I79.drew | apply I79.set_0 | apply I79.set_1 | apply I79.set_2) | exact HI0.out), by repeat (first | (with_reducible first | exact HB.out | apply bA | apply bdN | apply bd1 | refine bS ?_ (I79.ge HI0.out)) | exact HB.out), by repeat (first | (with_reducible first | exact HK.out | apply KpB.set_ | apply kdN | apply kD | apply kA) | exact HK.out)⟩
          ·
           rw [if_neg c13] at H
           exact absurd H (by simp)
         ·
          rw [if_neg c12] at H
          exact absurd H (by simp)
        ·
         rw [if_neg c11] at H
         exact absurd H (by simp)
       ·
        rw [if_neg c10] at H
        have c10b0 : decide ((wrap64 (x1001_1 - s0_1)) < 1) = false := decide_eq_false c10
        clear c10
        by_cases c15 : (wrap64 (x1001_1 - s0_1)) > 64
        ·
         rw [if_pos c15] at H
         have c15b0 : decide (64 < (wrap64 (x1001_1 - s0_1))) = true := decide_eq_true c15
         clear c15
         by_cases c16 : 0 ≤ s0_1
         ·
          rw [if_pos c16] at H
          have c16b0 := eq_true c16
          have c16b1 : decide (0 ≤ s0_1) = true := decide_eq_true c16
          clear c16
          by_cases c17 : s0_1 ≤ x1001_1
          ·
           rw [if_pos c17] at H
           have c17b0 := eq_true c17
           have c17b1 : decide (s0_1 ≤ x1001_1) = true := decide_eq_true c17
           clear c17
           by_cases c18 : x1001_1 ≤ (s0_0.size : Int)
           ·
            rw [if_pos c18] at H
            have c18b0 := eq_true c18
            have c18b1 : decide (x1001_1 ≤ (s0_0.size : Int)) = true := decide_eq_true c18
            clear c18
            simp only [Option.some.injEq, Prod.mk.injEq] at H
            obtain ⟨rfl, rfl, rfl, rfl⟩ := H
            obtain ⟨HGz19, hgz19⟩ := HI0.out
            have hcz19_0 := cellS79_0 HGz19
            have hcz19_1 := cellS79_1 HGz19
            have hcz19_2 := cellS79_2 HGz19
            have hfz19_0 := bkF HGz19 0
            have hfz19_1 := bkF HGz19 1
            have hfz19_2 := bkF HGz19 2
            clear HGz19 hgz19
            have p5 : 0 ≤ (x1001_1 : Int) := of_decide_eq_true (by first | (with_reducible assumption) | assumption)
            have q5 : x1001_1 < (s0_0.size : Int) := of_decide_eq_true (by first | (with_reducible assumption) | assumption)
            have hx5 := bt_at s0_0 x1001_1
            replace p5 := eq_true p5
            replace q5 := eq_true q5
            go_wp2_with (first | (go_at_call 48; (with_reducible refine (rIn.calls (bt s0_0 x1001_1) false _ A6.out).mono ?_); rintro e w' ⟨rfl, ⟨nd, rfl⟩⟩; (try first | exact ⟨rfl, _, World.drewN_drewN _ _ _⟩ | exact ⟨rfl, _, Eq.trans (World.drewN_drewN _ _ _) (congrArg (World.drewN _) (Nat.add_assoc _ _ _))⟩)))
            repeat (go_quiet (first | (go_at_call 48; (with_reducible refine (rIn.calls (bt s0_0 x1001_1) false _ A6.out).mono ?_); rintro e w' ⟨rfl, ⟨nd, rfl⟩⟩; (try first | exact ⟨rfl, _, World.drewN_drewN _ _ _⟩ | exact ⟨rfl, _, Eq.trans (World.drewN_drewN _ _ _) (congrArg (World.drewN _) (Nat.add_assoc _ _ _))⟩))); try go_wp2_with (first | (go_at_call 48; (with_reducible refine (rIn.calls (bt s0_0 x1001_1) false _ A6.out).mono ?_); rintro e w' ⟨rfl, ⟨nd, rfl⟩⟩; (try first | exact ⟨rfl, _, World.drewN_drewN _ _ _⟩ | exact ⟨rfl, _, Eq.trans (World.drewN_drewN _ _ _) (congrArg (World.drewN _) (Nat.add_assoc _ _ _))⟩))))
            go_ret
            exact ⟨by first | rfl | (simp [eWn, eWs] <;> rfl) | (simp [*, eWn, eWs] <;> rfl), by repeat (first | (with_reducible first | exact HI0.out | apply I79.alloc | apply I79.drewN | apply I79.drew | apply I79.set_0 | apply I79.set_1 | apply I79.set_2) | exact HI0.out), by repeat (first | (with_reducible first | exact HB.out | apply bA | apply bdN | apply bd1 | refine bS ?_ (I79.ge HI0.out)) | exact HB.out), by repeat (first | (with_reducible first | exact HK.out | apply KpB.set_ | apply kdN | apply kD | apply kA) | exact HK.out)⟩
           ·
            rw [if_neg c18] at H
            exact absurd H (by simp)
          ·
           rw [if_neg c17] at H
           exact absurd H (by simp)
         ·
          rw [if_neg c16] at H
          exact absurd H (by simp)
        ·
         rw [if_neg c15] at H
         have c15b0 : decide (64 < (wrap64 (x1001_1 - s0_1))) = false := decide_eq_false c15
         clear c15
         by_cases c20 : 0 ≤ s0_1
         ·
          rw [if_pos c20] at H
          have c20b0 := eq_true c20
          have c20b1 : decide (0 ≤ s0_1) = true := decide_eq_true c20
          clear c20
          by_cases c21 : s0_1 ≤ x1001_1
          ·
           rw [if_pos c21] at H
           have c21b0 := eq_true c21
           have c21b1 : decide (s0_1 ≤ x1001_1) = true := decide_eq_true c21
           clear c21
           by_cases c22 : x1001_1 ≤ (s0_0.size : Int)
           ·
            rw [if_pos c22] at H
            have c22b0 := eq_true c22
            have c22b1 : decide (x1001_1 ≤ (s0_0.size : Int)) = true := decide_eq_true c22
            clear c22
            simp only [Option.some.injEq, Prod.mk.injEq] at H
            obtain ⟨rfl, rfl, rfl, rfl⟩ := H
            obtain ⟨HGz23, hgz23⟩ := HI0.out
            have hcz23_0 := cellS79_0 HGz23
            have hcz23_1 := cellS79_1 HGz23
            have hcz23_2 := cellS79_2 HGz23
            have hfz23_0 := bkF HGz23 0
            have hfz23_1 := bkF HGz23 1
            have hfz23_2 := bkF HGz23 2
            clear HGz23 hgz23
            have p5 : 0 ≤ (x1001_1 : Int) := of_decide_eq_true (by first | (with_reducible assumption) | assumption)
            have q5 : x1001_1 < (s0_0.size : Int) := of_decide_eq_true (by first | (with_reducible assumption) | assumption)
            have hx5 := bt_at s0_0 x1001_1
            replace p5 := eq_true p5
            replace q5 := eq_true q5
            go_wp2_with (first | (go_at_call 48; (with_reducible refine (rIn.calls (bt s0_0 x1001_1) false _ A6.out).mono ?_); rintro e w' ⟨rfl, ⟨nd, rfl⟩⟩; (try first | exact ⟨rfl, _, World.drewN_drewN _ _ _⟩ | exact ⟨rfl, _, Eq.trans (World.drewN_drewN _ _ _) (congrArg (World.drewN _) (Nat.add_assoc _ _ _))⟩)))
            repeat (go_quiet (first | (go_at_call 48; (with_reducible refine (rIn.calls (bt s0_0 x1001_1) false _ A6.out).mono ?_); rintro e w' ⟨rfl, ⟨nd, rfl⟩⟩; (try first | exact ⟨rfl, _, World.drewN_drewN _ _ _⟩ | exact ⟨rfl, _, Eq.trans (World.drewN_drewN _ _ _) (congrArg (World.drewN _) (Nat.add_assoc _ _ _))⟩))); try go_wp2_with (first | (go_at_call 48; (with_reducible refine (rIn.calls (bt s0_0 x1001_1) false _ A6.out).mono ?_); rintro e w' ⟨rfl, ⟨nd, rfl⟩⟩; (try first | exact ⟨rfl, _, World.drewN_drewN _ _ _⟩ | exact ⟨rfl, _, Eq.trans (World.drewN_drewN _ _ _) (congrArg (World.drewN _) (Nat.add_assoc _ _ _))⟩))))
            go_ret
            exact ⟨by first | rfl | (simp [eWn, eWs] <;> rfl) | (simp [*, eWn, eWs] <;> rfl), by repeat (first | (with_reducible first | exact HI0.out | apply I79.alloc | apply I79.drewN | apply I79.drew | apply I79.set_0 | apply I79.set_1 | apply I79.set_2) | exact HI0.out), by repeat (first | (with_reducible first | exact HB.out | apply bA | apply bdN | apply bd1 | refine bS ?_ (I79.ge HI0.out)) | exact HB.out), by repeat (first | (with_reducible first | exact HK.out | apply KpB.set_ | apply kdN | apply kD | apply kA) | exact HK.out)⟩
           ·
            rw [if_neg c22] at H
            exact absurd H (by simp)
          ·
           rw [if_neg c21] at H
           exact absurd H (by simp)
         ·
          rw [if_neg c20] at H
          exact absurd H (by simp)
      ·
       rw [if_neg c9] at H
       have c9b0 : (s0_2 == 0) = false := beq_eq_false_iff_ne.mpr c9
       have c9b1 : (s0_2 != 0) = true := bne_iff_ne.mpr c9
       by_cases c24 : 0 ≤ s0_1
       ·
        rw [if_pos c24] at H
        have c24b0 := eq_true c24
        have c24b1 : decide (0 ≤ s0_1) = true := decide_eq_true c24
        clear c24
        by_cases c25 : s0_1 ≤ x1001_1
        ·
         rw [if_pos c25] at H
         have c25b0 := eq_true c25
         have c25b1 : decide (s0_1 ≤ x1001_1) = true := decide_eq_true c25
         clear c25
         by_cases c26 : x1001_1 ≤ (s0_0.size : Int)
         ·
          rw [if_pos c26] at H
          have c26b0 := eq_true c26
          have c26b1 : decide (x1001_1 ≤ (s0_0.size : Int)) = true := decide_eq_true c26
          clear c26
          simp only [Option.some.injEq, Prod.mk.injEq] at H
          obtain ⟨rfl, rfl, rfl, rfl⟩ := H
          obtain ⟨HGz27, hgz27⟩ := HI0.out
          have hcz27_0 := cellS79_0 HGz27
          have hcz27_1 := cellS79_1 HGz27
          have hcz27_2 := cellS79_2 HGz27
          have hfz27_0 := bkF HGz27 0
          have hfz27_1 := bkF HGz27 1
          have hfz27_2 := bkF HGz27 2
          clear HGz27 hgz27
          have p5 : 0 ≤ (x1001_1 : Int) := of_decide_eq_true (by first | (with_reducible assumption) | assumption)
          have q5 : x1001_1 < (s0_0.size : Int) := of_decide_eq_true (by first | (with_reducible assumption) | assumption)
          have hx5 := bt_at s0_0 x1001_1
          replace p5 := eq_true p5
          replace q5 := eq_true q5
          go_wp2_with (first | (go_at_call 48; (with_reducible refine (rIn.calls (bt s0_0 x1001_1) false _ A6.out).mono ?_); rintro e w' ⟨rfl, ⟨nd, rfl⟩⟩; (try first | exact ⟨rfl, _, World.drewN_drewN _ _ _⟩ | exact ⟨rfl, _, Eq.trans (World.drewN_drewN _ _ _) (congrArg (World.drewN _) (Nat.add_assoc _ _ _))⟩)))
          repeat (go_quiet (first | (go_at_call 48; (with_reducible refine (rIn.calls (bt s0_0 x1001_1) false _ A6.out).mono ?_); rintro e w' ⟨rfl, ⟨nd, rfl⟩⟩; (try first | exact ⟨rfl, _, World.drewN_drewN _ _ _⟩ | exact ⟨rfl, _, Eq.trans (World.drewN_drewN _ _ _) (congrArg (World.drewN _) (Nat.add_assoc _ _ _))⟩))); try go_wp2_with (first | (go_at_call 48; (with_reducible refine (rIn.calls (bt s0_0 x1001_1) false _ A6.out).mono ?_); rintro e w' ⟨rfl, ⟨nd, rfl⟩⟩; (try first | exact ⟨rfl, _, World.drewN_drewN _ _ _⟩ | exact ⟨rfl, _, Eq.trans (World.drewN_drewN _ _ _) (congrArg (World.drewN _) (Nat.add_assoc _ _ _))⟩))))
          go_ret
          exact ⟨by first | rfl | (simp [eWn, eWs] <;> rfl) | (simp [*, eWn, eWs] <;> rfl), by repeat (first | (with_reducible first | exact HI0.out | apply I79.alloc | apply I79.drewN | apply I79.drew | apply I79.set_0 | apply I79.set_1 | apply I79.set_2) | exact HI0.out), by repeat (first | (with_reducible first | exact HB.out | apply bA | apply bdN | apply bd1 | refine bS ?_ (I79.ge HI0.out)) | exact HB.out), by repeat (first | (with_reducible first | exact HK.out | apply KpB.set_ | apply kdN | apply kD | apply kA) | exact HK.out)⟩
         ·
          rw [if_neg c26] at H
          exact absurd H (by simp)
        ·
         rw [if_neg c25] at H
         exact absurd H (by simp)
       ·
        rw [if_neg c24] at H
        exact absurd H (by simp)
    ·
     rw [if_neg c4] at H
     exact absurd H (by simp)
   ·
    rw [if_neg c3] at H
    have c3b0 : decide (x1001_1 < (s0_0.size : Int)) = false := decide_eq_false c3
    clear c3
    by_cases c28 : s0_2 = 0
    ·
     rw [if_pos c28] at H
     have c28b0 : (s0_2 == 0) = true := beq_iff_eq.mpr c28
     have c28b1 : (s0_2 != 0) = false := bne_eq_false_iff_eq.mpr c28
     clear c28
     by_cases c29 : (wrap64 (x1001_1 - s0_1)) < 1
     ·
      rw [if_pos c29] at H
      have c29b0 : decide ((wrap64 (x1001_1 - s0_1)) < 1) = true := decide_eq_true c29
      clear c29
      by_cases c30 : 0 ≤ s0_1
      ·
       rw [if_pos c30] at H
       have c30b0 := eq_true c30
       have c30b1 : decide (0 ≤ s0_1) = true := decide_eq_true c30
       clear c30
       by_cases c31 : s0_1 ≤ x1001_1
       ·
        rw [if_pos c31] at H
        have c31b0 := eq_true c31
        have c31b1 : decide (s0_1 ≤ x1001_1) = true := decide_eq_true c31
        clear c31
        by_cases c32 : x1001_1 ≤ (s0_0.size : Int)
        ·
         rw [if_pos c32] at H
         have c32b0 := eq_true c32
         have c32b1 : decide (x1001_1 ≤ (s0_0.size : Int)) = true := decide_eq_true c32
         clear c32
         simp only [Option.some.injEq, Prod.mk.injEq] at H
         obtain ⟨rfl, rfl, rfl, rfl⟩ := H
         obtain ⟨HGz33, hgz33⟩ := HI0.out
         have hcz33_0 := cellS79_0 HGz33
         have hcz33_1 := cellS79_1 HGz33
         have hcz33_2 := cellS79_2 HGz33
         have hfz33_0 := bkF HGz33 0
         have hfz33_1 := bkF HGz33 1
         have hfz33_2 := bkF HGz33 2
         clear HGz33 hgz33
         go_wp2
         repeat (go_quiet (fail); try go_wp2)
         go_ret
         exact ⟨by first | rfl | (simp [eWn, eWs] <;> rfl) | (simp [*, eWn, eWs] <;> rfl), by repeat (first | (with_reducible first | exact HI0.out | apply I79.alloc | apply I79.drewN | apply I79.drew | apply I79.set_0 | apply I79.set_1 | apply I79.set_2) | exact HI0.out), by repeat (first | (with_reducible first | exact HB.out | apply bA | apply bdN | apply bd1 | refine bS ?_ (I79.ge HI0.out)) | exact HB.out), by repeat (first | (with_reducible first | exact HK.out | apply KpB.set_ | apply kdN | apply kD | apply kA) | exact HK.out)⟩
        ·
         rw [if_neg c32] at H
         exact absurd H (by simp)
       ·
        rw [if_neg c31] at H
        exact absurd H (by simp)
      ·
       rw [if_neg c30] at H
       exact absurd H (by simp)
     ·
      rw [if_neg c29] at H
      have c29b0 : decide ((wrap64 (x1001_1 - s0_1)) < 1) = false := decide_eq_false c29
      clear c29
      by_cases c34 : (wrap64 (x1001_1 - s0_1)) > 64
      ·
       rw [if_pos c34] at H
       have c34b0 : decide (64 < (wrap64 (x1001_1 - s0_1))) = true := decide_eq_true c34
       clear c34
       by_cases c35 : 0 ≤ s0_1
       ·
        rw [if_pos c35] at H
        have c35b0 := eq_true c35
        have c35b1 : decide (0 ≤ s0_1) = true := decide_eq_true c35
        clear c35
        by_cases c36 : s0_1 ≤ x1001_1
        ·
         rw [if_pos c36] at H
         have c36b0 := eq_true c36
         have c36b1 : decide (s0_1 ≤ x1001_1) = true := decide_eq_true c36
         clear c36
         by_cases c37 : x1001_1 ≤ (s0_0.size : Int)
         ·
          rw [if_pos c37] at H
          have c37b0 := eq_true c37
          have c37b1 : decide (x1001_1 ≤ (s0_0.size : Int)) = true := decide_eq_true c37
          clear c37
          simp only [Option.some.injEq, Prod.mk.injEq] at H
          obtain ⟨rfl, rfl, rfl, rfl⟩ := H
          obtain ⟨HGz38, hgz38⟩ := HI0.out
          have hcz38_0 := cellS79_0 HGz38
          have hcz38_1 := cellS79_1 HGz38
          have hcz38_2 := cellS79_2 HGz38
          have hfz38_0 := bkF HGz38 0
          have hfz38_1 := bkF HGz38 1
          have hfz38_2 := bkF HGz38 2
          clear HGz38 hgz38
          go_wp2
          repeat (go_quiet (fail); try go_wp2)
          go_ret
          exact ⟨by first | rfl | (simp [eWn, eWs] <;> rfl) | (simp [*, eWn, eWs] <;> rfl), by repeat (first | (with_reducible first | exact HI0.out | apply I79.alloc | apply I79.drewN | apply I79.drew | apply I79.set_0 | apply I79.set_1 | apply I79.set_2) | exact HI0.out), by repeat (first | (with_reducible first | exact HB.out | apply bA | apply bdN | apply bd1 | refine bS ?_ (I79.ge HI0.out)) | exact HB.out), by repeat (first | (with_reducible first | exact HK.out | apply KpB.set_ | apply kdN | apply kD | apply kA) | exact HK.out)⟩
         ·
          rw [if_neg c37] at H
          exact absurd H (by simp)
        ·
         rw [if_neg c36] at H
         exact absurd H (by simp)
       ·
        rw [if_neg c35] at H
        exact absurd H (by simp)
      ·
       rw [if_neg c34] at H
       have c34b0 : decide (64 < (wrap64 (x1001_1 - s0_1))) = false := decide_eq_false c34
       clear c34
       by_cases c39 : 0 ≤ s0_1
       ·
        rw [if_pos c39] at H
        have c39b0 := eq_true c39
        have c39b1 : decide (0 ≤ s0_1) = true := decide_eq_true c39
        clear c39
        by_cases c40 : s0_1 ≤ x1001_1
        ·
         rw [if_pos c40] at H
         have c40b0 := eq_true c40
         have c40b1 : decide (s0_1 ≤ x1001_1) = true := decide_eq_true c40
         clear c40
         by_cases c41 : x1001_1 ≤ (s0_0.size : Int)
         ·
          rw [if_pos c41] at H
          have c41b0 := eq_true c41
          have c41b1 : decide (x1001_1 ≤ (s0_0.size : Int)) = true := decide_eq_true c41
          clear c41
          simp only [Option.some.injEq, Prod.mk.injEq] at H
          obtain ⟨rfl, rfl, rfl, rfl⟩ := H
          obtain ⟨HGz42, hgz42⟩ := HI0.out
          have hcz42_0 := cellS79_0 HGz42
          have hcz42_1 := cellS79_1 HGz42
          have hcz42_2 := cellS79_2 HGz42
          have hfz42_0 := bkF HGz42 0
          have hfz42_1 := bkF HGz42 1
          have hfz42_2 := bkF HGz42 2
          clear HGz42 hgz42
          go_wp2
          repeat (go_quiet (fail); try go_wp2)
          go_ret
          exact ⟨by first | rfl | (simp [eWn, eWs] <;> rfl) | (simp [*, eWn, eWs] <;> rfl), by repeat (first | (with_reducible first | exact HI0.out | apply I79.alloc | apply I79.drewN | apply I79.drew | apply I79.set_0 | apply I79.set_1 | apply I79.set_2) | exact HI0.out), by repeat (first | (with_reducible first | exact HB.out | apply bA | apply bdN | apply bd1 | refine bS ?_ (I79.ge HI0.out)) | exact HB.out), by repeat (first | (with_reducible first | exact HK.out | apply KpB.set_ | apply kdN | apply kD | apply kA) | exact HK.out)⟩
         ·
          rw [if_neg c41] at H
          exact absurd H (by simp)
        ·
         rw [if_neg c40] at H
         exact absurd H (by simp)
       ·
        rw [if_neg c39] at H
        exact absurd H (by simp)
    ·
     rw [if_neg c28] at H
     have c28b0 : (s0_2 == 0) = false := beq_eq_false_iff_ne.mpr c28
     have c28b1 : (s0_2 != 0) = true := bne_iff_ne.mpr c28
     by_cases c43 : 0 ≤ s0_1
     ·
      rw [if_pos c43] at H
      have c43b0 := eq_true c43
      have c43b1 : decide (0 ≤ s0_1) = true := decide_eq_true c43
      clear c43
      by_cases c44 : s0_1 ≤ x1001_1
      ·
       rw [if_pos c44] at H
       have c44b0 := eq_true c44
       have c44b1 : decide (s0_1 ≤ x1001_1) = true := decide_eq_true c44
       clear c44
       by_cases c45 : x1001_1 ≤ (s0_0.size : Int)
       ·
        rw [if_pos c45] at H
        have c45b0 := eq_true c45
        have c45b1 : decide (x1001_1 ≤ (s0_0.size : Int)) = true := decide_eq_true c45
        clear c45
        simp only [Option.some.injEq, Prod.mk.injEq] at H
        obtain ⟨rfl, rfl, rfl, rfl⟩ := H
        obtain ⟨HGz46, hgz46⟩ := HI0.out
        have hcz46_0 := cellS79_0 HGz46
        have hcz46_1 := cellS79_1 HGz46
        have hcz46_2 := cellS79_2 HGz46
        have hfz46_0 := bkF HGz46 0
        have hfz46_1 := bkF HGz46 1
        have hfz46_2 := bkF HGz46 2
        clear HGz46 hgz46
        go_wp2
        repeat (go_quiet (fail); try go_wp2)
        go_ret
        exact ⟨by first | rfl | (simp [eWn, eWs] <;> rfl) | (simp [*, eWn, eWs] <;> rfl), by repeat (first | (with_reducible first | exact HI0.out | apply I79.alloc | apply I79.drewN | apply I79.drew | apply I79.set_0 | apply I79.set_1 | apply I79.set_2) | exact HI0.out), by repeat (first | (with_reducible first | exact HB.out | apply bA | apply bdN | apply bd1 | refine bS ?_ (I79.ge HI0.out)) | exact HB.out), by repeat (first | (with_reducible first | exact HK.out | apply KpB.set_ | apply kdN | apply kD | apply kA) | exact HK.out)⟩
       ·
        rw [if_neg c45] at H
        exact absurd H (by simp)
      ·
       rw [if_neg c44] at H
       exact absurd H (by simp)
     ·
      rw [if_neg c43] at H
      exact absurd H (by simp)
def rSs.j0 : Nat → Bool → ByteArray → Int → Int → Option (Int × ByteArray × Int × Int)
 | 0, _, _, _, _ => none
 | k + 1, x33, x1000, x1001, x1002 => if x33 = true then (if x1002 = 0 then (some (0, x1000, x1001, 31)) else (some (0, x1000, x1001, x1002))) else (if 0 ≤ (wrap64 ((wrap64 (x1001 + 1)) - 1)) then (if (wrap64 ((wrap64 (x1001 + 1)) - 1)) < (x1000.size : Int) then (some (bt x1000 (wrap64 ((wrap64 (x1001 + 1)) - 1)), x1000, wrap64 (x1001 + 1), x1002)) else (none)) else (none))
def rSs.f (k : Nat) (s0_0 : ByteArray) (s0_1 : Int) (s0_2 : Int) (a1 : ByteArray) : Option (Int × ByteArray × Int × Int) := if s0_1 ≥ (s0_0.size : Int) then (rSs.j0 k true s0_0 s0_1 s0_2) else (if 0 ≤ s0_1 then (if s0_1 ≤ (wrap64 (s0_1 + 1)) then (if (wrap64 (s0_1 + 1)) ≤ (s0_0.size : Int) then ((rHa.f k (s0_0.extract (s0_1 : Int).toNat ((wrap64 (s0_1 + 1)) : Int).toNat) a1).bind fun t275 => (rSs.j0 k (!t275) s0_0 s0_1 s0_2)) else (none)) else (none)) else (none))
set_option maxHeartbeats 8000000 in
set_option maxRecDepth 100000 in
theorem rSs.calls (k : Nat) (g : Nat) (s0_0 : ByteArray) (s0_1 : Int) (s0_2 : Int) (a1 : ByteArray) (r1 : Int) (r2 : ByteArray) (r3 : Int) (r4 : Int) (w0 w : World) (hI : I79 w0 w g s0_0 s0_1 s0_2) (hB : Below w0.heap.size w0 w) (h : rSs.f k s0_0 s0_1 s0_2 a1 = some (r1, r2, r3, r4)) :
  Calls Tryz.prog 57 #[.pointer (some ⟨g, 0, none⟩), .string a1] w fun e w' => e = .returned (.int .u8 r1) ∧ I79 w0 w' g r2 r3 r4 ∧ Below w0.heap.size w0 w' ∧ KpB w w' g none := by
 have HI0 := A0q.mk hI
 have HK := A0q.mk (KpB.refl w g none)
 have HL := A0q.mk hB.size
 clear hI
 have HW0 := A0q.mk hB.size
 have HB := A0q.mk hB
 clear hB
 have H : (if s0_1 ≥ (s0_0.size : Int) then (rSs.j0 k true s0_0 s0_1 s0_2) else (if 0 ≤ s0_1 then (if s0_1 ≤ (wrap64 (s0_1 + 1)) then (if (wrap64 (s0_1 + 1)) ≤ (s0_0.size : Int) then ((rHa.f k (s0_0.extract (s0_1 : Int).toNat ((wrap64 (s0_1 + 1)) : Int).toNat) a1).bind fun t275 => (rSs.j0 k (!t275) s0_0 s0_1 s0_2)) else (none)) else (none)) else (none))) = some (r1, r2, r3, r4) := h
 clear h
 have HC3 := A0q.mk H
 clear H
 go_enter Tryz.func57, Tryz.ntmps57
 go_upto_region 1 with (fail)
 repeat (go_quiet (fail); go_upto_region 1 with (fail))
 go_cut [33] (fun v33 wc => ∃ (kq : Nat) (x33_2 : Bool), v33 = .bool x33_2 ∧ A0q (rSs.j0 kq x33_2 s0_0 s0_1 s0_2 = some (r1, r2, r3, r4)) ∧ A0q (kq ≤ k) ∧ A0q (I79 w0 wc g s0_0 s0_1 s0_2) ∧ A0q (KpB w wc g none) ∧ A0q (Below w0.heap.size w0 wc))
 case first =>
  have H := HC3.out
  clear HC3
  by_cases c4 : s0_1 ≥ (s0_0.size : Int)
  ·
   rw [if_pos c4] at H
   have c4b0 : decide ((s0_0.size : Int) ≤ s0_1) = true := decide_eq_true c4
   clear c4
   (first | rw [c4b0] | (simp only [i64_w, i32_w]; rw [c4b0]) | rw [c4b1] | skip)
   have H' := A0q.mk H
   clear H
   obtain ⟨HGz5, hgz5⟩ := HI0.out
   have hcz5_0 := cellS79_0 HGz5
   have hcz5_1 := cellS79_1 HGz5
   have hcz5_2 := cellS79_2 HGz5
   have hfz5_0 := bkF HGz5 0
   have hfz5_1 := bkF HGz5 1
   have hfz5_2 := bkF HGz5 2
   clear HGz5 hgz5
   go_wp2
   repeat (go_quiet (fail); try go_wp2)
   go_meet
   case rel => exact ⟨_, (true), (by first | rfl | (simp; done) | (simp [*]; done)), H', ⟨by first | omega | exact Nat.le_refl _⟩, ⟨by repeat (first | (with_reducible first | exact HI0.out | apply I79.alloc | apply I79.drewN | apply I79.drew | apply I79.set_0 | apply I79.set_1 | apply I79.set_2) | exact HI0.out)⟩, ⟨by repeat (first | (with_reducible first | exact HK.out | apply KpB.set_ | apply kdN | apply kD | apply kA) | exact HK.out)⟩, ⟨by repeat (first | (with_reducible first | exact HB.out | apply bA | apply bdN | apply bd1 | refine bS ?_ (I79.ge HI0.out)) | exact HB.out)⟩⟩
  ·
   rw [if_neg c4] at H
   have c4b0 : decide ((s0_0.size : Int) ≤ s0_1) = false := decide_eq_false c4
   clear c4
   (first | rw [c4b0] | (simp only [i64_w, i32_w]; rw [c4b0]) | rw [c4b1] | skip)
   by_cases c6 : 0 ≤ s0_1
   ·
    rw [if_pos c6] at H
    have c6b0 := eq_true c6
    have c6b1 : decide (0 ≤ s0_1) = true := decide_eq_true c6
    clear c6
    by_cases c7 : s0_1 ≤ (wrap64 (s0_1 + 1))
    ·
     rw [if_pos c7] at H
     have c7b0 := eq_true c7
     have c7b1 : decide (s0_1 ≤ (wrap64 (s0_1 + 1))) = true := decide_eq_true c7
     by_cases c8 : (wrap64 (s0_1 + 1)) ≤ (s0_0.size : Int)
     ·
      rw [if_pos c8] at H
      have c8b0 := eq_true c8
      have c8b1 : decide ((wrap64 (s0_1 + 1)) ≤ (s0_0.size : Int)) = true := decide_eq_true c8
      replace H := Option.bind_eq_some_iff.mp H
      obtain ⟨t275, A90, H⟩ := H
      replace H : (rSs.j0 k (!t275) s0_0 s0_1 s0_2) = some (r1, r2, r3, r4) := H
      have A9 := A0q.mk A90
      clear A90
      have H' := A0q.mk H
      clear H
      obtain ⟨HGz10, hgz10⟩ := HI0.out
      have hcz10_0 := cellS79_0 HGz10
      have hcz10_1 := cellS79_1 HGz10
      have hcz10_2 := cellS79_2 HGz10
      have hfz10_0 := bkF HGz10 0
      have hfz10_1 := bkF HGz10 1
      have hfz10_2 := bkF HGz10 2
      clear HGz10 hgz10
      go_wp2_with (first | (go_at_call 55; (with_reducible refine (rHa.calls k (s0_0.extract (s0_1 : Int).toNat ((wrap64 (s0_1 + 1)) : Int).toNat) a1 t275 _ A9.out).mono ?_); rintro e w' ⟨rfl, ⟨nd, rfl⟩⟩; (try first | exact ⟨rfl, _, World.drewN_drewN _ _ _⟩ | exact ⟨rfl, _, Eq.trans (World.drewN_drewN _ _ _) (congrArg (World.drewN _) (Nat.add_assoc _ _ _))⟩)))
      repeat (go_quiet (first | (go_at_call 55; (with_reducible refine (rHa.calls k (s0_0.extract (s0_1 : Int).toNat ((wrap64 (s0_1 + 1)) : Int).toNat) a1 t275 _ A9.out).mono ?_); rintro e w' ⟨rfl, ⟨nd, rfl⟩⟩; (try first | exact ⟨rfl, _, World.drewN_drewN _ _ _⟩ | exact ⟨rfl, _, Eq.trans (World.drewN_drewN _ _ _) (congrArg (World.drewN _) (Nat.add_assoc _ _ _))⟩))); try go_wp2_with (first | (go_at_call 55; (with_reducible refine (rHa.calls k (s0_0.extract (s0_1 : Int).toNat ((wrap64 (s0_1 + 1)) : Int).toNat) a1 t275 _ A9.out).mono ?_); rintro e w' ⟨rfl, ⟨nd, rfl⟩⟩; (try first | exact ⟨rfl, _, World.drewN_drewN _ _ _⟩ | exact ⟨rfl, _, Eq.trans (World.drewN_drewN _ _ _) (congrArg (World.drewN _) (Nat.add_assoc _ _ _))⟩))))
      go_meet
      case rel => exact ⟨_, (!t275), (by first | rfl | (simp; done) | (simp [*]; done)), H', ⟨by first | omega | exact Nat.le_refl _⟩, ⟨by repeat (first | (with_reducible first | exact HI0.out | apply I79.alloc | apply I79.drewN | apply I79.drew | apply I79.set_0 | apply I79.set_1 | apply I79.set_2) | exact HI0.out)⟩, ⟨by repeat (first | (with_reducible first | exact HK.out | apply KpB.set_ | apply kdN | apply kD | apply kA) | exact HK.out)⟩, ⟨by repeat (first | (with_reducible first | exact HB.out | apply bA | apply bdN | apply bd1 | refine bS ?_ (I79.ge HI0.out)) | exact HB.out)⟩⟩
     ·
      rw [if_neg c8] at H
      exact absurd H (by simp)
    ·
     rw [if_neg c7] at H
     exact absurd H (by simp)
   ·
    rw [if_neg c6] at H
    exact absurd H (by simp)
 case rest =>
  clear HC3
  try clear p2
  try clear c4
  try clear c4b0
  try clear c4b1
  try clear c5
  try clear c6
  try clear c6b0
  try clear c6b1
  try clear p6
  try clear c7
  try clear c7b0
  try clear c7b1
  try clear c8
  try clear c8b0
  try clear c8b1
  try clear hcz10_0
  try clear hcz10_1
  try clear hcz10_2
  try clear hcz5_0
  try clear hcz5_1
  try clear hcz5_2
  try clear hfz10_0
  try clear hfz10_1
  try clear hfz10_2
  try clear hfz5_0
  try clear hfz5_1
  try clear hfz5_2
  obtain ⟨kq, x33_2, rfl, HA, HJ2, HI0, HK, HB⟩ := hcut
  cases kq with
  | zero => exact absurd HA.out (by simp [rSs.j0])
  | succ kj2 =>
   have H := HA.out
   clear HA
   simp only [rSs.j0] at H
   by_cases c11 : x33_2 = true
   ·
    subst c11
    have H1 : (if s0_2 = 0 then (some (0, s0_0, s0_1, 31)) else (some (0, s0_0, s0_1, s0_2))) = some (r1, r2, r3, r4) := by rw [if_pos rfl] at H; exact H
    clear H
    have H := H1
    clear H1
    by_cases c12 : s0_2 = 0
    ·
     rw [if_pos c12] at H
     have c12b0 : (s0_2 == 0) = true := beq_iff_eq.mpr c12
     have c12b1 : (s0_2 != 0) = false := bne_eq_false_iff_eq.mpr c12
     clear c12
     simp only [Option.some.injEq, Prod.mk.injEq] at H
     obtain ⟨rfl, rfl, rfl, rfl⟩ := H
     obtain ⟨HGz13, hgz13⟩ := HI0.out
     have hcz13_0 := cellS79_0 HGz13
     have hcz13_1 := cellS79_1 HGz13
     have hcz13_2 := cellS79_2 HGz13
     have hfz13_0 := bkF HGz13 0
     have hfz13_1 := bkF HGz13 1
     have hfz13_2 := bkF HGz13 2
     clear HGz13 hgz13
     go_wp2
     repeat (go_quiet (fail); try go_wp2)
     go_ret
     exact ⟨by first | rfl | (simp [eWn, eWs] <;> rfl) | (simp [*, eWn, eWs] <;> rfl), by repeat (first | (with_reducible first | exact HI0.out | apply I79.alloc | apply I79.drewN | apply I79.drew | apply I79.set_0 | apply I79.set_1 | apply I79.set_2) | exact HI0.out), by repeat (first | (with_reducible first | exact HB.out | apply bA | apply bdN | apply bd1 | refine bS ?_ (I79.ge HI0.out)) | exact HB.out), by repeat (first | (with_reducible first | exact HK.out | apply KpB.set_ | apply kdN | apply kD | apply kA) | exact HK.out)⟩
    ·
     rw [if_neg c12] at H
     have c12b0 : (s0_2 == 0) = false := beq_eq_false_iff_ne.mpr c12
     have c12b1 : (s0_2 != 0) = true := bne_iff_ne.mpr c12
     simp only [Option.some.injEq, Prod.mk.injEq] at H
     obtain ⟨rfl, rfl, rfl, rfl⟩ := H
     obtain ⟨HGz14, hgz14⟩ := HI0.out
     have hcz14_0 := cellS79_0 HGz14
     have hcz14_1 := cellS79_1 HGz14
     have hcz14_2 := cellS79_2 HGz14
     have hfz14_0 := bkF HGz14 0
     have hfz14_1 := bkF HGz14 1
     have hfz14_2 := bkF HGz14 2
     clear HGz14 hgz14
     go_wp2
     repeat (go_quiet (fail); try go_wp2)
     go_ret
     exact ⟨by first | rfl | (simp [eWn, eWs] <;> rfl) | (simp [*, eWn, eWs] <;> rfl), by repeat (first | (with_reducible first | exact HI0.out | apply I79.alloc | apply I79.drewN | apply I79.drew | apply I79.set_0 | apply I79.set_1 | apply I79.set_2) | exact HI0.out), by repeat (first | (with_reducible first | exact HB.out | apply bA | apply bdN | apply bd1 | refine bS ?_ (I79.ge HI0.out)) | exact HB.out), by repeat (first | (with_reducible first | exact HK.out | apply KpB.set_ | apply kdN | apply kD | apply kA) | exact HK.out)⟩
   ·
    replace c11 := Bool.eq_false_iff.mpr c11
    subst c11
    have H1 : (if 0 ≤ (wrap64 ((wrap64 (s0_1 + 1)) - 1)) then (if (wrap64 ((wrap64 (s0_1 + 1)) - 1)) < (s0_0.size : Int) then (some (bt s0_0 (wrap64 ((wrap64 (s0_1 + 1)) - 1)), s0_0, wrap64 (s0_1 + 1), s0_2)) else (none)) else (none)) = some (r1, r2, r3, r4) := by rw [if_neg (show ¬ (false = true) by decide)] at H; exact H
    clear H
    have H := H1
    clear H1
    obtain ⟨ji15, hji15⟩ : ∃ j_ : Int, (wrap64 ((wrap64 (s0_1 + 1)) - 1)) = j_ := ⟨_, rfl⟩
    replace H : (if 0 ≤ (ji15) then (if (ji15) < (s0_0.size : Int) then (some (bt s0_0 (ji15), s0_0, wrap64 (s0_1 + 1), s0_2)) else (none)) else (none)) = some (r1, r2, r3, r4) := by first | (rw [hji15] at H; exact H) | (simp only [hji15] at H ⊢; exact H)
    have hji15w : (IntKind.i64.wrap ((wrap64 (s0_1 + 1)) - 1)) = ji15 := (i64_w _).trans hji15
    by_cases c16 : 0 ≤ (ji15)
    ·
     rw [if_pos c16] at H
     have c16b0 : decide (0 ≤ (ji15)) = true := decide_eq_true c16
     clear c16
     by_cases c17 : (ji15) < (s0_0.size : Int)
     ·
      rw [if_pos c17] at H
      have c17b0 : decide ((ji15) < (s0_0.size : Int)) = true := decide_eq_true c17
      clear c17
      simp only [Option.some.injEq, Prod.mk.injEq] at H
      obtain ⟨rfl, rfl, rfl, rfl⟩ := H
      obtain ⟨HGz19, hgz19⟩ := HI0.out
      have hcz19_0 := cellS79_0 HGz19
      have hcz19_1 := cellS79_1 HGz19
      have hcz19_2 := cellS79_2 HGz19
      have hfz19_0 := bkF HGz19 0
      have hfz19_1 := bkF HGz19 1
      have hfz19_2 := bkF HGz19 2
      clear HGz19 hgz19
      have p18 : 0 ≤ ((ji15) : Int) := of_decide_eq_true (by first | (with_reducible assumption) | assumption)
      have q18 : (ji15) < (s0_0.size : Int) := of_decide_eq_true (by first | (with_reducible assumption) | assumption)
      have hx18 := bt_at s0_0 (ji15)
      replace p18 := eq_true p18
      replace q18 := eq_true q18
      go_wp2
      repeat (go_quiet (fail); try go_wp2)
      go_ret
      exact ⟨by first | rfl | (simp [eWn, eWs] <;> rfl) | (simp only [← hji15]; first | rfl | (simp [eWn, eWs] <;> rfl)) | (simp [*, eWn, eWs] <;> rfl), by repeat (first | (with_reducible first | exact HI0.out | apply I79.alloc | apply I79.drewN | apply I79.drew | apply I79.set_0 | apply I79.set_1 | apply I79.set_2) | exact HI0.out), by repeat (first | (with_reducible first | exact HB.out | apply bA | apply bdN | apply bd1 | refine bS ?_ (I79.ge HI0.out)) | exact HB.out), by repeat (first | (with_reducible first | exact HK.out | apply KpB.set_ | apply kdN | apply kD | apply kA) | exact HK.out)⟩
     ·
      rw [if_neg c17] at H
      exact absurd H (by simp)
    ·
     rw [if_neg c16] at H
     exact absurd H (by simp)
end Go.Proofs.YthabooeapfepnaaGreatDoor.PL
