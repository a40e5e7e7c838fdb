import Derived.Test.YthabooeapfepnaaGreatDoorShelf
import Derived.Test.YthabooeapfepnaaGreatDoorVs
import Derived.Test.YthabooeapfepnaaGreatDoorWWords
import Derived.WalkKit
import Derived.BigQuiet
import Derived.Deep.QuietTactic
namespace Go.Proofs.YthabooeapfepnaaGreatDoor.Given
open Go.RowKit Go.Proofs.YthabooeapfepnaaGreatDoorW.PrintWords Go.Shelf
set_option linter.unusedVariables false
structure TabsW (w : World) : Prop where
  maxLen : ∃ m, w.cell? ⟨5, 0, none⟩ = some (.int .i64 m)
  utf8 : Lib.Utf8Tabs 0 1 w
theorem control_any (x : Int) (w : World) :
    Calls Tryz.prog 75 #[.int .i32 x] w fun e w' => e = .returned (.bool (decide (x < 32) && (x != 9) && (x != 10) && (x != 13) || (x == 127))) ∧ w' = w := by
  by_cases c2 : x < 32
  · have c2b : decide (x < 32) = true := decide_eq_true c2
    by_cases c3 : x = 9
    · subst c3
      go_enter Tryz.func75, Tryz.ntmps75
      go_wp2
      go_ret
      exact ⟨rfl, rfl⟩
    · have c3b : (x == 9) = false := beq_eq_false_iff_ne.mpr c3
      have c3c : (x != 9) = true := bne_iff_ne.mpr c3
      by_cases c4 : x = 10
      · subst c4
        go_enter Tryz.func75, Tryz.ntmps75
        go_wp2
        go_ret
        exact ⟨rfl, rfl⟩
      · have c4b : (x == 10) = false := beq_eq_false_iff_ne.mpr c4
        have c4c : (x != 10) = true := bne_iff_ne.mpr c4
        by_cases c5 : x = 13
        · subst c5
          go_enter Tryz.func75, Tryz.ntmps75
          go_wp2
          go_ret
          exact ⟨rfl, rfl⟩
        · have c5b : (x == 13) = false := beq_eq_false_iff_ne.mpr c5
          have c5c : (x != 13) = true := bne_iff_ne.mpr c5
          rw [c2b, c3c, c4c, c5c]
          go_enter Tryz.func75, Tryz.ntmps75
          go_wp2
          go_ret
          exact ⟨rfl, rfl⟩
  · have c2b : decide (x < 32) = false := decide_eq_false c2
    rw [c2b]
    go_enter Tryz.func75, Tryz.ntmps75
    go_wp2
    go_ret
    exact ⟨by simp, rfl⟩
def ctlR (x : Nat) : Bool := decide ((x : Int) < 32) && ((x : Int) != 9) && ((x : Int) != 10) && ((x : Int) != 13) || ((x : Int) == 127)
theorem control_pred (w : World) : PredAt Tryz.prog 75 #[] encR ctlR w := fun W x _ => by
  refine (control_any (x : Int) W).mono fun e w' ⟨he, hw⟩ => ⟨he, 0, hw⟩
def char_Valid.f (a0 : ByteArray) : Option Bool :=
  if a0.size ≤ 4000000000 then some (Lib.validD a0.data.toList && decide (Lib.idxFunc ctlR true a0 < 0)) else none
set_option maxHeartbeats 1000000 in
theorem valid_walk (s : ByteArray) (V : Bool) (i : Int) (w : World) (cV : Calls Tryz.prog 73 #[.string s] w fun e w' => e = .returned (.bool V) ∧ Below w.heap.size w w')
    (cI : ∀ W, Below w.heap.size w W → Calls Tryz.prog 74 #[.string s, .func (.func 75) #[] #[]] W fun e w' => e = .returned (.int .i64 i) ∧ Below W.heap.size W w') :
    Calls Tryz.prog 40 #[.string s] w fun e w' => e = .returned (.bool (V && decide (i < 0))) ∧ Below w.heap.size w w' := by
  cases V
  · go_enter Tryz.func40, Tryz.ntmps40
    go_wp2_with (go_at_call 73; refine cV.mono ?_; rintro e w1 ⟨rfl, hb⟩)
    go_ret
    exact ⟨rfl, hb⟩
  · go_enter Tryz.func40, Tryz.ntmps40
    go_wp2_with fail
    refine cV.mono ?_
    rintro e w1 ⟨rfl, hb⟩
    have cI1 := cI w1 hb
    go_wp2_with fail
    refine cI1.mono ?_
    rintro e w2 ⟨rfl, hb2⟩
    go_wp2
    go_ret
    exact ⟨rfl, below_then hb hb.size hb2⟩
theorem char_Valid.calls (a0 : ByteArray) (r : Bool) (w : World) (hT : TabsW w) (h : char_Valid.f a0 = some r) :
    Calls Tryz.prog 40 #[.string a0] w fun e w' => e = .returned (.bool r) ∧ Below w.heap.size w w' := by
  unfold char_Valid.f at h
  split at h
  · rename_i hs
    obtain rfl := Option.some.inj h
    refine valid_walk a0 _ _ w (Tryz.utf8_ValidString a0 w (by omega) hT.utf8) (fun W hb => ?_)
    exact Tryz.strings_IndexFunc 75 #[] (fun args w => enters_of Tryz.func75 (by kernel_rfl) rfl args w) ctlR a0 W (control_pred W)
  · cases h
end Go.Proofs.YthabooeapfepnaaGreatDoor.Given
