/-
  For every two strings v and w: the statement LineQuotes of the layer 'line' answers true and leaves its arguments as they were: a parameter's value without signs means the same bare and between quotes, and signs between quotes part nothing.
  Conditions: the arguments hold together at most 1048576 values and letters (the seat's second form, 'Upto'); the listed tables of unicode/utf8 are as the program's text lays them (the card ties them).
-/
import Derived.Test.YthabooeapfepnaaGreatDoorBase
import Derived.Test.YthabooeapfepnaaGreatDoorLQ
namespace Go.Proofs.YthabooeapfepnaaGreatDoor.Rowed
open Go.ChangeShapes Go.WideShapes Go.ChangeAt Go.RowKit Go.Lib
open Go.ChangeMaps (open_string shut_string)
set_option linter.unusedVariables false

theorem quotes_reads (os : Os) {H : Type} (enc : TypeId × Value → H) : ∃ places, DataW.whole enc Tryz.prog ((laidWorld os).forCall (fun _ _ => 0) ⟨#[], #[.string ByteArray.empty, .string ByteArray.empty], []⟩).memory Tryz.f3.params.toList Rows.lineQuotesSpec.vars false #[Value.string ByteArray.empty, Value.string ByteArray.empty].toList 8 = some ([.lit (.string []), .lit (.string [])], [], places) :=
  ⟨[], by kernel_rfl⟩
theorem quotes_laid (os : Os) : laidMet Tryz.prog Rows.lineQuotesUptoRow.laid ((laidWorld os).forCall (fun _ _ => 0) ⟨#[], #[.string ByteArray.empty, .string ByteArray.empty], []⟩).memory :=
  laidMet_of_run' 8 (by kernel_rfl) (by kernel_rfl)

set_option maxRecDepth 100000 in
theorem quotes_lifted (os : Os) (started : os.Started) (H : Type) (enc : TypeId × Value → H) (F : Stop.Interp) :
    ReturnsInHanded {} Tryz.checked os 3 .any ((Rows.OpenSpec.upto Rows.lineQuotesSpec).preRow enc Tryz.prog Tryz.f3 Rows.lineQuotesUptoRow.domain false Rows.lineQuotesUptoRow.laid) (((Rows.OpenSpec.upto Rows.lineQuotesSpec).at F).post enc Tryz.prog Tryz.f3 false true false false) := by
  obtain ⟨places, hx⟩ := quotes_reads os enc
  refine returnsInHanded_of_row (C := Tryz.checked) (s := Rows.OpenSpec.upto Rows.lineQuotesSpec) own started (by kernel_rfl) Tryz.func3
    (witness_row_at (enc := enc) (C := Tryz.checked) false (laidWorld os) #[.string ByteArray.empty, .string ByteArray.empty] rfl (by kernel_rfl) (by kernel_rfl) (by kernel_rfl)
      (OpenSpec.preRow_of_cond 8 hx (by kernel_rfl) (fun k hk => by cases hk; kernel_rfl) (by kernel_rfl) (quotes_laid os))) ?_
  intro W base args ds gs before hval0 hW _ hcond _ hL0 hS _
  have hL : laidMet Tryz.prog [("unicode/utf8.acceptRanges", Rows.laid_unicode_utf8_acceptRanges), ("unicode/utf8.first", Rows.laid_unicode_utf8_first)] W := hL0
  have hT : Given.TabsW W := tabs hL (by simp) (by simp) hS
  have hbulk : Rows.uptoBulkAll (ds ++ gs) ≤ 1048576 := by
    have h := hcond _ rfl
    simpa [Rows.uptoSmall] using h
  have hval : ∀ (j : Nat) t v, Tryz.f3.params[j]? = some t → args[j]? = some v → Value.okWide Tryz.prog W .any base t v := hval0
  have hW' := hW
  obtain ⟨p, q, hA0, hV, rfl, hfz, hnd⟩ := hW
  have hA : DataW.TrodAll enc Tryz.prog W 0 (fun _ => true) true Tryz.f3.params.toList args.toList ds p := hA0
  rw [Tryz.params3] at hA hval
  obtain ⟨v0, vs0, d0, ds0, p0, q0, hargs, rfl, rfl, h0, r0⟩ := trodAll_cons hA
  obtain ⟨v1, vs1, d1, ds1, p1, q1, rfl, rfl, rfl, h1, r1⟩ := trodAll_cons r0
  obtain ⟨rfl, rfl, rfl⟩ := trodAll_nil r1
  obtain rfl : args = #[v0, v1] := by cases args; simp_all
  obtain ⟨rfl, rfl⟩ := trodVars_none hV
  obtain ⟨a0, rfl, rfl, rfl, y0⟩ := open_string Tryz.underlying9 (hval 0 9 v0 rfl rfl) h0
  obtain ⟨a1, rfl, rfl, rfl, y1⟩ := open_string Tryz.underlying9 (hval 1 9 v1 rfl rfl) h1
  have hs : a0.size ≤ 1048576 ∧ a1.size ≤ 1048576 := by
    simp [Rows.uptoBulkAll, Rows.uptoBulk] at hbulk
    have e0 : a0.size = a0.data.size := rfl
    have e1 : a1.size = a1.data.size := rfl
    omega
  clear hA0 hval0 hbulk
  obtain ⟨k, hk⟩ := PL.line_quotes a0 a1 hs.1 hs.2
  refine (PL.calepinlaw03_LineQuotes.calls k a0 a1 true W hT hk).mono fun e W' ⟨he, bel⟩ => ?_
  subst he
  exact ⟨_, rfl, _, _, _, [], _, [], hW', trodAll_mk1 (shut_bool Tryz.underlying4 _), trodAll_cons_mk (shut_string Tryz.underlying9 y0) (trodAll_cons_mk (shut_string Tryz.underlying9 y1) trodAll_mk0), rfl, bel.frame _, fun h => by cases h⟩

theorem quotes_said : Rows.LineQuotesUptoSaid :=
  OpenClaim.holds_of_cond 3 Tryz.f3 rfl rfl rfl rfl rfl rfl rfl ⟨rfl, rfl, rfl, rfl, rfl⟩ rfl rfl rfl rfl rfl (by kernel_rfl) Tryz.func3 (by kernel_rfl)
    (of_decide_eq_true (by kernel_rfl)) (by unfold Func.isWrapper; first | (rw [if_pos (by decide +kernel)]; kernel_rfl) | (rw [if_neg (by decide +kernel)]; exact ⟨rfl, rfl⟩))
    (fun os started H enc _ F => by rw [OpenClaim.pre_eq_preRow]; exact quotes_lifted os started H enc F)
theorem quotes_plain (f : FuncId) (fn : Func) (hf : Tryz.pinned.checked.prog.funcNamed "calepin/calepinlaw03.LineQuotes" = some f) (hfn : Tryz.pinned.checked.prog.funcs[f]? = some fn) :
    true = Tryz.pinned.checked.prog.looks [] ∧ ∀ (j : Nat) t, fn.params[j]? = some t → Tryz.pinned.checked.prog.wantsStandIn t = false := by
  obtain rfl : f = 3 := Option.some.inj ((show Tryz.prog.funcNamed "calepin/calepinlaw03.LineQuotes" = some 3 by kernel_rfl).symm.trans hf) |>.symm
  obtain rfl : fn = Tryz.f3 := (Option.some.inj (Tryz.func3.symm.trans hfn)).symm
  refine ⟨by kernel_rfl, fun j t ht => ?_⟩
  rw [Tryz.params3] at ht
  obtain rfl : t = 9 := by simpa using Array.mem_of_getElem? ht
  exact (show Tryz.prog.wantsStandIn 9 = false by kernel_rfl)
end Go.Proofs.YthabooeapfepnaaGreatDoor.Rowed
namespace Go.Proofs.YthabooeapfepnaaGreatDoor
theorem lineQuotes_upto : Rows.LineQuotesUptoCardSaid :=
  Claim7.holds_tied_plain_at .later [] _ _ _ _ Rowed.quotes_said (fun _ h => by cases h) (by kernel_rfl) (fun _ h => by cases h) lineQuotesUpto_row_tie rfl ⟨rfl, rfl⟩ (by kernel_rfl) rfl Rowed.quotes_plain (by kernel_rfl)
#print axioms lineQuotes_upto
end Go.Proofs.YthabooeapfepnaaGreatDoor
