/-
  For every string s: the statement LineReads of the layer 'line' answers true and leaves its argument as it was: every text is read as the reference reads it (or refused with its error), names are told alike, and a line that is read is printed as the reference prints it and read again as itself.
  Conditions: the arguments hold together at most 1048576 values and letters (the seat's second form, 'Upto'); the listed tables of unicode/utf8 are as the program's text lays them (the card ties them).
-/
import Derived.Test.YthabooeapfepnaaGreatDoorBase
import Derived.Test.YthabooeapfepnaaGreatDoorR9
namespace Go.Proofs.YthabooeapfepnaaGreatDoor.Rowed
open Go.ChangeShapes Go.WideShapes Go.ChangeAt Go.RowKit Go.Lib
open Go.ChangeMaps (open_string shut_string)
set_option linter.unusedVariables false
theorem reads_reads (os : Os) {H : Type} (enc : TypeId × Value → H) : ∃ places, DataW.whole enc Tryz.prog ((laidWorld os).forCall (fun _ _ => 0) ⟨#[], #[.string ByteArray.empty], []⟩).memory Tryz.f6.params.toList Rows.lineReadsSpec.vars false #[Value.string ByteArray.empty].toList 8 = some ([.lit (.string [])], [], places) :=
  ⟨[], by kernel_rfl⟩
theorem reads_laid (os : Os) : laidMet Tryz.prog Rows.lineReadsUptoRow.laid ((laidWorld os).forCall (fun _ _ => 0) ⟨#[], #[.string ByteArray.empty], []⟩).memory :=
  laidMet_of_run' 8 (by kernel_rfl) (by kernel_rfl)
set_option maxRecDepth 100000 in
theorem reads_lifted (os : Os) (started : os.Started) (H : Type) (enc : TypeId × Value → H) (F : Stop.Interp) :
    ReturnsInHanded {} Tryz.checked os 6 .any ((Rows.OpenSpec.upto Rows.lineReadsSpec).preRow enc Tryz.prog Tryz.f6 Rows.lineReadsUptoRow.domain false Rows.lineReadsUptoRow.laid) (((Rows.OpenSpec.upto Rows.lineReadsSpec).at F).post enc Tryz.prog Tryz.f6 false true false false) := by
  obtain ⟨places, hx⟩ := reads_reads os enc
  refine returnsInHanded_of_row (C := Tryz.checked) (s := Rows.OpenSpec.upto Rows.lineReadsSpec) own started (by kernel_rfl) Tryz.func6
    (witness_row_at (enc := enc) (C := Tryz.checked) false (laidWorld os) #[.string ByteArray.empty] rfl (by kernel_rfl) (by kernel_rfl) (by kernel_rfl)
      (OpenSpec.preRow_of_cond 8 hx (by kernel_rfl) (fun k hk => by cases hk; kernel_rfl) (by kernel_rfl) (reads_laid os))) ?_
  intro W base args ds gs before hval0 hW _ hcond _ hL0 hS _
  have hL : laidMet Tryz.prog [("unicode/utf8.acceptRanges", Rows.laid_unicode_utf8_acceptRanges), ("unicode/utf8.first", Rows.laid_unicode_utf8_first)] W := hL0
  have hT : Given.TabsW W := tabs hL (by simp) (by simp) hS
  have hbulk : Rows.uptoBulkAll (ds ++ gs) ≤ 1048576 := by
    have h := hcond _ rfl
    simpa [Rows.uptoSmall] using h
  have hval : ∀ (j : Nat) t v, Tryz.f6.params[j]? = some t → args[j]? = some v → Value.okWide Tryz.prog W .any base t v := hval0
  have hW' := hW
  obtain ⟨p, q, hA0, hV, rfl, hfz, hnd⟩ := hW
  have hA : DataW.TrodAll enc Tryz.prog W 0 (fun _ => true) true Tryz.f6.params.toList args.toList ds p := hA0
  rw [Tryz.params6] at hA hval
  obtain ⟨v0, vs0, d0, ds0, p0, q0, hargs, rfl, rfl, h0, r0⟩ := trodAll_cons hA
  obtain ⟨rfl, rfl, rfl⟩ := trodAll_nil r0
  obtain rfl : args = #[v0] := by cases args; simp_all
  obtain ⟨rfl, rfl⟩ := trodVars_none hV
  obtain ⟨a0, rfl, rfl, rfl, y0⟩ := open_string Tryz.underlying9 (hval 0 9 v0 rfl rfl) h0
  have hs : a0.size ≤ 1048576 := by
    simp [Rows.uptoBulkAll, Rows.uptoBulk] at hbulk
    have e0 : a0.size = a0.data.size := rfl
    omega
  clear hA0 hval0 hbulk
  obtain ⟨k, hk⟩ := PL.line_reads a0 hs
  refine (PL.calepinlaw03_LineReads.calls k a0 true W hT hk).mono fun e W' ⟨he, bel⟩ => ?_
  subst he
  exact ⟨_, rfl, _, _, _, [], _, [], hW', trodAll_mk1 (shut_bool Tryz.underlying4 _), trodAll_cons_mk (shut_string Tryz.underlying9 y0) trodAll_mk0, rfl, bel.frame _, fun h => by cases h⟩
theorem reads_said : Rows.LineReadsUptoSaid :=
  OpenClaim.holds_of_cond 6 Tryz.f6 rfl rfl rfl rfl rfl rfl rfl ⟨rfl, rfl, rfl, rfl, rfl⟩ rfl rfl rfl rfl rfl (by kernel_rfl) Tryz.func6 (by kernel_rfl)
    (of_decide_eq_true (by kernel_rfl)) (by unfold Func.isWrapper; first | (rw [if_pos (by decide +kernel)]; kernel_rfl) | (rw [if_neg (by decide +kernel)]; exact ⟨rfl, rfl⟩))
    (fun os started H enc _ F => by rw [OpenClaim.pre_eq_preRow]; exact reads_lifted os started H enc F)
theorem reads_plain (f : FuncId) (fn : Func) (hf : Tryz.pinned.checked.prog.funcNamed "calepin/calepinlaw03.LineReads" = some f) (hfn : Tryz.pinned.checked.prog.funcs[f]? = some fn) :
    true = Tryz.pinned.checked.prog.looks [] ∧ ∀ (j : Nat) t, fn.params[j]? = some t → Tryz.pinned.checked.prog.wantsStandIn t = false := by
  obtain rfl : f = 6 := Option.some.inj ((show Tryz.prog.funcNamed "calepin/calepinlaw03.LineReads" = some 6 by kernel_rfl).symm.trans hf) |>.symm
  obtain rfl : fn = Tryz.f6 := (Option.some.inj (Tryz.func6.symm.trans hfn)).symm
  refine ⟨by kernel_rfl, fun j t ht => ?_⟩
  rw [Tryz.params6] at ht
  obtain rfl : t = 9 := by simpa using Array.mem_of_getElem? ht
  exact (show Tryz.prog.wantsStandIn 9 = false by kernel_rfl)
end Go.Proofs.YthabooeapfepnaaGreatDoor.Rowed
namespace Go.Proofs.YthabooeapfepnaaGreatDoor
theorem lineReads_upto : Rows.LineReadsUptoCardSaid :=
  Claim7.holds_tied_plain_at .later [] _ _ _ _ Rowed.reads_said (fun _ h => by cases h) (by kernel_rfl) (fun _ h => by cases h) lineReadsUpto_row_tie rfl ⟨rfl, rfl⟩ (by kernel_rfl) rfl Rowed.reads_plain (by kernel_rfl)
#print axioms lineReads_upto
end Go.Proofs.YthabooeapfepnaaGreatDoor
