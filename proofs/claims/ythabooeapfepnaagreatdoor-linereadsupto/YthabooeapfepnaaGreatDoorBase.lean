import Derived.Test.YthabooeapfepnaaGreatDoorCards
import Derived.Test.YthabooeapfepnaaGreatDoorTie
import Derived.Test.YthabooeapfepnaaGreatDoorG1
import Derived.WalkKit
import Derived.ProofKit
import Derived.OpenShut
import Derived.ShutString
import Derived.ChangeOld
import Derived.Below
import Derived.SizedLaws
import Derived.Deep.DeepHandedRow
import Derived.Lib.LaidTab
import Derived.Lib.LaidU8
import Derived.Shelf.Vars
namespace Go.Proofs.YthabooeapfepnaaGreatDoor.Rowed
open Go.ChangeShapes Go.WideShapes Go.ChangeAt Go.RowKit Go.Lib
open Go.ChangeMaps (open_string shut_string)
set_option linter.unusedVariables false
theorem own : ownKnob Tryz.prog.godebug = none := by kernel_rfl
theorem nFirst : Tryz.prog.globalNamed "unicode/utf8.first" = some 0 := by kernel_rfl
theorem nAccept : Tryz.prog.globalNamed "unicode/utf8.acceptRanges" = some 1 := by kernel_rfl
theorem yFirst : (Tryz.prog.globals[0]?).map (·.type) = some (Tryz.laysValid_ren.t 119) := by kernel_rfl
theorem yAccept : (Tryz.prog.globals[1]?).map (·.type) = some (Tryz.laysValid_ren.t 139) := by kernel_rfl
theorem c5 : Tryz.prog.cellsOf (Tryz.laysValid_ren.t 5) = 1 := by kernel_rfl
theorem c119 : Tryz.prog.cellsOf (Tryz.laysValid_ren.t 119) = 256 := by kernel_rfl
theorem c138 : Tryz.prog.cellsOf (Tryz.laysValid_ren.t 138) = 2 := by kernel_rfl
theorem first_is : Rows.laid_unicode_utf8_first = firstData := by kernel_rfl
theorem accept_is : (Rows.laid_unicode_utf8_acceptRanges : DataW Unit) = acceptData := by kernel_rfl
theorem utf8_tabs {w : World} (h3 : VarReads Tryz.prog w "unicode/utf8.first" firstData) (h4 : VarReads Tryz.prog w "unicode/utf8.acceptRanges" acceptData) : Lib.Utf8Tabs 0 1 w := by
  refine ⟨fun c hc => ?_, fun i hi => ?_⟩
  · obtain ⟨g, t, cs, fuel, p, hg, hty, hvar, hd⟩ := h3
    obtain rfl := Option.some.inj (nFirst.symm.trans hg)
    obtain rfl := Option.some.inj (yFirst.symm.trans hty)
    have hcs := cells_of_tab Tryz.laysValid.t119 Tryz.laysValid.t5 c5 c119 hd
    have := World.var?_cell hg hvar c
    rw [this, ← Array.getElem?_toList, hcs]
    simp [firstTab, hc]
  · obtain ⟨g, t, cs, fuel, p, hg, hty, hvar, hd⟩ := h4
    obtain rfl := Option.some.inj (nAccept.symm.trans hg)
    obtain rfl := Option.some.inj (yAccept.symm.trans hty)
    obtain ⟨fuel', d, q, hdi, he⟩ := array_elem Tryz.laysValid.t139 hd i hi
    simp only [List.getElem?_map, List.getElem?_range hi, Option.map_some, Option.some.injEq] at hdi
    subst hdi
    rw [c138] at he
    have hcs := ints_of_struct Tryz.laysValid.t138 (fun j f hj => by
      match j, hj with
      | 0, hj => simp at hj; subst hj; exact ⟨Tryz.laysValid.t5, rfl, c5⟩
      | 1, hj => simp at hj; subst hj; exact ⟨Tryz.laysValid.t5, rfl, c5⟩
      | j + 2, hj => simp at hj) (by rw [c138]; rfl) he
    have e0 := congrArg (·[0]?) hcs
    have e1 := congrArg (·[1]?) hcs
    simp only [List.getElem?_take, List.getElem?_drop] at e0 e1
    constructor
    · rw [World.var?_cell hg hvar (2 * i), ← Array.getElem?_toList]
      simpa [Nat.mul_comm] using e0
    · rw [World.var?_cell hg hvar (2 * i + 1), ← Array.getElem?_toList]
      simpa [Nat.mul_comm] using e1
theorem max_len {w : World} (h : w.ShapedOpen Tryz.prog) : ∃ m, w.cell? ⟨5, 0, none⟩ = some (.int .i64 m) :=
  cell_of_shapedOpen_int h (g := 5) (t := 3) (zero := #[.int .i64 0]) (of_decide_eq_true (by kernel_rfl)) (by kernel_rfl) (by kernel_rfl) (by kernel_rfl) (by kernel_rfl) Tryz.underlying3
theorem tabs {w : World} {l : List (String × DataW Unit)} (hl : laidMet Tryz.prog l w) (hf : ("unicode/utf8.first", Rows.laid_unicode_utf8_first) ∈ l) (ha : ("unicode/utf8.acceptRanges", (Rows.laid_unicode_utf8_acceptRanges : DataW Unit)) ∈ l) (hs : w.ShapedOpen Tryz.prog) : Given.TabsW w := by
  refine ⟨max_len hs, utf8_tabs ?_ ?_⟩
  · rw [← first_is]; exact laidMet.reads hl hf
  · rw [← accept_is]; exact laidMet.reads hl ha
def putCells (cs : Array Value) : Obj → Obj
  | .cells _ t frozen => .cells cs t frozen
  | o => o
noncomputable def laidWorld (os : Os) : World :=
  { World.holding Tryz.prog os ⟨#[], #[], []⟩ with
    heap := ((World.holding Tryz.prog os ⟨#[], #[], []⟩).heap.modify 0 (putCells ((List.range 256).map fun c => Value.int .u8 (firstT c : Int)).toArray)).modify 1
      (putCells ((List.range 16).flatMap fun i => [Value.int .u8 (accLo i : Int), Value.int .u8 (accHi i : Int)]).toArray) }
end Go.Proofs.YthabooeapfepnaaGreatDoor.Rowed
