import Derived.Test.YthabooeapfepnaaGreatDoorG2
import Derived.Test.YthabooeapfepnaaGreatDoorG12
namespace Go.Proofs.YthabooeapfepnaaGreatDoor.Given
open Go.RowKit Go.Proofs.YthabooeapfepnaaGreatDoorW.PrintWords
set_option linter.unusedVariables false
theorem TabsW.below {w W : World} (h : TabsW w) (hb : Below w.heap.size w W) : TabsW W := by
  obtain ⟨m, hm⟩ := h.maxLen
  exact ⟨⟨m, pw_cell_below hb hm⟩, fun c hc => pw_cell_below hb (h.utf8.1 c hc), fun i hi => ⟨pw_cell_below hb (h.utf8.2 i hi).1, pw_cell_below hb (h.utf8.2 i hi).2⟩⟩
end Go.Proofs.YthabooeapfepnaaGreatDoor.Given
