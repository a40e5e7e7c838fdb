import Derived.Test.YthabooeapfepnaaGreatDoorG2
import Derived.Test.YthabooeapfepnaaGreatDoorShelf
import Derived.Lib.ConvBytes
namespace Go.Proofs.YthabooeapfepnaaGreatDoor.Given
open Go.RowKit Go.Proofs.YthabooeapfepnaaGreatDoorW.PrintWords Go.Shelf
set_option linter.unusedVariables false
set_option pp.maxSteps 1500
theorem str_cells {w : World} {A : Option Addr} {l : List ByteArray} (h : Kd.C Kd.string w A l.length l) (h0 : 0 < l.length) :
    ∃ b o, A = some ⟨b, o, none⟩ ∧ ∀ j, j < l.length → w.cell? ⟨b, o + j, none⟩ = some (.string (l.getD j ByteArray.empty)) := by
  obtain ⟨_, _, hr⟩ := h
  obtain ⟨ad, rfl, hc⟩ := hr h0
  have hcell : ∀ j, j < l.length → w.cell? (ad.add j) = some (.string (l.getD j ByteArray.empty)) := by
    intro j hj
    obtain ⟨c, hl, hk, hcc⟩ := hc j (l.getD j ByteArray.empty) (by rw [List.getD_eq_getElem?_getD, List.getElem?_eq_getElem hj]; rfl)
    have hk' : c = [.string (l.getD j ByteArray.empty)] := hk
    have := hcc 0 _ (by rw [hk']; rfl)
    have e : j * Kd.string.sz + 0 = j := by show j * 1 + 0 = j; omega
    rw [e] at this
    exact this
  obtain ⟨b, o, s⟩ := ad
  have hs : s = none := by
    have h1 := hcell 0 h0
    unfold Addr.add at h1
    rw [if_pos rfl] at h1
    unfold World.cell? at h1
    cases s with
    | none => rfl
    | some s => revert h1; split <;> simp
  subst hs
  refine ⟨b, o, rfl, fun j hj => ?_⟩
  have := hcell j hj
  unfold Addr.add at this
  split at this
  · rename_i h; subst h; exact this
  · exact this
theorem slices_Equal_calls (A1 : Option Addr) (c1 : Nat) (l1 : List ByteArray) (A2 : Option Addr) (c2 : Nat) (l2 : List ByteArray) (w : World) (h1 : Kd.C Kd.string w A1 l1.length l1) (h2 : Kd.C Kd.string w A2 l2.length l2) (s1 : l1.length ≤ 4000000000) (s2 : l2.length ≤ 4000000000) :
    Calls Tryz.prog 53 #[.slice A1 l1.length c1, .slice A2 l2.length c2] w fun e w' => e = .returned (.bool (decide (l1 = l2))) ∧ Below w.heap.size w w' := by
  rcases Nat.eq_zero_or_pos l1.length with h0 | h0
  · have hl : l1 = [] := List.eq_nil_of_length_eq_zero h0
    subst hl
    refine (Tryz.slices_Equal_string_empty A1 A2 c1 l2.length c2 w (by omega)).mono fun e w' ⟨he, hw⟩ => ⟨?_, by rw [hw]; exact Below.refl _ _⟩
    rw [he]
    cases l2 with
    | nil => rfl
    | cons x l => simp
  · by_cases hl : l1.length = l2.length
    · obtain ⟨b1, o1, rfl, k1⟩ := str_cells h1 h0
      obtain ⟨b2, o2, rfl, k2⟩ := str_cells h2 (by omega)
      refine (Tryz.slices_Equal_string b1 o1 l1.length c1 b2 o2 l2.length c2 l1 l2 w (Nat.le_refl _) (Nat.le_refl _) (by omega) (by omega) k1 k2).mono fun e w' ⟨he, q, hw⟩ => ⟨?_, ?_⟩
      · rw [he, List.take_of_length_le (Nat.le_refl _), List.take_of_length_le (Nat.le_refl _)]
      · rw [hw]; exact bdN (Below.refl _ _) _
    · refine (Tryz.slices_Equal_string_lens A1 A2 l1.length c1 l2.length c2 w hl).mono fun e w' ⟨he, hw⟩ => ⟨?_, by rw [hw]; exact Below.refl _ _⟩
      rw [he, decide_eq_false]
      intro h; exact hl (by rw [h])
end Go.Proofs.YthabooeapfepnaaGreatDoor.Given
