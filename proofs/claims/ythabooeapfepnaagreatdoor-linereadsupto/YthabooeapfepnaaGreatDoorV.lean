import Derived.Test.YthabooeapfepnaaGreatDoorG1
import Derived.Lib.ValidLaws
namespace Go.Proofs.YthabooeapfepnaaGreatDoor.Text
open Go.RowKit Go.Lib Go.Proofs.YthabooeapfepnaaGreatDoor.Given
set_option linter.unusedVariables false
def ctlB (b : UInt8) : Bool := ctlR b.toNat
def okT (l : List UInt8) : Bool := validD l && !l.any ctlB
theorem ctlR_high (x : Nat) (h : 128 ≤ x) : ctlR x = false := by
  unfold ctlR
  simp only [Bool.or_eq_false_iff, Bool.and_eq_false_iff, decide_eq_false_iff_not, beq_eq_false_iff_ne]
  omega
set_option maxHeartbeats 1000000 in
theorem decodeN_high (n b0 b1 b2 b3 : Nat) (h : 128 ≤ b0) (hn : 1 ≤ n) :
    128 ≤ (decodeN n b0 b1 b2 b3).1 ∧ (decodeN n b0 b1 b2 b3).2 ≤ 4 ∧ (decodeN n b0 b1 b2 b3).2 ≤ n ∧ (2 ≤ (decodeN n b0 b1 b2 b3).2 → 128 ≤ b1) ∧ (3 ≤ (decodeN n b0 b1 b2 b3).2 → 128 ≤ b2) ∧ (4 ≤ (decodeN n b0 b1 b2 b3).2 → 128 ≤ b3) := by
  unfold decodeN
  repeat' split
  all_goals (simp only []; omega)
theorem idx_neg (s : ByteArray) : ∀ (f pos : Nat), s.size ≤ f + pos → (idxFuncFrom ctlR true s f pos < 0 ↔ ∀ i, pos ≤ i → i < s.size → ctlR (s.get! i).toNat = false)
  | 0, pos, hf => by
    constructor
    · intro _ i h1 h2; omega
    · intro _; unfold idxFuncFrom; decide
  | f + 1, pos, hf => by
    unfold idxFuncFrom
    by_cases hp : pos < s.size
    · rw [if_pos hp, decode_at]
      by_cases hb : (s.get! pos).toNat < 128
      · have e : decodeN (s.size - pos) (s.get! pos).toNat (s.get! (pos + 1)).toNat (s.get! (pos + 2)).toNat (s.get! (pos + 3)).toNat = ((s.get! pos).toNat, 1) := by
          unfold decodeN; rw [if_pos hb]
        rw [e]
        simp only []
        by_cases hc : ctlR (s.get! pos).toNat = true
        · rw [if_pos hc]
          constructor
          · intro h; omega
          · intro h; have := h pos (Nat.le_refl _) hp; rw [hc] at this; cases this
        · rw [if_neg hc, idx_neg s f (pos + 1) (by omega)]
          constructor
          · intro h i h1 h2
            rcases Nat.lt_or_ge pos i with h3 | h3
            · exact h i h3 h2
            · obtain rfl : i = pos := by omega
              simpa using hc
          · intro h i h1 h2; exact h i (by omega) h2
      · have hd := decodeN_high (s.size - pos) (s.get! pos).toNat (s.get! (pos + 1)).toNat (s.get! (pos + 2)).toNat (s.get! (pos + 3)).toNat (by omega) (by omega)
        have hw := decodeN_ge1 (s.size - pos) (s.get! pos).toNat (s.get! (pos + 1)).toNat (s.get! (pos + 2)).toNat (s.get! (pos + 3)).toNat
        generalize decodeN (s.size - pos) (s.get! pos).toNat (s.get! (pos + 1)).toNat (s.get! (pos + 2)).toNat (s.get! (pos + 3)).toNat = D at *
        obtain ⟨h1, h2, h3, h4, h5, h6⟩ := hd
        rw [if_neg (by rw [ctlR_high _ h1]; decide), idx_neg s f (pos + D.2) (by omega)]
        constructor
        · intro h i hi1 hi2
          rcases Nat.lt_or_ge i (pos + D.2) with hlt | hge
          · apply ctlR_high
            rcases (by omega : i = pos ∨ i = pos + 1 ∨ i = pos + 2 ∨ i = pos + 3) with rfl | rfl | rfl | rfl
            · omega
            · exact h4 (by omega)
            · exact h5 (by omega)
            · exact h6 (by omega)
          · exact h i hge hi2
        · intro h i hi1 hi2; exact h i (by omega) hi2
    · rw [if_neg hp]
      constructor
      · intro _ i h1 h2; omega
      · intro _; decide
theorem idx_any (s : ByteArray) : decide (Lib.idxFunc ctlR true s < 0) = !s.data.toList.any ctlB := by
  have h := idx_neg s s.size 0 (by omega)
  unfold Lib.idxFunc
  cases ha : s.data.toList.any ctlB
  · rw [List.any_eq_false] at ha
    simp only [Bool.not_false, decide_eq_true_eq]
    rw [h]
    intro i _ hi
    have hm : s.get! i ∈ s.data.toList := by
      have e : s.get! i = s.data[i]! := rfl
      have hi' : i < s.data.size := hi
      rw [e, getElem!_pos s.data i hi']
      simp
    have := ha _ hm
    simpa [ctlB] using this
  · rw [List.any_eq_true] at ha
    obtain ⟨x, hx, hc⟩ := ha
    simp only [Bool.not_true, decide_eq_false_iff_not]
    rw [h]
    intro hall
    obtain ⟨i, hi, rfl⟩ := List.mem_iff_getElem.1 hx
    have hi' : i < s.data.size := by simpa using hi
    have := hall i (by omega) hi'
    have e : s.get! i = s.data[i]! := rfl
    rw [e, getElem!_pos s.data i hi'] at this
    unfold ctlB at hc
    simp at hc
    rw [this] at hc
    cases hc
theorem char_Valid_okT (a : ByteArray) (h : a.size ≤ 4000000000) : char_Valid.f a = some (okT a.data.toList) := by
  unfold char_Valid.f okT
  rw [if_pos h, idx_any]
theorem decodeL_part (b c : UInt8) (t r : List UInt8) (hb : 128 ≤ b.toNat) (hc : c.toNat < 128) : decodeL (b :: t ++ c :: r) = decodeL (b :: t) := by
  have hc2 : c.toNat / 64 ≠ 2 := by omega
  rw [decodeL_N, decodeL_N]
  match t with
  | [] =>
    simp only [List.cons_append, List.nil_append, List.length_cons, List.length_nil, List.getD_cons_zero, List.getD_cons_succ, List.getD_nil]
    unfold decodeN
    simp [hc2]
  | [b1] =>
    simp only [List.cons_append, List.nil_append, List.length_cons, List.length_nil, List.getD_cons_zero, List.getD_cons_succ, List.getD_nil]
    unfold decodeN
    simp [hc2]
  | [b1, b2] =>
    simp only [List.cons_append, List.nil_append, List.length_cons, List.length_nil, List.getD_cons_zero, List.getD_cons_succ, List.getD_nil]
    unfold decodeN
    simp [hc2]
  | b1 :: b2 :: b3 :: t =>
    simp only [List.cons_append, List.length_cons, List.getD_cons_zero, List.getD_cons_succ, List.length_append]
    unfold decodeN
    have e1 : (1 < (t.length + (r.length + 1) + 1 + 1 + 1 + 1)) = (1 < t.length + 1 + 1 + 1 + 1) := propext ⟨fun _ => by omega, fun _ => by omega⟩
    have e2 : (2 < (t.length + (r.length + 1) + 1 + 1 + 1 + 1)) = (2 < t.length + 1 + 1 + 1 + 1) := propext ⟨fun _ => by omega, fun _ => by omega⟩
    have e3 : (3 < (t.length + (r.length + 1) + 1 + 1 + 1 + 1)) = (3 < t.length + 1 + 1 + 1 + 1) := propext ⟨fun _ => by omega, fun _ => by omega⟩
    simp only [e1, e2, e3]
theorem validD_part (c : UInt8) (r : List UInt8) (hc : c.toNat < 128) : ∀ (n : Nat) (l : List UInt8), l.length ≤ n → validD (l ++ c :: r) = (validD l && validD r)
  | n, [], _ => by rw [List.nil_append, validD_cons c r hc, validD_nil, Bool.true_and]
  | 0, b :: t, h => by simp at h
  | n + 1, b :: t, h => by
    by_cases hb : b.toNat < 128
    · rw [List.cons_append, validD_cons b _ hb, validD_cons b _ hb]
      exact validD_part c r hc n t (by simp at h; omega)
    · have hd := decodeL_part b c t r (by omega) hc
      have hw := decodeL_width (b :: t)
      have hsh : (decodeL (b :: t)).2 ≤ (b :: t).length := by
        rw [decodeL_N]
        exact (decodeN_high _ _ _ _ _ (by simp only [List.getD_cons_zero]; omega) (by simp)).2.2.1
      rw [validD_step (b :: t ++ c :: r) (by simp), validD_step (b :: t) (by simp), hd]
      split
      · rfl
      · rw [List.drop_append_of_le_length hsh]
        exact validD_part c r hc n _ (by rw [List.length_drop]; omega)
theorem okT_part (l r : List UInt8) (c : UInt8) (hc : c.toNat < 128) : okT (l ++ c :: r) = (okT l && !ctlB c && okT r) := by
  unfold okT
  rw [validD_part c r hc l.length l (Nat.le_refl _), List.any_append, List.any_cons]
  cases validD l <;> cases validD r <;> cases l.any ctlB <;> cases r.any ctlB <;> cases ctlB c <;> rfl
theorem okT_nil : okT [] = true := rfl
theorem okT_cons (r : List UInt8) (c : UInt8) (hc : c.toNat < 128) : okT (c :: r) = (!ctlB c && okT r) := by
  have := okT_part [] r c hc
  rw [List.nil_append, okT_nil, Bool.true_and] at this
  exact this
end Go.Proofs.YthabooeapfepnaaGreatDoor.Text
