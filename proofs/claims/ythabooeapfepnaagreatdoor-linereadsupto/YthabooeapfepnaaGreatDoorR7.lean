import Derived.Test.YthabooeapfepnaaGreatDoorR6
namespace Go.Proofs.YthabooeapfepnaaGreatDoor.PL
open Go.RowKit Go.Lib Go.Proofs.YthabooeapfepnaaGreatDoor.Given Go.Proofs.YthabooeapfepnaaGreatDoor.Text Go.Proofs.YthabooeapfepnaaGreatDoorW.PrintWords
set_option linter.unusedVariables false
def okL (l : List UInt8) : Bool := okT l && !crlfL l
def okV (u : List UInt8) : Bool := okT u && !u.contains 13
def plainB (b : UInt8) : Bool := decide (b.toNat < 128) && !ctlB b && !([13, 10] : List UInt8).contains b
theorem plain_of {b : UInt8} (h : plainB b = true) : b.toNat < 128 ∧ ctlB b = false ∧ ([13, 10] : List UInt8).contains b = false := by
  unfold plainB at h
  rw [Bool.and_eq_true, Bool.and_eq_true, decide_eq_true_eq, Bool.not_eq_true', Bool.not_eq_true'] at h
  exact ⟨h.1.1, h.1.2, h.2⟩
theorem okL_mid (a r : List UInt8) (c : UInt8) (hc : plainB c = true) : okL (a ++ c :: r) = (okL a && okL r) := by
  obtain ⟨h1, h2, h3⟩ := plain_of hc
  unfold okL
  rw [okT_part a r c h1, h2, crlf_any, crlf_any, crlf_any, List.any_append, List.any_cons, h3]
  cases okT a <;> cases okT r <;> cases (a.any fun b => ([13, 10] : List UInt8).contains b) <;> cases (r.any fun b => ([13, 10] : List UInt8).contains b) <;> rfl
theorem okL_nil : okL [] = true := rfl
theorem okL_cons (r : List UInt8) (c : UInt8) (hc : plainB c = true) : okL (c :: r) = okL r := by
  have := okL_mid [] r c hc
  rw [List.nil_append, okL_nil, Bool.true_and] at this
  exact this
theorem okL_plain (a r : List UInt8) (ha : a.all plainB = true) : okL (a ++ r) = okL r := by
  induction a with
  | nil => rfl
  | cons b a ih =>
    rw [List.all_cons, Bool.and_eq_true] at ha
    rw [List.cons_append, okL_cons _ _ ha.1, ih ha.2]
theorem okL_V (l : List UInt8) (h : okL l = true) : okV l = true := by
  unfold okL at h
  unfold okV
  rw [Bool.and_eq_true, Bool.not_eq_true', crlf_any] at h
  rw [h.1, Bool.true_and, Bool.not_eq_true']
  cases hc : l.contains 13
  · rfl
  · have hm : (13 : UInt8) ∈ l := by simpa using hc
    have : (l.any fun b => ([13, 10] : List UInt8).contains b) = true := List.any_eq_true.2 ⟨13, hm, by decide⟩
    rw [h.2] at this
    cases this
theorem name_plain_fin : ∀ x : Fin 256, inName (UInt8.ofNat x.val) = true → plainB (UInt8.ofNat x.val) = true := by decide +kernel
theorem name_plain (b : UInt8) (h : inName b = true) : plainB b = true := by
  have := name_plain_fin ⟨b.toNat, b.toNat_lt⟩
  simp only [UInt8.ofNat_toNat] at this
  exact this h
theorem names_plain (l : List UInt8) (h : l.all inName = true) : l.all plainB = true := by
  rw [List.all_eq_true] at *
  exact fun b hb => name_plain b (h b hb)
theorem quote_none (u : List UInt8) (h : u.any sp = false) : quoteL u = u := by
  apply quoteL_same
  rw [List.countP_eq_zero]
  intro b hb
  rw [List.any_eq_false] at h
  exact h b hb
theorem split_at (p : UInt8 → Bool) (u : List UInt8) (h : u.any p = true) : ∃ a c r, u = a ++ c :: r ∧ a.any p = false ∧ p c = true := by
  induction u with
  | nil => cases h
  | cons b u ih =>
    cases hb : p b
    · rw [List.any_cons, hb, Bool.false_or] at h
      obtain ⟨a, c, r, h1, h2, h3⟩ := ih h
      exact ⟨b :: a, c, r, by rw [h1]; rfl, by rw [List.any_cons, hb, h2]; rfl, h3⟩
    · exact ⟨[], b, u, rfl, rfl, hb⟩
theorem quote_app (a b : List UInt8) : quoteL (a ++ b) = quoteL a ++ quoteL b := by
  unfold quoteL
  rw [List.flatMap_append]
theorem okL_none (u : List UInt8) (h : u.any sp = false) : okL u = okV u := by
  unfold okL okV
  have e : crlfL u = u.contains 13 := by
    rw [crlf_any, Bool.eq_iff_iff, List.any_eq_true]
    constructor
    · rintro ⟨b, hb, hc⟩
      have h10 : b ≠ 10 := by
        intro hh; subst hh
        rw [List.any_eq_false] at h
        exact absurd (by decide) (h 10 hb)
      have : b = 13 := by
        simp only [List.contains_cons, List.contains_nil, Bool.or_false, Bool.or_eq_true, beq_iff_eq] at hc
        rcases hc with hc | hc
        · exact hc
        · exact absurd hc h10
      subst this; simpa using hb
    · intro hc
      exact ⟨13, by simpa using hc, by decide⟩
  rw [e]
theorem okV_mid (a r : List UInt8) (c : UInt8) (hc : c.toNat < 128) (h2 : ctlB c = false) (h13 : c ≠ 13) : okV (a ++ c :: r) = (okV a && okV r) := by
  unfold okV
  rw [okT_part a r c hc, h2]
  have e : (a ++ c :: r).contains 13 = (a.contains 13 || r.contains 13) := by
    rw [Bool.eq_iff_iff]
    simp [Ne.symm h13]
  rw [e]
  cases okT a <;> cases okT r <;> cases a.contains 13 <;> cases r.contains 13 <;> rfl
theorem sp_or {c : UInt8} (h : sp c = true) : c = 10 ∨ c = 94 ∨ c = 34 := by
  unfold sp at h
  simp only [Bool.or_eq_true, beq_iff_eq] at h
  rcases h with (h | h) | h
  · exact .inl h
  · exact .inr (.inl h)
  · exact .inr (.inr h)
theorem okL_quote : ∀ (n : Nat) (u : List UInt8), u.length ≤ n → okL (quoteL u) = okV u := by
  intro n
  induction n with
  | zero =>
    intro u hu
    have : u = [] := List.eq_nil_of_length_eq_zero (by omega)
    subst this; rfl
  | succ n ih =>
    intro u hu
    cases hs : u.any sp
    · rw [quote_none u hs, okL_none u hs]
    · obtain ⟨a, c, r, rfl, ha, hc⟩ := split_at sp u hs
      have ihr := ih r (by rw [List.length_append, List.length_cons] at hu; omega)
      have eq0 : quoteL (a ++ c :: r) = a ++ (qb c ++ quoteL r) := by rw [quote_app, quote_none a ha]; rfl
      rcases sp_or hc with rfl | rfl | rfl
      · rw [eq0, okV_mid a r 10 (by decide) (by decide) (by decide), ← okL_none a ha, ← ihr]
        show okL (a ++ 94 :: (110 :: quoteL r)) = _
        rw [okL_mid _ _ 94 (by decide), okL_cons _ 110 (by decide)]
      · rw [eq0, okV_mid a r 94 (by decide) (by decide) (by decide), ← okL_none a ha, ← ihr]
        show okL (a ++ 94 :: (94 :: quoteL r)) = _
        rw [okL_mid _ _ 94 (by decide), okL_cons _ 94 (by decide)]
      · rw [eq0, okV_mid a r 34 (by decide) (by decide) (by decide), ← okL_none a ha, ← ihr]
        show okL (a ++ 94 :: (39 :: quoteL r)) = _
        rw [okL_mid _ _ 94 (by decide), okL_cons _ 39 (by decide)]
theorem okL_qv (u R : List UInt8) (x : UInt8) (hu : okV u = true) (hx : plainB x = true) : okL (qvL u ++ x :: R) = okL R := by
  have hq : okL (quoteL u) = true := by rw [okL_quote u.length u (Nat.le_refl _)]; exact hu
  rw [okL_mid _ _ x hx]
  have : okL (qvL u) = true := by
    unfold qvL
    split
    · rw [okL_cons _ 34 (by decide), okL_mid _ _ 34 (by decide), hq]; rfl
    · exact hq
  rw [this, Bool.true_and]
theorem okL_vals (x : UInt8) (R : List UInt8) (hx : plainB x = true) : ∀ us : List (List UInt8), (∀ u ∈ us, okV u = true) → okL (valsR 44 us ++ x :: R) = okL R
  | [], _ => okL_cons R x hx
  | u :: us, h => by
    have ih := okL_vals x R hx us (fun v hv => h v (by simp [hv]))
    show okL (44 :: (qvL u ++ valsR 44 us) ++ x :: R) = _
    rw [List.cons_append, okL_cons _ 44 (by decide), List.append_assoc]
    cases us with
    | nil => exact okL_qv u R x (h u (by simp)) hx
    | cons a us =>
      have e : valsR 44 (a :: us) ++ x :: R = 44 :: (qvL a ++ valsR 44 us ++ x :: R) := rfl
      rw [e] at ih ⊢
      rw [okL_qv u _ 44 (h u (by simp)) (by decide)]
      rw [okL_cons _ 44 (by decide)] at ih
      exact ih
theorem okL_tail (v : List UInt8) : ∀ ps : Ps, (∀ p ∈ ps, isName p.1 = true ∧ p.2 ≠ [] ∧ ∀ u ∈ p.2, okV u = true) → okL (tailT ps v) = okL v
  | [], _ => okL_cons v 58 (by decide)
  | p :: ps, h => by
    obtain ⟨h1, h2, h3⟩ := h p (by simp)
    have ih := okL_tail v ps (fun q hq => h q (by simp [hq]))
    obtain ⟨u, us, hus⟩ : ∃ u us, p.2 = u :: us := by
      cases hp : p.2 with
      | nil => exact absurd hp h2
      | cons u us => exact ⟨u, us, rfl⟩
    have hn : p.1.all plainB = true := by
      unfold isName at h1
      rw [Bool.and_eq_true] at h1
      exact names_plain _ h1.1
    have hcx : plainB (headC ps) = true := by rcases headC_or ps with h | h <;> rw [h] <;> decide
    rw [tail_cons, okL_cons _ _ hcx] at ih
    show okL (59 :: (p.1 ++ (valsR 61 p.2 ++ tailT ps v))) = _
    rw [okL_cons _ 59 (by decide), okL_plain _ _ hn, hus]
    show okL (61 :: (qvL u ++ valsR 44 us) ++ tailT ps v) = _
    rw [List.cons_append, okL_cons _ 61 (by decide), List.append_assoc, tail_cons]
    cases us with
    | nil =>
      show okL (qvL u ++ headC ps :: restT ps v) = _
      rw [okL_qv u _ _ (h3 u (by rw [hus]; simp)) hcx]
      exact ih
    | cons a us =>
      have e : valsR 44 (a :: us) ++ headC ps :: restT ps v = 44 :: (qvL a ++ valsR 44 us ++ headC ps :: restT ps v) := rfl
      have hv := okL_vals (headC ps) (restT ps v) hcx (a :: us) (fun w hw => h3 w (by rw [hus]; simp at hw ⊢; exact .inr hw))
      rw [e] at hv ⊢
      rw [okL_qv u _ 44 (h3 u (by rw [hus]; simp)) (by decide)]
      rw [okL_cons _ 44 (by decide)] at hv
      rw [hv]
      exact ih
theorem okV_of {u : List UInt8} (h : okT u = true ∧ u.contains 13 = false) : okV u = true := by unfold okV; rw [h.1, h.2]; rfl
theorem of_okV {u : List UInt8} (h : okV u = true) : okT u = true ∧ u.contains 13 = false := by
  unfold okV at h
  rw [Bool.and_eq_true, Bool.not_eq_true'] at h
  exact h
theorem okL_print (g n : List UInt8) (ps : Ps) (v : List UInt8) (h : Right g n ps v) : okL (printL g n ps v) = true := by
  have hn : n.all plainB = true := by
    have := h.n
    unfold isName at this
    rw [Bool.and_eq_true] at this
    exact names_plain _ this.1
  have ht := okL_tail v ps (fun p hp => ⟨(h.ps p hp).1, (h.ps p hp).2.1, fun u hu => okV_of ((h.ps p hp).2.2 u hu)⟩)
  have hv : okL v = true := by unfold okL; rw [h.v.1, h.v.2]; rfl
  rw [hv] at ht
  unfold printL headL
  by_cases hg : g = []
  · rw [if_pos hg, okL_plain _ _ hn, ht]
  · rw [if_neg hg]
    have hgn : g.all plainB = true := by
      rcases h.g with h | h
      · exact absurd h hg
      · unfold isName at h
        rw [Bool.and_eq_true] at h
        exact names_plain _ h.1
    rw [List.append_assoc, okL_plain _ _ hgn, List.cons_append, okL_cons _ 46 (by decide), okL_plain _ _ hn, ht]
theorem roundtrip (g n : List UInt8) (ps : Ps) (v : List UInt8) (h : Right g n ps v) : parseS (printL g n ps v) = (g, n, ps, v, 0) := by
  have hk := okL_print g n ps v h
  unfold okL at hk
  rw [Bool.and_eq_true, Bool.not_eq_true'] at hk
  exact parse_print g n ps v h hk.1 hk.2
end Go.Proofs.YthabooeapfepnaaGreatDoor.PL
