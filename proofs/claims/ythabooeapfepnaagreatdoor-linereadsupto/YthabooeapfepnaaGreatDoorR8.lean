import Derived.Test.YthabooeapfepnaaGreatDoorR7
namespace Go.Proofs.YthabooeapfepnaaGreatDoor.PL
open Go.RowKit Go.Lib Go.Proofs.YthabooeapfepnaaGreatDoor.Given Go.Proofs.YthabooeapfepnaaGreatDoor.Text Go.Proofs.YthabooeapfepnaaGreatDoorW.PrintWords
set_option linter.unusedVariables false
theorem meant_none (u r : List UInt8) (h : u.any (· == 94) = false) : meantL (u ++ r) = u ++ meantL r := by
  induction u with
  | nil => rfl
  | cons b u ih =>
    rw [List.any_cons, Bool.or_eq_false_iff, beq_eq_false_iff_ne] at h
    have e : meantL (b :: (u ++ r)) = b :: meantL (u ++ r) := by
      rw [meantL]
      all_goals (intros; simp_all)
    rw [List.cons_append, e, ih h.2]; rfl
theorem okV_cons (r : List UInt8) (c : UInt8) (hc : c.toNat < 128) (h2 : ctlB c = false) (h13 : c ≠ 13) : okV (c :: r) = okV r := by
  have := okV_mid [] r c hc h2 h13
  rw [List.nil_append] at this
  rw [this]; rfl
theorem okV_meant : ∀ (n : Nat) (u : List UInt8), u.length ≤ n → okV u = true → okV (meantL u) = true := by
  intro n
  induction n with
  | zero =>
    intro u hu h
    have : u = [] := List.eq_nil_of_length_eq_zero (by omega)
    subst this; exact h
  | succ n ih =>
    intro u hu h
    cases hs : u.any (· == 94)
    · have := meant_none u [] hs
      rw [List.append_nil] at this
      rw [this]
      show okV (u ++ []) = true
      rw [List.append_nil]; exact h
    · obtain ⟨a, c, r, rfl, ha, hc⟩ := split_at (· == 94) u hs
      obtain rfl : c = 94 := by simpa using hc
      rw [okV_mid a r 94 (by decide) (by decide) (by decide), Bool.and_eq_true] at h
      rw [List.length_append, List.length_cons] at hu
      rw [meant_none a _ ha]
      match r, h, hu with
      | [], h, hu =>
        show okV (a ++ 94 :: []) = true
        rw [okV_mid a [] 94 (by decide) (by decide) (by decide), h.1]; rfl
      | d :: r, h, hu =>
        rw [List.length_cons] at hu
        by_cases h1 : d = 110
        · subst h1
          rw [okV_cons r 110 (by decide) (by decide) (by decide)] at h
          show okV (a ++ 10 :: meantL r) = true
          rw [okV_mid a _ 10 (by decide) (by decide) (by decide), h.1, ih r (by omega) h.2]; rfl
        · by_cases h2 : d = 94
          · subst h2
            rw [okV_cons r 94 (by decide) (by decide) (by decide)] at h
            show okV (a ++ 94 :: meantL r) = true
            rw [okV_mid a _ 94 (by decide) (by decide) (by decide), h.1, ih r (by omega) h.2]; rfl
          · by_cases h3 : d = 39
            · subst h3
              rw [okV_cons r 39 (by decide) (by decide) (by decide)] at h
              show okV (a ++ 34 :: meantL r) = true
              rw [okV_mid a _ 34 (by decide) (by decide) (by decide), h.1, ih r (by omega) h.2]; rfl
            · have e : meantL (94 :: d :: r) = 94 :: meantL (d :: r) := by
                rw [meantL]
                all_goals (intros; simp_all)
              rw [e, okV_mid a _ 94 (by decide) (by decide) (by decide), h.1, ih (d :: r) (by rw [List.length_cons]; omega) h.2]; rfl
theorem meant_le : ∀ (n : Nat) (u : List UInt8), u.length ≤ n → (meantL u).length ≤ u.length := by
  intro n
  induction n with
  | zero =>
    intro u hu
    have : u = [] := List.eq_nil_of_length_eq_zero (by omega)
    subst this; exact Nat.le_refl _
  | succ n ih =>
    intro u hu
    match u, hu with
    | [], _ => exact Nat.le_refl _
    | b :: u, hu =>
      rw [List.length_cons] at hu
      have h1 := ih u (by omega)
      by_cases hb : b = 94
      · subst hb
        match u, hu, h1 with
        | [], _, _ => exact Nat.le_refl _
        | d :: u, hu, h1 =>
          rw [List.length_cons] at hu
          have h2 := ih u (by omega)
          by_cases d1 : d = 110
          · subst d1; show (10 :: meantL u).length ≤ _; simp only [List.length_cons]; omega
          · by_cases d2 : d = 94
            · subst d2; show (94 :: meantL u).length ≤ _; simp only [List.length_cons]; omega
            · by_cases d3 : d = 39
              · subst d3; show (34 :: meantL u).length ≤ _; simp only [List.length_cons]; omega
              · have e : meantL (94 :: d :: u) = 94 :: meantL (d :: u) := by
                  rw [meantL]
                  all_goals (intros; simp_all)
                rw [e, List.length_cons, List.length_cons (a := 94)]; omega
      · have e : meantL (b :: u) = b :: meantL u := by
          rw [meantL]
          all_goals (intros; simp_all)
        rw [e, List.length_cons, List.length_cons]; omega
theorem qvL_le (u : List UInt8) : (qvL u).length ≤ 2 * u.length + 2 ∧ u.length ≤ (qvL u).length := by
  have h1 := quoteL_le u
  have h2 : u.length ≤ (quoteL u).length := by rw [quoteL_length]; omega
  unfold qvL
  split
  · rw [List.length_cons, List.length_append]
    simp only [List.length_cons, List.length_nil]
    omega
  · omega
theorem value_right (l : List UInt8) (bad : Int) (hl : okL l = true) (hb : (valueS l bad).2.2 = 0) :
    okV (valueS l bad).1 = true ∧ okL (valueS l bad).2.1 = true ∧ (qvL (valueS l bad).1).length + 3 * (valueS l bad).2.1.length ≤ 3 * l.length + 2 ∧ bad = 0 := by
  unfold valueS at hb ⊢
  by_cases hh : l.head? = some 34
  · rw [if_pos hh] at hb ⊢
    obtain ⟨t, rfl⟩ : ∃ t, l = 34 :: t := by
      cases l with
      | nil => cases hh
      | cons b t => exact ⟨t, by have : b = 34 := by simpa using hh
                                 rw [this]⟩
    rw [okL_cons t 34 (by decide)] at hl
    have e1 : (34 :: t).drop 1 = t := rfl
    rw [e1] at hb ⊢
    by_cases ha : t.all notQ = true
    · rw [if_pos ha] at hb
      exact absurd hb (failE_ne bad)
    · rw [if_neg ha] at hb ⊢
      have h1 : t.any (fun b => !notQ b) = true := by
        rw [← List.not_all_eq_any_not]; simpa using ha
      obtain ⟨a, c, r, ht, hna, hc⟩ := split_at (fun b => !notQ b) t h1
      have hall : a.all notQ = true := by
        have h2 : (!a.all notQ) = false := by rw [List.not_all_eq_any_not]; exact hna
        simpa using h2
      have hc34 : c = 34 := by
        have h3 : notQ c = false := by simpa using hc
        unfold notQ at h3; simpa using h3
      subst hc34
      have e := stop_at notQ a r 34 hall (by decide)
      rw [ht] at hl ⊢
      rw [okL_mid a r 34 (by decide), Bool.and_eq_true] at hl
      rw [e.1, e.2]
      have hq := qvL_le (meantL a)
      have hm := meant_le a.length a (Nat.le_refl _)
      refine ⟨okV_meant a.length a (Nat.le_refl _) (okL_V a hl.1), hl.2, ?_, hb⟩
      show (qvL (meantL a)).length + 3 * r.length ≤ 3 * (34 :: (a ++ 34 :: r)).length + 2
      rw [List.length_cons, List.length_append, List.length_cons]
      omega
  · rw [if_neg hh] at hb ⊢
    refine ⟨?_, ?_, ?_, hb⟩
    all_goals
      cases hs : l.all notSep
      · have h1 : l.any (fun b => !notSep b) = true := by
          rw [← List.not_all_eq_any_not, hs]; rfl
        obtain ⟨a, c, r, ht, hna, hc⟩ := split_at (fun b => !notSep b) l h1
        have hall : a.all notSep = true := by
          have h2 : (!a.all notSep) = false := by rw [List.not_all_eq_any_not]; exact hna
          simpa using h2
        have hcs : notSep c = false := by simpa using hc
        have hcp : plainB c = true := by
          unfold notSep seps at hcs
          have h4 : ([44, 59, 58, 34] : List UInt8).contains c = true := by
            cases hx : ([44, 59, 58, 34] : List UInt8).contains c
            · rw [hx] at hcs; cases hcs
            · rfl
          simp only [List.contains_cons, List.contains_nil, Bool.or_false, Bool.or_eq_true, beq_iff_eq] at h4
          rcases h4 with rfl | rfl | rfl | rfl <;> decide
        have e := stop_at notSep a r c hall hcs
        rw [ht] at hl ⊢
        rw [okL_mid a r c hcp, Bool.and_eq_true] at hl
        have hq := qvL_le (meantL a)
        have hm := meant_le a.length a (Nat.le_refl _)
        first
          | (show okV (meantL ((a ++ c :: r).takeWhile notSep)) = true; rw [e.1]; exact okV_meant a.length a (Nat.le_refl _) (okL_V a hl.1))
          | (show okL ((a ++ c :: r).dropWhile notSep) = true; rw [e.2, okL_cons r c hcp]; exact hl.2)
          | (show (qvL (meantL ((a ++ c :: r).takeWhile notSep))).length + 3 * ((a ++ c :: r).dropWhile notSep).length ≤ _; rw [e.1, e.2, List.length_append, List.length_cons]; omega)
      · have e := takeWhile_all notSep l hs
        have hq := qvL_le (meantL l)
        have hm := meant_le l.length l (Nat.le_refl _)
        first
          | (show okV (meantL (l.takeWhile notSep)) = true; rw [e.1]; exact okV_meant l.length l (Nat.le_refl _) (okL_V l hl))
          | (show okL (l.dropWhile notSep) = true; rw [e.2]; rfl)
          | (show (qvL (meantL (l.takeWhile notSep))).length + 3 * (l.dropWhile notSep).length ≤ _; rw [e.1, e.2, List.length_nil]; omega)
theorem sign_right (signs l : List UInt8) (bad : Int) (hs : signs.all plainB = true) (hl : okL l = true) (hb : (signS signs l bad).2.2 = 0) :
    okL (signS signs l bad).2.1 = true ∧ (signS signs l bad).2.1.length + 1 = l.length ∧ bad = 0 := by
  cases l with
  | nil => exact absurd hb (failE_ne bad)
  | cons b t =>
    cases hc : signs.contains b
    · have e : signS signs (b :: t) bad = (0, b :: t, failE bad 31) := by
        show (if signs.contains b = true then ((b.toNat : Int), t, bad) else (0, b :: t, failE bad 31)) = _
        rw [hc]; rfl
      rw [e] at hb
      exact absurd hb (failE_ne bad)
    · rw [sign_hit' signs b t bad hc] at hb ⊢
      have hp : plainB b = true := by
        rw [List.all_eq_true] at hs
        exact hs b (by simpa using hc)
      rw [okL_cons t b hp] at hl
      exact ⟨hl, rfl, hb⟩
def wt (vs : List (List UInt8)) : Nat := (valsR 44 vs).length
theorem wt_snoc (vs : List (List UInt8)) (u : List UInt8) : wt (vs ++ [u]) = wt vs + 1 + (qvL u).length := by
  unfold wt
  rw [valsR_snoc, List.length_append, List.length_cons]; omega
theorem valsR_any (c : UInt8) (vs : List (List UInt8)) : (valsR c vs).length = wt vs := by
  cases vs <;> rfl
theorem vals_right : ∀ (n : Nat) (c : Int) (l : List UInt8) (bad : Int) (vs : List (List UInt8)), okL l = true → (∀ u ∈ vs, okV u = true) → (valsS n c l bad vs).2.2.2 = 0 →
    (∀ u ∈ (valsS n c l bad vs).1, okV u = true) ∧ okL (valsS n c l bad vs).2.2.1 = true ∧ wt (valsS n c l bad vs).1 + 3 * (valsS n c l bad vs).2.2.1.length ≤ wt vs + 3 * l.length ∧ bad = 0 ∧ vs.length ≤ (valsS n c l bad vs).1.length
  | 0, c, l, bad, vs, hl, hv, hb => ⟨hv, hl, Nat.le_refl _, hb, Nat.le_refl _⟩
  | n + 1, c, l, bad, vs, hl, hv, hb => by
    unfold valsS at hb ⊢
    by_cases hc : c = 61 ∨ c = 44
    · rw [if_pos hc] at hb ⊢
      have hs0 : (signS [44, 59, 58] (valueS l bad).2.1 (valueS l bad).2.2).2.2 = 0 := Classical.byContradiction fun h => valsS_bad n _ _ _ _ h hb
      have hv0 : (valueS l bad).2.2 = 0 := Classical.byContradiction fun h => signS_bad _ _ _ h hs0
      obtain ⟨v1, v2, v3, v4⟩ := value_right l bad hl hv0
      obtain ⟨s1, s2, _⟩ := sign_right [44, 59, 58] _ _ (by decide) v2 hs0
      obtain ⟨i1, i2, i3, _, i5⟩ := vals_right n _ _ _ (vs ++ [(valueS l bad).1]) s1 (fun u hu => by
        rcases List.mem_append.1 hu with h | h
        · exact hv u h
        · obtain rfl : u = (valueS l bad).1 := by simpa using h
          exact v1) hb
      rw [wt_snoc] at i3
      rw [List.length_append] at i5
      exact ⟨i1, i2, by omega, v4, by omega⟩
    · rw [if_neg hc] at hb ⊢
      exact ⟨hv, hl, Nat.le_refl _, hb, Nat.le_refl _⟩
theorem taken_all (p : UInt8 → Bool) (l : List UInt8) : (l.takeWhile p).all p = true := by
  induction l with
  | nil => rfl
  | cons b l ih =>
    rw [List.takeWhile_cons]
    cases h : p b
    · rfl
    · simp only [if_true]
      rw [List.all_cons, h, ih]; rfl
theorem name_right (l : List UInt8) (bad : Int) (hl : okL l = true) (hb : (nameS l bad).2.2 = 0) :
    isName (nameS l bad).1 = true ∧ okL (nameS l bad).2.1 = true ∧ (nameS l bad).1.length + (nameS l bad).2.1.length = l.length ∧ bad = 0 := by
  have hall : (l.takeWhile inName).all inName = true := taken_all inName l
  have hsplit := List.takeWhile_append_dropWhile (p := inName) (l := l)
  have hf : fitsL (l.takeWhile inName) = true := by
    unfold nameS at hb
    cases hf : fitsL (l.takeWhile inName)
    · rw [hf] at hb
      have : failE bad 30 = 0 := hb
      unfold failE at this
      split at this
      · cases this
      · exact absurd this ‹_›
    · rfl
  refine ⟨?_, ?_, ?_, ?_⟩
  · show isName (l.takeWhile inName) = true
    unfold isName
    rw [hall, hf]; rfl
  · show okL (l.dropWhile inName) = true
    rw [← hsplit, okL_plain _ _ (names_plain _ hall)] at hl
    exact hl
  · show (l.takeWhile inName).length + (l.dropWhile inName).length = l.length
    rw [← List.length_append, hsplit]
  · unfold nameS at hb
    rw [hf] at hb
    exact hb
def RightP (p : List UInt8 × List (List UInt8)) : Prop := isName p.1 = true ∧ p.2 ≠ [] ∧ ∀ u ∈ p.2, okV u = true
theorem param_right (l : List UInt8) (hl : okL l = true) (hb : (paramS l 0).2.2.2 = 0) :
    RightP ((nameS l 0).1, (paramS l 0).1) ∧ okL (paramS l 0).2.2.1 = true ∧ 1 + (nameS l 0).1.length + wt (paramS l 0).1 + 3 * (paramS l 0).2.2.1.length ≤ 3 * l.length := by
  unfold paramS at hb ⊢
  have hs0 : (signS [61] (nameS l 0).2.1 (nameS l 0).2.2).2.2 = 0 := Classical.byContradiction fun h => valsS_bad _ _ _ _ _ h hb
  have hn0 : (nameS l 0).2.2 = 0 := Classical.byContradiction fun h => signS_bad _ _ _ h hs0
  obtain ⟨n1, n2, n3, _⟩ := name_right l 0 hl hn0
  obtain ⟨s1, s2, _⟩ := sign_right [61] _ _ (by decide) n2 hs0
  obtain ⟨v1, v2, v3, _, _⟩ := vals_right _ _ _ _ [] s1 (fun u hu => by cases hu) hb
  have h61 : (signS [61] (nameS l 0).2.1 (nameS l 0).2.2).1 = 61 := by
    cases hm : (nameS l 0).2.1 with
    | nil => rw [hm] at s2; simp at s2
    | cons b t =>
      rw [hm] at hs0
      cases hc : ([61] : List UInt8).contains b
      · have e : signS [61] (b :: t) (nameS l 0).2.2 = (0, b :: t, failE (nameS l 0).2.2 31) := by
          show (if ([61] : List UInt8).contains b = true then ((b.toNat : Int), t, (nameS l 0).2.2) else (0, b :: t, failE (nameS l 0).2.2 31)) = _
          rw [hc]; rfl
        rw [e] at hs0
        exact absurd hs0 (failE_ne _)
      · rw [sign_hit' [61] b t _ hc]
        have : b = 61 := by simpa using hc
        rw [this]; rfl
  have hne : (valsS ((signS [61] (nameS l 0).2.1 (nameS l 0).2.2).2.1.length + 1) (signS [61] (nameS l 0).2.1 (nameS l 0).2.2).1 (signS [61] (nameS l 0).2.1 (nameS l 0).2.2).2.1 (signS [61] (nameS l 0).2.1 (nameS l 0).2.2).2.2 []).1 ≠ [] := by
    generalize hN : (signS [61] (nameS l 0).2.1 (nameS l 0).2.2).2.1.length = N at *
    rw [h61] at hb ⊢
    generalize (signS [61] (nameS l 0).2.1 (nameS l 0).2.2).2.1 = L2 at *
    generalize (signS [61] (nameS l 0).2.1 (nameS l 0).2.2).2.2 = B2 at *
    unfold valsS at hb ⊢
    rw [if_pos (.inl rfl)] at hb ⊢
    have hs3 : (signS [44, 59, 58] (valueS L2 B2).2.1 (valueS L2 B2).2.2).2.2 = 0 := Classical.byContradiction fun h => valsS_bad _ _ _ _ _ h hb
    have hv3 : (valueS L2 B2).2.2 = 0 := Classical.byContradiction fun h => signS_bad _ _ _ h hs3
    obtain ⟨w1, w2, _, _⟩ := value_right L2 B2 s1 hv3
    obtain ⟨t1, _, _⟩ := sign_right [44, 59, 58] _ _ (by decide) w2 hs3
    obtain ⟨_, _, _, _, i5⟩ := vals_right N _ _ _ ([] ++ [(valueS L2 B2).1]) t1 (fun u hu => by
      obtain rfl : u = (valueS L2 B2).1 := by simpa using hu
      exact w1) hb
    intro hh
    rw [hh] at i5
    simp at i5
  refine ⟨⟨n1, hne, v1⟩, v2, ?_⟩
  have hw0 : wt [] = 0 := rfl
  rw [hw0] at v3
  omega
def tl (ps : Ps) : Nat := (tailT ps []).length
theorem tail_len (ps : Ps) (v : List UInt8) : (tailT ps v).length = tl ps + v.length := by
  induction ps with
  | nil => simp [tl, tailT]; omega
  | cons p ps ih =>
    unfold tl at ih ⊢
    simp only [tailT, List.length_cons, List.length_append, ih]
    omega
theorem tl_snoc (ps : Ps) (p : List UInt8 × List (List UInt8)) : tl (ps ++ [p]) = tl ps + 1 + p.1.length + wt p.2 := by
  induction ps with
  | nil =>
    unfold tl
    simp only [List.nil_append, tailT, List.length_cons, List.length_append, List.length_nil, valsR_any]
    omega
  | cons q ps ih =>
    unfold tl at ih ⊢
    rw [List.cons_append]
    simp only [tailT, List.length_cons, List.length_append, ih]
    omega
theorem pars_right : ∀ (n : Nat) (c : Int) (l : List UInt8) (bad : Int) (ps : Ps), okL l = true → (∀ p ∈ ps, RightP p) → (parsS n c l bad ps).2.2 = 0 →
    (∀ p ∈ (parsS n c l bad ps).1, RightP p) ∧ okL (parsS n c l bad ps).2.1 = true ∧ tl (parsS n c l bad ps).1 + 3 * (parsS n c l bad ps).2.1.length ≤ tl ps + 3 * l.length ∧ bad = 0
  | 0, c, l, bad, ps, hl, hp, hb => ⟨hp, hl, Nat.le_refl _, hb⟩
  | n + 1, c, l, bad, ps, hl, hp, hb => by
    unfold parsS at hb ⊢
    by_cases hc : c = 59 ∧ bad = 0
    · rw [if_pos hc] at hb ⊢
      obtain ⟨_, rfl⟩ := hc
      have hpb : (paramS l 0).2.2.2 = 0 := by
        apply Classical.byContradiction
        intro h
        have e : ∀ m, parsS m (paramS l 0).2.1 (paramS l 0).2.2.1 (paramS l 0).2.2.2 (ps ++ [((nameS l 0).1, (paramS l 0).1)]) = (ps ++ [((nameS l 0).1, (paramS l 0).1)], (paramS l 0).2.2.1, (paramS l 0).2.2.2) := by
          intro m
          cases m with
          | zero => rfl
          | succ m => unfold parsS; rw [if_neg (fun g => h g.2)]
        rw [e] at hb
        exact h hb
      obtain ⟨r1, r2, r3⟩ := param_right l hl hpb
      obtain ⟨i1, i2, i3, _⟩ := pars_right n _ _ _ (ps ++ [((nameS l 0).1, (paramS l 0).1)]) r2 (fun p hq => by
        rcases List.mem_append.1 hq with h | h
        · exact hp p h
        · obtain rfl : p = ((nameS l 0).1, (paramS l 0).1) := by simpa using h
          exact r1) hb
      rw [tl_snoc] at i3
      refine ⟨i1, i2, ?_, rfl⟩
      simp only [] at i3
      omega
    · rw [if_neg hc] at hb ⊢
      exact ⟨hp, hl, Nat.le_refl _, hb⟩
theorem fin_right (g n : List UInt8) (r : Ps × List UInt8 × Int) (h : (finS g n r).2.2.2.2 = 0) : r.2.2 = 0 ∧ finS g n r = (g, n, r.1, r.2.1, 0) := by
  unfold finS at h ⊢
  by_cases hr : r.2.2 = 0
  · rw [if_pos hr]; exact ⟨hr, rfl⟩
  · rw [if_neg hr] at h; exact absurd h hr
theorem right_mk (g n : List UInt8) (ps : Ps) (v : List UInt8) (hg : g = [] ∨ isName g = true) (hn : isName n = true) (hp : ∀ p ∈ ps, RightP p) (hv : okL v = true) : Right g n ps v :=
  ⟨hg, hn, fun p h => ⟨(hp p h).1, (hp p h).2.1, fun u hu => of_okV ((hp p h).2.2 u hu)⟩, by
    unfold okL at hv
    rw [Bool.and_eq_true, Bool.not_eq_true'] at hv
    exact hv⟩
theorem parse_right (l : List UInt8) (h : (parseS l).2.2.2.2 = 0) : Right (parseS l).1 (parseS l).2.1 (parseS l).2.2.1 (parseS l).2.2.2.1 ∧ (printL (parseS l).1 (parseS l).2.1 (parseS l).2.2.1 (parseS l).2.2.2.1).length ≤ 3 * l.length + 10 := by
  unfold parseS at h ⊢
  by_cases h0 : okT l = false ∨ crlfL l = true
  · rw [if_pos h0] at h; cases h
  rw [if_neg h0] at h ⊢
  have hl : okL l = true := by
    unfold okL
    cases h1 : okT l
    · exact absurd (.inl h1) h0
    · cases h2 : crlfL l
      · rfl
      · exact absurd (.inr h2) h0
  have ht0 : tl [] = 1 := rfl
  by_cases h46 : (signS [46, 59, 58] (nameS l 0).2.1 (nameS l 0).2.2).1 = 46
  · rw [if_pos h46] at h ⊢
    obtain ⟨hr, he⟩ := fin_right _ _ _ h
    rw [he]
    have hst : (signS [59, 58] (nameS (signS [46, 59, 58] (nameS l 0).2.1 (nameS l 0).2.2).2.1 (signS [46, 59, 58] (nameS l 0).2.1 (nameS l 0).2.2).2.2).2.1 (nameS (signS [46, 59, 58] (nameS l 0).2.1 (nameS l 0).2.2).2.1 (signS [46, 59, 58] (nameS l 0).2.1 (nameS l 0).2.2).2.2).2.2).2.2 = 0 := by
      apply Classical.byContradiction
      intro g
      unfold parsS at hr
      rw [if_neg (fun q => g q.2)] at hr
      exact g hr
    generalize hA : signS [46, 59, 58] (nameS l 0).2.1 (nameS l 0).2.2 = A at *
    have hn2 : (nameS A.2.1 A.2.2).2.2 = 0 := Classical.byContradiction fun g => signS_bad _ _ _ g hst
    have hA0 : A.2.2 = 0 := by
      apply Classical.byContradiction
      intro g
      apply g
      unfold nameS at hn2
      simp only [] at hn2
      split at hn2
      · exact hn2
      · exact absurd hn2 (failE_ne' _ _ g)
    have hn1 : (nameS l 0).2.2 = 0 := by
      apply Classical.byContradiction
      intro g
      have := signS_bad [46, 59, 58] (nameS l 0).2.1 _ g
      rw [hA] at this
      exact this hA0
    obtain ⟨a1, a2, a3, _⟩ := name_right l 0 hl hn1
    have hsr := sign_right [46, 59, 58] (nameS l 0).2.1 (nameS l 0).2.2 (by decide) a2 (by rw [hA]; exact hA0)
    rw [hA] at hsr
    obtain ⟨b1, b2, _⟩ := hsr
    obtain ⟨c1, c2, c3, _⟩ := name_right A.2.1 A.2.2 b1 hn2
    obtain ⟨d1, d2, _⟩ := sign_right [59, 58] _ _ (by decide) c2 hst
    obtain ⟨e1, e2, e3, _⟩ := pars_right _ _ _ _ [] d1 (fun p hp => by cases hp) hr
    refine ⟨right_mk _ _ _ _ (.inr a1) c1 e1 e2, ?_⟩
    unfold printL
    rw [List.length_append, tail_len]
    have hh : (headL (nameS l 0).1 (nameS A.2.1 A.2.2).1).length ≤ (nameS l 0).1.length + 1 + (nameS A.2.1 A.2.2).1.length := by
      unfold headL
      split
      · omega
      · rw [List.length_append, List.length_cons]; omega
    simp only [] at e3 ⊢
    omega
  · rw [if_neg h46] at h ⊢
    obtain ⟨hr, he⟩ := fin_right _ _ _ h
    rw [he]
    have hst : (signS [46, 59, 58] (nameS l 0).2.1 (nameS l 0).2.2).2.2 = 0 := by
      apply Classical.byContradiction
      intro g
      unfold parsS at hr
      rw [if_neg (fun q => g q.2)] at hr
      exact g hr
    have hn1 : (nameS l 0).2.2 = 0 := Classical.byContradiction fun g => signS_bad _ _ _ g hst
    obtain ⟨a1, a2, a3, _⟩ := name_right l 0 hl hn1
    obtain ⟨b1, b2, _⟩ := sign_right [46, 59, 58] _ _ (by decide) a2 hst
    obtain ⟨e1, e2, e3, _⟩ := pars_right _ _ _ _ [] b1 (fun p hp => by cases hp) hr
    refine ⟨right_mk _ _ _ _ (.inl rfl) a1 e1 e2, ?_⟩
    unfold printL
    rw [List.length_append, tail_len]
    have hh : (headL [] (nameS l 0).1).length = (nameS l 0).1.length := rfl
    simp only [] at e3 ⊢
    omega
end Go.Proofs.YthabooeapfepnaaGreatDoor.PL
