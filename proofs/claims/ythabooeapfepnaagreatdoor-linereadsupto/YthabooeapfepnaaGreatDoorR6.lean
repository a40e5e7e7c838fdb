import Derived.Test.YthabooeapfepnaaGreatDoorR5
namespace Go.Proofs.YthabooeapfepnaaGreatDoor.PL
open Go.RowKit Go.Lib Go.Proofs.YthabooeapfepnaaGreatDoor.Given Go.Proofs.YthabooeapfepnaaGreatDoor.Text Go.Proofs.YthabooeapfepnaaGreatDoorW.PrintWords
set_option linter.unusedVariables false
def qvL (u : List UInt8) : List UInt8 := if ((quoteL u).any fun b => ([44, 59, 58] : List UInt8).contains b) = true then 34 :: (quoteL u ++ [34]) else quoteL u
def valsR (c : UInt8) : List (List UInt8) → List UInt8
  | [] => []
  | u :: us => c :: (qvL u ++ valsR 44 us)
def tailT : Ps → List UInt8 → List UInt8
  | [], v => 58 :: v
  | p :: ps, v => 59 :: (p.1 ++ (valsR 61 p.2 ++ tailT ps v))
def headL (g n : List UInt8) : List UInt8 := if g = [] then n else g ++ 46 :: n
def printL (g n : List UInt8) (ps : Ps) (v : List UInt8) : List UInt8 := headL g n ++ tailT ps v
theorem qv_B (u : List UInt8) : qv (B u) = qvL u := by
  unfold qv qvL
  rw [any_of, B_data]
theorem valsR_snoc (c : UInt8) : ∀ (us : List (List UInt8)) (u : List UInt8), valsR c (us ++ [u]) = valsR c us ++ (if us = [] then c else 44) :: qvL u
  | [], u => by
    show c :: (qvL u ++ []) = [] ++ (if ([] : List (List UInt8)) = [] then c else 44) :: qvL u
    rw [if_pos rfl, List.append_nil]; rfl
  | a :: us, u => by
    have hx : (if us = [] then (44 : UInt8) else 44) = 44 := by split <;> rfl
    have h := valsR_snoc 44 us u
    rw [hx] at h
    show c :: (qvL a ++ valsR 44 (us ++ [u])) = c :: (qvL a ++ valsR 44 us) ++ (if a :: us = [] then c else 44) :: qvL u
    rw [h, if_neg (by simp)]
    simp
theorem valsN_take (us : List (List UInt8)) : ∀ n, n ≤ us.length → valsN (us.map B) n = valsR 61 (us.take n)
  | 0, _ => rfl
  | n + 1, h => by
    have hn : n < us.length := h
    rw [valsN_succ, valsN_take us n (by omega), List.take_succ_eq_append_getElem hn, valsR_snoc]
    have e : (us.map B).getD n ByteArray.empty = B us[n] := by
      rw [List.getD_eq_getElem?_getD, List.getElem?_map, List.getElem?_eq_getElem hn]; rfl
    rw [e]
    unfold valT
    rw [qv_B]
    by_cases h0 : n = 0
    · subst h0; simp
    · have : us.take n ≠ [] := by
        intro h1
        have h2 := congrArg List.length h1
        rw [List.length_take, List.length_nil] at h2
        omega
      rw [if_neg h0, if_neg this]
theorem valsN_all (us : List (List UInt8)) : valsN (us.map B) (us.map B).length = valsR 61 us := by
  rw [List.length_map, valsN_take us us.length (Nat.le_refl _), List.take_length]
theorem parT_B (p : List UInt8 × List (List UInt8)) : parT (pB p) = 59 :: (p.1 ++ valsR 61 p.2) := by
  unfold parT
  show 59 :: ((B p.1).data.toList ++ valsN (p.2.map B) (p.2.map B).length) = _
  rw [valsN_all, B_data]
theorem parsN_flat (l : List S31) : ∀ n, n ≤ l.length → parsN l n = (l.take n).flatMap parT
  | 0, _ => rfl
  | n + 1, h => by
    have hn : n < l.length := h
    rw [parsN_succ, parsN_flat l n (by omega), List.take_succ_eq_append_getElem hn, List.flatMap_append]
    have e : rd_T31 l (n : Int) = l[n] := by
      unfold rd_T31
      rw [Int.toNat_natCast, List.getD_eq_getElem?_getD, List.getElem?_eq_getElem hn]; rfl
    rw [e]; simp
theorem tail_flat (ps : Ps) (v : List UInt8) : (ps.map pB).flatMap parT ++ 58 :: v = tailT ps v := by
  induction ps with
  | nil => rfl
  | cons p ps ih =>
    rw [List.map_cons, List.flatMap_cons, parT_B, List.append_assoc, ih]
    simp [tailT]
theorem headT_B (g n : List UInt8) : headT (B g) (B n) = headL g n := by
  unfold headT headL
  rw [B_toList, B_data, B_data]
  cases g <;> simp
theorem printT_B (g n : List UInt8) (ps : Ps) (v : List UInt8) : printT (B g) (B n) (ps.map pB) (B v) = printL g n ps v := by
  unfold printT printL
  rw [headT_B, parsN_flat _ _ (Nat.le_refl _), List.take_length, B_data, tail_flat]
theorem meant_quote (u : List UInt8) : meantL (quoteL u) = u := by
  induction u with
  | nil => rfl
  | cons b u ih =>
    have e : quoteL (b :: u) = qb b ++ quoteL u := rfl
    rw [e]
    unfold qb
    by_cases h1 : b = 10
    · subst h1; show 10 :: meantL (quoteL u) = _; rw [ih]
    · rw [if_neg h1]
      by_cases h2 : b = 94
      · subst h2; show 94 :: meantL (quoteL u) = _; rw [ih]
      · rw [if_neg h2]
        by_cases h3 : b = 34
        · subst h3; show 34 :: meantL (quoteL u) = _; rw [ih]
        · rw [if_neg h3]
          show meantL (b :: quoteL u) = _
          have : meantL (b :: quoteL u) = b :: meantL (quoteL u) := by
            rw [meantL]
            all_goals (intros; simp_all)
          rw [this, ih]
theorem quote_notQ (u : List UInt8) : (quoteL u).all notQ = true := by
  induction u with
  | nil => rfl
  | cons b u ih =>
    have e : quoteL (b :: u) = qb b ++ quoteL u := rfl
    rw [e, List.all_append, ih, Bool.and_true]
    unfold qb
    by_cases h1 : b = 10
    · rw [if_pos h1]; rfl
    · rw [if_neg h1]
      by_cases h2 : b = 94
      · rw [if_pos h2]; rfl
      · rw [if_neg h2]
        by_cases h3 : b = 34
        · rw [if_pos h3]; rfl
        · rw [if_neg h3]
          simp [notQ, h3]
theorem stop_at (p : UInt8 → Bool) (v r : List UInt8) (c : UInt8) (hv : v.all p = true) (hc : p c = false) : (v ++ c :: r).takeWhile p = v ∧ (v ++ c :: r).dropWhile p = c :: r := by
  induction v with
  | nil => simp [hc]
  | cons b v ih =>
    rw [List.all_cons, Bool.and_eq_true] at hv
    have := ih hv.2
    simp [hv.1, this]
theorem value_qv (u r : List UInt8) (c : UInt8) (hc : ([44, 59, 58] : List UInt8).contains c = true) : valueS (qvL u ++ c :: r) 0 = (u, c :: r, 0) := by
  have hcs : notSep c = false := by
    unfold notSep seps
    have : ([44, 59, 58, 34] : List UInt8).contains c = true := by
      simp only [List.contains_cons, List.contains_nil, Bool.or_false, Bool.or_eq_true, beq_iff_eq] at hc ⊢
      rcases hc with h | h | h
      · exact .inl h
      · exact .inr (.inl h)
      · exact .inr (.inr (.inl h))
    rw [this]; rfl
  have hc34 : c ≠ 34 := by
    intro h; subst h; revert hc; decide
  unfold qvL
  by_cases hq : ((quoteL u).any fun b => ([44, 59, 58] : List UInt8).contains b) = true
  · rw [if_pos hq]
    have e := stop_at notQ (quoteL u) (c :: r) 34 (quote_notQ u) (by decide)
    have e0 : 34 :: (quoteL u ++ [34]) ++ c :: r = 34 :: (quoteL u ++ 34 :: (c :: r)) := by simp
    rw [e0]
    unfold valueS
    have e3 : (34 :: (quoteL u ++ 34 :: (c :: r))).drop 1 = quoteL u ++ 34 :: (c :: r) := rfl
    rw [if_pos (show (34 :: (quoteL u ++ 34 :: (c :: r))).head? = some 34 from rfl), e3, e.1, e.2, if_neg, meant_quote]
    · rfl
    · intro h
      rw [List.all_append, List.all_cons] at h
      have : notQ 34 = false := by decide
      rw [this] at h
      simp at h
  · rw [if_neg hq]
    have hall : (quoteL u).all notSep = true := by
      have h1 := quote_notQ u
      rw [List.all_eq_true] at h1 ⊢
      intro b hb
      have h2 : ([44, 59, 58] : List UInt8).contains b = false := by
        cases hx : ([44, 59, 58] : List UInt8).contains b
        · rfl
        · exact absurd (List.any_eq_true.2 ⟨b, hb, hx⟩) hq
      have h3 := h1 b hb
      unfold notQ at h3
      unfold notSep seps
      simp only [List.contains_cons, List.contains_nil, Bool.or_false, Bool.or_eq_false_iff, beq_eq_false_iff_ne, bne_iff_ne] at h2 h3 ⊢
      simp [h2, h3]
    have e := stop_at notSep (quoteL u) r c hall hcs
    unfold valueS
    rw [if_neg, e.1, e.2, meant_quote]
    cases hqq : quoteL u with
    | nil => simpa using hc34
    | cons b w =>
      intro h
      have hb : b = 34 := by simpa using h
      rw [hqq, List.all_cons, hb] at hall
      have : notSep 34 = false := by decide
      rw [this] at hall
      simp at hall
theorem valsS_end (n : Nat) (c : Int) (l : List UInt8) (bad : Int) (vs : List (List UInt8)) (h : ¬ (c = 61 ∨ c = 44)) : valsS n c l bad vs = (vs, c, l, bad) := by
  cases n with
  | zero => rfl
  | succ n => unfold valsS; rw [if_neg h]
theorem vals_read (x : UInt8) (R : List UInt8) (hx : x = 59 ∨ x = 58) : ∀ (us : List (List UInt8)) (u : List UInt8) (n : Nat) (c : Int) (vs : List (List UInt8)), us.length < n → (c = 61 ∨ c = 44) →
    valsS n c (qvL u ++ (valsR 44 us ++ x :: R)) 0 vs = (vs ++ u :: us, (x.toNat : Int), R, 0)
  | [], u, n + 1, c, vs, hn, hc => by
    have hxs : ([44, 59, 58] : List UInt8).contains x = true := by rcases hx with rfl | rfl <;> decide
    unfold valsS
    rw [if_pos hc]
    have e0 : qvL u ++ (valsR 44 [] ++ x :: R) = qvL u ++ x :: R := rfl
    have h6 : ¬ ((x.toNat : Int) = 61 ∨ (x.toNat : Int) = 44) := by rcases hx with rfl | rfl <;> decide
    rw [e0, value_qv u R x hxs, sign_hit' _ _ _ _ hxs]
    exact valsS_end n _ _ _ _ h6
  | a :: us, u, n + 1, c, vs, hn, hc => by
    unfold valsS
    rw [if_pos hc]
    have e0 : qvL u ++ (valsR 44 (a :: us) ++ x :: R) = qvL u ++ 44 :: (qvL a ++ (valsR 44 us ++ x :: R)) := by simp [valsR]
    have h44 : ([44, 59, 58] : List UInt8).contains 44 = true := by decide
    rw [e0, value_qv u _ 44 h44, sign_hit' _ _ _ _ h44]
    have ih := vals_read x R hx us a n ((44 : UInt8).toNat : Int) (vs ++ [u]) (by simp at hn; omega) (.inr rfl)
    show valsS n ((44 : UInt8).toNat : Int) (qvL a ++ (valsR 44 us ++ x :: R)) 0 (vs ++ [u]) = _
    rw [ih]
    simp
theorem inName_not (c : UInt8) (hc : c = 59 ∨ c = 58 ∨ c = 46 ∨ c = 61) : inName c = false := by
  rcases hc with rfl | rfl | rfl | rfl <;> decide
theorem name_read (m r : List UInt8) (c : UInt8) (hm : isName m = true) (hc : inName c = false) : nameS (m ++ c :: r) 0 = (m, c :: r, 0) := by
  unfold isName at hm
  rw [Bool.and_eq_true] at hm
  have e := stop_at inName m r c hm.1 hc
  unfold nameS
  rw [e.1, e.2, hm.2, if_pos rfl]
def headC : Ps → UInt8
  | [] => 58
  | _ :: _ => 59
def restT : Ps → List UInt8 → List UInt8
  | [], v => v
  | p :: ps, v => p.1 ++ (valsR 61 p.2 ++ tailT ps v)
theorem tail_cons (ps : Ps) (v : List UInt8) : tailT ps v = headC ps :: restT ps v := by cases ps <;> rfl
theorem headC_or (ps : Ps) : headC ps = 59 ∨ headC ps = 58 := by cases ps; exact .inr rfl; exact .inl rfl
theorem valsR_len (c : UInt8) : ∀ us : List (List UInt8), us.length ≤ (valsR c us).length
  | [] => Nat.le_refl _
  | u :: us => by
    have := valsR_len 44 us
    simp only [valsR, List.length_cons, List.length_append]
    omega
theorem tailT_len : ∀ (ps : Ps) (v : List UInt8), ps.length ≤ (tailT ps v).length
  | [], v => Nat.zero_le _
  | p :: ps, v => by
    have := tailT_len ps v
    simp only [tailT, List.length_cons, List.length_append]
    omega
theorem pars_read (v : List UInt8) : ∀ (ps : Ps) (n : Nat) (acc : Ps), (∀ p ∈ ps, isName p.1 = true ∧ p.2 ≠ []) → ps.length ≤ n →
    parsS n ((headC ps).toNat : Int) (restT ps v) 0 acc = (acc ++ ps, v, 0)
  | [], n, acc, _, _ => by
    cases n with
    | zero => simp [parsS, restT]
    | succ n =>
      unfold parsS
      rw [if_neg (by intro h; exact absurd h.1 (by decide))]
      simp [restT]
  | p :: ps, n + 1, acc, hp, hn => by
    obtain ⟨hname, hne⟩ := hp p (by simp)
    obtain ⟨u, us, hus⟩ : ∃ u us, p.2 = u :: us := by
      cases h : p.2 with
      | nil => exact absurd h hne
      | cons u us => exact ⟨u, us, rfl⟩
    have hc := headC_or ps
    have e1 : restT (p :: ps) v = p.1 ++ 61 :: (qvL u ++ (valsR 44 us ++ headC ps :: restT ps v)) := by
      show p.1 ++ (valsR 61 p.2 ++ tailT ps v) = _
      rw [hus, tail_cons]
      simp [valsR]
    have hn1 := name_read p.1 (qvL u ++ (valsR 44 us ++ headC ps :: restT ps v)) 61 hname (by decide)
    have hs1 := sign_hit' [61] 61 (qvL u ++ (valsR 44 us ++ headC ps :: restT ps v)) 0 (by decide)
    have hlen : us.length < (qvL u ++ (valsR 44 us ++ headC ps :: restT ps v)).length + 1 := by
      have := valsR_len 44 us
      simp only [List.length_append, List.length_cons]
      omega
    have hv := vals_read (headC ps) (restT ps v) hc us u ((qvL u ++ (valsR 44 us ++ headC ps :: restT ps v)).length + 1) 61 [] hlen (.inl rfl)
    have hpar : paramS (restT (p :: ps) v) 0 = (u :: us, ((headC ps).toNat : Int), restT ps v, 0) := by
      unfold paramS
      rw [e1, hn1, hs1]
      exact hv
    have hnm : (nameS (restT (p :: ps) v) 0).1 = p.1 := by rw [e1, hn1]
    unfold parsS
    rw [if_pos ⟨rfl, rfl⟩, hpar, hnm]
    have ih := pars_read v ps n (acc ++ [(p.1, u :: us)]) (fun q hq => hp q (by simp [hq])) (by simp at hn; omega)
    show parsS n ((headC ps).toNat : Int) (restT ps v) 0 (acc ++ [(p.1, u :: us)]) = _
    rw [ih, ← hus]
    simp
structure Right (g n : List UInt8) (ps : Ps) (v : List UInt8) : Prop where
  g : g = [] ∨ isName g = true
  n : isName n = true
  ps : ∀ p ∈ ps, isName p.1 = true ∧ p.2 ≠ [] ∧ ∀ u ∈ p.2, okT u = true ∧ u.contains 13 = false
  v : okT v = true ∧ crlfL v = false
theorem parse_print (g n : List UInt8) (ps : Ps) (v : List UInt8) (h : Right g n ps v) (hok : okT (printL g n ps v) = true) (hcr : crlfL (printL g n ps v) = false) : parseS (printL g n ps v) = (g, n, ps, v, 0) := by
  have hps : ∀ p ∈ ps, isName p.1 = true ∧ p.2 ≠ [] := fun p hp => ⟨(h.ps p hp).1, (h.ps p hp).2.1⟩
  have hc := headC_or ps
  have hcn : inName (headC ps) = false := inName_not _ (by rcases hc with h | h; exact .inl h; exact .inr (.inl h))
  have hlen : ps.length ≤ (printL g n ps v).length + 1 := by
    have := tailT_len ps v
    unfold printL
    rw [List.length_append]; omega
  have hpar := pars_read v ps ((printL g n ps v).length + 1) [] hps hlen
  rw [List.nil_append] at hpar
  have e0 : ¬ (okT (printL g n ps v) = false ∨ crlfL (printL g n ps v) = true) := by rw [hok, hcr]; decide
  unfold parseS
  rw [if_neg e0]
  generalize hL : (printL g n ps v).length + 1 = L at *
  rcases h.g with hg | hg
  · have e1 : printL g n ps v = n ++ headC ps :: restT ps v := by unfold printL headL; rw [if_pos hg, tail_cons]
    have hn1 := name_read n (restT ps v) (headC ps) h.n hcn
    have hs1 := sign_hit' [46, 59, 58] (headC ps) (restT ps v) 0 (by rcases hc with h | h <;> rw [h] <;> decide)
    have h46 : ¬ ((headC ps).toNat : Int) = 46 := by rcases hc with h | h <;> rw [h] <;> decide
    rw [e1, hn1, hs1, if_neg h46, hpar, hg]
    rfl
  · have hgne : g ≠ [] := by
      intro hh; subst hh; revert hg; decide
    have e1 : printL g n ps v = g ++ 46 :: (n ++ headC ps :: restT ps v) := by unfold printL headL; rw [if_neg hgne, tail_cons]; simp
    have hn1 := name_read g (n ++ headC ps :: restT ps v) 46 hg (by decide)
    have hs1 := sign_hit' [46, 59, 58] 46 (n ++ headC ps :: restT ps v) 0 (by decide)
    have hn2 := name_read n (restT ps v) (headC ps) h.n hcn
    have hs2 := sign_hit' [59, 58] (headC ps) (restT ps v) 0 (by rcases hc with h | h <;> rw [h] <;> decide)
    rw [e1, hn1, hs1, if_pos (by rfl), hn2, hs2, hpar]
    rfl
end Go.Proofs.YthabooeapfepnaaGreatDoor.PL
