import Derived.Test.YthabooeapfepnaaGreatDoorS3
import Derived.Test.YthabooeapfepnaaGreatDoorPLx5
namespace Go.Proofs.YthabooeapfepnaaGreatDoor.PL
open Go.RowKit Go.Proofs.YthabooeapfepnaaGreatDoor.Given Go.Proofs.YthabooeapfepnaaGreatDoor.Text Go.Proofs.YthabooeapfepnaaGreatDoorW.PrintWords
set_option linter.unusedVariables false

/-! the plain law of LineQuotes -/
theorem valsS_stop (n : Nat) (c : Int) (l : List UInt8) (bad : Int) (vs : List (List UInt8)) (h : ¬ (c = 61 ∨ c = 44)) : valsS n c l bad vs = (vs, c, l, bad) := by
  cases n with
  | zero => rfl
  | succ n => unfold valsS; rw [if_neg h]
theorem parsS_stop (n : Nat) (c : Int) (l : List UInt8) (bad : Int) (ps : Ps) (h : ¬ (c = 59 ∧ bad = 0)) : parsS n c l bad ps = (ps, l, bad) := by
  cases n with
  | zero => rfl
  | succ n => unfold parsS; rw [if_neg h]
theorem takeWhile_stop (p : UInt8 → Bool) (v r : List UInt8) (c : UInt8) (hv : v.all p = true) (hc : p c = false) : (v ++ c :: r).takeWhile p = v ∧ (v ++ c :: r).dropWhile p = c :: r := by
  induction v with
  | nil => simp [hc]
  | cons b v ih =>
    rw [List.all_cons, Bool.and_eq_true] at hv
    have := ih hv.2
    simp [hv.1, this]
theorem sign_hit (signs : List UInt8) (b : UInt8) (t : List UInt8) (bad : Int) (h : signs.contains b = true) : signS signs (b :: t) bad = ((b.toNat : Int), t, bad) := by
  show (if signs.contains b = true then ((b.toNat : Int), t, bad) else (0, b :: t, failE bad 31)) = _
  rw [h]; rfl
theorem name_one (b c : UInt8) (t : List UInt8) (bad : Int) (hb : inName b = true) (hc : inName c = false) : nameS (b :: c :: t) bad = ([b], c :: t, bad) := by
  unfold nameS
  have e1 : (b :: c :: t).takeWhile inName = [b] := by rw [List.takeWhile_cons, hb, List.takeWhile_cons, hc]; rfl
  have e2 : (b :: c :: t).dropWhile inName = c :: t := by rw [List.dropWhile_cons, hb, List.dropWhile_cons, hc]; rfl
  rw [e1, e2]
  rfl
theorem value_quoted (v r : List UInt8) (bad : Int) (hv : v.all notQ = true) : valueS (34 :: (v ++ 34 :: r)) bad = (meantL v, r, bad) := by
  unfold valueS
  have e := takeWhile_stop notQ v r 34 hv (by decide)
  have e3 : (34 :: (v ++ 34 :: r)).drop 1 = v ++ 34 :: r := rfl
  rw [if_pos (show (34 :: (v ++ 34 :: r)).head? = some 34 from rfl), e3, e.1, e.2, if_neg]
  · rfl
  · intro h
    rw [List.all_append, List.all_cons] at h
    have : notQ 34 = false := by decide
    rw [this] at h
    simp at h
theorem value_bare (v r : List UInt8) (c : UInt8) (bad : Int) (hv : v.all notSep = true) (hc : notSep c = false) (hq : c ≠ 34) : valueS (v ++ c :: r) bad = (meantL v, c :: r, bad) := by
  unfold valueS
  have e := takeWhile_stop notSep v r c hv hc
  rw [if_neg, e.1, e.2]
  cases v with
  | nil => simpa using hq
  | cons b v =>
    intro h
    have hb : b = 34 := by simpa using h
    subst hb
    rw [List.all_cons] at hv
    have : notSep 34 = false := by decide
    rw [this] at hv
    simp at hv
theorem vals_one (n : Nat) (l r : List UInt8) (v : List UInt8) (c : UInt8) (hs : ([44, 59, 58] : List UInt8).contains c = true) (h44 : c ≠ 44) (h61 : c ≠ 61) (h : valueS l 0 = (v, c :: r, 0)) : valsS (n + 1) 61 l 0 [] = ([v], (c.toNat : Int), r, 0) := by
  unfold valsS
  rw [if_pos (.inl rfl), h, sign_hit [44, 59, 58] c r 0 hs]
  rw [valsS_stop]
  · rfl
  · intro hh
    rcases hh with hh | hh
    · exact h61 (UInt8.toNat.inj (by have : c.toNat = 61 := by omega
                                     rw [this]; rfl))
    · exact h44 (UInt8.toNat.inj (by have : c.toNat = 44 := by omega
                                     rw [this]; rfl))
theorem param_of (nb : UInt8) (l r v : List UInt8) (c : UInt8) (hn : inName nb = true) (hs : ([44, 59, 58] : List UInt8).contains c = true) (h44 : c ≠ 44) (h61 : c ≠ 61) (h : valueS l 0 = (v, c :: r, 0)) :
    paramS (nb :: 61 :: l) 0 = ([v], (c.toNat : Int), r, 0) ∧ (nameS (nb :: 61 :: l) 0).1 = [nb] := by
  have e := name_one nb 61 l 0 hn (by decide)
  unfold paramS
  rw [e, sign_hit [61] 61 l 0 (by decide)]
  exact ⟨vals_one _ l r v c hs h44 h61 h, rfl⟩
/-- a line A;B=..;C=..:x -/
theorem parse_two (L r2 v w : List UInt8) (hok : okT (65 :: 59 :: 66 :: 61 :: L) = true) (hcr : crlfL (65 :: 59 :: 66 :: 61 :: L) = false)
    (h1 : valueS L 0 = (v, 59 :: 67 :: 61 :: r2, 0)) (h2 : valueS r2 0 = (w, [58, 120], 0)) :
    parseS (65 :: 59 :: 66 :: 61 :: L) = ([], [65], [([66], [v]), ([67], [w])], [120], 0) := by
  unfold parseS
  have e0 : ¬ (okT (65 :: 59 :: 66 :: 61 :: L) = false ∨ crlfL (65 :: 59 :: 66 :: 61 :: L) = true) := by rw [hok, hcr]; decide
  have e := name_one 65 59 (66 :: 61 :: L) 0 (by decide) (by decide)
  rw [if_neg e0, e, sign_hit [46, 59, 58] 59 _ 0 (by decide), if_neg (by show ¬ (59 : Int) = 46; decide)]
  have p1 := param_of 66 L (67 :: 61 :: r2) v 59 (by decide) (by decide) (by decide) (by decide) h1
  have p2 := param_of 67 r2 [120] w 58 (by decide) (by decide) (by decide) (by decide) h2
  have e1 : ∀ n, parsS (n + 1 + 1) 59 (66 :: 61 :: L) 0 [] = ([([66], [v]), ([67], [w])], [120], 0) := by
    intro n
    unfold parsS
    rw [if_pos ⟨rfl, rfl⟩, p1.1, p1.2]
    unfold parsS
    rw [if_pos ⟨rfl, rfl⟩]
    show parsS n (paramS (67 :: 61 :: r2) 0).2.1 (paramS (67 :: 61 :: r2) 0).2.2.1 (paramS (67 :: 61 :: r2) 0).2.2.2 ([([66], [v])] ++ [((nameS (67 :: 61 :: r2) 0).1, (paramS (67 :: 61 :: r2) 0).1)]) = _
    rw [p2.1, p2.2, parsS_stop]
    · rfl
    · intro h; exact absurd h.1 (show ¬ (58 : Int) = 59 by decide)
  show finS [] [65] (parsS ((L.length + 1 + 1) + 1 + 1 + 1) 59 (66 :: 61 :: L) 0 []) = _
  rw [e1]
  rfl

theorem crlf_all (l : List UInt8) : crlfL l = !(l.all fun b => !([13, 10] : List UInt8).contains b) := by
  unfold crlfL Lib.containsAny
  rcases indexAny_split [13, 10] l with ⟨h1, h2⟩ | ⟨h1, h2⟩
  · rw [h1, h2]; rfl
  · rw [h1, h2]; simp

/-- bytes that a value without signs has -/
def okv (b : UInt8) : Bool := b != 34 && b != 10 && b != 13
def bare (b : UInt8) : Bool := b != 44 && b != 59 && b != 58
theorem toNat_ne {b : UInt8} {n : Nat} (hn : n < 256) : ((b.toNat : Int) = (n : Int)) ↔ b = UInt8.ofNat n := by
  constructor
  · intro h
    refine UInt8.toNat.inj ?_
    have : b.toNat = n := by omega
    rw [this]; simp; omega
  · intro h; subst h; simp; omega

theorem all_imp {p q : UInt8 → Bool} {l : List UInt8} (hpq : ∀ b, p b = true → q b = true) (h : l.all p = true) : l.all q = true := by
  rw [List.all_eq_true] at *
  exact fun b hb => hpq b (h b hb)
theorem okv_notQ (b : UInt8) (h : okv b = true) : notQ b = true := by
  unfold okv at h
  unfold notQ
  simp only [Bool.and_eq_true, bne_iff_ne] at h
  simp [h]
theorem okv_crlf (b : UInt8) (h : okv b = true) : (!([13, 10] : List UInt8).contains b) = true := by
  unfold okv at h
  simp only [Bool.and_eq_true, bne_iff_ne] at h
  simp [h]

theorem quotes_tail (v w : List UInt8) (hv : v.length ≤ 1048576) (hw : w.length ≤ 1048576) (ov : v.all okv = true) (ow : w.all okv = true) (hp : okT (65 :: 59 :: 66 :: 61 :: 34 :: (v ++ 34 :: 59 :: 67 :: 61 :: 34 :: (w ++ [34, 58, 120]))) = true) :
    ∀ (t p : List UInt8), v = p ++ t → p.all bare = true →
    Ev (fun k => calepinlaw03_LineQuotes.l1 k (B v) (B w) (p.length : Int) (B []) (B [65]) (([([66], [meantL v]), ([67], [meantL w])] : Ps).map pB) (B [120])) true := by
  intro t
  induction t with
  | nil =>
    intro p hvp hpb
    have hvb : v.all bare = true := by rw [hvp, List.append_nil]; exact hpb
    have hpl : p.length = v.length := by rw [hvp]; simp
    have es : ((((⟨#[65, 59, 66, 61]⟩ : ByteArray) ++ B v) ++ (⟨#[59, 67, 61, 34]⟩ : ByteArray)) ++ B w) ++ (⟨#[34, 58, 120]⟩ : ByteArray) = B (65 :: 59 :: 66 :: 61 :: (v ++ 59 :: 67 :: 61 :: 34 :: (w ++ [34, 58, 120]))) := by
      have a1 : (⟨#[65, 59, 66, 61]⟩ : ByteArray) = B [65, 59, 66, 61] := rfl
      have a2 : (⟨#[59, 67, 61, 34]⟩ : ByteArray) = B [59, 67, 61, 34] := rfl
      have a3 : (⟨#[34, 58, 120]⟩ : ByteArray) = B [34, 58, 120] := rfl
      rw [a1, a2, a3, B_append, B_append, B_append, B_append]
      simp
    have okk : okT v = true ∧ okT w = true := by
      rw [okT_cons _ _ (by decide), okT_cons _ _ (by decide), okT_cons _ _ (by decide), okT_cons _ _ (by decide), okT_cons _ _ (by decide), okT_part _ _ _ (by decide), okT_cons _ _ (by decide), okT_cons _ _ (by decide), okT_cons _ _ (by decide), okT_cons _ _ (by decide), okT_part _ _ _ (by decide)] at hp
      simp only [Bool.and_eq_true] at hp
      exact ⟨hp.2.2.2.2.2.1.1, hp.2.2.2.2.2.2.2.2.2.2.1.1⟩
    have hp2 : okT (65 :: 59 :: 66 :: 61 :: (v ++ 59 :: 67 :: 61 :: 34 :: (w ++ [34, 58, 120]))) = true := by
      rw [okT_cons _ _ (by decide), okT_cons _ _ (by decide), okT_cons _ _ (by decide), okT_cons _ _ (by decide), okT_part _ _ _ (by decide), okT_cons _ _ (by decide), okT_cons _ _ (by decide), okT_cons _ _ (by decide), okT_part _ _ _ (by decide), okk.1, okk.2]
      kernel_rfl
    have hcr : crlfL (65 :: 59 :: 66 :: 61 :: (v ++ 59 :: 67 :: 61 :: 34 :: (w ++ [34, 58, 120]))) = false := by
      have c1 := all_imp (q := fun b => !([13, 10] : List UInt8).contains b) okv_crlf ov
      have c2 := all_imp (q := fun b => !([13, 10] : List UInt8).contains b) okv_crlf ow
      rw [crlf_all]
      simp only [List.all_cons, List.all_append, c1, c2]
      rfl
    have hvs : v.all notSep = true := by
      rw [List.all_eq_true] at ov hvb ⊢
      intro b hb
      have h1 := ov b hb
      have h2 := hvb b hb
      unfold okv at h1
      unfold bare at h2
      unfold notSep seps
      simp only [Bool.and_eq_true, bne_iff_ne] at h1 h2
      simp [h1, h2]
    have hwq : w.all notQ = true := all_imp okv_notQ ow
    have hpar := parse_two (v ++ 59 :: 67 :: 61 :: 34 :: (w ++ [34, 58, 120])) (34 :: (w ++ [34, 58, 120])) (meantL v) (meantL w) hp2 hcr
      (value_bare v _ 59 0 hvs (by decide) (by decide)) (value_quoted w [58, 120] 0 hwq)
    have hev := parse_ev (65 :: 59 :: 66 :: 61 :: (v ++ 59 :: 67 :: 61 :: 34 :: (w ++ [34, 58, 120]))) (by simp; omega)
    rw [hpar] at hev
    refine Ev.step (f := fun k => (line_Parse.f k (B (65 :: 59 :: 66 :: 61 :: (v ++ 59 :: 67 :: 61 :: 34 :: (w ++ [34, 58, 120]))))).bind fun bt202 => (if bt202.2.2.2.2 = 0 then ((calepinref03_Same.f k (B []) (B [65]) (([([66], [meantL v]), ([67], [meantL w])] : Ps).map pB) (B [120]) bt202.1 bt202.2.1 bt202.2.2.1 bt202.2.2.2.1).bind fun t210 => (if t210 = true then (some (((([([66], [meantL v]), ([67], [meantL w])] : Ps).map pB).length : Int) == 2)) else (some false))) else (some false))) (fun k => ?_) ?_
    · simp only [calepinlaw03_LineQuotes.l1]
      rw [if_neg (by rw [B_size]; omega), if_pos (by rw [B_size]; omega), if_pos (by rw [B_size]; omega), if_pos (by rw [B_size, B_size]; omega), if_pos (by rw [B_size, B_size]; omega), es]
    · refine Ev.bind hev ?_
      refine Ev.congr (f := fun k => (calepinref03_Same.f k (B []) (B [65]) (([([66], [meantL v]), ([67], [meantL w])] : Ps).map pB) (B [120]) (B []) (B [65]) (([([66], [meantL v]), ([67], [meantL w])] : Ps).map pB) (B [120])).bind fun t210 => (if t210 = true then (some (((([([66], [meantL v]), ([67], [meantL w])] : Ps).map pB).length : Int) == 2)) else (some false))) (fun k => if_pos rfl) ?_
      refine Ev.bind (same_refl _ _ _ _ (show 2 ≤ 4000000002 by decide) ?_) ?_
      · intro x hx
        simp only [List.map_cons, List.map_nil, List.mem_cons, List.not_mem_nil, or_false] at hx
        rcases hx with rfl | rfl <;> exact (show 1 ≤ 4000000002 by decide)
      · exact Ev.congr (fun k => if_pos rfl) (Ev.now _)
  | cons b t ih =>
    intro p hvp hpb
    have hbt : bt (B v) (p.length : Int) = (b.toNat : Int) := by rw [hvp]; exact bt_at p t b
    have hlt : p.length < v.length := by rw [hvp]; simp
    have hgood : ∀ k : Nat, (if ((([([66], [meantL v]), ([67], [meantL w])] : Ps).map pB).length : Int) = 2 then (if 0 < ((([([66], [meantL v]), ([67], [meantL w])] : Ps).map pB).length : Int) then (some ((((rd_T31 (([([66], [meantL v]), ([67], [meantL w])] : Ps).map pB) 0).f1).length : Int) == 1)) else (none)) else (some false)) = some true := fun k => rfl
    by_cases hb : bare b = true
    · refine Ev.step (fun k => ?_) (ih (p ++ [b]) (by rw [hvp]; simp) (by rw [List.all_append, hpb]; simp [hb]))
      simp only [calepinlaw03_LineQuotes.l1]
      unfold bare at hb
      simp only [Bool.and_eq_true, bne_iff_ne] at hb
      have n44 : ¬ (b.toNat : Int) = 44 := fun h => hb.1.1 ((toNat_ne (n := 44) (by decide)).1 h)
      have n59 : ¬ (b.toNat : Int) = 59 := fun h => hb.1.2 ((toNat_ne (n := 59) (by decide)).1 h)
      have n58 : ¬ (b.toNat : Int) = 58 := fun h => hb.2 ((toNat_ne (n := 58) (by decide)).1 h)
      rw [if_pos (by rw [B_size]; omega), if_pos (by omega), hbt, if_neg n44, if_neg n59, if_neg n58, wrap_succ p.length v.length hlt (by omega)]
      simp
    · refine Ev.step (f := fun _ => some true) (fun k => ?_) (Ev.now _)
      simp only [calepinlaw03_LineQuotes.l1]
      rw [if_pos (by rw [B_size]; omega), if_pos (by omega), hbt]
      by_cases h44 : (b.toNat : Int) = 44
      · rw [if_pos h44]; exact hgood k
      · rw [if_neg h44]
        by_cases h59 : (b.toNat : Int) = 59
        · rw [if_pos h59]; exact hgood k
        · rw [if_neg h59]
          by_cases h58 : (b.toNat : Int) = 58
          · rw [if_pos h58]; exact hgood k
          · exfalso
            apply hb
            unfold bare
            simp only [Bool.and_eq_true, bne_iff_ne]
            exact ⟨⟨fun h => h44 (by rw [h]; rfl), fun h => h59 (by rw [h]; rfl)⟩, fun h => h58 (by rw [h]; rfl)⟩

theorem quotes_after (v w : List UInt8) (hv : v.length ≤ 1048576) (hw : w.length ≤ 1048576) (ov : v.all okv = true) (ow : w.all okv = true) :
    Ev (fun k => (line_Parse.f k (B (65 :: 59 :: 66 :: 61 :: 34 :: (v ++ 34 :: 59 :: 67 :: 61 :: 34 :: (w ++ [34, 58, 120]))))).bind fun bt191 => (if bt191.2.2.2.2 = 0 then (calepinlaw03_LineQuotes.l1 k (B v) (B w) 0 bt191.1 bt191.2.1 bt191.2.2.1 bt191.2.2.2.1) else (some (bt191.2.2.2.2 == 10)))) true := by
  have hev := parse_ev (65 :: 59 :: 66 :: 61 :: 34 :: (v ++ 34 :: 59 :: 67 :: 61 :: 34 :: (w ++ [34, 58, 120]))) (by simp; omega)
  refine Ev.bind hev ?_
  cases hp : okT (65 :: 59 :: 66 :: 61 :: 34 :: (v ++ 34 :: 59 :: 67 :: 61 :: 34 :: (w ++ [34, 58, 120])))
  · have e : parseS (65 :: 59 :: 66 :: 61 :: 34 :: (v ++ 34 :: 59 :: 67 :: 61 :: 34 :: (w ++ [34, 58, 120]))) = ([], [], [], [], 10) := by unfold parseS; rw [if_pos (.inl hp)]
    rw [e]
    exact Ev.congr (fun k => if_neg (show ¬ (10 : Int) = 0 by decide)) (Ev.now _)
  · have hcr : crlfL (65 :: 59 :: 66 :: 61 :: 34 :: (v ++ 34 :: 59 :: 67 :: 61 :: 34 :: (w ++ [34, 58, 120]))) = false := by
      have c1 := all_imp (q := fun b => !([13, 10] : List UInt8).contains b) okv_crlf ov
      have c2 := all_imp (q := fun b => !([13, 10] : List UInt8).contains b) okv_crlf ow
      rw [crlf_all]
      simp only [List.all_cons, List.all_append, c1, c2]
      rfl
    have hpar := parse_two (34 :: (v ++ 34 :: 59 :: 67 :: 61 :: 34 :: (w ++ [34, 58, 120]))) (34 :: (w ++ [34, 58, 120])) (meantL v) (meantL w) hp hcr
      (value_quoted v _ 0 (all_imp okv_notQ ov)) (value_quoted w [58, 120] 0 (all_imp okv_notQ ow))
    rw [hpar]
    refine Ev.congr (fun k => if_pos rfl) ?_
    exact quotes_tail v w hv hw ov ow hp v [] rfl rfl

theorem quotes_l0 (v w : List UInt8) (hv : v.length ≤ 1048576) (hw : w.length ≤ 1048576) : ∀ (t p : List UInt8), v ++ w = p ++ t → p.all okv = true →
    Ev (fun k => calepinlaw03_LineQuotes.l0 k (B v) (B w) (p.length : Int)) true := by
  intro t
  induction t with
  | nil =>
    intro p hvp hpb
    rw [List.append_nil] at hvp
    rw [← hvp, List.all_append, Bool.and_eq_true] at hpb
    have hpl : p.length = v.length + w.length := by rw [← hvp]; simp
    have es : ((((⟨#[65, 59, 66, 61, 34]⟩ : ByteArray) ++ B v) ++ (⟨#[34, 59, 67, 61, 34]⟩ : ByteArray)) ++ B w) ++ (⟨#[34, 58, 120]⟩ : ByteArray) = B (65 :: 59 :: 66 :: 61 :: 34 :: (v ++ 34 :: 59 :: 67 :: 61 :: 34 :: (w ++ [34, 58, 120]))) := by
      have a1 : (⟨#[65, 59, 66, 61, 34]⟩ : ByteArray) = B [65, 59, 66, 61, 34] := rfl
      have a2 : (⟨#[34, 59, 67, 61, 34]⟩ : ByteArray) = B [34, 59, 67, 61, 34] := rfl
      have a3 : (⟨#[34, 58, 120]⟩ : ByteArray) = B [34, 58, 120] := rfl
      rw [a1, a2, a3, B_append, B_append, B_append, B_append]
      simp
    refine Ev.step (fun k => ?_) (quotes_after v w hv hw hpb.1 hpb.2)
    simp only [calepinlaw03_LineQuotes.l0]
    have hw64 : wrap64 (((B v).size : Int) + ((B w).size : Int)) = ((v.length + w.length : Nat) : Int) := by
      rw [B_size, B_size]; unfold wrap64; omega
    rw [hw64, if_neg (by omega), if_pos (by rw [B_size]; omega), if_pos (by rw [B_size]; omega), if_pos (by rw [B_size, B_size]; omega), if_pos (by rw [B_size, B_size]; omega), es]
  | cons b t ih =>
    intro p hvp hpb
    have hbt : bt (B v ++ B w) (p.length : Int) = (b.toNat : Int) := by rw [B_append, hvp]; exact bt_at p t b
    have hlen : v.length + w.length = p.length + (t.length + 1) := by
      have := congrArg List.length hvp
      simpa using this
    have hw64 : wrap64 (((B v).size : Int) + ((B w).size : Int)) = ((v.length + w.length : Nat) : Int) := by
      rw [B_size, B_size]; unfold wrap64; omega
    by_cases hb : okv b = true
    · refine Ev.step (fun k => ?_) (ih (p ++ [b]) (by rw [hvp]; simp) (by rw [List.all_append, hpb]; simp [hb]))
      unfold okv at hb
      simp only [Bool.and_eq_true, bne_iff_ne] at hb
      have n34 : ¬ (b.toNat : Int) = 34 := fun h => hb.1.1 ((toNat_ne (n := 34) (by decide)).1 h)
      have n10 : ¬ (b.toNat : Int) = 10 := fun h => hb.1.2 ((toNat_ne (n := 10) (by decide)).1 h)
      have n13 : ¬ (b.toNat : Int) = 13 := fun h => hb.2 ((toNat_ne (n := 13) (by decide)).1 h)
      simp only [calepinlaw03_LineQuotes.l0]
      rw [hw64, if_pos (by omega), if_pos (by rw [B_size, B_size]; omega), if_pos (by omega), if_pos (by rw [B_size, B_size]; omega), hbt, if_neg n34, if_neg n10, if_neg n13, wrap_succ p.length (v.length + w.length) (by omega) (by omega)]
      simp
    · refine Ev.step (f := fun _ => some true) (fun k => ?_) (Ev.now _)
      simp only [calepinlaw03_LineQuotes.l0]
      rw [hw64, if_pos (by omega), if_pos (by rw [B_size, B_size]; omega), if_pos (by omega), if_pos (by rw [B_size, B_size]; omega), hbt]
      by_cases h34 : (b.toNat : Int) = 34
      · rw [if_pos h34]
      · rw [if_neg h34]
        by_cases h10 : (b.toNat : Int) = 10
        · rw [if_pos h10]
        · rw [if_neg h10]
          by_cases h13 : (b.toNat : Int) = 13
          · rw [if_pos h13]
          · exfalso
            apply hb
            unfold okv
            simp only [Bool.and_eq_true, bne_iff_ne]
            exact ⟨⟨fun h => h34 (by rw [h]; rfl), fun h => h10 (by rw [h]; rfl)⟩, fun h => h13 (by rw [h]; rfl)⟩

/-- the plain law of LineQuotes -/
theorem line_quotes (a0 a1 : ByteArray) (h0 : a0.size ≤ 1048576) (h1 : a1.size ≤ 1048576) : ∃ k, calepinlaw03_LineQuotes.f k a0 a1 = some true := by
  refine Ev.rounds ?_
  unfold calepinlaw03_LineQuotes.f
  refine Ev.bind first_ev ?_
  refine Ev.congr (fun k => if_pos rfl) ?_
  exact quotes_l0 a0.data.toList a1.data.toList h0 h1 (a0.data.toList ++ a1.data.toList) [] rfl rfl
end Go.Proofs.YthabooeapfepnaaGreatDoor.PL
