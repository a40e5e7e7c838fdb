import Derived.Test.YthabooeapfepnaaGreatDoorS
namespace Go.Proofs.YthabooeapfepnaaGreatDoor.PL
open Go.RowKit Go.Proofs.YthabooeapfepnaaGreatDoor.Given Go.Proofs.YthabooeapfepnaaGreatDoor.Text Go.Proofs.YthabooeapfepnaaGreatDoorW.PrintWords
set_option linter.unusedVariables false
theorem meant_f (l : List UInt8) (h : l.length ≤ 4000000000) : line_meant.f (B l) = some (B (meantL l)) := by
  unfold line_meant.f
  rw [if_pos (by rw [B_size]; exact h)]
  rfl
theorem cut_f (l : List UInt8) (h : l.length ≤ 4000000000) : strings_Cut.f (B l) (⟨#[34]⟩ : ByteArray) =
    if l.all notQ = true then some (B l, B [], false) else some (B (l.takeWhile notQ), B ((l.dropWhile notQ).drop 1), true) := by
  unfold strings_Cut.f
  rw [if_pos (by rw [B_size]; exact h), B_data]
  have e : (⟨#[34]⟩ : ByteArray).data.toList = [34] := rfl
  rw [e]
  unfold Lib.cut
  rcases index_one 34 l with ⟨i1, i2⟩ | ⟨i1, i2⟩
  · rw [i2, if_neg (by decide)]
    have i1' : l.all notQ = true := i1
    rw [if_pos i1']; rfl
  · rw [i2, if_pos (by omega)]
    have i1' : ¬ l.all notQ = true := by
      intro h; have h2 : l.all (fun b => b != 34) = true := h; rw [i1] at h2; cases h2
    rw [if_neg i1']
    simp only [Int.toNat_natCast]
    have t1 := takeWhile_len (fun b => b != 34) l
    have t2 := dropWhile_len (fun b => b != 34) l
    rw [t1, ← List.drop_drop, t2]
    rfl
theorem indexAny_f (l : List UInt8) (h : l.length ≤ 4000000000) : strings_IndexAny.f (B l) (⟨#[44, 59, 58, 34]⟩ : ByteArray) = some (Lib.indexAny l seps) := by
  unfold strings_IndexAny.f
  rw [if_pos ⟨by rw [B_size]; exact h, by decide⟩]
  rfl
theorem prefix_one (l : List UInt8) : strings_HasPrefix.f (B l) (⟨#[34]⟩ : ByteArray) = some (decide (l.head? = some 34)) := by
  unfold strings_HasPrefix.f
  refine congrArg some ?_
  rw [B_data]
  have e : (⟨#[34]⟩ : ByteArray).data.toList = [34] := rfl
  rw [e]
  unfold Lib.hasPrefix
  cases l with
  | nil => rfl
  | cons b t =>
    show ((34 : UInt8) == b && true) = decide (some b = some 34)
    rw [Bool.and_true, Bool.eq_iff_iff, beq_iff_eq, decide_eq_true_eq, Option.some.injEq, eq_comm]
theorem value_f (l : List UInt8) (bad : Int) (h : l.length ≤ 4000000000) : lrv.f (B l) bad = some (B (valueS l bad).1, B (valueS l bad).2.1, (valueS l bad).2.2) := by
  unfold lrv.f valueS
  rw [prefix_one]
  simp only [Option.bind_some, decide_eq_true_eq]
  by_cases hq : l.head? = some 34
  · have hl : 1 ≤ l.length := by cases l with | nil => cases hq | cons b t => simp
    rw [if_pos hq, if_pos hq, if_pos (by rw [B_size]; omega), B_tail, cut_f _ (by rw [List.length_drop]; omega)]
    cases ha : (l.drop 1).all notQ
    · rw [if_neg (by decide), if_neg (by decide)]
      simp only [Option.bind_some, if_true]
      have := takeWhile_le notQ (l.drop 1)
      rw [meant_f _ (by rw [List.length_drop] at this; omega)]
      rfl
    · rw [if_pos rfl, if_pos rfl]
      simp only [Option.bind_some]
      rw [if_neg (by decide), fail_f]
      simp only [Option.bind_some]
      rw [meant_f _ (by rw [List.length_drop]; omega)]
      rfl
  · rw [if_neg hq, if_neg hq, indexAny_f l h]
    simp only [Option.bind_some]
    have hle := takeWhile_le notSep l
    rcases indexAny_split seps l with ⟨i1, i2⟩ | ⟨i1, i2⟩
    · have t := takeWhile_all notSep l i1
      rw [i2, if_pos (by decide), if_pos (by omega), if_pos (Int.le_refl _), meant_f l h, t.1, t.2]
      rfl
    · have i3 : Lib.indexAny l seps = ((l.takeWhile notSep).length : Int) := i2
      rw [i3, if_neg (by omega), if_pos (by omega), if_pos (by rw [B_size]; omega), Int.toNat_natCast, B_head, B_tail, takeWhile_len, dropWhile_len, meant_f _ (by omega)]
      rfl
theorem valueS_len (l : List UInt8) (bad : Int) : (valueS l bad).2.1.length ≤ l.length := by
  unfold valueS
  split
  · split
    · simp
    · have := dropWhile_le notQ (l.drop 1)
      simp only [List.length_drop] at *
      omega
  · exact dropWhile_le notSep l
theorem signS_len (signs l : List UInt8) (bad : Int) : (signS signs l bad).2.1.length ≤ l.length ∧ ((signS signs l bad).1 ≠ 0 → (signS signs l bad).2.1.length < l.length) := by
  cases l with
  | nil => exact ⟨Nat.le_refl _, fun h => absurd rfl h⟩
  | cons b t =>
    show (if signs.contains b = true then ((b.toNat : Int), t, bad) else (0, b :: t, failE bad 31)).2.1.length ≤ _ ∧ ((if signs.contains b = true then ((b.toNat : Int), t, bad) else (0, b :: t, failE bad 31)).1 ≠ 0 → (if signs.contains b = true then ((b.toNat : Int), t, bad) else (0, b :: t, failE bad 31)).2.1.length < _)
    cases signs.contains b
    · exact ⟨Nat.le_refl _, fun h => absurd rfl h⟩
    · exact ⟨by simp, fun _ => by simp⟩
theorem nameS_len (l : List UInt8) (bad : Int) : (nameS l bad).2.1.length ≤ l.length := dropWhile_le inName l
theorem valsS_len : ∀ (n : Nat) (c : Int) (l : List UInt8) (bad : Int) (vs : List (List UInt8)), (valsS n c l bad vs).2.2.1.length ≤ l.length
  | 0, c, l, bad, vs => Nat.le_refl _
  | n + 1, c, l, bad, vs => by
    unfold valsS
    split
    · refine Nat.le_trans (valsS_len n _ _ _ _) ?_
      have h1 := (signS_len [44, 59, 58] (valueS l bad).2.1 (valueS l bad).2.2).1
      have h2 := valueS_len l bad
      omega
    · exact Nat.le_refl _
theorem valsS_sign : ∀ (n : Nat) (c : Int) (l : List UInt8) (bad : Int) (vs : List (List UInt8)), (c = 61 ∨ c = 44 ∨ c = 0) → (c = 61 ∨ c = 44 → l.length < n) →
    (valsS n c l bad vs).2.1 ≠ 0 → (valsS n c l bad vs).2.2.1.length < l.length
  | 0, c, l, bad, vs, hc, hn, h => by
    exfalso
    have h' : c ≠ 0 := h
    have := hn (by omega)
    omega
  | n + 1, c, l, bad, vs, hc, hn, h => by
    unfold valsS at h ⊢
    by_cases hc2 : c = 61 ∨ c = 44
    · rw [if_pos hc2] at h ⊢
      have h1 := signS_len [44, 59, 58] (valueS l bad).2.1 (valueS l bad).2.2
      have h2 := valueS_len l bad
      have h3 := valsS_len n (signS [44, 59, 58] (valueS l bad).2.1 (valueS l bad).2.2).1 (signS [44, 59, 58] (valueS l bad).2.1 (valueS l bad).2.2).2.1 (signS [44, 59, 58] (valueS l bad).2.1 (valueS l bad).2.2).2.2 (vs ++ [(valueS l bad).1])
      by_cases hs : (signS [44, 59, 58] (valueS l bad).2.1 (valueS l bad).2.2).1 = 0
      · exfalso
        apply h
        generalize signS [44, 59, 58] (valueS l bad).2.1 (valueS l bad).2.2 = s at *
        rw [hs]
        cases n with
        | zero => rfl
        | succ n => unfold valsS; rw [if_neg (by omega)]
      · have := h1.2 hs
        omega
    · rw [if_neg hc2] at h
      have h' : c ≠ 0 := h
      omega
theorem inner_ev : ∀ (n : Nat) (c : Int) (l : List UInt8) (bad : Int) (vs : List (List UInt8)) (g nm : ByteArray) (ps : List S31) (val pn : ByteArray) (r : ByteArray × ByteArray × List S31 × ByteArray × Int),
    (c = 61 ∨ c = 44 → l.length < n) → l.length ≤ 4000000000 → vs.length + n ≤ 4000000002 → ps.length ≤ 4000000002 →
    Ev (fun k => lPa.l0 k (valsS n c l bad vs).2.1 (B (valsS n c l bad vs).2.2.1) (valsS n c l bad vs).2.2.2 g nm (ps ++ [(⟨pn, (valsS n c l bad vs).1.map B⟩ : S31)]) val) r →
    Ev (fun k => lPa.l1 k c (B l) bad g nm ps val pn (vs.map B)) r
  | 0, c, l, bad, vs, g, nm, ps, val, pn, r, hn, hl, hv, hp, h => by
    have hc : ¬ (c = 61 ∨ c = 44) := fun hc => by have := hn hc; omega
    have e : (c == 44) = false := beq_eq_false_iff_ne.mpr (fun h => hc (.inr h))
    refine Ev.step (f := fun k => lPa.j5 k c false (B l) bad g nm ps val pn (vs.map B)) (fun k => ?_) ?_
    · simp only [lPa.l1]; rw [if_neg (fun h => hc (.inl h)), e]
    · refine Ev.step (fun k => ?_) h
      simp only [lPa.j5]
      rw [if_neg (by decide), if_pos (by omega)]
      rfl
  | n + 1, c, l, bad, vs, g, nm, ps, val, pn, r, hn, hl, hv, hp, h => by
    by_cases hc : c = 61 ∨ c = 44
    · have h1 := signS_len [44, 59, 58] (valueS l bad).2.1 (valueS l bad).2.2
      have h2 := valueS_len l bad
      refine Ev.step (f := fun k => lPa.j5 k c true (B l) bad g nm ps val pn (vs.map B)) (fun k => ?_) ?_
      · simp only [lPa.l1]
        rcases hc with rfl | rfl
        · rw [if_pos rfl]
        · rw [if_neg (by decide)]; rfl
      · refine Ev.step (f := fun k => lPa.l1 k (signS [44, 59, 58] (valueS l bad).2.1 (valueS l bad).2.2).1 (B (signS [44, 59, 58] (valueS l bad).2.1 (valueS l bad).2.2).2.1) (signS [44, 59, 58] (valueS l bad).2.1 (valueS l bad).2.2).2.2 g nm ps val pn ((vs ++ [(valueS l bad).1]).map B)) (fun k => ?_) ?_
        · simp only [lPa.j5]
          have es : (⟨#[44, 59, 58]⟩ : ByteArray) = B [44, 59, 58] := rfl
          rw [if_pos trivial, value_f l bad hl]
          simp only [Option.bind_some]
          rw [if_pos (by rw [List.length_map]; omega), es, sign_f]
          simp only [Option.bind_some, List.map_append, List.map_cons, List.map_nil]
        · refine inner_ev n _ _ _ _ g nm ps val pn r ?_ (by omega) (by simp; omega) hp ?_
          · intro hc2
            have hne : (signS [44, 59, 58] (valueS l bad).2.1 (valueS l bad).2.2).1 ≠ 0 := by omega
            have := h1.2 hne
            have := hn hc
            omega
          · unfold valsS at h
            rw [if_pos hc] at h
            exact h
    · have e : (c == 44) = false := beq_eq_false_iff_ne.mpr (fun h => hc (.inr h))
      unfold valsS at h
      rw [if_neg hc] at h
      refine Ev.step (f := fun k => lPa.j5 k c false (B l) bad g nm ps val pn (vs.map B)) (fun k => ?_) ?_
      · simp only [lPa.l1]; rw [if_neg (fun h => hc (.inl h)), e]
      · refine Ev.step (fun k => ?_) h
        simp only [lPa.j5]
        rw [if_neg (by decide), if_pos (by omega)]
theorem finB (g n : List UInt8) (r : Ps × List UInt8 × Int) : lineB (finS g n r) = if r.2.2 = 0 then (B g, B n, r.1.map pB, B r.2.1, 0) else (B [], B [], [], B [], r.2.2) := by
  unfold finS lineB
  split <;> rfl
theorem outer_ev : ∀ (n : Nat) (c : Int) (l : List UInt8) (bad : Int) (ps : Ps) (g nm : List UInt8) (val : ByteArray),
    (c = 59 ∧ bad = 0 → l.length < n) → l.length ≤ 4000000000 → ps.length + n ≤ 4000000002 →
    Ev (fun k => lPa.l0 k c (B l) bad (B g) (B nm) (ps.map pB) val) (lineB (finS g nm (parsS n c l bad ps))) := by
  intro n
  induction n with
  | zero =>
    intro c l bad ps g nm val hn hl hp
    rw [finB]
    have hno : ¬ (c = 59 ∧ bad = 0) := fun h => by have := hn h; omega
    refine Ev.step (f := fun k => lPa.j3 k false (B l) bad (B g) (B nm) (ps.map pB) val) (fun k => ?_) ?_
    · simp only [lPa.l0]
      by_cases hc : c = 59
      · have hb : (bad == 0) = false := beq_eq_false_iff_ne.mpr (fun h => hno ⟨hc, h⟩)
        rw [if_pos hc, hb]
      · rw [if_neg hc]
    · refine Ev.step (f := fun _ => some _) (fun k => ?_) (Ev.now _)
      simp only [lPa.j3]
      rw [if_neg (by decide)]
      show (if bad = 0 then _ else _) = some (if bad = 0 then _ else _)
      by_cases hb : bad = 0
      · subst hb; rw [if_pos rfl, if_pos rfl]; rfl
      · rw [if_neg hb, if_neg hb]; rfl
  | succ n ih =>
    intro c l bad ps g nm val hn hl hp
    by_cases hc : c = 59 ∧ bad = 0
    · have e : parsS (n + 1) c l bad ps = parsS n (paramS l bad).2.1 (paramS l bad).2.2.1 (paramS l bad).2.2.2 (ps ++ [((nameS l bad).1, (paramS l bad).1)]) := by
        show (if c = 59 ∧ bad = 0 then _ else _) = _
        rw [if_pos hc]
      rw [e]
      have hln := hn hc
      have h0 := nameS_len l bad
      have h1 := signS_len [61] (nameS l bad).2.1 (nameS l bad).2.2
      have hpl : (paramS l bad).2.2.1.length ≤ l.length := by
        unfold paramS
        refine Nat.le_trans (valsS_len _ _ _ _ _) ?_
        omega
      have hs0 : (signS [61] (nameS l bad).2.1 (nameS l bad).2.2).1 = 61 ∨ (signS [61] (nameS l bad).2.1 (nameS l bad).2.2).1 = 0 := by
        cases (nameS l bad).2.1 with
        | nil => right; rfl
        | cons b t =>
          show (if ([61] : List UInt8).contains b = true then ((b.toNat : Int), t, _) else (0, b :: t, _)).1 = 61 ∨ (if ([61] : List UInt8).contains b = true then ((b.toNat : Int), t, _) else (0, b :: t, _)).1 = 0
          by_cases hb : ([61] : List UInt8).contains b = true
          · left
            rw [if_pos hb]
            have : b = 61 := by simpa using hb
            subst this; rfl
          · right; rw [if_neg hb]
      have hpn : (paramS l bad).2.1 = 59 → (paramS l bad).2.2.1.length < n := by
        intro h59
        have : (paramS l bad).2.2.1.length < (signS [61] (nameS l bad).2.1 (nameS l bad).2.2).2.1.length := by
          refine valsS_sign _ _ _ _ _ (by omega) (fun _ => by omega) ?_
          show (paramS l bad).2.1 ≠ 0
          rw [h59]; decide
        omega
      have ihh := ih (paramS l bad).2.1 (paramS l bad).2.2.1 (paramS l bad).2.2.2 (ps ++ [((nameS l bad).1, (paramS l bad).1)]) g nm val (fun h => hpn h.1) (by omega) (by simp; omega)
      obtain ⟨hc1, hb1⟩ := hc
      refine Ev.step (f := fun k => lPa.j3 k true (B l) bad (B g) (B nm) (ps.map pB) val) (fun k => ?_) ?_
      · simp only [lPa.l0]
        have hb : (bad == 0) = true := by rw [hb1]; rfl
        rw [if_pos hc1, hb]
      · refine Ev.step (f := fun k => (lrn.f k (B l) bad).bind fun bt139 => ((lrs.f bt139.2.1 bt139.2.2 (⟨#[61]⟩ : ByteArray)).bind fun bt143 => (lPa.l1 k bt143.1 bt143.2.1 bt143.2.2 (B g) (B nm) (ps.map pB) val bt139.1 ([] : List ByteArray)))) (fun k => ?_) ?_
        · simp only [lPa.j3]
          rw [if_pos trivial]
        · refine Ev.bind (name_ev l bad hl) ?_
          have es : (⟨#[61]⟩ : ByteArray) = B [61] := rfl
          refine Ev.congr (f := fun k => lPa.l1 k (signS [61] (nameS l bad).2.1 (nameS l bad).2.2).1 (B (signS [61] (nameS l bad).2.1 (nameS l bad).2.2).2.1) (signS [61] (nameS l bad).2.1 (nameS l bad).2.2).2.2 (B g) (B nm) (ps.map pB) val (B (nameS l bad).1) (([] : List (List UInt8)).map B)) (fun k => ?_) ?_
          · simp only []
            rw [es, sign_f]
            rfl
          · refine inner_ev ((signS [61] (nameS l bad).2.1 (nameS l bad).2.2).2.1.length + 1) _ _ _ _ _ _ _ _ _ _ (fun _ => by omega) (by omega) (by simp; omega) (by simp; omega) ?_
            have e2 : (ps ++ [((nameS l bad).1, (paramS l bad).1)]).map pB = ps.map pB ++ [(⟨B (nameS l bad).1, (paramS l bad).1.map B⟩ : S31)] := by
              rw [List.map_append]; rfl
            rw [e2] at ihh
            exact ihh
    · rw [finB]
      have e : parsS (n + 1) c l bad ps = (ps, l, bad) := by
        show (if c = 59 ∧ bad = 0 then _ else _) = _
        rw [if_neg hc]
      rw [e]
      refine Ev.step (f := fun k => lPa.j3 k false (B l) bad (B g) (B nm) (ps.map pB) val) (fun k => ?_) ?_
      · simp only [lPa.l0]
        by_cases hc1 : c = 59
        · have hb : (bad == 0) = false := beq_eq_false_iff_ne.mpr (fun h => hc ⟨hc1, h⟩)
          rw [if_pos hc1, hb]
        · rw [if_neg hc1]
      · refine Ev.step (f := fun _ => some _) (fun k => ?_) (Ev.now _)
        simp only [lPa.j3]
        rw [if_neg (by decide)]
        by_cases hb : bad = 0
        · subst hb; rw [if_pos rfl, if_pos rfl]
        · rw [if_neg hb, if_neg hb]; rfl
theorem parse_ev (l : List UInt8) (h : l.length ≤ 4000000000) : Ev (fun k => lPa.f k (B l)) (lineB (parseS l)) := by
  have hbad : Ev (fun k => lPa.j0 k (B l) true) (lineB ([], [], [], [], 10)) := by
    refine Ev.step (f := fun _ => some _) (fun k => ?_) (Ev.now _)
    simp only [lPa.j0]
    rw [if_pos trivial]; rfl
  unfold lPa.f
  rw [char_Valid_okT (B l) (by rw [B_size]; exact h), B_data]
  simp only [Option.bind_some]
  cases hv : okT l
  · have e : parseS l = ([], [], [], [], 10) := by unfold parseS; rw [if_pos (.inl hv)]
    rw [e]
    exact Ev.congr (fun k => if_neg (by decide)) hbad
  · refine Ev.congr (f := fun k => (strings_ContainsAny.f (B l) (⟨#[13, 10]⟩ : ByteArray)).bind fun t124 => lPa.j0 k (B l) t124) (fun k => if_pos rfl) ?_
    have hc : strings_ContainsAny.f (B l) (⟨#[13, 10]⟩ : ByteArray) = some (crlfL l) := by
      unfold strings_ContainsAny.f
      rw [if_pos ⟨by rw [B_size]; exact h, by decide⟩]; rfl
    rw [hc]
    simp only [Option.bind_some]
    cases hcr : crlfL l
    · have e0 : ¬ (okT l = false ∨ crlfL l = true) := by rw [hv, hcr]; decide
      refine Ev.step (f := fun k => (lrn.f k (B l) 0).bind fun bt126 => ((lrs.f bt126.2.1 bt126.2.2 (⟨#[46, 59, 58]⟩ : ByteArray)).bind fun bt130 => (if bt130.1 = 46 then ((lrn.f k bt130.2.1 bt130.2.2).bind fun bt133 => ((lrs.f bt133.2.1 bt133.2.2 (⟨#[59, 58]⟩ : ByteArray)).bind fun bt136 => (lPa.j1 k bt136.1 bt136.2.1 bt136.2.2 bt126.1 bt133.1 (⟨#[]⟩ : ByteArray)))) else (lPa.j1 k bt130.1 bt130.2.1 bt130.2.2 (⟨#[]⟩ : ByteArray) bt126.1 (⟨#[]⟩ : ByteArray))))) (fun k => ?_) ?_
      · simp only [lPa.j0]
        rw [if_neg (by decide)]
      · refine Ev.bind (name_ev l 0 h) ?_
        have es : (⟨#[46, 59, 58]⟩ : ByteArray) = B [46, 59, 58] := rfl
        have h0 := nameS_len l 0
        have h1 := signS_len [46, 59, 58] (nameS l 0).2.1 (nameS l 0).2.2
        simp only []
        rw [es]
        unfold parseS
        rw [if_neg e0]
        by_cases h46 : (signS [46, 59, 58] (nameS l 0).2.1 (nameS l 0).2.2).1 = 46
        · rw [if_pos h46]
          have es2 : (⟨#[59, 58]⟩ : ByteArray) = B [59, 58] := rfl
          generalize hA : signS [46, 59, 58] (nameS l 0).2.1 (nameS l 0).2.2 = A at *
          refine Ev.congr (f := fun k => (lrn.f k (B A.2.1) A.2.2).bind fun bt133 => ((lrs.f bt133.2.1 bt133.2.2 (⟨#[59, 58]⟩ : ByteArray)).bind fun bt136 => (lPa.j1 k bt136.1 bt136.2.1 bt136.2.2 (B (nameS l 0).1) bt133.1 (⟨#[]⟩ : ByteArray)))) (fun k => ?_) ?_
          · rw [sign_f, hA]
            simp only [Option.bind_some]
            rw [if_pos h46]
          · refine Ev.bind (name_ev A.2.1 A.2.2 (by omega)) ?_
            have h2 := nameS_len A.2.1 A.2.2
            have h3 := signS_len [59, 58] (nameS A.2.1 A.2.2).2.1 (nameS A.2.1 A.2.2).2.2
            refine Ev.congr (f := fun k => lPa.j1 k (signS [59, 58] (nameS A.2.1 A.2.2).2.1 (nameS A.2.1 A.2.2).2.2).1 (B (signS [59, 58] (nameS A.2.1 A.2.2).2.1 (nameS A.2.1 A.2.2).2.2).2.1) (signS [59, 58] (nameS A.2.1 A.2.2).2.1 (nameS A.2.1 A.2.2).2.2).2.2 (B (nameS l 0).1) (B (nameS A.2.1 A.2.2).1) (⟨#[]⟩ : ByteArray)) (fun k => ?_) ?_
            · simp only []
              rw [es2, sign_f]; rfl
            · refine Ev.step (fun k => ?_) (outer_ev (l.length + 1) _ _ _ [] _ _ (⟨#[]⟩ : ByteArray) (fun _ => by omega) (by omega) (by simp; omega))
              simp only [lPa.j1]; rfl
        · rw [if_neg h46]
          refine Ev.congr (f := fun k => lPa.j1 k (signS [46, 59, 58] (nameS l 0).2.1 (nameS l 0).2.2).1 (B (signS [46, 59, 58] (nameS l 0).2.1 (nameS l 0).2.2).2.1) (signS [46, 59, 58] (nameS l 0).2.1 (nameS l 0).2.2).2.2 (B []) (B (nameS l 0).1) (⟨#[]⟩ : ByteArray)) (fun k => ?_) ?_
          · rw [sign_f]
            simp only [Option.bind_some]
            rw [if_neg h46]; rfl
          · refine Ev.step (fun k => ?_) (outer_ev (l.length + 1) _ _ _ [] _ _ (⟨#[]⟩ : ByteArray) (fun _ => by omega) (by omega) (by simp; omega))
            simp only [lPa.j1]; rfl
    · have e : parseS l = ([], [], [], [], 10) := by unfold parseS; rw [if_pos (.inr hcr)]
      rw [e]; exact hbad
end Go.Proofs.YthabooeapfepnaaGreatDoor.PL
