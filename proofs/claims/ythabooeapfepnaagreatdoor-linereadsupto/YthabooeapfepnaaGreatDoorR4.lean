import Derived.Test.YthabooeapfepnaaGreatDoorR3
namespace Go.Proofs.YthabooeapfepnaaGreatDoor.PL
open Go.RowKit Go.Lib Go.Proofs.YthabooeapfepnaaGreatDoor.Given Go.Proofs.YthabooeapfepnaaGreatDoor.Text Go.Proofs.YthabooeapfepnaaGreatDoorW.PrintWords
set_option linter.unusedVariables false
theorem valueS_bad (l : List UInt8) (bad : Int) (h : bad ≠ 0) : (valueS l bad).2.2 ≠ 0 := by
  unfold valueS
  split
  · split
    · exact failE_ne bad
    · exact h
  · exact h
theorem signS_bad (signs l : List UInt8) (bad : Int) (h : bad ≠ 0) : (signS signs l bad).2.2 ≠ 0 := by
  cases l with
  | nil => exact failE_ne' bad 31 h
  | cons b t =>
    show (if signs.contains b = true then ((b.toNat : Int), t, bad) else (0, b :: t, failE bad 31)).2.2 ≠ 0
    split
    · exact h
    · exact failE_ne' bad 31 h
theorem valsS_bad : ∀ (n : Nat) (c : Int) (l : List UInt8) (bad : Int) (vs : List (List UInt8)), bad ≠ 0 → (valsS n c l bad vs).2.2.2 ≠ 0
  | 0, c, l, bad, vs, h => h
  | n + 1, c, l, bad, vs, h => by
    unfold valsS
    split
    · exact valsS_bad n _ _ _ _ (signS_bad _ _ _ (valueS_bad l bad h))
    · exact h
theorem ref_inner (s : List UInt8) (hl : s.length ≤ 4000000000) : ∀ (n : Nat) (c : Int) (l : List UInt8) (bad : Int) (vs vs' : List (List UInt8)) (p : List UInt8) (g nm : ByteArray) (ps : List S31) (val pn : ByteArray) (r : ByteArray × ByteArray × List S31 × ByteArray × Int),
    (c = 61 ∨ c = 44 → l.length < n) → s = p ++ l → (vs' = vs ∨ bad ≠ 0) → vs'.length + n ≤ 4000000002 → ps.length ≤ 4000000002 →
    (∀ p' vs'', s = p' ++ (valsS n c l bad vs).2.2.1 → (vs'' = (valsS n c l bad vs).1 ∨ (valsS n c l bad vs).2.2.2 ≠ 0) →
      Ev (fun k => rPa.l0 k (B s) (valsS n c l bad vs).2.1 (B s) (p'.length : Int) (valsS n c l bad vs).2.2.2 g nm (ps ++ [(⟨pn, vs''.map B⟩ : S31)]) val) r) →
    Ev (fun k => rPa.l1 k (B s) c (B s) (p.length : Int) bad g nm ps val pn (vs'.map B)) r := by
  have hstop : ∀ (c : Int) (l : List UInt8) (bad : Int) (vs' : List (List UInt8)) (p : List UInt8) (g nm : ByteArray) (ps : List S31) (val pn : ByteArray) (r : ByteArray × ByteArray × List S31 × ByteArray × Int), ¬ (c = 61 ∨ c = 44) → ps.length ≤ 4000000002 →
      Ev (fun k => rPa.l0 k (B s) c (B s) (p.length : Int) bad g nm (ps ++ [(⟨pn, vs'.map B⟩ : S31)]) val) r → Ev (fun k => rPa.l1 k (B s) c (B s) (p.length : Int) bad g nm ps val pn (vs'.map B)) r := by
    intro c l bad vs' p g nm ps val pn r hc hp h
    have e : (c == 44) = false := beq_eq_false_iff_ne.mpr (fun h => hc (.inr h))
    refine Ev.step (f := fun k => rPa.j5 k (B s) c false (B s) (p.length : Int) bad g nm ps val pn (vs'.map B)) (fun k => ?_) ?_
    · simp only [rPa.l1]; rw [if_neg (fun h => hc (.inl h)), e]
    · refine Ev.step (fun k => ?_) h
      simp only [rPa.j5]
      rw [if_neg (by decide), if_pos (by omega)]
  intro n
  induction n with
  | zero =>
    intro c l bad vs vs' p g nm ps val pn r hn hs hv hvl hp h
    have hc : ¬ (c = 61 ∨ c = 44) := fun hc => by have := hn hc; omega
    exact hstop c l bad vs' p g nm ps val pn r hc hp (h p vs' hs hv)
  | succ n ih =>
    intro c l bad vs vs' p g nm ps val pn r hn hs hv hvl hp h
    by_cases hc : c = 61 ∨ c = 44
    · have e : valsS (n + 1) c l bad vs = valsS n (signS [44, 59, 58] (valueS l bad).2.1 (valueS l bad).2.2).1 (signS [44, 59, 58] (valueS l bad).2.1 (valueS l bad).2.2).2.1 (signS [44, 59, 58] (valueS l bad).2.1 (valueS l bad).2.2).2.2 (vs ++ [(valueS l bad).1]) := by
        show (if c = 61 ∨ c = 44 then _ else _) = _
        rw [if_pos hc]
      rw [e] at h
      have h1 := signS_len [44, 59, 58] (valueS l bad).2.1 (valueS l bad).2.2
      have h2 := valueS_len l bad
      have hll := hn hc
      obtain ⟨p1, v', hs1, hev1, hvv⟩ := scanValue_ev s p l hs hl bad
      obtain ⟨p2, hs2, hev2⟩ := scanSign_ev [44, 59, 58] s p1 (valueS l bad).2.1 hs1 hl (by decide) (valueS l bad).2.2
      have hrel : vs' ++ [v'] = vs ++ [(valueS l bad).1] ∨ (signS [44, 59, 58] (valueS l bad).2.1 (valueS l bad).2.2).2.2 ≠ 0 := by
        rcases hv with rfl | hb
        · rcases hvv with rfl | hb
          · exact .inl rfl
          · exact .inr (signS_bad _ _ _ hb)
        · exact .inr (signS_bad _ _ _ (valueS_bad l bad hb))
      have hnext := ih _ _ _ (vs ++ [(valueS l bad).1]) (vs' ++ [v']) p2 g nm ps val pn r (fun hc2 => by
        have hne : (signS [44, 59, 58] (valueS l bad).2.1 (valueS l bad).2.2).1 ≠ 0 := by omega
        have := h1.2 hne
        omega) hs2 hrel (by rw [List.length_append]; show vs'.length + 1 + n ≤ _; omega) hp h
      have es : (⟨#[44, 59, 58]⟩ : ByteArray) = B [44, 59, 58] := rfl
      have hz : (vs'.map B).length < 8796093022208 := by rw [List.length_map]; omega
      refine Ev.step (f := fun k => rPa.j5 k (B s) c true (B s) (p.length : Int) bad g nm ps val pn (vs'.map B)) (fun k => ?_) ?_
      · simp only [rPa.l1]
        rcases hc with rfl | rfl
        · rw [if_pos rfl]
        · rw [if_neg (by decide)]; rfl
      · refine Ev.step (f := fun k => (rSv.f k (B s) (p.length : Int) bad).bind fun bt310 => ((rSs.f k bt310.2.1 bt310.2.2.1 bt310.2.2.2 (B [44, 59, 58])).bind fun bt317 => (rPa.l1 k (B s) bt317.1 bt317.2.1 bt317.2.2.1 bt317.2.2.2 g nm ps val pn (vs'.map B ++ [bt310.1])))) (fun k => ?_) ?_
        · simp only [rPa.j5]
          rw [if_pos trivial]
          simp only [hz, if_true, es]
        · refine Ev.bind hev1 ?_
          refine Ev.bind hev2 ?_
          have em : vs'.map B ++ [B v'] = (vs' ++ [v']).map B := by rw [List.map_append]; rfl
          simp only [em]
          exact hnext
    · have e : valsS (n + 1) c l bad vs = (vs, c, l, bad) := by
        show (if c = 61 ∨ c = 44 then _ else _) = _
        rw [if_neg hc]
      rw [e] at h
      exact hstop c l bad vs' p g nm ps val pn r hc hp (h p vs' hs hv)
theorem ref_outer (s : List UInt8) (hl : s.length ≤ 4000000000) (g nm : List UInt8) (val : ByteArray) : ∀ (n : Nat) (c : Int) (l : List UInt8) (bad : Int) (ps : Ps) (ps' : List S31) (p : List UInt8),
    (c = 59 ∧ bad = 0 → l.length < n) → s = p ++ l → (ps' = ps.map pB ∨ bad ≠ 0) → ps'.length + n ≤ 4000000002 →
    Ev (fun k => rPa.l0 k (B s) c (B s) (p.length : Int) bad (B g) (B nm) ps' val) (lineB (finS g nm (parsS n c l bad ps))) := by
  have hstop : ∀ (c : Int) (l : List UInt8) (bad : Int) (ps : Ps) (ps' : List S31) (p : List UInt8), ¬ (c = 59 ∧ bad = 0) → s = p ++ l → (ps' = ps.map pB ∨ bad ≠ 0) →
      Ev (fun k => rPa.l0 k (B s) c (B s) (p.length : Int) bad (B g) (B nm) ps' val) (lineB (finS g nm (ps, l, bad))) := by
    intro c l bad ps ps' p hno hs hps
    rw [finB]
    refine Ev.step (f := fun k => rPa.j3 k (B s) false (B s) (p.length : Int) bad (B g) (B nm) ps' val) (fun k => ?_) ?_
    · simp only [rPa.l0]
      by_cases hc : c = 59
      · have hb : (bad == 0) = false := beq_eq_false_iff_ne.mpr (fun h => hno ⟨hc, h⟩)
        rw [if_pos hc, hb]
      · rw [if_neg hc]
    · refine Ev.step (f := fun _ => some _) (fun k => ?_) (Ev.now _)
      simp only [rPa.j3]
      rw [if_neg (by decide)]
      have hsz : ((B s).size : Int) = ((p.length + l.length : Nat) : Int) := by rw [B_size, hs]; simp
      have z0 : (0 : Int) ≤ (p.length : Int) := Int.natCast_nonneg _
      have z1 : (p.length : Int) ≤ ((B s).size : Int) := by rw [hsz]; omega
      have hex : (B s).extract ((p.length : Int) : Int).toNat (B s).size = B l := by
        rw [Int.toNat_natCast, B_tail, hs, List.drop_left]
      by_cases hb : bad = 0
      · rcases hps with rfl | h
        · rw [if_pos hb, if_pos hb, if_pos z0, if_pos z1, hex]
        · exact absurd hb h
      · rw [if_neg hb, if_neg hb]; rfl
  intro n
  induction n with
  | zero =>
    intro c l bad ps ps' p hn hs hps hp
    have hno : ¬ (c = 59 ∧ bad = 0) := fun h => by have := hn h; omega
    exact hstop c l bad ps ps' p hno hs hps
  | succ n ih =>
    intro c l bad ps ps' p hn hs hps hp
    by_cases hc : c = 59 ∧ bad = 0
    · have e : parsS (n + 1) c l bad ps = parsS n (paramS l bad).2.1 (paramS l bad).2.2.1 (paramS l bad).2.2.2 (ps ++ [((nameS l bad).1, (paramS l bad).1)]) := by
        show (if c = 59 ∧ bad = 0 then _ else _) = _
        rw [if_pos hc]
      rw [e]
      have hln := hn hc
      have h0 := nameS_len l bad
      have h1 := signS_len [61] (nameS l bad).2.1 (nameS l bad).2.2
      have hs0 : (signS [61] (nameS l bad).2.1 (nameS l bad).2.2).1 = 61 ∨ (signS [61] (nameS l bad).2.1 (nameS l bad).2.2).1 = 0 := by
        cases (nameS l bad).2.1 with
        | nil => right; rfl
        | cons b t =>
          show (if ([61] : List UInt8).contains b = true then ((b.toNat : Int), t, _) else (0, b :: t, _)).1 = 61 ∨ (if ([61] : List UInt8).contains b = true then ((b.toNat : Int), t, _) else (0, b :: t, _)).1 = 0
          by_cases hb : ([61] : List UInt8).contains b = true
          · left
            rw [if_pos hb]
            have : b = 61 := by simpa using hb
            subst this; rfl
          · right; rw [if_neg hb]
      have hpn : (paramS l bad).2.1 = 59 → (paramS l bad).2.2.1.length < n := by
        intro h59
        have : (paramS l bad).2.2.1.length < (signS [61] (nameS l bad).2.1 (nameS l bad).2.2).2.1.length := by
          refine valsS_sign _ _ _ _ _ (by omega) (fun _ => by omega) ?_
          show (paramS l bad).2.1 ≠ 0
          rw [h59]; decide
        omega
      obtain ⟨p1, hs1, hev1⟩ := scanName_ev s p l hs hl bad
      obtain ⟨p2, hs2, hev2⟩ := scanSign_ev [61] s p1 (nameS l bad).2.1 hs1 hl (by decide) (nameS l bad).2.2
      have hsl : (signS [61] (nameS l bad).2.1 (nameS l bad).2.2).2.1.length ≤ 4000000000 := by
        have : l.length ≤ s.length := by rw [hs]; simp
        omega
      obtain ⟨hc1, hb1⟩ := hc
      have hps0 : ps' = ps.map pB := by rcases hps with h | h; exact h; exact absurd hb1 h
      have hin := ref_inner s hl ((signS [61] (nameS l bad).2.1 (nameS l bad).2.2).2.1.length + 1) (signS [61] (nameS l bad).2.1 (nameS l bad).2.2).1 (signS [61] (nameS l bad).2.1 (nameS l bad).2.2).2.1 (signS [61] (nameS l bad).2.1 (nameS l bad).2.2).2.2 [] [] p2 (B g) (B nm) ps' val (B (nameS l bad).1)
        (lineB (finS g nm (parsS n (paramS l bad).2.1 (paramS l bad).2.2.1 (paramS l bad).2.2.2 (ps ++ [((nameS l bad).1, (paramS l bad).1)]))))
        (fun _ => by omega) hs2 (.inl rfl) (by show 0 + _ ≤ _; omega) (by omega) (fun p' vs'' hsp hv => ih (paramS l bad).2.1 (paramS l bad).2.2.1 (paramS l bad).2.2.2 (ps ++ [((nameS l bad).1, (paramS l bad).1)]) (ps' ++ [(⟨B (nameS l bad).1, vs''.map B⟩ : S31)]) p' (fun h => hpn h.1) hsp (by
          rcases hv with h | h
          · left
            rw [hps0, List.map_append, h]; rfl
          · exact .inr h) (by rw [List.length_append]; show ps'.length + 1 + n ≤ _; omega))
      refine Ev.step (f := fun k => rPa.j3 k (B s) true (B s) (p.length : Int) bad (B g) (B nm) ps' val) (fun k => ?_) ?_
      · simp only [rPa.l0]
        have hb : (bad == 0) = true := by rw [hb1]; rfl
        rw [if_pos hc1, hb]
      · have es : (⟨#[61]⟩ : ByteArray) = B [61] := rfl
        refine Ev.step (f := fun k => (rSn.f k (B s) (p.length : Int) bad).bind fun bt302 => ((rSs.f k bt302.2.1 bt302.2.2.1 bt302.2.2.2 (B [61])).bind fun bt306 => (rPa.l1 k (B s) bt306.1 bt306.2.1 bt306.2.2.1 bt306.2.2.2 (B g) (B nm) ps' val bt302.1 ([] : List ByteArray)))) (fun k => ?_) ?_
        · simp only [rPa.j3]
          rw [if_pos trivial, es]
        · refine Ev.bind hev1 ?_
          refine Ev.bind hev2 ?_
          exact hin
    · have e : parsS (n + 1) c l bad ps = (ps, l, bad) := by
        show (if c = 59 ∧ bad = 0 then _ else _) = _
        rw [if_neg hc]
      rw [e]
      exact hstop c l bad ps ps' p hc hs hps
theorem crlf_any (l : List UInt8) : crlfL l = l.any fun b => ([13, 10] : List UInt8).contains b := by
  unfold crlfL Lib.containsAny
  have e : (l.any fun b => ([13, 10] : List UInt8).contains b) = !(l.all fun b => !([13, 10] : List UInt8).contains b) := by
    rw [List.not_all_eq_any_not]; simp
  rw [e]
  rcases indexAny_split [13, 10] l with ⟨h1, h2⟩ | ⟨h1, h2⟩
  · rw [h1, h2]; rfl
  · rw [h1, h2]; simp
theorem refParse_ev (l : List UInt8) (h : l.length ≤ 4000000000) : Ev (fun k => rPa.f k (B l)) (lineB (parseS l)) := by
  have hbad : Ev (fun k => rPa.j0 k (B l) true) (lineB ([], [], [], [], 10)) := by
    refine Ev.step (f := fun _ => some _) (fun k => ?_) (Ev.now _)
    simp only [rPa.j0]
    rw [if_pos trivial]; rfl
  unfold rPa.f
  refine Ev.bind (refValid_ev l.length l (Nat.le_refl _) h) ?_
  cases hv : okT l
  · have e : parseS l = ([], [], [], [], 10) := by unfold parseS; rw [if_pos (.inl hv)]
    rw [e]
    exact Ev.congr (fun k => if_neg (by decide)) hbad
  · have es0 : (⟨#[13, 10]⟩ : ByteArray) = B [13, 10] := rfl
    have hh := has_ev l [13, 10] h (by decide)
    rw [← crlf_any] at hh
    refine Ev.congr (f := fun k => (rHa.f k (B l) (B [13, 10])).bind fun t282 => rPa.j0 k (B l) t282) (fun k => if_pos rfl) ?_
    refine Ev.bind hh ?_
    cases hcr : crlfL l
    · have e0 : ¬ (okT l = false ∨ crlfL l = true) := by rw [hv, hcr]; decide
      have es : (⟨#[46, 59, 58]⟩ : ByteArray) = B [46, 59, 58] := rfl
      have es2 : (⟨#[59, 58]⟩ : ByteArray) = B [59, 58] := rfl
      have h0 := nameS_len l 0
      have h1 := signS_len [46, 59, 58] (nameS l 0).2.1 (nameS l 0).2.2
      obtain ⟨p1, hs1, hev1⟩ := scanName_ev l [] l rfl h 0
      obtain ⟨p2, hs2, hev2⟩ := scanSign_ev [46, 59, 58] l p1 (nameS l 0).2.1 hs1 h (by decide) (nameS l 0).2.2
      refine Ev.step (f := fun k => (rSn.f k (B l) 0 0).bind fun bt285 => ((rSs.f k bt285.2.1 bt285.2.2.1 bt285.2.2.2 (B [46, 59, 58])).bind fun bt289 => (if bt289.1 = 46 then ((rSn.f k bt289.2.1 bt289.2.2.1 bt289.2.2.2).bind fun bt293 => ((rSs.f k bt293.2.1 bt293.2.2.1 bt293.2.2.2 (B [59, 58])).bind fun bt297 => (rPa.j1 k (B l) bt297.1 bt297.2.1 bt297.2.2.1 bt297.2.2.2 bt285.1 bt293.1 (⟨#[]⟩ : ByteArray)))) else (rPa.j1 k (B l) bt289.1 bt289.2.1 bt289.2.2.1 bt289.2.2.2 (⟨#[]⟩ : ByteArray) bt285.1 (⟨#[]⟩ : ByteArray))))) (fun k => ?_) ?_
      · simp only [rPa.j0]
        rw [if_neg (by decide), es, es2]
      · refine Ev.bind hev1 ?_
        refine Ev.bind hev2 ?_
        unfold parseS
        rw [if_neg e0]
        simp only []
        by_cases h46 : (signS [46, 59, 58] (nameS l 0).2.1 (nameS l 0).2.2).1 = 46
        · rw [if_pos h46]
          generalize hA : signS [46, 59, 58] (nameS l 0).2.1 (nameS l 0).2.2 = A at *
          obtain ⟨p3, hs3, hev3⟩ := scanName_ev l p2 A.2.1 hs2 h A.2.2
          obtain ⟨p4, hs4, hev4⟩ := scanSign_ev [59, 58] l p3 (nameS A.2.1 A.2.2).2.1 hs3 h (by decide) (nameS A.2.1 A.2.2).2.2
          have h2 := nameS_len A.2.1 A.2.2
          have h3 := signS_len [59, 58] (nameS A.2.1 A.2.2).2.1 (nameS A.2.1 A.2.2).2.2
          refine Ev.congr (f := fun k => (rSn.f k (B l) (p2.length : Int) A.2.2).bind fun bt293 => ((rSs.f k bt293.2.1 bt293.2.2.1 bt293.2.2.2 (B [59, 58])).bind fun bt297 => (rPa.j1 k (B l) bt297.1 bt297.2.1 bt297.2.2.1 bt297.2.2.2 (B (nameS l 0).1) bt293.1 (⟨#[]⟩ : ByteArray)))) (fun k => if_pos h46) ?_
          refine Ev.bind hev3 ?_
          refine Ev.bind hev4 ?_
          refine Ev.step (fun k => ?_) (ref_outer l h (nameS l 0).1 (nameS A.2.1 A.2.2).1 (⟨#[]⟩ : ByteArray) (l.length + 1) _ _ _ [] [] p4 (fun _ => by omega) hs4 (.inl rfl) (by show 0 + _ ≤ _; omega))
          simp only [rPa.j1]
        · rw [if_neg h46]
          refine Ev.congr (f := fun k => rPa.j1 k (B l) (signS [46, 59, 58] (nameS l 0).2.1 (nameS l 0).2.2).1 (B l) (p2.length : Int) (signS [46, 59, 58] (nameS l 0).2.1 (nameS l 0).2.2).2.2 (B []) (B (nameS l 0).1) (⟨#[]⟩ : ByteArray)) (fun k => if_neg h46) ?_
          refine Ev.step (fun k => ?_) (ref_outer l h [] (nameS l 0).1 (⟨#[]⟩ : ByteArray) (l.length + 1) _ _ _ [] [] p2 (fun _ => by omega) hs2 (.inl rfl) (by show 0 + _ ≤ _; omega))
          simp only [rPa.j1]
    · have e : parseS l = ([], [], [], [], 10) := by unfold parseS; rw [if_pos (.inr hcr)]
      rw [e]; exact hbad
end Go.Proofs.YthabooeapfepnaaGreatDoor.PL
