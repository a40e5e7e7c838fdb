import Derived.Test.YthabooeapfepnaaGreatDoorR2
namespace Go.Proofs.YthabooeapfepnaaGreatDoor.PL
open Go.RowKit Go.Lib Go.Proofs.YthabooeapfepnaaGreatDoor.Given Go.Proofs.YthabooeapfepnaaGreatDoor.Text Go.Proofs.YthabooeapfepnaaGreatDoorW.PrintWords
set_option linter.unusedVariables false
theorem w64m (i : Nat) (h : i ≤ 4000000010) : wrap64 (((i + 1 : Nat) : Int) - 1) = (i : Int) := by unfold wrap64; omega
theorem fail_if (bad : Int) (S : ByteArray) (at_ : Int) (v : ByteArray) : (if bad = 0 then (some (v, S, at_, (31 : Int))) else (some (v, S, at_, bad))) = some (v, S, at_, failE bad 31) := by
  unfold failE
  by_cases hb : bad = 0
  · rw [if_pos hb, if_pos hb]
  · rw [if_neg hb, if_neg hb]
theorem valQ_l0 (s p : List UInt8) (hl : s.length ≤ 4000000000) (bad : Int) : ∀ (t m : List UInt8), s = p ++ 34 :: (m ++ t) →
    Ev (fun k => rSv.l0 k (p.length : Int) (B s) ((p.length + 1 + m.length : Nat) : Int) bad)
      (if t.all notQ = true then (B [], B s, ((p.length + 1 + (m ++ t).length : Nat) : Int), failE bad 31) else (B (meantL (m ++ t.takeWhile notQ)), B s, ((p.length + 1 + (m ++ t.takeWhile notQ).length + 1 : Nat) : Int), bad)) := by
  intro t
  induction t with
  | nil =>
    intro m hs
    have hsz : ((B s).size : Int) = ((p.length + 1 + m.length : Nat) : Int) := by rw [B_size, hs]; simp; omega
    have e0 : ([] : List UInt8).all notQ = true := rfl
    rw [if_pos e0, List.append_nil]
    refine Ev.step (f := fun k => rSv.j2 k (p.length : Int) (B s) ((p.length + 1 + m.length : Nat) : Int) bad) (fun k => ?_) ?_
    · simp only [rSv.l0]
      rw [if_neg (by rw [hsz]; exact Int.lt_irrefl _)]
    · refine Ev.step (f := fun _ => some _) (fun k => ?_) (Ev.now _)
      simp only [rSv.j2]
      rw [if_pos hsz.symm, fail_if]; rfl
  | cons b t ih =>
    intro m hs
    have hsz : ((B s).size : Int) = ((p.length + 1 + m.length + t.length + 1 : Nat) : Int) := by rw [B_size, hs]; simp; omega
    have hlen : p.length + 1 + m.length + t.length + 1 ≤ 4000000000 := by
      have : s.length = p.length + 1 + m.length + t.length + 1 := by rw [hs]; simp; omega
      omega
    have hbt : bt (B s) ((p.length + 1 + m.length : Nat) : Int) = (b.toNat : Int) := by
      have h := bt_at (p ++ 34 :: m) t b
      have e : p ++ 34 :: m ++ b :: t = s := by rw [hs]; simp
      have e2 : (p ++ 34 :: m).length = p.length + 1 + m.length := by simp; omega
      rw [e, e2] at h
      exact h
    have z1 : ((p.length + 1 + m.length : Nat) : Int) < ((B s).size : Int) := by rw [hsz]; omega
    have z0 : (0 : Int) ≤ ((p.length + 1 + m.length : Nat) : Int) := Int.natCast_nonneg _
    by_cases hb : b = 34
    · have hb' : (b.toNat : Int) = 34 := by rw [hb]; rfl
      have hq : notQ b = false := by rw [hb]; rfl
      rw [List.all_cons, List.takeWhile_cons, hq]
      simp only [Bool.false_and, Bool.false_eq_true, if_false, List.append_nil]
      have hz3 : m.length ≤ 4000000000 := by omega
      have hne : ¬ ((p.length + 1 + m.length : Nat) : Int) = ((B s).size : Int) := by omega
      have y1 : (0 : Int) ≤ ((p.length + 1 : Nat) : Int) := Int.natCast_nonneg _
      have y2 : ((p.length + 1 : Nat) : Int) ≤ ((p.length + 1 + m.length : Nat) : Int) := by omega
      have y3 : ((p.length + 1 + m.length : Nat) : Int) ≤ ((B s).size : Int) := by omega
      have hw1 := w64 p.length (by omega)
      have hw2 := w64 (p.length + 1 + m.length) (by omega)
      have hw3 := w64m (p.length + 1 + m.length) (by omega)
      have hex : (B s).extract (((p.length + 1 : Nat) : Int) : Int).toNat (((p.length + 1 + m.length : Nat) : Int) : Int).toNat = B m := by
        rw [Int.toNat_natCast, Int.toNat_natCast]
        have h := B_sub (p ++ [34]) m (b :: t)
        have e : p ++ [34] ++ m ++ b :: t = s := by rw [hs]; simp
        have e2 : (p ++ [34]).length = p.length + 1 := by simp
        rw [e, e2] at h
        exact h
      refine Ev.step (f := fun k => rSv.j2 k (p.length : Int) (B s) ((p.length + 1 + m.length : Nat) : Int) bad) (fun k => ?_) ?_
      · simp only [rSv.l0]
        rw [if_pos z1, if_pos z0, hbt, if_pos hb']
      · refine Ev.step (f := fun k => (rMe.f k (B m)).bind fun t276 => (some (t276, B s, ((p.length + 1 + m.length + 1 : Nat) : Int), bad))) (fun k => ?_) (Ev.bind (refMeant_ev m hz3) (Ev.now _))
        simp only [rSv.j2]
        rw [if_neg hne, hw1, hw2, hw3, if_pos y1, if_pos y2, if_pos y3, hex]
    · have hq : notQ b = true := by unfold notQ; simpa using hb
      have h := ih (m ++ [b]) (by rw [hs]; simp)
      have e1 : m ++ [b] ++ t = m ++ b :: t := by simp
      have e2 : m ++ [b] ++ t.takeWhile notQ = m ++ b :: t.takeWhile notQ := by simp
      have e3 : p.length + 1 + (m ++ [b]).length = p.length + 1 + m.length + 1 := by simp; omega
      rw [e1, e2, e3] at h
      rw [List.all_cons, List.takeWhile_cons, hq]
      simp only [Bool.true_and, if_true]
      have hw2 := w64 (p.length + 1 + m.length) (by omega)
      refine Ev.step (fun k => ?_) h
      simp only [rSv.l0]
      have hne34 : ¬ (b.toNat : Int) = 34 := u8_ne b 34 hb
      rw [if_pos z1, if_pos z0, hbt, if_neg hne34, hw2]
theorem valB_l1 (s p : List UInt8) (hl : s.length ≤ 4000000000) (bad : Int) : ∀ (t m : List UInt8), s = p ++ (m ++ t) →
    Ev (fun k => rSv.l1 k (p.length : Int) (B s) ((p.length + m.length : Nat) : Int) bad)
      (B (meantL (m ++ t.takeWhile notSep)), B s, ((p.length + (m ++ t.takeWhile notSep).length : Nat) : Int), bad) := by
  intro t
  induction t with
  | nil =>
    intro m hs
    have hsz : ((B s).size : Int) = ((p.length + m.length : Nat) : Int) := by rw [B_size, hs]; simp
    have hml : m.length ≤ 4000000000 := by
      have : s.length = p.length + m.length := by rw [hs]; simp
      omega
    have y1 : (0 : Int) ≤ (p.length : Int) := Int.natCast_nonneg _
    have y2 : (p.length : Int) ≤ ((p.length + m.length : Nat) : Int) := by omega
    have hex : (B s).extract ((p.length : Int) : Int).toNat (((p.length + m.length : Nat) : Int) : Int).toNat = B m := by
      rw [Int.toNat_natCast, Int.toNat_natCast]
      have h := B_sub p m []
      have e : p ++ m ++ [] = s := by rw [hs]; simp
      rw [e] at h
      exact h
    rw [List.takeWhile_nil, List.append_nil]
    refine Ev.step (f := fun k => (rMe.f k (B m)).bind fun t279 => (some (t279, B s, ((p.length + m.length : Nat) : Int), bad))) (fun k => ?_) (Ev.bind (refMeant_ev m hml) (Ev.now _))
    simp only [rSv.l1]
    rw [if_neg (by rw [hsz]; exact Int.lt_irrefl _), if_pos y1, if_pos y2, if_pos (by rw [hsz]; exact Int.le_refl _), hex]
  | cons b t ih =>
    intro m hs
    have hsz : ((B s).size : Int) = ((p.length + m.length + t.length + 1 : Nat) : Int) := by rw [B_size, hs]; simp; omega
    have hlen : p.length + m.length + t.length + 1 ≤ 4000000000 := by
      have : s.length = p.length + m.length + t.length + 1 := by rw [hs]; simp; omega
      omega
    have z1 : ((p.length + m.length : Nat) : Int) < ((B s).size : Int) := by rw [hsz]; omega
    have z0 : (0 : Int) ≤ ((p.length + m.length : Nat) : Int) := Int.natCast_nonneg _
    have y0 : (0 : Int) ≤ (p.length : Int) := Int.natCast_nonneg _
    have y1 : ((p.length + m.length : Nat) : Int) ≤ ((p.length + m.length + 1 : Nat) : Int) := by omega
    have y2 : ((p.length + m.length + 1 : Nat) : Int) ≤ ((B s).size : Int) := by rw [hsz]; omega
    have y3 : (p.length : Int) ≤ ((p.length + m.length : Nat) : Int) := by omega
    have y4 : ((p.length + m.length : Nat) : Int) ≤ ((B s).size : Int) := by omega
    have hml : m.length ≤ 4000000000 := by omega
    have hw := w64 (p.length + m.length) (by omega)
    have hex1 : (B s).extract (((p.length + m.length : Nat) : Int) : Int).toNat (((p.length + m.length + 1 : Nat) : Int) : Int).toNat = B [b] := by
      rw [Int.toNat_natCast, Int.toNat_natCast]
      have h := B_sub (p ++ m) [b] t
      have e : p ++ m ++ [b] ++ t = s := by rw [hs]; simp
      rw [e, List.length_append] at h
      exact h
    have hex : (B s).extract ((p.length : Int) : Int).toNat (((p.length + m.length : Nat) : Int) : Int).toNat = B m := by
      rw [Int.toNat_natCast, Int.toNat_natCast]
      have h := B_sub p m (b :: t)
      have e : p ++ m ++ b :: t = s := by rw [hs]; simp
      rw [e] at h
      exact h
    have es : (⟨#[44, 59, 58, 34]⟩ : ByteArray) = B seps := rfl
    have hh := has_ev [b] seps (by simp) (by decide)
    have e : ([b].any fun c => seps.contains c) = seps.contains b := by simp
    rw [e] at hh
    have hgo : ∀ r, Ev (fun k => (if seps.contains b = true then ((rMe.f k (B m)).bind fun t278 => (some (t278, B s, ((p.length + m.length : Nat) : Int), bad))) else (rSv.l1 k (p.length : Int) (B s) ((p.length + m.length + 1 : Nat) : Int) bad))) r →
        Ev (fun k => rSv.l1 k (p.length : Int) (B s) ((p.length + m.length : Nat) : Int) bad) r := by
      intro r hr
      refine Ev.step (f := fun k => (rHa.f k (B [b]) (B seps)).bind fun t277 => (if t277 = true then ((rMe.f k (B m)).bind fun t278 => (some (t278, B s, ((p.length + m.length : Nat) : Int), bad))) else (rSv.l1 k (p.length : Int) (B s) ((p.length + m.length + 1 : Nat) : Int) bad))) (fun k => ?_) (Ev.bind hh hr)
      simp only [rSv.l1]
      rw [if_pos z1, if_pos z0, hw, if_pos y1, if_pos y2, hex1, es, if_pos y0, if_pos y3, if_pos y4, hex]
    apply hgo
    cases hc : seps.contains b
    · have hq : notSep b = true := by unfold notSep; rw [hc]; rfl
      have h := ih (m ++ [b]) (by rw [hs]; simp)
      have e2 : m ++ [b] ++ t.takeWhile notSep = m ++ b :: t.takeWhile notSep := by simp
      have e3 : p.length + (m ++ [b]).length = p.length + m.length + 1 := by simp; omega
      rw [e2, e3] at h
      rw [List.takeWhile_cons, hq]
      simp only [if_true]
      exact Ev.congr (fun k => if_neg (by decide)) h
    · have hq : notSep b = false := by unfold notSep; rw [hc]; rfl
      rw [List.takeWhile_cons, hq]
      simp only [Bool.false_eq_true, if_false, List.append_nil]
      refine Ev.congr (f := fun k => (rMe.f k (B m)).bind fun t278 => (some (t278, B s, ((p.length + m.length : Nat) : Int), bad))) (fun k => if_pos trivial) ?_
      exact Ev.bind (refMeant_ev m hml) (Ev.now _)
theorem failE_ne (bad : Int) : failE bad 31 ≠ 0 := by
  unfold failE
  split
  · decide
  · assumption
theorem failE_ne' (bad e : Int) (h : bad ≠ 0) : failE bad e ≠ 0 := by
  unfold failE
  rw [if_neg h]; exact h
theorem scanValue_ev (s p l : List UInt8) (hs : s = p ++ l) (hl : s.length ≤ 4000000000) (bad : Int) :
    ∃ p' v', s = p' ++ (valueS l bad).2.1 ∧ Ev (fun k => rSv.f k (B s) (p.length : Int) bad) (B v', B s, (p'.length : Int), (valueS l bad).2.2) ∧ (v' = (valueS l bad).1 ∨ (valueS l bad).2.2 ≠ 0) := by
  cases l with
  | nil =>
    have h := valB_l1 s p hl bad [] [] hs
    have e : valueS [] bad = (meantL [], [], bad) := rfl
    rw [e]
    refine ⟨p, meantL [], hs, ?_, .inl rfl⟩
    have hsz : ((B s).size : Int) = (p.length : Int) := by rw [B_size, hs]; simp
    refine Ev.congr (f := fun k => rSv.j0 k (p.length : Int) false (B s) (p.length : Int) bad) (fun k => ?_) ?_
    · unfold rSv.f
      rw [if_neg (by rw [hsz]; exact Int.lt_irrefl _)]
    · refine Ev.step (fun k => ?_) h
      simp only [rSv.j0]
      rw [if_neg (by decide)]; rfl
  | cons b t =>
    have hsz : ((B s).size : Int) = ((p.length + t.length + 1 : Nat) : Int) := by rw [B_size, hs]; simp; omega
    have hlen : p.length + t.length + 1 ≤ 4000000000 := by
      have : s.length = p.length + t.length + 1 := by rw [hs]; simp; omega
      omega
    have hbt : bt (B s) (p.length : Int) = (b.toNat : Int) := by rw [hs]; exact bt_at p t b
    have z1 : (p.length : Int) < ((B s).size : Int) := by clear hbt; rw [hsz]; omega
    have z0 : (0 : Int) ≤ (p.length : Int) := Int.natCast_nonneg _
    by_cases hb : b = 34
    · have hb' : ((b.toNat : Int) == 34) = true := by rw [hb]; rfl
      have h := valQ_l0 s p hl bad t [] (by rw [hs, hb]; rfl)
      have hv : valueS (b :: t) bad = if t.all notQ = true then (meantL t, [], failE bad 31) else (meantL (t.takeWhile notQ), (t.dropWhile notQ).drop 1, bad) := by
        unfold valueS
        rw [if_pos (by rw [hb]; rfl)]; rfl
      have hf : ∀ r, Ev (fun k => rSv.l0 k (p.length : Int) (B s) ((p.length + 1 : Nat) : Int) bad) r → Ev (fun k => rSv.f k (B s) (p.length : Int) bad) r := by
        intro r hr
        refine Ev.congr (f := fun k => rSv.j0 k (p.length : Int) true (B s) (p.length : Int) bad) (fun k => ?_) ?_
        · unfold rSv.f
          rw [if_pos z1, if_pos z0, hbt, hb']
        · refine Ev.step (fun k => ?_) hr
          simp only [rSv.j0]
          rw [if_pos trivial, w64 p.length (by clear hbt; omega)]
      rw [hv]
      by_cases ha : t.all notQ = true
      · rw [if_pos ha] at h ⊢
        refine ⟨s, [], by simp, hf _ ?_, .inr (failE_ne bad)⟩
        have e : p.length + 1 + ([] ++ t).length = s.length := by rw [hs]; simp; omega
        rw [e] at h
        exact h
      · rw [if_neg ha] at h ⊢
        refine ⟨p ++ 34 :: (t.takeWhile notQ ++ [34]), meantL (t.takeWhile notQ), ?_, hf _ ?_, .inl rfl⟩
        · have h1 : t.dropWhile notQ = 34 :: (t.dropWhile notQ).drop 1 := by
            have hne : t.dropWhile notQ ≠ [] := by
              intro he
              apply ha
              have h3 := List.takeWhile_append_dropWhile (p := notQ) (l := t)
              rw [he, List.append_nil] at h3
              exact (takeWhile_full notQ t).1 (by rw [h3])
            cases hd : t.dropWhile notQ with
            | nil => exact absurd hd hne
            | cons c r =>
              have hc := List.head?_dropWhile_not notQ t
              rw [hd] at hc
              have hc' : notQ c = false := by simpa using hc
              have : c = 34 := by unfold notQ at hc'; simpa using hc'
              rw [this]; rfl
          have h2 : s = p ++ 34 :: (t.takeWhile notQ ++ t.dropWhile notQ) := by rw [List.takeWhile_append_dropWhile, hs, hb]
          rw [h2, h1]
          simp
        · have e : p.length + 1 + ([] ++ t.takeWhile notQ).length + 1 = (p ++ 34 :: (t.takeWhile notQ ++ [34])).length := by simp; omega
          rw [e] at h
          exact h
    · have hb' : ((b.toNat : Int) == 34) = false := beq_eq_false_iff_ne.mpr (u8_ne b 34 hb)
      have h := valB_l1 s p hl bad (b :: t) [] hs
      have hv : valueS (b :: t) bad = (meantL ((b :: t).takeWhile notSep), (b :: t).dropWhile notSep, bad) := by
        unfold valueS
        rw [if_neg (by simpa using hb)]
      rw [hv]
      refine ⟨p ++ (b :: t).takeWhile notSep, meantL ((b :: t).takeWhile notSep), by rw [List.append_assoc, List.takeWhile_append_dropWhile]; exact hs, ?_, .inl rfl⟩
      refine Ev.congr (f := fun k => rSv.j0 k (p.length : Int) false (B s) (p.length : Int) bad) (fun k => ?_) ?_
      · unfold rSv.f
        rw [if_pos z1, if_pos z0, hbt, hb']
      · rw [List.length_append]
        refine Ev.step (fun k => ?_) h
        simp only [rSv.j0]
        rw [if_neg (by decide)]; rfl
end Go.Proofs.YthabooeapfepnaaGreatDoor.PL
