import Derived.Test.YthabooeapfepnaaGreatDoorR1
import Derived.Test.YthabooeapfepnaaGreatDoorPLx13
namespace Go.Proofs.YthabooeapfepnaaGreatDoor.PL
open Go.RowKit Go.Lib Go.Proofs.YthabooeapfepnaaGreatDoor.Given Go.Proofs.YthabooeapfepnaaGreatDoor.Text Go.Proofs.YthabooeapfepnaaGreatDoorW.PrintWords
set_option linter.unusedVariables false
theorem B_sub (p m q : List UInt8) : (B (p ++ m ++ q)).extract p.length (p.length + m.length) = B m := by
  rw [B_extract]
  congr 1
  rw [List.append_assoc, List.drop_left, Nat.add_sub_cancel_left, List.take_left]
theorem name_chain (s p m q : List UInt8) (hs : s = p ++ m ++ q) (hl : s.length ≤ 4000000000) (bad : Int) (at_ : Int) (hat : at_ = ((p.length + m.length : Nat) : Int)) :
    (if bad = 0 then (if (wrap64 (at_ - (p.length : Int))) < 1 then (if 0 ≤ (p.length : Int) then (if (p.length : Int) ≤ at_ then (if at_ ≤ ((B s).size : Int) then (some ((B s).extract ((p.length : Int) : Int).toNat (at_ : Int).toNat, B s, at_, 30)) else (none)) else (none)) else (none)) else (if (wrap64 (at_ - (p.length : Int))) > 64 then (if 0 ≤ (p.length : Int) then (if (p.length : Int) ≤ at_ then (if at_ ≤ ((B s).size : Int) then (some ((B s).extract ((p.length : Int) : Int).toNat (at_ : Int).toNat, B s, at_, 30)) else (none)) else (none)) else (none)) else (if 0 ≤ (p.length : Int) then (if (p.length : Int) ≤ at_ then (if at_ ≤ ((B s).size : Int) then (some ((B s).extract ((p.length : Int) : Int).toNat (at_ : Int).toNat, B s, at_, bad)) else (none)) else (none)) else (none)))) else (if 0 ≤ (p.length : Int) then (if (p.length : Int) ≤ at_ then (if at_ ≤ ((B s).size : Int) then (some ((B s).extract ((p.length : Int) : Int).toNat (at_ : Int).toNat, B s, at_, bad)) else (none)) else (none)) else (none)))
    = some (B m, B s, at_, if fitsL m = true then bad else failE bad 30) := by
  have hsz : (B s).size = p.length + m.length + q.length := by rw [B_size, hs]; simp; omega
  have hex : (B s).extract ((p.length : Int) : Int).toNat (at_ : Int).toNat = B m := by
    rw [hat, Int.toNat_natCast, Int.toNat_natCast, hs]; exact B_sub p m q
  have g1 : (0 : Int) ≤ (p.length : Int) := by omega
  have g2 : (p.length : Int) ≤ at_ := by omega
  have g3 : at_ ≤ ((B s).size : Int) := by rw [hsz]; omega
  have hw : wrap64 (at_ - (p.length : Int)) = (m.length : Int) := by
    have : s.length = p.length + m.length + q.length := by rw [hs]; simp; omega
    rw [hat]; unfold wrap64; omega
  rw [hw, hex]
  simp only [eq_true g1, eq_true g2, eq_true g3, if_true]
  unfold failE fitsL
  by_cases hb : bad = 0
  · rw [if_pos hb]
    by_cases h1 : (m.length : Int) < 1
    · rw [if_pos h1, decide_eq_false (show ¬ 1 ≤ m.length by omega), Bool.false_and, if_neg (by decide), if_pos hb]
    · rw [if_neg h1, decide_eq_true (show 1 ≤ m.length by omega), Bool.true_and]
      by_cases h2 : (m.length : Int) > 64
      · rw [if_pos h2, decide_eq_false (show ¬ m.length ≤ 64 by omega), if_neg (by decide), if_pos hb]
      · rw [if_neg h2, decide_eq_true (show m.length ≤ 64 by omega), if_pos rfl]
  · rw [if_neg hb, if_neg hb]
    simp
theorem scanName_l0 (s p : List UInt8) (hl : s.length ≤ 4000000000) (bad : Int) : ∀ (t m : List UInt8), s = p ++ m ++ t →
    Ev (fun k => rSn.l0 k (p.length : Int) (B s) ((p.length + m.length : Nat) : Int) bad)
      (B (m ++ t.takeWhile inName), B s, ((p.length + (m ++ t.takeWhile inName).length : Nat) : Int), if fitsL (m ++ t.takeWhile inName) = true then bad else failE bad 30) := by
  intro t
  induction t with
  | nil =>
    intro m hs
    have hc := name_chain s p m [] hs hl bad _ rfl
    refine Ev.step (f := fun _ => some _) (fun k => ?_) (Ev.now _)
    simp only [rSn.l0]
    rw [if_neg (by rw [B_size, hs]; simp), hc]
    simp
  | cons b t ih =>
    intro m hs
    have hsz : ((B s).size : Int) = p.length + m.length + t.length + 1 := by rw [B_size, hs]; simp; omega
    have hbt : bt (B s) ((p.length + m.length : Nat) : Int) = (b.toNat : Int) := by
      have := bt_at (p ++ m) t b
      rw [hs]
      rw [List.length_append] at this
      exact this
    cases hb : inName b
    · rw [List.takeWhile_cons, hb]
      have hc := name_chain s p m (b :: t) hs hl bad _ rfl
      refine Ev.step (f := fun _ => some _) (fun k => ?_) (Ev.now _)
      simp only [rSn.l0]
      rw [if_pos (by rw [hsz]; omega), if_pos (by omega), hbt, ref_in_eq, hb]
      simp only [Option.bind_some]
      rw [if_neg (by decide), hc]
      simp
    · have h := ih (m ++ [b]) (by rw [hs]; simp)
      rw [List.takeWhile_cons, hb]
      have e1 : m ++ [b] ++ t.takeWhile inName = m ++ b :: t.takeWhile inName := by simp
      rw [e1] at h
      refine Ev.step (fun k => ?_) h
      simp only [rSn.l0]
      rw [if_pos (by rw [hsz]; omega), if_pos (by omega), hbt, ref_in_eq, hb]
      simp only [Option.bind_some]
      have hl2 : p.length + m.length + t.length + 1 ≤ 4000000000 := by
        have : s.length = p.length + m.length + t.length + 1 := by rw [hs]; simp; omega
        omega
      rw [if_pos trivial, w64 _ (by omega)]
      simp [Nat.add_assoc]
theorem scanName_ev (s p l : List UInt8) (hs : s = p ++ l) (hl : s.length ≤ 4000000000) (bad : Int) :
    ∃ p', s = p' ++ (nameS l bad).2.1 ∧ Ev (fun k => rSn.f k (B s) (p.length : Int) bad) (B (nameS l bad).1, B s, (p'.length : Int), (nameS l bad).2.2) := by
  refine ⟨p ++ l.takeWhile inName, ?_, ?_⟩
  · show s = p ++ l.takeWhile inName ++ l.dropWhile inName
    rw [List.append_assoc, List.takeWhile_append_dropWhile]; exact hs
  · have h := scanName_l0 s p hl bad l [] (by rw [List.append_nil]; exact hs)
    rw [List.nil_append] at h
    rw [List.length_append]
    exact h
theorem sign_hit' (signs : List UInt8) (b : UInt8) (t : List UInt8) (bad : Int) (h : signs.contains b = true) : signS signs (b :: t) bad = ((b.toNat : Int), t, bad) := by
  show (if signs.contains b = true then ((b.toNat : Int), t, bad) else (0, b :: t, failE bad 31)) = _
  rw [h]; rfl
theorem scanSign_ev (signs s p l : List UInt8) (hs : s = p ++ l) (hl : s.length ≤ 4000000000) (hsl : signs.length ≤ 100) (bad : Int) :
    ∃ p', s = p' ++ (signS signs l bad).2.1 ∧ Ev (fun k => rSs.f k (B s) (p.length : Int) bad (B signs)) ((signS signs l bad).1, B s, (p'.length : Int), (signS signs l bad).2.2) := by
  cases l with
  | nil =>
    refine ⟨p, hs, ?_⟩
    refine Ev.congr (f := fun k => rSs.j0 k true (B s) (p.length : Int) bad) (fun k => ?_) ?_
    · unfold rSs.f
      rw [if_pos (by rw [B_size, hs]; simp)]
    · refine Ev.step (f := fun _ => some _) (fun k => ?_) (Ev.now _)
      simp only [rSs.j0]
      rw [if_pos trivial]
      have es : signS signs [] bad = (0, [], failE bad 31) := rfl
      rw [es]
      unfold failE
      by_cases hb : bad = 0
      · rw [if_pos hb, if_pos hb]
      · rw [if_neg hb, if_neg hb]
  | cons b t =>
    have hsz : ((B s).size : Int) = p.length + t.length + 1 := by rw [B_size, hs]; simp; omega
    have hlen : p.length + t.length + 1 ≤ 4000000000 := by
      have : s.length = p.length + t.length + 1 := by rw [hs]; simp; omega
      omega
    have hw := w64 p.length (by omega)
    have hex : (B s).extract ((p.length : Int) : Int).toNat ((wrap64 ((p.length : Int) + 1)) : Int).toNat = B [b] := by
      rw [hw, Int.toNat_natCast, Int.toNat_natCast]
      have := B_sub p [b] t
      have e : p ++ [b] ++ t = s := by rw [hs]; simp
      rw [e] at this
      exact this
    have hh := has_ev [b] signs (by simp) (by omega)
    have e : ([b].any fun c => signs.contains c) = signs.contains b := by simp
    rw [e] at hh
    have hf : ∀ r, Ev (fun k => rSs.j0 k (!signs.contains b) (B s) (p.length : Int) bad) r → Ev (fun k => rSs.f k (B s) (p.length : Int) bad (B signs)) r := by
      intro r hr
      refine Ev.congr (f := fun k => (rHa.f k (B [b]) (B signs)).bind fun t275 => (rSs.j0 k (!t275) (B s) (p.length : Int) bad)) (fun k => ?_) (Ev.bind hh hr)
      unfold rSs.f
      rw [if_neg (by rw [hsz]; omega), if_pos (by omega), if_pos (by rw [hw]; omega), if_pos (by rw [hw, hsz]; omega), hex]
    cases hc : signs.contains b
    · have es : signS signs (b :: t) bad = (0, b :: t, failE bad 31) := by
        show (if signs.contains b = true then ((b.toNat : Int), t, bad) else (0, b :: t, failE bad 31)) = _
        rw [hc]; rfl
      rw [es]
      refine ⟨p, hs, hf _ ?_⟩
      rw [hc]
      refine Ev.step (f := fun _ => some _) (fun k => ?_) (Ev.now _)
      simp only [rSs.j0]
      rw [if_pos (by decide)]
      unfold failE
      by_cases hb : bad = 0
      · rw [if_pos hb, if_pos hb]
      · rw [if_neg hb, if_neg hb]
    · have es := sign_hit' signs b t bad hc
      rw [es]
      refine ⟨p ++ [b], by rw [hs]; simp, hf _ ?_⟩
      rw [hc]
      refine Ev.step (f := fun _ => some _) (fun k => ?_) (Ev.now _)
      simp only [rSs.j0]
      have hw2 : wrap64 (((p.length + 1 : Nat) : Int) - 1) = (p.length : Int) := by unfold wrap64; omega
      have hbt : bt (B s) (p.length : Int) = (b.toNat : Int) := by rw [hs]; exact bt_at p t b
      rw [if_neg (by decide), hw, hw2, if_pos (by omega), if_pos (by rw [hsz]; omega), hbt]
      simp
theorem u8_ne (b n : UInt8) (h : b ≠ n) : ¬ (b.toNat : Int) = (n.toNat : Int) := fun e => h (UInt8.toNat.inj (by omega))
theorem refMeant_l0 (l : List UInt8) (hl : l.length ≤ 4000000000) : ∀ (n : Nat) (t p out : List UInt8), t.length ≤ n → l = p ++ t → out.length + t.length ≤ 8000000000 →
    Ev (fun k => rMe.l0 k (B l) (B out) (p.length : Int)) (B (out ++ meantL t)) := by
  intro n
  induction n with
  | zero =>
    intro t p out hn hs ho
    have : t = [] := List.eq_nil_of_length_eq_zero (by omega)
    subst this
    refine Ev.step (f := fun _ => some _) (fun k => ?_) (Ev.now _)
    simp only [rMe.l0]
    rw [if_neg (by rw [B_size, hs]; simp)]
    simp [meantL]
  | succ n ih =>
    intro t p out hn hs ho
    match t, hn, hs, ho with
    | [], hn, hs, ho =>
      refine Ev.step (f := fun _ => some _) (fun k => ?_) (Ev.now _)
      simp only [rMe.l0]
      rw [if_neg (by rw [B_size, hs]; simp)]
      simp [meantL]
    | b :: t, hn, hs, ho =>
      have hsz : ((B l).size : Int) = p.length + t.length + 1 := by rw [B_size, hs]; simp; omega
      have hlen : p.length + t.length + 1 ≤ 4000000000 := by
        have : l.length = p.length + t.length + 1 := by rw [hs]; simp; omega
        omega
      have hw := w64 p.length (by omega)
      have hbt : bt (B l) (p.length : Int) = (b.toNat : Int) := by rw [hs]; exact bt_at p t b
      have hex : (B l).extract ((p.length : Int) : Int).toNat (((p.length + 1 : Nat) : Int) : Int).toNat = B [b] := by
        rw [Int.toNat_natCast, Int.toNat_natCast]
        have := B_sub p [b] t
        have e : p ++ [b] ++ t = l := by rw [hs]; simp
        rw [e] at this
        exact this
      have hnl : t.length ≤ n := by simpa using hn
      have hol : out.length + t.length + 1 ≤ 8000000000 := by simp at ho; omega
      have hone := ih t (p ++ [b]) (out ++ [b]) hnl (by rw [hs]; simp) (by simp; omega)
      have hpl : (((p ++ [b]).length : Nat) : Int) = ((p.length + 1 : Nat) : Int) := by simp
      rw [hpl] at hone
      -- the byte as it is
      have hplain : ∀ f, (f = true → ∃ c t', t = c :: t' ∧ c ≠ 110 ∧ c ≠ 94 ∧ c ≠ 39) → meantL (b :: t) = b :: meantL t → Ev (fun k => rMe.j1 k (B l) (B out) (p.length : Int) f) (B (out ++ meantL (b :: t))) := by
        intro f hf hm
        rw [hm]
        have e : out ++ b :: meantL t = out ++ [b] ++ meantL t := by simp
        rw [e]
        refine Ev.step (fun k => ?_) hone
        simp only [rMe.j1]
        have z1 : (0 : Int) ≤ (p.length : Int) := by omega
        have z2 : (p.length : Int) ≤ ((p.length + 1 : Nat) : Int) := by omega
        have z3 : ((p.length + 1 : Nat) : Int) ≤ ((B l).size : Int) := by rw [hsz]; omega
        have z4 : (B out).size + (B [b]).size ≤ 9223372036854775807 := by rw [B_size, B_size]; simp; omega
        cases f
        · rw [if_neg (by decide), hw, if_pos z1, if_pos z2, if_pos z3, hex, if_pos z4, B_append]
        · obtain ⟨c, t', rfl, h1, h2, h3⟩ := hf rfl
          have hbt2 : bt (B l) ((p.length + 1 : Nat) : Int) = (c.toNat : Int) := by
            have := bt_at (p ++ [b]) t' c
            have e : p ++ [b] ++ c :: t' = l := by rw [hs]; simp
            rw [e] at this
            simpa using this
          have k1 : ¬ (c.toNat : Int) = 110 := u8_ne c 110 h1
          have k2 : ¬ (c.toNat : Int) = 94 := u8_ne c 94 h2
          have k3 : ¬ (c.toNat : Int) = 39 := u8_ne c 39 h3
          rw [if_pos rfl, hw, if_pos (by omega), if_pos (by rw [hsz]; simp; omega), hbt2, if_neg k1, if_neg k2, if_neg k3, if_pos z1, if_pos z2, if_pos z3, hex, if_pos z4, B_append]
      by_cases hb : b = 94
      · have hb' : (b.toNat : Int) = 94 := by rw [hb]; rfl
        match t, hsz, hlen, hnl, hol, hplain, hs with
        | [], hsz, hlen, hnl, hol, hplain, hs =>
          refine Ev.step (fun k => ?_) (hplain false (fun h => by cases h) (by rw [hb]; rfl))
          simp only [rMe.l0]
          have z : ¬ ((p.length + 1 : Nat) : Int) < ((B l).size : Int) := by rw [hsz]; simp
          rw [if_pos (by rw [hsz, List.length_nil]; omega), if_pos (by omega), hbt, if_pos hb', hw, decide_eq_false z]
        | c :: t, hsz, hlen, hnl, hol, hplain, hs =>
          have hlen' : p.length + t.length + 2 ≤ 4000000000 := by simp only [List.length_cons] at hlen; omega
          have hol' : out.length + t.length + 2 ≤ 8000000000 := by simp only [List.length_cons] at hol; omega
          have hnl' : t.length ≤ n := by simp only [List.length_cons] at hnl; omega
          have hsz' : ((B l).size : Int) = p.length + t.length + 2 := by rw [hsz, List.length_cons]; omega
          have z0 : (0 : Int) ≤ ((p.length + 1 : Nat) : Int) := Int.natCast_nonneg _
          have z1 : ((p.length + 1 : Nat) : Int) < ((B l).size : Int) := by clear hw hbt hex; rw [hsz']; omega
          have z4 : (B out).size + 1 ≤ 9223372036854775807 := by clear hw hbt hex; rw [B_size]; omega
          have zA : (p.length : Int) < ((B l).size : Int) := by clear hw hbt hex; rw [hsz']; omega
          have zB : (0 : Int) ≤ (p.length : Int) := Int.natCast_nonneg _
          have zC : out.length + 1 + t.length ≤ 8000000000 := by clear hw hbt hex; omega
          have hw2 : wrap64 (((p.length + 1 : Nat) : Int) + 1) = ((p.length + 2 : Nat) : Int) := by clear hw hbt hex; unfold wrap64; omega
          have hbt2 : bt (B l) ((p.length + 1 : Nat) : Int) = (c.toNat : Int) := by
            have h := bt_at (p ++ [b]) t c
            have e : p ++ [b] ++ c :: t = l := by rw [hs, List.append_assoc]; rfl
            have e2 : (p ++ [b]).length = p.length + 1 := by rw [List.length_append]; rfl
            rw [e, e2] at h
            exact h
          have hj : ∀ r, Ev (fun k => rMe.j1 k (B l) (B out) (p.length : Int) true) r → Ev (fun k => rMe.l0 k (B l) (B out) (p.length : Int)) r := by
            intro r hr
            refine Ev.step (fun k => ?_) hr
            simp only [rMe.l0]
            rw [if_pos zA, if_pos zB, hbt, if_pos hb', hw, decide_eq_true z1]
          have htwo : ∀ v : UInt8, Ev (fun k => rMe.l0 k (B l) (B out ++ B [v]) ((p.length + 2 : Nat) : Int)) (B (out ++ v :: meantL t)) := by
            intro v
            have h := ih t (p ++ [b, c]) (out ++ [v]) hnl' (by rw [hs, List.append_assoc]; rfl) (by rw [List.length_append]; exact zC)
            have e1 : (p ++ [b, c]).length = p.length + 2 := by rw [List.length_append]; rfl
            have e2 : out ++ [v] ++ meantL t = out ++ v :: meantL t := by rw [List.append_assoc]; rfl
            rw [e1, e2] at h
            rw [B_append]
            exact h
          apply hj
          by_cases h1 : c = 110
          · have hc' : (c.toNat : Int) = 110 := by rw [h1]; rfl
            have hm : meantL (b :: c :: t) = 10 :: meantL t := by rw [hb, h1]; rfl
            rw [hm]
            refine Ev.step (fun k => ?_) (htwo 10)
            simp only [rMe.j1]
            rw [if_pos trivial, hw, if_pos z0, if_pos z1, hbt2, if_pos hc', if_pos z4, hw2]; rfl
          · have n1 : ¬ (c.toNat : Int) = 110 := u8_ne c 110 h1
            by_cases h2 : c = 94
            · have hc' : (c.toNat : Int) = 94 := by rw [h2]; rfl
              have hm : meantL (b :: c :: t) = 94 :: meantL t := by rw [hb, h2]; rfl
              rw [hm]
              refine Ev.step (fun k => ?_) (htwo 94)
              simp only [rMe.j1]
              rw [if_pos trivial, hw, if_pos z0, if_pos z1, hbt2, if_neg n1, if_pos hc', if_pos z4, hw2]; rfl
            · have n2 : ¬ (c.toNat : Int) = 94 := u8_ne c 94 h2
              by_cases h3 : c = 39
              · have hc' : (c.toNat : Int) = 39 := by rw [h3]; rfl
                have hm : meantL (b :: c :: t) = 34 :: meantL t := by rw [hb, h3]; rfl
                rw [hm]
                refine Ev.step (fun k => ?_) (htwo 34)
                simp only [rMe.j1]
                rw [if_pos trivial, hw, if_pos z0, if_pos z1, hbt2, if_neg n1, if_neg n2, if_pos hc', if_pos z4, hw2]; rfl
              · refine hplain true (fun _ => ⟨c, t, rfl, h1, h2, h3⟩) ?_
                rw [hb, meantL]
                all_goals (intros; simp_all)
      · have hm : meantL (b :: t) = b :: meantL t := by
          rw [meantL]
          all_goals (intros; simp_all)
        refine Ev.step (fun k => ?_) (hplain false (fun h => by cases h) hm)
        simp only [rMe.l0]
        have hne : ¬ (b.toNat : Int) = 94 := u8_ne b 94 hb
        rw [if_pos (by rw [hsz]; omega), if_pos (by omega), hbt, if_neg hne]
theorem refMeant_ev (l : List UInt8) (hl : l.length ≤ 4000000000) : Ev (fun k => rMe.f k (B l)) (B (meantL l)) := by
  have := refMeant_l0 l hl l.length l [] [] (Nat.le_refl _) rfl (by show 0 + l.length ≤ _; omega)
  rw [List.nil_append] at this
  exact this
end Go.Proofs.YthabooeapfepnaaGreatDoor.PL
