import Derived.Test.YthabooeapfepnaaGreatDoorS3
import Derived.Test.YthabooeapfepnaaGreatDoorPLx9
namespace Go.Proofs.YthabooeapfepnaaGreatDoor.PL
open Go.RowKit Go.Lib Go.Proofs.YthabooeapfepnaaGreatDoor.Given Go.Proofs.YthabooeapfepnaaGreatDoor.Text Go.Proofs.YthabooeapfepnaaGreatDoorW.PrintWords
set_option linter.unusedVariables false
theorem ref_in_eq (b : UInt8) : rIn.f (b.toNat : Int) = some (inName b) := by
  have hb := b.toNat_lt
  unfold rIn.f inName
  generalize b.toNat = n at *
  repeat' split
  all_goals (refine congrArg some ?_; rw [Bool.eq_iff_iff]; simp only [Bool.or_eq_true, Bool.and_eq_true, decide_eq_true_eq, beq_iff_eq, true_iff]; omega)
theorem w64 (i : Nat) (h : i ≤ 4000000010) : wrap64 ((i : Int) + 1) = ((i + 1 : Nat) : Int) := by unfold wrap64; omega
theorem refName_l0 (t : List UInt8) : ∀ p : List UInt8, (p ++ t).length ≤ 4000000000 → p.all inName = true →
    Ev (fun k => rNa.l0 k (B (p ++ t)) (p.length : Int)) (isName (p ++ t)) := by
  induction t with
  | nil =>
    intro p hp ha
    refine Ev.step (f := fun _ => some (isName (p ++ []))) (fun k => ?_) (Ev.now _)
    simp only [rNa.l0]
    rw [if_neg (by rw [B_size]; simp), B_size]
    unfold isName fitsL
    rw [List.append_nil, ha, Bool.true_and]
    split
    · rename_i h
      rw [decide_eq_true (show 1 ≤ p.length by omega), Bool.true_and]
      refine congrArg some ?_
      rw [Bool.eq_iff_iff]; simp; omega
    · rename_i h
      rw [decide_eq_false (show ¬ 1 ≤ p.length by omega), Bool.false_and]
  | cons b t ih =>
    intro p hp ha
    cases hb : inName b
    · refine Ev.step (f := fun _ => some (isName (p ++ b :: t))) (fun k => ?_) (Ev.now _)
      simp only [rNa.l0]
      rw [if_pos (by rw [B_size]; simp; omega), if_pos (by omega), bt_at, ref_in_eq, hb]
      have : isName (p ++ b :: t) = false := by unfold isName; rw [List.all_append, List.all_cons, hb]; simp
      rw [this]; rfl
    · have h := ih (p ++ [b]) (by simpa using hp) (by rw [List.all_append, ha]; simp [hb])
      have e1 : p ++ [b] ++ t = p ++ b :: t := by simp
      rw [e1] at h
      refine Ev.step (fun k => ?_) h
      simp only [rNa.l0]
      rw [if_pos (by rw [B_size]; simp; omega), if_pos (by omega), bt_at, ref_in_eq, hb]
      simp only [Option.bind_some, if_true]
      rw [w64 _ (by simp at hp; omega)]
      simp
theorem refName_ev (l : List UInt8) (h : l.length ≤ 4000000000) : Ev (fun k => rNa.f k (B l)) (isName l) := by
  have := refName_l0 l [] (by simpa using h) rfl
  simpa [rNa.f] using this
theorem has_l1 (s a : List UInt8) (p q : List UInt8) (b : UInt8) (hs : s = p ++ b :: q) (hl : s.length ≤ 4000000000) (r : Bool)
    (hend : Ev (fun k => rHa.l0 k (B s) (B a) (wrap64 ((p.length : Int) + 1))) r) :
    ∀ (u v : List UInt8), a = u ++ v → a.length ≤ 4000000000 → Ev (fun k => rHa.l1 k (B s) (B a) (p.length : Int) (u.length : Int)) (if v.contains b = true then true else r) := by
  intro u v
  induction v generalizing u with
  | nil =>
    intro ha hal
    refine Ev.step (fun k => ?_) hend
    simp only [rHa.l1]
    rw [if_neg (by rw [B_size, ha]; simp)]
  | cons c v ih =>
    intro ha hal
    have hb1 : bt (B s) (p.length : Int) = (b.toNat : Int) := by rw [hs]; exact bt_at p q b
    have hb2 : bt (B a) (u.length : Int) = (c.toNat : Int) := by rw [ha]; exact bt_at u v c
    by_cases hc : b = c
    · subst hc
      have e : (b :: v).contains b = true := by simp
      rw [if_pos e]
      refine Ev.step (f := fun _ => some true) (fun k => ?_) (Ev.now _)
      simp only [rHa.l1]
      rw [if_pos (by rw [B_size, ha]; simp; omega), if_pos (by omega), if_pos (by rw [B_size, hs]; simp; omega), if_pos (by omega), hb1, hb2, if_pos rfl]
    · have e : (c :: v).contains b = v.contains b := by
        rw [List.contains_cons, beq_eq_false_iff_ne.mpr hc, Bool.false_or]
      rw [e]
      refine Ev.step (fun k => ?_) (ih (u ++ [c]) (by rw [ha]; simp) hal)
      simp only [rHa.l1]
      have hn : ¬ (b.toNat : Int) = (c.toNat : Int) := fun h => hc (UInt8.toNat.inj (by omega))
      rw [if_pos (by rw [B_size, ha]; simp; omega), if_pos (by omega), if_pos (by rw [B_size, hs]; simp; omega), if_pos (by omega), hb1, hb2, if_neg hn, w64 _ (by rw [ha] at hal; simp at hal; omega)]
      simp
theorem has_l0 (s a : List UInt8) (hl : s.length ≤ 4000000000) (hal : a.length ≤ 4000000000) : ∀ (t p : List UInt8), s = p ++ t →
    Ev (fun k => rHa.l0 k (B s) (B a) (p.length : Int)) (t.any fun b => a.contains b) := by
  intro t
  induction t with
  | nil =>
    intro p hs
    refine Ev.step (f := fun _ => some false) (fun k => ?_) (Ev.now _)
    simp only [rHa.l0]
    rw [if_neg (by rw [B_size, hs]; simp)]
  | cons b t ih =>
    intro p hs
    have hn := ih (p ++ [b]) (by rw [hs]; simp)
    have hw : wrap64 ((p.length : Int) + 1) = ((p ++ [b]).length : Int) := by rw [w64 _ (by rw [hs] at hl; simp at hl; omega)]; simp
    rw [← hw] at hn
    have h1 := has_l1 s a p t b hs hl _ hn [] a rfl hal
    have e : (if a.contains b = true then true else t.any fun b => a.contains b) = ((b :: t).any fun b => a.contains b) := by
      rw [List.any_cons]; cases a.contains b <;> simp
    rw [e] at h1
    refine Ev.step (fun k => ?_) h1
    simp only [rHa.l0]
    rw [if_pos (by rw [B_size, hs]; simp; omega)]
    rfl
theorem has_ev (s a : List UInt8) (hl : s.length ≤ 4000000000) (hal : a.length ≤ 4000000000) : Ev (fun k => rHa.f k (B s) (B a)) (s.any fun b => a.contains b) :=
  has_l0 s a hl hal s [] rfl
def contB (b : UInt8) : Bool := decide (128 ≤ b.toNat) && decide (b.toNat ≤ 191)
theorem w64id (x : Int) (h0 : -4000000000000 ≤ x) (h1 : x ≤ 4000000000000) : wrap64 x = x := by unfold wrap64; omega
def fin4 (x least n : Int) : Int × Int := if x < least then (0, 0) else (if x > 1114111 then (0, 0) else (if x ≥ 55296 then (if x ≤ 57343 then (0, 0) else (x, n)) else (x, n)))
def go1 (least n : Int) : Int → List UInt8 → Int × Int
  | x, [] => fin4 x least n
  | x, c :: r => if contB c = true then go1 least n (64 * x + (c.toNat : Int) - 128) r else (0, 0)
def runeI (b0 : UInt8) (t : List UInt8) : Int × Int :=
  if b0.toNat < 128 then ((b0.toNat : Int), 1)
  else if b0.toNat < 192 then (0, 0)
  else if b0.toNat < 224 then (if t.length < 1 then (0, 0) else go1 128 2 ((b0.toNat : Int) - 192) (t.take 1))
  else if b0.toNat < 240 then (if t.length < 2 then (0, 0) else go1 2048 3 ((b0.toNat : Int) - 224) (t.take 2))
  else if b0.toNat < 248 then (if t.length < 3 then (0, 0) else go1 65536 4 ((b0.toNat : Int) - 240) (t.take 3))
  else (0, 0)
theorem rune_fin (l : List UInt8) (x least : Int) (n : Nat) : Ev (fun k => rRu.l0 k (B l) x (n : Int) least (n : Int)) (fin4 x least n) := by
  refine Ev.step (f := fun _ => some (fin4 x least n)) (fun k => ?_) (Ev.now _)
  simp only [rRu.l0]
  rw [if_neg (by omega)]
  unfold fin4
  split
  · rfl
  · split
    · rfl
    · split
      · split <;> rfl
      · rfl
theorem rune_step (p q : List UInt8) (c : UInt8) (x least : Int) (n : Nat) (hx0 : 0 ≤ x) (hx1 : x ≤ 1000000000) (hp : p.length < n) (hp2 : p.length ≤ 10) (r : Int × Int)
    (hr : contB c = true → Ev (fun k => rRu.l0 k (B (p ++ c :: q)) (64 * x + (c.toNat : Int) - 128) (n : Int) least ((p.length + 1 : Nat) : Int)) r) (hn : contB c = false → r = (0, 0)) :
    Ev (fun k => rRu.l0 k (B (p ++ c :: q)) x (n : Int) least (p.length : Int)) r := by
  have hb := c.toNat_lt
  cases hc : contB c
  · rw [hn hc]
    refine Ev.step (f := fun _ => some (0, 0)) (fun k => ?_) (Ev.now _)
    simp only [rRu.l0]
    rw [if_pos (by omega), if_pos (by omega), if_pos (by rw [B_size]; simp; omega), bt_at, w64id (c.toNat : Int) (by omega) (by omega)]
    unfold contB at hc
    by_cases h : (c.toNat : Int) < 128
    · rw [if_pos h]
    · rw [if_neg h, if_pos (by
        simp only [Bool.and_eq_false_iff, decide_eq_false_iff_not] at hc
        omega)]
  · refine Ev.step (fun k => ?_) (hr hc)
    simp only [rRu.l0]
    unfold contB at hc
    simp only [Bool.and_eq_true, decide_eq_true_eq] at hc
    rw [if_pos (by omega), if_pos (by omega), if_pos (by rw [B_size]; simp; omega), bt_at, w64id (c.toNat : Int) (by omega) (by omega), if_neg (by omega), if_neg (by omega), w64id (64 * x) (by omega) (by omega), w64id (64 * x + (c.toNat : Int)) (by omega) (by omega), w64id (64 * x + (c.toNat : Int) - 128) (by omega) (by omega), w64 _ (by omega)]
theorem rune_ev (b0 : UInt8) (t : List UInt8) (hl : t.length ≤ 4000000000) : Ev (fun k => rRu.f k (B (b0 :: t))) (runeI b0 t) := by
  have hb := b0.toNat_lt
  have hsz : ((B (b0 :: t)).size : Int) = (t.length : Int) + 1 := by rw [B_size]; simp
  have hf : ∀ k, rRu.f k (B (b0 :: t)) = (if (b0.toNat : Int) < 128 then (some ((b0.toNat : Int), 1)) else (if (b0.toNat : Int) ≥ 192 then (rRu.j0 k (B (b0 :: t)) (b0.toNat : Int) (decide ((b0.toNat : Int) < 224))) else (rRu.j0 k (B (b0 :: t)) (b0.toNat : Int) false))) := by
    intro k
    unfold rRu.f
    rw [if_neg (by omega), if_pos (by omega), bt_zero, w64id _ (by omega) (by omega)]
  unfold runeI
  by_cases h1 : b0.toNat < 128
  · rw [if_pos h1]
    exact Ev.congr (f := fun _ => some ((b0.toNat : Int), 1)) (fun k => by rw [hf, if_pos (by omega)]) (Ev.now _)
  rw [if_neg h1]
  by_cases h2 : b0.toNat < 192
  · rw [if_pos h2]
    refine Ev.congr (f := fun k => rRu.j0 k (B (b0 :: t)) (b0.toNat : Int) false) (fun k => by rw [hf, if_neg (by omega), if_neg (by omega)]) ?_
    refine Ev.step (f := fun k => rRu.j1 k (B (b0 :: t)) (b0.toNat : Int) false) (fun k => ?_) ?_
    · simp only [rRu.j0]
      rw [if_neg (by decide), if_neg (by omega)]
    · refine Ev.step (f := fun _ => some (0, 0)) (fun k => ?_) (Ev.now _)
      simp only [rRu.j1]
      rw [if_neg (by decide), if_neg (by omega)]
  rw [if_neg h2]
  by_cases h3 : b0.toNat < 224
  · rw [if_pos h3]
    refine Ev.congr (f := fun k => rRu.j0 k (B (b0 :: t)) (b0.toNat : Int) true) (fun k => by rw [hf, if_neg (by omega), if_pos (by omega), decide_eq_true (by omega)]) ?_
    refine Ev.step (f := fun k => rRu.j2 k (B (b0 :: t)) ((b0.toNat : Int) - 192) 2 128) (fun k => ?_) ?_
    · simp only [rRu.j0]
      rw [if_pos trivial, w64id _ (by omega) (by omega)]
    · match t, hl with
      | [], _ =>
        refine Ev.step (f := fun _ => some (0, 0)) (fun k => ?_) (Ev.now _)
        simp only [rRu.j2]
        rw [if_pos (by rw [hsz]; decide)]
      | c1 :: t, _ =>
        refine Ev.step (f := fun k => rRu.l0 k (B (b0 :: c1 :: t)) ((b0.toNat : Int) - 192) 2 128 1) (fun k => ?_) ?_
        · simp only [rRu.j2]
          rw [if_neg (by rw [hsz]; simp; omega)]
        · rw [if_neg (by simp)]
          have b1 := c1.toNat_lt
          refine rune_step [b0] t c1 ((b0.toNat : Int) - 192) 128 2 (by omega) (by omega) (by simp) (by simp) _ (fun hc => ?_) (fun hc => by simp [go1, hc])
          have e : go1 128 2 ((b0.toNat : Int) - 192) ((c1 :: t).take 1) = fin4 (64 * ((b0.toNat : Int) - 192) + (c1.toNat : Int) - 128) 128 2 := by simp [go1, hc]
          rw [e]
          exact rune_fin _ _ 128 2
  rw [if_neg h3]
  have hj0 : Ev (fun k => rRu.j1 k (B (b0 :: t)) (b0.toNat : Int) (decide ((b0.toNat : Int) < 240))) (if b0.toNat < 240 then (if t.length < 2 then (0, 0) else go1 2048 3 ((b0.toNat : Int) - 224) (t.take 2)) else if b0.toNat < 248 then (if t.length < 3 then (0, 0) else go1 65536 4 ((b0.toNat : Int) - 240) (t.take 3)) else (0, 0)) → Ev (fun k => rRu.f k (B (b0 :: t))) (if b0.toNat < 240 then (if t.length < 2 then (0, 0) else go1 2048 3 ((b0.toNat : Int) - 224) (t.take 2)) else if b0.toNat < 248 then (if t.length < 3 then (0, 0) else go1 65536 4 ((b0.toNat : Int) - 240) (t.take 3)) else (0, 0)) := by
    intro h
    refine Ev.congr (f := fun k => rRu.j0 k (B (b0 :: t)) (b0.toNat : Int) false) (fun k => by rw [hf, if_neg (by omega), if_pos (by omega), decide_eq_false (by omega)]) ?_
    refine Ev.step (fun k => ?_) h
    simp only [rRu.j0]
    rw [if_neg (by decide), if_pos (by omega)]
  apply hj0
  by_cases h4 : b0.toNat < 240
  · rw [if_pos h4, decide_eq_true (by omega)]
    refine Ev.step (f := fun k => rRu.j2 k (B (b0 :: t)) ((b0.toNat : Int) - 224) 3 2048) (fun k => ?_) ?_
    · simp only [rRu.j1]
      rw [if_pos trivial, w64id _ (by omega) (by omega)]
    · match t, hl with
      | [], _ =>
        refine Ev.step (f := fun _ => some (0, 0)) (fun k => ?_) (Ev.now _)
        simp only [rRu.j2]
        rw [if_pos (by rw [hsz]; decide)]
      | [c1], _ =>
        refine Ev.step (f := fun _ => some (0, 0)) (fun k => ?_) (Ev.now _)
        simp only [rRu.j2]
        rw [if_pos (by rw [hsz]; simp)]
      | c1 :: c2 :: t, _ =>
        refine Ev.step (f := fun k => rRu.l0 k (B (b0 :: c1 :: c2 :: t)) ((b0.toNat : Int) - 224) 3 2048 1) (fun k => ?_) ?_
        · simp only [rRu.j2]
          rw [if_neg (by rw [hsz]; simp; omega)]
        · rw [if_neg (by simp)]
          have b1 := c1.toNat_lt
          have b2 := c2.toNat_lt
          refine rune_step [b0] (c2 :: t) c1 ((b0.toNat : Int) - 224) 2048 3 (by omega) (by omega) (by simp) (by simp) _ (fun hc => ?_) (fun hc => by simp [go1, hc])
          have q1 : 128 ≤ c1.toNat := by unfold contB at hc; simp at hc; omega
          refine rune_step [b0, c1] t c2 (64 * ((b0.toNat : Int) - 224) + (c1.toNat : Int) - 128) 2048 3 (by omega) (by omega) (by simp) (by simp) _ (fun hc2 => ?_) (fun hc2 => by simp [go1, hc, hc2])
          have e : go1 2048 3 ((b0.toNat : Int) - 224) ((c1 :: c2 :: t).take 2) = fin4 (64 * (64 * ((b0.toNat : Int) - 224) + (c1.toNat : Int) - 128) + (c2.toNat : Int) - 128) 2048 3 := by simp [go1, hc, hc2]
          rw [e]
          exact rune_fin _ _ 2048 3
  rw [if_neg h4, decide_eq_false (by omega)]
  by_cases h5 : b0.toNat < 248
  · rw [if_pos h5]
    refine Ev.step (f := fun k => rRu.j2 k (B (b0 :: t)) ((b0.toNat : Int) - 240) 4 65536) (fun k => ?_) ?_
    · simp only [rRu.j1]
      rw [if_neg (by decide), if_pos (by omega), if_pos (by omega), w64id _ (by omega) (by omega)]
    · match t, hl with
      | [], _ =>
        refine Ev.step (f := fun _ => some (0, 0)) (fun k => ?_) (Ev.now _)
        simp only [rRu.j2]
        rw [if_pos (by rw [hsz]; decide)]
      | [c1], _ =>
        refine Ev.step (f := fun _ => some (0, 0)) (fun k => ?_) (Ev.now _)
        simp only [rRu.j2]
        rw [if_pos (by rw [hsz]; simp)]
      | [c1, c2], _ =>
        refine Ev.step (f := fun _ => some (0, 0)) (fun k => ?_) (Ev.now _)
        simp only [rRu.j2]
        rw [if_pos (by rw [hsz]; simp)]
      | c1 :: c2 :: c3 :: t, _ =>
        refine Ev.step (f := fun k => rRu.l0 k (B (b0 :: c1 :: c2 :: c3 :: t)) ((b0.toNat : Int) - 240) 4 65536 1) (fun k => ?_) ?_
        · simp only [rRu.j2]
          rw [if_neg (by rw [hsz]; simp; omega)]
        · rw [if_neg (by simp)]
          have b1 := c1.toNat_lt
          have b2 := c2.toNat_lt
          have b3 := c3.toNat_lt
          refine rune_step [b0] (c2 :: c3 :: t) c1 ((b0.toNat : Int) - 240) 65536 4 (by omega) (by omega) (by simp) (by simp) _ (fun hc => ?_) (fun hc => by simp [go1, hc])
          have q1 : 128 ≤ c1.toNat := by unfold contB at hc; simp at hc; omega
          refine rune_step [b0, c1] (c3 :: t) c2 (64 * ((b0.toNat : Int) - 240) + (c1.toNat : Int) - 128) 65536 4 (by omega) (by omega) (by simp) (by simp) _ (fun hc2 => ?_) (fun hc2 => by simp [go1, hc, hc2])
          have q2 : 128 ≤ c2.toNat := by unfold contB at hc2; simp at hc2; omega
          refine rune_step [b0, c1, c2] t c3 (64 * (64 * ((b0.toNat : Int) - 240) + (c1.toNat : Int) - 128) + (c2.toNat : Int) - 128) 65536 4 (by omega) (by omega) (by simp) (by simp) _ (fun hc3 => ?_) (fun hc3 => by simp [go1, hc, hc2, hc3])
          have e : go1 65536 4 ((b0.toNat : Int) - 240) ((c1 :: c2 :: c3 :: t).take 3) = fin4 (64 * (64 * (64 * ((b0.toNat : Int) - 240) + (c1.toNat : Int) - 128) + (c2.toNat : Int) - 128) + (c3.toNat : Int) - 128) 65536 4 := by simp [go1, hc, hc2, hc3]
          rw [e]
          exact rune_fin _ _ 65536 4
  rw [if_neg h5]
  refine Ev.step (f := fun _ => some (0, 0)) (fun k => ?_) (Ev.now _)
  simp only [rRu.j1]
  rw [if_neg (by decide), if_pos (by omega), if_neg (by omega)]
def castP (x : Nat × Nat) : Int × Int := ((x.1 : Int), (x.2 : Int))
theorem fin4_nat (V least n : Nat) : fin4 (V : Int) (least : Int) (n : Int) = if V ≥ least ∧ (V < 55296 ∨ (57344 ≤ V ∧ V ≤ 1114111)) then castP (V, n) else (0, 0) := by
  unfold fin4 castP
  by_cases h1 : (V : Int) < (least : Int)
  · rw [if_pos h1, if_neg (by omega)]
  rw [if_neg h1]
  by_cases h2 : (V : Int) > 1114111
  · rw [if_pos h2, if_neg (by omega)]
  rw [if_neg h2]
  by_cases h3 : (V : Int) ≥ 55296
  · rw [if_pos h3]
    by_cases h4 : (V : Int) ≤ 57343
    · rw [if_pos h4, if_neg (by omega)]
    · rw [if_neg h4, if_pos (by omega)]
  · rw [if_neg h3, if_pos (by omega)]
theorem contB_iff (c : UInt8) : contB c = true ↔ c.toNat / 64 = 2 := by
  have := c.toNat_lt
  unfold contB
  simp only [Bool.and_eq_true, decide_eq_true_eq]
  omega
theorem castP_ok (V n : Nat) (least : Nat) (hl : 128 ≤ least) (hn : 2 ≤ n) (D : Nat × Nat) (hD : D = if V ≥ least ∧ (V < 55296 ∨ (57344 ≤ V ∧ V ≤ 1114111)) then (V, n) else (65533, 1)) :
    (fin4 (V : Int) (least : Int) (n : Int) = (0, 0) ∧ D = (65533, 1)) ∨ (fin4 (V : Int) (least : Int) (n : Int) = castP D ∧ 2 ≤ D.2 ∧ 128 ≤ D.1) := by
  rw [fin4_nat, hD]
  by_cases h : V ≥ least ∧ (V < 55296 ∨ (57344 ≤ V ∧ V ≤ 1114111))
  · rw [if_pos h, if_pos h]
    exact .inr ⟨rfl, hn, by show 128 ≤ V; omega⟩
  · rw [if_neg h, if_neg h]
    exact .inl ⟨rfl, rfl⟩
theorem rune_decode (b0 : UInt8) (t : List UInt8) (h0 : 128 ≤ b0.toNat) :
    (runeI b0 t = (0, 0) ∧ decodeL (b0 :: t) = (65533, 1)) ∨ (runeI b0 t = castP (decodeL (b0 :: t)) ∧ 2 ≤ (decodeL (b0 :: t)).2 ∧ 128 ≤ (decodeL (b0 :: t)).1) := by
  have hb := b0.toNat_lt
  rw [decodeL_N]
  simp only [List.getD_cons_zero, List.getD_cons_succ, List.length_cons]
  unfold runeI
  rw [if_neg (by omega)]
  by_cases k1 : b0.toNat < 192
  · rw [if_pos k1]
    left
    refine ⟨rfl, ?_⟩
    unfold decodeN
    rw [if_neg (by omega), if_neg (by omega), if_neg (by omega), if_neg (by omega)]
  rw [if_neg k1]
  by_cases k2 : b0.toNat < 224
  · rw [if_pos k2]
    have hD : ∀ n b1 b2 b3, decodeN n b0.toNat b1 b2 b3 = if 1 < n ∧ b1 / 64 = 2 then (if b0.toNat % 32 * 64 + b1 % 64 ≥ 128 then (b0.toNat % 32 * 64 + b1 % 64, 2) else (65533, 1)) else (65533, 1) := by
      intro n b1 b2 b3
      unfold decodeN
      rw [if_neg (by omega)]
      by_cases h : 1 < n ∧ b1 / 64 = 2
      · rw [if_pos ⟨by omega, h⟩, if_pos h]
      · rw [if_neg (fun g => h g.2), if_neg (by omega), if_neg (by omega), if_neg h]
    match t with
    | [] => exact .inl ⟨rfl, by rw [hD, if_neg (by simp)]⟩
    | c1 :: t =>
      have h1 := c1.toNat_lt
      rw [if_neg (by simp), hD]
      simp only [List.getD_cons_zero, List.length_cons]
      show (go1 128 2 ((b0.toNat : Int) - 192) [c1] = (0, 0) ∧ _) ∨ (go1 128 2 ((b0.toNat : Int) - 192) [c1] = _ ∧ _)
      by_cases hc : contB c1 = true
      · have hc' := (contB_iff c1).1 hc
        have e : go1 128 2 ((b0.toNat : Int) - 192) [c1] = fin4 ((b0.toNat % 32 * 64 + c1.toNat % 64 : Nat) : Int) ((128 : Nat) : Int) ((2 : Nat) : Int) := by
          simp only [go1, hc, if_true]
          congr 1; omega
        rw [e]
        refine castP_ok _ 2 128 (by omega) (by omega) _ ?_
        rw [if_pos ⟨by omega, hc'⟩]
        by_cases hv : b0.toNat % 32 * 64 + c1.toNat % 64 ≥ 128
        · rw [if_pos hv, if_pos ⟨hv, .inl (by omega)⟩]
        · rw [if_neg hv, if_neg (fun g => hv g.1)]
      · have hc' : ¬ c1.toNat / 64 = 2 := fun h => hc ((contB_iff c1).2 h)
        left
        refine ⟨by simp only [go1, if_neg hc], by rw [if_neg (fun g => hc' g.2)]⟩
  rw [if_neg k2]
  by_cases k3 : b0.toNat < 240
  · rw [if_pos k3]
    have hD : ∀ n b1 b2 b3, decodeN n b0.toNat b1 b2 b3 = if (1 < n ∧ b1 / 64 = 2) ∧ (2 < n ∧ b2 / 64 = 2) then (if b0.toNat % 16 * 4096 + b1 % 64 * 64 + b2 % 64 ≥ 2048 ∧ (b0.toNat % 16 * 4096 + b1 % 64 * 64 + b2 % 64 < 55296 ∨ (57344 ≤ b0.toNat % 16 * 4096 + b1 % 64 * 64 + b2 % 64 ∧ b0.toNat % 16 * 4096 + b1 % 64 * 64 + b2 % 64 ≤ 1114111)) then (b0.toNat % 16 * 4096 + b1 % 64 * 64 + b2 % 64, 3) else (65533, 1)) else (65533, 1) := by
      intro n b1 b2 b3
      unfold decodeN
      rw [if_neg (by omega), if_neg (by omega)]
      by_cases h : (1 < n ∧ b1 / 64 = 2) ∧ (2 < n ∧ b2 / 64 = 2)
      · rw [if_pos ⟨by omega, h.1, h.2⟩, if_pos h]
      · rw [if_neg (fun g => h g.2), if_neg (by omega), if_neg h]
    match t with
    | [] => exact .inl ⟨rfl, by rw [hD, if_neg (by simp)]⟩
    | [c1] => exact .inl ⟨by rw [if_pos (by simp)], by rw [hD, if_neg (by simp)]⟩
    | c1 :: c2 :: t =>
      have h1 := c1.toNat_lt
      have h2 := c2.toNat_lt
      rw [if_neg (by simp), hD]
      simp only [List.getD_cons_zero, List.getD_cons_succ, List.length_cons]
      show (go1 2048 3 ((b0.toNat : Int) - 224) [c1, c2] = (0, 0) ∧ _) ∨ (go1 2048 3 ((b0.toNat : Int) - 224) [c1, c2] = _ ∧ _)
      by_cases hc : contB c1 = true
      · have hc' := (contB_iff c1).1 hc
        by_cases hc2 : contB c2 = true
        · have hc2' := (contB_iff c2).1 hc2
          have e : go1 2048 3 ((b0.toNat : Int) - 224) [c1, c2] = fin4 ((b0.toNat % 16 * 4096 + c1.toNat % 64 * 64 + c2.toNat % 64 : Nat) : Int) ((2048 : Nat) : Int) ((3 : Nat) : Int) := by
            simp only [go1, hc, hc2, if_true]
            congr 1; omega
          rw [e]
          refine castP_ok _ 3 2048 (by omega) (by omega) _ ?_
          rw [if_pos ⟨⟨by omega, hc'⟩, by omega, hc2'⟩]
        · have hc2' : ¬ c2.toNat / 64 = 2 := fun h => hc2 ((contB_iff c2).2 h)
          left
          refine ⟨by simp only [go1, hc, if_true, if_neg hc2], by rw [if_neg (fun g => hc2' g.2.2)]⟩
      · have hc' : ¬ c1.toNat / 64 = 2 := fun h => hc ((contB_iff c1).2 h)
        left
        refine ⟨by simp only [go1, if_neg hc], by rw [if_neg (fun g => hc' g.1.2)]⟩
  rw [if_neg k3]
  by_cases k4 : b0.toNat < 248
  · rw [if_pos k4]
    have hD : ∀ n b1 b2 b3, decodeN n b0.toNat b1 b2 b3 = if (1 < n ∧ b1 / 64 = 2) ∧ (2 < n ∧ b2 / 64 = 2) ∧ (3 < n ∧ b3 / 64 = 2) then (if b0.toNat % 8 * 262144 + b1 % 64 * 4096 + b2 % 64 * 64 + b3 % 64 ≥ 65536 ∧ (b0.toNat % 8 * 262144 + b1 % 64 * 4096 + b2 % 64 * 64 + b3 % 64 < 55296 ∨ (57344 ≤ b0.toNat % 8 * 262144 + b1 % 64 * 4096 + b2 % 64 * 64 + b3 % 64 ∧ b0.toNat % 8 * 262144 + b1 % 64 * 4096 + b2 % 64 * 64 + b3 % 64 ≤ 1114111)) then (b0.toNat % 8 * 262144 + b1 % 64 * 4096 + b2 % 64 * 64 + b3 % 64, 4) else (65533, 1)) else (65533, 1) := by
      intro n b1 b2 b3
      unfold decodeN
      rw [if_neg (by omega), if_neg (by omega), if_neg (by omega)]
      by_cases h : (1 < n ∧ b1 / 64 = 2) ∧ (2 < n ∧ b2 / 64 = 2) ∧ (3 < n ∧ b3 / 64 = 2)
      · rw [if_pos ⟨by omega, h⟩, if_pos h]
      · rw [if_neg (fun g => h g.2), if_neg h]
    match t with
    | [] => exact .inl ⟨rfl, by rw [hD, if_neg (by simp)]⟩
    | [c1] => exact .inl ⟨by rw [if_pos (by simp)], by rw [hD, if_neg (by simp)]⟩
    | [c1, c2] => exact .inl ⟨by rw [if_pos (by simp)], by rw [hD, if_neg (by simp)]⟩
    | c1 :: c2 :: c3 :: t =>
      have h1 := c1.toNat_lt
      have h2 := c2.toNat_lt
      have h3 := c3.toNat_lt
      rw [if_neg (by simp), hD]
      simp only [List.getD_cons_zero, List.getD_cons_succ, List.length_cons]
      show (go1 65536 4 ((b0.toNat : Int) - 240) [c1, c2, c3] = (0, 0) ∧ _) ∨ (go1 65536 4 ((b0.toNat : Int) - 240) [c1, c2, c3] = _ ∧ _)
      by_cases hc : contB c1 = true
      · have hc' := (contB_iff c1).1 hc
        by_cases hc2 : contB c2 = true
        · have hc2' := (contB_iff c2).1 hc2
          by_cases hc3 : contB c3 = true
          · have hc3' := (contB_iff c3).1 hc3
            have e : go1 65536 4 ((b0.toNat : Int) - 240) [c1, c2, c3] = fin4 ((b0.toNat % 8 * 262144 + c1.toNat % 64 * 4096 + c2.toNat % 64 * 64 + c3.toNat % 64 : Nat) : Int) ((65536 : Nat) : Int) ((4 : Nat) : Int) := by
              simp only [go1, hc, hc2, hc3, if_true]
              congr 1; omega
            rw [e]
            refine castP_ok _ 4 65536 (by omega) (by omega) _ ?_
            rw [if_pos ⟨⟨by omega, hc'⟩, ⟨by omega, hc2'⟩, by omega, hc3'⟩]
          · have hc3' : ¬ c3.toNat / 64 = 2 := fun h => hc3 ((contB_iff c3).2 h)
            left
            refine ⟨by simp only [go1, hc, hc2, if_true, if_neg hc3], by rw [if_neg (fun g => hc3' g.2.2.2)]⟩
        · have hc2' : ¬ c2.toNat / 64 = 2 := fun h => hc2 ((contB_iff c2).2 h)
          left
          refine ⟨by simp only [go1, hc, if_true, if_neg hc2], by rw [if_neg (fun g => hc2' g.2.1.2)]⟩
      · have hc' : ¬ c1.toNat / 64 = 2 := fun h => hc ((contB_iff c1).2 h)
        left
        refine ⟨by simp only [go1, if_neg hc], by rw [if_neg (fun g => hc' g.1.2)]⟩
  rw [if_neg k4]
  left
  refine ⟨rfl, ?_⟩
  unfold decodeN
  rw [if_neg (by omega), if_neg (by omega), if_neg (by omega), if_neg (by omega)]
theorem ctl_ascii (b : UInt8) (h : b.toNat < 128) : ctlB b = true ↔ ((b.toNat : Int) = 127 ∨ ((b.toNat : Int) < 32 ∧ (b.toNat : Int) ≠ 9 ∧ (b.toNat : Int) ≠ 10 ∧ (b.toNat : Int) ≠ 13)) := by
  unfold ctlB ctlR
  simp only [Bool.or_eq_true, Bool.and_eq_true, decide_eq_true_eq, bne_iff_ne, beq_iff_eq, ne_eq]
  omega
theorem high_any (l : List UInt8) (n : Nat) (h : ∀ i b, i < n → l[i]? = some b → 128 ≤ b.toNat) : l.any ctlB = (l.drop n).any ctlB := by
  have e : (l.take n).any ctlB = false := by
    rw [List.any_eq_false]
    intro b hb
    obtain ⟨i, hi⟩ := List.mem_iff_getElem?.1 hb
    have hin : i < n := by
      have := (List.getElem?_eq_some_iff.1 hi).1
      rw [List.length_take] at this
      omega
    rw [List.getElem?_take_of_lt hin] at hi
    unfold ctlB
    rw [ctlR_high _ (h i b hin hi)]
    decide
  calc l.any ctlB = (l.take n ++ l.drop n).any ctlB := by rw [List.take_append_drop]
    _ = _ := by rw [List.any_append, e, Bool.false_or]
theorem decode_bytes (b0 : UInt8) (t : List UInt8) (h0 : 128 ≤ b0.toNat) : ∀ i b, i < (decodeL (b0 :: t)).2 → (b0 :: t)[i]? = some b → 128 ≤ b.toNat := by
  intro i b hi hb
  have h := decodeN_high (b0 :: t).length ((b0 :: t).getD 0 0).toNat ((b0 :: t).getD 1 0).toNat ((b0 :: t).getD 2 0).toNat ((b0 :: t).getD 3 0).toNat (by simpa using h0) (by simp)
  rw [← decodeL_N] at h
  obtain ⟨_, h4, _, g1, g2, g3⟩ := h
  have hg : ∀ j, (b0 :: t)[j]? = some b → (b0 :: t).getD j 0 = b := by
    intro j hj
    rw [List.getD_eq_getElem?_getD, hj]; rfl
  rcases (by omega : i = 0 ∨ i = 1 ∨ i = 2 ∨ i = 3) with rfl | rfl | rfl | rfl
  · have : b0 = b := by simpa using hb
    rw [← this]; exact h0
  · rw [← hg 1 hb]; exact g1 (by omega)
  · rw [← hg 2 hb]; exact g2 (by omega)
  · rw [← hg 3 hb]; exact g3 (by omega)
theorem refValid_ev : ∀ (n : Nat) (l : List UInt8), l.length ≤ n → l.length ≤ 4000000000 → Ev (fun k => rVa.l0 k (B l)) (okT l)
  | n, [], _, _ => by
    refine Ev.step (f := fun _ => some true) (fun k => ?_) (Ev.now _)
    simp only [rVa.l0]
    rw [if_neg (by rw [B_size]; simp)]
  | 0, b :: t, h, _ => by simp at h
  | n + 1, b :: t, h, hl => by
    have hlen : t.length ≤ n := by simpa using h
    have hl' : t.length ≤ 4000000000 := by simp at hl; omega
    have hr := rune_ev b t hl'
    have hsz : (B (b :: t)).size = t.length + 1 := by rw [B_size]; simp
    by_cases hb : b.toNat < 128
    · have e : runeI b t = ((b.toNat : Int), 1) := by unfold runeI; rw [if_pos hb]
      rw [e] at hr
      have ih := refValid_ev n t hlen hl'
      rw [okT_cons t b hb]
      have hx : (B (b :: t)).extract ((1 : Int)).toNat (B (b :: t)).size = B t := B_tail (b :: t) 1
      have hcont : Ev (fun k => rVa.l0 k ((B (b :: t)).extract ((1 : Int)).toNat (B (b :: t)).size)) (okT t) := by rw [hx]; exact ih
      have hc := ctl_ascii b hb
      refine Ev.step (f := fun k => (rRu.f k (B (b :: t))).bind fun bt272 => (if bt272.2 = 0 then (some false) else (if bt272.1 = 127 then (some false) else (if bt272.1 < 32 then (if bt272.1 = 9 then (if 0 ≤ bt272.2 then (if bt272.2 ≤ ((B (b :: t)).size : Int) then (rVa.l0 k ((B (b :: t)).extract (bt272.2 : Int).toNat (B (b :: t)).size)) else (none)) else (none)) else (if bt272.1 = 10 then (if 0 ≤ bt272.2 then (if bt272.2 ≤ ((B (b :: t)).size : Int) then (rVa.l0 k ((B (b :: t)).extract (bt272.2 : Int).toNat (B (b :: t)).size)) else (none)) else (none)) else (if bt272.1 = 13 then (if 0 ≤ bt272.2 then (if bt272.2 ≤ ((B (b :: t)).size : Int) then (rVa.l0 k ((B (b :: t)).extract (bt272.2 : Int).toNat (B (b :: t)).size)) else (none)) else (none)) else (some false)))) else (if 0 ≤ bt272.2 then (if bt272.2 ≤ ((B (b :: t)).size : Int) then (rVa.l0 k ((B (b :: t)).extract (bt272.2 : Int).toNat (B (b :: t)).size)) else (none)) else (none)))))) (fun k => ?_) ?_
      · simp only [rVa.l0]
        rw [if_pos (by rw [hsz]; omega)]
      · refine Ev.bind hr ?_
        simp only []
        have z0 : ¬ (1 : Int) = 0 := by decide
        have z1 : (0 : Int) ≤ 1 := by decide
        have z2 : (1 : Int) ≤ ((B (b :: t)).size : Int) := by rw [hsz]; omega
        cases hcb : ctlB b
        · have hn : ¬ _ := fun g => by have := hc.2 g; rw [hcb] at this; cases this
          simp only [Bool.not_false, Bool.true_and]
          refine Ev.congr (fun k => ?_) hcont
          rw [if_neg z0, if_neg (by omega)]
          by_cases g : (b.toNat : Int) < 32
          · rw [if_pos g]
            by_cases g9 : (b.toNat : Int) = 9
            · rw [if_pos g9, if_pos z1, if_pos z2]
            · rw [if_neg g9]
              by_cases g10 : (b.toNat : Int) = 10
              · rw [if_pos g10, if_pos z1, if_pos z2]
              · rw [if_neg g10, if_pos (by omega), if_pos z1, if_pos z2]
          · rw [if_neg g, if_pos z1, if_pos z2]
        · have hy := hc.1 hcb
          simp only [Bool.not_true, Bool.false_and]
          refine Ev.congr (f := fun _ => some false) (fun k => ?_) (Ev.now _)
          rw [if_neg z0]
          by_cases g127 : (b.toNat : Int) = 127
          · rw [if_pos g127]
          · rw [if_neg g127, if_pos (by omega), if_neg (by omega), if_neg (by omega), if_neg (by omega)]
    · have hb' : 128 ≤ b.toNat := by omega
      have hst := validD_step (b :: t) (by simp)
      refine Ev.step (f := fun k => (rRu.f k (B (b :: t))).bind fun bt272 => (if bt272.2 = 0 then (some false) else (if bt272.1 = 127 then (some false) else (if bt272.1 < 32 then (if bt272.1 = 9 then (if 0 ≤ bt272.2 then (if bt272.2 ≤ ((B (b :: t)).size : Int) then (rVa.l0 k ((B (b :: t)).extract (bt272.2 : Int).toNat (B (b :: t)).size)) else (none)) else (none)) else (if bt272.1 = 10 then (if 0 ≤ bt272.2 then (if bt272.2 ≤ ((B (b :: t)).size : Int) then (rVa.l0 k ((B (b :: t)).extract (bt272.2 : Int).toNat (B (b :: t)).size)) else (none)) else (none)) else (if bt272.1 = 13 then (if 0 ≤ bt272.2 then (if bt272.2 ≤ ((B (b :: t)).size : Int) then (rVa.l0 k ((B (b :: t)).extract (bt272.2 : Int).toNat (B (b :: t)).size)) else (none)) else (none)) else (some false)))) else (if 0 ≤ bt272.2 then (if bt272.2 ≤ ((B (b :: t)).size : Int) then (rVa.l0 k ((B (b :: t)).extract (bt272.2 : Int).toNat (B (b :: t)).size)) else (none)) else (none)))))) (fun k => ?_) ?_
      · simp only [rVa.l0]
        rw [if_pos (by rw [hsz]; omega)]
      · refine Ev.bind hr ?_
        rcases rune_decode b t hb' with ⟨e1, e2⟩ | ⟨e1, e2, e3⟩
        · rw [e1]
          have : okT (b :: t) = false := by
            unfold okT
            rw [hst, e2, if_pos ⟨rfl, rfl⟩, Bool.false_and]
          rw [this]
          exact Ev.congr (f := fun _ => some false) (fun k => if_pos rfl) (Ev.now _)
        · have hbytes := decode_bytes b t hb'
          have hwle : (decodeL (b :: t)).2 ≤ t.length + 1 := by
            have h := decodeN_high (b :: t).length ((b :: t).getD 0 0).toNat ((b :: t).getD 1 0).toNat ((b :: t).getD 2 0).toNat ((b :: t).getD 3 0).toNat (by simpa using hb') (by simp)
            rw [← decodeL_N] at h
            simpa using h.2.2.1
          rw [e1]
          generalize hD : decodeL (b :: t) = D at *
          have hok : okT (b :: t) = okT ((b :: t).drop D.2) := by
            unfold okT
            rw [hst, if_neg (by omega), high_any (b :: t) D.2 hbytes]
          rw [hok]
          have ih := refValid_ev n ((b :: t).drop D.2) (by rw [List.length_drop, List.length_cons]; omega) (by rw [List.length_drop]; omega)
          refine Ev.congr (fun k => ?_) ih
          unfold castP
          simp only []
          rw [if_neg (by omega), if_neg (by omega), if_neg (by omega), if_pos (by omega), if_pos (by rw [hsz]; omega), Int.toNat_natCast, B_tail]
end Go.Proofs.YthabooeapfepnaaGreatDoor.PL
