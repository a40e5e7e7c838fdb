import Derived.Test.YthabooeapfepnaaGreatDoorV
import Derived.Test.YthabooeapfepnaaGreatDoorPLx3
import Derived.Lib.Strings
import Derived.Laws.Strings
namespace Go.Proofs.YthabooeapfepnaaGreatDoor.PL
open Go.RowKit Go.Proofs.YthabooeapfepnaaGreatDoor.Given Go.Proofs.YthabooeapfepnaaGreatDoor.Text Go.Proofs.YthabooeapfepnaaGreatDoorW.PrintWords
set_option linter.unusedVariables false
def B (l : List UInt8) : ByteArray := ⟨l.toArray⟩
theorem B_list (s : ByteArray) : B s.data.toList = s := rfl
theorem B_data (l : List UInt8) : (B l).data.toList = l := rfl
theorem B_size (l : List UInt8) : (B l).size = l.length := by simp [B, ByteArray.size]
theorem B_toList (l : List UInt8) : (B l).toList = l := ByteArray.toList_eq (B l)
theorem B_extract (l : List UInt8) (a b : Nat) : (B l).extract a b = B ((l.drop a).take (b - a)) := Lib.extract_eq (B l) a b
theorem B_tail (l : List UInt8) (n : Nat) : (B l).extract n (B l).size = B (l.drop n) := by
  rw [B_extract, B_size, List.take_of_length_le (by rw [List.length_drop]; omega)]
theorem B_head (l : List UInt8) (n : Nat) : (B l).extract 0 n = B (l.take n) := by
  rw [B_extract]; rfl
theorem B_append (a b : List UInt8) : B a ++ B b = B (a ++ b) := by
  have h : (B a ++ B b).data.toList = a ++ b := by rw [ByteArray.data_append, Array.toList_append]; rfl
  rw [← B_list (B a ++ B b), h]
theorem bt_at (p t : List UInt8) (b : UInt8) : bt (B (p ++ b :: t)) (p.length : Int) = (b.toNat : Int) := by
  unfold bt
  rw [dif_pos (by rw [B_size]; simp)]
  have : (B (p ++ b :: t))[(p.length : Int).toNat]'(by rw [B_size]; simp) = b := by
    show (p ++ b :: t).toArray[p.length]'(by simp) = b
    simp
  rw [this]
theorem bt_zero (t : List UInt8) (b : UInt8) : bt (B (b :: t)) 0 = (b.toNat : Int) := bt_at [] t b
def inName (b : UInt8) : Bool := (decide (97 ≤ b.toNat) && decide (b.toNat ≤ 122)) || (decide (65 ≤ b.toNat) && decide (b.toNat ≤ 90)) || (decide (48 ≤ b.toNat) && decide (b.toNat ≤ 57)) || decide (b.toNat = 45)
def fitsL (l : List UInt8) : Bool := decide (1 ≤ l.length) && decide (l.length ≤ 64)
def isName (l : List UInt8) : Bool := l.all inName && fitsL l
def failE (bad e : Int) : Int := if bad = 0 then e else bad
def nameS (l : List UInt8) (bad : Int) : List UInt8 × List UInt8 × Int := (l.takeWhile inName, l.dropWhile inName, if fitsL (l.takeWhile inName) = true then bad else failE bad 30)
def signS (signs : List UInt8) : List UInt8 → Int → Int × List UInt8 × Int
  | [], bad => (0, [], failE bad 31)
  | b :: t, bad => if signs.contains b = true then ((b.toNat : Int), t, bad) else (0, b :: t, failE bad 31)
def notQ (b : UInt8) : Bool := b != 34
def seps : List UInt8 := [44, 59, 58, 34]
def notSep (b : UInt8) : Bool := !seps.contains b
def valueS (l : List UInt8) (bad : Int) : List UInt8 × List UInt8 × Int :=
  if l.head? = some 34 then
    (if (l.drop 1).all notQ = true then (meantL (l.drop 1), [], failE bad 31) else (meantL ((l.drop 1).takeWhile notQ), ((l.drop 1).dropWhile notQ).drop 1, bad))
  else (meantL (l.takeWhile notSep), l.dropWhile notSep, bad)
def valsS : Nat → Int → List UInt8 → Int → List (List UInt8) → List (List UInt8) × Int × List UInt8 × Int
  | 0, c, l, bad, vs => (vs, c, l, bad)
  | n + 1, c, l, bad, vs => if c = 61 ∨ c = 44 then
      valsS n (signS [44, 59, 58] (valueS l bad).2.1 (valueS l bad).2.2).1 (signS [44, 59, 58] (valueS l bad).2.1 (valueS l bad).2.2).2.1 (signS [44, 59, 58] (valueS l bad).2.1 (valueS l bad).2.2).2.2 (vs ++ [(valueS l bad).1])
    else (vs, c, l, bad)
abbrev Ps := List (List UInt8 × List (List UInt8))
def paramS (l : List UInt8) (bad : Int) : List (List UInt8) × Int × List UInt8 × Int :=
  valsS ((signS [61] (nameS l bad).2.1 (nameS l bad).2.2).2.1.length + 1) (signS [61] (nameS l bad).2.1 (nameS l bad).2.2).1 (signS [61] (nameS l bad).2.1 (nameS l bad).2.2).2.1 (signS [61] (nameS l bad).2.1 (nameS l bad).2.2).2.2 []
def parsS : Nat → Int → List UInt8 → Int → Ps → Ps × List UInt8 × Int
  | 0, c, l, bad, ps => (ps, l, bad)
  | n + 1, c, l, bad, ps => if c = 59 ∧ bad = 0 then
      parsS n (paramS l bad).2.1 (paramS l bad).2.2.1 (paramS l bad).2.2.2 (ps ++ [((nameS l bad).1, (paramS l bad).1)])
    else (ps, l, bad)
abbrev LineL := List UInt8 × List UInt8 × Ps × List UInt8 × Int
def finS (g n : List UInt8) (r : Ps × List UInt8 × Int) : LineL := if r.2.2 = 0 then (g, n, r.1, r.2.1, 0) else ([], [], [], [], r.2.2)
def crlfL (l : List UInt8) : Bool := Lib.containsAny l [13, 10]
def parseS (l : List UInt8) : LineL :=
  if okT l = false ∨ crlfL l = true then ([], [], [], [], 10)
  else if (signS [46, 59, 58] (nameS l 0).2.1 (nameS l 0).2.2).1 = 46 then
    finS (nameS l 0).1 (nameS (signS [46, 59, 58] (nameS l 0).2.1 (nameS l 0).2.2).2.1 (signS [46, 59, 58] (nameS l 0).2.1 (nameS l 0).2.2).2.2).1
      (parsS (l.length + 1)
        (signS [59, 58] (nameS (signS [46, 59, 58] (nameS l 0).2.1 (nameS l 0).2.2).2.1 (signS [46, 59, 58] (nameS l 0).2.1 (nameS l 0).2.2).2.2).2.1 (nameS (signS [46, 59, 58] (nameS l 0).2.1 (nameS l 0).2.2).2.1 (signS [46, 59, 58] (nameS l 0).2.1 (nameS l 0).2.2).2.2).2.2).1
        (signS [59, 58] (nameS (signS [46, 59, 58] (nameS l 0).2.1 (nameS l 0).2.2).2.1 (signS [46, 59, 58] (nameS l 0).2.1 (nameS l 0).2.2).2.2).2.1 (nameS (signS [46, 59, 58] (nameS l 0).2.1 (nameS l 0).2.2).2.1 (signS [46, 59, 58] (nameS l 0).2.1 (nameS l 0).2.2).2.2).2.2).2.1
        (signS [59, 58] (nameS (signS [46, 59, 58] (nameS l 0).2.1 (nameS l 0).2.2).2.1 (signS [46, 59, 58] (nameS l 0).2.1 (nameS l 0).2.2).2.2).2.1 (nameS (signS [46, 59, 58] (nameS l 0).2.1 (nameS l 0).2.2).2.1 (signS [46, 59, 58] (nameS l 0).2.1 (nameS l 0).2.2).2.2).2.2).2.2 [])
  else finS [] (nameS l 0).1
      (parsS (l.length + 1) (signS [46, 59, 58] (nameS l 0).2.1 (nameS l 0).2.2).1 (signS [46, 59, 58] (nameS l 0).2.1 (nameS l 0).2.2).2.1 (signS [46, 59, 58] (nameS l 0).2.1 (nameS l 0).2.2).2.2 [])
def pB (p : List UInt8 × List (List UInt8)) : S31 := ⟨B p.1, p.2.map B⟩
def lineB (r : LineL) : ByteArray × ByteArray × List S31 × ByteArray × Int := (B r.1, B r.2.1, r.2.2.1.map pB, B r.2.2.2.1, r.2.2.2.2)
theorem part_eq (b : UInt8) : line_part.f (b.toNat : Int) = some (inName b) := by
  have hb := b.toNat_lt
  unfold line_part.f inName
  generalize b.toNat = n at *
  repeat' split
  all_goals (refine congrArg some ?_; rw [Bool.eq_iff_iff]; simp only [Bool.or_eq_true, Bool.and_eq_true, decide_eq_true_eq, beq_iff_eq, true_iff]; omega)
theorem lead_ev (t : List UInt8) : ∀ p : List UInt8, (p ++ t).length ≤ 4000000000 → Ev (fun k => line_lead.l0 k (B (p ++ t)) (p.length : Int)) ((p.length + (t.takeWhile inName).length : Nat) : Int) := by
  induction t with
  | nil =>
    intro p hp
    refine Ev.step (f := fun _ => some (p.length : Int)) (fun k => ?_) (Ev.now _)
    simp only [line_lead.l0]
    rw [if_neg (by rw [B_size]; simp)]
  | cons b t ih =>
    intro p hp
    cases hb : inName b
    · rw [List.takeWhile_cons, hb]
      refine Ev.step (f := fun _ => some (p.length : Int)) (fun k => ?_) (Ev.now _)
      simp only [line_lead.l0]
      rw [if_pos (by rw [B_size]; simp; omega), if_pos (by omega), bt_at, part_eq, hb]
      rfl
    · have h := ih (p ++ [b]) (by simpa using hp)
      rw [List.takeWhile_cons, hb]
      have e1 : p ++ [b] ++ t = p ++ b :: t := by simp
      rw [e1] at h
      refine Ev.step (f := fun k => line_lead.l0 k (B (p ++ b :: t)) ((p ++ [b]).length : Int)) (fun k => ?_) ?_
      · simp only [line_lead.l0]
        rw [if_pos (by rw [B_size]; simp; omega), if_pos (by omega), bt_at, part_eq, hb]
        simp only [Option.bind_some, if_true]
        have : wrap64 ((p.length : Int) + 1) = ((p ++ [b]).length : Int) := by
          simp at hp
          unfold wrap64; simp; omega
        rw [this]
      · have e2 : (p ++ [b]).length + (List.takeWhile inName t).length = p.length + (b :: List.takeWhile inName t).length := by simp; omega
        rw [e2] at h
        exact h
theorem lead_f (l : List UInt8) (h : l.length ≤ 4000000000) : Ev (fun k => line_lead.f k (B l)) ((l.takeWhile inName).length : Int) := by
  have := lead_ev l [] (by simpa using h)
  simpa [line_lead.f] using this
theorem fits_f (l : List UInt8) : line_fits.f (B l) = some (fitsL l) := by
  unfold line_fits.f fitsL
  rw [B_size]
  split
  · rename_i h
    have : 1 ≤ l.length := by omega
    rw [decide_eq_true this, Bool.true_and]
    refine congrArg some ?_
    rw [Bool.eq_iff_iff]; simp; omega
  · rename_i h
    have : ¬ 1 ≤ l.length := by omega
    rw [decide_eq_false this, Bool.false_and]
theorem fail_f (l : List UInt8) (bad e : Int) : lrf.f (B l) bad e = some (B l, failE bad e) := by
  unfold lrf.f failE
  split <;> rfl
theorem takeWhile_len (p : UInt8 → Bool) (l : List UInt8) : l.take (l.takeWhile p).length = l.takeWhile p := by
  induction l with
  | nil => rfl
  | cons b l ih => cases h : p b <;> simp [h, ih]
theorem dropWhile_len (p : UInt8 → Bool) (l : List UInt8) : l.drop (l.takeWhile p).length = l.dropWhile p := by
  induction l with
  | nil => rfl
  | cons b l ih => cases h : p b <;> simp [h, ih]
theorem takeWhile_le (p : UInt8 → Bool) (l : List UInt8) : (l.takeWhile p).length ≤ l.length := (List.takeWhile_prefix p).length_le
theorem dropWhile_le (p : UInt8 → Bool) (l : List UInt8) : (l.dropWhile p).length ≤ l.length := (List.dropWhile_suffix p).length_le
theorem name_ev (l : List UInt8) (bad : Int) (h : l.length ≤ 4000000000) : Ev (fun k => lrn.f k (B l) bad) (B (nameS l bad).1, B (nameS l bad).2.1, (nameS l bad).2.2) := by
  unfold lrn.f
  refine Ev.bind (lead_f l h) ?_
  refine Ev.congr (f := fun _ => some (B (nameS l bad).1, B (nameS l bad).2.1, (nameS l bad).2.2)) (fun k => ?_) (Ev.now _)
  have hle := takeWhile_le inName l
  have e1 : (B l).extract 0 ((List.takeWhile inName l).length : Int).toNat = B (l.takeWhile inName) := by
    rw [Int.toNat_natCast, B_head, takeWhile_len]
  have e2 : (B l).extract ((List.takeWhile inName l).length : Int).toNat (B l).size = B (l.dropWhile inName) := by
    rw [Int.toNat_natCast, B_tail, dropWhile_len]
  rw [if_pos (by omega), if_pos (by rw [B_size]; omega), e1, fits_f]
  simp only [Option.bind_some]
  unfold nameS
  cases hf : fitsL (List.takeWhile inName l)
  · rw [if_neg (by decide), fail_f]
    simp only [Option.bind_some]
    rw [if_pos (by rw [B_size]; omega), e2]
    simp
  · rw [if_pos rfl, e2]
    simp
theorem indexByte_has (l : List UInt8) (b : UInt8) : (Lib.indexByte l b < 0) ↔ l.contains b = false := by
  induction l with
  | nil => simp [Lib.indexByte]
  | cons c l ih =>
    have hg := Lib.indexByte_ge l b
    unfold Lib.indexByte
    by_cases h : c = b
    · subst h; simp
    · have h1 : (c == b) = false := beq_eq_false_iff_ne.mpr h
      have h2 : (b == c) = false := beq_eq_false_iff_ne.mpr (Ne.symm h)
      rw [h1, List.contains_cons, h2, Bool.false_or, ← ih]
      simp only [Bool.false_eq_true, if_false]
      by_cases hm : Lib.indexByte l b = -1
      · rw [if_pos (by rw [hm]; rfl), hm]
      · rw [if_neg (by simpa using hm)]
        omega
theorem sign_f (signs l : List UInt8) (bad : Int) : lrs.f (B l) bad (B signs) = some ((signS signs l bad).1, B (signS signs l bad).2.1, (signS signs l bad).2.2) := by
  unfold lrs.f
  rw [B_toList]
  cases l with
  | nil => rw [if_pos rfl, fail_f]; rfl
  | cons b t =>
    rw [if_neg (by simp), if_pos (by rw [B_size]; simp)]
    unfold strings_IndexByte.f
    simp only [Option.bind_some]
    have hi := indexByte_has signs b
    have hb : ((b.toNat : Int).toNat).toUInt8 = b := by simp
    rw [bt_zero, hb, B_data]
    cases hc : signs.contains b
    · have e : signS signs (b :: t) bad = (0, b :: t, failE bad 31) := by
        show (if signs.contains b = true then ((b.toNat : Int), t, bad) else (0, b :: t, failE bad 31)) = _
        rw [hc]; rfl
      rw [if_pos (hi.2 hc), fail_f, e]; rfl
    · have e : signS signs (b :: t) bad = ((b.toNat : Int), t, bad) := by
        show (if signs.contains b = true then ((b.toNat : Int), t, bad) else (0, b :: t, failE bad 31)) = _
        rw [hc]; rfl
      rw [if_neg (by rw [hi, hc]; decide), if_pos (by rw [B_size]; simp; omega), B_tail, e]; rfl
theorem indexAny_split (chars : List UInt8) (l : List UInt8) : (l.all (fun b => !chars.contains b) = true ∧ Lib.indexAny l chars = -1) ∨ (l.all (fun b => !chars.contains b) = false ∧ Lib.indexAny l chars = ((l.takeWhile (fun b => !chars.contains b)).length : Int)) := by
  induction l with
  | nil => left; exact ⟨rfl, rfl⟩
  | cons b l ih =>
    unfold Lib.indexAny
    by_cases h : chars.contains b = true
    · right
      rw [if_pos h, List.takeWhile_cons, List.all_cons, h]
      exact ⟨rfl, rfl⟩
    · have h' : chars.contains b = false := by simpa using h
      rw [if_neg h, List.takeWhile_cons, List.all_cons, h']
      simp only [Bool.not_false, Bool.true_and, if_true]
      rcases ih with ⟨i1, i2⟩ | ⟨i1, i2⟩
      · left; rw [i2]; exact ⟨i1, rfl⟩
      · right
        rw [i2]
        refine ⟨i1, ?_⟩
        rw [if_neg (by simp)]
        simp
theorem takeWhile_all (p : UInt8 → Bool) (l : List UInt8) (h : l.all p = true) : l.takeWhile p = l ∧ l.dropWhile p = [] := by
  induction l with
  | nil => exact ⟨rfl, rfl⟩
  | cons b l ih =>
    rw [List.all_cons, Bool.and_eq_true] at h
    rw [List.takeWhile_cons, List.dropWhile_cons, h.1]
    simp [ih h.2]
theorem index_one (c : UInt8) (l : List UInt8) : (l.all (fun b => b != c) = true ∧ Lib.index l [c] = -1) ∨ (l.all (fun b => b != c) = false ∧ Lib.index l [c] = ((l.takeWhile (fun b => b != c)).length : Int)) := by
  induction l with
  | nil => left; exact ⟨rfl, rfl⟩
  | cons b l ih =>
    unfold Lib.index
    by_cases h : b = c
    · subst h
      right
      rw [if_pos (by simp), List.takeWhile_cons, List.all_cons]
      simp
    · have h1 : (b != c) = true := bne_iff_ne.mpr h
      have h2 : ([c].isPrefixOf (b :: l)) = false := by
        simp [List.isPrefixOf, Ne.symm h]
      rw [h2, List.takeWhile_cons, List.all_cons, h1]
      simp only [Bool.true_and, if_true]
      rcases ih with ⟨i1, i2⟩ | ⟨i1, i2⟩
      · left; rw [i2]; exact ⟨i1, rfl⟩
      · right
        rw [i2]
        refine ⟨i1, ?_⟩
        rw [if_neg (by decide), if_neg (by simp)]
        simp
end Go.Proofs.YthabooeapfepnaaGreatDoor.PL
