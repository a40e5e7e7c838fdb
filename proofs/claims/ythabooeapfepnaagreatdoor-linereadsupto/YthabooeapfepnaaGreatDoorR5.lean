import Derived.Test.YthabooeapfepnaaGreatDoorR4
import Derived.Test.YthabooeapfepnaaGreatDoorG20
import Derived.Test.YthabooeapfepnaaGreatDoorG21
import Derived.Test.YthabooeapfepnaaGreatDoorPLx14
namespace Go.Proofs.YthabooeapfepnaaGreatDoor.PL
open Go.RowKit Go.Lib Go.Proofs.YthabooeapfepnaaGreatDoor.Given Go.Proofs.YthabooeapfepnaaGreatDoor.Text Go.Proofs.YthabooeapfepnaaGreatDoorW.PrintWords
set_option linter.unusedVariables false
theorem any_of (chars l : List UInt8) : Lib.containsAny l chars = l.any fun b => chars.contains b := by
  unfold Lib.containsAny
  have e : (l.any fun b => chars.contains b) = !(l.all fun b => !chars.contains b) := by
    rw [List.not_all_eq_any_not]; simp
  rw [e]
  rcases indexAny_split chars l with ⟨h1, h2⟩ | ⟨h1, h2⟩
  · rw [h1, h2]; rfl
  · rw [h1, h2]; simp
theorem quoteL_snoc (p : List UInt8) (b : UInt8) : quoteL (p ++ [b]) = quoteL p ++ qb b := by
  unfold quoteL
  rw [List.flatMap_append]; simp
theorem quoteL_le (l : List UInt8) : (quoteL l).length ≤ 2 * l.length := by
  rw [quoteL_length]
  have := List.countP_le_length (p := sp) (l := l)
  omega
theorem str58 : (⟨#[58]⟩ : ByteArray) = B [58] := rfl
section
variable (X : List S31) (x24 x25 : Int) (V : List ByteArray) (x37 x38 : Int) (g n : ByteArray) (P : List S31) (w : ByteArray)
theorem refQuote (x3 : ByteArray) (v : List UInt8) (hv : v.length ≤ 1000000000) (r : ByteArray)
    (hend : Ev (fun k => (rHa.f k (B (quoteL v)) (⟨#[44, 59, 58]⟩ : ByteArray)).bind fun t328 => (if t328 = true then (if 1 + (B (quoteL v)).size ≤ 9223372036854775807 then (if 1 + (B (quoteL v)).size + 1 ≤ 9223372036854775807 then (if x3.size + 1 + (B (quoteL v)).size + 1 ≤ 9223372036854775807 then (rPr.l1 k (x3 ++ (((⟨#[34]⟩ : ByteArray) ++ B (quoteL v)) ++ (⟨#[34]⟩ : ByteArray))) X x24 x25 V x37 (wrap64 (x38 + 1)) g n P w) else (none)) else (none)) else (none)) else (if x3.size + (B (quoteL v)).size ≤ 9223372036854775807 then (rPr.l1 k (x3 ++ B (quoteL v)) X x24 x25 V x37 (wrap64 (x38 + 1)) g n P w) else (none)))) r) :
    ∀ (t p : List UInt8), v = p ++ t → Ev (fun k => rPr.l2 k x3 (B v) (B (quoteL p)) (p.length : Int) X x24 x25 V x37 x38 g n P w) r := by
  intro t
  induction t with
  | nil =>
    intro p hs
    have : p = v := by rw [hs, List.append_nil]
    subst this
    refine Ev.step (fun k => ?_) hend
    simp only [rPr.l2]
    rw [if_neg (by rw [B_size]; exact Int.lt_irrefl _)]
  | cons b t ih =>
    intro p hs
    have hvl : v.length = p.length + t.length + 1 := by rw [hs]; simp; omega
    have hsz : ((B v).size : Int) = ((p.length + t.length + 1 : Nat) : Int) := by rw [B_size, hvl]
    have hql := quoteL_le p
    have z1 : (p.length : Int) < ((B v).size : Int) := by rw [hsz]; omega
    have z0 : (0 : Int) ≤ (p.length : Int) := Int.natCast_nonneg _
    have z2 : (p.length : Int) ≤ ((p.length + 1 : Nat) : Int) := by omega
    have z3 : ((p.length + 1 : Nat) : Int) ≤ ((B v).size : Int) := by rw [hsz]; omega
    have z4 : (B (quoteL p)).size + 2 ≤ 9223372036854775807 := by rw [B_size]; omega
    have z5 : (B (quoteL p)).size + (B [b]).size ≤ 9223372036854775807 := by rw [B_size, B_size]; show _ + 1 ≤ _; omega
    have hex : (B v).extract ((p.length : Int) : Int).toNat (((p.length + 1 : Nat) : Int) : Int).toNat = B [b] := by
      rw [Int.toNat_natCast, Int.toNat_natCast]
      have h := B_sub p [b] t
      have e : p ++ [b] ++ t = v := by rw [hs]; simp
      rw [e] at h
      exact h
    have hw := w64 p.length (by omega)
    have hbt : bt (B v) (p.length : Int) = (b.toNat : Int) := by rw [hs]; exact bt_at p t b
    have h := ih (p ++ [b]) (by rw [hs]; simp)
    have e1 : ((p ++ [b]).length : Int) = ((p.length + 1 : Nat) : Int) := by simp
    rw [quoteL_snoc, e1, ← B_append] at h
    refine Ev.step (fun k => ?_) h
    simp only [rPr.l2]
    rw [if_pos z1, if_pos z0, hbt, hw]
    unfold qb
    by_cases h10 : b = 10
    · have h' : (b.toNat : Int) = 10 := by rw [h10]; rfl
      rw [if_pos h', if_pos z4, if_pos h10]; rfl
    · have n10 : ¬ (b.toNat : Int) = 10 := u8_ne b 10 h10
      rw [if_neg n10, if_neg h10]
      by_cases h94 : b = 94
      · have h' : (b.toNat : Int) = 94 := by rw [h94]; rfl
        rw [if_pos h', if_pos z4, if_pos h94]; rfl
      · have n94 : ¬ (b.toNat : Int) = 94 := u8_ne b 94 h94
        rw [if_neg n94, if_neg h94]
        by_cases h34 : b = 34
        · have h' : (b.toNat : Int) = 34 := by rw [h34]; rfl
          rw [if_pos h', if_pos z4, if_pos h34]; rfl
        · have n34 : ¬ (b.toNat : Int) = 34 := u8_ne b 34 h34
          rw [if_neg n34, if_neg h34, if_pos z2, if_pos z3, hex, if_pos z5]
theorem refValue (acc : List UInt8) (u : ByteArray) (hu : u.size ≤ 1000000000) (ha : acc.length ≤ 4000000010) (r : ByteArray)
    (hnext : Ev (fun k => rPr.l1 k (B (acc ++ qv u)) X x24 x25 V x37 (wrap64 (x38 + 1)) g n P w) r) :
    Ev (fun k => rPr.j3 k (B acc) u X x24 x25 V x37 x38 g n P w) r := by
  have hul : u.data.toList.length ≤ 1000000000 := hu
  have hq := quoteL_le u.data.toList
  have es : (⟨#[44, 59, 58]⟩ : ByteArray) = B [44, 59, 58] := rfl
  have hh := has_ev (quoteL u.data.toList) [44, 59, 58] (by omega) (by decide)
  rw [← any_of, ← es] at hh
  have hend := refQuote X x24 x25 V x37 x38 g n P w (B acc) u.data.toList hul r (Ev.bind hh (by
    have z1 : 1 + (B (quoteL u.data.toList)).size ≤ 9223372036854775807 := by rw [B_size]; omega
    have z2 : 1 + (B (quoteL u.data.toList)).size + 1 ≤ 9223372036854775807 := by rw [B_size]; omega
    have z3 : (B acc).size + 1 + (B (quoteL u.data.toList)).size + 1 ≤ 9223372036854775807 := by rw [B_size, B_size]; omega
    have z4 : (B acc).size + (B (quoteL u.data.toList)).size ≤ 9223372036854775807 := by rw [B_size, B_size]; omega
    have eq34 : (⟨#[34]⟩ : ByteArray) = B [34] := rfl
    unfold qv at hnext
    cases hc : Lib.containsAny (quoteL u.data.toList) [44, 59, 58]
    · rw [hc] at hnext
      refine Ev.congr (fun k => ?_) hnext
      rw [if_neg (by decide), if_pos z4, if_neg (by decide), B_append]
    · rw [hc] at hnext
      refine Ev.congr (fun k => ?_) hnext
      rw [if_pos rfl, if_pos z1, if_pos z2, if_pos z3, if_pos rfl, eq34, B_append, B_append, B_append]
      rfl)) u.data.toList [] rfl
  refine Ev.step (fun k => ?_) hend
  simp only [rPr.j3]
  rfl
end
def accV (vs : List ByteArray) (j : Nat) : List UInt8 := if j = 0 then [61] else valsN vs j
theorem accV_succ (vs : List ByteArray) (j : Nat) : (if j = 0 then accV vs j else accV vs j ++ [44]) ++ qv (vs.getD j ByteArray.empty) = accV vs (j + 1) := by
  unfold accV
  rw [if_neg (Nat.succ_ne_zero j), valsN_succ]
  by_cases h : j = 0
  · subst h
    rw [if_pos rfl, if_pos rfl]
    rfl
  · rw [if_neg h, if_neg h]
    unfold valT
    rw [if_neg h, List.append_assoc]; rfl
theorem refVals (X : List S31) (x24 x25 : Int) (V : List ByteArray) (g n : ByteArray) (P : List S31) (w : ByteArray) (base : List UInt8) (hV : V.length ≤ 4000000000) (hu : ∀ u ∈ V, u.size ≤ 1000000000)
    (hb : ∀ j, j ≤ V.length → base.length + (accV V j).length ≤ 4000000000) (r : ByteArray)
    (hend : Ev (fun k => rPr.l0 k (B (base ++ accV V V.length)) X x24 (wrap64 (x25 + 1)) g n P w) r) :
    ∀ (d j : Nat), j + d = V.length → Ev (fun k => rPr.l1 k (B (base ++ accV V j)) X x24 x25 V (V.length : Int) (j : Int) g n P w) r := by
  intro d
  induction d with
  | zero =>
    intro j hj
    have : j = V.length := by omega
    subst this
    refine Ev.step (fun k => ?_) hend
    simp only [rPr.l1]
    rw [if_neg (Int.lt_irrefl _)]
  | succ d ih =>
    intro j hj
    have hjl : j < V.length := by omega
    have hacc := hb j (by omega)
    have hnext := ih (j + 1) (by omega)
    have hmem : V.getD j ByteArray.empty ∈ V := by
      rw [List.getD_eq_getElem?_getD, List.getElem?_eq_getElem hjl]
      exact List.getElem_mem hjl
    have hus := hu _ hmem
    have hrd : rdOf ByteArray.empty V (j : Int) = V.getD j ByteArray.empty := by unfold rdOf; rw [Int.toNat_natCast]
    have z1 : (j : Int) < (V.length : Int) := by omega
    have z0 : (0 : Int) ≤ (j : Int) := Int.natCast_nonneg _
    have z4 : (B (base ++ accV V j)).size + 1 ≤ 9223372036854775807 := by rw [B_size, List.length_append]; omega
    have hw := w64 j (by omega)
    rw [← accV_succ, ← List.append_assoc] at hnext
    by_cases h0 : j = 0
    · rw [if_pos h0] at hnext
      have hn' : Ev (fun k => rPr.l1 k (B (base ++ accV V j ++ qv (V.getD j ByteArray.empty))) X x24 x25 V (V.length : Int) (wrap64 ((j : Int) + 1)) g n P w) r := by rw [hw]; exact hnext
      refine Ev.step (fun k => ?_) (refValue X x24 x25 V (V.length : Int) (j : Int) g n P w (base ++ accV V j) (V.getD j ByteArray.empty) hus (by rw [List.length_append]; omega) r hn')
      simp only [rPr.l1]
      rw [if_pos z1, if_pos z0, if_pos z1, if_neg (by omega), hrd]
    · rw [if_neg h0, ← List.append_assoc] at hnext
      have hn' : Ev (fun k => rPr.l1 k (B (base ++ accV V j ++ [44] ++ qv (V.getD j ByteArray.empty))) X x24 x25 V (V.length : Int) (wrap64 ((j : Int) + 1)) g n P w) r := by rw [hw]; exact hnext
      have hp : (j : Int) > 0 := by omega
      refine Ev.step (fun k => ?_) (refValue X x24 x25 V (V.length : Int) (j : Int) g n P w (base ++ accV V j ++ [44]) (V.getD j ByteArray.empty) hus (by rw [List.length_append, List.length_append]; show _ + 1 ≤ _; omega) r hn')
      simp only [rPr.l1]
      have e44 : (⟨#[44]⟩ : ByteArray) = B [44] := rfl
      rw [if_pos z1, if_pos z0, if_pos z1, if_pos hp, if_pos z4, hrd, e44, B_append]
theorem refParams (g n : ByteArray) (ps : List S31) (v : ByteArray) (hl : ps.length ≤ 4000000000) (hv : v.size ≤ 1000000000)
    (hx : ∀ x ∈ ps, x.f0.size ≤ 1000000000 ∧ x.f1.length ≤ 4000000000 ∧ x.f1 ≠ [] ∧ ∀ u ∈ x.f1, u.size ≤ 1000000000)
    (hT : (headT g n).length + (parsN ps ps.length).length ≤ 4000000000) :
    ∀ (d i : Nat), i + d = ps.length → Ev (fun k => rPr.l0 k (B (headT g n ++ parsN ps i)) ps (ps.length : Int) (i : Int) g n ps v) (B (printT g n ps v)) := by
  intro d
  induction d with
  | zero =>
    intro i hi
    have : i = ps.length := by omega
    subst this
    have z1 : (B (headT g n ++ parsN ps ps.length)).size + 1 ≤ 9223372036854775807 := by rw [B_size, List.length_append]; omega
    have z2 : (B (headT g n ++ parsN ps ps.length)).size + 1 + v.size ≤ 9223372036854775807 := by rw [B_size, List.length_append]; omega
    refine Ev.step (f := fun _ => some (B (printT g n ps v))) (fun k => ?_) (Ev.now _)
    simp only [rPr.l0]
    rw [if_neg (Int.lt_irrefl _), if_pos z1, if_pos z2, str58, B_append, ← B_list v, B_append]
    unfold printT
    rw [B_data]
    simp
  | succ d ih =>
    intro i hi
    have hil : i < ps.length := by omega
    have hnext := ih (i + 1) (by omega)
    obtain ⟨x, hxx⟩ : ∃ x, rd_T31 ps (i : Int) = x := ⟨_, rfl⟩
    have hmem : x ∈ ps := by rw [← hxx]; exact rd31 ps i hil
    obtain ⟨h0, h1, h2, h3⟩ := hx x hmem
    have hle : ∀ j, j ≤ x.f1.length → (parsN ps i).length + 1 + x.f0.size + (valsN x.f1 j).length ≤ (parsN ps ps.length).length := fun j hj => range_le ps x i hil hxx j hj
    have hpos : 1 ≤ x.f1.length := by cases h : x.f1 with | nil => exact absurd h h2 | cons a b => simp
    have hbase : (headT g n ++ parsN ps i ++ 59 :: x.f0.data.toList).length = (headT g n).length + (parsN ps i).length + 1 + x.f0.size := by
      rw [List.length_append, List.length_append, List.length_cons, str_size]; omega
    have hb : ∀ j, j ≤ x.f1.length → (headT g n ++ parsN ps i ++ 59 :: x.f0.data.toList).length + (accV x.f1 j).length ≤ 4000000000 := by
      intro j hj
      rw [hbase]
      unfold accV
      by_cases h : j = 0
      · rw [if_pos h]
        have e1 := hle 1 hpos
        have e2 : 1 ≤ (valsN x.f1 1).length := by
          rw [valsN_succ, List.length_append]
          unfold valT
          rw [List.length_cons]
          omega
        show _ + 1 ≤ _
        omega
      · rw [if_neg h]
        have := hle j hj
        omega
    have hw := w64 i (by omega)
    have hend : Ev (fun k => rPr.l0 k (B (headT g n ++ parsN ps i ++ 59 :: x.f0.data.toList ++ accV x.f1 x.f1.length)) ps (ps.length : Int) (wrap64 ((i : Int) + 1)) g n ps v) (B (printT g n ps v)) := by
      have e : headT g n ++ parsN ps i ++ 59 :: x.f0.data.toList ++ accV x.f1 x.f1.length = headT g n ++ parsN ps (i + 1) := by
        rw [parsN_succ, hxx]
        unfold accV parT
        rw [if_neg (by omega)]
        simp
      rw [e, hw]
      exact hnext
    have hvals := refVals ps (ps.length : Int) (i : Int) x.f1 g n ps v (headT g n ++ parsN ps i ++ 59 :: x.f0.data.toList) h1 h3 hb (B (printT g n ps v)) hend x.f1.length 0 (by omega)
    have e61 : headT g n ++ parsN ps i ++ 59 :: x.f0.data.toList ++ accV x.f1 0 = headT g n ++ parsN ps i ++ (59 :: x.f0.data.toList ++ [61]) := by
      unfold accV
      rw [if_pos rfl, List.append_assoc]
    rw [e61] at hvals
    have hb0 := hb 0 (by omega)
    rw [hbase] at hb0
    have z0 : (0 : Int) ≤ (i : Int) := Int.natCast_nonneg _
    have z1 : (i : Int) < (ps.length : Int) := by omega
    have y1 : 1 + x.f0.size ≤ 9223372036854775807 := by omega
    have y2 : 1 + x.f0.size + 1 ≤ 9223372036854775807 := by omega
    have y3 : (B (headT g n ++ parsN ps i)).size + 1 + x.f0.size + 1 ≤ 9223372036854775807 := by rw [B_size, List.length_append]; omega
    have e59 : (⟨#[59]⟩ : ByteArray) = B [59] := rfl
    have e61' : (⟨#[61]⟩ : ByteArray) = B [61] := rfl
    have ecat : (B (headT g n ++ parsN ps i)) ++ (((⟨#[59]⟩ : ByteArray) ++ x.f0) ++ (⟨#[61]⟩ : ByteArray)) = B (headT g n ++ parsN ps i ++ (59 :: x.f0.data.toList ++ [61])) := by
      rw [e59, e61', ← B_list x.f0, B_append, B_append, B_append, B_data]; rfl
    refine Ev.step (fun k => ?_) hvals
    simp only [rPr.l0]
    rw [if_pos z1, if_pos z0, if_pos z1, hxx, if_pos y1, if_pos y2, if_pos y3, ecat]
    rfl
theorem refPrint_ev (g n : ByteArray) (ps : List S31) (v : ByteArray) (hl : ps.length ≤ 4000000000) (hv : v.size ≤ 1000000000) (hg : g.size ≤ 1000000000) (hn : n.size ≤ 1000000000)
    (hx : ∀ x ∈ ps, x.f0.size ≤ 1000000000 ∧ x.f1.length ≤ 4000000000 ∧ x.f1 ≠ [] ∧ ∀ u ∈ x.f1, u.size ≤ 1000000000)
    (hT : (headT g n).length + (parsN ps ps.length).length ≤ 4000000000) : Ev (fun k => rPr.f k g n ps v) (B (printT g n ps v)) := by
  have h := refParams g n ps v hl hv hx hT ps.length 0 (by omega)
  have e0 : headT g n ++ parsN ps 0 = headT g n := by unfold parsN; simp
  rw [e0] at h
  have hj : Ev (fun k => rPr.j0 k (B (headT g n)) g n ps v) (B (printT g n ps v)) := by
    refine Ev.step (fun k => ?_) h
    simp only [rPr.j0]
    rfl
  have hgl : g.toList = g.data.toList := ByteArray.toList_eq g
  have hgs : g.data.toList.length = g.size := rfl
  refine Ev.congr (fun k => ?_) hj
  unfold rPr.f
  by_cases hg0 : (g.size : Int) > 0
  · have he : headT g n = g.data.toList ++ 46 :: n.data.toList := by
      unfold headT
      rw [if_neg]
      rw [hgl, List.isEmpty_iff]
      intro h
      rw [h] at hgs
      simp at hgs
      omega
    have e46 : (⟨#[46]⟩ : ByteArray) = B [46] := rfl
    have z1 : g.size + 1 ≤ 9223372036854775807 := by omega
    have z2 : g.size + 1 + n.size ≤ 9223372036854775807 := by omega
    have ecat : (g ++ (⟨#[46]⟩ : ByteArray)) ++ n = B (headT g n) := by
      rw [he, e46]
      conv => lhs; rw [← B_list g, ← B_list n, B_append, B_append]
      rw [List.append_assoc]; rfl
    rw [if_pos hg0, if_pos z1, if_pos z2, ecat]
  · have he : headT g n = n.data.toList := by
      unfold headT
      rw [if_pos]
      rw [hgl, List.isEmpty_iff]
      exact List.eq_nil_of_length_eq_zero (by omega)
    rw [if_neg hg0, he]
    rfl
end Go.Proofs.YthabooeapfepnaaGreatDoor.PL
