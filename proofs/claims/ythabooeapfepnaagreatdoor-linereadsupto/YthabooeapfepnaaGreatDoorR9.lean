import Derived.Test.YthabooeapfepnaaGreatDoorR8
import Derived.Test.YthabooeapfepnaaGreatDoorPLx15
namespace Go.Proofs.YthabooeapfepnaaGreatDoor.PL
open Go.RowKit Go.Lib Go.Proofs.YthabooeapfepnaaGreatDoor.Given Go.Proofs.YthabooeapfepnaaGreatDoor.Text Go.Proofs.YthabooeapfepnaaGreatDoorW.PrintWords
set_option linter.unusedVariables false
theorem lead_k (t : List UInt8) : ∀ (p : List UInt8) (k : Nat), t.length < k → (p ++ t).length ≤ 4000000000 → line_lead.l0 k (B (p ++ t)) (p.length : Int) = some ((p.length + (t.takeWhile inName).length : Nat) : Int) := by
  induction t with
  | nil =>
    intro p k hk hp
    obtain ⟨k, rfl⟩ : ∃ m, k = m + 1 := ⟨k - 1, by omega⟩
    simp only [line_lead.l0]
    rw [if_neg (by rw [B_size]; simp)]
    rfl
  | cons b t ih =>
    intro p k hk hp
    obtain ⟨k, rfl⟩ : ∃ m, k = m + 1 := ⟨k - 1, by omega⟩
    have hk' : t.length < k := by rw [List.length_cons] at hk; omega
    have hlen : p.length + t.length + 1 ≤ 4000000000 := by rw [List.length_append, List.length_cons] at hp; omega
    have z1 : (p.length : Int) < ((B (p ++ b :: t)).size : Int) := by rw [B_size, List.length_append, List.length_cons]; omega
    have z0 : (0 : Int) ≤ (p.length : Int) := Int.natCast_nonneg _
    cases hb : inName b
    · rw [List.takeWhile_cons, hb]
      simp only [line_lead.l0]
      rw [if_pos z1, if_pos z0, bt_at, part_eq, hb]
      rfl
    · have h := ih (p ++ [b]) k hk' (by rw [List.append_assoc]; exact hp)
      have e1 : p ++ [b] ++ t = p ++ b :: t := by rw [List.append_assoc]; rfl
      have e2 : (p ++ [b]).length = p.length + 1 := by rw [List.length_append]; rfl
      rw [e1, e2] at h
      rw [List.takeWhile_cons, hb]
      simp only [line_lead.l0]
      rw [if_pos z1, if_pos z0, bt_at, part_eq, hb]
      simp only [Option.bind_some, if_true]
      rw [w64 p.length (by omega), h, List.length_cons]
      refine congrArg some ?_
      omega
theorem nm_is (s : ByteArray) (h : s.size ≤ 4000000000) : nm s = some (isName s.data.toList) := by
  have hl := lead_k s.data.toList [] (s.size + 2) (by show s.size < _; omega) (by show s.size ≤ _; exact h)
  have hf := takeWhile_full inName s.data.toList
  unfold nm line_Name.f line_lead.f
  have e : line_lead.l0 (s.size + 2) s 0 = some (((s.data.toList.takeWhile inName).length : Nat) : Int) := by
    have h2 := hl
    rw [List.length_nil, Nat.zero_add, List.nil_append] at h2
    exact h2
  rw [e]
  simp only [Option.bind_some]
  have hfi := fits_f s.data.toList
  rw [B_list] at hfi
  rw [hfi]
  simp only [Option.bind_some]
  have hs : s.data.toList.length = s.size := rfl
  unfold isName
  cases ha : s.data.toList.all inName
  · rw [if_neg (fun hh => by have := hf.1 (by omega); rw [ha] at this; cases this)]
    rfl
  · rw [if_pos (by have := hf.2 ha; omega)]
    rfl
theorem nmB_is (s : ByteArray) (h : s.size ≤ 4000000000) : nmB s = isName s.data.toList := by
  unfold nmB
  rw [nm_is s h]; rfl
theorem vaB_is (l : List UInt8) (h : l.length ≤ 4000000000) : vaB (B l) = okT l := by
  unfold vaB
  rw [char_Valid_okT (B l) (by rw [B_size]; exact h)]; rfl
theorem crB_is (l : List UInt8) : crB (B l) = l.contains 13 := by
  unfold crB
  rw [B_data]
  have h := indexByte_has l 13
  cases hc : l.contains 13
  · have := h.2 hc
    rw [decide_eq_false]; omega
  · rw [decide_eq_true]
    have : ¬ Lib.indexByte l 13 < 0 := fun g => by rw [h.1 g] at hc; cases hc
    omega
structure Bnd (g n : List UInt8) (ps : Ps) (v : List UInt8) : Prop where
  bg : g.length ≤ 100
  bn : n.length ≤ 100
  bv : v.length ≤ 100000000
  bps : ps.length ≤ 100000000
  each : ∀ p ∈ ps, p.1.length ≤ 100 ∧ p.2.length ≤ 100000000 ∧ ∀ u ∈ p.2, u.length ≤ 100000000
  all : (printL g n ps v).length ≤ 100000000
theorem wt_mem (vs : List (List UInt8)) : vs.length ≤ wt vs ∧ ∀ u ∈ vs, u.length ≤ wt vs := by
  refine ⟨valsR_len 44 vs, ?_⟩
  induction vs with
  | nil => intro u hu; cases hu
  | cons a vs ih =>
    intro u hu
    have e : wt (a :: vs) = 1 + (qvL a).length + wt vs := by unfold wt; simp only [valsR, List.length_cons, List.length_append]; omega
    rw [e]
    rcases List.mem_cons.1 hu with rfl | h
    · have := (qvL_le u).2; omega
    · have := ih u h; omega
theorem tl_mem (ps : Ps) : ps.length ≤ tl ps ∧ ∀ p ∈ ps, wt p.2 ≤ tl ps := by
  refine ⟨tailT_len ps [], ?_⟩
  induction ps with
  | nil => intro p hp; cases hp
  | cons q ps ih =>
    intro p hp
    have e : tl (q :: ps) = 1 + q.1.length + wt q.2 + tl ps := by
      unfold tl; simp only [tailT, List.length_cons, List.length_append, valsR_any]; omega
    rw [e]
    rcases List.mem_cons.1 hp with rfl | h
    · omega
    · have := ih p h; omega
theorem name_len {l : List UInt8} (h : isName l = true) : l.length ≤ 64 := by
  unfold isName fitsL at h
  simp only [Bool.and_eq_true, decide_eq_true_eq] at h
  exact h.2.2
theorem bnd (g n : List UInt8) (ps : Ps) (v : List UInt8) (h : Right g n ps v) (hl : (printL g n ps v).length ≤ 100000000) : Bnd g n ps v := by
  have hl' := hl
  unfold printL at hl
  rw [List.length_append, tail_len] at hl
  obtain ⟨t1, t2⟩ := tl_mem ps
  refine ⟨?_, ?_, by omega, by omega, fun p hp => ?_, hl'⟩
  · rcases h.g with rfl | hg
    · exact Nat.zero_le _
    · have := name_len hg; omega
  · have := name_len h.n; omega
  · have h1 := name_len (h.ps p hp).1
    have h2 := t2 p hp
    obtain ⟨w1, w2⟩ := wt_mem p.2
    exact ⟨by omega, by omega, fun u hu => by have := w2 u hu; omega⟩
theorem check_right (g n : List UInt8) (ps : Ps) (v : List UInt8) (h : Right g n ps v) (hb : Bnd g n ps v) : checkB (B g) (B n) (ps.map pB) (B v) = 0 := by
  have hbg := hb.bg
  have hbn := hb.bn
  have hbv := hb.bv
  have b1 : bad1 (B g) (B n) (ps.map pB) = false := by
    unfold bad1
    rw [nmB_is (B g) (by rw [B_size]; omega), nmB_is (B n) (by rw [B_size]; omega), B_data, B_data, h.n, B_toList]
    have e1 : (!g.isEmpty && !isName g) = false := by
      rcases h.g with rfl | hg
      · rfl
      · rw [hg]; simp
    have e2 : ((ps.map pB).any fun x => !nmB x.f0) = false := by
      rw [List.any_eq_false]
      intro x hx
      obtain ⟨p, hp, rfl⟩ := List.mem_map.1 hx
      have h1 := (h.ps p hp).1
      have h2 := (hb.each p hp).1
      show ¬ (!nmB (B p.1)) = true
      rw [nmB_is (B p.1) (by rw [B_size]; omega), B_data, h1]; decide
    rw [e1, e2]; rfl
  have b2 : bad2 (ps.map pB) = false := by
    unfold bad2
    rw [List.any_eq_false]
    intro x hx
    obtain ⟨p, hp, rfl⟩ := List.mem_map.1 hx
    have h1 := (h.ps p hp).2.1
    show ¬ (((p.2.map B).length : Int) == 0) = true
    rw [beq_iff_eq, List.length_map]
    intro h0
    exact h1 (List.eq_nil_of_length_eq_zero (by omega))
  have b3 : bad3 (B v) = false := by
    unfold bad3
    rw [vaB_is v (by omega), h.v.1]
    show (!true || crlfL v) = false
    rw [h.v.2]; rfl
  have b4 : bad4 (ps.map pB) = false := by
    unfold bad4
    rw [List.any_eq_false]
    intro x hx
    obtain ⟨p, hp, rfl⟩ := List.mem_map.1 hx
    show ¬ ((p.2.map B).any badU) = true
    rw [List.any_map]
    have : p.2.any (badU ∘ B) = false := by
      rw [List.any_eq_false]
      intro u hu
      have h1 := (h.ps p hp).2.2 u hu
      have h2 := (hb.each p hp).2.2 u hu
      show ¬ badU (B u) = true
      unfold badU
      rw [vaB_is u (by omega), crB_is, h1.1, h1.2]; decide
    rw [this]; decide
  unfold checkB
  rw [b1, b2, b3, b4]; rfl
theorem print_right (g n : List UInt8) (ps : Ps) (v : List UInt8) (h : Right g n ps v) (hb : Bnd g n ps v) : line_Print.f (B g) (B n) (ps.map pB) (B v) = some (B (printL g n ps v), 0) := by
  have hc := check_right g n ps v h hb
  have hbg := hb.bg
  have hbn := hb.bn
  have hbv := hb.bv
  have hbp := hb.bps
  have hba := hb.all
  have hask : asksPrint (B g) (B n) (ps.map pB) (B v) = true := by
    unfold asksPrint asksLine
    rw [printT_B, nm_is (B g) (by rw [B_size]; omega), nm_is (B n) (by rw [B_size]; omega)]
    simp only [Bool.and_eq_true, decide_eq_true_eq, List.all_eq_true, Option.isSome_some, List.length_map, B_size]
    refine ⟨⟨⟨⟨⟨⟨by omega, trivial⟩, trivial⟩, by omega⟩, ?_⟩, .inr (by omega)⟩, ?_⟩
    · intro x hx
      obtain ⟨p, hp, rfl⟩ := List.mem_map.1 hx
      obtain ⟨e1, e2, e3⟩ := hb.each p hp
      refine ⟨⟨?_, ?_⟩, ?_⟩
      · show (nm (B p.1)).isSome = true
        rw [nm_is (B p.1) (by rw [B_size]; omega)]; rfl
      · show (p.2.map B).length ≤ 4000000000
        rw [List.length_map]; omega
      · intro u hu
        obtain ⟨w, hw, rfl⟩ := List.mem_map.1 hu
        have := e3 w hw
        rw [B_size]; omega
    · intro x hx
      obtain ⟨p, hp, rfl⟩ := List.mem_map.1 hx
      obtain ⟨e1, e2, e3⟩ := hb.each p hp
      intro u hu
      obtain ⟨w, hw, rfl⟩ := List.mem_map.1 hu
      have := e3 w hw
      rw [B_size]; omega
  unfold line_Print.f
  rw [if_pos hask, if_pos hc, printT_B]
  rfl
theorem refPrint_right (g n : List UInt8) (ps : Ps) (v : List UInt8) (h : Right g n ps v) (hb : Bnd g n ps v) : Ev (fun k => rPr.f k (B g) (B n) (ps.map pB) (B v)) (B (printL g n ps v)) := by
  have hbg := hb.bg
  have hbn := hb.bn
  have hbv := hb.bv
  have hbp := hb.bps
  have hba := hb.all
  have hT : (headT (B g) (B n)).length + (parsN (ps.map pB) (ps.map pB).length).length ≤ 4000000000 := by
    have e := printT_B g n ps v
    unfold printT at e
    have := congrArg List.length e
    rw [List.length_append, List.length_append, List.length_cons] at this
    omega
  have hr := refPrint_ev (B g) (B n) (ps.map pB) (B v) (by rw [List.length_map]; omega) (by rw [B_size]; omega) (by rw [B_size]; omega) (by rw [B_size]; omega) (fun x hx => by
    obtain ⟨p, hp, rfl⟩ := List.mem_map.1 hx
    obtain ⟨e1, e2, e3⟩ := hb.each p hp
    refine ⟨?_, ?_, ?_, ?_⟩
    · show (B p.1).size ≤ _
      rw [B_size]; omega
    · show (p.2.map B).length ≤ _
      rw [List.length_map]; omega
    · show p.2.map B ≠ []
      intro h0
      exact (h.ps p hp).2.1 (List.map_eq_nil_iff.1 h0)
    · intro u hu
      obtain ⟨w, hw, rfl⟩ := List.mem_map.1 hu
      have := e3 w hw
      rw [B_size]; omega) hT
  rw [printT_B] at hr
  exact hr
theorem sameP_same (x : S31) : sameP x x = true := by unfold sameP; simp
theorem same_same (g n v : ByteArray) (ps : List S31) (h : lensOk ps = true) : line_Same.f g n ps v g n ps v = some true := by
  unfold line_Same.f
  rw [if_pos ⟨h, h⟩]
  refine congrArg some ?_
  have e : sameLs ps ps = true := by
    unfold sameLs
    rw [decide_eq_true rfl, Bool.true_and, List.all_eq_true]
    intro i _
    exact sameP_same _
  unfold sameB
  rw [e]; simp
theorem reads_end (g n : List UInt8) (ps : Ps) (v : List UInt8) (h : Right g n ps v) (hb : Bnd g n ps v) :
    Ev (fun k => calepinlaw03_LineReads.j0 k 0 false (B g) (B n) (ps.map pB) (B v) (B g) (B n) (ps.map pB) (B v)) true := by
  have hpr := print_right g n ps v h hb
  have hba := hb.all
  have hbp := hb.bps
  have hpa := parse_ev (printL g n ps v) (by omega)
  rw [roundtrip g n ps v h] at hpa
  have hrp := refPrint_right g n ps v h hb
  have hlen : lensOk (ps.map pB) = true := by
    unfold lensOk
    rw [List.length_map, decide_eq_true (by omega), Bool.true_and, List.all_eq_true]
    intro x hx
    obtain ⟨p, hp, rfl⟩ := List.mem_map.1 hx
    have := (hb.each p hp).2.1
    show decide ((p.2.map B).length ≤ 4000000000) = true
    rw [List.length_map]
    exact decide_eq_true (by omega)
  have hsr := same_refl (B g) (B n) (B v) (ps.map pB) (by rw [List.length_map]; omega) (fun x hx => by
    obtain ⟨p, hp, rfl⟩ := List.mem_map.1 hx
    have := (hb.each p hp).2.1
    show (p.2.map B).length ≤ _
    rw [List.length_map]; omega)
  refine Ev.step (f := fun k => (lPa.f k (B (printL g n ps v))).bind fun bt351 => ((rPr.f k (B g) (B n) (ps.map pB) (B v)).bind fun t359 => (if (B (printL g n ps v)).toList = t359.toList then (if bt351.2.2.2.2 = 0 then ((rSa.f k bt351.1 bt351.2.1 bt351.2.2.1 bt351.2.2.2.1 (B g) (B n) (ps.map pB) (B v)).bind fun t360 => (if t360 = true then ((line_Same.f bt351.1 bt351.2.1 bt351.2.2.1 bt351.2.2.2.1 (B g) (B n) (ps.map pB) (B v)).bind fun t361 => (some t361)) else (some false))) else (some false)) else (some false)))) (fun k => ?_) ?_
  · simp only [calepinlaw03_LineReads.j0]
    rw [if_neg (by decide), if_pos trivial, hpr]
    simp only [Option.bind_some, if_true]
  · refine Ev.bind hpa ?_
    refine Ev.bind hrp ?_
    refine Ev.congr (f := fun k => (rSa.f k (B g) (B n) (ps.map pB) (B v) (B g) (B n) (ps.map pB) (B v)).bind fun t360 => (if t360 = true then ((line_Same.f (B g) (B n) (ps.map pB) (B v) (B g) (B n) (ps.map pB) (B v)).bind fun t361 => (some t361)) else (some false))) (fun k => ?_) ?_
    · rw [if_pos rfl]
      show (if (0 : Int) = 0 then _ else _) = _
      rw [if_pos rfl]
      rfl
    · refine Ev.bind hsr ?_
      refine Ev.congr (f := fun _ => some true) (fun k => ?_) (Ev.now _)
      rw [if_pos rfl, same_same _ _ _ _ hlen]
      rfl
theorem line_reads (a0 : ByteArray) (h0 : a0.size ≤ 1048576) : ∃ k, calepinlaw03_LineReads.f k a0 = some true := by
  refine Ev.rounds ?_
  have hl : a0.data.toList.length ≤ 1048576 := h0
  have hp := parse_ev a0.data.toList (by omega)
  have hq := refParse_ev a0.data.toList (by omega)
  have hn := Name_ev a0.data.toList (by omega)
  have hm := refName_ev a0.data.toList (by omega)
  rw [B_list] at hp hq hn hm
  have hright := parse_right a0.data.toList
  generalize hP : parseS a0.data.toList = P at *
  obtain ⟨g, n, ps, v, e⟩ := P
  have hcase : (e = 0 ∧ Right g n ps v ∧ Bnd g n ps v) ∨ (e ≠ 0 ∧ ps = []) := by
    by_cases he : e = 0
    · obtain ⟨r1, r2⟩ := hright he
      exact .inl ⟨he, r1, bnd g n ps v r1 (Nat.le_trans r2 (by omega))⟩
    · refine .inr ⟨he, ?_⟩
      have h2 : (parseS a0.data.toList).2.2.2.2 ≠ 0 → (parseS a0.data.toList).2.2.1 = [] := by
        unfold parseS
        intro hne
        split
        · rfl
        · rename_i hh
          rw [if_neg hh] at hne
          split
          · rename_i h4
            rw [if_pos h4] at hne
            unfold finS at hne ⊢
            split
            · rename_i h5; rw [if_pos h5] at hne; exact absurd rfl hne
            · rfl
          · rename_i h4
            rw [if_neg h4] at hne
            unfold finS at hne ⊢
            split
            · rename_i h5; rw [if_pos h5] at hne; exact absurd rfl hne
            · rfl
      rw [hP] at h2
      exact h2 he
  have hsame : Ev (fun k => rSa.f k (B g) (B n) (ps.map pB) (B v) (B g) (B n) (ps.map pB) (B v)) true := by
    rcases hcase with ⟨_, _, hb⟩ | ⟨_, rfl⟩
    · have hbp := hb.bps
      refine same_refl _ _ _ _ (by rw [List.length_map]; omega) (fun x hx => ?_)
      obtain ⟨p, hpp, rfl⟩ := List.mem_map.1 hx
      have := (hb.each p hpp).2.1
      show (p.2.map B).length ≤ _
      rw [List.length_map]; omega
    · exact same_refl _ _ _ _ (by decide) (fun x hx => by cases hx)
  have hend : Ev (fun k => calepinlaw03_LineReads.j0 k e false (B g) (B n) (ps.map pB) (B v) (B g) (B n) (ps.map pB) (B v)) true := by
    rcases hcase with ⟨rfl, hr, hb⟩ | ⟨he, rfl⟩
    · exact reads_end g n ps v hr hb
    · refine Ev.step (f := fun _ => some true) (fun k => ?_) (Ev.now _)
      simp only [calepinlaw03_LineReads.j0]
      rw [if_neg (by decide), if_neg he]
  unfold calepinlaw03_LineReads.f
  refine Ev.bind first_ev ?_
  refine Ev.congr (f := fun k => (lPa.f k a0).bind fun bt330 => ((rPa.f k a0).bind fun bt338 => (if bt330.2.2.2.2 = bt338.2.2.2.2 then ((rSa.f k bt330.1 bt330.2.1 bt330.2.2.1 bt330.2.2.2.1 bt338.1 bt338.2.1 bt338.2.2.1 bt338.2.2.2.1).bind fun t346 => (if t346 = true then ((line_Name.f k a0).bind fun t347 => ((rNa.f k a0).bind fun t348 => (calepinlaw03_LineReads.j0 k bt338.2.2.2.2 (t347 != t348) bt330.1 bt330.2.1 bt330.2.2.1 bt330.2.2.2.1 bt338.1 bt338.2.1 bt338.2.2.1 bt338.2.2.2.1))) else (calepinlaw03_LineReads.j0 k bt338.2.2.2.2 true bt330.1 bt330.2.1 bt330.2.2.1 bt330.2.2.2.1 bt338.1 bt338.2.1 bt338.2.2.1 bt338.2.2.2.1))) else (calepinlaw03_LineReads.j0 k bt338.2.2.2.2 true bt330.1 bt330.2.1 bt330.2.2.1 bt330.2.2.2.1 bt338.1 bt338.2.1 bt338.2.2.1 bt338.2.2.2.1)))) (fun k => if_pos rfl) ?_
  refine Ev.bind hp ?_
  refine Ev.bind hq ?_
  refine Ev.congr (f := fun k => (rSa.f k (B g) (B n) (ps.map pB) (B v) (B g) (B n) (ps.map pB) (B v)).bind fun t346 => (if t346 = true then ((line_Name.f k a0).bind fun t347 => ((rNa.f k a0).bind fun t348 => (calepinlaw03_LineReads.j0 k e (t347 != t348) (B g) (B n) (ps.map pB) (B v) (B g) (B n) (ps.map pB) (B v)))) else (calepinlaw03_LineReads.j0 k e true (B g) (B n) (ps.map pB) (B v) (B g) (B n) (ps.map pB) (B v)))) (fun k => if_pos rfl) ?_
  refine Ev.bind hsame ?_
  refine Ev.congr (f := fun k => (line_Name.f k a0).bind fun t347 => ((rNa.f k a0).bind fun t348 => (calepinlaw03_LineReads.j0 k e (t347 != t348) (B g) (B n) (ps.map pB) (B v) (B g) (B n) (ps.map pB) (B v)))) (fun k => if_pos rfl) ?_
  refine Ev.bind hn ?_
  refine Ev.bind hm ?_
  refine Ev.congr (fun k => ?_) hend
  simp
end Go.Proofs.YthabooeapfepnaaGreatDoor.PL
