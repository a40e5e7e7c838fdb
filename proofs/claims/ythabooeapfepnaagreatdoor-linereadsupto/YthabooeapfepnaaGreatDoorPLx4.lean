import Derived.Test.YthabooeapfepnaaGreatDoorPLx0
namespace Go.Proofs.YthabooeapfepnaaGreatDoor.PL
open Go.RowKit Go.Proofs.YthabooeapfepnaaGreatDoor.Given Go.Proofs.YthabooeapfepnaaGreatDoorW.PrintWords Go.Proofs.YthabooeapfepnaaGreatDoorW.PrintLast Go.Proofs.YthabooeapfepnaaGreatDoorW.PrintMore
attribute [local go_sem] max2_int min2_int max_two min_two max_three min_three max_four min_four   -- for this text's walks alone
set_option linter.unusedVariables false
set_option linter.unusedSimpArgs false
mutual
def rSa.j0 : Nat → Bool → ByteArray → ByteArray → List (S31) → ByteArray → ByteArray → ByteArray → List (S31) → ByteArray → Option (Bool)
 | 0, _, _, _, _, _, _, _, _, _ => none
 | k + 1, x34, x180000, x180001, x180002, x180003, x181000, x181001, x181002, x181003 => if x34 = true then (some false) else (rSa.l0 k (x180002.length : Int) 0 x180000 x180001 x180002 x180003 x181000 x181001 x181002 x181003)
def rSa.l0 : Nat → Int → Int → ByteArray → ByteArray → List (S31) → ByteArray → ByteArray → ByteArray → List (S31) → ByteArray → Option (Bool)
 | 0, _, _, _, _, _, _, _, _, _, _ => none
 | k + 1, x37, x38, x180000, x180001, x180002, x180003, x181000, x181001, x181002, x181003 => if x38 < x37 then (if 0 ≤ x38 then (if x38 < (x180002.length : Int) then (if x38 < (x181002.length : Int) then (if ((rd_T31 x180002 x38).f0).toList = ((rd_T31 x181002 x38).f0).toList then (rSa.j2 k x38 x37 x38 ((((rd_T31 x180002 x38).f1).length : Int) != (((rd_T31 x181002 x38).f1).length : Int)) x180000 x180001 x180002 x180003 x181000 x181001 x181002 x181003) else (rSa.j2 k x38 x37 x38 true x180000 x180001 x180002 x180003 x181000 x181001 x181002 x181003)) else (none)) else (none)) else (none)) else (some true)
def rSa.j2 : Nat → Int → Int → Int → Bool → ByteArray → ByteArray → List (S31) → ByteArray → ByteArray → ByteArray → List (S31) → ByteArray → Option (Bool)
 | 0, _, _, _, _, _, _, _, _, _, _, _, _ => none
 | k + 1, x5, x37, x38, x70, x180000, x180001, x180002, x180003, x181000, x181001, x181002, x181003 => if x70 = true then (some false) else (if 0 ≤ x5 then (if x5 < (x180002.length : Int) then (rSa.l1 k x5 x37 x38 (((rd_T31 x180002 x5).f1).length : Int) 0 x180000 x180001 x180002 x180003 x181000 x181001 x181002 x181003) else (none)) else (none))
def rSa.l1 : Nat → Int → Int → Int → Int → Int → ByteArray → ByteArray → List (S31) → ByteArray → ByteArray → ByteArray → List (S31) → ByteArray → Option (Bool)
 | 0, _, _, _, _, _, _, _, _, _, _, _, _, _ => none
 | k + 1, x5, x37, x38, x77, x78, x180000, x180001, x180002, x180003, x181000, x181001, x181002, x181003 => if x78 < x77 then (if 0 ≤ x5 then (if x5 < (x180002.length : Int) then (if 0 ≤ x78 then (if x78 < (((rd_T31 x180002 x5).f1).length : Int) then (if x5 < (x181002.length : Int) then (if x78 < (((rd_T31 x181002 x5).f1).length : Int) then (if (rdOf ByteArray.empty ((rd_T31 x180002 x5).f1) x78).toList = (rdOf ByteArray.empty ((rd_T31 x181002 x5).f1) x78).toList then (rSa.l1 k x5 x37 x38 x77 (wrap64 (x78 + 1)) x180000 x180001 x180002 x180003 x181000 x181001 x181002 x181003) else (some false)) else (none)) else (none)) else (none)) else (none)) else (none)) else (none)) else (rSa.l0 k x37 (wrap64 (x38 + 1)) x180000 x180001 x180002 x180003 x181000 x181001 x181002 x181003)
end
def rSa.f (k : Nat) (a0_0 : ByteArray) (a0_1 : ByteArray) (l0_2 : List (S31)) (a0_3 : ByteArray) (a1_0 : ByteArray) (a1_1 : ByteArray) (l1_2 : List (S31)) (a1_3 : ByteArray) : Option (Bool) := if a0_0.toList = a1_0.toList then (if a0_1.toList = a1_1.toList then (if a0_3.toList = a1_3.toList then (rSa.j0 k ((l0_2.length : Int) != (l1_2.length : Int)) a0_0 a0_1 l0_2 a0_3 a1_0 a1_1 l1_2 a1_3) else (rSa.j0 k true a0_0 a0_1 l0_2 a0_3 a1_0 a1_1 l1_2 a1_3)) else (rSa.j0 k true a0_0 a0_1 l0_2 a0_3 a1_0 a1_1 l1_2 a1_3)) else (rSa.j0 k true a0_0 a0_1 l0_2 a0_3 a1_0 a1_1 l1_2 a1_3)
set_option maxHeartbeats 8000000 in
set_option maxRecDepth 100000 in
theorem rSa.calls (k : Nat) (a0_0 : ByteArray) (a0_1 : ByteArray) (A0_2 : Option Addr) (c0_2 : Nat) (l0_2 : List (S31)) (a0_3 : ByteArray) (a1_0 : ByteArray) (a1_1 : ByteArray) (A1_2 : Option Addr) (c1_2 : Nat) (l1_2 : List (S31)) (a1_3 : ByteArray) (r : Bool) (w : World) (hr0_2 : Kd.C k31 w A0_2 l0_2.length l0_2) (hc0_2 : l0_2.length ≤ c0_2) (hr1_2 : Kd.C k31 w A1_2 l1_2.length l1_2) (hc1_2 : l1_2.length ≤ c1_2) (h : rSa.f k a0_0 a0_1 l0_2 a0_3 a1_0 a1_1 l1_2 a1_3 = some r) :
  Calls Tryz.prog 16 #[.agg #[.string a0_0, .string a0_1, .slice A0_2 l0_2.length c0_2, .string a0_3], .agg #[.string a1_0, .string a1_1, .slice A1_2 l1_2.length c1_2, .string a1_3]] w fun e w' => e = .returned (.bool r) ∧ Below w.heap.size w w' := by
 have hu25 := Tryz.underlying25
 have HR0_2 := A0q.mk hr0_2
 have HC0_2 := A0q.mk hc0_2
 clear hr0_2 hc0_2
 have HR1_2 := A0q.mk hr1_2
 have HC1_2 := A0q.mk hc1_2
 clear hr1_2 hc1_2
 have HB := A0q.mk (Below.refl w.heap.size w)
 have H : (if a0_0.toList = a1_0.toList then (if a0_1.toList = a1_1.toList then (if a0_3.toList = a1_3.toList then (rSa.j0 k ((l0_2.length : Int) != (l1_2.length : Int)) a0_0 a0_1 l0_2 a0_3 a1_0 a1_1 l1_2 a1_3) else (rSa.j0 k true a0_0 a0_1 l0_2 a0_3 a1_0 a1_1 l1_2 a1_3)) else (rSa.j0 k true a0_0 a0_1 l0_2 a0_3 a1_0 a1_1 l1_2 a1_3)) else (rSa.j0 k true a0_0 a0_1 l0_2 a0_3 a1_0 a1_1 l1_2 a1_3)) = some r := h
 clear h
 have HC3 := A0q.mk H
 clear H
 go_enter Tryz.func16, Tryz.ntmps16
 go_upto_region 1 with (first | ((with_reducible refine gate_dst (N := 2) rfl ?_); (try (refine gate_guard (by rfl) ?_; dsimp only)); refine box_event ?hg (N := 2) ?hd (cs := #[.string a0_0, .string a0_1, .slice A0_2 l0_2.length c0_2, .string a0_3]) (t := 25) ?hr ?_; (case hd => rfl); (case hg => rfl); (case hr => first | (go_simp; done) | (go_simp; rfl)); intro gb179 hg w4 hbox hb; have n0_ := A0q.mk (bT (by repeat (first | (with_reducible first | exact HB.out | apply bA | apply bdN | apply bd1) | exact HB.out)) hb); have n1_ := A0q.mk (hbox); have n2_ := A0q.mk ((by rw [hg]; exact (bZ (by repeat (first | (with_reducible first | exact HB.out | apply bA | apply bdN | apply bd1) | exact HB.out))) : w.heap.size ≤ gb179)); have n3_ := A0q.mk ((by rw [hg]; exact (bZ (by repeat (first | (with_reducible first | exact HB.out | apply bA | apply bdN | apply bd1) | exact HB.out))) : w.heap.size ≤ gb179)); clear HB; have HB := n0_; have BK179 := n1_; have GW179 := n2_; have GE179 := n3_; clear n0_ n1_ n2_ n3_; clear hb hbox hg) | ((with_reducible refine gate_dst (N := 3) rfl ?_); (try (refine gate_guard (by rfl) ?_; dsimp only)); refine box_event ?hg (N := 3) ?hd (cs := #[.string a1_0, .string a1_1, .slice A1_2 l1_2.length c1_2, .string a1_3]) (t := 25) ?hr ?_; (case hd => rfl); (case hg => rfl); (case hr => first | (go_simp; done) | (go_simp; rfl)); intro gb180 hg w5 hbox hb; have n0_ := A0q.mk (bkB (g := gb179) (o := .cells #[.string a0_0, .string a0_1, .slice A0_2 l0_2.length c0_2, .string a0_3] 25 (0, 0)) (by (with_reducible repeat (first | refine bkN ?_ _ | refine bkD ?_ | refine bkA ?_ _)); exact BK179.out) hb); have n1_ := A0q.mk (bT (by repeat (first | (with_reducible first | exact HB.out | apply bA | apply bdN | apply bd1 | refine bS ?_ GE179.out) | exact HB.out)) hb); have n2_ := A0q.mk (hbox); have n3_ := A0q.mk ((by rw [hg]; exact (bZ (by repeat (first | (with_reducible first | exact HB.out | apply bA | apply bdN | apply bd1 | refine bS ?_ GE179.out) | exact HB.out))) : w.heap.size ≤ gb180)); have n4_ := A0q.mk ((by rw [hg]; exact (bZ (by repeat (first | (with_reducible first | exact HB.out | apply bA | apply bdN | apply bd1 | refine bS ?_ GE179.out) | exact HB.out))) : w.heap.size ≤ gb180)); have n5_ := A0q.mk ((by rw [hg]; exact Nat.ne_of_lt (bkL (g := gb179) (o := .cells #[.string a0_0, .string a0_1, .slice A0_2 l0_2.length c0_2, .string a0_3] 25 (0, 0)) (by (with_reducible repeat (first | refine bkN ?_ _ | refine bkD ?_ | refine bkA ?_ _)); exact BK179.out)) : gb179 ≠ gb180)); have n6_ := A0q.mk ((by rw [hg]; exact Nat.ne_of_gt (bkL (g := gb179) (o := .cells #[.string a0_0, .string a0_1, .slice A0_2 l0_2.length c0_2, .string a0_3] 25 (0, 0)) (by (with_reducible repeat (first | refine bkN ?_ _ | refine bkD ?_ | refine bkA ?_ _)); exact BK179.out)) : gb180 ≠ gb179)); clear BK179; clear HB; have BK179 := n0_; have HB := n1_; have BK180 := n2_; have GW180 := n3_; have GE180 := n4_; have NB179_180 := n5_; have NB180_179 := n6_; clear n0_ n1_ n2_ n3_ n4_ n5_ n6_; clear hb hbox hg))
 repeat (go_quiet (first | ((with_reducible refine gate_dst (N := 2) rfl ?_); (try (refine gate_guard (by rfl) ?_; dsimp only)); refine box_event ?hg (N := 2) ?hd (cs := #[.string a0_0, .string a0_1, .slice A0_2 l0_2.length c0_2, .string a0_3]) (t := 25) ?hr ?_; (case hd => rfl); (case hg => rfl); (case hr => first | (go_simp; done) | (go_simp; rfl)); intro gb179 hg w4 hbox hb; have n0_ := A0q.mk (bT (by repeat (first | (with_reducible first | exact HB.out | apply bA | apply bdN | apply bd1) | exact HB.out)) hb); have n1_ := A0q.mk (hbox); have n2_ := A0q.mk ((by rw [hg]; exact (bZ (by repeat (first | (with_reducible first | exact HB.out | apply bA | apply bdN | apply bd1) | exact HB.out))) : w.heap.size ≤ gb179)); have n3_ := A0q.mk ((by rw [hg]; exact (bZ (by repeat (first | (with_reducible first | exact HB.out | apply bA | apply bdN | apply bd1) | exact HB.out))) : w.heap.size ≤ gb179)); clear HB; have HB := n0_; have BK179 := n1_; have GW179 := n2_; have GE179 := n3_; clear n0_ n1_ n2_ n3_; clear hb hbox hg) | ((with_reducible refine gate_dst (N := 3) rfl ?_); (try (refine gate_guard (by rfl) ?_; dsimp only)); refine box_event ?hg (N := 3) ?hd (cs := #[.string a1_0, .string a1_1, .slice A1_2 l1_2.length c1_2, .string a1_3]) (t := 25) ?hr ?_; (case hd => rfl); (case hg => rfl); (case hr => first | (go_simp; done) | (go_simp; rfl)); intro gb180 hg w5 hbox hb; have n0_ := A0q.mk (bkB (g := gb179) (o := .cells #[.string a0_0, .string a0_1, .slice A0_2 l0_2.length c0_2, .string a0_3] 25 (0, 0)) (by (with_reducible repeat (first | refine bkN ?_ _ | refine bkD ?_ | refine bkA ?_ _)); exact BK179.out) hb); have n1_ := A0q.mk (bT (by repeat (first | (with_reducible first | exact HB.out | apply bA | apply bdN | apply bd1 | refine bS ?_ GE179.out) | exact HB.out)) hb); have n2_ := A0q.mk (hbox); have n3_ := A0q.mk ((by rw [hg]; exact (bZ (by repeat (first | (with_reducible first | exact HB.out | apply bA | apply bdN | apply bd1 | refine bS ?_ GE179.out) | exact HB.out))) : w.heap.size ≤ gb180)); have n4_ := A0q.mk ((by rw [hg]; exact (bZ (by repeat (first | (with_reducible first | exact HB.out | apply bA | apply bdN | apply bd1 | refine bS ?_ GE179.out) | exact HB.out))) : w.heap.size ≤ gb180)); have n5_ := A0q.mk ((by rw [hg]; exact Nat.ne_of_lt (bkL (g := gb179) (o := .cells #[.string a0_0, .string a0_1, .slice A0_2 l0_2.length c0_2, .string a0_3] 25 (0, 0)) (by (with_reducible repeat (first | refine bkN ?_ _ | refine bkD ?_ | refine bkA ?_ _)); exact BK179.out)) : gb179 ≠ gb180)); have n6_ := A0q.mk ((by rw [hg]; exact Nat.ne_of_gt (bkL (g := gb179) (o := .cells #[.string a0_0, .string a0_1, .slice A0_2 l0_2.length c0_2, .string a0_3] 25 (0, 0)) (by (with_reducible repeat (first | refine bkN ?_ _ | refine bkD ?_ | refine bkA ?_ _)); exact BK179.out)) : gb180 ≠ gb179)); clear BK179; clear HB; have BK179 := n0_; have HB := n1_; have BK180 := n2_; have GW180 := n3_; have GE180 := n4_; have NB179_180 := n5_; have NB180_179 := n6_; clear n0_ n1_ n2_ n3_ n4_ n5_ n6_; clear hb hbox hg)); go_upto_region 1 with (first | ((with_reducible refine gate_dst (N := 2) rfl ?_); (try (refine gate_guard (by rfl) ?_; dsimp only)); refine box_event ?hg (N := 2) ?hd (cs := #[.string a0_0, .string a0_1, .slice A0_2 l0_2.length c0_2, .string a0_3]) (t := 25) ?hr ?_; (case hd => rfl); (case hg => rfl); (case hr => first | (go_simp; done) | (go_simp; rfl)); intro gb179 hg w4 hbox hb; have n0_ := A0q.mk (bT (by repeat (first | (with_reducible first | exact HB.out | apply bA | apply bdN | apply bd1) | exact HB.out)) hb); have n1_ := A0q.mk (hbox); have n2_ := A0q.mk ((by rw [hg]; exact (bZ (by repeat (first | (with_reducible first | exact HB.out | apply bA | apply bdN | apply bd1) | exact HB.out))) : w.heap.size ≤ gb179)); have n3_ := A0q.mk ((by rw [hg]; exact (bZ (by repeat (first | (with_reducible first | exact HB.out | apply bA | apply bdN | apply bd1) | exact HB.out))) : w.heap.size ≤ gb179)); clear HB; have HB := n0_; have BK179 := n1_; have GW179 := n2_; have GE179 := n3_; clear n0_ n1_ n2_ n3_; clear hb hbox hg) | ((with_reducible refine gate_dst (N := 3) rfl ?_); (try (refine gate_guard (by rfl) ?_; dsimp only)); refine box_event ?hg (N := 3) ?hd (cs := #[.string a1_0, .string a1_1, .slice A1_2 l1_2.length c1_2, .string a1_3]) (t := 25) ?hr ?_; (case hd => rfl); (case hg => rfl); (case hr => first | (go_simp; done) | (go_simp; rfl)); intro gb180 hg w5 hbox hb; have n0_ := A0q.mk (bkB (g := gb179) (o := .cells #[.string a0_0, .string a0_1, .slice A0_2 l0_2.length c0_2, .string a0_3] 25 (0, 0)) (by (with_reducible repeat (first | refine bkN ?_ _ | refine bkD ?_ | refine bkA ?_ _)); exact BK179.out) hb); have n1_ := A0q.mk (bT (by repeat (first | (with_reducible first | exact HB.out | apply bA | apply bdN | apply bd1 | refine bS ?_ GE179.out) | exact HB.out)) hb); have n2_ := A0q.mk (hbox); have n3_ := A0q.mk ((by rw [hg]; exact (bZ (by repeat (first | (with_reducible first | exact HB.out | apply bA | apply bdN | apply bd1 | refine bS ?_ GE179.out) | exact HB.out))) : w.heap.size ≤ gb180)); have n4_ := A0q.mk ((by rw [hg]; exact (bZ (by repeat (first | (with_reducible first | exact HB.out | apply bA | apply bdN | apply bd1 | refine bS ?_ GE179.out) | exact HB.out))) : w.heap.size ≤ gb180)); have n5_ := A0q.mk ((by rw [hg]; exact Nat.ne_of_lt (bkL (g := gb179) (o := .cells #[.string a0_0, .string a0_1, .slice A0_2 l0_2.length c0_2, .string a0_3] 25 (0, 0)) (by (with_reducible repeat (first | refine bkN ?_ _ | refine bkD ?_ | refine bkA ?_ _)); exact BK179.out)) : gb179 ≠ gb180)); have n6_ := A0q.mk ((by rw [hg]; exact Nat.ne_of_gt (bkL (g := gb179) (o := .cells #[.string a0_0, .string a0_1, .slice A0_2 l0_2.length c0_2, .string a0_3] 25 (0, 0)) (by (with_reducible repeat (first | refine bkN ?_ _ | refine bkD ?_ | refine bkA ?_ _)); exact BK179.out)) : gb180 ≠ gb179)); clear BK179; clear HB; have BK179 := n0_; have HB := n1_; have BK180 := n2_; have GW180 := n3_; have GE180 := n4_; have NB179_180 := n5_; have NB180_179 := n6_; clear n0_ n1_ n2_ n3_ n4_ n5_ n6_; clear hb hbox hg)))
 (try simp only [Act.put, List.setIfInBounds_toArray, List.set_cons_zero, List.set_cons_succ])
 go_cut [34] (fun v34 wc => ∃ (kq : Nat) (x34_2 : Bool), v34 = .bool x34_2 ∧ A0q (rSa.j0 kq x34_2 a0_0 a0_1 l0_2 a0_3 a1_0 a1_1 l1_2 a1_3 = some r) ∧ A0q (kq ≤ k) ∧ A0q (wc.heap[gb179]? = some (.cells #[.string a0_0, .string a0_1, (.slice A0_2 l0_2.length c0_2), .string a0_3] 25 (0, 0))) ∧ A0q (wc.heap[gb180]? = some (.cells #[.string a1_0, .string a1_1, (.slice A1_2 l1_2.length c1_2), .string a1_3] 25 (0, 0))) ∧ A0q (Below w.heap.size w wc))
 case first =>
  have H := HC3.out
  clear HC3
  by_cases c6 : a0_0.toList = a1_0.toList
  ·
   rw [if_pos c6] at H
   have c6b0 : (a0_0.toList == a1_0.toList) = true := beq_iff_eq.mpr c6
   have c6b1 : (a0_0.toList != a1_0.toList) = false := bne_eq_false_iff_eq.mpr c6
   clear c6
   (first | rw [c6b0] | (simp only [i64_w, i32_w]; rw [c6b0]) | rw [c6b1] | skip)
   by_cases c7 : a0_1.toList = a1_1.toList
   ·
    rw [if_pos c7] at H
    have c7b0 : (a0_1.toList == a1_1.toList) = true := beq_iff_eq.mpr c7
    have c7b1 : (a0_1.toList != a1_1.toList) = false := bne_eq_false_iff_eq.mpr c7
    clear c7
    by_cases c8 : a0_3.toList = a1_3.toList
    ·
     rw [if_pos c8] at H
     have c8b0 : (a0_3.toList == a1_3.toList) = true := beq_iff_eq.mpr c8
     have c8b1 : (a0_3.toList != a1_3.toList) = false := bne_eq_false_iff_eq.mpr c8
     clear c8
     have H' := A0q.mk H
     clear H
     have hnb9 := NB179_180.out
     have hnc9 := NB180_179.out
     have hcz10_0 : w5.cell? ⟨gb179, 0, none⟩ = some (.string a0_0) := (bkC BK179.out 0).trans rfl
     have hcz10_1 : w5.cell? ⟨gb179, 1, none⟩ = some (.string a0_1) := (bkC BK179.out 1).trans rfl
     have hcz10_2 : w5.cell? ⟨gb179, 2, none⟩ = some (.slice A0_2 l0_2.length c0_2) := (bkC BK179.out 2).trans rfl
     have hcz10_3 : w5.cell? ⟨gb179, 3, none⟩ = some (.string a0_3) := (bkC BK179.out 3).trans rfl
     have hfz10_0 := bkF BK179.out 0
     have hfz10_1 := bkF BK179.out 1
     have hfz10_2 := bkF BK179.out 2
     have hfz10_3 := bkF BK179.out 3
     have hcz11_0 : w5.cell? ⟨gb180, 0, none⟩ = some (.string a1_0) := (bkC BK180.out 0).trans rfl
     have hcz11_1 : w5.cell? ⟨gb180, 1, none⟩ = some (.string a1_1) := (bkC BK180.out 1).trans rfl
     have hcz11_2 : w5.cell? ⟨gb180, 2, none⟩ = some (.slice A1_2 l1_2.length c1_2) := (bkC BK180.out 2).trans rfl
     have hcz11_3 : w5.cell? ⟨gb180, 3, none⟩ = some (.string a1_3) := (bkC BK180.out 3).trans rfl
     have hfz11_0 := bkF BK180.out 0
     have hfz11_1 := bkF BK180.out 1
     have hfz11_2 := bkF BK180.out 2
     have hfz11_3 := bkF BK180.out 3
     go_wp2
     repeat (go_quiet (fail); try go_wp2)
     go_meet
     case rel => exact ⟨_, (((l0_2.length : Int) != (l1_2.length : Int))), (by first | rfl | (simp; done) | (simp [*]; done)), H', ⟨by first | omega | exact Nat.le_refl _⟩, ⟨by (with_reducible repeat (first | refine bkN ?_ _ | refine bkD ?_ | refine bkA ?_ _)); exact BK179.out⟩, ⟨by (with_reducible repeat (first | refine bkN ?_ _ | refine bkD ?_ | refine bkA ?_ _)); exact BK180.out⟩, ⟨by repeat (first | (with_reducible first | exact HB.out | apply bA | apply bdN | apply bd1 | refine bS ?_ GE179.out | refine bS ?_ GE180.out) | exact HB.out)⟩⟩
    ·
     rw [if_neg c8] at H
     have c8b0 : (a0_3.toList == a1_3.toList) = false := beq_eq_false_iff_ne.mpr c8
     have c8b1 : (a0_3.toList != a1_3.toList) = true := bne_iff_ne.mpr c8
     have H' := A0q.mk H
     clear H
     have hnb12 := NB179_180.out
     have hnc12 := NB180_179.out
     have hcz13_0 : w5.cell? ⟨gb179, 0, none⟩ = some (.string a0_0) := (bkC BK179.out 0).trans rfl
     have hcz13_1 : w5.cell? ⟨gb179, 1, none⟩ = some (.string a0_1) := (bkC BK179.out 1).trans rfl
     have hcz13_2 : w5.cell? ⟨gb179, 2, none⟩ = some (.slice A0_2 l0_2.length c0_2) := (bkC BK179.out 2).trans rfl
     have hcz13_3 : w5.cell? ⟨gb179, 3, none⟩ = some (.string a0_3) := (bkC BK179.out 3).trans rfl
     have hfz13_0 := bkF BK179.out 0
     have hfz13_1 := bkF BK179.out 1
     have hfz13_2 := bkF BK179.out 2
     have hfz13_3 := bkF BK179.out 3
     have hcz14_0 : w5.cell? ⟨gb180, 0, none⟩ = some (.string a1_0) := (bkC BK180.out 0).trans rfl
     have hcz14_1 : w5.cell? ⟨gb180, 1, none⟩ = some (.string a1_1) := (bkC BK180.out 1).trans rfl
     have hcz14_2 : w5.cell? ⟨gb180, 2, none⟩ = some (.slice A1_2 l1_2.length c1_2) := (bkC BK180.out 2).trans rfl
     have hcz14_3 : w5.cell? ⟨gb180, 3, none⟩ = some (.string a1_3) := (bkC BK180.out 3).trans rfl
     have hfz14_0 := bkF BK180.out 0
     have hfz14_1 := bkF BK180.out 1
     have hfz14_2 := bkF BK180.out 2
     have hfz14_3 := bkF BK180.out 3
     go_wp2
     repeat (go_quiet (fail); try go_wp2)
     go_meet
     case rel => exact ⟨_, (true), (by first | rfl | (simp; done) | (simp [*]; done)), H', ⟨by first | omega | exact Nat.le_refl _⟩, ⟨by (with_reducible repeat (first | refine bkN ?_ _ | refine bkD ?_ | refine bkA ?_ _)); exact BK179.out⟩, ⟨by (with_reducible repeat (first | refine bkN ?_ _ | refine bkD ?_ | refine bkA ?_ _)); exact BK180.out⟩, ⟨by repeat (first | (with_reducible first | exact HB.out | apply bA | apply bdN | apply bd1 | refine bS ?_ GE179.out | refine bS ?_ GE180.out) | exact HB.out)⟩⟩
   ·
    rw [if_neg c7] at H
    have c7b0 : (a0_1.toList == a1_1.toList) = false := beq_eq_false_iff_ne.mpr c7
    have c7b1 : (a0_1.toList != a1_1.toList) = true := bne_iff_ne.mpr c7
    have H' := A0q.mk H
    clear H
    have hnb15 := NB179_180.out
    have hnc15 := NB180_179.out
    have hcz16_0 : w5.cell? ⟨gb179, 0, none⟩ = some (.string a0_0) := (bkC BK179.out 0).trans rfl
    have hcz16_1 : w5.cell? ⟨gb179, 1, none⟩ = some (.string a0_1) := (bkC BK179.out 1).trans rfl
    have hcz16_2 : w5.cell? ⟨gb179, 2, none⟩ = some (.slice A0_2 l0_2.length c0_2) := (bkC BK179.out 2).trans rfl
    have hcz16_3 : w5.cell? ⟨gb179, 3, none⟩ = some (.string a0_3) := (bkC BK179.out 3).trans rfl
    have hfz16_0 := bkF BK179.out 0
    have hfz16_1 := bkF BK179.out 1
    have hfz16_2 := bkF BK179.out 2
    have hfz16_3 := bkF BK179.out 3
    have hcz17_0 : w5.cell? ⟨gb180, 0, none⟩ = some (.string a1_0) := (bkC BK180.out 0).trans rfl
    have hcz17_1 : w5.cell? ⟨gb180, 1, none⟩ = some (.string a1_1) := (bkC BK180.out 1).trans rfl
    have hcz17_2 : w5.cell? ⟨gb180, 2, none⟩ = some (.slice A1_2 l1_2.length c1_2) := (bkC BK180.out 2).trans rfl
    have hcz17_3 : w5.cell? ⟨gb180, 3, none⟩ = some (.string a1_3) := (bkC BK180.out 3).trans rfl
    have hfz17_0 := bkF BK180.out 0
    have hfz17_1 := bkF BK180.out 1
    have hfz17_2 := bkF BK180.out 2
    have hfz17_3 := bkF BK180.out 3
    go_wp2
    repeat (go_quiet (fail); try go_wp2)
    go_meet
    case rel => exact ⟨_, (true), (by first | rfl | (simp; done) | (simp [*]; done)), H', ⟨by first | omega | exact Nat.le_refl _⟩, ⟨by (with_reducible repeat (first | refine bkN ?_ _ | refine bkD ?_ | refine bkA ?_ _)); exact BK179.out⟩, ⟨by (with_reducible repeat (first | refine bkN ?_ _ | refine bkD ?_ | refine bkA ?_ _)); exact BK180.out⟩, ⟨by repeat (first | (with_reducible first | exact HB.out | apply bA | apply bdN | apply bd1 | refine bS ?_ GE179.out | refine bS ?_ GE180.out) | exact HB.out)⟩⟩
  ·
   rw [if_neg c6] at H
   have c6b0 : (a0_0.toList == a1_0.toList) = false := beq_eq_false_iff_ne.mpr c6
   have c6b1 : (a0_0.toList != a1_0.toList) = true := bne_iff_ne.mpr c6
   (first | rw [c6b0] | (simp only [i64_w, i32_w]; rw [c6b0]) | rw [c6b1] | skip)
   have H' := A0q.mk H
   clear H
   have hnb18 := NB179_180.out
   have hnc18 := NB180_179.out
   have hcz19_0 : w5.cell? ⟨gb179, 0, none⟩ = some (.string a0_0) := (bkC BK179.out 0).trans rfl
   have hcz19_1 : w5.cell? ⟨gb179, 1, none⟩ = some (.string a0_1) := (bkC BK179.out 1).trans rfl
   have hcz19_2 : w5.cell? ⟨gb179, 2, none⟩ = some (.slice A0_2 l0_2.length c0_2) := (bkC BK179.out 2).trans rfl
   have hcz19_3 : w5.cell? ⟨gb179, 3, none⟩ = some (.string a0_3) := (bkC BK179.out 3).trans rfl
   have hfz19_0 := bkF BK179.out 0
   have hfz19_1 := bkF BK179.out 1
   have hfz19_2 := bkF BK179.out 2
   have hfz19_3 := bkF BK179.out 3
   have hcz20_0 : w5.cell? ⟨gb180, 0, none⟩ = some (.string a1_0) := (bkC BK180.out 0).trans rfl
   have hcz20_1 : w5.cell? ⟨gb180, 1, none⟩ = some (.string a1_1) := (bkC BK180.out 1).trans rfl
   have hcz20_2 : w5.cell? ⟨gb180, 2, none⟩ = some (.slice A1_2 l1_2.length c1_2) := (bkC BK180.out 2).trans rfl
   have hcz20_3 : w5.cell? ⟨gb180, 3, none⟩ = some (.string a1_3) := (bkC BK180.out 3).trans rfl
   have hfz20_0 := bkF BK180.out 0
   have hfz20_1 := bkF BK180.out 1
   have hfz20_2 := bkF BK180.out 2
   have hfz20_3 := bkF BK180.out 3
   go_wp2
   repeat (go_quiet (fail); try go_wp2)
   go_meet
   case rel => exact ⟨_, (true), (by first | rfl | (simp; done) | (simp [*]; done)), H', ⟨by first | omega | exact Nat.le_refl _⟩, ⟨by (with_reducible repeat (first | refine bkN ?_ _ | refine bkD ?_ | refine bkA ?_ _)); exact BK179.out⟩, ⟨by (with_reducible repeat (first | refine bkN ?_ _ | refine bkD ?_ | refine bkA ?_ _)); exact BK180.out⟩, ⟨by repeat (first | (with_reducible first | exact HB.out | apply bA | apply bdN | apply bd1 | refine bS ?_ GE179.out | refine bS ?_ GE180.out) | exact HB.out)⟩⟩
 case rest =>
  clear HC3
  try clear c1
  try clear p2
  try clear c6
  try clear c6b0
  try clear c6b1
  try clear c7
  try clear c7b0
  try clear c7b1
  try clear c8
  try clear c8b0
  try clear c8b1
  try clear c9
  try clear c12
  try clear c15
  try clear c16
  try clear c18
  try clear hcz10_0
  try clear hcz10_1
  try clear hcz10_2
  try clear hcz10_3
  try clear hcz11_0
  try clear hcz11_1
  try clear hcz11_2
  try clear hcz11_3
  try clear hcz13_0
  try clear hcz13_1
  try clear hcz13_2
  try clear hcz13_3
  try clear hcz14_0
  try clear hcz14_1
  try clear hcz14_2
  try clear hcz14_3
  try clear hcz16_0
  try clear hcz16_1
  try clear hcz16_2
  try clear hcz16_3
  try clear hcz17_0
  try clear hcz17_1
  try clear hcz17_2
  try clear hcz17_3
  try clear hcz19_0
  try clear hcz19_1
  try clear hcz19_2
  try clear hcz19_3
  try clear hcz20_0
  try clear hcz20_1
  try clear hcz20_2
  try clear hcz20_3
  try clear hfz10_0
  try clear hfz10_1
  try clear hfz10_2
  try clear hfz10_3
  try clear hfz11_0
  try clear hfz11_1
  try clear hfz11_2
  try clear hfz11_3
  try clear hfz13_0
  try clear hfz13_1
  try clear hfz13_2
  try clear hfz13_3
  try clear hfz14_0
  try clear hfz14_1
  try clear hfz14_2
  try clear hfz14_3
  try clear hfz16_0
  try clear hfz16_1
  try clear hfz16_2
  try clear hfz16_3
  try clear hfz17_0
  try clear hfz17_1
  try clear hfz17_2
  try clear hfz17_3
  try clear hfz19_0
  try clear hfz19_1
  try clear hfz19_2
  try clear hfz19_3
  try clear hfz20_0
  try clear hfz20_1
  try clear hfz20_2
  try clear hfz20_3
  obtain ⟨kq, x34_2, rfl, HA, HJ2, BK179, BK180, HB⟩ := hcut
  cases kq with
  | zero => exact absurd HA.out (by simp [rSa.j0])
  | succ kj2 =>
   have H := HA.out
   clear HA
   simp only [rSa.j0] at H
   by_cases c21 : x34_2 = true
   ·
    subst c21
    have H1 : (some false) = some r := by rw [if_pos rfl] at H; exact H
    clear H
    have H := H1
    clear H1
    obtain rfl := Option.some.inj H
    go_wp2
    repeat (go_quiet (fail); try go_wp2)
    go_ret
    exact ⟨by first | rfl | (simp [eWn, eWs] <;> rfl) | (simp [*, eWn, eWs] <;> rfl), by repeat (first | (with_reducible first | exact HB.out | apply bA | apply bdN | apply bd1 | refine bS ?_ GE179.out | refine bS ?_ GE180.out) | exact HB.out)⟩
   ·
    replace c21 := Bool.eq_false_iff.mpr c21
    subst c21
    have H1 : (rSa.l0 kj2 (l0_2.length : Int) 0 a0_0 a0_1 l0_2 a0_3 a1_0 a1_1 l1_2 a1_3) = some r := by rw [if_neg (show ¬ (false = true) by decide)] at H; exact H
    clear H
    have H := H1
    clear H1
    have H' := A0q.mk H
    clear H
    have hnb22 := NB179_180.out
    have hnc22 := NB180_179.out
    have hcz23_0 : wc.cell? ⟨gb179, 0, none⟩ = some (.string a0_0) := (bkC BK179.out 0).trans rfl
    have hcz23_1 : wc.cell? ⟨gb179, 1, none⟩ = some (.string a0_1) := (bkC BK179.out 1).trans rfl
    have hcz23_2 : wc.cell? ⟨gb179, 2, none⟩ = some (.slice A0_2 l0_2.length c0_2) := (bkC BK179.out 2).trans rfl
    have hcz23_3 : wc.cell? ⟨gb179, 3, none⟩ = some (.string a0_3) := (bkC BK179.out 3).trans rfl
    have hfz23_0 := bkF BK179.out 0
    have hfz23_1 := bkF BK179.out 1
    have hfz23_2 := bkF BK179.out 2
    have hfz23_3 := bkF BK179.out 3
    go_wp2
    repeat (go_quiet (fail); try go_wp2)
    go_loopg [38] kj2 (fun kq v38 w' => ∃ (x38_2 : Int), v38 = .int .i64 x38_2 ∧ A0q (rSa.l0 kq (l0_2.length : Int) x38_2 a0_0 a0_1 l0_2 a0_3 a1_0 a1_1 l1_2 a1_3 = some r) ∧ A0q (kq ≤ kj2) ∧ A0q (w'.heap[gb179]? = some (.cells #[.string a0_0, .string a0_1, (.slice A0_2 l0_2.length c0_2), .string a0_3] 25 (0, 0))) ∧ A0q (w'.heap[gb180]? = some (.cells #[.string a1_0, .string a1_1, (.slice A1_2 l1_2.length c1_2), .string a1_3] 25 (0, 0))) ∧ A0q (Below w.heap.size w w'))
    case atStart => exact ⟨(0), (by first | rfl | (simp; done) | (simp [*]; done)), H', ⟨Nat.le_refl _⟩, ⟨by (with_reducible repeat (first | refine bkN ?_ _ | refine bkD ?_ | refine bkA ?_ _)); exact BK179.out⟩, ⟨by (with_reducible repeat (first | refine bkN ?_ _ | refine bkD ?_ | refine bkA ?_ _)); exact BK180.out⟩, ⟨by repeat (first | (with_reducible first | exact HB.out | apply bA | apply bdN | apply bd1 | refine bS ?_ GE179.out | refine bS ?_ GE180.out) | exact HB.out)⟩⟩
    case round =>
     clear H'
     try clear c1
     try clear c2
     try clear p2
     try clear c6
     try clear c6b0
     try clear c6b1
     try clear c7
     try clear c7b0
     try clear c7b1
     try clear c8
     try clear c8b0
     try clear c8b1
     try clear c9
     try clear c12
     try clear c15
     try clear c16
     try clear c18
     try clear c21
     try clear c22
     try clear hcz10_0
     try clear hcz10_1
     try clear hcz10_2
     try clear hcz10_3
     try clear hcz11_0
     try clear hcz11_1
     try clear hcz11_2
     try clear hcz11_3
     try clear hcz13_0
     try clear hcz13_1
     try clear hcz13_2
     try clear hcz13_3
     try clear hcz14_0
     try clear hcz14_1
     try clear hcz14_2
     try clear hcz14_3
     try clear hcz16_0
     try clear hcz16_1
     try clear hcz16_2
     try clear hcz16_3
     try clear hcz17_0
     try clear hcz17_1
     try clear hcz17_2
     try clear hcz17_3
     try clear hcz19_0
     try clear hcz19_1
     try clear hcz19_2
     try clear hcz19_3
     try clear hcz20_0
     try clear hcz20_1
     try clear hcz20_2
     try clear hcz20_3
     try clear hcz23_0
     try clear hcz23_1
     try clear hcz23_2
     try clear hcz23_3
     try clear hfz10_0
     try clear hfz10_1
     try clear hfz10_2
     try clear hfz10_3
     try clear hfz11_0
     try clear hfz11_1
     try clear hfz11_2
     try clear hfz11_3
     try clear hfz13_0
     try clear hfz13_1
     try clear hfz13_2
     try clear hfz13_3
     try clear hfz14_0
     try clear hfz14_1
     try clear hfz14_2
     try clear hfz14_3
     try clear hfz16_0
     try clear hfz16_1
     try clear hfz16_2
     try clear hfz16_3
     try clear hfz17_0
     try clear hfz17_1
     try clear hfz17_2
     try clear hfz17_3
     try clear hfz19_0
     try clear hfz19_1
     try clear hfz19_2
     try clear hfz19_3
     try clear hfz20_0
     try clear hfz20_1
     try clear hfz20_2
     try clear hfz20_3
     try clear hfz23_0
     try clear hfz23_1
     try clear hfz23_2
     try clear hfz23_3
     try clear p2
     obtain ⟨x38_2, rfl, HA, HK2, BK179, BK180, HB⟩ := hrel
     cases gk with
     | zero => exact absurd HA.out (by simp [rSa.l0])
     | succ k2 =>
      have H := HA.out
      clear HA
      simp only [rSa.l0] at H
      by_cases c24 : x38_2 < (l0_2.length : Int)
      ·
       rw [if_pos c24] at H
       have c24b0 : decide (x38_2 < (l0_2.length : Int)) = true := decide_eq_true c24
       clear c24
       have HC25 := A0q.mk H
       clear H
       go_upto_region 6 with (fail)
       repeat (go_quiet (fail); go_upto_region 6 with (fail))
       go_cut [70] (fun v70 wc => ∃ (kq : Nat) (x70_24 : Bool), v70 = .bool x70_24 ∧ A0q (rSa.j2 kq x38_2 (l0_2.length : Int) x38_2 x70_24 a0_0 a0_1 l0_2 a0_3 a1_0 a1_1 l1_2 a1_3 = some r) ∧ A0q (kq ≤ k2) ∧ A0q (wc.heap[gb179]? = some (.cells #[.string a0_0, .string a0_1, (.slice A0_2 l0_2.length c0_2), .string a0_3] 25 (0, 0))) ∧ A0q (wc.heap[gb180]? = some (.cells #[.string a1_0, .string a1_1, (.slice A1_2 l1_2.length c1_2), .string a1_3] 25 (0, 0))) ∧ A0q (Below w.heap.size w wc))
       case first =>
        have H := HC25.out
        clear HC25
        by_cases c26 : 0 ≤ x38_2
        ·
         rw [if_pos c26] at H
         have c26b0 : decide (0 ≤ x38_2) = true := decide_eq_true c26
         clear c26
         (first | rw [c26b0] | (simp only [i64_w, i32_w]; rw [c26b0]) | rw [c26b1] | skip)
         by_cases c27 : x38_2 < (l0_2.length : Int)
         ·
          rw [if_pos c27] at H
          have c27b0 : decide (x38_2 < (l0_2.length : Int)) = true := decide_eq_true c27
          clear c27
          by_cases c28 : x38_2 < (l1_2.length : Int)
          ·
           rw [if_pos c28] at H
           have c28b0 : decide (x38_2 < (l1_2.length : Int)) = true := decide_eq_true c28
           clear c28
           by_cases c29 : ((rd_T31 l0_2 x38_2).f0).toList = ((rd_T31 l1_2 x38_2).f0).toList
           ·
            rw [if_pos c29] at H
            have c29b0 : (((rd_T31 l0_2 x38_2).f0).toList == ((rd_T31 l1_2 x38_2).f0).toList) = true := beq_iff_eq.mpr c29
            have c29b1 : (((rd_T31 l0_2 x38_2).f0).toList != ((rd_T31 l1_2 x38_2).f0).toList) = false := bne_eq_false_iff_eq.mpr c29
            clear c29
            have H' := A0q.mk H
            clear H
            have hnb30 := NB179_180.out
            have hnc30 := NB180_179.out
            have hcz31_0 : wr.cell? ⟨gb179, 0, none⟩ = some (.string a0_0) := (bkC BK179.out 0).trans rfl
            have hcz31_1 : wr.cell? ⟨gb179, 1, none⟩ = some (.string a0_1) := (bkC BK179.out 1).trans rfl
            have hcz31_2 : wr.cell? ⟨gb179, 2, none⟩ = some (.slice A0_2 l0_2.length c0_2) := (bkC BK179.out 2).trans rfl
            have hcz31_3 : wr.cell? ⟨gb179, 3, none⟩ = some (.string a0_3) := (bkC BK179.out 3).trans rfl
            have hfz31_0 := bkF BK179.out 0
            have hfz31_1 := bkF BK179.out 1
            have hfz31_2 := bkF BK179.out 2
            have hfz31_3 := bkF BK179.out 3
            have p181 : 0 ≤ (x38_2 : Int) := of_decide_eq_true (by first | (with_reducible assumption) | assumption)
            have q181 : x38_2 < (l0_2.length : Int) := of_decide_eq_true (by first | (with_reducible assumption) | assumption)
            obtain ⟨ad181, A181_1, c181_1, e181, hx181_0, hx181_1, hl181_1, hi181_1⟩ := at_T31 HR0_2.out x38_2 p181 q181
            cases e181
            replace hx181_0 := (HB.out.cell (World.block_lt_of_cell? w _ hx181_0)).trans hx181_0
            replace hx181_1 := (HB.out.cell (World.block_lt_of_cell? w _ hx181_1)).trans hx181_1
            have HR181_1 := A0q.mk hi181_1
            have HC181_1 := A0q.mk hl181_1
            clear hi181_1 hl181_1
            replace p181 := eq_true p181
            replace q181 := eq_true q181
            have hcz32_0 : wr.cell? ⟨gb180, 0, none⟩ = some (.string a1_0) := (bkC BK180.out 0).trans rfl
            have hcz32_1 : wr.cell? ⟨gb180, 1, none⟩ = some (.string a1_1) := (bkC BK180.out 1).trans rfl
            have hcz32_2 : wr.cell? ⟨gb180, 2, none⟩ = some (.slice A1_2 l1_2.length c1_2) := (bkC BK180.out 2).trans rfl
            have hcz32_3 : wr.cell? ⟨gb180, 3, none⟩ = some (.string a1_3) := (bkC BK180.out 3).trans rfl
            have hfz32_0 := bkF BK180.out 0
            have hfz32_1 := bkF BK180.out 1
            have hfz32_2 := bkF BK180.out 2
            have hfz32_3 := bkF BK180.out 3
            have p182 : 0 ≤ (x38_2 : Int) := of_decide_eq_true (by first | (with_reducible assumption) | assumption)
            have q182 : x38_2 < (l1_2.length : Int) := of_decide_eq_true (by first | (with_reducible assumption) | assumption)
            obtain ⟨ad182, A182_1, c182_1, e182, hx182_0, hx182_1, hl182_1, hi182_1⟩ := at_T31 HR1_2.out x38_2 p182 q182
            cases e182
            replace hx182_0 := (HB.out.cell (World.block_lt_of_cell? w _ hx182_0)).trans hx182_0
            replace hx182_1 := (HB.out.cell (World.block_lt_of_cell? w _ hx182_1)).trans hx182_1
            have HR182_1 := A0q.mk hi182_1
            have HC182_1 := A0q.mk hl182_1
            clear hi182_1 hl182_1
            replace p182 := eq_true p182
            replace q182 := eq_true q182
            have p183 : 0 ≤ (x38_2 : Int) := of_decide_eq_true (by first | (with_reducible assumption) | assumption)
            have q183 : x38_2 < (l0_2.length : Int) := of_decide_eq_true (by first | (with_reducible assumption) | assumption)
            obtain ⟨ad183, A183_1, c183_1, e183, hx183_0, hx183_1, hl183_1, hi183_1⟩ := at_T31 HR0_2.out x38_2 p183 q183
            obtain rfl : ad181 = ad183 := (by injection e183)
            replace hx183_0 := (HB.out.cell (World.block_lt_of_cell? w _ hx183_0)).trans hx183_0
            replace hx183_1 := (HB.out.cell (World.block_lt_of_cell? w _ hx183_1)).trans hx183_1
            have HR183_1 := A0q.mk hi183_1
            have HC183_1 := A0q.mk hl183_1
            clear hi183_1 hl183_1
            replace p183 := eq_true p183
            replace q183 := eq_true q183
            have ea_ := Option.some.inj (hx181_1.symm.trans hx183_1)
            injection ea_ with ea_ en_ ec_
            subst ea_
            subst ec_
            clear en_
            have p184 : 0 ≤ (x38_2 : Int) := of_decide_eq_true (by first | (with_reducible assumption) | assumption)
            have q184 : x38_2 < (l1_2.length : Int) := of_decide_eq_true (by first | (with_reducible assumption) | assumption)
            obtain ⟨ad184, A184_1, c184_1, e184, hx184_0, hx184_1, hl184_1, hi184_1⟩ := at_T31 HR1_2.out x38_2 p184 q184
            obtain rfl : ad182 = ad184 := (by injection e184)
            replace hx184_0 := (HB.out.cell (World.block_lt_of_cell? w _ hx184_0)).trans hx184_0
            replace hx184_1 := (HB.out.cell (World.block_lt_of_cell? w _ hx184_1)).trans hx184_1
            have HR184_1 := A0q.mk hi184_1
            have HC184_1 := A0q.mk hl184_1
            clear hi184_1 hl184_1
            replace p184 := eq_true p184
            replace q184 := eq_true q184
            have ea_ := Option.some.inj (hx182_1.symm.trans hx184_1)
            injection ea_ with ea_ en_ ec_
            subst ea_
            subst ec_
            clear en_
            go_wp2
            repeat (go_quiet (fail); try go_wp2)
            go_meet
            case rel => exact ⟨_, (((((rd_T31 l0_2 x38_2).f1).length : Int) != (((rd_T31 l1_2 x38_2).f1).length : Int))), (by first | rfl | (simp; done) | (simp [*]; done)), H', ⟨by have := HJ2.out; have := HK2.out; first | omega | exact Nat.le_refl _⟩, ⟨by (with_reducible repeat (first | refine bkN ?_ _ | refine bkD ?_ | refine bkA ?_ _)); exact BK179.out⟩, ⟨by (with_reducible repeat (first | refine bkN ?_ _ | refine bkD ?_ | refine bkA ?_ _)); exact BK180.out⟩, ⟨by repeat (first | (with_reducible first | exact HB.out | apply bA | apply bdN | apply bd1 | refine bS ?_ GE179.out | refine bS ?_ GE180.out) | exact HB.out)⟩⟩
           ·
            rw [if_neg c29] at H
            have c29b0 : (((rd_T31 l0_2 x38_2).f0).toList == ((rd_T31 l1_2 x38_2).f0).toList) = false := beq_eq_false_iff_ne.mpr c29
            have c29b1 : (((rd_T31 l0_2 x38_2).f0).toList != ((rd_T31 l1_2 x38_2).f0).toList) = true := bne_iff_ne.mpr c29
            have H' := A0q.mk H
            clear H
            have hnb33 := NB179_180.out
            have hnc33 := NB180_179.out
            have hcz34_0 : wr.cell? ⟨gb179, 0, none⟩ = some (.string a0_0) := (bkC BK179.out 0).trans rfl
            have hcz34_1 : wr.cell? ⟨gb179, 1, none⟩ = some (.string a0_1) := (bkC BK179.out 1).trans rfl
            have hcz34_2 : wr.cell? ⟨gb179, 2, none⟩ = some (.slice A0_2 l0_2.length c0_2) := (bkC BK179.out 2).trans rfl
            have hcz34_3 : wr.cell? ⟨gb179, 3, none⟩ = some (.string a0_3) := (bkC BK179.out 3).trans rfl
            have hfz34_0 := bkF BK179.out 0
            have hfz34_1 := bkF BK179.out 1
            have hfz34_2 := bkF BK179.out 2
            have hfz34_3 := bkF BK179.out 3
            have p181 : 0 ≤ (x38_2 : Int) := of_decide_eq_true (by first | (with_reducible assumption) | assumption)
            have q181 : x38_2 < (l0_2.length : Int) := of_decide_eq_true (by first | (with_reducible assumption) | assumption)
            obtain ⟨ad181, A181_1, c181_1, e181, hx181_0, hx181_1, hl181_1, hi181_1⟩ := at_T31 HR0_2.out x38_2 p181 q181
            cases e181
            replace hx181_0 := (HB.out.cell (World.block_lt_of_cell? w _ hx181_0)).trans hx181_0
            replace hx181_1 := (HB.out.cell (World.block_lt_of_cell? w _ hx181_1)).trans hx181_1
            have HR181_1 := A0q.mk hi181_1
            have HC181_1 := A0q.mk hl181_1
            clear hi181_1 hl181_1
            replace p181 := eq_true p181
            replace q181 := eq_true q181
            have hcz35_0 : wr.cell? ⟨gb180, 0, none⟩ = some (.string a1_0) := (bkC BK180.out 0).trans rfl
            have hcz35_1 : wr.cell? ⟨gb180, 1, none⟩ = some (.string a1_1) := (bkC BK180.out 1).trans rfl
            have hcz35_2 : wr.cell? ⟨gb180, 2, none⟩ = some (.slice A1_2 l1_2.length c1_2) := (bkC BK180.out 2).trans rfl
            have hcz35_3 : wr.cell? ⟨gb180, 3, none⟩ = some (.string a1_3) := (bkC BK180.out 3).trans rfl
            have hfz35_0 := bkF BK180.out 0
            have hfz35_1 := bkF BK180.out 1
            have hfz35_2 := bkF BK180.out 2
            have hfz35_3 := bkF BK180.out 3
            have p182 : 0 ≤ (x38_2 : Int) := of_decide_eq_true (by first | (with_reducible assumption) | assumption)
            have q182 : x38_2 < (l1_2.length : Int) := of_decide_eq_true (by first | (with_reducible assumption) | assumption)
            obtain ⟨ad182, A182_1, c182_1, e182, hx182_0, hx182_1, hl182_1, hi182_1⟩ := at_T31 HR1_2.out x38_2 p182 q182
            cases e182
            replace hx182_0 := (HB.out.cell (World.block_lt_of_cell? w _ hx182_0)).trans hx182_0
            replace hx182_1 := (HB.out.cell (World.block_lt_of_cell? w _ hx182_1)).trans hx182_1
            have HR182_1 := A0q.mk hi182_1
            have HC182_1 := A0q.mk hl182_1
            clear hi182_1 hl182_1
            replace p182 := eq_true p182
            replace q182 := eq_true q182
            go_wp2
            repeat (go_quiet (fail); try go_wp2)
            go_meet
            case rel => exact ⟨_, (true), (by first | rfl | (simp; done) | (simp [*]; done)), H', ⟨by have := HJ2.out; have := HK2.out; first | omega | exact Nat.le_refl _⟩, ⟨by (with_reducible repeat (first | refine bkN ?_ _ | refine bkD ?_ | refine bkA ?_ _)); exact BK179.out⟩, ⟨by (with_reducible repeat (first | refine bkN ?_ _ | refine bkD ?_ | refine bkA ?_ _)); exact BK180.out⟩, ⟨by repeat (first | (with_reducible first | exact HB.out | apply bA | apply bdN | apply bd1 | refine bS ?_ GE179.out | refine bS ?_ GE180.out) | exact HB.out)⟩⟩
          ·
           rw [if_neg c28] at H
           exact absurd H (by simp)
         ·
          rw [if_neg c27] at H
          exact absurd H (by simp)
        ·
         rw [if_neg c26] at H
         exact absurd H (by simp)
       case rest =>
        clear HC25
        try clear c1
        try clear p1
        try clear q1
        try clear hx1
        try clear c2
        try clear p2
        try clear c3
        try clear c6
        try clear c6b0
        try clear c6b1
        try clear c7
        try clear c7b0
        try clear c7b1
        try clear c8
        try clear c8b0
        try clear c8b1
        try clear c9
        try clear c12
        try clear c15
        try clear c16
        try clear c18
        try clear p18
        try clear q18
        try clear hx18
        try clear c21
        try clear c22
        try clear c24
        try clear c24b0
        try clear c26
        try clear c26b0
        try clear c26b1
        try clear c27
        try clear c27b0
        try clear c28
        try clear c28b0
        try clear c29
        try clear c29b0
        try clear c29b1
        try clear c30
        try clear c33
        try clear hcz10_0
        try clear hcz10_1
        try clear hcz10_2
        try clear hcz10_3
        try clear hcz11_0
        try clear hcz11_1
        try clear hcz11_2
        try clear hcz11_3
        try clear hcz13_0
        try clear hcz13_1
        try clear hcz13_2
        try clear hcz13_3
        try clear hcz14_0
        try clear hcz14_1
        try clear hcz14_2
        try clear hcz14_3
        try clear hcz16_0
        try clear hcz16_1
        try clear hcz16_2
        try clear hcz16_3
        try clear hcz17_0
        try clear hcz17_1
        try clear hcz17_2
        try clear hcz17_3
        try clear hcz19_0
        try clear hcz19_1
        try clear hcz19_2
        try clear hcz19_3
        try clear hcz20_0
        try clear hcz20_1
        try clear hcz20_2
        try clear hcz20_3
        try clear hcz23_0
        try clear hcz23_1
        try clear hcz23_2
        try clear hcz23_3
        try clear hcz31_0
        try clear hcz31_1
        try clear hcz31_2
        try clear hcz31_3
        try clear hcz32_0
        try clear hcz32_1
        try clear hcz32_2
        try clear hcz32_3
        try clear hcz34_0
        try clear hcz34_1
        try clear hcz34_2
        try clear hcz34_3
        try clear hcz35_0
        try clear hcz35_1
        try clear hcz35_2
        try clear hcz35_3
        try clear hfz10_0
        try clear hfz10_1
        try clear hfz10_2
        try clear hfz10_3
        try clear hfz11_0
        try clear hfz11_1
        try clear hfz11_2
        try clear hfz11_3
        try clear hfz13_0
        try clear hfz13_1
        try clear hfz13_2
        try clear hfz13_3
        try clear hfz14_0
        try clear hfz14_1
        try clear hfz14_2
        try clear hfz14_3
        try clear hfz16_0
        try clear hfz16_1
        try clear hfz16_2
        try clear hfz16_3
        try clear hfz17_0
        try clear hfz17_1
        try clear hfz17_2
        try clear hfz17_3
        try clear hfz19_0
        try clear hfz19_1
        try clear hfz19_2
        try clear hfz19_3
        try clear hfz20_0
        try clear hfz20_1
        try clear hfz20_2
        try clear hfz20_3
        try clear hfz23_0
        try clear hfz23_1
        try clear hfz23_2
        try clear hfz23_3
        try clear hfz31_0
        try clear hfz31_1
        try clear hfz31_2
        try clear hfz31_3
        try clear hfz32_0
        try clear hfz32_1
        try clear hfz32_2
        try clear hfz32_3
        try clear hfz34_0
        try clear hfz34_1
        try clear hfz34_2
        try clear hfz34_3
        try clear hfz35_0
        try clear hfz35_1
        try clear hfz35_2
        try clear hfz35_3
        try clear hx181_0
        try clear hx181_1
        try clear hx182_0
        try clear hx182_1
        try clear hx183_0
        try clear hx183_1
        try clear hx184_0
        try clear hx184_1
        try clear p181
        try clear p182
        try clear p183
        try clear p184
        try clear p2
        try clear q181
        try clear q182
        try clear q183
        try clear q184
        obtain ⟨kq, x70_24, rfl, HA, HJ24, BK179, BK180, HB⟩ := hcut
        cases kq with
        | zero => exact absurd HA.out (by simp [rSa.j2])
        | succ kj24 =>
         have H := HA.out
         clear HA
         simp only [rSa.j2] at H
         by_cases c36 : x70_24 = true
         ·
          subst c36
          have H1 : (some false) = some r := by rw [if_pos rfl] at H; exact H
          clear H
          have H := H1
          clear H1
          obtain rfl := Option.some.inj H
          go_wp2
          repeat (go_quiet (fail); try go_wp2)
          go_ret
          exact ⟨by first | rfl | (simp [eWn, eWs] <;> rfl) | (simp [*, eWn, eWs] <;> rfl), by repeat (first | (with_reducible first | exact HB.out | apply bA | apply bdN | apply bd1 | refine bS ?_ GE179.out | refine bS ?_ GE180.out) | exact HB.out)⟩
         ·
          replace c36 := Bool.eq_false_iff.mpr c36
          subst c36
          have H1 : (if 0 ≤ x38_2 then (if x38_2 < (l0_2.length : Int) then (rSa.l1 kj24 x38_2 (l0_2.length : Int) x38_2 (((rd_T31 l0_2 x38_2).f1).length : Int) 0 a0_0 a0_1 l0_2 a0_3 a1_0 a1_1 l1_2 a1_3) else (none)) else (none)) = some r := by rw [if_neg (show ¬ (false = true) by decide)] at H; exact H
          clear H
          have H := H1
          clear H1
          by_cases c37 : 0 ≤ x38_2
          ·
           rw [if_pos c37] at H
           have c37b0 : decide (0 ≤ x38_2) = true := decide_eq_true c37
           clear c37
           by_cases c38 : x38_2 < (l0_2.length : Int)
           ·
            rw [if_pos c38] at H
            have c38b0 : decide (x38_2 < (l0_2.length : Int)) = true := decide_eq_true c38
            clear c38
            have H' := A0q.mk H
            clear H
            have hnb39 := NB179_180.out
            have hnc39 := NB180_179.out
            have hcz40_0 : wc.cell? ⟨gb179, 0, none⟩ = some (.string a0_0) := (bkC BK179.out 0).trans rfl
            have hcz40_1 : wc.cell? ⟨gb179, 1, none⟩ = some (.string a0_1) := (bkC BK179.out 1).trans rfl
            have hcz40_2 : wc.cell? ⟨gb179, 2, none⟩ = some (.slice A0_2 l0_2.length c0_2) := (bkC BK179.out 2).trans rfl
            have hcz40_3 : wc.cell? ⟨gb179, 3, none⟩ = some (.string a0_3) := (bkC BK179.out 3).trans rfl
            have hfz40_0 := bkF BK179.out 0
            have hfz40_1 := bkF BK179.out 1
            have hfz40_2 := bkF BK179.out 2
            have hfz40_3 := bkF BK179.out 3
            have p185 : 0 ≤ (x38_2 : Int) := of_decide_eq_true (by first | (with_reducible assumption) | assumption)
            have q185 : x38_2 < (l0_2.length : Int) := of_decide_eq_true (by first | (with_reducible assumption) | assumption)
            obtain ⟨ad185, A185_1, c185_1, e185, hx185_0, hx185_1, hl185_1, hi185_1⟩ := at_T31 HR0_2.out x38_2 p185 q185
            cases e185
            replace hx185_0 := (HB.out.cell (World.block_lt_of_cell? w _ hx185_0)).trans hx185_0
            replace hx185_1 := (HB.out.cell (World.block_lt_of_cell? w _ hx185_1)).trans hx185_1
            have HR185_1 := A0q.mk hi185_1
            have HC185_1 := A0q.mk hl185_1
            clear hi185_1 hl185_1
            replace p185 := eq_true p185
            replace q185 := eq_true q185
            go_wp2
            repeat (go_quiet (fail); try go_wp2)
            go_loopg [78] kj24 (fun kq v78 w' => ∃ (x78_4 : Int), v78 = .int .i64 x78_4 ∧ A0q (rSa.l1 kq x38_2 (l0_2.length : Int) x38_2 (((rd_T31 l0_2 x38_2).f1).length : Int) x78_4 a0_0 a0_1 l0_2 a0_3 a1_0 a1_1 l1_2 a1_3 = some r) ∧ A0q (kq ≤ kj24) ∧ A0q (w'.heap[gb179]? = some (.cells #[.string a0_0, .string a0_1, (.slice (some ad185) l0_2.length c0_2), .string a0_3] 25 (0, 0))) ∧ A0q (w'.heap[gb180]? = some (.cells #[.string a1_0, .string a1_1, (.slice A1_2 l1_2.length c1_2), .string a1_3] 25 (0, 0))) ∧ A0q (Below w.heap.size w w'))
            case atStart => exact ⟨(0), (by first | rfl | (simp; done) | (simp [*]; done)), H', ⟨Nat.le_refl _⟩, ⟨by (with_reducible repeat (first | refine bkN ?_ _ | refine bkD ?_ | refine bkA ?_ _)); exact BK179.out⟩, ⟨by (with_reducible repeat (first | refine bkN ?_ _ | refine bkD ?_ | refine bkA ?_ _)); exact BK180.out⟩, ⟨by repeat (first | (with_reducible first | exact HB.out | apply bA | apply bdN | apply bd1 | refine bS ?_ GE179.out | refine bS ?_ GE180.out) | exact HB.out)⟩⟩
            case round =>
             clear H'
             try clear c1
             try clear p1
             try clear q1
             try clear hx1
             try clear c2
             try clear p2
             try clear c3
             try clear c6
             try clear c6b0
             try clear c6b1
             try clear c7
             try clear c7b0
             try clear c7b1
             try clear c8
             try clear c8b0
             try clear c8b1
             try clear c9
             try clear c12
             try clear c15
             try clear c16
             try clear c18
             try clear p18
             try clear q18
             try clear hx18
             try clear c21
             try clear c22
             try clear c24
             try clear c24b0
             try clear c26
             try clear c26b0
             try clear c26b1
             try clear c27
             try clear c27b0
             try clear c28
             try clear c28b0
             try clear c29
             try clear c29b0
             try clear c29b1
             try clear c30
             try clear c33
             try clear c36
             try clear c37
             try clear c37b0
             try clear c38
             try clear c38b0
             try clear c39
             try clear hcz10_0
             try clear hcz10_1
             try clear hcz10_2
             try clear hcz10_3
             try clear hcz11_0
             try clear hcz11_1
             try clear hcz11_2
             try clear hcz11_3
             try clear hcz13_0
             try clear hcz13_1
             try clear hcz13_2
             try clear hcz13_3
             try clear hcz14_0
             try clear hcz14_1
             try clear hcz14_2
             try clear hcz14_3
             try clear hcz16_0
             try clear hcz16_1
             try clear hcz16_2
             try clear hcz16_3
             try clear hcz17_0
             try clear hcz17_1
             try clear hcz17_2
             try clear hcz17_3
             try clear hcz19_0
             try clear hcz19_1
             try clear hcz19_2
             try clear hcz19_3
             try clear hcz20_0
             try clear hcz20_1
             try clear hcz20_2
             try clear hcz20_3
             try clear hcz23_0
             try clear hcz23_1
             try clear hcz23_2
             try clear hcz23_3
             try clear hcz31_0
             try clear hcz31_1
             try clear hcz31_2
             try clear hcz31_3
             try clear hcz32_0
             try clear hcz32_1
             try clear hcz32_2
             try clear hcz32_3
             try clear hcz34_0
             try clear hcz34_1
             try clear hcz34_2
             try clear hcz34_3
             try clear hcz35_0
             try clear hcz35_1
             try clear hcz35_2
             try clear hcz35_3
             try clear hcz40_0
             try clear hcz40_1
             try clear hcz40_2
             try clear hcz40_3
             try clear hfz10_0
             try clear hfz10_1
             try clear hfz10_2
             try clear hfz10_3
             try clear hfz11_0
             try clear hfz11_1
             try clear hfz11_2
             try clear hfz11_3
             try clear hfz13_0
             try clear hfz13_1
             try clear hfz13_2
             try clear hfz13_3
             try clear hfz14_0
             try clear hfz14_1
             try clear hfz14_2
             try clear hfz14_3
             try clear hfz16_0
             try clear hfz16_1
             try clear hfz16_2
             try clear hfz16_3
             try clear hfz17_0
             try clear hfz17_1
             try clear hfz17_2
             try clear hfz17_3
             try clear hfz19_0
             try clear hfz19_1
             try clear hfz19_2
             try clear hfz19_3
             try clear hfz20_0
             try clear hfz20_1
             try clear hfz20_2
             try clear hfz20_3
             try clear hfz23_0
             try clear hfz23_1
             try clear hfz23_2
             try clear hfz23_3
             try clear hfz31_0
             try clear hfz31_1
             try clear hfz31_2
             try clear hfz31_3
             try clear hfz32_0
             try clear hfz32_1
             try clear hfz32_2
             try clear hfz32_3
             try clear hfz34_0
             try clear hfz34_1
             try clear hfz34_2
             try clear hfz34_3
             try clear hfz35_0
             try clear hfz35_1
             try clear hfz35_2
             try clear hfz35_3
             try clear hfz40_0
             try clear hfz40_1
             try clear hfz40_2
             try clear hfz40_3
             try clear hx181_0
             try clear hx181_1
             try clear hx182_0
             try clear hx182_1
             try clear hx183_0
             try clear hx183_1
             try clear hx184_0
             try clear hx184_1
             try clear hx185_0
             try clear hx185_1
             try clear p1
             try clear p18
             try clear p181
             try clear p182
             try clear p183
             try clear p184
             try clear p185
             try clear p2
             try clear q1
             try clear q18
             try clear q181
             try clear q182
             try clear q183
             try clear q184
             try clear q185
             obtain ⟨x78_4, rfl, HA, HK4, BK179, BK180, HB⟩ := hrel
             cases gk with
             | zero => exact absurd HA.out (by simp [rSa.l1])
             | succ k4 =>
              have H := HA.out
              clear HA
              simp only [rSa.l1] at H
              by_cases c41 : x78_4 < (((rd_T31 l0_2 x38_2).f1).length : Int)
              ·
               rw [if_pos c41] at H
               have c41b0 : decide (x78_4 < (((rd_T31 l0_2 x38_2).f1).length : Int)) = true := decide_eq_true c41
               clear c41
               by_cases c42 : 0 ≤ x38_2
               ·
                rw [if_pos c42] at H
                have c42b0 : decide (0 ≤ x38_2) = true := decide_eq_true c42
                clear c42
                by_cases c43 : x38_2 < (l0_2.length : Int)
                ·
                 rw [if_pos c43] at H
                 have c43b0 : decide (x38_2 < (l0_2.length : Int)) = true := decide_eq_true c43
                 clear c43
                 by_cases c44 : 0 ≤ x78_4
                 ·
                  rw [if_pos c44] at H
                  have c44b0 : decide (0 ≤ x78_4) = true := decide_eq_true c44
                  clear c44
                  by_cases c45 : x78_4 < (((rd_T31 l0_2 x38_2).f1).length : Int)
                  ·
                   rw [if_pos c45] at H
                   have c45b0 : decide (x78_4 < (((rd_T31 l0_2 x38_2).f1).length : Int)) = true := decide_eq_true c45
                   clear c45
                   by_cases c46 : x38_2 < (l1_2.length : Int)
                   ·
                    rw [if_pos c46] at H
                    have c46b0 : decide (x38_2 < (l1_2.length : Int)) = true := decide_eq_true c46
                    clear c46
                    by_cases c47 : x78_4 < (((rd_T31 l1_2 x38_2).f1).length : Int)
                    ·
                     rw [if_pos c47] at H
                     have c47b0 : decide (x78_4 < (((rd_T31 l1_2 x38_2).f1).length : Int)) = true := decide_eq_true c47
                     clear c47
                     by_cases c48 : (rdOf ByteArray.empty ((rd_T31 l0_2 x38_2).f1) x78_4).toList = (rdOf ByteArray.empty ((rd_T31 l1_2 x38_2).f1) x78_4).toList
                     ·
                      rw [if_pos c48] at H
                      have c48b0 : ((rdOf ByteArray.empty ((rd_T31 l0_2 x38_2).f1) x78_4).toList == (rdOf ByteArray.empty ((rd_T31 l1_2 x38_2).f1) x78_4).toList) = true := beq_iff_eq.mpr c48
                      have c48b1 : ((rdOf ByteArray.empty ((rd_T31 l0_2 x38_2).f1) x78_4).toList != (rdOf ByteArray.empty ((rd_T31 l1_2 x38_2).f1) x78_4).toList) = false := bne_eq_false_iff_eq.mpr c48
                      clear c48
                      have H' := A0q.mk H
                      clear H
                      have hnb49 := NB179_180.out
                      have hnc49 := NB180_179.out
                      have hcz50_0 : wr.cell? ⟨gb179, 0, none⟩ = some (.string a0_0) := (bkC BK179.out 0).trans rfl
                      have hcz50_1 : wr.cell? ⟨gb179, 1, none⟩ = some (.string a0_1) := (bkC BK179.out 1).trans rfl
                      have hcz50_2 : wr.cell? ⟨gb179, 2, none⟩ = some (.slice (some ad185) l0_2.length c0_2) := (bkC BK179.out 2).trans rfl
                      have hcz50_3 : wr.cell? ⟨gb179, 3, none⟩ = some (.string a0_3) := (bkC BK179.out 3).trans rfl
                      have hfz50_0 := bkF BK179.out 0
                      have hfz50_1 := bkF BK179.out 1
                      have hfz50_2 := bkF BK179.out 2
                      have hfz50_3 := bkF BK179.out 3
                      have p186 : 0 ≤ (x38_2 : Int) := of_decide_eq_true (by first | (with_reducible assumption) | assumption)
                      have q186 : x38_2 < (l0_2.length : Int) := of_decide_eq_true (by first | (with_reducible assumption) | assumption)
                      obtain ⟨ad186, A186_1, c186_1, e186, hx186_0, hx186_1, hl186_1, hi186_1⟩ := at_T31 HR0_2.out x38_2 p186 q186
                      obtain rfl : ad185 = ad186 := (by injection e186)
                      replace hx186_0 := (HB.out.cell (World.block_lt_of_cell? w _ hx186_0)).trans hx186_0
                      replace hx186_1 := (HB.out.cell (World.block_lt_of_cell? w _ hx186_1)).trans hx186_1
                      have HR186_1 := A0q.mk hi186_1
                      have HC186_1 := A0q.mk hl186_1
                      clear hi186_1 hl186_1
                      replace p186 := eq_true p186
                      replace q186 := eq_true q186
                      have p187 : 0 ≤ (x78_4 : Int) := of_decide_eq_true (by first | (with_reducible assumption) | assumption)
                      have q187 : x78_4 < (((rd_T31 l0_2 x38_2).f1).length : Int) := of_decide_eq_true (by first | (with_reducible assumption) | assumption)
                      obtain ⟨ad187, e187, hx187_0⟩ := Kd.at_string HR186_1.out x78_4 p187 q187
                      cases e187
                      replace hx187_0 := (HB.out.cell (World.block_lt_of_cell? w _ hx187_0)).trans hx187_0
                      replace p187 := eq_true p187
                      replace q187 := eq_true q187
                      have hcz51_0 : wr.cell? ⟨gb180, 0, none⟩ = some (.string a1_0) := (bkC BK180.out 0).trans rfl
                      have hcz51_1 : wr.cell? ⟨gb180, 1, none⟩ = some (.string a1_1) := (bkC BK180.out 1).trans rfl
                      have hcz51_2 : wr.cell? ⟨gb180, 2, none⟩ = some (.slice A1_2 l1_2.length c1_2) := (bkC BK180.out 2).trans rfl
                      have hcz51_3 : wr.cell? ⟨gb180, 3, none⟩ = some (.string a1_3) := (bkC BK180.out 3).trans rfl
                      have hfz51_0 := bkF BK180.out 0
                      have hfz51_1 := bkF BK180.out 1
                      have hfz51_2 := bkF BK180.out 2
                      have hfz51_3 := bkF BK180.out 3
                      have p188 : 0 ≤ (x38_2 : Int) := of_decide_eq_true (by first | (with_reducible assumption) | assumption)
                      have q188 : x38_2 < (l1_2.length : Int) := of_decide_eq_true (by first | (with_reducible assumption) | assumption)
                      obtain ⟨ad188, A188_1, c188_1, e188, hx188_0, hx188_1, hl188_1, hi188_1⟩ := at_T31 HR1_2.out x38_2 p188 q188
                      cases e188
                      replace hx188_0 := (HB.out.cell (World.block_lt_of_cell? w _ hx188_0)).trans hx188_0
                      replace hx188_1 := (HB.out.cell (World.block_lt_of_cell? w _ hx188_1)).trans hx188_1
                      have HR188_1 := A0q.mk hi188_1
                      have HC188_1 := A0q.mk hl188_1
                      clear hi188_1 hl188_1
                      replace p188 := eq_true p188
                      replace q188 := eq_true q188
                      have p189 : 0 ≤ (x78_4 : Int) := of_decide_eq_true (by first | (with_reducible assumption) | assumption)
                      have q189 : x78_4 < (((rd_T31 l1_2 x38_2).f1).length : Int) := of_decide_eq_true (by first | (with_reducible assumption) | assumption)
                      obtain ⟨ad189, e189, hx189_0⟩ := Kd.at_string HR188_1.out x78_4 p189 q189
                      cases e189
                      replace hx189_0 := (HB.out.cell (World.block_lt_of_cell? w _ hx189_0)).trans hx189_0
                      replace p189 := eq_true p189
                      replace q189 := eq_true q189
                      go_wp2
                      repeat (go_quiet (fail); try go_wp2)
                      go_roundg k4
                      case measure => have := HJ2.out; have := HK2.out; have := HJ24.out; have := HK4.out; omega
                      case rel => exact ⟨(wrap64 (x78_4 + 1)), (by first | rfl | (simp; done) | (simp [*]; done)), H', ⟨by have := HJ2.out; have := HK2.out; have := HJ24.out; have := HK4.out; omega⟩, ⟨by (with_reducible repeat (first | refine bkN ?_ _ | refine bkD ?_ | refine bkA ?_ _)); exact BK179.out⟩, ⟨by (with_reducible repeat (first | refine bkN ?_ _ | refine bkD ?_ | refine bkA ?_ _)); exact BK180.out⟩, ⟨by repeat (first | (with_reducible first | exact HB.out | apply bA | apply bdN | apply bd1 | refine bS ?_ GE179.out | refine bS ?_ GE180.out) | exact HB.out)⟩⟩
                     ·
                      rw [if_neg c48] at H
                      have c48b0 : ((rdOf ByteArray.empty ((rd_T31 l0_2 x38_2).f1) x78_4).toList == (rdOf ByteArray.empty ((rd_T31 l1_2 x38_2).f1) x78_4).toList) = false := beq_eq_false_iff_ne.mpr c48
                      have c48b1 : ((rdOf ByteArray.empty ((rd_T31 l0_2 x38_2).f1) x78_4).toList != (rdOf ByteArray.empty ((rd_T31 l1_2 x38_2).f1) x78_4).toList) = true := bne_iff_ne.mpr c48
                      obtain rfl := Option.some.inj H
                      have hnb52 := NB179_180.out
                      have hnc52 := NB180_179.out
                      have hcz53_0 : wr.cell? ⟨gb179, 0, none⟩ = some (.string a0_0) := (bkC BK179.out 0).trans rfl
                      have hcz53_1 : wr.cell? ⟨gb179, 1, none⟩ = some (.string a0_1) := (bkC BK179.out 1).trans rfl
                      have hcz53_2 : wr.cell? ⟨gb179, 2, none⟩ = some (.slice (some ad185) l0_2.length c0_2) := (bkC BK179.out 2).trans rfl
                      have hcz53_3 : wr.cell? ⟨gb179, 3, none⟩ = some (.string a0_3) := (bkC BK179.out 3).trans rfl
                      have hfz53_0 := bkF BK179.out 0
                      have hfz53_1 := bkF BK179.out 1
                      have hfz53_2 := bkF BK179.out 2
                      have hfz53_3 := bkF BK179.out 3
                      have p186 : 0 ≤ (x38_2 : Int) := of_decide_eq_true (by first | (with_reducible assumption) | assumption)
                      have q186 : x38_2 < (l0_2.length : Int) := of_decide_eq_true (by first | (with_reducible assumption) | assumption)
                      obtain ⟨ad186, A186_1, c186_1, e186, hx186_0, hx186_1, hl186_1, hi186_1⟩ := at_T31 HR0_2.out x38_2 p186 q186
                      obtain rfl : ad185 = ad186 := (by injection e186)
                      replace hx186_0 := (HB.out.cell (World.block_lt_of_cell? w _ hx186_0)).trans hx186_0
                      replace hx186_1 := (HB.out.cell (World.block_lt_of_cell? w _ hx186_1)).trans hx186_1
                      have HR186_1 := A0q.mk hi186_1
                      have HC186_1 := A0q.mk hl186_1
                      clear hi186_1 hl186_1
                      replace p186 := eq_true p186
                      replace q186 := eq_true q186
                      have p187 : 0 ≤ (x78_4 : Int) := of_decide_eq_true (by first | (with_reducible assumption) | assumption)
                      have q187 : x78_4 < (((rd_T31 l0_2 x38_2).f1).length : Int) := of_decide_eq_true (by first | (with_reducible assumption) | assumption)
                      obtain ⟨ad187, e187, hx187_0⟩ := Kd.at_string HR186_1.out x78_4 p187 q187
                      cases e187
                      replace hx187_0 := (HB.out.cell (World.block_lt_of_cell? w _ hx187_0)).trans hx187_0
                      replace p187 := eq_true p187
                      replace q187 := eq_true q187
                      have hcz54_0 : wr.cell? ⟨gb180, 0, none⟩ = some (.string a1_0) := (bkC BK180.out 0).trans rfl
                      have hcz54_1 : wr.cell? ⟨gb180, 1, none⟩ = some (.string a1_1) := (bkC BK180.out 1).trans rfl
                      have hcz54_2 : wr.cell? ⟨gb180, 2, none⟩ = some (.slice A1_2 l1_2.length c1_2) := (bkC BK180.out 2).trans rfl
                      have hcz54_3 : wr.cell? ⟨gb180, 3, none⟩ = some (.string a1_3) := (bkC BK180.out 3).trans rfl
                      have hfz54_0 := bkF BK180.out 0
                      have hfz54_1 := bkF BK180.out 1
                      have hfz54_2 := bkF BK180.out 2
                      have hfz54_3 := bkF BK180.out 3
                      have p188 : 0 ≤ (x38_2 : Int) := of_decide_eq_true (by first | (with_reducible assumption) | assumption)
                      have q188 : x38_2 < (l1_2.length : Int) := of_decide_eq_true (by first | (with_reducible assumption) | assumption)
                      obtain ⟨ad188, A188_1, c188_1, e188, hx188_0, hx188_1, hl188_1, hi188_1⟩ := at_T31 HR1_2.out x38_2 p188 q188
                      cases e188
                      replace hx188_0 := (HB.out.cell (World.block_lt_of_cell? w _ hx188_0)).trans hx188_0
                      replace hx188_1 := (HB.out.cell (World.block_lt_of_cell? w _ hx188_1)).trans hx188_1
                      have HR188_1 := A0q.mk hi188_1
                      have HC188_1 := A0q.mk hl188_1
                      clear hi188_1 hl188_1
                      replace p188 := eq_true p188
                      replace q188 := eq_true q188
                      have p189 : 0 ≤ (x78_4 : Int) := of_decide_eq_true (by first | (with_reducible assumption) | assumption)
                      have q189 : x78_4 < (((rd_T31 l1_2 x38_2).f1).length : Int) := of_decide_eq_true (by first | (with_reducible assumption) | assumption)
                      obtain ⟨ad189, e189, hx189_0⟩ := Kd.at_string HR188_1.out x78_4 p189 q189
                      cases e189
                      replace hx189_0 := (HB.out.cell (World.block_lt_of_cell? w _ hx189_0)).trans hx189_0
                      replace p189 := eq_true p189
                      replace q189 := eq_true q189
                      go_wp2
                      repeat (go_quiet (fail); try go_wp2)
                      go_ret
                      exact ⟨by first | rfl | (simp [eWn, eWs] <;> rfl) | (simp [*, eWn, eWs] <;> rfl), by repeat (first | (with_reducible first | exact HB.out | apply bA | apply bdN | apply bd1 | refine bS ?_ GE179.out | refine bS ?_ GE180.out) | exact HB.out)⟩
                    ·
                     rw [if_neg c47] at H
                     exact absurd H (by simp)
                   ·
                    rw [if_neg c46] at H
                    exact absurd H (by simp)
                  ·
                   rw [if_neg c45] at H
                   exact absurd H (by simp)
                 ·
                  rw [if_neg c44] at H
                  exact absurd H (by simp)
                ·
                 rw [if_neg c43] at H
                 exact absurd H (by simp)
               ·
                rw [if_neg c42] at H
                exact absurd H (by simp)
              ·
               rw [if_neg c41] at H
               have c41b0 : decide (x78_4 < (((rd_T31 l0_2 x38_2).f1).length : Int)) = false := decide_eq_false c41
               clear c41
               have H' := A0q.mk H
               clear H
               go_wp2
               repeat (go_quiet (fail); try go_wp2)
               go_roundg k4
               case measure => have := HJ2.out; have := HK2.out; have := HJ24.out; have := HK4.out; omega
               case rel => exact ⟨(wrap64 (x38_2 + 1)), (by first | rfl | (simp; done) | (simp [*]; done)), H', ⟨by have := HJ2.out; have := HK2.out; have := HJ24.out; have := HK4.out; omega⟩, ⟨by (with_reducible repeat (first | refine bkN ?_ _ | refine bkD ?_ | refine bkA ?_ _)); exact BK179.out⟩, ⟨by (with_reducible repeat (first | refine bkN ?_ _ | refine bkD ?_ | refine bkA ?_ _)); exact BK180.out⟩, ⟨by repeat (first | (with_reducible first | exact HB.out | apply bA | apply bdN | apply bd1 | refine bS ?_ GE179.out | refine bS ?_ GE180.out) | exact HB.out)⟩⟩
           ·
            rw [if_neg c38] at H
            exact absurd H (by simp)
          ·
           rw [if_neg c37] at H
           exact absurd H (by simp)
      ·
       rw [if_neg c24] at H
       have c24b0 : decide (x38_2 < (l0_2.length : Int)) = false := decide_eq_false c24
       clear c24
       obtain rfl := Option.some.inj H
       go_wp2
       repeat (go_quiet (fail); try go_wp2)
       go_ret
       exact ⟨by first | rfl | (simp [eWn, eWs] <;> rfl) | (simp [*, eWn, eWs] <;> rfl), by repeat (first | (with_reducible first | exact HB.out | apply bA | apply bdN | apply bd1 | refine bS ?_ GE179.out | refine bS ?_ GE180.out) | exact HB.out)⟩
end Go.Proofs.YthabooeapfepnaaGreatDoor.PL
