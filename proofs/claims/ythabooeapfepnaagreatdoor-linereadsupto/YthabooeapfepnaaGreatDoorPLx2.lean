import Derived.Test.YthabooeapfepnaaGreatDoorPLx0
import Derived.Test.YthabooeapfepnaaGreatDoorPLx1
namespace Go.Proofs.YthabooeapfepnaaGreatDoor.PL
open Go.RowKit Go.Proofs.YthabooeapfepnaaGreatDoor.Given Go.Proofs.YthabooeapfepnaaGreatDoorW.PrintWords Go.Proofs.YthabooeapfepnaaGreatDoorW.PrintLast Go.Proofs.YthabooeapfepnaaGreatDoorW.PrintMore
attribute [local go_sem] max2_int min2_int max_two min_two max_three min_three max_four min_four   -- for this text's walks alone
set_option linter.unusedVariables false
set_option linter.unusedSimpArgs false
mutual
def lPa.j0 : Nat → ByteArray → Bool → Option (ByteArray × ByteArray × (List (S31)) × ByteArray × Int)
 | 0, _, _ => none
 | k + 1, x0, x14 => if x14 = true then (some ((⟨#[]⟩ : ByteArray), (⟨#[]⟩ : ByteArray), ([] : List (S31)), (⟨#[]⟩ : ByteArray), 10)) else ((lrn.f k x0 0).bind fun bt126 => ((lrs.f bt126.2.1 bt126.2.2 (⟨#[46, 59, 58]⟩ : ByteArray)).bind fun bt130 => (if bt130.1 = 46 then ((lrn.f k bt130.2.1 bt130.2.2).bind fun bt133 => ((lrs.f bt133.2.1 bt133.2.2 (⟨#[59, 58]⟩ : ByteArray)).bind fun bt136 => (lPa.j1 k bt136.1 bt136.2.1 bt136.2.2 bt126.1 bt133.1 (⟨#[]⟩ : ByteArray)))) else (lPa.j1 k bt130.1 bt130.2.1 bt130.2.2 (⟨#[]⟩ : ByteArray) bt126.1 (⟨#[]⟩ : ByteArray)))))
def lPa.j1 : Nat → Int → ByteArray → Int → ByteArray → ByteArray → ByteArray → Option (ByteArray × ByteArray × (List (S31)) × ByteArray × Int)
 | 0, _, _, _, _, _, _ => none
 | k + 1, x6, x126000, x126001, x130000, x130001, x130003 => lPa.l0 k x6 x126000 x126001 x130000 x130001 ([] : List (S31)) x130003
def lPa.l0 : Nat → Int → ByteArray → Int → ByteArray → ByteArray → List (S31) → ByteArray → Option (ByteArray × ByteArray × (List (S31)) × ByteArray × Int)
 | 0, _, _, _, _, _, _, _ => none
 | k + 1, x6, x126000, x126001, x130000, x130001, x130002, x130003 => if x6 = 59 then (lPa.j3 k (x126001 == 0) x126000 x126001 x130000 x130001 x130002 x130003) else (lPa.j3 k false x126000 x126001 x130000 x130001 x130002 x130003)
def lPa.j3 : Nat → Bool → ByteArray → Int → ByteArray → ByteArray → List (S31) → ByteArray → Option (ByteArray × ByteArray × (List (S31)) × ByteArray × Int)
 | 0, _, _, _, _, _, _, _ => none
 | k + 1, x42, x126000, x126001, x130000, x130001, x130002, x130003 => if x42 = true then ((lrn.f k x126000 x126001).bind fun bt139 => ((lrs.f bt139.2.1 bt139.2.2 (⟨#[61]⟩ : ByteArray)).bind fun bt143 => (lPa.l1 k bt143.1 bt143.2.1 bt143.2.2 x130000 x130001 x130002 x130003 bt139.1 ([] : List ByteArray)))) else (if x126001 = 0 then (some (x130000, x130001, x130002, x126000, 0)) else (some ((⟨#[]⟩ : ByteArray), (⟨#[]⟩ : ByteArray), ([] : List (S31)), (⟨#[]⟩ : ByteArray), x126001)))
def lPa.l1 : Nat → Int → ByteArray → Int → ByteArray → ByteArray → List (S31) → ByteArray → ByteArray → List ByteArray → Option (ByteArray × ByteArray × (List (S31)) × ByteArray × Int)
 | 0, _, _, _, _, _, _, _, _, _ => none
 | k + 1, x6, x126000, x126001, x130000, x130001, x130002, x130003, x143000, x143001 => if x6 = 61 then (lPa.j5 k x6 true x126000 x126001 x130000 x130001 x130002 x130003 x143000 x143001) else (lPa.j5 k x6 (x6 == 44) x126000 x126001 x130000 x130001 x130002 x130003 x143000 x143001)
def lPa.j5 : Nat → Int → Bool → ByteArray → Int → ByteArray → ByteArray → List (S31) → ByteArray → ByteArray → List ByteArray → Option (ByteArray × ByteArray × (List (S31)) × ByteArray × Int)
 | 0, _, _, _, _, _, _, _, _, _, _ => none
 | k + 1, x6, x53, x126000, x126001, x130000, x130001, x130002, x130003, x143000, x143001 => if x53 = true then ((lrv.f x126000 x126001).bind fun bt146 => (if x143001.length < 8796093022208 then ((lrs.f bt146.2.1 bt146.2.2 (⟨#[44, 59, 58]⟩ : ByteArray)).bind fun bt152 => (lPa.l1 k bt152.1 bt152.2.1 bt152.2.2 x130000 x130001 x130002 x130003 x143000 (x143001 ++ [bt146.1]))) else (none))) else (if x130002.length < 3518437208883 then (lPa.l0 k x6 x126000 x126001 x130000 x130001 (x130002 ++ [(⟨x143000, x143001⟩ : S31)]) x130003) else (none))
end
def lPa.f (k : Nat) (a0 : ByteArray) : Option (ByteArray × ByteArray × (List (S31)) × ByteArray × Int) := (char_Valid.f a0).bind fun t123 => (if t123 = true then ((strings_ContainsAny.f a0 (⟨#[13, 10]⟩ : ByteArray)).bind fun t124 => (lPa.j0 k a0 t124)) else (lPa.j0 k a0 true))
def lPa.T7 : Bool × List (List Nat × List Nat) := (true, [([], []), ([0], [0]), ([], []), ([2], [2]), ([0, 1], []), ([4, 1, 3, 0, 1], [1, 4]), ([0, 1, 2, 3, 4, 5], []), ([6, 3, 5, 0, 1, 2, 3, 4, 5], [3, 6])])
def lPa.B7 : List Nat := [0, 1, 0, 4, 3, 31, 63, 127]
theorem lPa.tab7 : rtab .any (opsOf Tryz.f15 7) = lPa.T7 := by kernel_rfl
theorem lPa.bits7 : waitsOk lPa.T7.2 lPa.B7 = true := by kernel_rfl
def lPa.T13 : Bool × List (List Nat × List Nat) := (true, [([], []), ([0], [0]), ([], []), ([2], [2]), ([3], [3]), ([1, 4, 3], [1, 4]), ([0, 1, 2, 3, 4, 5], []), ([6, 5, 5, 0, 1, 2, 3, 4, 5], [5, 6])])
def lPa.B13 : List Nat := [0, 1, 0, 4, 12, 31, 63, 127]
theorem lPa.tab13 : rtab .any (opsOf Tryz.f15 13) = lPa.T13 := by kernel_rfl
theorem lPa.bits13 : waitsOk lPa.T13.2 lPa.B13 = true := by kernel_rfl
set_option maxHeartbeats 8000000 in
set_option maxRecDepth 100000 in
theorem lPa.calls (k : Nat) (a0 : ByteArray) (r1 : ByteArray) (r2 : ByteArray) (r3 : List (S31)) (r4 : ByteArray) (r5 : Int) (w : World) (hT : TabsW w) (h : lPa.f k a0 = some (r1, r2, r3, r4, r5)) :
  Calls Tryz.prog 15 #[.string a0] w fun e w' => ∃ v2_ : Value, e = .returned (.tuple #[.agg #[.string r1, .string r2, v2_, .string r4], .int .i64 r5]) ∧ Kd.S k31 31 w' w.heap.size (fun _ => True) v2_ r3 ∧ Below w.heap.size w w' := by
 have hu25 := Tryz.underlying25
 have hu66 := Tryz.underlying66
 have hu31 := Tryz.underlying31
 have HT := A0q.mk hT
 clear hT
 have HB := A0q.mk (Below.refl w.heap.size w)
 have H : ((char_Valid.f a0).bind fun t123 => (if t123 = true then ((strings_ContainsAny.f a0 (⟨#[13, 10]⟩ : ByteArray)).bind fun t124 => (lPa.j0 k a0 t124)) else (lPa.j0 k a0 true))) = some (r1, r2, r3, r4, r5) := h
 clear h
 have HC2 := A0q.mk H
 clear H
 go_enter Tryz.func15, Tryz.ntmps15
 go_upto_region 1 with (first | ((with_reducible refine gate_dst (N := 2) rfl ?_); refine box_event ?hg (N := 2) ?hd (cs := #[.string (⟨#[]⟩ : ByteArray), .string (⟨#[]⟩ : ByteArray), .slice none 0 0, .string (⟨#[]⟩ : ByteArray)]) (t := 25) ?hr ?_; (case hd => rfl); (case hg => rfl); (case hr => first | (go_simp; done) | (go_simp; rfl)); intro gb122 hg w3 hbox hb; have n0_ := A0q.mk (bT (by repeat (first | (with_reducible first | exact HB.out | apply bA | apply bdN | apply bd1) | exact HB.out)) hb); have n1_ := A0q.mk (hbox); have n2_ := A0q.mk ((by rw [hg]; exact (bZ (by repeat (first | (with_reducible first | exact HB.out | apply bA | apply bdN | apply bd1) | exact HB.out))) : w.heap.size ≤ gb122)); have n3_ := A0q.mk ((by rw [hg]; exact (bZ (by repeat (first | (with_reducible first | exact HB.out | apply bA | apply bdN | apply bd1) | exact HB.out))) : w.heap.size ≤ gb122)); clear HB; have HB := n0_; have BK122 := n1_; have GW122 := n2_; have GE122 := n3_; clear n0_ n1_ n2_ n3_; clear hb hbox hg))
 (try simp only [Act.put, List.setIfInBounds_toArray, List.set_cons_zero, List.set_cons_succ])
 go_cut [14] (fun v14 wc => ∃ (kq : Nat) (x14_1 : Bool), v14 = .bool x14_1 ∧ A0q (lPa.j0 kq a0 x14_1 = some (r1, r2, r3, r4, r5)) ∧ A0q (kq ≤ k) ∧ A0q (wc.heap[gb122]? = some (.cells #[.string (⟨#[]⟩ : ByteArray), .string (⟨#[]⟩ : ByteArray), (.slice none 0 0), .string (⟨#[]⟩ : ByteArray)] 25 (0, 0))) ∧ A0q (Below w.heap.size w wc))
 case first =>
  have H := HC2.out
  clear HC2
  replace H := Option.bind_eq_some_iff.mp H
  obtain ⟨t123, A40, H⟩ := H
  replace H : (if t123 = true then ((strings_ContainsAny.f a0 (⟨#[13, 10]⟩ : ByteArray)).bind fun t124 => (lPa.j0 k a0 t124)) else (lPa.j0 k a0 true)) = some (r1, r2, r3, r4, r5) := H
  have A4 := A0q.mk A40
  clear A40
  by_cases c5 : t123 = true
  ·
   subst c5
   have H1 : ((strings_ContainsAny.f a0 (⟨#[13, 10]⟩ : ByteArray)).bind fun t124 => (lPa.j0 k a0 t124)) = some (r1, r2, r3, r4, r5) := by rw [if_pos rfl] at H; exact H
   clear H
   have H := H1
   clear H1
   replace H := Option.bind_eq_some_iff.mp H
   obtain ⟨t124, A60, H⟩ := H
   replace H : (lPa.j0 k a0 t124) = some (r1, r2, r3, r4, r5) := H
   have A6 := A0q.mk A60
   clear A60
   have H' := A0q.mk H
   clear H
   go_wp2_with (first | ((with_reducible refine gC (f := 40) rfl ?_); refine goesL_ (some 9) rfl rfl Tryz.func40 (by kernel_rfl) rfl #[.string a0] rfl (by (try simp only [List.map_toArray, List.map_cons, List.map_nil]); first | done | rfl | (simp only [List.length_drop, List.length_take]; rfl)) ?_; (with_reducible refine (char_Valid.calls a0 true _ ?side1 A4.out).mono ?_); (case side1 => exact TabsW.below HT.out (by repeat (first | (with_reducible first | exact HB.out | apply bA | apply bdN | apply bd1 | refine bS ?_ GE122.out) | exact HB.out))); rintro e w7 ⟨rfl, hb⟩; refine ⟨_, rfl, ?_⟩; have n0_ := A0q.mk (bkB (g := gb122) (o := .cells #[.string (⟨#[]⟩ : ByteArray), .string (⟨#[]⟩ : ByteArray), .slice none 0 0, .string (⟨#[]⟩ : ByteArray)] 25 (0, 0)) (by (with_reducible repeat (first | refine bkN ?_ _ | refine bkD ?_ | refine bkA ?_ _)); exact BK122.out) hb); have n1_ := A0q.mk (bT (by repeat (first | (with_reducible first | exact HB.out | apply bA | apply bdN | apply bd1 | refine bS ?_ GE122.out) | exact HB.out)) hb); clear BK122; clear HB; have BK122 := n0_; have HB := n1_; clear n0_ n1_; (try clear hb); (try clear hb2); (try clear hk); (try clear hi)) | (go_at_call 41; (with_reducible refine (strings_ContainsAny.calls a0 (⟨#[13, 10]⟩ : ByteArray) t124 _ A6.out).mono ?_); rintro e w8 ⟨rfl, hb⟩; have n0_ := A0q.mk (bkB (g := gb122) (o := .cells #[.string (⟨#[]⟩ : ByteArray), .string (⟨#[]⟩ : ByteArray), .slice none 0 0, .string (⟨#[]⟩ : ByteArray)] 25 (0, 0)) (by (with_reducible repeat (first | refine bkN ?_ _ | refine bkD ?_ | refine bkA ?_ _)); exact BK122.out) hb); have n1_ := A0q.mk (bT (by repeat (first | (with_reducible first | exact HB.out | apply bA | apply bdN | apply bd1 | refine bS ?_ GE122.out) | exact HB.out)) hb); clear BK122; clear HB; have BK122 := n0_; have HB := n1_; clear n0_ n1_; (try clear hb); (try clear hb2); (try clear hk); (try clear hi)))
   go_meet
   case rel => exact ⟨_, (t124), (by first | rfl | (simp; done) | (simp [*]; done)), H', ⟨by first | omega | exact Nat.le_refl _⟩, ⟨by (with_reducible repeat (first | refine bkN ?_ _ | refine bkD ?_ | refine bkA ?_ _)); exact BK122.out⟩, ⟨by repeat (first | (with_reducible first | exact HB.out | apply bA | apply bdN | apply bd1 | refine bS ?_ GE122.out) | exact HB.out)⟩⟩
  ·
   replace c5 := Bool.eq_false_iff.mpr c5
   subst c5
   have H1 : (lPa.j0 k a0 true) = some (r1, r2, r3, r4, r5) := by rw [if_neg (show ¬ (false = true) by decide)] at H; exact H
   clear H
   have H := H1
   clear H1
   have H' := A0q.mk H
   clear H
   go_wp2_with (first | ((with_reducible refine gC (f := 40) rfl ?_); refine goesL_ (some 9) rfl rfl Tryz.func40 (by kernel_rfl) rfl #[.string a0] rfl (by (try simp only [List.map_toArray, List.map_cons, List.map_nil]); first | done | rfl | (simp only [List.length_drop, List.length_take]; rfl)) ?_; (with_reducible refine (char_Valid.calls a0 false _ ?side1 A4.out).mono ?_); (case side1 => exact TabsW.below HT.out (by repeat (first | (with_reducible first | exact HB.out | apply bA | apply bdN | apply bd1 | refine bS ?_ GE122.out) | exact HB.out))); rintro e w9 ⟨rfl, hb⟩; refine ⟨_, rfl, ?_⟩; have n0_ := A0q.mk (bkB (g := gb122) (o := .cells #[.string (⟨#[]⟩ : ByteArray), .string (⟨#[]⟩ : ByteArray), .slice none 0 0, .string (⟨#[]⟩ : ByteArray)] 25 (0, 0)) (by (with_reducible repeat (first | refine bkN ?_ _ | refine bkD ?_ | refine bkA ?_ _)); exact BK122.out) hb); have n1_ := A0q.mk (bT (by repeat (first | (with_reducible first | exact HB.out | apply bA | apply bdN | apply bd1 | refine bS ?_ GE122.out) | exact HB.out)) hb); clear BK122; clear HB; have BK122 := n0_; have HB := n1_; clear n0_ n1_; (try clear hb); (try clear hb2); (try clear hk); (try clear hi)))
   go_meet
   case rel => exact ⟨_, (true), (by first | rfl | (simp; done) | (simp [*]; done)), H', ⟨by first | omega | exact Nat.le_refl _⟩, ⟨by (with_reducible repeat (first | refine bkN ?_ _ | refine bkD ?_ | refine bkA ?_ _)); exact BK122.out⟩, ⟨by repeat (first | (with_reducible first | exact HB.out | apply bA | apply bdN | apply bd1 | refine bS ?_ GE122.out) | exact HB.out)⟩⟩
 case rest =>
  clear HC2
  try clear c1
  try clear p2
  try clear c4
  try clear c5
  obtain ⟨kq, x14_1, rfl, HA, HJ1, BK122, HB⟩ := hcut
  cases kq with
  | zero => exact absurd HA.out (by simp [lPa.j0])
  | succ kj1 =>
   have H := HA.out
   clear HA
   simp only [lPa.j0] at H
   by_cases c10 : x14_1 = true
   ·
    subst c10
    have H1 : (some ((⟨#[]⟩ : ByteArray), (⟨#[]⟩ : ByteArray), ([] : List (S31)), (⟨#[]⟩ : ByteArray), 10)) = some (r1, r2, r3, r4, r5) := by rw [if_pos rfl] at H; exact H
    clear H
    have H := H1
    clear H1
    simp only [Option.some.injEq, Prod.mk.injEq] at H
    obtain ⟨rfl, rfl, rfl, rfl, rfl⟩ := H
    have hcz11_0 : wc.cell? ⟨gb122, 0, none⟩ = some (.string (⟨#[]⟩ : ByteArray)) := (bkC BK122.out 0).trans rfl
    have hcz11_1 : wc.cell? ⟨gb122, 1, none⟩ = some (.string (⟨#[]⟩ : ByteArray)) := (bkC BK122.out 1).trans rfl
    have hcz11_2 : wc.cell? ⟨gb122, 2, none⟩ = some (.slice none 0 0) := (bkC BK122.out 2).trans rfl
    have hcz11_3 : wc.cell? ⟨gb122, 3, none⟩ = some (.string (⟨#[]⟩ : ByteArray)) := (bkC BK122.out 3).trans rfl
    have hfz11_0 := bkF BK122.out 0
    have hfz11_1 := bkF BK122.out 1
    have hfz11_2 := bkF BK122.out 2
    have hfz11_3 := bkF BK122.out 3
    go_wp2
    refine bodyPost_ret (results_ct rfl _ _ gb122 25 #[.string (⟨#[]⟩ : ByteArray), .string (⟨#[]⟩ : ByteArray), .slice none 0 0, .string (⟨#[]⟩ : ByteArray)] (0, 0) _ rfl (by (with_reducible repeat (first | refine bkN ?_ _ | refine bkD ?_ | refine bkA ?_ _)); refine bkP (cs := #[.string (⟨#[]⟩ : ByteArray), .string (⟨#[]⟩ : ByteArray), .slice none 0 0, .string (⟨#[]⟩ : ByteArray)]) ?_ 3 _ rfl; (with_reducible repeat (first | refine bkN ?_ _ | refine bkD ?_ | refine bkA ?_ _)); refine bkP (cs := #[.string (⟨#[]⟩ : ByteArray), .string (⟨#[]⟩ : ByteArray), .slice none 0 0, .string (⟨#[]⟩ : ByteArray)]) ?_ 2 _ rfl; (with_reducible repeat (first | refine bkN ?_ _ | refine bkD ?_ | refine bkA ?_ _)); refine bkP (cs := #[.string (⟨#[]⟩ : ByteArray), .string (⟨#[]⟩ : ByteArray), .slice none 0 0, .string (⟨#[]⟩ : ByteArray)]) ?_ 1 _ rfl; (with_reducible repeat (first | refine bkN ?_ _ | refine bkD ?_ | refine bkA ?_ _)); refine bkP (cs := #[.string (⟨#[]⟩ : ByteArray), .string (⟨#[]⟩ : ByteArray), .slice none 0 0, .string (⟨#[]⟩ : ByteArray)]) ?_ 0 _ rfl; (with_reducible repeat (first | refine bkN ?_ _ | refine bkD ?_ | refine bkA ?_ _)); exact BK122.out) Tryz.underlying25 rfl (by kernel_rfl)) rfl ?_
    exact ⟨_, by first | rfl | (simp [eWn, eWs] <;> rfl) | (simp [*, eWn, eWs] <;> rfl), by first | exact Kd.S_nil _ _ _ _ _ | exact Kd.N_nil _ _ _ _ _ | exact Kd.V_nil _ _ _ _ _ | exact Kd.Q_nil _ _ _ _ _ | exact Kd.R_nil _ _ _ _ _, by repeat (first | (with_reducible first | exact HB.out | apply bA | apply bdN | apply bd1 | refine bS ?_ GE122.out) | exact HB.out)⟩
   ·
    replace c10 := Bool.eq_false_iff.mpr c10
    subst c10
    have H1 : ((lrn.f kj1 a0 0).bind fun bt126 => ((lrs.f bt126.2.1 bt126.2.2 (⟨#[46, 59, 58]⟩ : ByteArray)).bind fun bt130 => (if bt130.1 = 46 then ((lrn.f kj1 bt130.2.1 bt130.2.2).bind fun bt133 => ((lrs.f bt133.2.1 bt133.2.2 (⟨#[59, 58]⟩ : ByteArray)).bind fun bt136 => (lPa.j1 kj1 bt136.1 bt136.2.1 bt136.2.2 bt126.1 bt133.1 (⟨#[]⟩ : ByteArray)))) else (lPa.j1 kj1 bt130.1 bt130.2.1 bt130.2.2 (⟨#[]⟩ : ByteArray) bt126.1 (⟨#[]⟩ : ByteArray))))) = some (r1, r2, r3, r4, r5) := by rw [if_neg (show ¬ (false = true) by decide)] at H; exact H
    clear H
    have H := H1
    clear H1
    replace H := Option.bind_eq_some_iff.mp H
    obtain ⟨⟨t126, t127, t128⟩, A120, H⟩ := H
    replace H : ((lrs.f t127 t128 (⟨#[46, 59, 58]⟩ : ByteArray)).bind fun bt130 => (if bt130.1 = 46 then ((lrn.f kj1 bt130.2.1 bt130.2.2).bind fun bt133 => ((lrs.f bt133.2.1 bt133.2.2 (⟨#[59, 58]⟩ : ByteArray)).bind fun bt136 => (lPa.j1 kj1 bt136.1 bt136.2.1 bt136.2.2 t126 bt133.1 (⟨#[]⟩ : ByteArray)))) else (lPa.j1 kj1 bt130.1 bt130.2.1 bt130.2.2 (⟨#[]⟩ : ByteArray) t126 (⟨#[]⟩ : ByteArray)))) = some (r1, r2, r3, r4, r5) := H
    have A12 := A0q.mk A120
    clear A120
    replace H := Option.bind_eq_some_iff.mp H
    obtain ⟨⟨t130, t131, t132⟩, A130, H⟩ := H
    replace H : (if t130 = 46 then ((lrn.f kj1 t131 t132).bind fun bt133 => ((lrs.f bt133.2.1 bt133.2.2 (⟨#[59, 58]⟩ : ByteArray)).bind fun bt136 => (lPa.j1 kj1 bt136.1 bt136.2.1 bt136.2.2 t126 bt133.1 (⟨#[]⟩ : ByteArray)))) else (lPa.j1 kj1 t130 t131 t132 (⟨#[]⟩ : ByteArray) t126 (⟨#[]⟩ : ByteArray))) = some (r1, r2, r3, r4, r5) := H
    have A13 := A0q.mk A130
    clear A130
    have HC14 := A0q.mk H
    clear H
    go_upto_if 25 with (first | ((with_reducible refine gate_dst (N := 18) rfl ?_); refine box_event ?hg (N := 18) ?hd (cs := #[.string a0, .int .i64 0]) (t := 66) ?hr ?_; (case hd => rfl); (case hg => rfl); (case hr => first | (go_simp; done) | (go_simp; rfl)); intro gb125 hg w15 hbox hb; have n0_ := A0q.mk (bkB (g := gb122) (o := .cells #[.string (⟨#[]⟩ : ByteArray), .string (⟨#[]⟩ : ByteArray), .slice none 0 0, .string (⟨#[]⟩ : ByteArray)] 25 (0, 0)) (by (with_reducible repeat (first | refine bkN ?_ _ | refine bkD ?_ | refine bkA ?_ _)); exact BK122.out) hb); have n1_ := A0q.mk (bT (by repeat (first | (with_reducible first | exact HB.out | apply bA | apply bdN | apply bd1 | refine bS ?_ GE122.out) | exact HB.out)) hb); have n2_ := A0q.mk (hbox); have n3_ := A0q.mk ((by rw [hg]; exact (bZ (by repeat (first | (with_reducible first | exact HB.out | apply bA | apply bdN | apply bd1 | refine bS ?_ GE122.out) | exact HB.out))) : w.heap.size ≤ gb125)); have n4_ := A0q.mk ((by rw [hg]; exact (bZ (by repeat (first | (with_reducible first | exact HB.out | apply bA | apply bdN | apply bd1 | refine bS ?_ GE122.out) | exact HB.out))) : w.heap.size ≤ gb125)); have n5_ := A0q.mk ((by rw [hg]; exact Nat.ne_of_lt (bkL (g := gb122) (o := .cells #[.string (⟨#[]⟩ : ByteArray), .string (⟨#[]⟩ : ByteArray), .slice none 0 0, .string (⟨#[]⟩ : ByteArray)] 25 (0, 0)) (by (with_reducible repeat (first | refine bkN ?_ _ | refine bkD ?_ | refine bkA ?_ _)); exact BK122.out)) : gb122 ≠ gb125)); have n6_ := A0q.mk ((by rw [hg]; exact Nat.ne_of_gt (bkL (g := gb122) (o := .cells #[.string (⟨#[]⟩ : ByteArray), .string (⟨#[]⟩ : ByteArray), .slice none 0 0, .string (⟨#[]⟩ : ByteArray)] 25 (0, 0)) (by (with_reducible repeat (first | refine bkN ?_ _ | refine bkD ?_ | refine bkA ?_ _)); exact BK122.out)) : gb125 ≠ gb122)); clear BK122; clear HB; have BK122 := n0_; have HB := n1_; have BK125 := n2_; have GW125 := n3_; have GE125 := n4_; have NB122_125 := n5_; have NB125_122 := n6_; clear n0_ n1_ n2_ n3_ n4_ n5_ n6_; clear hb hbox hg; have HI125 := A0q.mk (show I66 w w15 gb125 a0 0 from ⟨BK125.out, GE125.out⟩)) | ((with_reducible refine gC (f := 42) rfl ?_); refine goesL_ (some 20) rfl rfl Tryz.func42 (by kernel_rfl) rfl #[.pointer (some ⟨gb125, 0, none⟩)] rfl (by (try simp only [List.map_toArray, List.map_cons, List.map_nil]); first | done | rfl | (simp only [List.length_drop, List.length_take]; rfl)) ?_; (with_reducible refine (lrn.calls kj1 gb125 a0 0 t126 t127 t128 w _ ?side1 ?side2 A12.out).mono ?_); (case side1 => repeat (first | (with_reducible first | exact HI125.out | apply I66.alloc | apply I66.drewN | apply I66.drew | apply I66.set_0 | apply I66.set_1 | refine I66.far ?_ NB125_122.out _) | exact HI125.out)); (case side2 => repeat (first | (with_reducible first | exact HB.out | apply bA | apply bdN | apply bd1 | refine bS ?_ (I66.ge HI125.out) | refine bS ?_ GE122.out) | exact HB.out)); rintro e w16 ⟨rfl, hi, hb, hk⟩; refine ⟨_, rfl, ?_⟩; have n0_ := A0q.mk (KpB.blk hk (g' := gb122) (o := .cells #[.string (⟨#[]⟩ : ByteArray), .string (⟨#[]⟩ : ByteArray), .slice none 0 0, .string (⟨#[]⟩ : ByteArray)] 25 (0, 0)) (by (with_reducible repeat (first | refine bkN ?_ _ | refine bkD ?_ | refine bkA ?_ _)); exact BK122.out) NB122_125.out (by simp)); have n1_ := A0q.mk (hb); have n2_ := A0q.mk (hi); clear BK122; clear HB; clear HI125; have BK122 := n0_; have HB := n1_; have HI125 := n2_; clear n0_ n1_ n2_; (try clear hb); (try clear hb2); (try clear hk); (try clear hi)) | ((with_reducible refine gate_dst (N := 5) rfl ?_); refine box_event ?hg (N := 5) ?hd (cs := #[.string (⟨#[]⟩ : ByteArray), .string (⟨#[]⟩ : ByteArray), .slice none 0 0, .string (⟨#[]⟩ : ByteArray)]) (t := 25) ?hr ?_; (case hd => rfl); (case hg => rfl); (case hr => first | (go_simp; done) | (go_simp; rfl)); intro gb129 hg w17 hbox hb; have n0_ := A0q.mk (bkB (g := gb122) (o := .cells #[.string (⟨#[]⟩ : ByteArray), .string (⟨#[]⟩ : ByteArray), .slice none 0 0, .string (⟨#[]⟩ : ByteArray)] 25 (0, 0)) (by (with_reducible repeat (first | refine bkN ?_ _ | refine bkD ?_ | refine bkA ?_ _)); exact BK122.out) hb); have n1_ := A0q.mk (I66.below (by repeat (first | (with_reducible first | exact HI125.out | apply I66.alloc | apply I66.drewN | apply I66.drew | apply I66.set_0 | apply I66.set_1 | refine I66.far ?_ NB125_122.out _) | exact HI125.out)) hb); have n2_ := A0q.mk (bT (by repeat (first | (with_reducible first | exact HB.out | apply bA | apply bdN | apply bd1 | refine bS ?_ (I66.ge HI125.out) | refine bS ?_ GE122.out) | exact HB.out)) hb); have n3_ := A0q.mk (hbox); have n4_ := A0q.mk ((by rw [hg]; exact (bZ (by repeat (first | (with_reducible first | exact HB.out | apply bA | apply bdN | apply bd1 | refine bS ?_ (I66.ge HI125.out) | refine bS ?_ GE122.out) | exact HB.out))) : w.heap.size ≤ gb129)); have n5_ := A0q.mk ((by rw [hg]; exact (bZ (by repeat (first | (with_reducible first | exact HB.out | apply bA | apply bdN | apply bd1 | refine bS ?_ (I66.ge HI125.out) | refine bS ?_ GE122.out) | exact HB.out))) : w.heap.size ≤ gb129)); have n6_ := A0q.mk ((by rw [hg]; exact Nat.ne_of_lt (bkL (g := gb122) (o := .cells #[.string (⟨#[]⟩ : ByteArray), .string (⟨#[]⟩ : ByteArray), .slice none 0 0, .string (⟨#[]⟩ : ByteArray)] 25 (0, 0)) (by (with_reducible repeat (first | refine bkN ?_ _ | refine bkD ?_ | refine bkA ?_ _)); exact BK122.out)) : gb122 ≠ gb129)); have n7_ := A0q.mk ((by rw [hg]; exact Nat.ne_of_gt (bkL (g := gb122) (o := .cells #[.string (⟨#[]⟩ : ByteArray), .string (⟨#[]⟩ : ByteArray), .slice none 0 0, .string (⟨#[]⟩ : ByteArray)] 25 (0, 0)) (by (with_reducible repeat (first | refine bkN ?_ _ | refine bkD ?_ | refine bkA ?_ _)); exact BK122.out)) : gb129 ≠ gb122)); have n8_ := A0q.mk ((by rw [hg]; exact Nat.ne_of_lt (I66.lt (show I66 w _ gb125 t127 t128 from by repeat (first | (with_reducible first | exact HI125.out | apply I66.alloc | apply I66.drewN | apply I66.drew | apply I66.set_0 | apply I66.set_1 | refine I66.far ?_ NB125_122.out _) | exact HI125.out))) : gb125 ≠ gb129)); have n9_ := A0q.mk ((by rw [hg]; exact Nat.ne_of_gt (I66.lt (show I66 w _ gb125 t127 t128 from by repeat (first | (with_reducible first | exact HI125.out | apply I66.alloc | apply I66.drewN | apply I66.drew | apply I66.set_0 | apply I66.set_1 | refine I66.far ?_ NB125_122.out _) | exact HI125.out))) : gb129 ≠ gb125)); clear BK122; clear HI125; clear HB; have BK122 := n0_; have HI125 := n1_; have HB := n2_; have BK129 := n3_; have GW129 := n4_; have GE129 := n5_; have NB122_129 := n6_; have NB129_122 := n7_; have NB125_129 := n8_; have NB129_125 := n9_; clear n0_ n1_ n2_ n3_ n4_ n5_ n6_ n7_ n8_ n9_; clear hb hbox hg; have hnb18 := NB129_122.out; have hnc18 := NB122_129.out; have hnb19 := NB129_125.out; have hnc19 := NB125_129.out; have hcz20_0 : w17.cell? ⟨gb129, 0, none⟩ = some (.string (⟨#[]⟩ : ByteArray)) := (bkC BK129.out 0).trans rfl; have hcz20_1 : w17.cell? ⟨gb129, 1, none⟩ = some (.string (⟨#[]⟩ : ByteArray)) := (bkC BK129.out 1).trans rfl; have hcz20_2 : w17.cell? ⟨gb129, 2, none⟩ = some (.slice none 0 0) := (bkC BK129.out 2).trans rfl; have hcz20_3 : w17.cell? ⟨gb129, 3, none⟩ = some (.string (⟨#[]⟩ : ByteArray)) := (bkC BK129.out 3).trans rfl; have hfz20_0 := bkF BK129.out 0; have hfz20_1 := bkF BK129.out 1; have hfz20_2 := bkF BK129.out 2; have hfz20_3 := bkF BK129.out 3) | ((with_reducible refine gC (f := 43) rfl ?_); refine goesL_ (some 23) rfl rfl Tryz.func43 (by kernel_rfl) rfl #[.pointer (some ⟨gb125, 0, none⟩), .string (⟨#[46, 59, 58]⟩ : ByteArray)] rfl (by (try simp only [List.map_toArray, List.map_cons, List.map_nil]); first | done | rfl | (simp only [List.length_drop, List.length_take]; rfl)) ?_; (with_reducible refine (lrs.calls gb125 t127 t128 (⟨#[46, 59, 58]⟩ : ByteArray) t130 t131 t132 w _ ?side1 ?side2 A13.out).mono ?_); (case side1 => repeat (first | (with_reducible first | exact HI125.out | apply I66.alloc | apply I66.drewN | apply I66.drew | apply I66.set_0 | apply I66.set_1 | refine I66.far ?_ NB125_122.out _ | refine I66.far ?_ NB125_129.out _) | exact HI125.out)); (case side2 => repeat (first | (with_reducible first | exact HB.out | apply bA | apply bdN | apply bd1 | refine bS ?_ (I66.ge HI125.out) | refine bS ?_ GE122.out | refine bS ?_ GE129.out) | exact HB.out)); rintro e w21 ⟨rfl, hi, hb, hk⟩; refine ⟨_, rfl, ?_⟩; have n0_ := A0q.mk (KpB.blk hk (g' := gb122) (o := .cells #[.string (⟨#[]⟩ : ByteArray), .string (⟨#[]⟩ : ByteArray), .slice none 0 0, .string (⟨#[]⟩ : ByteArray)] 25 (0, 0)) (by (with_reducible repeat (first | refine bkN ?_ _ | refine bkD ?_ | refine bkA ?_ _)); refine bkR ?_ NB122_129.out _; (with_reducible repeat (first | refine bkN ?_ _ | refine bkD ?_ | refine bkA ?_ _)); refine bkR ?_ NB122_129.out _; (with_reducible repeat (first | refine bkN ?_ _ | refine bkD ?_ | refine bkA ?_ _)); refine bkR ?_ NB122_129.out _; (with_reducible repeat (first | refine bkN ?_ _ | refine bkD ?_ | refine bkA ?_ _)); refine bkR ?_ NB122_129.out _; (with_reducible repeat (first | refine bkN ?_ _ | refine bkD ?_ | refine bkA ?_ _)); exact BK122.out) NB122_125.out (by simp)); have n1_ := A0q.mk (KpB.blk hk (g' := gb129) (o := .cells #[.string (⟨#[]⟩ : ByteArray), .string t126, .slice none 0 0, .string (⟨#[]⟩ : ByteArray)] 25 (0, 0)) (by (with_reducible repeat (first | refine bkN ?_ _ | refine bkD ?_ | refine bkA ?_ _)); refine bkP (cs := #[.string (⟨#[]⟩ : ByteArray), .string t126, .slice none 0 0, .string (⟨#[]⟩ : ByteArray)]) ?_ 3 _ rfl; (with_reducible repeat (first | refine bkN ?_ _ | refine bkD ?_ | refine bkA ?_ _)); refine bkP (cs := #[.string (⟨#[]⟩ : ByteArray), .string t126, .slice none 0 0, .string (⟨#[]⟩ : ByteArray)]) ?_ 2 _ rfl; (with_reducible repeat (first | refine bkN ?_ _ | refine bkD ?_ | refine bkA ?_ _)); refine bkP (cs := #[.string (⟨#[]⟩ : ByteArray), .string (⟨#[]⟩ : ByteArray), .slice none 0 0, .string (⟨#[]⟩ : ByteArray)]) ?_ 1 _ rfl; (with_reducible repeat (first | refine bkN ?_ _ | refine bkD ?_ | refine bkA ?_ _)); refine bkP (cs := #[.string (⟨#[]⟩ : ByteArray), .string (⟨#[]⟩ : ByteArray), .slice none 0 0, .string (⟨#[]⟩ : ByteArray)]) ?_ 0 _ rfl; (with_reducible repeat (first | refine bkN ?_ _ | refine bkD ?_ | refine bkA ?_ _)); exact BK129.out) NB129_125.out (by simp)); have n2_ := A0q.mk (hb); have n3_ := A0q.mk (hi); clear BK122; clear BK129; clear HB; clear HI125; have BK122 := n0_; have BK129 := n1_; have HB := n2_; have HI125 := n3_; clear n0_ n1_ n2_ n3_; (try clear hb); (try clear hb2); (try clear hk); (try clear hi)))
    (try simp only [Act.put, List.setIfInBounds_toArray, List.set_cons_zero, List.set_cons_succ])
    go_cut [6] (fun v6 wc => ∃ (kq : Nat) (x6_13 : Int) (x126000_13 : ByteArray) (x126001_13 : Int) (x130000_13 : ByteArray) (x130001_13 : ByteArray), v6 = .int .u8 x6_13 ∧ A0q (lPa.j1 kq x6_13 x126000_13 x126001_13 x130000_13 x130001_13 (⟨#[]⟩ : ByteArray) = some (r1, r2, r3, r4, r5)) ∧ A0q (kq ≤ kj1) ∧ A0q (wc.heap[gb122]? = some (.cells #[.string (⟨#[]⟩ : ByteArray), .string (⟨#[]⟩ : ByteArray), (.slice none 0 0), .string (⟨#[]⟩ : ByteArray)] 25 (0, 0))) ∧ A0q (wc.heap[gb129]? = some (.cells #[.string x130000_13, .string x130001_13, (.slice none 0 0), .string (⟨#[]⟩ : ByteArray)] 25 (0, 0))) ∧ A0q (I66 w wc gb125 x126000_13 x126001_13) ∧ A0q (Below w.heap.size w wc))
    case first =>
     have H := HC14.out
     clear HC14
     by_cases c22 : t130 = 46
     ·
      rw [if_pos c22] at H
      have c22b0 : (t130 == 46) = true := beq_iff_eq.mpr c22
      have c22b1 : (t130 != 46) = false := bne_eq_false_iff_eq.mpr c22
      clear c22
      (first | rw [c22b0] | (simp only [i64_w, i32_w]; rw [c22b0]) | rw [c22b1] | skip)
      replace H := Option.bind_eq_some_iff.mp H
      obtain ⟨⟨t133, t134, t135⟩, A230, H⟩ := H
      replace H : ((lrs.f t134 t135 (⟨#[59, 58]⟩ : ByteArray)).bind fun bt136 => (lPa.j1 kj1 bt136.1 bt136.2.1 bt136.2.2 t126 t133 (⟨#[]⟩ : ByteArray))) = some (r1, r2, r3, r4, r5) := H
      have A23 := A0q.mk A230
      clear A230
      replace H := Option.bind_eq_some_iff.mp H
      obtain ⟨⟨t136, t137, t138⟩, A240, H⟩ := H
      replace H : (lPa.j1 kj1 t136 t137 t138 t126 t133 (⟨#[]⟩ : ByteArray)) = some (r1, r2, r3, r4, r5) := H
      have A24 := A0q.mk A240
      clear A240
      have H' := A0q.mk H
      clear H
      try go_wp2
      have n0_ := A0q.mk (bkD BK122.out)
      have n1_ := A0q.mk (bkD BK129.out)
      have n2_ := A0q.mk (I66.drew HI125.out)
      have n3_ := A0q.mk (bd1 HB.out)
      clear BK122
      clear BK129
      clear HI125
      clear HB
      have BK122 := n0_
      have BK129 := n1_
      have HI125 := n2_
      have HB := n3_
      clear n0_ n1_ n2_ n3_
      refine start_ (n := 8) (S := fun w' => w'.cell? ⟨gb129, 0, none⟩ = some (.string (⟨#[]⟩ : ByteArray)) ∧ w'.cell? ⟨gb129, 1, none⟩ = some (.string t126) ∧ w'.cell? ⟨gb129, 2, none⟩ = some (.slice none 0 0) ∧ w'.cell? ⟨gb129, 3, none⟩ = some (.string (⟨#[]⟩ : ByteArray))) (ds := [5, 7]) #[false, false, false, false, false, false, false, false] (by kernel_rfl) rfl rfl ⟨(bkC BK129.out 0).trans rfl, (bkC BK129.out 1).trans rfl, (bkC BK129.out 2).trans rfl, (bkC BK129.out 3).trans rfl⟩ (fun hHeld => ?_); refine with_tabW lPa.tab7 lPa.bits7 (fun HT_ HW_ => ?_)
      generalize w21.drew = w25 at BK122 BK129 HI125 HB hHeld ⊢
      refine pure_ (i := 0) (N := some 26) (v := ?_) (a' := ?_) #[true, false, false, false, false, false, false, false] rfl rfl (any_of HT_.out (by kernel_rfl)) (fun _ _ _ h => h) (Or.inl ⟨by rfl, ?_⟩) ?_ ?_
      rotate_left
      ·
       intro w'
       go_simp
       with_reducible rfl
      rotate_left
      ·
       simp only [Act.put, List.setIfInBounds_toArray, List.set_cons_zero, List.set_cons_succ, i64_w, i32_w]
       rfl
      refine pure_ (i := 2) (N := some 28) (v := ?_) (a' := ?_) #[true, false, true, false, false, false, false, false] rfl rfl (any_of HT_.out (by kernel_rfl)) (fun _ _ _ h => h) (Or.inl ⟨by rfl, ?_⟩) ?_ ?_
      rotate_left
      ·
       intro w'
       go_simp
       with_reducible rfl
      rotate_left
      ·
       simp only [Act.put, List.setIfInBounds_toArray, List.set_cons_zero, List.set_cons_succ, i64_w, i32_w]
       rfl
      refine take_ (i := 1) (N := some 27) (v := ?_) (a' := ?_) #[true, true, true, false, false, false, false, false] rfl rfl (take_ofW HT_.out HW_.out (by kernel_rfl)) (fun _ _ _ h => h) (Or.inl ⟨by rfl, ?_⟩) hHeld ?_ ?_
      rotate_left
      ·
       rintro w' ⟨s0, s1, s2, s3⟩
       go_simp
       with_reducible rfl
      rotate_left
      ·
       simp only [Act.put, List.setIfInBounds_toArray, List.set_cons_zero, List.set_cons_succ, i64_w, i32_w]
       rfl
      refine pure_ (i := 4) (N := some 30) (v := ?_) (a' := ?_) #[true, true, true, false, true, false, false, false] rfl rfl (any_of HT_.out (by kernel_rfl)) (fun _ _ _ h => h) (Or.inl ⟨by rfl, ?_⟩) ?_ ?_
      rotate_left
      ·
       intro w'
       go_simp
       with_reducible rfl
      rotate_left
      ·
       simp only [Act.put, List.setIfInBounds_toArray, List.set_cons_zero, List.set_cons_succ, i64_w, i32_w]
       rfl
      refine one_ (i := 3) (N := some 29) #[true, true, true, true, true, false, false, false] rfl rfl (one_of HT_.out (by kernel_rfl)) (by decide) (fun K hK => ?_)
      refine goes_ Tryz.func42 (by kernel_rfl) rfl #[.pointer (some ⟨gb125, 0, none⟩)] (by rfl) rfl rfl (by (try simp only [List.map_toArray, List.map_cons, List.map_nil]); first | done | rfl | (simp only [List.length_drop, List.length_take]; rfl)) ?_
      with_reducible refine (lrn.calls kj1 gb125 t131 t132 t133 t134 t135 w _ ?side1 ?side2 A23.out).mono ?_
      (case side1 => repeat (first | (with_reducible first | exact HI125.out | apply I66.alloc | apply I66.drewN | apply I66.drew | apply I66.set_0 | apply I66.set_1 | refine I66.far ?_ NB125_122.out _ | refine I66.far ?_ NB125_129.out _) | exact HI125.out))
      (case side2 => repeat (first | (with_reducible first | exact HB.out | apply bA | apply bdN | apply bd1 | refine bS ?_ (I66.ge HI125.out) | refine bS ?_ GE122.out | refine bS ?_ GE129.out) | exact HB.out))
      rintro e w26 ⟨rfl, hi, hb, hk⟩
      refine ⟨_, rfl, ?_⟩
      have n0_ := A0q.mk (KpB.blk hk (g' := gb122) (o := .cells #[.string (⟨#[]⟩ : ByteArray), .string (⟨#[]⟩ : ByteArray), .slice none 0 0, .string (⟨#[]⟩ : ByteArray)] 25 (0, 0)) (by (with_reducible repeat (first | refine bkN ?_ _ | refine bkD ?_ | refine bkA ?_ _)); exact BK122.out) NB122_125.out (by simp))
      have n1_ := A0q.mk (KpB.blk hk (g' := gb129) (o := .cells #[.string (⟨#[]⟩ : ByteArray), .string t126, .slice none 0 0, .string (⟨#[]⟩ : ByteArray)] 25 (0, 0)) (by (with_reducible repeat (first | refine bkN ?_ _ | refine bkD ?_ | refine bkA ?_ _)); exact BK129.out) NB129_125.out (by simp))
      have n2_ := A0q.mk (hb)
      have n3_ := A0q.mk (hi)
      clear BK122
      clear BK129
      clear HB
      clear HI125
      have BK122 := n0_
      have BK129 := n1_
      have HB := n2_
      have HI125 := n3_
      clear n0_ n1_ n2_ n3_
      (try clear hb)
      (try clear hb2)
      (try clear hk)
      (try clear hi)
      refine hK.out _ _ ⟨(bkC BK129.out 0).trans rfl, (bkC BK129.out 1).trans rfl, (bkC BK129.out 2).trans rfl, (bkC BK129.out 3).trans rfl⟩ (fun hHeld => ?_)
      clear hK K
      refine norm_ (a' := ?_) ?_ ?_
      rotate_left
      ·
       show Act.put _ (some 29) _ = _
       simp only [Act.put, List.setIfInBounds_toArray, List.set_cons_zero, List.set_cons_succ, i64_w, i32_w]
       rfl
      refine last_ (i := 5) (N := none) #[true, true, true, true, true, true, false, false] rfl rfl (one_of HT_.out (by kernel_rfl)) (by decide) (fun K hK => ?_)
      have hs27 : w26.cell? ⟨gb129, 0, none⟩ = some (.string (⟨#[]⟩ : ByteArray)) := (bkC BK129.out 0).trans rfl
      have hfs27 := bkF BK129.out 0
      have hns27_0 := NB122_129.out
      have hms27_0 := NB129_122.out
      refine skip_ (w1 := ?_) (by rfl) rfl ?_ ?_
      rotate_left
      ·
       go_simp
       rfl
      refine hK.out _ _ ?_
      clear hK K
      refine pure_ (i := 6) (N := some 31) (v := ?_) (a' := ?_) #[true, true, true, true, true, true, true, false] rfl rfl (any_of HT_.out (by kernel_rfl)) (fun _ _ _ h => h) (Or.inl ⟨by rfl, ?_⟩) ?_ ?_
      rotate_left
      ·
       intro w'
       go_simp
       with_reducible rfl
      rotate_left
      ·
       simp only [Act.put, List.setIfInBounds_toArray, List.set_cons_zero, List.set_cons_succ, i64_w, i32_w]
       rfl
      refine last_ (i := 7) (N := none) #[true, true, true, true, true, true, true, true] rfl rfl (one_of HT_.out (by kernel_rfl)) (by decide) (fun K hK => ?_)
      have hs28 : w26.cell? ⟨gb129, 1, none⟩ = some (.string t126) := (bkC BK129.out 1).trans rfl
      have hfs28 := bkF BK129.out 1
      have hns28_0 := NB122_129.out
      have hms28_0 := NB129_122.out
      refine skip_ (w1 := ?_) (by rfl) rfl ?_ ?_
      rotate_left
      ·
       go_simp
       rfl
      refine hK.out _ _ ?_
      clear hK K
      refine done_ (done_of HT_.out (by kernel_rfl)) ?_
      try go_wp2_with (first | ((with_reducible refine gC (f := 43) rfl ?_); refine goesL_ (some 33) rfl rfl Tryz.func43 (by kernel_rfl) rfl #[.pointer (some ⟨gb125, 0, none⟩), .string (⟨#[59, 58]⟩ : ByteArray)] rfl (by (try simp only [List.map_toArray, List.map_cons, List.map_nil]); first | done | rfl | (simp only [List.length_drop, List.length_take]; rfl)) ?_; (with_reducible refine (lrs.calls gb125 t134 t135 (⟨#[59, 58]⟩ : ByteArray) t136 t137 t138 w _ ?side1 ?side2 A24.out).mono ?_); (case side1 => repeat (first | (with_reducible first | exact HI125.out | apply I66.alloc | apply I66.drewN | apply I66.drew | apply I66.set_0 | apply I66.set_1 | refine I66.far ?_ NB125_122.out _ | refine I66.far ?_ NB125_129.out _) | exact HI125.out)); (case side2 => repeat (first | (with_reducible first | exact HB.out | apply bA | apply bdN | apply bd1 | refine bS ?_ (I66.ge HI125.out) | refine bS ?_ GE122.out | refine bS ?_ GE129.out) | exact HB.out)); rintro e w29 ⟨rfl, hi, hb, hk⟩; refine ⟨_, rfl, ?_⟩; have n0_ := A0q.mk (KpB.blk hk (g' := gb122) (o := .cells #[.string (⟨#[]⟩ : ByteArray), .string (⟨#[]⟩ : ByteArray), .slice none 0 0, .string (⟨#[]⟩ : ByteArray)] 25 (0, 0)) (by (with_reducible repeat (first | refine bkN ?_ _ | refine bkD ?_ | refine bkA ?_ _)); refine bkR ?_ NB122_129.out _; (with_reducible repeat (first | refine bkN ?_ _ | refine bkD ?_ | refine bkA ?_ _)); refine bkR ?_ NB122_129.out _; (with_reducible repeat (first | refine bkN ?_ _ | refine bkD ?_ | refine bkA ?_ _)); exact BK122.out) NB122_125.out (by simp)); have n1_ := A0q.mk (KpB.blk hk (g' := gb129) (o := .cells #[.string t126, .string t133, .slice none 0 0, .string (⟨#[]⟩ : ByteArray)] 25 (0, 0)) (by (with_reducible repeat (first | refine bkN ?_ _ | refine bkD ?_ | refine bkA ?_ _)); refine bkP (cs := #[.string t126, .string t126, .slice none 0 0, .string (⟨#[]⟩ : ByteArray)]) ?_ 1 _ rfl; (with_reducible repeat (first | refine bkN ?_ _ | refine bkD ?_ | refine bkA ?_ _)); refine bkP (cs := #[.string (⟨#[]⟩ : ByteArray), .string t126, .slice none 0 0, .string (⟨#[]⟩ : ByteArray)]) ?_ 0 _ rfl; (with_reducible repeat (first | refine bkN ?_ _ | refine bkD ?_ | refine bkA ?_ _)); exact BK129.out) NB129_125.out (by simp)); have n2_ := A0q.mk (hb); have n3_ := A0q.mk (hi); clear BK122; clear BK129; clear HB; clear HI125; have BK122 := n0_; have BK129 := n1_; have HB := n2_; have HI125 := n3_; clear n0_ n1_ n2_ n3_; (try clear hb); (try clear hb2); (try clear hk); (try clear hi)))
      go_meet
      case rel => exact ⟨_, (t136), (t137), (t138), (t126), (t133), (by first | rfl | (simp; done) | (simp [*]; done)), H', ⟨by have := HJ1.out; first | omega | exact Nat.le_refl _⟩, ⟨by (with_reducible repeat (first | refine bkN ?_ _ | refine bkD ?_ | refine bkA ?_ _)); exact BK122.out⟩, ⟨by (with_reducible repeat (first | refine bkN ?_ _ | refine bkD ?_ | refine bkA ?_ _)); exact BK129.out⟩, ⟨by repeat (first | (with_reducible first | exact HI125.out | apply I66.alloc | apply I66.drewN | apply I66.drew | apply I66.set_0 | apply I66.set_1 | refine I66.far ?_ NB125_122.out _ | refine I66.far ?_ NB125_129.out _) | exact HI125.out)⟩, ⟨by repeat (first | (with_reducible first | exact HB.out | apply bA | apply bdN | apply bd1 | refine bS ?_ (I66.ge HI125.out) | refine bS ?_ GE122.out | refine bS ?_ GE129.out) | exact HB.out)⟩⟩
     ·
      rw [if_neg c22] at H
      have c22b0 : (t130 == 46) = false := beq_eq_false_iff_ne.mpr c22
      have c22b1 : (t130 != 46) = true := bne_iff_ne.mpr c22
      (first | rw [c22b0] | (simp only [i64_w, i32_w]; rw [c22b0]) | rw [c22b1] | skip)
      have H' := A0q.mk H
      clear H
      go_wp2
      go_meet
      case rel => exact ⟨_, (t130), (t131), (t132), ((⟨#[]⟩ : ByteArray)), (t126), (by first | rfl | (simp; done) | (simp [*]; done)), H', ⟨by have := HJ1.out; first | omega | exact Nat.le_refl _⟩, ⟨by (with_reducible repeat (first | refine bkN ?_ _ | refine bkD ?_ | refine bkA ?_ _)); exact BK122.out⟩, ⟨by (with_reducible repeat (first | refine bkN ?_ _ | refine bkD ?_ | refine bkA ?_ _)); exact BK129.out⟩, ⟨by repeat (first | (with_reducible first | exact HI125.out | apply I66.alloc | apply I66.drewN | apply I66.drew | apply I66.set_0 | apply I66.set_1 | refine I66.far ?_ NB125_122.out _ | refine I66.far ?_ NB125_129.out _) | exact HI125.out)⟩, ⟨by repeat (first | (with_reducible first | exact HB.out | apply bA | apply bdN | apply bd1 | refine bS ?_ (I66.ge HI125.out) | refine bS ?_ GE122.out | refine bS ?_ GE129.out) | exact HB.out)⟩⟩
    case rest =>
     clear HC14
     try clear c1
     try clear c2
     try clear p2
     try clear c4
     try clear c5
     try clear c10
     try clear c15
     try clear c18
     try clear c19
     try clear c22
     try clear c22b0
     try clear c22b1
     try clear hcz11_0
     try clear hcz11_1
     try clear hcz11_2
     try clear hcz11_3
     try clear hcz20_0
     try clear hcz20_1
     try clear hcz20_2
     try clear hcz20_3
     try clear hfz11_0
     try clear hfz11_1
     try clear hfz11_2
     try clear hfz11_3
     try clear hfz20_0
     try clear hfz20_1
     try clear hfz20_2
     try clear hfz20_3
     try clear p2
     obtain ⟨kq, x6_13, x126000_13, x126001_13, x130000_13, x130001_13, rfl, HA, HJ13, BK122, BK129, HI125, HB⟩ := hcut
     cases kq with
     | zero => exact absurd HA.out (by simp [lPa.j1])
     | succ kj13 =>
      have H := HA.out
      clear HA
      simp only [lPa.j1] at H
      have H' := A0q.mk H
      clear H
      go_wp2
      go_loopg [6] kj13 (fun kq v6 w' => ∃ (x6_3 : Int) (x126000_3 : ByteArray) (x126001_3 : Int) (x130002_3 : List (S31)) (u130002 : Value), v6 = .int .u8 x6_3 ∧ A0q (lPa.l0 kq x6_3 x126000_3 x126001_3 x130000_13 x130001_13 x130002_3 (⟨#[]⟩ : ByteArray) = some (r1, r2, r3, r4, r5)) ∧ A0q (kq ≤ kj13) ∧ A0q (Kd.S k31 31 w' w.heap.size (fun _ => True) u130002 x130002_3) ∧ A0q (w'.heap[gb122]? = some (.cells #[.string (⟨#[]⟩ : ByteArray), .string (⟨#[]⟩ : ByteArray), (.slice none 0 0), .string (⟨#[]⟩ : ByteArray)] 25 (0, 0))) ∧ A0q (w'.heap[gb129]? = some (.cells #[.string x130000_13, .string x130001_13, u130002, .string (⟨#[]⟩ : ByteArray)] 25 (0, 0))) ∧ A0q (I66 w w' gb125 x126000_3 x126001_3) ∧ A0q (Below w.heap.size w w'))
      case atStart => exact ⟨(x6_13), (x126000_13), (x126001_13), (([] : List (S31))), (.slice none 0 0), (by first | rfl | (simp; done) | (simp [*]; done)), H', ⟨Nat.le_refl _⟩, ⟨by first | exact Kd.S_nil _ _ _ _ _ | exact Kd.N_nil _ _ _ _ _ | exact Kd.V_nil _ _ _ _ _ | exact Kd.Q_nil _ _ _ _ _ | exact Kd.R_nil _ _ _ _ _⟩, ⟨by (with_reducible repeat (first | refine bkN ?_ _ | refine bkD ?_ | refine bkA ?_ _)); exact BK122.out⟩, ⟨by (with_reducible repeat (first | refine bkN ?_ _ | refine bkD ?_ | refine bkA ?_ _)); exact BK129.out⟩, ⟨by repeat (first | (with_reducible first | exact HI125.out | apply I66.alloc | apply I66.drewN | apply I66.drew | apply I66.set_0 | apply I66.set_1 | refine I66.far ?_ NB125_122.out _ | refine I66.far ?_ NB125_129.out _) | exact HI125.out)⟩, ⟨by repeat (first | (with_reducible first | exact HB.out | apply bA | apply bdN | apply bd1 | refine bS ?_ (I66.ge HI125.out) | refine bS ?_ GE122.out | refine bS ?_ GE129.out) | exact HB.out)⟩⟩
      case round =>
       clear H'
       try clear c1
       try clear c2
       try clear p2
       try clear c4
       try clear c5
       try clear c10
       try clear c15
       try clear c18
       try clear c19
       try clear c22
       try clear c22b0
       try clear c22b1
       try clear hcz11_0
       try clear hcz11_1
       try clear hcz11_2
       try clear hcz11_3
       try clear hcz20_0
       try clear hcz20_1
       try clear hcz20_2
       try clear hcz20_3
       try clear hfz11_0
       try clear hfz11_1
       try clear hfz11_2
       try clear hfz11_3
       try clear hfz20_0
       try clear hfz20_1
       try clear hfz20_2
       try clear hfz20_3
       try clear p2
       obtain ⟨x6_3, x126000_3, x126001_3, x130002_3, u130002, rfl, HA, HK3, HO_130002, BK122, BK129, HI125, HB⟩ := hrel
       cases gk with
       | zero => exact absurd HA.out (by simp [lPa.l0])
       | succ k3 =>
        have H := HA.out
        clear HA
        simp only [lPa.l0] at H
        have HC30 := A0q.mk H
        clear H
        go_upto_region 9 with (fail)
        go_cut [42] (fun v42 wc => ∃ (kq : Nat) (x42_29 : Bool), v42 = .bool x42_29 ∧ A0q (lPa.j3 kq x42_29 x126000_3 x126001_3 x130000_13 x130001_13 x130002_3 (⟨#[]⟩ : ByteArray) = some (r1, r2, r3, r4, r5)) ∧ A0q (kq ≤ k3) ∧ A0q (Kd.S k31 31 wc w.heap.size (fun _ => True) u130002 x130002_3) ∧ A0q (wc.heap[gb122]? = some (.cells #[.string (⟨#[]⟩ : ByteArray), .string (⟨#[]⟩ : ByteArray), (.slice none 0 0), .string (⟨#[]⟩ : ByteArray)] 25 (0, 0))) ∧ A0q (wc.heap[gb129]? = some (.cells #[.string x130000_13, .string x130001_13, u130002, .string (⟨#[]⟩ : ByteArray)] 25 (0, 0))) ∧ A0q (I66 w wc gb125 x126000_3 x126001_3) ∧ A0q (Below w.heap.size w wc))
        case first =>
         have H := HC30.out
         clear HC30
         by_cases c31 : x6_3 = 59
         ·
          rw [if_pos c31] at H
          have c31b0 : (x6_3 == 59) = true := beq_iff_eq.mpr c31
          have c31b1 : (x6_3 != 59) = false := bne_eq_false_iff_eq.mpr c31
          clear c31
          (first | rw [c31b0] | (simp only [i64_w, i32_w]; rw [c31b0]) | rw [c31b1] | skip)
          have H' := A0q.mk H
          clear H
          obtain ⟨HGz32, hgz32⟩ := HI125.out
          have hcz32_0 := cellS66_0 HGz32
          have hcz32_1 := cellS66_1 HGz32
          have hfz32_0 := bkF HGz32 0
          have hfz32_1 := bkF HGz32 1
          clear HGz32 hgz32
          go_wp2
          go_meet
          case rel => exact ⟨_, ((x126001_3 == 0)), (by first | rfl | (simp; done) | (simp [*]; done)), H', ⟨by have := HJ1.out; have := HJ13.out; have := HK3.out; first | omega | exact Nat.le_refl _⟩, ⟨by (with_reducible repeat (first | apply Kd.S_alloc | apply Kd.S_drewN | apply Kd.S_drew)); exact HO_130002.out⟩, ⟨by (with_reducible repeat (first | refine bkN ?_ _ | refine bkD ?_ | refine bkA ?_ _)); exact BK122.out⟩, ⟨by (with_reducible repeat (first | refine bkN ?_ _ | refine bkD ?_ | refine bkA ?_ _)); exact BK129.out⟩, ⟨by repeat (first | (with_reducible first | exact HI125.out | apply I66.alloc | apply I66.drewN | apply I66.drew | apply I66.set_0 | apply I66.set_1 | refine I66.far ?_ NB125_122.out _ | refine I66.far ?_ NB125_129.out _) | exact HI125.out)⟩, ⟨by repeat (first | (with_reducible first | exact HB.out | apply bA | apply bdN | apply bd1 | refine bS ?_ (I66.ge HI125.out) | refine bS ?_ GE122.out | refine bS ?_ GE129.out) | exact HB.out)⟩⟩
         ·
          rw [if_neg c31] at H
          have c31b0 : (x6_3 == 59) = false := beq_eq_false_iff_ne.mpr c31
          have c31b1 : (x6_3 != 59) = true := bne_iff_ne.mpr c31
          (first | rw [c31b0] | (simp only [i64_w, i32_w]; rw [c31b0]) | rw [c31b1] | skip)
          have H' := A0q.mk H
          clear H
          go_wp2
          go_meet
          case rel => exact ⟨_, (false), (by first | rfl | (simp; done) | (simp [*]; done)), H', ⟨by have := HJ1.out; have := HJ13.out; have := HK3.out; first | omega | exact Nat.le_refl _⟩, ⟨by (with_reducible repeat (first | apply Kd.S_alloc | apply Kd.S_drewN | apply Kd.S_drew)); exact HO_130002.out⟩, ⟨by (with_reducible repeat (first | refine bkN ?_ _ | refine bkD ?_ | refine bkA ?_ _)); exact BK122.out⟩, ⟨by (with_reducible repeat (first | refine bkN ?_ _ | refine bkD ?_ | refine bkA ?_ _)); exact BK129.out⟩, ⟨by repeat (first | (with_reducible first | exact HI125.out | apply I66.alloc | apply I66.drewN | apply I66.drew | apply I66.set_0 | apply I66.set_1 | refine I66.far ?_ NB125_122.out _ | refine I66.far ?_ NB125_129.out _) | exact HI125.out)⟩, ⟨by repeat (first | (with_reducible first | exact HB.out | apply bA | apply bdN | apply bd1 | refine bS ?_ (I66.ge HI125.out) | refine bS ?_ GE122.out | refine bS ?_ GE129.out) | exact HB.out)⟩⟩
        case rest =>
         clear HC30
         try clear c1
         try clear c2
         try clear p2
         try clear c3
         try clear c4
         try clear c5
         try clear c10
         try clear c15
         try clear c18
         try clear c19
         try clear c22
         try clear c22b0
         try clear c22b1
         try clear c31
         try clear c31b0
         try clear c31b1
         try clear hcz11_0
         try clear hcz11_1
         try clear hcz11_2
         try clear hcz11_3
         try clear hcz20_0
         try clear hcz20_1
         try clear hcz20_2
         try clear hcz20_3
         try clear hcz32_0
         try clear hcz32_1
         try clear hfz11_0
         try clear hfz11_1
         try clear hfz11_2
         try clear hfz11_3
         try clear hfz20_0
         try clear hfz20_1
         try clear hfz20_2
         try clear hfz20_3
         try clear hfz32_0
         try clear hfz32_1
         try clear p2
         obtain ⟨kq, x42_29, rfl, HA, HJ29, HO_130002, BK122, BK129, HI125, HB⟩ := hcut
         cases kq with
         | zero => exact absurd HA.out (by simp [lPa.j3])
         | succ kj29 =>
          have H := HA.out
          clear HA
          simp only [lPa.j3] at H
          by_cases c33 : x42_29 = true
          ·
           subst c33
           have H1 : ((lrn.f kj29 x126000_3 x126001_3).bind fun bt139 => ((lrs.f bt139.2.1 bt139.2.2 (⟨#[61]⟩ : ByteArray)).bind fun bt143 => (lPa.l1 kj29 bt143.1 bt143.2.1 bt143.2.2 x130000_13 x130001_13 x130002_3 (⟨#[]⟩ : ByteArray) bt139.1 ([] : List ByteArray)))) = some (r1, r2, r3, r4, r5) := by rw [if_pos rfl] at H; exact H
           clear H
           have H := H1
           clear H1
           replace H := Option.bind_eq_some_iff.mp H
           obtain ⟨⟨t139, t140, t141⟩, A340, H⟩ := H
           replace H : ((lrs.f t140 t141 (⟨#[61]⟩ : ByteArray)).bind fun bt143 => (lPa.l1 kj29 bt143.1 bt143.2.1 bt143.2.2 x130000_13 x130001_13 x130002_3 (⟨#[]⟩ : ByteArray) t139 ([] : List ByteArray))) = some (r1, r2, r3, r4, r5) := H
           have A34 := A0q.mk A340
           clear A340
           replace H := Option.bind_eq_some_iff.mp H
           obtain ⟨⟨t143, t144, t145⟩, A350, H⟩ := H
           replace H : (lPa.l1 kj29 t143 t144 t145 x130000_13 x130001_13 x130002_3 (⟨#[]⟩ : ByteArray) t139 ([] : List ByteArray)) = some (r1, r2, r3, r4, r5) := H
           have A35 := A0q.mk A350
           clear A350
           have H' := A0q.mk H
           clear H
           go_wp2_with (first | ((with_reducible refine gC (f := 42) rfl ?_); refine goesL_ (some 44) rfl rfl Tryz.func42 (by kernel_rfl) rfl #[.pointer (some ⟨gb125, 0, none⟩)] rfl (by (try simp only [List.map_toArray, List.map_cons, List.map_nil]); first | done | rfl | (simp only [List.length_drop, List.length_take]; rfl)) ?_; (with_reducible refine (lrn.calls kj29 gb125 x126000_3 x126001_3 t139 t140 t141 w _ ?side1 ?side2 A34.out).mono ?_); (case side1 => repeat (first | (with_reducible first | exact HI125.out | apply I66.alloc | apply I66.drewN | apply I66.drew | apply I66.set_0 | apply I66.set_1 | refine I66.far ?_ NB125_122.out _ | refine I66.far ?_ NB125_129.out _) | exact HI125.out)); (case side2 => repeat (first | (with_reducible first | exact HB.out | apply bA | apply bdN | apply bd1 | refine bS ?_ (I66.ge HI125.out) | refine bS ?_ GE122.out | refine bS ?_ GE129.out) | exact HB.out)); rintro e w36 ⟨rfl, hi, hb, hk⟩; refine ⟨_, rfl, ?_⟩; have n0_ := A0q.mk (Kd.S_mono (Kd.S_keep (I66.apartS (show I66 w _ gb125 x126000_3 x126001_3 from by repeat (first | (with_reducible first | exact HI125.out | apply I66.alloc | apply I66.drewN | apply I66.drew | apply I66.set_0 | apply I66.set_1 | refine I66.far ?_ NB125_122.out _ | refine I66.far ?_ NB125_129.out _) | exact HI125.out)) (by (with_reducible repeat (first | apply Kd.S_alloc | apply Kd.S_drewN | apply Kd.S_drew)); exact HO_130002.out) (by decide)) hk (fun _ h => h.2)) (fun _ h => h.1)); have n1_ := A0q.mk (KpB.blk hk (g' := gb122) (o := .cells #[.string (⟨#[]⟩ : ByteArray), .string (⟨#[]⟩ : ByteArray), .slice none 0 0, .string (⟨#[]⟩ : ByteArray)] 25 (0, 0)) (by (with_reducible repeat (first | refine bkN ?_ _ | refine bkD ?_ | refine bkA ?_ _)); exact BK122.out) NB122_125.out (by simp)); have n2_ := A0q.mk (KpB.blk hk (g' := gb129) (o := .cells #[.string x130000_13, .string x130001_13, u130002, .string (⟨#[]⟩ : ByteArray)] 25 (0, 0)) (by (with_reducible repeat (first | refine bkN ?_ _ | refine bkD ?_ | refine bkA ?_ _)); exact BK129.out) NB129_125.out (by simp)); have n3_ := A0q.mk (hb); have n4_ := A0q.mk (hi); clear HO_130002; clear BK122; clear BK129; clear HB; clear HI125; have HO_130002 := n0_; have BK122 := n1_; have BK129 := n2_; have HB := n3_; have HI125 := n4_; clear n0_ n1_ n2_ n3_ n4_; (try clear hb); (try clear hb2); (try clear hk); (try clear hi)) | ((with_reducible refine gate_dst (N := 7) rfl ?_); refine box_event ?hg (N := 7) ?hd (cs := #[.string (⟨#[]⟩ : ByteArray), .slice none 0 0]) (t := 31) ?hr ?_; (case hd => rfl); (case hg => rfl); (case hr => first | (go_simp; done) | (go_simp; rfl)); intro gb142 hg w37 hbox hb; have n0_ := A0q.mk (Kd.S_below (Kd.S_elderB (by (with_reducible repeat (first | apply Kd.S_alloc | apply Kd.S_drewN | apply Kd.S_drew)); exact HO_130002.out) gb142 (Nat.le_of_eq hg.symm)) hb); have n1_ := A0q.mk (bkB (g := gb122) (o := .cells #[.string (⟨#[]⟩ : ByteArray), .string (⟨#[]⟩ : ByteArray), .slice none 0 0, .string (⟨#[]⟩ : ByteArray)] 25 (0, 0)) (by (with_reducible repeat (first | refine bkN ?_ _ | refine bkD ?_ | refine bkA ?_ _)); exact BK122.out) hb); have n2_ := A0q.mk (bkB (g := gb129) (o := .cells #[.string x130000_13, .string x130001_13, u130002, .string (⟨#[]⟩ : ByteArray)] 25 (0, 0)) (by (with_reducible repeat (first | refine bkN ?_ _ | refine bkD ?_ | refine bkA ?_ _)); exact BK129.out) hb); have n3_ := A0q.mk (I66.below (by repeat (first | (with_reducible first | exact HI125.out | apply I66.alloc | apply I66.drewN | apply I66.drew | apply I66.set_0 | apply I66.set_1 | refine I66.far ?_ NB125_122.out _ | refine I66.far ?_ NB125_129.out _) | exact HI125.out)) hb); have n4_ := A0q.mk (bT (by repeat (first | (with_reducible first | exact HB.out | apply bA | apply bdN | apply bd1 | refine bS ?_ (I66.ge HI125.out) | refine bS ?_ GE122.out | refine bS ?_ GE129.out) | exact HB.out)) hb); have n5_ := A0q.mk (hbox); have n6_ := A0q.mk ((by rw [hg]; exact (bZ (by repeat (first | (with_reducible first | exact HB.out | apply bA | apply bdN | apply bd1 | refine bS ?_ (I66.ge HI125.out) | refine bS ?_ GE122.out | refine bS ?_ GE129.out) | exact HB.out))) : w.heap.size ≤ gb142)); have n7_ := A0q.mk ((by rw [hg]; exact (bZ (by repeat (first | (with_reducible first | exact HB.out | apply bA | apply bdN | apply bd1 | refine bS ?_ (I66.ge HI125.out) | refine bS ?_ GE122.out | refine bS ?_ GE129.out) | exact HB.out))) : w.heap.size ≤ gb142)); have n8_ := A0q.mk ((by rw [hg]; exact Nat.ne_of_lt (bkL (g := gb122) (o := .cells #[.string (⟨#[]⟩ : ByteArray), .string (⟨#[]⟩ : ByteArray), .slice none 0 0, .string (⟨#[]⟩ : ByteArray)] 25 (0, 0)) (by (with_reducible repeat (first | refine bkN ?_ _ | refine bkD ?_ | refine bkA ?_ _)); exact BK122.out)) : gb122 ≠ gb142)); have n9_ := A0q.mk ((by rw [hg]; exact Nat.ne_of_gt (bkL (g := gb122) (o := .cells #[.string (⟨#[]⟩ : ByteArray), .string (⟨#[]⟩ : ByteArray), .slice none 0 0, .string (⟨#[]⟩ : ByteArray)] 25 (0, 0)) (by (with_reducible repeat (first | refine bkN ?_ _ | refine bkD ?_ | refine bkA ?_ _)); exact BK122.out)) : gb142 ≠ gb122)); have n10_ := A0q.mk ((by rw [hg]; exact Nat.ne_of_lt (bkL (g := gb129) (o := .cells #[.string x130000_13, .string x130001_13, u130002, .string (⟨#[]⟩ : ByteArray)] 25 (0, 0)) (by (with_reducible repeat (first | refine bkN ?_ _ | refine bkD ?_ | refine bkA ?_ _)); exact BK129.out)) : gb129 ≠ gb142)); have n11_ := A0q.mk ((by rw [hg]; exact Nat.ne_of_gt (bkL (g := gb129) (o := .cells #[.string x130000_13, .string x130001_13, u130002, .string (⟨#[]⟩ : ByteArray)] 25 (0, 0)) (by (with_reducible repeat (first | refine bkN ?_ _ | refine bkD ?_ | refine bkA ?_ _)); exact BK129.out)) : gb142 ≠ gb129)); have n12_ := A0q.mk ((by rw [hg]; exact Nat.ne_of_lt (I66.lt (show I66 w _ gb125 t140 t141 from by repeat (first | (with_reducible first | exact HI125.out | apply I66.alloc | apply I66.drewN | apply I66.drew | apply I66.set_0 | apply I66.set_1 | refine I66.far ?_ NB125_122.out _ | refine I66.far ?_ NB125_129.out _) | exact HI125.out))) : gb125 ≠ gb142)); have n13_ := A0q.mk ((by rw [hg]; exact Nat.ne_of_gt (I66.lt (show I66 w _ gb125 t140 t141 from by repeat (first | (with_reducible first | exact HI125.out | apply I66.alloc | apply I66.drewN | apply I66.drew | apply I66.set_0 | apply I66.set_1 | refine I66.far ?_ NB125_122.out _ | refine I66.far ?_ NB125_129.out _) | exact HI125.out))) : gb142 ≠ gb125)); clear HO_130002; clear BK122; clear BK129; clear HI125; clear HB; have HO_130002 := n0_; have BK122 := n1_; have BK129 := n2_; have HI125 := n3_; have HB := n4_; have BK142 := n5_; have GW142 := n6_; have GE142 := n7_; have NB122_142 := n8_; have NB142_122 := n9_; have NB129_142 := n10_; have NB142_129 := n11_; have NB125_142 := n12_; have NB142_125 := n13_; clear n0_ n1_ n2_ n3_ n4_ n5_ n6_ n7_ n8_ n9_ n10_ n11_ n12_ n13_; clear hb hbox hg; have hnb38 := NB142_122.out; have hnc38 := NB122_142.out; have hnb39 := NB142_129.out; have hnc39 := NB129_142.out; have hnb40 := NB142_125.out; have hnc40 := NB125_142.out; have hcz41_0 : w37.cell? ⟨gb142, 0, none⟩ = some (.string (⟨#[]⟩ : ByteArray)) := (bkC BK142.out 0).trans rfl; have hcz41_1 : w37.cell? ⟨gb142, 1, none⟩ = some (.slice none 0 0) := (bkC BK142.out 1).trans rfl; have hfz41_0 := bkF BK142.out 0; have hfz41_1 := bkF BK142.out 1) | ((with_reducible refine gC (f := 43) rfl ?_); refine goesL_ (some 47) rfl rfl Tryz.func43 (by kernel_rfl) rfl #[.pointer (some ⟨gb125, 0, none⟩), .string (⟨#[61]⟩ : ByteArray)] rfl (by (try simp only [List.map_toArray, List.map_cons, List.map_nil]); first | done | rfl | (simp only [List.length_drop, List.length_take]; rfl)) ?_; (with_reducible refine (lrs.calls gb125 t140 t141 (⟨#[61]⟩ : ByteArray) t143 t144 t145 w _ ?side1 ?side2 A35.out).mono ?_); (case side1 => repeat (first | (with_reducible first | exact HI125.out | apply I66.alloc | apply I66.drewN | apply I66.drew | apply I66.set_0 | apply I66.set_1 | refine I66.far ?_ NB125_122.out _ | refine I66.far ?_ NB125_129.out _ | refine I66.far ?_ NB125_142.out _) | exact HI125.out)); (case side2 => repeat (first | (with_reducible first | exact HB.out | apply bA | apply bdN | apply bd1 | refine bS ?_ (I66.ge HI125.out) | refine bS ?_ GE122.out | refine bS ?_ GE129.out | refine bS ?_ GE142.out) | exact HB.out)); rintro e w42 ⟨rfl, hi, hb, hk⟩; refine ⟨_, rfl, ?_⟩; have n0_ := A0q.mk (Kd.S_mono (Kd.S_keep (I66.apartS (show I66 w _ gb125 t140 t141 from by repeat (first | (with_reducible first | exact HI125.out | apply I66.alloc | apply I66.drewN | apply I66.drew | apply I66.set_0 | apply I66.set_1 | refine I66.far ?_ NB125_122.out _ | refine I66.far ?_ NB125_129.out _ | refine I66.far ?_ NB125_142.out _) | exact HI125.out)) (by (with_reducible repeat (first | apply Kd.S_alloc | apply Kd.S_drewN | apply Kd.S_drew)); exact (Kd.S_mono (Kd.S_far (p := ⟨gb142, 1, none⟩) (Kd.S_far (p := ⟨gb142, 0, none⟩) (Kd.S_mono HO_130002.out (fun k_ hk => (⟨hk, hk.2⟩ : _ ∧ k_ ≠ gb142))) (fun _ hk => hk.2) (.string t139)) (fun _ hk => hk.2) (.slice none 0 0)) (fun _ h_ => h_.1))) (by decide)) hk (fun _ h => h.2)) (fun _ h => h.1)); have n1_ := A0q.mk (KpB.blk hk (g' := gb122) (o := .cells #[.string (⟨#[]⟩ : ByteArray), .string (⟨#[]⟩ : ByteArray), .slice none 0 0, .string (⟨#[]⟩ : ByteArray)] 25 (0, 0)) (by (with_reducible repeat (first | refine bkN ?_ _ | refine bkD ?_ | refine bkA ?_ _)); refine bkR ?_ NB122_142.out _; (with_reducible repeat (first | refine bkN ?_ _ | refine bkD ?_ | refine bkA ?_ _)); refine bkR ?_ NB122_142.out _; (with_reducible repeat (first | refine bkN ?_ _ | refine bkD ?_ | refine bkA ?_ _)); exact BK122.out) NB122_125.out (by simp)); have n2_ := A0q.mk (KpB.blk hk (g' := gb129) (o := .cells #[.string x130000_13, .string x130001_13, u130002, .string (⟨#[]⟩ : ByteArray)] 25 (0, 0)) (by (with_reducible repeat (first | refine bkN ?_ _ | refine bkD ?_ | refine bkA ?_ _)); refine bkR ?_ NB129_142.out _; (with_reducible repeat (first | refine bkN ?_ _ | refine bkD ?_ | refine bkA ?_ _)); refine bkR ?_ NB129_142.out _; (with_reducible repeat (first | refine bkN ?_ _ | refine bkD ?_ | refine bkA ?_ _)); exact BK129.out) NB129_125.out (by simp)); have n3_ := A0q.mk (KpB.blk hk (g' := gb142) (o := .cells #[.string t139, .slice none 0 0] 31 (0, 0)) (by (with_reducible repeat (first | refine bkN ?_ _ | refine bkD ?_ | refine bkA ?_ _)); refine bkP (cs := #[.string t139, .slice none 0 0]) ?_ 1 _ rfl; (with_reducible repeat (first | refine bkN ?_ _ | refine bkD ?_ | refine bkA ?_ _)); refine bkP (cs := #[.string (⟨#[]⟩ : ByteArray), .slice none 0 0]) ?_ 0 _ rfl; (with_reducible repeat (first | refine bkN ?_ _ | refine bkD ?_ | refine bkA ?_ _)); exact BK142.out) NB142_125.out (by simp)); have n4_ := A0q.mk (hb); have n5_ := A0q.mk (hi); clear HO_130002; clear BK122; clear BK129; clear BK142; clear HB; clear HI125; have HO_130002 := n0_; have BK122 := n1_; have BK129 := n2_; have BK142 := n3_; have HB := n4_; have HI125 := n5_; clear n0_ n1_ n2_ n3_ n4_ n5_; (try clear hb); (try clear hb2); (try clear hk); (try clear hi)))
           go_loopg [6] kj29 (fun kq v6 w' => ∃ (x6_5 : Int) (x126000_5 : ByteArray) (x126001_5 : Int) (x143001_5 : List ByteArray) (u143001 : Value), v6 = .int .u8 x6_5 ∧ A0q (lPa.l1 kq x6_5 x126000_5 x126001_5 x130000_13 x130001_13 x130002_3 (⟨#[]⟩ : ByteArray) t139 x143001_5 = some (r1, r2, r3, r4, r5)) ∧ A0q (kq ≤ kj29) ∧ A0q (Kd.S k31 31 w' w.heap.size (fun k_ => some k_ ≠ (u143001 : Value).ownBlock ∧ k_ ≠ gb142) u130002 x130002_3) ∧ A0q (Kd.R Kd.string 9 w' w.heap.size (fun _ => True) u143001 x143001_5) ∧ A0q (w'.heap[gb122]? = some (.cells #[.string (⟨#[]⟩ : ByteArray), .string (⟨#[]⟩ : ByteArray), (.slice none 0 0), .string (⟨#[]⟩ : ByteArray)] 25 (0, 0))) ∧ A0q (w'.heap[gb129]? = some (.cells #[.string x130000_13, .string x130001_13, u130002, .string (⟨#[]⟩ : ByteArray)] 25 (0, 0))) ∧ A0q (w'.heap[gb142]? = some (.cells #[.string t139, u143001] 31 (0, 0))) ∧ A0q (I66 w w' gb125 x126000_5 x126001_5) ∧ A0q (Below w.heap.size w w'))
           case atStart => exact ⟨(t143), (t144), (t145), (([] : List ByteArray)), (.slice none 0 0), (by first | rfl | (simp; done) | (simp [*]; done)), H', ⟨Nat.le_refl _⟩, ⟨by (with_reducible repeat (first | apply Kd.S_alloc | apply Kd.S_drewN | apply Kd.S_drew)); exact Kd.S_mono HO_130002.out (fun _ hk => ⟨(by simp [Value.ownBlock]), hk.2⟩)⟩, ⟨by first | exact Kd.R_nil _ _ _ _ _ | exact Kd.N_nil _ _ _ _ _ | exact Kd.V_nil _ _ _ _ _ | exact Kd.Q_nil _ _ _ _ _ | exact Kd.S_nil _ _ _ _ _⟩, ⟨by (with_reducible repeat (first | refine bkN ?_ _ | refine bkD ?_ | refine bkA ?_ _)); exact BK122.out⟩, ⟨by (with_reducible repeat (first | refine bkN ?_ _ | refine bkD ?_ | refine bkA ?_ _)); exact BK129.out⟩, ⟨by (with_reducible repeat (first | refine bkN ?_ _ | refine bkD ?_ | refine bkA ?_ _)); exact BK142.out⟩, ⟨by repeat (first | (with_reducible first | exact HI125.out | apply I66.alloc | apply I66.drewN | apply I66.drew | apply I66.set_0 | apply I66.set_1 | refine I66.far ?_ NB125_122.out _ | refine I66.far ?_ NB125_129.out _ | refine I66.far ?_ NB125_142.out _) | exact HI125.out)⟩, ⟨by repeat (first | (with_reducible first | exact HB.out | apply bA | apply bdN | apply bd1 | refine bS ?_ (I66.ge HI125.out) | refine bS ?_ GE122.out | refine bS ?_ GE129.out | refine bS ?_ GE142.out) | exact HB.out)⟩⟩
           case round =>
            clear H'
            try clear c1
            try clear c2
            try clear p2
            try clear c3
            try clear c4
            try clear c5
            try clear c10
            try clear c15
            try clear c18
            try clear c19
            try clear c22
            try clear c22b0
            try clear c22b1
            try clear c31
            try clear c31b0
            try clear c31b1
            try clear c33
            try clear c38
            try clear c39
            try clear c40
            try clear c42
            try clear hcz11_0
            try clear hcz11_1
            try clear hcz11_2
            try clear hcz11_3
            try clear hcz20_0
            try clear hcz20_1
            try clear hcz20_2
            try clear hcz20_3
            try clear hcz32_0
            try clear hcz32_1
            try clear hcz41_0
            try clear hcz41_1
            try clear hfz11_0
            try clear hfz11_1
            try clear hfz11_2
            try clear hfz11_3
            try clear hfz20_0
            try clear hfz20_1
            try clear hfz20_2
            try clear hfz20_3
            try clear hfz32_0
            try clear hfz32_1
            try clear hfz41_0
            try clear hfz41_1
            try clear p2
            obtain ⟨x6_5, x126000_5, x126001_5, x143001_5, u143001, rfl, HA, HK5, HO_130002, HO_143001, BK122, BK129, BK142, HI125, HB⟩ := hrel
            cases gk with
            | zero => exact absurd HA.out (by simp [lPa.l1])
            | succ k5 =>
             have H := HA.out
             clear HA
             simp only [lPa.l1] at H
             have HC43 := A0q.mk H
             clear H
             go_upto_region 12 with (fail)
             go_cut [53] (fun v53 wc => ∃ (kq : Nat) (x53_42 : Bool), v53 = .bool x53_42 ∧ A0q (lPa.j5 kq x6_5 x53_42 x126000_5 x126001_5 x130000_13 x130001_13 x130002_3 (⟨#[]⟩ : ByteArray) t139 x143001_5 = some (r1, r2, r3, r4, r5)) ∧ A0q (kq ≤ k5) ∧ A0q (Kd.S k31 31 wc w.heap.size (fun k_ => some k_ ≠ (u143001 : Value).ownBlock ∧ k_ ≠ gb142) u130002 x130002_3) ∧ A0q (Kd.R Kd.string 9 wc w.heap.size (fun _ => True) u143001 x143001_5) ∧ A0q (wc.heap[gb122]? = some (.cells #[.string (⟨#[]⟩ : ByteArray), .string (⟨#[]⟩ : ByteArray), (.slice none 0 0), .string (⟨#[]⟩ : ByteArray)] 25 (0, 0))) ∧ A0q (wc.heap[gb129]? = some (.cells #[.string x130000_13, .string x130001_13, u130002, .string (⟨#[]⟩ : ByteArray)] 25 (0, 0))) ∧ A0q (wc.heap[gb142]? = some (.cells #[.string t139, u143001] 31 (0, 0))) ∧ A0q (I66 w wc gb125 x126000_5 x126001_5) ∧ A0q (Below w.heap.size w wc))
             case first =>
              have H := HC43.out
              clear HC43
              by_cases c44 : x6_5 = 61
              ·
               rw [if_pos c44] at H
               have c44b0 : (x6_5 == 61) = true := beq_iff_eq.mpr c44
               have c44b1 : (x6_5 != 61) = false := bne_eq_false_iff_eq.mpr c44
               clear c44
               (first | rw [c44b0] | (simp only [i64_w, i32_w]; rw [c44b0]) | rw [c44b1] | skip)
               have H' := A0q.mk H
               clear H
               go_wp2
               go_meet
               case rel => exact ⟨_, (true), (by first | rfl | (simp; done) | (simp [*]; done)), H', ⟨by have := HJ1.out; have := HJ13.out; have := HK3.out; have := HJ29.out; have := HK5.out; first | omega | exact Nat.le_refl _⟩, ⟨by (with_reducible repeat (first | apply Kd.S_alloc | apply Kd.S_drewN | apply Kd.S_drew)); exact HO_130002.out⟩, ⟨by (with_reducible repeat (first | apply Kd.R_alloc | apply Kd.R_drewN | apply Kd.R_drew)); exact HO_143001.out⟩, ⟨by (with_reducible repeat (first | refine bkN ?_ _ | refine bkD ?_ | refine bkA ?_ _)); exact BK122.out⟩, ⟨by (with_reducible repeat (first | refine bkN ?_ _ | refine bkD ?_ | refine bkA ?_ _)); exact BK129.out⟩, ⟨by (with_reducible repeat (first | refine bkN ?_ _ | refine bkD ?_ | refine bkA ?_ _)); exact BK142.out⟩, ⟨by repeat (first | (with_reducible first | exact HI125.out | apply I66.alloc | apply I66.drewN | apply I66.drew | apply I66.set_0 | apply I66.set_1 | refine I66.far ?_ NB125_122.out _ | refine I66.far ?_ NB125_129.out _ | refine I66.far ?_ NB125_142.out _) | exact HI125.out)⟩, ⟨by repeat (first | (with_reducible first | exact HB.out | apply bA | apply bdN | apply bd1 | refine bS ?_ (I66.ge HI125.out) | refine bS ?_ GE122.out | refine bS ?_ GE129.out | refine bS ?_ GE142.out) | exact HB.out)⟩⟩
              ·
               rw [if_neg c44] at H
               have c44b0 : (x6_5 == 61) = false := beq_eq_false_iff_ne.mpr c44
               have c44b1 : (x6_5 != 61) = true := bne_iff_ne.mpr c44
               (first | rw [c44b0] | (simp only [i64_w, i32_w]; rw [c44b0]) | rw [c44b1] | skip)
               have H' := A0q.mk H
               clear H
               go_wp2
               go_meet
               case rel => exact ⟨_, ((x6_5 == 44)), (by first | rfl | (simp; done) | (simp [*]; done)), H', ⟨by have := HJ1.out; have := HJ13.out; have := HK3.out; have := HJ29.out; have := HK5.out; first | omega | exact Nat.le_refl _⟩, ⟨by (with_reducible repeat (first | apply Kd.S_alloc | apply Kd.S_drewN | apply Kd.S_drew)); exact HO_130002.out⟩, ⟨by (with_reducible repeat (first | apply Kd.R_alloc | apply Kd.R_drewN | apply Kd.R_drew)); exact HO_143001.out⟩, ⟨by (with_reducible repeat (first | refine bkN ?_ _ | refine bkD ?_ | refine bkA ?_ _)); exact BK122.out⟩, ⟨by (with_reducible repeat (first | refine bkN ?_ _ | refine bkD ?_ | refine bkA ?_ _)); exact BK129.out⟩, ⟨by (with_reducible repeat (first | refine bkN ?_ _ | refine bkD ?_ | refine bkA ?_ _)); exact BK142.out⟩, ⟨by repeat (first | (with_reducible first | exact HI125.out | apply I66.alloc | apply I66.drewN | apply I66.drew | apply I66.set_0 | apply I66.set_1 | refine I66.far ?_ NB125_122.out _ | refine I66.far ?_ NB125_129.out _ | refine I66.far ?_ NB125_142.out _) | exact HI125.out)⟩, ⟨by repeat (first | (with_reducible first | exact HB.out | apply bA | apply bdN | apply bd1 | refine bS ?_ (I66.ge HI125.out) | refine bS ?_ GE122.out | refine bS ?_ GE129.out | refine bS ?_ GE142.out) | exact HB.out)⟩⟩
             case rest =>
              clear HC43
              try clear c1
              try clear c2
              try clear p2
              try clear c3
              try clear c4
              try clear c5
              try clear c10
              try clear c15
              try clear c18
              try clear c19
              try clear c22
              try clear c22b0
              try clear c22b1
              try clear c31
              try clear c31b0
              try clear c31b1
              try clear c33
              try clear c38
              try clear c39
              try clear c40
              try clear c42
              try clear c43
              try clear c44
              try clear c44b0
              try clear c44b1
              try clear hcz11_0
              try clear hcz11_1
              try clear hcz11_2
              try clear hcz11_3
              try clear hcz20_0
              try clear hcz20_1
              try clear hcz20_2
              try clear hcz20_3
              try clear hcz32_0
              try clear hcz32_1
              try clear hcz41_0
              try clear hcz41_1
              try clear hfz11_0
              try clear hfz11_1
              try clear hfz11_2
              try clear hfz11_3
              try clear hfz20_0
              try clear hfz20_1
              try clear hfz20_2
              try clear hfz20_3
              try clear hfz32_0
              try clear hfz32_1
              try clear hfz41_0
              try clear hfz41_1
              try clear p2
              obtain ⟨kq, x53_42, rfl, HA, HJ42, HO_130002, HO_143001, BK122, BK129, BK142, HI125, HB⟩ := hcut
              cases kq with
              | zero => exact absurd HA.out (by simp [lPa.j5])
              | succ kj42 =>
               have H := HA.out
               clear HA
               simp only [lPa.j5] at H
               by_cases c45 : x53_42 = true
               ·
                subst c45
                have H1 : ((lrv.f x126000_5 x126001_5).bind fun bt146 => (if x143001_5.length < 8796093022208 then ((lrs.f bt146.2.1 bt146.2.2 (⟨#[44, 59, 58]⟩ : ByteArray)).bind fun bt152 => (lPa.l1 kj42 bt152.1 bt152.2.1 bt152.2.2 x130000_13 x130001_13 x130002_3 (⟨#[]⟩ : ByteArray) t139 (x143001_5 ++ [bt146.1]))) else (none))) = some (r1, r2, r3, r4, r5) := by rw [if_pos rfl] at H; exact H
                clear H
                have H := H1
                clear H1
                replace H := Option.bind_eq_some_iff.mp H
                obtain ⟨⟨t146, t147, t148⟩, A460, H⟩ := H
                replace H : (if x143001_5.length < 8796093022208 then ((lrs.f t147 t148 (⟨#[44, 59, 58]⟩ : ByteArray)).bind fun bt152 => (lPa.l1 kj42 bt152.1 bt152.2.1 bt152.2.2 x130000_13 x130001_13 x130002_3 (⟨#[]⟩ : ByteArray) t139 (x143001_5 ++ [t146]))) else (none)) = some (r1, r2, r3, r4, r5) := H
                have A46 := A0q.mk A460
                clear A460
                by_cases c47 : x143001_5.length < 8796093022208
                ·
                 rw [if_pos c47] at H
                 have LMc47 := A0q.mk c47
                 clear c47
                 obtain ⟨y149, hy149⟩ : ∃ y_ : List ByteArray, y_ = (x143001_5 ++ [t146]) := ⟨_, rfl⟩
                 replace H : ((lrs.f t147 t148 (⟨#[44, 59, 58]⟩ : ByteArray)).bind fun bt152 => (lPa.l1 kj42 bt152.1 bt152.2.1 bt152.2.2 x130000_13 x130001_13 x130002_3 (⟨#[]⟩ : ByteArray) t139 y149)) = some (r1, r2, r3, r4, r5) := by first | (rw [hy149]; with_reducible exact H) | (have H2_ := (Option.bind_some _ _).symm.trans H; rw [hy149]; with_reducible exact H2_) | (have H2_ := (Option.bind_some _ _).symm.trans H; with_reducible exact H2_) | with_reducible exact H | (rw [hy149]; exact H) | exact H
                 have Ny149 := A0q.mk hy149
                 clear hy149
                 replace H := Option.bind_eq_some_iff.mp H
                 obtain ⟨⟨t152, t153, t154⟩, A480, H⟩ := H
                 replace H : (lPa.l1 kj42 t152 t153 t154 x130000_13 x130001_13 x130002_3 (⟨#[]⟩ : ByteArray) t139 y149) = some (r1, r2, r3, r4, r5) := H
                 have A48 := A0q.mk A480
                 clear A480
                 have H' := A0q.mk H
                 clear H
                 try go_wp2
                 have n0_ := A0q.mk (Kd.S_drew HO_130002.out)
                 have n1_ := A0q.mk (Kd.R_drew HO_143001.out)
                 have n2_ := A0q.mk (bkD BK122.out)
                 have n3_ := A0q.mk (bkD BK129.out)
                 have n4_ := A0q.mk (bkD BK142.out)
                 have n5_ := A0q.mk (I66.drew HI125.out)
                 have n6_ := A0q.mk (bd1 HB.out)
                 clear HO_130002
                 clear HO_143001
                 clear BK122
                 clear BK129
                 clear BK142
                 clear HI125
                 clear HB
                 have HO_130002 := n0_
                 have HO_143001 := n1_
                 have BK122 := n2_
                 have BK129 := n3_
                 have BK142 := n4_
                 have HI125 := n5_
                 have HB := n6_
                 clear n0_ n1_ n2_ n3_ n4_ n5_ n6_
                 refine start_ (n := 8) (S := fun w' => w'.cell? ⟨gb142, 0, none⟩ = some (.string t139) ∧ w'.cell? ⟨gb142, 1, none⟩ = some (u143001)) (ds := [7]) #[false, false, false, false, false, false, false, false] (by kernel_rfl) rfl rfl ⟨(bkC BK142.out 0).trans rfl, (bkC BK142.out 1).trans rfl⟩ (fun hHeld => ?_); refine with_tabW lPa.tab13 lPa.bits13 (fun HT_ HW_ => ?_)
                 generalize wc.drew = w49 at HO_130002 HO_143001 BK122 BK129 BK142 HI125 HB hHeld ⊢
                 refine pure_ (i := 0) (N := some 54) (v := ?_) (a' := ?_) #[true, false, false, false, false, false, false, false] rfl rfl (any_of HT_.out (by kernel_rfl)) (fun _ _ _ h => h) (Or.inl ⟨by rfl, ?_⟩) ?_ ?_
                 rotate_left
                 ·
                  intro w'
                  go_simp
                  with_reducible rfl
                 rotate_left
                 ·
                  simp only [Act.put, List.setIfInBounds_toArray, List.set_cons_zero, List.set_cons_succ, i64_w, i32_w]
                  rfl
                 refine pure_ (i := 2) (N := some 56) (v := ?_) (a' := ?_) #[true, false, true, false, false, false, false, false] rfl rfl (any_of HT_.out (by kernel_rfl)) (fun _ _ _ h => h) (Or.inl ⟨by rfl, ?_⟩) ?_ ?_
                 rotate_left
                 ·
                  intro w'
                  go_simp
                  with_reducible rfl
                 rotate_left
                 ·
                  simp only [Act.put, List.setIfInBounds_toArray, List.set_cons_zero, List.set_cons_succ, i64_w, i32_w]
                  rfl
                 refine take_ (i := 1) (N := some 55) (v := ?_) (a' := ?_) #[true, true, true, false, false, false, false, false] rfl rfl (take_ofW HT_.out HW_.out (by kernel_rfl)) (fun _ _ _ h => h) (Or.inl ⟨by rfl, ?_⟩) hHeld ?_ ?_
                 rotate_left
                 ·
                  rintro w' ⟨s0, s1⟩
                  go_simp
                  with_reducible rfl
                 rotate_left
                 ·
                  simp only [Act.put, List.setIfInBounds_toArray, List.set_cons_zero, List.set_cons_succ, i64_w, i32_w]
                  rfl
                 refine one_ (i := 3) (N := some 57) #[true, true, true, true, false, false, false, false] rfl rfl (one_of HT_.out (by kernel_rfl)) (by decide) (fun K hK => ?_)
                 refine goes_ Tryz.func44 (by kernel_rfl) rfl #[.pointer (some ⟨gb125, 0, none⟩)] (by rfl) rfl rfl (by (try simp only [List.map_toArray, List.map_cons, List.map_nil]); first | done | rfl | (simp only [List.length_drop, List.length_take]; rfl)) ?_
                 with_reducible refine (lrv.calls gb125 x126000_5 x126001_5 t146 t147 t148 w _ ?side1 ?side2 ?side3 A46.out).mono ?_
                 (case side1 => repeat (first | (with_reducible first | exact HI125.out | apply I66.alloc | apply I66.drewN | apply I66.drew | apply I66.set_0 | apply I66.set_1 | refine I66.far ?_ NB125_122.out _ | refine I66.far ?_ NB125_129.out _ | refine I66.far ?_ NB125_142.out _) | exact HI125.out))
                 (case side2 => repeat (first | (with_reducible first | exact HB.out | apply bA | apply bdN | apply bd1 | refine bS ?_ (I66.ge HI125.out) | refine bS ?_ GE122.out | refine bS ?_ GE129.out | refine bS ?_ GE142.out) | exact HB.out))
                 (case side3 => exact HT.out)
                 rintro e w50 ⟨rfl, hi, hb, hk⟩
                 refine ⟨_, rfl, ?_⟩
                 have n0_ := A0q.mk (Kd.S_mono (Kd.S_keep (I66.apartS (show I66 w _ gb125 x126000_5 x126001_5 from by repeat (first | (with_reducible first | exact HI125.out | apply I66.alloc | apply I66.drewN | apply I66.drew | apply I66.set_0 | apply I66.set_1 | refine I66.far ?_ NB125_122.out _ | refine I66.far ?_ NB125_129.out _ | refine I66.far ?_ NB125_142.out _) | exact HI125.out)) (by (with_reducible repeat (first | apply Kd.S_alloc | apply Kd.S_drewN | apply Kd.S_drew)); exact HO_130002.out) (by decide)) hk (fun _ h => h.2)) (fun _ h => h.1))
                 have n1_ := A0q.mk (Kd.R_mono (Kd.R_keep (I66.apart (show I66 w _ gb125 x126000_5 x126001_5 from by repeat (first | (with_reducible first | exact HI125.out | apply I66.alloc | apply I66.drewN | apply I66.drew | apply I66.set_0 | apply I66.set_1 | refine I66.far ?_ NB125_122.out _ | refine I66.far ?_ NB125_129.out _ | refine I66.far ?_ NB125_142.out _) | exact HI125.out)) (by (with_reducible repeat (first | apply Kd.R_alloc | apply Kd.R_drewN | apply Kd.R_drew)); exact HO_143001.out) (by decide)) hk (fun _ h => h.2)) (fun _ h => h.1))
                 have n2_ := A0q.mk (KpB.blk hk (g' := gb122) (o := .cells #[.string (⟨#[]⟩ : ByteArray), .string (⟨#[]⟩ : ByteArray), .slice none 0 0, .string (⟨#[]⟩ : ByteArray)] 25 (0, 0)) (by (with_reducible repeat (first | refine bkN ?_ _ | refine bkD ?_ | refine bkA ?_ _)); exact BK122.out) NB122_125.out (by simp))
                 have n3_ := A0q.mk (KpB.blk hk (g' := gb129) (o := .cells #[.string x130000_13, .string x130001_13, u130002, .string (⟨#[]⟩ : ByteArray)] 25 (0, 0)) (by (with_reducible repeat (first | refine bkN ?_ _ | refine bkD ?_ | refine bkA ?_ _)); exact BK129.out) NB129_125.out (by simp))
                 have n4_ := A0q.mk (KpB.blk hk (g' := gb142) (o := .cells #[.string t139, u143001] 31 (0, 0)) (by (with_reducible repeat (first | refine bkN ?_ _ | refine bkD ?_ | refine bkA ?_ _)); exact BK142.out) NB142_125.out (by simp))
                 have n5_ := A0q.mk (hb)
                 have n6_ := A0q.mk (hi)
                 clear HO_130002
                 clear HO_143001
                 clear BK122
                 clear BK129
                 clear BK142
                 clear HB
                 clear HI125
                 have HO_130002 := n0_
                 have HO_143001 := n1_
                 have BK122 := n2_
                 have BK129 := n3_
                 have BK142 := n4_
                 have HB := n5_
                 have HI125 := n6_
                 clear n0_ n1_ n2_ n3_ n4_ n5_ n6_
                 (try clear hb)
                 (try clear hb2)
                 (try clear hk)
                 (try clear hi)
                 refine hK.out _ _ ⟨(bkC BK142.out 0).trans rfl, (bkC BK142.out 1).trans rfl⟩ (fun hHeld => ?_)
                 clear hK K
                 refine norm_ (a' := ?_) ?_ ?_
                 rotate_left
                 ·
                  show Act.put _ (some 57) _ = _
                  simp only [Act.put, List.setIfInBounds_toArray, List.set_cons_zero, List.set_cons_succ, i64_w, i32_w]
                  rfl
                 refine one_ (i := 4) (N := some 58) #[true, true, true, true, true, false, false, false] rfl rfl (one_of HT_.out (by kernel_rfl)) (by decide) (fun K hK => ?_)
                 refine value_ (w1 := ?_) (v := ?_) (by rfl) rfl ?_ ?_
                 rotate_left 2
                 ·
                  go_simp
                  constructor
                  ·
                   rfl
                  ·
                   rfl
                 refine hK.out _ _ ⟨(bkC (bkA BK142.out _) 0).trans rfl, (bkC (bkA BK142.out _) 1).trans rfl⟩ (fun hHeld => ?_)
                 clear hK K
                 refine norm_ (a' := ?_) ?_ ?_
                 rotate_left
                 ·
                  show Act.put _ (some 58) _ = _
                  simp only [Act.put, List.setIfInBounds_toArray, List.set_cons_zero, List.set_cons_succ, i64_w, i32_w]
                  rfl
                 refine one_ (i := 5) (N := some 59) #[true, true, true, true, true, true, false, false] rfl rfl (one_of HT_.out (by kernel_rfl)) (by decide) (fun K hK => ?_)
                 refine Kd.R_append_step Kd.string (w0 := w) w.heap.size (by rfl) (.tmp 55) (.tmp 58) 29 9 (.string ⟨#[]⟩) 16 rfl Tryz.underlying29 info9 rfl (by decide) (by omega) u143001 x143001_5 t146 [.string t146] (fun _ => True) (fun _ => False) rfl rfl ?aP (fun _ hk => hk.elim) ?aF ?aO ?aB ?aS ?aL ?_
                 (case aP => exact rfl)
                 (case aB => exact (by repeat (first | (with_reducible first | exact HB.out | apply bA | apply bdN | apply bd1 | refine bS ?_ (I66.ge HI125.out) | refine bS ?_ GE122.out | refine bS ?_ GE129.out | refine bS ?_ GE142.out) | exact HB.out)))
                 (case aF => exact (fun _ _ => trivial))
                 (case aO => exact (by (with_reducible repeat (first | apply Kd.R_alloc | apply Kd.R_drewN | apply Kd.R_drew)); exact HO_143001.out))
                 (case aS => exact (bZ (by repeat (first | (with_reducible first | exact HB.out | apply bA | apply bdN | apply bd1 | refine bS ?_ (I66.ge HI125.out) | refine bS ?_ GE122.out | refine bS ?_ GE129.out | refine bS ?_ GE142.out) | exact HB.out))))
                 (case aL => have := LMc47.out; omega)
                 intro v150 w51 ho hb hg hat
                 rw [← Ny149.out] at ho
                 have n0_ := A0q.mk (Kd.S_after (ok := (fun k_ => k_ ≠ gb142)) (by (with_reducible repeat (first | apply Kd.S_alloc | apply Kd.S_drewN | apply Kd.S_drew)); exact Kd.S_mono HO_130002.out (fun _ hk => ⟨hk.2, hk.1⟩)) hg hat)
                 have n1_ := A0q.mk (blk_grown (g := gb122) (o := .cells #[.string (⟨#[]⟩ : ByteArray), .string (⟨#[]⟩ : ByteArray), .slice none 0 0, .string (⟨#[]⟩ : ByteArray)] 25 (0, 0)) (by (with_reducible repeat (first | refine bkN ?_ _ | refine bkD ?_ | refine bkA ?_ _)); exact BK122.out) hg (Kd.R_ne HO_143001.out BK122.out (by decide)))
                 have n2_ := A0q.mk (blk_grown (g := gb129) (o := .cells #[.string x130000_13, .string x130001_13, u130002, .string (⟨#[]⟩ : ByteArray)] 25 (0, 0)) (by (with_reducible repeat (first | refine bkN ?_ _ | refine bkD ?_ | refine bkA ?_ _)); exact BK129.out) hg (Kd.R_ne HO_143001.out BK129.out (by decide)))
                 have n3_ := A0q.mk (blk_grown (g := gb142) (o := .cells #[.string t139, u143001] 31 (0, 0)) (by (with_reducible repeat (first | refine bkN ?_ _ | refine bkD ?_ | refine bkA ?_ _)); exact BK142.out) hg (Kd.R_ne HO_143001.out BK142.out (by decide)))
                 have n4_ := A0q.mk (I66.grown (by repeat (first | (with_reducible first | exact HI125.out | apply I66.alloc | apply I66.drewN | apply I66.drew | apply I66.set_0 | apply I66.set_1 | refine I66.far ?_ NB125_122.out _ | refine I66.far ?_ NB125_129.out _ | refine I66.far ?_ NB125_142.out _) | exact HI125.out)) hg (I66.own_ne HI125.out HO_143001.out (by decide)))
                 have n5_ := A0q.mk (hb)
                 have n6_ := A0q.mk (ho)
                 clear HO_130002
                 clear BK122
                 clear BK129
                 clear BK142
                 clear HI125
                 clear HB
                 clear HO_143001
                 have HO_130002 := n0_
                 have BK122 := n1_
                 have BK129 := n2_
                 have BK142 := n3_
                 have HI125 := n4_
                 have HB := n5_
                 have HO151 := n6_
                 clear n0_ n1_ n2_ n3_ n4_ n5_ n6_
                 clear ho hb hg hat
                 obtain ⟨Ao52, co52, eo52⟩ := Kd.R_slice HO151.out
                 (first | subst eo52 | (injection eo52 with f1_ f2_ f3_; have f4_ := f1_.symm; have f5_ := f3_.symm; clear f1_ f2_ f3_; subst f4_; subst f5_))
                 refine hK.out _ _ ⟨(bkC BK142.out 0).trans rfl, (bkC BK142.out 1).trans rfl⟩ (fun hHeld => ?_)
                 clear hK K
                 refine norm_ (a' := ?_) ?_ ?_
                 rotate_left
                 ·
                  show Act.put _ (some 59) _ = _
                  simp only [Act.put, List.setIfInBounds_toArray, List.set_cons_zero, List.set_cons_succ, i64_w, i32_w]
                  rfl
                 refine pure_ (i := 6) (N := some 60) (v := ?_) (a' := ?_) #[true, true, true, true, true, true, true, false] rfl rfl (any_of HT_.out (by kernel_rfl)) (fun _ _ _ h => h) (Or.inl ⟨by rfl, ?_⟩) ?_ ?_
                 rotate_left
                 ·
                  intro w'
                  go_simp
                  with_reducible rfl
                 rotate_left
                 ·
                  simp only [Act.put, List.setIfInBounds_toArray, List.set_cons_zero, List.set_cons_succ, i64_w, i32_w]
                  rfl
                 refine last_ (i := 7) (N := none) #[true, true, true, true, true, true, true, true] rfl rfl (one_of HT_.out (by kernel_rfl)) (by decide) (fun K hK => ?_)
                 have hs53 : w51.cell? ⟨gb142, 1, none⟩ = some (u143001) := (bkC BK142.out 1).trans rfl
                 have hfs53 := bkF BK142.out 1
                 have hns53_0 := NB122_142.out
                 have hns53_1 := NB129_142.out
                 have hms53_0 := NB142_122.out
                 have hms53_1 := NB142_129.out
                 refine skip_ (w1 := ?_) (by rfl) rfl ?_ ?_
                 rotate_left
                 ·
                  go_simp
                  rfl
                 refine hK.out _ _ ?_
                 clear hK K
                 refine done_ (done_of HT_.out (by kernel_rfl)) ?_
                 try go_wp2_with (first | ((with_reducible refine gC (f := 43) rfl ?_); refine goesL_ (some 62) rfl rfl Tryz.func43 (by kernel_rfl) rfl #[.pointer (some ⟨gb125, 0, none⟩), .string (⟨#[44, 59, 58]⟩ : ByteArray)] rfl (by (try simp only [List.map_toArray, List.map_cons, List.map_nil]); first | done | rfl | (simp only [List.length_drop, List.length_take]; rfl)) ?_; (with_reducible refine (lrs.calls gb125 t147 t148 (⟨#[44, 59, 58]⟩ : ByteArray) t152 t153 t154 w _ ?side1 ?side2 A48.out).mono ?_); (case side1 => repeat (first | (with_reducible first | exact HI125.out | apply I66.alloc | apply I66.drewN | apply I66.drew | apply I66.set_0 | apply I66.set_1 | refine I66.far ?_ NB125_122.out _ | refine I66.far ?_ NB125_129.out _ | refine I66.far ?_ NB125_142.out _) | exact HI125.out)); (case side2 => repeat (first | (with_reducible first | exact HB.out | apply bA | apply bdN | apply bd1 | refine bS ?_ (I66.ge HI125.out) | refine bS ?_ GE122.out | refine bS ?_ GE129.out | refine bS ?_ GE142.out) | exact HB.out)); rintro e w54 ⟨rfl, hi, hb, hk⟩; refine ⟨_, rfl, ?_⟩; have n0_ := A0q.mk (Kd.S_mono (Kd.S_keep (I66.apartS (show I66 w _ gb125 t147 t148 from by repeat (first | (with_reducible first | exact HI125.out | apply I66.alloc | apply I66.drewN | apply I66.drew | apply I66.set_0 | apply I66.set_1 | refine I66.far ?_ NB125_122.out _ | refine I66.far ?_ NB125_129.out _ | refine I66.far ?_ NB125_142.out _) | exact HI125.out)) (by (with_reducible repeat (first | apply Kd.S_alloc | apply Kd.S_drewN | apply Kd.S_drew)); exact (Kd.S_mono (Kd.S_far (p := ⟨gb142, 1, none⟩) (Kd.S_mono HO_130002.out (fun k_ hk => (⟨hk, hk.1⟩ : _ ∧ k_ ≠ gb142))) (fun _ hk => hk.2) (.slice Ao52 y149.length co52)) (fun _ h_ => h_.1))) (by decide)) hk (fun _ h => h.2)) (fun _ h => h.1)); have n1_ := A0q.mk (KpB.blk hk (g' := gb122) (o := .cells #[.string (⟨#[]⟩ : ByteArray), .string (⟨#[]⟩ : ByteArray), .slice none 0 0, .string (⟨#[]⟩ : ByteArray)] 25 (0, 0)) (by (with_reducible repeat (first | refine bkN ?_ _ | refine bkD ?_ | refine bkA ?_ _)); refine bkR ?_ NB122_142.out _; (with_reducible repeat (first | refine bkN ?_ _ | refine bkD ?_ | refine bkA ?_ _)); exact BK122.out) NB122_125.out (by simp)); have n2_ := A0q.mk (KpB.blk hk (g' := gb129) (o := .cells #[.string x130000_13, .string x130001_13, u130002, .string (⟨#[]⟩ : ByteArray)] 25 (0, 0)) (by (with_reducible repeat (first | refine bkN ?_ _ | refine bkD ?_ | refine bkA ?_ _)); refine bkR ?_ NB129_142.out _; (with_reducible repeat (first | refine bkN ?_ _ | refine bkD ?_ | refine bkA ?_ _)); exact BK129.out) NB129_125.out (by simp)); have n3_ := A0q.mk (KpB.blk hk (g' := gb142) (o := .cells #[.string t139, .slice Ao52 y149.length co52] 31 (0, 0)) (by (with_reducible repeat (first | refine bkN ?_ _ | refine bkD ?_ | refine bkA ?_ _)); refine bkP (cs := #[.string t139, u143001]) ?_ 1 _ rfl; (with_reducible repeat (first | refine bkN ?_ _ | refine bkD ?_ | refine bkA ?_ _)); exact BK142.out) NB142_125.out (by simp)); have n4_ := A0q.mk (Kd.R_mono (Kd.R_keep (I66.apart (show I66 w _ gb125 t147 t148 from by repeat (first | (with_reducible first | exact HI125.out | apply I66.alloc | apply I66.drewN | apply I66.drew | apply I66.set_0 | apply I66.set_1 | refine I66.far ?_ NB125_122.out _ | refine I66.far ?_ NB125_129.out _ | refine I66.far ?_ NB125_142.out _) | exact HI125.out)) (by (with_reducible repeat (first | apply Kd.R_alloc | apply Kd.R_drewN | apply Kd.R_drew)); exact (Kd.R_mono (Kd.R_far (p := ⟨gb142, 1, none⟩) (Kd.R_types HO151.out BK142.out (by decide)) (fun _ hk => hk.2) (.slice Ao52 y149.length co52)) (fun _ h_ => h_.1))) (by decide)) hk (fun _ h => h.2)) (fun _ h => h.1)); have n5_ := A0q.mk (hb); have n6_ := A0q.mk (hi); clear HO_130002; clear BK122; clear BK129; clear BK142; clear HO151; clear HB; clear HI125; have HO_130002 := n0_; have BK122 := n1_; have BK129 := n2_; have BK142 := n3_; have HO151 := n4_; have HB := n5_; have HI125 := n6_; clear n0_ n1_ n2_ n3_ n4_ n5_ n6_; (try clear hb); (try clear hb2); (try clear hk); (try clear hi)))
                 go_roundg kj42
                 case measure => have := HJ1.out; have := HJ13.out; have := HK3.out; have := HJ29.out; have := HK5.out; have := HJ42.out; omega
                 case rel => exact ⟨(t152), (t153), (t154), (y149), (.slice Ao52 y149.length co52), (by first | rfl | (simp; done) | (simp [*]; done)), H', ⟨by have := HJ1.out; have := HJ13.out; have := HK3.out; have := HJ29.out; have := HK5.out; have := HJ42.out; omega⟩, ⟨by (with_reducible repeat (first | apply Kd.S_alloc | apply Kd.S_drewN | apply Kd.S_drew)); exact Kd.S_mono HO_130002.out (fun _ hk => ⟨hk.2, hk.1⟩)⟩, ⟨by (with_reducible repeat (first | apply Kd.R_alloc | apply Kd.R_drewN | apply Kd.R_drew)); exact HO151.out⟩, ⟨by (with_reducible repeat (first | refine bkN ?_ _ | refine bkD ?_ | refine bkA ?_ _)); exact BK122.out⟩, ⟨by (with_reducible repeat (first | refine bkN ?_ _ | refine bkD ?_ | refine bkA ?_ _)); exact BK129.out⟩, ⟨by (with_reducible repeat (first | refine bkN ?_ _ | refine bkD ?_ | refine bkA ?_ _)); exact BK142.out⟩, ⟨by repeat (first | (with_reducible first | exact HI125.out | apply I66.alloc | apply I66.drewN | apply I66.drew | apply I66.set_0 | apply I66.set_1 | refine I66.far ?_ NB125_122.out _ | refine I66.far ?_ NB125_129.out _ | refine I66.far ?_ NB125_142.out _) | exact HI125.out)⟩, ⟨by repeat (first | (with_reducible first | exact HB.out | apply bA | apply bdN | apply bd1 | refine bS ?_ (I66.ge HI125.out) | refine bS ?_ GE122.out | refine bS ?_ GE129.out | refine bS ?_ GE142.out) | exact HB.out)⟩⟩
                ·
                 rw [if_neg c47] at H
                 exact absurd H (by simp)
               ·
                replace c45 := Bool.eq_false_iff.mpr c45
                subst c45
                have H1 : (if x130002_3.length < 3518437208883 then (lPa.l0 kj42 x6_5 x126000_5 x126001_5 x130000_13 x130001_13 (x130002_3 ++ [(⟨t139, x143001_5⟩ : S31)]) (⟨#[]⟩ : ByteArray)) else (none)) = some (r1, r2, r3, r4, r5) := by rw [if_neg (show ¬ (false = true) by decide)] at H; exact H
                clear H
                have H := H1
                clear H1
                by_cases c55 : x130002_3.length < 3518437208883
                ·
                 rw [if_pos c55] at H
                 have LMc55 := A0q.mk c55
                 clear c55
                 obtain ⟨y155, hy155⟩ : ∃ y_ : List (S31), y_ = (x130002_3 ++ [(⟨t139, x143001_5⟩ : S31)]) := ⟨_, rfl⟩
                 replace H : (lPa.l0 kj42 x6_5 x126000_5 x126001_5 x130000_13 x130001_13 y155 (⟨#[]⟩ : ByteArray)) = some (r1, r2, r3, r4, r5) := by first | (rw [hy155]; with_reducible exact H) | (have H2_ := (Option.bind_some _ _).symm.trans H; rw [hy155]; with_reducible exact H2_) | (have H2_ := (Option.bind_some _ _).symm.trans H; with_reducible exact H2_) | with_reducible exact H | (rw [hy155]; exact H) | exact H
                 have Ny155 := A0q.mk hy155
                 clear hy155
                 have H' := A0q.mk H
                 clear H
                 have hnb56 := NB129_122.out
                 have hnc56 := NB122_129.out
                 have hnb57 := NB129_142.out
                 have hnc57 := NB142_129.out
                 have hnb58 := NB129_125.out
                 have hnc58 := NB125_129.out
                 have hcz59_0 : wc.cell? ⟨gb129, 0, none⟩ = some (.string x130000_13) := (bkC BK129.out 0).trans rfl
                 have hcz59_1 : wc.cell? ⟨gb129, 1, none⟩ = some (.string x130001_13) := (bkC BK129.out 1).trans rfl
                 have hcz59_2 : wc.cell? ⟨gb129, 2, none⟩ = some (u130002) := (bkC BK129.out 2).trans rfl
                 have hcz59_3 : wc.cell? ⟨gb129, 3, none⟩ = some (.string (⟨#[]⟩ : ByteArray)) := (bkC BK129.out 3).trans rfl
                 have hfz59_0 := bkF BK129.out 0
                 have hfz59_1 := bkF BK129.out 1
                 have hfz59_2 := bkF BK129.out 2
                 have hfz59_3 := bkF BK129.out 3
                 have hnb60 := NB142_122.out
                 have hnc60 := NB122_142.out
                 have hnb61 := NB142_125.out
                 have hnc61 := NB125_142.out
                 have hcz62_0 : wc.cell? ⟨gb142, 0, none⟩ = some (.string t139) := (bkC BK142.out 0).trans rfl
                 have hcz62_1 : wc.cell? ⟨gb142, 1, none⟩ = some (u143001) := (bkC BK142.out 1).trans rfl
                 have hfz62_0 := bkF BK142.out 0
                 have hfz62_1 := bkF BK142.out 1
                 obtain ⟨Ao64, co64, eo64⟩ := Kd.R_slice HO_143001.out
                 subst eo64
                 go_wp2_with (first | ((with_reducible refine gate_builtin (b := .append) (xs := #[.tmp 64, .tmp 66]) rfl ?_); at_builtin; refine Kd.S_append k31 (w0 := w) w.heap.size rfl (.tmp 64) (.tmp 66) 23 31 (.agg #[(.string ⟨#[]⟩), (.slice none 0 0)]) 40 rfl Tryz.underlying23 info31 rfl (by decide) (by omega) u130002 x130002_3 (⟨t139, x143001_5⟩ : S31) [.string t139, .slice Ao64 x143001_5.length co64] (fun k_ => k_ ≠ gb142) (fun k_ => some k_ = (.slice Ao64 x143001_5.length co64 : Value).ownBlock) rfl rfl ?aP (fun k_ hk_ => ((Kd.R_mono (ok' := fun k_ => ((fun k_ => k_ ≠ gb142)) k_ ∧ some k_ ≠ (u130002 : Value).ownBlock) (Kd.R_types (Kd.R_apart' (HO_143001.out) (Kd.S_typed HO_130002.out) (by decide)) BK142.out (by decide)) (fun k_ hk => ⟨hk.2, hk.1.2⟩))).1 k_ hk_.symm) ?aF ?aO ?aB ?aS ?aL ?_; (case aP => exact k31_mkM _ _ _ (⟨t139, x143001_5⟩ : S31) (Kd.R_mono (Kd.R_tight rfl (Kd.R_mono (ok' := fun k_ => ((fun k_ => k_ ≠ gb142)) k_ ∧ some k_ ≠ (u130002 : Value).ownBlock) (Kd.R_types (Kd.R_apart' (HO_143001.out) (Kd.S_typed HO_130002.out) (by decide)) BK142.out (by decide)) (fun k_ hk => ⟨hk.2, hk.1.2⟩))) (fun _ h_ => h_))); (case aB => exact (by repeat (first | (with_reducible first | exact HB.out | apply bA | apply bdN | apply bd1 | refine bS ?_ (I66.ge HI125.out) | refine bS ?_ GE122.out | refine bS ?_ GE129.out | refine bS ?_ GE142.out) | exact HB.out))); (case aF => exact (fun k_ hk => Kd.freshB (g := gb142) (o := .cells #[.string t139, .slice Ao64 x143001_5.length co64] 31 (0, 0)) (by (with_reducible repeat (first | refine bkN ?_ _ | refine bkD ?_ | refine bkA ?_ _)); exact BK142.out) k_ hk)); (case aO => exact (by (with_reducible repeat (first | apply Kd.S_alloc | apply Kd.S_drewN | apply Kd.S_drew)); exact Kd.S_mono HO_130002.out (fun k_ hk => ⟨hk.2, fun e_ => hk.1 e_⟩))); (case aS => exact (bZ (by repeat (first | (with_reducible first | exact HB.out | apply bA | apply bdN | apply bd1 | refine bS ?_ (I66.ge HI125.out) | refine bS ?_ GE122.out | refine bS ?_ GE129.out | refine bS ?_ GE142.out) | exact HB.out)))); (case aL => have := LMc55.out; omega); intro v156 w63 ho hb hg hat; rw [← Ny155.out] at ho; have n0_ := A0q.mk (blk_grown (g := gb122) (o := .cells #[.string (⟨#[]⟩ : ByteArray), .string (⟨#[]⟩ : ByteArray), .slice none 0 0, .string (⟨#[]⟩ : ByteArray)] 25 (0, 0)) (by (with_reducible repeat (first | refine bkN ?_ _ | refine bkD ?_ | refine bkA ?_ _)); exact BK122.out) hg (Kd.S_ne HO_130002.out BK122.out (by decide))); have n1_ := A0q.mk (blk_grown (g := gb129) (o := .cells #[.string x130000_13, .string x130001_13, u130002, .string (⟨#[]⟩ : ByteArray)] 25 (0, 0)) (by (with_reducible repeat (first | refine bkN ?_ _ | refine bkD ?_ | refine bkA ?_ _)); exact BK129.out) hg (Kd.S_ne HO_130002.out BK129.out (by decide))); have n2_ := A0q.mk (blk_grown (g := gb142) (o := .cells #[.string t139, .slice Ao64 x143001_5.length co64] 31 (0, 0)) (by (with_reducible repeat (first | refine bkN ?_ _ | refine bkD ?_ | refine bkA ?_ _)); exact BK142.out) hg (Kd.S_away HO_130002.out (fun _ hk => hk.2))); have n3_ := A0q.mk (I66.grown (by repeat (first | (with_reducible first | exact HI125.out | apply I66.alloc | apply I66.drewN | apply I66.drew | apply I66.set_0 | apply I66.set_1 | refine I66.far ?_ NB125_122.out _ | refine I66.far ?_ NB125_129.out _ | refine I66.far ?_ NB125_142.out _) | exact HI125.out)) hg (I66.own_neS HI125.out HO_130002.out (by decide))); have n4_ := A0q.mk (hb); have n5_ := A0q.mk (ho); clear BK122; clear BK129; clear BK142; clear HI125; clear HB; clear HO_130002; clear HO_143001; have BK122 := n0_; have BK129 := n1_; have BK142 := n2_; have HI125 := n3_; have HB := n4_; have HO157 := n5_; clear n0_ n1_ n2_ n3_ n4_ n5_; clear ho hb hg hat; obtain ⟨Ao65, co65, eo65⟩ := Kd.S_slice HO157.out; subst eo65; have hcz66_0 : w63.cell? ⟨gb129, 0, none⟩ = some (.string x130000_13) := (bkC BK129.out 0).trans rfl; have hcz66_1 : w63.cell? ⟨gb129, 1, none⟩ = some (.string x130001_13) := (bkC BK129.out 1).trans rfl; have hcz66_2 : w63.cell? ⟨gb129, 2, none⟩ = some (u130002) := (bkC BK129.out 2).trans rfl; have hcz66_3 : w63.cell? ⟨gb129, 3, none⟩ = some (.string (⟨#[]⟩ : ByteArray)) := (bkC BK129.out 3).trans rfl; have hfz66_0 := bkF BK129.out 0; have hfz66_1 := bkF BK129.out 1; have hfz66_2 := bkF BK129.out 2; have hfz66_3 := bkF BK129.out 3))
                 go_roundg kj42
                 case measure => have := HJ1.out; have := HJ13.out; have := HK3.out; have := HJ29.out; have := HK5.out; have := HJ42.out; omega
                 case rel => exact ⟨(x6_5), (x126000_5), (x126001_5), (y155), (.slice Ao65 y155.length co65), (by first | rfl | (simp; done) | (simp [*]; done)), H', ⟨by have := HJ1.out; have := HJ13.out; have := HK3.out; have := HJ29.out; have := HK5.out; have := HJ42.out; omega⟩, ⟨by (with_reducible repeat (first | apply Kd.S_alloc | apply Kd.S_drewN | apply Kd.S_drew)); exact Kd.S_mono (Kd.S_far (p := ⟨gb129, 2, none⟩) (Kd.S_types HO157.out BK129.out (by decide)) (fun _ hk => hk.2) (.slice Ao65 y155.length co65)) (fun _ hk => trivial)⟩, ⟨by (with_reducible repeat (first | refine bkN ?_ _ | refine bkD ?_ | refine bkA ?_ _)); refine bkR ?_ NB122_129.out _; (with_reducible repeat (first | refine bkN ?_ _ | refine bkD ?_ | refine bkA ?_ _)); exact BK122.out⟩, ⟨by (with_reducible repeat (first | refine bkN ?_ _ | refine bkD ?_ | refine bkA ?_ _)); refine bkP (cs := #[.string x130000_13, .string x130001_13, u130002, .string (⟨#[]⟩ : ByteArray)]) ?_ 2 _ rfl; (with_reducible repeat (first | refine bkN ?_ _ | refine bkD ?_ | refine bkA ?_ _)); exact BK129.out⟩, ⟨by repeat (first | (with_reducible first | exact HI125.out | apply I66.alloc | apply I66.drewN | apply I66.drew | apply I66.set_0 | apply I66.set_1 | refine I66.far ?_ NB125_122.out _ | refine I66.far ?_ NB125_129.out _ | refine I66.far ?_ NB125_142.out _) | exact HI125.out)⟩, ⟨by repeat (first | (with_reducible first | exact HB.out | apply bA | apply bdN | apply bd1 | refine bS ?_ (I66.ge HI125.out) | refine bS ?_ GE122.out | refine bS ?_ GE129.out | refine bS ?_ GE142.out) | exact HB.out)⟩⟩
                ·
                 rw [if_neg c55] at H
                 exact absurd H (by simp)
          ·
           replace c33 := Bool.eq_false_iff.mpr c33
           subst c33
           have H1 : (if x126001_3 = 0 then (some (x130000_13, x130001_13, x130002_3, x126000_3, 0)) else (some ((⟨#[]⟩ : ByteArray), (⟨#[]⟩ : ByteArray), ([] : List (S31)), (⟨#[]⟩ : ByteArray), x126001_3))) = some (r1, r2, r3, r4, r5) := by rw [if_neg (show ¬ (false = true) by decide)] at H; exact H
           clear H
           have H := H1
           clear H1
           by_cases c67 : x126001_3 = 0
           ·
            rw [if_pos c67] at H
            have c67b0 : (x126001_3 == 0) = true := beq_iff_eq.mpr c67
            have c67b1 : (x126001_3 != 0) = false := bne_eq_false_iff_eq.mpr c67
            clear c67
            simp only [Option.some.injEq, Prod.mk.injEq] at H
            obtain ⟨rfl, rfl, rfl, rfl, rfl⟩ := H
            obtain ⟨HGz68, hgz68⟩ := HI125.out
            have hcz68_0 := cellS66_0 HGz68
            have hcz68_1 := cellS66_1 HGz68
            have hfz68_0 := bkF HGz68 0
            have hfz68_1 := bkF HGz68 1
            clear HGz68 hgz68
            have hnb69 := NB129_122.out
            have hnc69 := NB122_129.out
            have hnb70 := NB129_125.out
            have hnc70 := NB125_129.out
            have hcz71_0 : wc.cell? ⟨gb129, 0, none⟩ = some (.string x130000_13) := (bkC BK129.out 0).trans rfl
            have hcz71_1 : wc.cell? ⟨gb129, 1, none⟩ = some (.string x130001_13) := (bkC BK129.out 1).trans rfl
            have hcz71_2 : wc.cell? ⟨gb129, 2, none⟩ = some (u130002) := (bkC BK129.out 2).trans rfl
            have hcz71_3 : wc.cell? ⟨gb129, 3, none⟩ = some (.string (⟨#[]⟩ : ByteArray)) := (bkC BK129.out 3).trans rfl
            have hfz71_0 := bkF BK129.out 0
            have hfz71_1 := bkF BK129.out 1
            have hfz71_2 := bkF BK129.out 2
            have hfz71_3 := bkF BK129.out 3
            have hnb72 := NB122_125.out
            have hnc72 := NB125_122.out
            have hcz73_0 : wc.cell? ⟨gb122, 0, none⟩ = some (.string (⟨#[]⟩ : ByteArray)) := (bkC BK122.out 0).trans rfl
            have hcz73_1 : wc.cell? ⟨gb122, 1, none⟩ = some (.string (⟨#[]⟩ : ByteArray)) := (bkC BK122.out 1).trans rfl
            have hcz73_2 : wc.cell? ⟨gb122, 2, none⟩ = some (.slice none 0 0) := (bkC BK122.out 2).trans rfl
            have hcz73_3 : wc.cell? ⟨gb122, 3, none⟩ = some (.string (⟨#[]⟩ : ByteArray)) := (bkC BK122.out 3).trans rfl
            have hfz73_0 := bkF BK122.out 0
            have hfz73_1 := bkF BK122.out 1
            have hfz73_2 := bkF BK122.out 2
            have hfz73_3 := bkF BK122.out 3
            obtain ⟨Ao74, co74, eo74⟩ := Kd.S_slice HO_130002.out
            subst eo74
            go_wp2
            refine bodyPost_ret (results_ct rfl _ _ gb122 25 #[.string x130000_13, .string x130001_13, .slice Ao74 x130002_3.length co74, .string x126000_3] (0, 0) _ rfl (by (with_reducible repeat (first | refine bkN ?_ _ | refine bkD ?_ | refine bkA ?_ _)); refine bkP (cs := #[.string x130000_13, .string x130001_13, .slice Ao74 x130002_3.length co74, .string (⟨#[]⟩ : ByteArray)]) ?_ 3 _ rfl; (with_reducible repeat (first | refine bkN ?_ _ | refine bkD ?_ | refine bkA ?_ _)); refine bkP (cs := #[.string x130000_13, .string x130001_13, .slice none 0 0, .string (⟨#[]⟩ : ByteArray)]) ?_ 2 _ rfl; (with_reducible repeat (first | refine bkN ?_ _ | refine bkD ?_ | refine bkA ?_ _)); refine bkP (cs := #[.string x130000_13, .string (⟨#[]⟩ : ByteArray), .slice none 0 0, .string (⟨#[]⟩ : ByteArray)]) ?_ 1 _ rfl; (with_reducible repeat (first | refine bkN ?_ _ | refine bkD ?_ | refine bkA ?_ _)); refine bkP (cs := #[.string (⟨#[]⟩ : ByteArray), .string (⟨#[]⟩ : ByteArray), .slice none 0 0, .string (⟨#[]⟩ : ByteArray)]) ?_ 0 _ rfl; (with_reducible repeat (first | refine bkN ?_ _ | refine bkD ?_ | refine bkA ?_ _)); refine bkR ?_ NB122_129.out _; (with_reducible repeat (first | refine bkN ?_ _ | refine bkD ?_ | refine bkA ?_ _)); exact BK122.out) Tryz.underlying25 rfl (by kernel_rfl)) rfl ?_
            exact ⟨_, by first | rfl | (simp [eWn, eWs] <;> rfl) | (simp [*, eWn, eWs] <;> rfl), by (with_reducible repeat (first | apply Kd.S_alloc | apply Kd.S_drewN | apply Kd.S_drew)); exact Kd.S_mono (Kd.S_far (p := ⟨gb122, 3, none⟩) (Kd.S_far (p := ⟨gb122, 2, none⟩) (Kd.S_far (p := ⟨gb122, 1, none⟩) (Kd.S_far (p := ⟨gb122, 0, none⟩) (Kd.S_far (p := ⟨gb129, 3, none⟩) (Kd.S_types (Kd.S_types HO_130002.out BK129.out (by decide)) BK122.out (by decide)) (fun _ hk => hk.1.2) (.string x126000_3)) (fun _ hk => hk.2) (.string x130000_13)) (fun _ hk => hk.2) (.string x130001_13)) (fun _ hk => hk.2) (.slice Ao74 x130002_3.length co74)) (fun _ hk => hk.2) (.string x126000_3)) (fun _ hk => trivial), by repeat (first | (with_reducible first | exact HB.out | apply bA | apply bdN | apply bd1 | refine bS ?_ (I66.ge HI125.out) | refine bS ?_ GE122.out | refine bS ?_ GE129.out) | exact HB.out)⟩
           ·
            rw [if_neg c67] at H
            have c67b0 : (x126001_3 == 0) = false := beq_eq_false_iff_ne.mpr c67
            have c67b1 : (x126001_3 != 0) = true := bne_iff_ne.mpr c67
            simp only [Option.some.injEq, Prod.mk.injEq] at H
            obtain ⟨rfl, rfl, rfl, rfl, rfl⟩ := H
            obtain ⟨HGz75, hgz75⟩ := HI125.out
            have hcz75_0 := cellS66_0 HGz75
            have hcz75_1 := cellS66_1 HGz75
            have hfz75_0 := bkF HGz75 0
            have hfz75_1 := bkF HGz75 1
            clear HGz75 hgz75
            have BK125 := A0q.mk (HI125.out.1)
            clear HI125
            try go_wp2
            have n0_ := A0q.mk (Kd.S_drew HO_130002.out)
            have n1_ := A0q.mk (bkD BK122.out)
            have n2_ := A0q.mk (bkD BK129.out)
            have n3_ := A0q.mk (bkD BK125.out)
            have n4_ := A0q.mk (bd1 HB.out)
            clear HO_130002
            clear BK122
            clear BK129
            clear BK125
            clear HB
            have HO_130002 := n0_
            have BK122 := n1_
            have BK129 := n2_
            have BK125 := n3_
            have HB := n4_
            clear n0_ n1_ n2_ n3_ n4_
            refine start_ (n := 7) (S := fun w' => w'.cell? ⟨gb125, 0, none⟩ = some (.string x126000_3) ∧ w'.cell? ⟨gb125, 1, none⟩ = some (.int .i64 x126001_3)) (ds := []) #[false, false, false, false, false, false, false] (by kernel_rfl) rfl rfl ⟨(bkC BK125.out 0).trans rfl, (bkC BK125.out 1).trans rfl⟩ (fun hHeld => ?_)
            generalize wc.drew = w76 at HO_130002 BK122 BK129 BK125 HB hHeld ⊢
            refine pure_ (i := 0) (N := some 74) (v := ?_) (a' := ?_) #[true, false, false, false, false, false, false] rfl rfl (by kernel_rfl) (fun _ _ _ h => h) (Or.inl ⟨by rfl, ?_⟩) ?_ ?_
            rotate_left
            ·
             intro w'
             go_simp
             with_reducible rfl
            rotate_left
            ·
             simp only [Act.put, List.setIfInBounds_toArray, List.set_cons_zero, List.set_cons_succ, i64_w, i32_w]
             rfl
            refine pure_ (i := 1) (N := some 75) (v := ?_) (a' := ?_) #[true, true, false, false, false, false, false] rfl rfl (by kernel_rfl) (fun _ _ _ h => h) (Or.inl ⟨by rfl, ?_⟩) ?_ ?_
            rotate_left
            ·
             intro w'
             go_simp
             with_reducible rfl
            rotate_left
            ·
             simp only [Act.put, List.setIfInBounds_toArray, List.set_cons_zero, List.set_cons_succ, i64_w, i32_w]
             rfl
            refine pure_ (i := 2) (N := some 76) (v := ?_) (a' := ?_) #[true, true, true, false, false, false, false] rfl rfl (by kernel_rfl) (fun _ _ _ h => h) (Or.inl ⟨by rfl, ?_⟩) ?_ ?_
            rotate_left
            ·
             intro w'
             go_simp
             with_reducible rfl
            rotate_left
            ·
             simp only [Act.put, List.setIfInBounds_toArray, List.set_cons_zero, List.set_cons_succ, i64_w, i32_w]
             rfl
            refine pure_ (i := 3) (N := some 77) (v := ?_) (a' := ?_) #[true, true, true, true, false, false, false] rfl rfl (by kernel_rfl) (fun _ _ _ h => h) (Or.inl ⟨by rfl, ?_⟩) ?_ ?_
            rotate_left
            ·
             intro w'
             go_simp
             with_reducible rfl
            rotate_left
            ·
             simp only [Act.put, List.setIfInBounds_toArray, List.set_cons_zero, List.set_cons_succ, i64_w, i32_w]
             rfl
            refine take_ (i := 4) (N := some 78) (v := ?_) (a' := ?_) #[true, true, true, true, true, false, false] rfl rfl (by kernel_rfl) (fun _ _ _ h => h) (Or.inl ⟨by rfl, ?_⟩) hHeld ?_ ?_
            rotate_left
            ·
             rintro w' ⟨s0, s1⟩
             go_simp
             with_reducible rfl
            rotate_left
            ·
             simp only [Act.put, List.setIfInBounds_toArray, List.set_cons_zero, List.set_cons_succ, i64_w, i32_w]
             rfl
            refine one_ (i := 5) (N := none) #[true, true, true, true, true, true, false] rfl rfl (by kernel_rfl) (by decide) (fun K hK => ?_)
            have hs77 : w76.cell? ⟨gb122, 0, none⟩ = some (.string (⟨#[]⟩ : ByteArray)) := (bkC BK122.out 0).trans rfl
            have hfs77 := bkF BK122.out 0
            have hns77_1 := NB129_122.out
            have hns77_2 := NB125_122.out
            have hms77_1 := NB122_129.out
            have hms77_2 := NB122_125.out
            have hs78 : w76.cell? ⟨gb122, 1, none⟩ = some (.string (⟨#[]⟩ : ByteArray)) := (bkC BK122.out 1).trans rfl
            have hfs78 := bkF BK122.out 1
            have hns78_1 := NB129_122.out
            have hns78_2 := NB125_122.out
            have hms78_1 := NB122_129.out
            have hms78_2 := NB122_125.out
            have hs79 : w76.cell? ⟨gb122, 2, none⟩ = some (.slice none 0 0) := (bkC BK122.out 2).trans rfl
            have hfs79 := bkF BK122.out 2
            have hns79_1 := NB129_122.out
            have hns79_2 := NB125_122.out
            have hms79_1 := NB122_129.out
            have hms79_2 := NB122_125.out
            have hs80 : w76.cell? ⟨gb122, 3, none⟩ = some (.string (⟨#[]⟩ : ByteArray)) := (bkC BK122.out 3).trans rfl
            have hfs80 := bkF BK122.out 3
            have hns80_1 := NB129_122.out
            have hns80_2 := NB125_122.out
            have hms80_1 := NB122_129.out
            have hms80_2 := NB122_125.out
            refine skip_ (w1 := ?_) (by rfl) rfl ?_ ?_
            rotate_left
            ·
             go_simp
             rfl
            refine hK.out _ _ ⟨((cell_far (p := ⟨gb122, _, none⟩) NB125_122.out _).trans (((cell_far (p := ⟨gb122, _, none⟩) NB125_122.out _).trans (((cell_far (p := ⟨gb122, _, none⟩) NB125_122.out _).trans (((cell_far (p := ⟨gb122, _, none⟩) NB125_122.out _).trans (hHeld.1)))))))), ((cell_far (p := ⟨gb122, _, none⟩) NB125_122.out _).trans (((cell_far (p := ⟨gb122, _, none⟩) NB125_122.out _).trans (((cell_far (p := ⟨gb122, _, none⟩) NB125_122.out _).trans (((cell_far (p := ⟨gb122, _, none⟩) NB125_122.out _).trans (hHeld.2))))))))⟩ (fun hHeld => ?_)
            clear hK K
            refine pure_ (i := 6) (N := some 3) (v := ?_) (a' := ?_) #[true, true, true, true, true, true, true] rfl rfl (by kernel_rfl) (fun _ _ _ h => h) (Or.inl ⟨by rfl, ?_⟩) ?_ ?_
            rotate_left
            ·
             intro w'
             go_simp
             with_reducible rfl
            rotate_left
            ·
             simp only [Act.put, List.setIfInBounds_toArray, List.set_cons_zero, List.set_cons_succ, i64_w, i32_w]
             rfl
            refine done_ (by kernel_rfl) ?_
            try go_wp2
            refine bodyPost_ret (results_ct rfl _ _ gb122 25 #[.string (⟨#[]⟩ : ByteArray), .string (⟨#[]⟩ : ByteArray), .slice none 0 0, .string (⟨#[]⟩ : ByteArray)] (0, 0) _ rfl (by (with_reducible repeat (first | refine bkN ?_ _ | refine bkD ?_ | refine bkA ?_ _)); refine bkP (cs := #[.string (⟨#[]⟩ : ByteArray), .string (⟨#[]⟩ : ByteArray), .slice none 0 0, .string (⟨#[]⟩ : ByteArray)]) ?_ 3 _ rfl; (with_reducible repeat (first | refine bkN ?_ _ | refine bkD ?_ | refine bkA ?_ _)); refine bkP (cs := #[.string (⟨#[]⟩ : ByteArray), .string (⟨#[]⟩ : ByteArray), .slice none 0 0, .string (⟨#[]⟩ : ByteArray)]) ?_ 2 _ rfl; (with_reducible repeat (first | refine bkN ?_ _ | refine bkD ?_ | refine bkA ?_ _)); refine bkP (cs := #[.string (⟨#[]⟩ : ByteArray), .string (⟨#[]⟩ : ByteArray), .slice none 0 0, .string (⟨#[]⟩ : ByteArray)]) ?_ 1 _ rfl; (with_reducible repeat (first | refine bkN ?_ _ | refine bkD ?_ | refine bkA ?_ _)); refine bkP (cs := #[.string (⟨#[]⟩ : ByteArray), .string (⟨#[]⟩ : ByteArray), .slice none 0 0, .string (⟨#[]⟩ : ByteArray)]) ?_ 0 _ rfl; (with_reducible repeat (first | refine bkN ?_ _ | refine bkD ?_ | refine bkA ?_ _)); exact BK122.out) Tryz.underlying25 rfl (by kernel_rfl)) rfl ?_
            exact ⟨_, by first | rfl | (simp [eWn, eWs] <;> rfl) | (simp [*, eWn, eWs] <;> rfl), by first | exact Kd.S_nil _ _ _ _ _ | exact Kd.N_nil _ _ _ _ _ | exact Kd.V_nil _ _ _ _ _ | exact Kd.Q_nil _ _ _ _ _ | exact Kd.R_nil _ _ _ _ _, by repeat (first | (with_reducible first | exact HB.out | apply bA | apply bdN | apply bd1 | refine bS ?_ GE122.out | refine bS ?_ GE129.out | refine bS ?_ GE125.out) | exact HB.out)⟩
end Go.Proofs.YthabooeapfepnaaGreatDoor.PL
