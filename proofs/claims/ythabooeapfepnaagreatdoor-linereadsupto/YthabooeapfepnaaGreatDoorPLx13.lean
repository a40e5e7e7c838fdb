import Derived.Test.YthabooeapfepnaaGreatDoorPLx0
import Derived.Test.YthabooeapfepnaaGreatDoorPLx9
import Derived.Test.YthabooeapfepnaaGreatDoorPLx10
import Derived.Test.YthabooeapfepnaaGreatDoorPLx12
namespace Go.Proofs.YthabooeapfepnaaGreatDoor.PL
open Go.RowKit Go.Proofs.YthabooeapfepnaaGreatDoor.Given Go.Proofs.YthabooeapfepnaaGreatDoorW.PrintWords Go.Proofs.YthabooeapfepnaaGreatDoorW.PrintLast Go.Proofs.YthabooeapfepnaaGreatDoorW.PrintMore
attribute [local go_sem] max2_int min2_int max_two min_two max_three min_three max_four min_four   -- for this text's walks alone
set_option linter.unusedVariables false
set_option linter.unusedSimpArgs false
mutual
def rPa.j0 : Nat → ByteArray → Bool → Option (ByteArray × ByteArray × (List (S31)) × ByteArray × Int)
 | 0, _, _ => none
 | k + 1, x0, x15 => if x15 = true then (some ((⟨#[]⟩ : ByteArray), (⟨#[]⟩ : ByteArray), ([] : List (S31)), (⟨#[]⟩ : ByteArray), 10)) else ((rSn.f k x0 0 0).bind fun bt285 => ((rSs.f k bt285.2.1 bt285.2.2.1 bt285.2.2.2 (⟨#[46, 59, 58]⟩ : ByteArray)).bind fun bt289 => (if bt289.1 = 46 then ((rSn.f k bt289.2.1 bt289.2.2.1 bt289.2.2.2).bind fun bt293 => ((rSs.f k bt293.2.1 bt293.2.2.1 bt293.2.2.2 (⟨#[59, 58]⟩ : ByteArray)).bind fun bt297 => (rPa.j1 k x0 bt297.1 bt297.2.1 bt297.2.2.1 bt297.2.2.2 bt285.1 bt293.1 (⟨#[]⟩ : ByteArray)))) else (rPa.j1 k x0 bt289.1 bt289.2.1 bt289.2.2.1 bt289.2.2.2 (⟨#[]⟩ : ByteArray) bt285.1 (⟨#[]⟩ : ByteArray)))))
def rPa.j1 : Nat → ByteArray → Int → ByteArray → Int → Int → ByteArray → ByteArray → ByteArray → Option (ByteArray × ByteArray × (List (S31)) × ByteArray × Int)
 | 0, _, _, _, _, _, _, _, _ => none
 | k + 1, x0, x6, x284000, x284001, x284002, x285000, x285001, x285003 => rPa.l0 k x0 x6 x284000 x284001 x284002 x285000 x285001 ([] : List (S31)) x285003
def rPa.l0 : Nat → ByteArray → Int → ByteArray → Int → Int → ByteArray → ByteArray → List (S31) → ByteArray → Option (ByteArray × ByteArray × (List (S31)) × ByteArray × Int)
 | 0, _, _, _, _, _, _, _, _, _ => none
 | k + 1, x0, x6, x284000, x284001, x284002, x285000, x285001, x285002, x285003 => if x6 = 59 then (rPa.j3 k x0 (x284002 == 0) x284000 x284001 x284002 x285000 x285001 x285002 x285003) else (rPa.j3 k x0 false x284000 x284001 x284002 x285000 x285001 x285002 x285003)
def rPa.j3 : Nat → ByteArray → Bool → ByteArray → Int → Int → ByteArray → ByteArray → List (S31) → ByteArray → Option (ByteArray × ByteArray × (List (S31)) × ByteArray × Int)
 | 0, _, _, _, _, _, _, _, _, _ => none
 | k + 1, x0, x43, x284000, x284001, x284002, x285000, x285001, x285002, x285003 => if x43 = true then ((rSn.f k x284000 x284001 x284002).bind fun bt302 => ((rSs.f k bt302.2.1 bt302.2.2.1 bt302.2.2.2 (⟨#[61]⟩ : ByteArray)).bind fun bt306 => (rPa.l1 k x0 bt306.1 bt306.2.1 bt306.2.2.1 bt306.2.2.2 x285000 x285001 x285002 x285003 bt302.1 ([] : List ByteArray)))) else (if x284002 = 0 then (if 0 ≤ x284001 then (if x284001 ≤ (x0.size : Int) then (some (x285000, x285001, x285002, x0.extract (x284001 : Int).toNat x0.size, 0)) else (none)) else (none)) else (some ((⟨#[]⟩ : ByteArray), (⟨#[]⟩ : ByteArray), ([] : List (S31)), (⟨#[]⟩ : ByteArray), x284002)))
def rPa.l1 : Nat → ByteArray → Int → ByteArray → Int → Int → ByteArray → ByteArray → List (S31) → ByteArray → ByteArray → List ByteArray → Option (ByteArray × ByteArray × (List (S31)) × ByteArray × Int)
 | 0, _, _, _, _, _, _, _, _, _, _, _ => none
 | k + 1, x0, x6, x284000, x284001, x284002, x285000, x285001, x285002, x285003, x302000, x302001 => if x6 = 61 then (rPa.j5 k x0 x6 true x284000 x284001 x284002 x285000 x285001 x285002 x285003 x302000 x302001) else (rPa.j5 k x0 x6 (x6 == 44) x284000 x284001 x284002 x285000 x285001 x285002 x285003 x302000 x302001)
def rPa.j5 : Nat → ByteArray → Int → Bool → ByteArray → Int → Int → ByteArray → ByteArray → List (S31) → ByteArray → ByteArray → List ByteArray → Option (ByteArray × ByteArray × (List (S31)) × ByteArray × Int)
 | 0, _, _, _, _, _, _, _, _, _, _, _, _ => none
 | k + 1, x0, x6, x54, x284000, x284001, x284002, x285000, x285001, x285002, x285003, x302000, x302001 => if x54 = true then ((rSv.f k x284000 x284001 x284002).bind fun bt310 => (if x302001.length < 8796093022208 then ((rSs.f k bt310.2.1 bt310.2.2.1 bt310.2.2.2 (⟨#[44, 59, 58]⟩ : ByteArray)).bind fun bt317 => (rPa.l1 k x0 bt317.1 bt317.2.1 bt317.2.2.1 bt317.2.2.2 x285000 x285001 x285002 x285003 x302000 (x302001 ++ [bt310.1]))) else (none))) else (if x285002.length < 3518437208883 then (rPa.l0 k x0 x6 x284000 x284001 x284002 x285000 x285001 (x285002 ++ [(⟨x302000, x302001⟩ : S31)]) x285003) else (none))
end
def rPa.f (k : Nat) (a0 : ByteArray) : Option (ByteArray × ByteArray × (List (S31)) × ByteArray × Int) := (rVa.f k a0).bind fun t281 => (if t281 = true then ((rHa.f k a0 (⟨#[13, 10]⟩ : ByteArray)).bind fun t282 => (rPa.j0 k a0 t282)) else (rPa.j0 k a0 true))
set_option maxHeartbeats 8000000 in
set_option maxRecDepth 100000 in
theorem rPa.calls (k : Nat) (a0 : ByteArray) (r1 : ByteArray) (r2 : ByteArray) (r3 : List (S31)) (r4 : ByteArray) (r5 : Int) (w : World) (h : rPa.f k a0 = some (r1, r2, r3, r4, r5)) :
  Calls Tryz.prog 22 #[.string a0] w fun e w' => ∃ v2_ : Value, e = .returned (.tuple #[.agg #[.string r1, .string r2, v2_, .string r4], .int .i64 r5]) ∧ Kd.S k31 31 w' w.heap.size (fun _ => True) v2_ r3 ∧ Below w.heap.size w w' := by
 have hu25 := Tryz.underlying25
 have hu79 := Tryz.underlying79
 have hu31 := Tryz.underlying31
 have HB := A0q.mk (Below.refl w.heap.size w)
 have H : ((rVa.f k a0).bind fun t281 => (if t281 = true then ((rHa.f k a0 (⟨#[13, 10]⟩ : ByteArray)).bind fun t282 => (rPa.j0 k a0 t282)) else (rPa.j0 k a0 true))) = some (r1, r2, r3, r4, r5) := h
 clear h
 have HC2 := A0q.mk H
 clear H
 go_enter Tryz.func22, Tryz.ntmps22
 go_upto_region 1 with (first | ((with_reducible refine gate_dst (N := 2) rfl ?_); refine box_event ?hg (N := 2) ?hd (cs := #[.string (⟨#[]⟩ : ByteArray), .string (⟨#[]⟩ : ByteArray), .slice none 0 0, .string (⟨#[]⟩ : ByteArray)]) (t := 25) ?hr ?_; (case hd => rfl); (case hg => rfl); (case hr => first | (go_simp; done) | (go_simp; rfl)); intro gb280 hg w3 hbox hb; have n0_ := A0q.mk (bT (by repeat (first | (with_reducible first | exact HB.out | apply bA | apply bdN | apply bd1) | exact HB.out)) hb); have n1_ := A0q.mk (hbox); have n2_ := A0q.mk ((by rw [hg]; exact (bZ (by repeat (first | (with_reducible first | exact HB.out | apply bA | apply bdN | apply bd1) | exact HB.out))) : w.heap.size ≤ gb280)); have n3_ := A0q.mk ((by rw [hg]; exact (bZ (by repeat (first | (with_reducible first | exact HB.out | apply bA | apply bdN | apply bd1) | exact HB.out))) : w.heap.size ≤ gb280)); clear HB; have HB := n0_; have BK280 := n1_; have GW280 := n2_; have GE280 := n3_; clear n0_ n1_ n2_ n3_; clear hb hbox hg))
 (try simp only [Act.put, List.setIfInBounds_toArray, List.set_cons_zero, List.set_cons_succ])
 go_cut [15] (fun v15 wc => ∃ (kq : Nat) (x15_1 : Bool), v15 = .bool x15_1 ∧ A0q (rPa.j0 kq a0 x15_1 = some (r1, r2, r3, r4, r5)) ∧ A0q (kq ≤ k) ∧ A0q (wc.heap[gb280]? = some (.cells #[.string (⟨#[]⟩ : ByteArray), .string (⟨#[]⟩ : ByteArray), (.slice none 0 0), .string (⟨#[]⟩ : ByteArray)] 25 (0, 0))) ∧ A0q (Below w.heap.size w wc))
 case first =>
  have H := HC2.out
  clear HC2
  replace H := Option.bind_eq_some_iff.mp H
  obtain ⟨t281, A40, H⟩ := H
  replace H : (if t281 = true then ((rHa.f k a0 (⟨#[13, 10]⟩ : ByteArray)).bind fun t282 => (rPa.j0 k a0 t282)) else (rPa.j0 k a0 true)) = some (r1, r2, r3, r4, r5) := H
  have A4 := A0q.mk A40
  clear A40
  by_cases c5 : t281 = true
  ·
   subst c5
   have H1 : ((rHa.f k a0 (⟨#[13, 10]⟩ : ByteArray)).bind fun t282 => (rPa.j0 k a0 t282)) = some (r1, r2, r3, r4, r5) := by rw [if_pos rfl] at H; exact H
   clear H
   have H := H1
   clear H1
   replace H := Option.bind_eq_some_iff.mp H
   obtain ⟨t282, A60, H⟩ := H
   replace H : (rPa.j0 k a0 t282) = some (r1, r2, r3, r4, r5) := H
   have A6 := A0q.mk A60
   clear A60
   have H' := A0q.mk H
   clear H
   go_wp2_with (first | ((with_reducible refine gC (f := 54) rfl ?_); refine goesL_ (some 10) rfl rfl Tryz.func54 (by kernel_rfl) rfl #[.string a0] rfl (by (try simp only [List.map_toArray, List.map_cons, List.map_nil]); first | done | rfl | (simp only [List.length_drop, List.length_take]; rfl)) ?_; (with_reducible refine (rVa.calls k a0 true _ A4.out).mono ?_); rintro e w' ⟨rfl, ⟨nd, rfl⟩⟩; refine ⟨_, rfl, ?_⟩) | (go_at_call 55; (with_reducible refine (rHa.calls k a0 (⟨#[13, 10]⟩ : ByteArray) t282 _ A6.out).mono ?_); rintro e w' ⟨rfl, ⟨nd, rfl⟩⟩))
   go_meet
   case rel => exact ⟨_, (t282), (by first | rfl | (simp; done) | (simp [*]; done)), H', ⟨by first | omega | exact Nat.le_refl _⟩, ⟨by (with_reducible repeat (first | refine bkN ?_ _ | refine bkD ?_ | refine bkA ?_ _)); exact BK280.out⟩, ⟨by repeat (first | (with_reducible first | exact HB.out | apply bA | apply bdN | apply bd1 | refine bS ?_ GE280.out) | exact HB.out)⟩⟩
  ·
   replace c5 := Bool.eq_false_iff.mpr c5
   subst c5
   have H1 : (rPa.j0 k a0 true) = some (r1, r2, r3, r4, r5) := by rw [if_neg (show ¬ (false = true) by decide)] at H; exact H
   clear H
   have H := H1
   clear H1
   have H' := A0q.mk H
   clear H
   go_wp2_with (first | ((with_reducible refine gC (f := 54) rfl ?_); refine goesL_ (some 10) rfl rfl Tryz.func54 (by kernel_rfl) rfl #[.string a0] rfl (by (try simp only [List.map_toArray, List.map_cons, List.map_nil]); first | done | rfl | (simp only [List.length_drop, List.length_take]; rfl)) ?_; (with_reducible refine (rVa.calls k a0 false _ A4.out).mono ?_); rintro e w' ⟨rfl, ⟨nd, rfl⟩⟩; refine ⟨_, rfl, ?_⟩))
   go_meet
   case rel => exact ⟨_, (true), (by first | rfl | (simp; done) | (simp [*]; done)), H', ⟨by first | omega | exact Nat.le_refl _⟩, ⟨by (with_reducible repeat (first | refine bkN ?_ _ | refine bkD ?_ | refine bkA ?_ _)); exact BK280.out⟩, ⟨by repeat (first | (with_reducible first | exact HB.out | apply bA | apply bdN | apply bd1 | refine bS ?_ GE280.out) | exact HB.out)⟩⟩
 case rest =>
  clear HC2
  try clear c2
  try clear p2
  try clear c5
  obtain ⟨kq, x15_1, rfl, HA, HJ1, BK280, HB⟩ := hcut
  cases kq with
  | zero => exact absurd HA.out (by simp [rPa.j0])
  | succ kj1 =>
   have H := HA.out
   clear HA
   simp only [rPa.j0] at H
   by_cases c7 : x15_1 = true
   ·
    subst c7
    have H1 : (some ((⟨#[]⟩ : ByteArray), (⟨#[]⟩ : ByteArray), ([] : List (S31)), (⟨#[]⟩ : ByteArray), 10)) = some (r1, r2, r3, r4, r5) := by rw [if_pos rfl] at H; exact H
    clear H
    have H := H1
    clear H1
    simp only [Option.some.injEq, Prod.mk.injEq] at H
    obtain ⟨rfl, rfl, rfl, rfl, rfl⟩ := H
    have hcz8_0 : wc.cell? ⟨gb280, 0, none⟩ = some (.string (⟨#[]⟩ : ByteArray)) := (bkC BK280.out 0).trans rfl
    have hcz8_1 : wc.cell? ⟨gb280, 1, none⟩ = some (.string (⟨#[]⟩ : ByteArray)) := (bkC BK280.out 1).trans rfl
    have hcz8_2 : wc.cell? ⟨gb280, 2, none⟩ = some (.slice none 0 0) := (bkC BK280.out 2).trans rfl
    have hcz8_3 : wc.cell? ⟨gb280, 3, none⟩ = some (.string (⟨#[]⟩ : ByteArray)) := (bkC BK280.out 3).trans rfl
    have hfz8_0 := bkF BK280.out 0
    have hfz8_1 := bkF BK280.out 1
    have hfz8_2 := bkF BK280.out 2
    have hfz8_3 := bkF BK280.out 3
    go_wp2
    refine bodyPost_ret (results_ct rfl _ _ gb280 25 #[.string (⟨#[]⟩ : ByteArray), .string (⟨#[]⟩ : ByteArray), .slice none 0 0, .string (⟨#[]⟩ : ByteArray)] (0, 0) _ rfl (by (with_reducible repeat (first | refine bkN ?_ _ | refine bkD ?_ | refine bkA ?_ _)); refine bkP (cs := #[.string (⟨#[]⟩ : ByteArray), .string (⟨#[]⟩ : ByteArray), .slice none 0 0, .string (⟨#[]⟩ : ByteArray)]) ?_ 3 _ rfl; (with_reducible repeat (first | refine bkN ?_ _ | refine bkD ?_ | refine bkA ?_ _)); refine bkP (cs := #[.string (⟨#[]⟩ : ByteArray), .string (⟨#[]⟩ : ByteArray), .slice none 0 0, .string (⟨#[]⟩ : ByteArray)]) ?_ 2 _ rfl; (with_reducible repeat (first | refine bkN ?_ _ | refine bkD ?_ | refine bkA ?_ _)); refine bkP (cs := #[.string (⟨#[]⟩ : ByteArray), .string (⟨#[]⟩ : ByteArray), .slice none 0 0, .string (⟨#[]⟩ : ByteArray)]) ?_ 1 _ rfl; (with_reducible repeat (first | refine bkN ?_ _ | refine bkD ?_ | refine bkA ?_ _)); refine bkP (cs := #[.string (⟨#[]⟩ : ByteArray), .string (⟨#[]⟩ : ByteArray), .slice none 0 0, .string (⟨#[]⟩ : ByteArray)]) ?_ 0 _ rfl; (with_reducible repeat (first | refine bkN ?_ _ | refine bkD ?_ | refine bkA ?_ _)); exact BK280.out) Tryz.underlying25 rfl (by kernel_rfl)) rfl ?_
    exact ⟨_, by first | rfl | (simp [eWn, eWs] <;> rfl) | (simp [*, eWn, eWs] <;> rfl), by first | exact Kd.S_nil _ _ _ _ _ | exact Kd.N_nil _ _ _ _ _ | exact Kd.V_nil _ _ _ _ _ | exact Kd.Q_nil _ _ _ _ _ | exact Kd.R_nil _ _ _ _ _, by repeat (first | (with_reducible first | exact HB.out | apply bA | apply bdN | apply bd1 | refine bS ?_ GE280.out) | exact HB.out)⟩
   ·
    replace c7 := Bool.eq_false_iff.mpr c7
    subst c7
    have H1 : ((rSn.f kj1 a0 0 0).bind fun bt285 => ((rSs.f kj1 bt285.2.1 bt285.2.2.1 bt285.2.2.2 (⟨#[46, 59, 58]⟩ : ByteArray)).bind fun bt289 => (if bt289.1 = 46 then ((rSn.f kj1 bt289.2.1 bt289.2.2.1 bt289.2.2.2).bind fun bt293 => ((rSs.f kj1 bt293.2.1 bt293.2.2.1 bt293.2.2.2 (⟨#[59, 58]⟩ : ByteArray)).bind fun bt297 => (rPa.j1 kj1 a0 bt297.1 bt297.2.1 bt297.2.2.1 bt297.2.2.2 bt285.1 bt293.1 (⟨#[]⟩ : ByteArray)))) else (rPa.j1 kj1 a0 bt289.1 bt289.2.1 bt289.2.2.1 bt289.2.2.2 (⟨#[]⟩ : ByteArray) bt285.1 (⟨#[]⟩ : ByteArray))))) = some (r1, r2, r3, r4, r5) := by rw [if_neg (show ¬ (false = true) by decide)] at H; exact H
    clear H
    have H := H1
    clear H1
    replace H := Option.bind_eq_some_iff.mp H
    obtain ⟨⟨t285, t286, t287, t288⟩, A90, H⟩ := H
    replace H : ((rSs.f kj1 t286 t287 t288 (⟨#[46, 59, 58]⟩ : ByteArray)).bind fun bt289 => (if bt289.1 = 46 then ((rSn.f kj1 bt289.2.1 bt289.2.2.1 bt289.2.2.2).bind fun bt293 => ((rSs.f kj1 bt293.2.1 bt293.2.2.1 bt293.2.2.2 (⟨#[59, 58]⟩ : ByteArray)).bind fun bt297 => (rPa.j1 kj1 a0 bt297.1 bt297.2.1 bt297.2.2.1 bt297.2.2.2 t285 bt293.1 (⟨#[]⟩ : ByteArray)))) else (rPa.j1 kj1 a0 bt289.1 bt289.2.1 bt289.2.2.1 bt289.2.2.2 (⟨#[]⟩ : ByteArray) t285 (⟨#[]⟩ : ByteArray)))) = some (r1, r2, r3, r4, r5) := H
    have A9 := A0q.mk A90
    clear A90
    replace H := Option.bind_eq_some_iff.mp H
    obtain ⟨⟨t289, t290, t291, t292⟩, A100, H⟩ := H
    replace H : (if t289 = 46 then ((rSn.f kj1 t290 t291 t292).bind fun bt293 => ((rSs.f kj1 bt293.2.1 bt293.2.2.1 bt293.2.2.2 (⟨#[59, 58]⟩ : ByteArray)).bind fun bt297 => (rPa.j1 kj1 a0 bt297.1 bt297.2.1 bt297.2.2.1 bt297.2.2.2 t285 bt293.1 (⟨#[]⟩ : ByteArray)))) else (rPa.j1 kj1 a0 t289 t290 t291 t292 (⟨#[]⟩ : ByteArray) t285 (⟨#[]⟩ : ByteArray))) = some (r1, r2, r3, r4, r5) := H
    have A10 := A0q.mk A100
    clear A100
    have HC11 := A0q.mk H
    clear H
    go_upto_if 26 with (first | ((with_reducible refine gate_dst (N := 19) rfl ?_); refine box_event ?hg (N := 19) ?hd (cs := #[.string a0, .int .i64 0, .int .i64 0]) (t := 79) ?hr ?_; (case hd => rfl); (case hg => rfl); (case hr => first | (go_simp; done) | (go_simp; rfl)); intro gb283 hg w12 hbox hb; have n0_ := A0q.mk (bkB (g := gb280) (o := .cells #[.string (⟨#[]⟩ : ByteArray), .string (⟨#[]⟩ : ByteArray), .slice none 0 0, .string (⟨#[]⟩ : ByteArray)] 25 (0, 0)) (by (with_reducible repeat (first | refine bkN ?_ _ | refine bkD ?_ | refine bkA ?_ _)); exact BK280.out) hb); have n1_ := A0q.mk (bT (by repeat (first | (with_reducible first | exact HB.out | apply bA | apply bdN | apply bd1 | refine bS ?_ GE280.out) | exact HB.out)) hb); have n2_ := A0q.mk (hbox); have n3_ := A0q.mk ((by rw [hg]; exact (bZ (by repeat (first | (with_reducible first | exact HB.out | apply bA | apply bdN | apply bd1 | refine bS ?_ GE280.out) | exact HB.out))) : w.heap.size ≤ gb283)); have n4_ := A0q.mk ((by rw [hg]; exact (bZ (by repeat (first | (with_reducible first | exact HB.out | apply bA | apply bdN | apply bd1 | refine bS ?_ GE280.out) | exact HB.out))) : w.heap.size ≤ gb283)); have n5_ := A0q.mk ((by rw [hg]; exact Nat.ne_of_lt (bkL (g := gb280) (o := .cells #[.string (⟨#[]⟩ : ByteArray), .string (⟨#[]⟩ : ByteArray), .slice none 0 0, .string (⟨#[]⟩ : ByteArray)] 25 (0, 0)) (by (with_reducible repeat (first | refine bkN ?_ _ | refine bkD ?_ | refine bkA ?_ _)); exact BK280.out)) : gb280 ≠ gb283)); have n6_ := A0q.mk ((by rw [hg]; exact Nat.ne_of_gt (bkL (g := gb280) (o := .cells #[.string (⟨#[]⟩ : ByteArray), .string (⟨#[]⟩ : ByteArray), .slice none 0 0, .string (⟨#[]⟩ : ByteArray)] 25 (0, 0)) (by (with_reducible repeat (first | refine bkN ?_ _ | refine bkD ?_ | refine bkA ?_ _)); exact BK280.out)) : gb283 ≠ gb280)); clear BK280; clear HB; have BK280 := n0_; have HB := n1_; have BK283 := n2_; have GW283 := n3_; have GE283 := n4_; have NB280_283 := n5_; have NB283_280 := n6_; clear n0_ n1_ n2_ n3_ n4_ n5_ n6_; clear hb hbox hg) | ((with_reducible refine gate_dst (N := 5) rfl ?_); refine box_event ?hg (N := 5) ?hd (cs := #[.string (⟨#[]⟩ : ByteArray), .string (⟨#[]⟩ : ByteArray), .slice none 0 0, .string (⟨#[]⟩ : ByteArray)]) (t := 25) ?hr ?_; (case hd => rfl); (case hg => rfl); (case hr => first | (go_simp; done) | (go_simp; rfl)); intro gb284 hg w13 hbox hb; have n0_ := A0q.mk (bkB (g := gb280) (o := .cells #[.string (⟨#[]⟩ : ByteArray), .string (⟨#[]⟩ : ByteArray), .slice none 0 0, .string (⟨#[]⟩ : ByteArray)] 25 (0, 0)) (by (with_reducible repeat (first | refine bkN ?_ _ | refine bkD ?_ | refine bkA ?_ _)); exact BK280.out) hb); have n1_ := A0q.mk (bkB (g := gb283) (o := .cells #[.string a0, .int .i64 0, .int .i64 0] 79 (0, 0)) (by (with_reducible repeat (first | refine bkN ?_ _ | refine bkD ?_ | refine bkA ?_ _)); exact BK283.out) hb); have n2_ := A0q.mk (bT (by repeat (first | (with_reducible first | exact HB.out | apply bA | apply bdN | apply bd1 | refine bS ?_ GE280.out | refine bS ?_ GE283.out) | exact HB.out)) hb); have n3_ := A0q.mk (hbox); have n4_ := A0q.mk ((by rw [hg]; exact (bZ (by repeat (first | (with_reducible first | exact HB.out | apply bA | apply bdN | apply bd1 | refine bS ?_ GE280.out | refine bS ?_ GE283.out) | exact HB.out))) : w.heap.size ≤ gb284)); have n5_ := A0q.mk ((by rw [hg]; exact (bZ (by repeat (first | (with_reducible first | exact HB.out | apply bA | apply bdN | apply bd1 | refine bS ?_ GE280.out | refine bS ?_ GE283.out) | exact HB.out))) : w.heap.size ≤ gb284)); have n6_ := A0q.mk ((by rw [hg]; exact Nat.ne_of_lt (bkL (g := gb280) (o := .cells #[.string (⟨#[]⟩ : ByteArray), .string (⟨#[]⟩ : ByteArray), .slice none 0 0, .string (⟨#[]⟩ : ByteArray)] 25 (0, 0)) (by (with_reducible repeat (first | refine bkN ?_ _ | refine bkD ?_ | refine bkA ?_ _)); exact BK280.out)) : gb280 ≠ gb284)); have n7_ := A0q.mk ((by rw [hg]; exact Nat.ne_of_gt (bkL (g := gb280) (o := .cells #[.string (⟨#[]⟩ : ByteArray), .string (⟨#[]⟩ : ByteArray), .slice none 0 0, .string (⟨#[]⟩ : ByteArray)] 25 (0, 0)) (by (with_reducible repeat (first | refine bkN ?_ _ | refine bkD ?_ | refine bkA ?_ _)); exact BK280.out)) : gb284 ≠ gb280)); have n8_ := A0q.mk ((by rw [hg]; exact Nat.ne_of_lt (bkL (g := gb283) (o := .cells #[.string a0, .int .i64 0, .int .i64 0] 79 (0, 0)) (by (with_reducible repeat (first | refine bkN ?_ _ | refine bkD ?_ | refine bkA ?_ _)); exact BK283.out)) : gb283 ≠ gb284)); have n9_ := A0q.mk ((by rw [hg]; exact Nat.ne_of_gt (bkL (g := gb283) (o := .cells #[.string a0, .int .i64 0, .int .i64 0] 79 (0, 0)) (by (with_reducible repeat (first | refine bkN ?_ _ | refine bkD ?_ | refine bkA ?_ _)); exact BK283.out)) : gb284 ≠ gb283)); clear BK280; clear BK283; clear HB; have BK280 := n0_; have BK283 := n1_; have HB := n2_; have BK284 := n3_; have GW284 := n4_; have GE284 := n5_; have NB280_284 := n6_; have NB284_280 := n7_; have NB283_284 := n8_; have NB284_283 := n9_; clear n0_ n1_ n2_ n3_ n4_ n5_ n6_ n7_ n8_ n9_; clear hb hbox hg; have HI283 := A0q.mk (show I79 w w13 gb283 a0 0 0 from ⟨BK283.out, GE283.out⟩)) | ((with_reducible refine gC (f := 56) rfl ?_); refine goesL_ (some 21) rfl rfl Tryz.func56 (by kernel_rfl) rfl #[.pointer (some ⟨gb283, 0, none⟩)] rfl (by (try simp only [List.map_toArray, List.map_cons, List.map_nil]); first | done | rfl | (simp only [List.length_drop, List.length_take]; rfl)) ?_; (with_reducible refine (rSn.calls kj1 gb283 a0 0 0 t285 t286 t287 t288 w _ ?side1 ?side2 A9.out).mono ?_); (case side1 => repeat (first | (with_reducible first | exact HI283.out | apply I79.alloc | apply I79.drewN | apply I79.drew | apply I79.set_0 | apply I79.set_1 | apply I79.set_2 | refine I79.far ?_ NB283_280.out _ | refine I79.far ?_ NB283_284.out _) | exact HI283.out)); (case side2 => repeat (first | (with_reducible first | exact HB.out | apply bA | apply bdN | apply bd1 | refine bS ?_ (I79.ge HI283.out) | refine bS ?_ GE280.out | refine bS ?_ GE284.out) | exact HB.out)); rintro e w14 ⟨rfl, hi, hb, hk⟩; refine ⟨_, rfl, ?_⟩; have n0_ := A0q.mk (KpB.blk hk (g' := gb280) (o := .cells #[.string (⟨#[]⟩ : ByteArray), .string (⟨#[]⟩ : ByteArray), .slice none 0 0, .string (⟨#[]⟩ : ByteArray)] 25 (0, 0)) (by (with_reducible repeat (first | refine bkN ?_ _ | refine bkD ?_ | refine bkA ?_ _)); exact BK280.out) NB280_283.out (by simp)); have n1_ := A0q.mk (KpB.blk hk (g' := gb284) (o := .cells #[.string (⟨#[]⟩ : ByteArray), .string (⟨#[]⟩ : ByteArray), .slice none 0 0, .string (⟨#[]⟩ : ByteArray)] 25 (0, 0)) (by (with_reducible repeat (first | refine bkN ?_ _ | refine bkD ?_ | refine bkA ?_ _)); exact BK284.out) NB284_283.out (by simp)); have n2_ := A0q.mk (hb); have n3_ := A0q.mk (hi); clear BK280; clear BK284; clear HB; clear HI283; have BK280 := n0_; have BK284 := n1_; have HB := n2_; have HI283 := n3_; clear n0_ n1_ n2_ n3_; (try clear hb); (try clear hb2); (try clear hk); (try clear hi); have hnb15 := NB284_280.out; have hnc15 := NB280_284.out; have hnb16 := NB284_283.out; have hnc16 := NB283_284.out; have hcz17_0 : w14.cell? ⟨gb284, 0, none⟩ = some (.string (⟨#[]⟩ : ByteArray)) := (bkC BK284.out 0).trans rfl; have hcz17_1 : w14.cell? ⟨gb284, 1, none⟩ = some (.string (⟨#[]⟩ : ByteArray)) := (bkC BK284.out 1).trans rfl; have hcz17_2 : w14.cell? ⟨gb284, 2, none⟩ = some (.slice none 0 0) := (bkC BK284.out 2).trans rfl; have hcz17_3 : w14.cell? ⟨gb284, 3, none⟩ = some (.string (⟨#[]⟩ : ByteArray)) := (bkC BK284.out 3).trans rfl; have hfz17_0 := bkF BK284.out 0; have hfz17_1 := bkF BK284.out 1; have hfz17_2 := bkF BK284.out 2; have hfz17_3 := bkF BK284.out 3) | ((with_reducible refine gC (f := 57) rfl ?_); refine goesL_ (some 24) rfl rfl Tryz.func57 (by kernel_rfl) rfl #[.pointer (some ⟨gb283, 0, none⟩), .string (⟨#[46, 59, 58]⟩ : ByteArray)] rfl (by (try simp only [List.map_toArray, List.map_cons, List.map_nil]); first | done | rfl | (simp only [List.length_drop, List.length_take]; rfl)) ?_; (with_reducible refine (rSs.calls kj1 gb283 t286 t287 t288 (⟨#[46, 59, 58]⟩ : ByteArray) t289 t290 t291 t292 w _ ?side1 ?side2 A10.out).mono ?_); (case side1 => repeat (first | (with_reducible first | exact HI283.out | apply I79.alloc | apply I79.drewN | apply I79.drew | apply I79.set_0 | apply I79.set_1 | apply I79.set_2 | refine I79.far ?_ NB283_280.out _ | refine I79.far ?_ NB283_284.out _) | exact HI283.out)); (case side2 => repeat (first | (with_reducible first | exact HB.out | apply bA | apply bdN | apply bd1 | refine bS ?_ (I79.ge HI283.out) | refine bS ?_ GE280.out | refine bS ?_ GE284.out) | exact HB.out)); rintro e w18 ⟨rfl, hi, hb, hk⟩; refine ⟨_, rfl, ?_⟩; have n0_ := A0q.mk (KpB.blk hk (g' := gb280) (o := .cells #[.string (⟨#[]⟩ : ByteArray), .string (⟨#[]⟩ : ByteArray), .slice none 0 0, .string (⟨#[]⟩ : ByteArray)] 25 (0, 0)) (by (with_reducible repeat (first | refine bkN ?_ _ | refine bkD ?_ | refine bkA ?_ _)); refine bkR ?_ NB280_284.out _; (with_reducible repeat (first | refine bkN ?_ _ | refine bkD ?_ | refine bkA ?_ _)); exact BK280.out) NB280_283.out (by simp)); have n1_ := A0q.mk (KpB.blk hk (g' := gb284) (o := .cells #[.string (⟨#[]⟩ : ByteArray), .string t285, .slice none 0 0, .string (⟨#[]⟩ : ByteArray)] 25 (0, 0)) (by (with_reducible repeat (first | refine bkN ?_ _ | refine bkD ?_ | refine bkA ?_ _)); refine bkP (cs := #[.string (⟨#[]⟩ : ByteArray), .string (⟨#[]⟩ : ByteArray), .slice none 0 0, .string (⟨#[]⟩ : ByteArray)]) ?_ 1 _ rfl; (with_reducible repeat (first | refine bkN ?_ _ | refine bkD ?_ | refine bkA ?_ _)); exact BK284.out) NB284_283.out (by simp)); have n2_ := A0q.mk (hb); have n3_ := A0q.mk (hi); clear BK280; clear BK284; clear HB; clear HI283; have BK280 := n0_; have BK284 := n1_; have HB := n2_; have HI283 := n3_; clear n0_ n1_ n2_ n3_; (try clear hb); (try clear hb2); (try clear hk); (try clear hi)))
    (try simp only [Act.put, List.setIfInBounds_toArray, List.set_cons_zero, List.set_cons_succ])
    go_cut [6] (fun v6 wc => ∃ (kq : Nat) (x6_10 : Int) (x284000_10 : ByteArray) (x284001_10 : Int) (x284002_10 : Int) (x285000_10 : ByteArray) (x285001_10 : ByteArray), v6 = .int .u8 x6_10 ∧ A0q (rPa.j1 kq a0 x6_10 x284000_10 x284001_10 x284002_10 x285000_10 x285001_10 (⟨#[]⟩ : ByteArray) = some (r1, r2, r3, r4, r5)) ∧ A0q (kq ≤ kj1) ∧ A0q (wc.heap[gb280]? = some (.cells #[.string (⟨#[]⟩ : ByteArray), .string (⟨#[]⟩ : ByteArray), (.slice none 0 0), .string (⟨#[]⟩ : ByteArray)] 25 (0, 0))) ∧ A0q (wc.heap[gb284]? = some (.cells #[.string x285000_10, .string x285001_10, (.slice none 0 0), .string (⟨#[]⟩ : ByteArray)] 25 (0, 0))) ∧ A0q (I79 w wc gb283 x284000_10 x284001_10 x284002_10) ∧ A0q (Below w.heap.size w wc))
    case first =>
     have H := HC11.out
     clear HC11
     by_cases c19 : t289 = 46
     ·
      rw [if_pos c19] at H
      have c19b0 : (t289 == 46) = true := beq_iff_eq.mpr c19
      have c19b1 : (t289 != 46) = false := bne_eq_false_iff_eq.mpr c19
      clear c19
      (first | rw [c19b0] | (simp only [i64_w, i32_w]; rw [c19b0]) | rw [c19b1] | skip)
      replace H := Option.bind_eq_some_iff.mp H
      obtain ⟨⟨t293, t294, t295, t296⟩, A200, H⟩ := H
      replace H : ((rSs.f kj1 t294 t295 t296 (⟨#[59, 58]⟩ : ByteArray)).bind fun bt297 => (rPa.j1 kj1 a0 bt297.1 bt297.2.1 bt297.2.2.1 bt297.2.2.2 t285 t293 (⟨#[]⟩ : ByteArray))) = some (r1, r2, r3, r4, r5) := H
      have A20 := A0q.mk A200
      clear A200
      replace H := Option.bind_eq_some_iff.mp H
      obtain ⟨⟨t297, t298, t299, t300⟩, A210, H⟩ := H
      replace H : (rPa.j1 kj1 a0 t297 t298 t299 t300 t285 t293 (⟨#[]⟩ : ByteArray)) = some (r1, r2, r3, r4, r5) := H
      have A21 := A0q.mk A210
      clear A210
      have H' := A0q.mk H
      clear H
      have hnb22 := NB284_280.out
      have hnc22 := NB280_284.out
      have hnb23 := NB284_283.out
      have hnc23 := NB283_284.out
      have hcz24_0 : w18.cell? ⟨gb284, 0, none⟩ = some (.string (⟨#[]⟩ : ByteArray)) := (bkC BK284.out 0).trans rfl
      have hcz24_1 : w18.cell? ⟨gb284, 1, none⟩ = some (.string t285) := (bkC BK284.out 1).trans rfl
      have hcz24_2 : w18.cell? ⟨gb284, 2, none⟩ = some (.slice none 0 0) := (bkC BK284.out 2).trans rfl
      have hcz24_3 : w18.cell? ⟨gb284, 3, none⟩ = some (.string (⟨#[]⟩ : ByteArray)) := (bkC BK284.out 3).trans rfl
      have hfz24_0 := bkF BK284.out 0
      have hfz24_1 := bkF BK284.out 1
      have hfz24_2 := bkF BK284.out 2
      have hfz24_3 := bkF BK284.out 3
      go_wp2_with (first | ((with_reducible refine gC (f := 56) rfl ?_); refine goesL_ (some 31) rfl rfl Tryz.func56 (by kernel_rfl) rfl #[.pointer (some ⟨gb283, 0, none⟩)] rfl (by (try simp only [List.map_toArray, List.map_cons, List.map_nil]); first | done | rfl | (simp only [List.length_drop, List.length_take]; rfl)) ?_; (with_reducible refine (rSn.calls kj1 gb283 t290 t291 t292 t293 t294 t295 t296 w _ ?side1 ?side2 A20.out).mono ?_); (case side1 => repeat (first | (with_reducible first | exact HI283.out | apply I79.alloc | apply I79.drewN | apply I79.drew | apply I79.set_0 | apply I79.set_1 | apply I79.set_2 | refine I79.far ?_ NB283_280.out _ | refine I79.far ?_ NB283_284.out _) | exact HI283.out)); (case side2 => repeat (first | (with_reducible first | exact HB.out | apply bA | apply bdN | apply bd1 | refine bS ?_ (I79.ge HI283.out) | refine bS ?_ GE280.out | refine bS ?_ GE284.out) | exact HB.out)); rintro e w25 ⟨rfl, hi, hb, hk⟩; refine ⟨_, rfl, ?_⟩; have n0_ := A0q.mk (KpB.blk hk (g' := gb280) (o := .cells #[.string (⟨#[]⟩ : ByteArray), .string (⟨#[]⟩ : ByteArray), .slice none 0 0, .string (⟨#[]⟩ : ByteArray)] 25 (0, 0)) (by (with_reducible repeat (first | refine bkN ?_ _ | refine bkD ?_ | refine bkA ?_ _)); refine bkR ?_ NB280_284.out _; (with_reducible repeat (first | refine bkN ?_ _ | refine bkD ?_ | refine bkA ?_ _)); exact BK280.out) NB280_283.out (by simp)); have n1_ := A0q.mk (KpB.blk hk (g' := gb284) (o := .cells #[.string t285, .string t285, .slice none 0 0, .string (⟨#[]⟩ : ByteArray)] 25 (0, 0)) (by (with_reducible repeat (first | refine bkN ?_ _ | refine bkD ?_ | refine bkA ?_ _)); refine bkP (cs := #[.string (⟨#[]⟩ : ByteArray), .string t285, .slice none 0 0, .string (⟨#[]⟩ : ByteArray)]) ?_ 0 _ rfl; (with_reducible repeat (first | refine bkN ?_ _ | refine bkD ?_ | refine bkA ?_ _)); exact BK284.out) NB284_283.out (by simp)); have n2_ := A0q.mk (hb); have n3_ := A0q.mk (hi); clear BK280; clear BK284; clear HB; clear HI283; have BK280 := n0_; have BK284 := n1_; have HB := n2_; have HI283 := n3_; clear n0_ n1_ n2_ n3_; (try clear hb); (try clear hb2); (try clear hk); (try clear hi); have hcz26_0 : w25.cell? ⟨gb284, 0, none⟩ = some (.string t285) := (bkC BK284.out 0).trans rfl; have hcz26_1 : w25.cell? ⟨gb284, 1, none⟩ = some (.string t285) := (bkC BK284.out 1).trans rfl; have hcz26_2 : w25.cell? ⟨gb284, 2, none⟩ = some (.slice none 0 0) := (bkC BK284.out 2).trans rfl; have hcz26_3 : w25.cell? ⟨gb284, 3, none⟩ = some (.string (⟨#[]⟩ : ByteArray)) := (bkC BK284.out 3).trans rfl; have hfz26_0 := bkF BK284.out 0; have hfz26_1 := bkF BK284.out 1; have hfz26_2 := bkF BK284.out 2; have hfz26_3 := bkF BK284.out 3) | ((with_reducible refine gC (f := 57) rfl ?_); refine goesL_ (some 34) rfl rfl Tryz.func57 (by kernel_rfl) rfl #[.pointer (some ⟨gb283, 0, none⟩), .string (⟨#[59, 58]⟩ : ByteArray)] rfl (by (try simp only [List.map_toArray, List.map_cons, List.map_nil]); first | done | rfl | (simp only [List.length_drop, List.length_take]; rfl)) ?_; (with_reducible refine (rSs.calls kj1 gb283 t294 t295 t296 (⟨#[59, 58]⟩ : ByteArray) t297 t298 t299 t300 w _ ?side1 ?side2 A21.out).mono ?_); (case side1 => repeat (first | (with_reducible first | exact HI283.out | apply I79.alloc | apply I79.drewN | apply I79.drew | apply I79.set_0 | apply I79.set_1 | apply I79.set_2 | refine I79.far ?_ NB283_280.out _ | refine I79.far ?_ NB283_284.out _) | exact HI283.out)); (case side2 => repeat (first | (with_reducible first | exact HB.out | apply bA | apply bdN | apply bd1 | refine bS ?_ (I79.ge HI283.out) | refine bS ?_ GE280.out | refine bS ?_ GE284.out) | exact HB.out)); rintro e w27 ⟨rfl, hi, hb, hk⟩; refine ⟨_, rfl, ?_⟩; have n0_ := A0q.mk (KpB.blk hk (g' := gb280) (o := .cells #[.string (⟨#[]⟩ : ByteArray), .string (⟨#[]⟩ : ByteArray), .slice none 0 0, .string (⟨#[]⟩ : ByteArray)] 25 (0, 0)) (by (with_reducible repeat (first | refine bkN ?_ _ | refine bkD ?_ | refine bkA ?_ _)); refine bkR ?_ NB280_284.out _; (with_reducible repeat (first | refine bkN ?_ _ | refine bkD ?_ | refine bkA ?_ _)); exact BK280.out) NB280_283.out (by simp)); have n1_ := A0q.mk (KpB.blk hk (g' := gb284) (o := .cells #[.string t285, .string t293, .slice none 0 0, .string (⟨#[]⟩ : ByteArray)] 25 (0, 0)) (by (with_reducible repeat (first | refine bkN ?_ _ | refine bkD ?_ | refine bkA ?_ _)); refine bkP (cs := #[.string t285, .string t285, .slice none 0 0, .string (⟨#[]⟩ : ByteArray)]) ?_ 1 _ rfl; (with_reducible repeat (first | refine bkN ?_ _ | refine bkD ?_ | refine bkA ?_ _)); exact BK284.out) NB284_283.out (by simp)); have n2_ := A0q.mk (hb); have n3_ := A0q.mk (hi); clear BK280; clear BK284; clear HB; clear HI283; have BK280 := n0_; have BK284 := n1_; have HB := n2_; have HI283 := n3_; clear n0_ n1_ n2_ n3_; (try clear hb); (try clear hb2); (try clear hk); (try clear hi)))
      go_meet
      case rel => exact ⟨_, (t297), (t298), (t299), (t300), (t285), (t293), (by first | rfl | (simp; done) | (simp [*]; done)), H', ⟨by have := HJ1.out; first | omega | exact Nat.le_refl _⟩, ⟨by (with_reducible repeat (first | refine bkN ?_ _ | refine bkD ?_ | refine bkA ?_ _)); exact BK280.out⟩, ⟨by (with_reducible repeat (first | refine bkN ?_ _ | refine bkD ?_ | refine bkA ?_ _)); exact BK284.out⟩, ⟨by repeat (first | (with_reducible first | exact HI283.out | apply I79.alloc | apply I79.drewN | apply I79.drew | apply I79.set_0 | apply I79.set_1 | apply I79.set_2 | refine I79.far ?_ NB283_280.out _ | refine I79.far ?_ NB283_284.out _) | exact HI283.out)⟩, ⟨by repeat (first | (with_reducible first | exact HB.out | apply bA | apply bdN | apply bd1 | refine bS ?_ (I79.ge HI283.out) | refine bS ?_ GE280.out | refine bS ?_ GE284.out) | exact HB.out)⟩⟩
     ·
      rw [if_neg c19] at H
      have c19b0 : (t289 == 46) = false := beq_eq_false_iff_ne.mpr c19
      have c19b1 : (t289 != 46) = true := bne_iff_ne.mpr c19
      (first | rw [c19b0] | (simp only [i64_w, i32_w]; rw [c19b0]) | rw [c19b1] | skip)
      have H' := A0q.mk H
      clear H
      go_wp2
      go_meet
      case rel => exact ⟨_, (t289), (t290), (t291), (t292), ((⟨#[]⟩ : ByteArray)), (t285), (by first | rfl | (simp; done) | (simp [*]; done)), H', ⟨by have := HJ1.out; first | omega | exact Nat.le_refl _⟩, ⟨by (with_reducible repeat (first | refine bkN ?_ _ | refine bkD ?_ | refine bkA ?_ _)); exact BK280.out⟩, ⟨by (with_reducible repeat (first | refine bkN ?_ _ | refine bkD ?_ | refine bkA ?_ _)); exact BK284.out⟩, ⟨by repeat (first | (with_reducible first | exact HI283.out | apply I79.alloc | apply I79.drewN | apply I79.drew | apply I79.set_0 | apply I79.set_1 | apply I79.set_2 | refine I79.far ?_ NB283_280.out _ | refine I79.far ?_ NB283_284.out _) | exact HI283.out)⟩, ⟨by repeat (first | (with_reducible first | exact HB.out | apply bA | apply bdN | apply bd1 | refine bS ?_ (I79.ge HI283.out) | refine bS ?_ GE280.out | refine bS ?_ GE284.out) | exact HB.out)⟩⟩
    case rest =>
     clear HC11
     try clear c1
     try clear c2
     try clear p2
     try clear c5
     try clear c7
     try clear c15
     try clear c16
     try clear c19
     try clear c19b0
     try clear c19b1
     try clear c22
     try clear c23
     try clear hcz17_0
     try clear hcz17_1
     try clear hcz17_2
     try clear hcz17_3
     try clear hcz24_0
     try clear hcz24_1
     try clear hcz24_2
     try clear hcz24_3
     try clear hcz26_0
     try clear hcz26_1
     try clear hcz26_2
     try clear hcz26_3
     try clear hcz8_0
     try clear hcz8_1
     try clear hcz8_2
     try clear hcz8_3
     try clear hfz17_0
     try clear hfz17_1
     try clear hfz17_2
     try clear hfz17_3
     try clear hfz24_0
     try clear hfz24_1
     try clear hfz24_2
     try clear hfz24_3
     try clear hfz26_0
     try clear hfz26_1
     try clear hfz26_2
     try clear hfz26_3
     try clear hfz8_0
     try clear hfz8_1
     try clear hfz8_2
     try clear hfz8_3
     try clear p2
     obtain ⟨kq, x6_10, x284000_10, x284001_10, x284002_10, x285000_10, x285001_10, rfl, HA, HJ10, BK280, BK284, HI283, HB⟩ := hcut
     cases kq with
     | zero => exact absurd HA.out (by simp [rPa.j1])
     | succ kj10 =>
      have H := HA.out
      clear HA
      simp only [rPa.j1] at H
      have H' := A0q.mk H
      clear H
      go_wp2
      go_loopg [6] kj10 (fun kq v6 w' => ∃ (x6_3 : Int) (x284000_3 : ByteArray) (x284001_3 : Int) (x284002_3 : Int) (x285002_3 : List (S31)) (u285002 : Value), v6 = .int .u8 x6_3 ∧ A0q (rPa.l0 kq a0 x6_3 x284000_3 x284001_3 x284002_3 x285000_10 x285001_10 x285002_3 (⟨#[]⟩ : ByteArray) = some (r1, r2, r3, r4, r5)) ∧ A0q (kq ≤ kj10) ∧ A0q (Kd.S k31 31 w' w.heap.size (fun _ => True) u285002 x285002_3) ∧ A0q (w'.heap[gb280]? = some (.cells #[.string (⟨#[]⟩ : ByteArray), .string (⟨#[]⟩ : ByteArray), (.slice none 0 0), .string (⟨#[]⟩ : ByteArray)] 25 (0, 0))) ∧ A0q (w'.heap[gb284]? = some (.cells #[.string x285000_10, .string x285001_10, u285002, .string (⟨#[]⟩ : ByteArray)] 25 (0, 0))) ∧ A0q (I79 w w' gb283 x284000_3 x284001_3 x284002_3) ∧ A0q (Below w.heap.size w w'))
      case atStart => exact ⟨(x6_10), (x284000_10), (x284001_10), (x284002_10), (([] : List (S31))), (.slice none 0 0), (by first | rfl | (simp; done) | (simp [*]; done)), H', ⟨Nat.le_refl _⟩, ⟨by first | exact Kd.S_nil _ _ _ _ _ | exact Kd.N_nil _ _ _ _ _ | exact Kd.V_nil _ _ _ _ _ | exact Kd.Q_nil _ _ _ _ _ | exact Kd.R_nil _ _ _ _ _⟩, ⟨by (with_reducible repeat (first | refine bkN ?_ _ | refine bkD ?_ | refine bkA ?_ _)); exact BK280.out⟩, ⟨by (with_reducible repeat (first | refine bkN ?_ _ | refine bkD ?_ | refine bkA ?_ _)); exact BK284.out⟩, ⟨by repeat (first | (with_reducible first | exact HI283.out | apply I79.alloc | apply I79.drewN | apply I79.drew | apply I79.set_0 | apply I79.set_1 | apply I79.set_2 | refine I79.far ?_ NB283_280.out _ | refine I79.far ?_ NB283_284.out _) | exact HI283.out)⟩, ⟨by repeat (first | (with_reducible first | exact HB.out | apply bA | apply bdN | apply bd1 | refine bS ?_ (I79.ge HI283.out) | refine bS ?_ GE280.out | refine bS ?_ GE284.out) | exact HB.out)⟩⟩
      case round =>
       clear H'
       try clear c1
       try clear c2
       try clear p2
       try clear c5
       try clear c7
       try clear c15
       try clear c16
       try clear c19
       try clear c19b0
       try clear c19b1
       try clear c22
       try clear c23
       try clear hcz17_0
       try clear hcz17_1
       try clear hcz17_2
       try clear hcz17_3
       try clear hcz24_0
       try clear hcz24_1
       try clear hcz24_2
       try clear hcz24_3
       try clear hcz26_0
       try clear hcz26_1
       try clear hcz26_2
       try clear hcz26_3
       try clear hcz8_0
       try clear hcz8_1
       try clear hcz8_2
       try clear hcz8_3
       try clear hfz17_0
       try clear hfz17_1
       try clear hfz17_2
       try clear hfz17_3
       try clear hfz24_0
       try clear hfz24_1
       try clear hfz24_2
       try clear hfz24_3
       try clear hfz26_0
       try clear hfz26_1
       try clear hfz26_2
       try clear hfz26_3
       try clear hfz8_0
       try clear hfz8_1
       try clear hfz8_2
       try clear hfz8_3
       try clear p2
       obtain ⟨x6_3, x284000_3, x284001_3, x284002_3, x285002_3, u285002, rfl, HA, HK3, HO_285002, BK280, BK284, HI283, HB⟩ := hrel
       cases gk with
       | zero => exact absurd HA.out (by simp [rPa.l0])
       | succ k3 =>
        have H := HA.out
        clear HA
        simp only [rPa.l0] at H
        have HC28 := A0q.mk H
        clear H
        go_upto_region 11 with (fail)
        go_cut [43] (fun v43 wc => ∃ (kq : Nat) (x43_27 : Bool), v43 = .bool x43_27 ∧ A0q (rPa.j3 kq a0 x43_27 x284000_3 x284001_3 x284002_3 x285000_10 x285001_10 x285002_3 (⟨#[]⟩ : ByteArray) = some (r1, r2, r3, r4, r5)) ∧ A0q (kq ≤ k3) ∧ A0q (Kd.S k31 31 wc w.heap.size (fun _ => True) u285002 x285002_3) ∧ A0q (wc.heap[gb280]? = some (.cells #[.string (⟨#[]⟩ : ByteArray), .string (⟨#[]⟩ : ByteArray), (.slice none 0 0), .string (⟨#[]⟩ : ByteArray)] 25 (0, 0))) ∧ A0q (wc.heap[gb284]? = some (.cells #[.string x285000_10, .string x285001_10, u285002, .string (⟨#[]⟩ : ByteArray)] 25 (0, 0))) ∧ A0q (I79 w wc gb283 x284000_3 x284001_3 x284002_3) ∧ A0q (Below w.heap.size w wc))
        case first =>
         have H := HC28.out
         clear HC28
         by_cases c29 : x6_3 = 59
         ·
          rw [if_pos c29] at H
          have c29b0 : (x6_3 == 59) = true := beq_iff_eq.mpr c29
          have c29b1 : (x6_3 != 59) = false := bne_eq_false_iff_eq.mpr c29
          clear c29
          (first | rw [c29b0] | (simp only [i64_w, i32_w]; rw [c29b0]) | rw [c29b1] | skip)
          have H' := A0q.mk H
          clear H
          obtain ⟨HGz30, hgz30⟩ := HI283.out
          have hcz30_0 := cellS79_0 HGz30
          have hcz30_1 := cellS79_1 HGz30
          have hcz30_2 := cellS79_2 HGz30
          have hfz30_0 := bkF HGz30 0
          have hfz30_1 := bkF HGz30 1
          have hfz30_2 := bkF HGz30 2
          clear HGz30 hgz30
          go_wp2
          go_meet
          case rel => exact ⟨_, ((x284002_3 == 0)), (by first | rfl | (simp; done) | (simp [*]; done)), H', ⟨by have := HJ1.out; have := HJ10.out; have := HK3.out; first | omega | exact Nat.le_refl _⟩, ⟨by (with_reducible repeat (first | apply Kd.S_alloc | apply Kd.S_drewN | apply Kd.S_drew)); exact HO_285002.out⟩, ⟨by (with_reducible repeat (first | refine bkN ?_ _ | refine bkD ?_ | refine bkA ?_ _)); exact BK280.out⟩, ⟨by (with_reducible repeat (first | refine bkN ?_ _ | refine bkD ?_ | refine bkA ?_ _)); exact BK284.out⟩, ⟨by repeat (first | (with_reducible first | exact HI283.out | apply I79.alloc | apply I79.drewN | apply I79.drew | apply I79.set_0 | apply I79.set_1 | apply I79.set_2 | refine I79.far ?_ NB283_280.out _ | refine I79.far ?_ NB283_284.out _) | exact HI283.out)⟩, ⟨by repeat (first | (with_reducible first | exact HB.out | apply bA | apply bdN | apply bd1 | refine bS ?_ (I79.ge HI283.out) | refine bS ?_ GE280.out | refine bS ?_ GE284.out) | exact HB.out)⟩⟩
         ·
          rw [if_neg c29] at H
          have c29b0 : (x6_3 == 59) = false := beq_eq_false_iff_ne.mpr c29
          have c29b1 : (x6_3 != 59) = true := bne_iff_ne.mpr c29
          (first | rw [c29b0] | (simp only [i64_w, i32_w]; rw [c29b0]) | rw [c29b1] | skip)
          have H' := A0q.mk H
          clear H
          go_wp2
          go_meet
          case rel => exact ⟨_, (false), (by first | rfl | (simp; done) | (simp [*]; done)), H', ⟨by have := HJ1.out; have := HJ10.out; have := HK3.out; first | omega | exact Nat.le_refl _⟩, ⟨by (with_reducible repeat (first | apply Kd.S_alloc | apply Kd.S_drewN | apply Kd.S_drew)); exact HO_285002.out⟩, ⟨by (with_reducible repeat (first | refine bkN ?_ _ | refine bkD ?_ | refine bkA ?_ _)); exact BK280.out⟩, ⟨by (with_reducible repeat (first | refine bkN ?_ _ | refine bkD ?_ | refine bkA ?_ _)); exact BK284.out⟩, ⟨by repeat (first | (with_reducible first | exact HI283.out | apply I79.alloc | apply I79.drewN | apply I79.drew | apply I79.set_0 | apply I79.set_1 | apply I79.set_2 | refine I79.far ?_ NB283_280.out _ | refine I79.far ?_ NB283_284.out _) | exact HI283.out)⟩, ⟨by repeat (first | (with_reducible first | exact HB.out | apply bA | apply bdN | apply bd1 | refine bS ?_ (I79.ge HI283.out) | refine bS ?_ GE280.out | refine bS ?_ GE284.out) | exact HB.out)⟩⟩
        case rest =>
         clear HC28
         try clear c1
         try clear c2
         try clear p2
         try clear c5
         try clear c7
         try clear c15
         try clear c16
         try clear c19
         try clear c19b0
         try clear c19b1
         try clear c22
         try clear c23
         try clear c29
         try clear c29b0
         try clear c29b1
         try clear hcz17_0
         try clear hcz17_1
         try clear hcz17_2
         try clear hcz17_3
         try clear hcz24_0
         try clear hcz24_1
         try clear hcz24_2
         try clear hcz24_3
         try clear hcz26_0
         try clear hcz26_1
         try clear hcz26_2
         try clear hcz26_3
         try clear hcz30_0
         try clear hcz30_1
         try clear hcz30_2
         try clear hcz8_0
         try clear hcz8_1
         try clear hcz8_2
         try clear hcz8_3
         try clear hfz17_0
         try clear hfz17_1
         try clear hfz17_2
         try clear hfz17_3
         try clear hfz24_0
         try clear hfz24_1
         try clear hfz24_2
         try clear hfz24_3
         try clear hfz26_0
         try clear hfz26_1
         try clear hfz26_2
         try clear hfz26_3
         try clear hfz30_0
         try clear hfz30_1
         try clear hfz30_2
         try clear hfz8_0
         try clear hfz8_1
         try clear hfz8_2
         try clear hfz8_3
         try clear p2
         obtain ⟨kq, x43_27, rfl, HA, HJ27, HO_285002, BK280, BK284, HI283, HB⟩ := hcut
         cases kq with
         | zero => exact absurd HA.out (by simp [rPa.j3])
         | succ kj27 =>
          have H := HA.out
          clear HA
          simp only [rPa.j3] at H
          by_cases c31 : x43_27 = true
          ·
           subst c31
           have H1 : ((rSn.f kj27 x284000_3 x284001_3 x284002_3).bind fun bt302 => ((rSs.f kj27 bt302.2.1 bt302.2.2.1 bt302.2.2.2 (⟨#[61]⟩ : ByteArray)).bind fun bt306 => (rPa.l1 kj27 a0 bt306.1 bt306.2.1 bt306.2.2.1 bt306.2.2.2 x285000_10 x285001_10 x285002_3 (⟨#[]⟩ : ByteArray) bt302.1 ([] : List ByteArray)))) = some (r1, r2, r3, r4, r5) := by rw [if_pos rfl] at H; exact H
           clear H
           have H := H1
           clear H1
           replace H := Option.bind_eq_some_iff.mp H
           obtain ⟨⟨t302, t303, t304, t305⟩, A320, H⟩ := H
           replace H : ((rSs.f kj27 t303 t304 t305 (⟨#[61]⟩ : ByteArray)).bind fun bt306 => (rPa.l1 kj27 a0 bt306.1 bt306.2.1 bt306.2.2.1 bt306.2.2.2 x285000_10 x285001_10 x285002_3 (⟨#[]⟩ : ByteArray) t302 ([] : List ByteArray))) = some (r1, r2, r3, r4, r5) := H
           have A32 := A0q.mk A320
           clear A320
           replace H := Option.bind_eq_some_iff.mp H
           obtain ⟨⟨t306, t307, t308, t309⟩, A330, H⟩ := H
           replace H : (rPa.l1 kj27 a0 t306 t307 t308 t309 x285000_10 x285001_10 x285002_3 (⟨#[]⟩ : ByteArray) t302 ([] : List ByteArray)) = some (r1, r2, r3, r4, r5) := H
           have A33 := A0q.mk A330
           clear A330
           have H' := A0q.mk H
           clear H
           go_wp2_with (first | ((with_reducible refine gate_dst (N := 7) rfl ?_); refine box_event ?hg (N := 7) ?hd (cs := #[.string (⟨#[]⟩ : ByteArray), .slice none 0 0]) (t := 31) ?hr ?_; (case hd => rfl); (case hg => rfl); (case hr => first | (go_simp; done) | (go_simp; rfl)); intro gb301 hg w34 hbox hb; have n0_ := A0q.mk (Kd.S_below (Kd.S_elderB (by (with_reducible repeat (first | apply Kd.S_alloc | apply Kd.S_drewN | apply Kd.S_drew)); exact HO_285002.out) gb301 (Nat.le_of_eq hg.symm)) hb); have n1_ := A0q.mk (bkB (g := gb280) (o := .cells #[.string (⟨#[]⟩ : ByteArray), .string (⟨#[]⟩ : ByteArray), .slice none 0 0, .string (⟨#[]⟩ : ByteArray)] 25 (0, 0)) (by (with_reducible repeat (first | refine bkN ?_ _ | refine bkD ?_ | refine bkA ?_ _)); exact BK280.out) hb); have n2_ := A0q.mk (bkB (g := gb284) (o := .cells #[.string x285000_10, .string x285001_10, u285002, .string (⟨#[]⟩ : ByteArray)] 25 (0, 0)) (by (with_reducible repeat (first | refine bkN ?_ _ | refine bkD ?_ | refine bkA ?_ _)); exact BK284.out) hb); have n3_ := A0q.mk (I79.below (by repeat (first | (with_reducible first | exact HI283.out | apply I79.alloc | apply I79.drewN | apply I79.drew | apply I79.set_0 | apply I79.set_1 | apply I79.set_2 | refine I79.far ?_ NB283_280.out _ | refine I79.far ?_ NB283_284.out _) | exact HI283.out)) hb); have n4_ := A0q.mk (bT (by repeat (first | (with_reducible first | exact HB.out | apply bA | apply bdN | apply bd1 | refine bS ?_ (I79.ge HI283.out) | refine bS ?_ GE280.out | refine bS ?_ GE284.out) | exact HB.out)) hb); have n5_ := A0q.mk (hbox); have n6_ := A0q.mk ((by rw [hg]; exact (bZ (by repeat (first | (with_reducible first | exact HB.out | apply bA | apply bdN | apply bd1 | refine bS ?_ (I79.ge HI283.out) | refine bS ?_ GE280.out | refine bS ?_ GE284.out) | exact HB.out))) : w.heap.size ≤ gb301)); have n7_ := A0q.mk ((by rw [hg]; exact (bZ (by repeat (first | (with_reducible first | exact HB.out | apply bA | apply bdN | apply bd1 | refine bS ?_ (I79.ge HI283.out) | refine bS ?_ GE280.out | refine bS ?_ GE284.out) | exact HB.out))) : w.heap.size ≤ gb301)); have n8_ := A0q.mk ((by rw [hg]; exact Nat.ne_of_lt (bkL (g := gb280) (o := .cells #[.string (⟨#[]⟩ : ByteArray), .string (⟨#[]⟩ : ByteArray), .slice none 0 0, .string (⟨#[]⟩ : ByteArray)] 25 (0, 0)) (by (with_reducible repeat (first | refine bkN ?_ _ | refine bkD ?_ | refine bkA ?_ _)); exact BK280.out)) : gb280 ≠ gb301)); have n9_ := A0q.mk ((by rw [hg]; exact Nat.ne_of_gt (bkL (g := gb280) (o := .cells #[.string (⟨#[]⟩ : ByteArray), .string (⟨#[]⟩ : ByteArray), .slice none 0 0, .string (⟨#[]⟩ : ByteArray)] 25 (0, 0)) (by (with_reducible repeat (first | refine bkN ?_ _ | refine bkD ?_ | refine bkA ?_ _)); exact BK280.out)) : gb301 ≠ gb280)); have n10_ := A0q.mk ((by rw [hg]; exact Nat.ne_of_lt (bkL (g := gb284) (o := .cells #[.string x285000_10, .string x285001_10, u285002, .string (⟨#[]⟩ : ByteArray)] 25 (0, 0)) (by (with_reducible repeat (first | refine bkN ?_ _ | refine bkD ?_ | refine bkA ?_ _)); exact BK284.out)) : gb284 ≠ gb301)); have n11_ := A0q.mk ((by rw [hg]; exact Nat.ne_of_gt (bkL (g := gb284) (o := .cells #[.string x285000_10, .string x285001_10, u285002, .string (⟨#[]⟩ : ByteArray)] 25 (0, 0)) (by (with_reducible repeat (first | refine bkN ?_ _ | refine bkD ?_ | refine bkA ?_ _)); exact BK284.out)) : gb301 ≠ gb284)); have n12_ := A0q.mk ((by rw [hg]; exact Nat.ne_of_lt (I79.lt (show I79 w _ gb283 x284000_3 x284001_3 x284002_3 from by repeat (first | (with_reducible first | exact HI283.out | apply I79.alloc | apply I79.drewN | apply I79.drew | apply I79.set_0 | apply I79.set_1 | apply I79.set_2 | refine I79.far ?_ NB283_280.out _ | refine I79.far ?_ NB283_284.out _) | exact HI283.out))) : gb283 ≠ gb301)); have n13_ := A0q.mk ((by rw [hg]; exact Nat.ne_of_gt (I79.lt (show I79 w _ gb283 x284000_3 x284001_3 x284002_3 from by repeat (first | (with_reducible first | exact HI283.out | apply I79.alloc | apply I79.drewN | apply I79.drew | apply I79.set_0 | apply I79.set_1 | apply I79.set_2 | refine I79.far ?_ NB283_280.out _ | refine I79.far ?_ NB283_284.out _) | exact HI283.out))) : gb301 ≠ gb283)); clear HO_285002; clear BK280; clear BK284; clear HI283; clear HB; have HO_285002 := n0_; have BK280 := n1_; have BK284 := n2_; have HI283 := n3_; have HB := n4_; have BK301 := n5_; have GW301 := n6_; have GE301 := n7_; have NB280_301 := n8_; have NB301_280 := n9_; have NB284_301 := n10_; have NB301_284 := n11_; have NB283_301 := n12_; have NB301_283 := n13_; clear n0_ n1_ n2_ n3_ n4_ n5_ n6_ n7_ n8_ n9_ n10_ n11_ n12_ n13_; clear hb hbox hg) | ((with_reducible refine gC (f := 56) rfl ?_); refine goesL_ (some 45) rfl rfl Tryz.func56 (by kernel_rfl) rfl #[.pointer (some ⟨gb283, 0, none⟩)] rfl (by (try simp only [List.map_toArray, List.map_cons, List.map_nil]); first | done | rfl | (simp only [List.length_drop, List.length_take]; rfl)) ?_; (with_reducible refine (rSn.calls kj27 gb283 x284000_3 x284001_3 x284002_3 t302 t303 t304 t305 w _ ?side1 ?side2 A32.out).mono ?_); (case side1 => repeat (first | (with_reducible first | exact HI283.out | apply I79.alloc | apply I79.drewN | apply I79.drew | apply I79.set_0 | apply I79.set_1 | apply I79.set_2 | refine I79.far ?_ NB283_280.out _ | refine I79.far ?_ NB283_284.out _ | refine I79.far ?_ NB283_301.out _) | exact HI283.out)); (case side2 => repeat (first | (with_reducible first | exact HB.out | apply bA | apply bdN | apply bd1 | refine bS ?_ (I79.ge HI283.out) | refine bS ?_ GE280.out | refine bS ?_ GE284.out | refine bS ?_ GE301.out) | exact HB.out)); rintro e w35 ⟨rfl, hi, hb, hk⟩; refine ⟨_, rfl, ?_⟩; have n0_ := A0q.mk (Kd.S_mono (Kd.S_keep (I79.apartS (show I79 w _ gb283 x284000_3 x284001_3 x284002_3 from by repeat (first | (with_reducible first | exact HI283.out | apply I79.alloc | apply I79.drewN | apply I79.drew | apply I79.set_0 | apply I79.set_1 | apply I79.set_2 | refine I79.far ?_ NB283_280.out _ | refine I79.far ?_ NB283_284.out _ | refine I79.far ?_ NB283_301.out _) | exact HI283.out)) (by (with_reducible repeat (first | apply Kd.S_alloc | apply Kd.S_drewN | apply Kd.S_drew)); exact HO_285002.out) (by decide)) hk (fun _ h => h.2)) (fun _ h => h.1)); have n1_ := A0q.mk (KpB.blk hk (g' := gb280) (o := .cells #[.string (⟨#[]⟩ : ByteArray), .string (⟨#[]⟩ : ByteArray), .slice none 0 0, .string (⟨#[]⟩ : ByteArray)] 25 (0, 0)) (by (with_reducible repeat (first | refine bkN ?_ _ | refine bkD ?_ | refine bkA ?_ _)); exact BK280.out) NB280_283.out (by simp)); have n2_ := A0q.mk (KpB.blk hk (g' := gb284) (o := .cells #[.string x285000_10, .string x285001_10, u285002, .string (⟨#[]⟩ : ByteArray)] 25 (0, 0)) (by (with_reducible repeat (first | refine bkN ?_ _ | refine bkD ?_ | refine bkA ?_ _)); exact BK284.out) NB284_283.out (by simp)); have n3_ := A0q.mk (KpB.blk hk (g' := gb301) (o := .cells #[.string (⟨#[]⟩ : ByteArray), .slice none 0 0] 31 (0, 0)) (by (with_reducible repeat (first | refine bkN ?_ _ | refine bkD ?_ | refine bkA ?_ _)); exact BK301.out) NB301_283.out (by simp)); have n4_ := A0q.mk (hb); have n5_ := A0q.mk (hi); clear HO_285002; clear BK280; clear BK284; clear BK301; clear HB; clear HI283; have HO_285002 := n0_; have BK280 := n1_; have BK284 := n2_; have BK301 := n3_; have HB := n4_; have HI283 := n5_; clear n0_ n1_ n2_ n3_ n4_ n5_; (try clear hb); (try clear hb2); (try clear hk); (try clear hi); have hnb36 := NB301_280.out; have hnc36 := NB280_301.out; have hnb37 := NB301_284.out; have hnc37 := NB284_301.out; have hnb38 := NB301_283.out; have hnc38 := NB283_301.out; have hcz39_0 : w35.cell? ⟨gb301, 0, none⟩ = some (.string (⟨#[]⟩ : ByteArray)) := (bkC BK301.out 0).trans rfl; have hcz39_1 : w35.cell? ⟨gb301, 1, none⟩ = some (.slice none 0 0) := (bkC BK301.out 1).trans rfl; have hfz39_0 := bkF BK301.out 0; have hfz39_1 := bkF BK301.out 1) | ((with_reducible refine gC (f := 57) rfl ?_); refine goesL_ (some 48) rfl rfl Tryz.func57 (by kernel_rfl) rfl #[.pointer (some ⟨gb283, 0, none⟩), .string (⟨#[61]⟩ : ByteArray)] rfl (by (try simp only [List.map_toArray, List.map_cons, List.map_nil]); first | done | rfl | (simp only [List.length_drop, List.length_take]; rfl)) ?_; (with_reducible refine (rSs.calls kj27 gb283 t303 t304 t305 (⟨#[61]⟩ : ByteArray) t306 t307 t308 t309 w _ ?side1 ?side2 A33.out).mono ?_); (case side1 => repeat (first | (with_reducible first | exact HI283.out | apply I79.alloc | apply I79.drewN | apply I79.drew | apply I79.set_0 | apply I79.set_1 | apply I79.set_2 | refine I79.far ?_ NB283_280.out _ | refine I79.far ?_ NB283_284.out _ | refine I79.far ?_ NB283_301.out _) | exact HI283.out)); (case side2 => repeat (first | (with_reducible first | exact HB.out | apply bA | apply bdN | apply bd1 | refine bS ?_ (I79.ge HI283.out) | refine bS ?_ GE280.out | refine bS ?_ GE284.out | refine bS ?_ GE301.out) | exact HB.out)); rintro e w40 ⟨rfl, hi, hb, hk⟩; refine ⟨_, rfl, ?_⟩; have n0_ := A0q.mk (Kd.S_mono (Kd.S_keep (I79.apartS (show I79 w _ gb283 t303 t304 t305 from by repeat (first | (with_reducible first | exact HI283.out | apply I79.alloc | apply I79.drewN | apply I79.drew | apply I79.set_0 | apply I79.set_1 | apply I79.set_2 | refine I79.far ?_ NB283_280.out _ | refine I79.far ?_ NB283_284.out _ | refine I79.far ?_ NB283_301.out _) | exact HI283.out)) (by (with_reducible repeat (first | apply Kd.S_alloc | apply Kd.S_drewN | apply Kd.S_drew)); exact (Kd.S_mono (Kd.S_far (p := ⟨gb301, 0, none⟩) (Kd.S_mono HO_285002.out (fun k_ hk => (⟨hk, hk.2⟩ : _ ∧ k_ ≠ gb301))) (fun _ hk => hk.2) (.string t302)) (fun _ h_ => h_.1))) (by decide)) hk (fun _ h => h.2)) (fun _ h => h.1)); have n1_ := A0q.mk (KpB.blk hk (g' := gb280) (o := .cells #[.string (⟨#[]⟩ : ByteArray), .string (⟨#[]⟩ : ByteArray), .slice none 0 0, .string (⟨#[]⟩ : ByteArray)] 25 (0, 0)) (by (with_reducible repeat (first | refine bkN ?_ _ | refine bkD ?_ | refine bkA ?_ _)); refine bkR ?_ NB280_301.out _; (with_reducible repeat (first | refine bkN ?_ _ | refine bkD ?_ | refine bkA ?_ _)); exact BK280.out) NB280_283.out (by simp)); have n2_ := A0q.mk (KpB.blk hk (g' := gb284) (o := .cells #[.string x285000_10, .string x285001_10, u285002, .string (⟨#[]⟩ : ByteArray)] 25 (0, 0)) (by (with_reducible repeat (first | refine bkN ?_ _ | refine bkD ?_ | refine bkA ?_ _)); refine bkR ?_ NB284_301.out _; (with_reducible repeat (first | refine bkN ?_ _ | refine bkD ?_ | refine bkA ?_ _)); exact BK284.out) NB284_283.out (by simp)); have n3_ := A0q.mk (KpB.blk hk (g' := gb301) (o := .cells #[.string t302, .slice none 0 0] 31 (0, 0)) (by (with_reducible repeat (first | refine bkN ?_ _ | refine bkD ?_ | refine bkA ?_ _)); refine bkP (cs := #[.string (⟨#[]⟩ : ByteArray), .slice none 0 0]) ?_ 0 _ rfl; (with_reducible repeat (first | refine bkN ?_ _ | refine bkD ?_ | refine bkA ?_ _)); exact BK301.out) NB301_283.out (by simp)); have n4_ := A0q.mk (hb); have n5_ := A0q.mk (hi); clear HO_285002; clear BK280; clear BK284; clear BK301; clear HB; clear HI283; have HO_285002 := n0_; have BK280 := n1_; have BK284 := n2_; have BK301 := n3_; have HB := n4_; have HI283 := n5_; clear n0_ n1_ n2_ n3_ n4_ n5_; (try clear hb); (try clear hb2); (try clear hk); (try clear hi)))
           go_loopg [6] kj27 (fun kq v6 w' => ∃ (x6_5 : Int) (x284000_5 : ByteArray) (x284001_5 : Int) (x284002_5 : Int) (x302001_5 : List ByteArray) (u302001 : Value), v6 = .int .u8 x6_5 ∧ A0q (rPa.l1 kq a0 x6_5 x284000_5 x284001_5 x284002_5 x285000_10 x285001_10 x285002_3 (⟨#[]⟩ : ByteArray) t302 x302001_5 = some (r1, r2, r3, r4, r5)) ∧ A0q (kq ≤ kj27) ∧ A0q (Kd.S k31 31 w' w.heap.size (fun k_ => some k_ ≠ (u302001 : Value).ownBlock ∧ k_ ≠ gb301) u285002 x285002_3) ∧ A0q (Kd.R Kd.string 9 w' w.heap.size (fun _ => True) u302001 x302001_5) ∧ A0q (w'.heap[gb280]? = some (.cells #[.string (⟨#[]⟩ : ByteArray), .string (⟨#[]⟩ : ByteArray), (.slice none 0 0), .string (⟨#[]⟩ : ByteArray)] 25 (0, 0))) ∧ A0q (w'.heap[gb284]? = some (.cells #[.string x285000_10, .string x285001_10, u285002, .string (⟨#[]⟩ : ByteArray)] 25 (0, 0))) ∧ A0q (w'.heap[gb301]? = some (.cells #[.string t302, u302001] 31 (0, 0))) ∧ A0q (I79 w w' gb283 x284000_5 x284001_5 x284002_5) ∧ A0q (Below w.heap.size w w'))
           case atStart => exact ⟨(t306), (t307), (t308), (t309), (([] : List ByteArray)), (.slice none 0 0), (by first | rfl | (simp; done) | (simp [*]; done)), H', ⟨Nat.le_refl _⟩, ⟨by (with_reducible repeat (first | apply Kd.S_alloc | apply Kd.S_drewN | apply Kd.S_drew)); exact Kd.S_mono HO_285002.out (fun _ hk => ⟨(by simp [Value.ownBlock]), hk.2⟩)⟩, ⟨by first | exact Kd.R_nil _ _ _ _ _ | exact Kd.N_nil _ _ _ _ _ | exact Kd.V_nil _ _ _ _ _ | exact Kd.Q_nil _ _ _ _ _ | exact Kd.S_nil _ _ _ _ _⟩, ⟨by (with_reducible repeat (first | refine bkN ?_ _ | refine bkD ?_ | refine bkA ?_ _)); exact BK280.out⟩, ⟨by (with_reducible repeat (first | refine bkN ?_ _ | refine bkD ?_ | refine bkA ?_ _)); exact BK284.out⟩, ⟨by (with_reducible repeat (first | refine bkN ?_ _ | refine bkD ?_ | refine bkA ?_ _)); exact BK301.out⟩, ⟨by repeat (first | (with_reducible first | exact HI283.out | apply I79.alloc | apply I79.drewN | apply I79.drew | apply I79.set_0 | apply I79.set_1 | apply I79.set_2 | refine I79.far ?_ NB283_280.out _ | refine I79.far ?_ NB283_284.out _ | refine I79.far ?_ NB283_301.out _) | exact HI283.out)⟩, ⟨by repeat (first | (with_reducible first | exact HB.out | apply bA | apply bdN | apply bd1 | refine bS ?_ (I79.ge HI283.out) | refine bS ?_ GE280.out | refine bS ?_ GE284.out | refine bS ?_ GE301.out) | exact HB.out)⟩⟩
           case round =>
            clear H'
            try clear c1
            try clear c2
            try clear p2
            try clear c3
            try clear c5
            try clear c7
            try clear c15
            try clear c16
            try clear c19
            try clear c19b0
            try clear c19b1
            try clear c22
            try clear c23
            try clear c29
            try clear c29b0
            try clear c29b1
            try clear c31
            try clear c36
            try clear c37
            try clear c38
            try clear hcz17_0
            try clear hcz17_1
            try clear hcz17_2
            try clear hcz17_3
            try clear hcz24_0
            try clear hcz24_1
            try clear hcz24_2
            try clear hcz24_3
            try clear hcz26_0
            try clear hcz26_1
            try clear hcz26_2
            try clear hcz26_3
            try clear hcz30_0
            try clear hcz30_1
            try clear hcz30_2
            try clear hcz39_0
            try clear hcz39_1
            try clear hcz8_0
            try clear hcz8_1
            try clear hcz8_2
            try clear hcz8_3
            try clear hfz17_0
            try clear hfz17_1
            try clear hfz17_2
            try clear hfz17_3
            try clear hfz24_0
            try clear hfz24_1
            try clear hfz24_2
            try clear hfz24_3
            try clear hfz26_0
            try clear hfz26_1
            try clear hfz26_2
            try clear hfz26_3
            try clear hfz30_0
            try clear hfz30_1
            try clear hfz30_2
            try clear hfz39_0
            try clear hfz39_1
            try clear hfz8_0
            try clear hfz8_1
            try clear hfz8_2
            try clear hfz8_3
            try clear p2
            obtain ⟨x6_5, x284000_5, x284001_5, x284002_5, x302001_5, u302001, rfl, HA, HK5, HO_285002, HO_302001, BK280, BK284, BK301, HI283, HB⟩ := hrel
            cases gk with
            | zero => exact absurd HA.out (by simp [rPa.l1])
            | succ k5 =>
             have H := HA.out
             clear HA
             simp only [rPa.l1] at H
             have HC41 := A0q.mk H
             clear H
             go_upto_region 15 with (fail)
             go_cut [54] (fun v54 wc => ∃ (kq : Nat) (x54_40 : Bool), v54 = .bool x54_40 ∧ A0q (rPa.j5 kq a0 x6_5 x54_40 x284000_5 x284001_5 x284002_5 x285000_10 x285001_10 x285002_3 (⟨#[]⟩ : ByteArray) t302 x302001_5 = some (r1, r2, r3, r4, r5)) ∧ A0q (kq ≤ k5) ∧ A0q (Kd.S k31 31 wc w.heap.size (fun k_ => some k_ ≠ (u302001 : Value).ownBlock ∧ k_ ≠ gb301) u285002 x285002_3) ∧ A0q (Kd.R Kd.string 9 wc w.heap.size (fun _ => True) u302001 x302001_5) ∧ A0q (wc.heap[gb280]? = some (.cells #[.string (⟨#[]⟩ : ByteArray), .string (⟨#[]⟩ : ByteArray), (.slice none 0 0), .string (⟨#[]⟩ : ByteArray)] 25 (0, 0))) ∧ A0q (wc.heap[gb284]? = some (.cells #[.string x285000_10, .string x285001_10, u285002, .string (⟨#[]⟩ : ByteArray)] 25 (0, 0))) ∧ A0q (wc.heap[gb301]? = some (.cells #[.string t302, u302001] 31 (0, 0))) ∧ A0q (I79 w wc gb283 x284000_5 x284001_5 x284002_5) ∧ A0q (Below w.heap.size w wc))
             case first =>
              have H := HC41.out
              clear HC41
              by_cases c42 : x6_5 = 61
              ·
               rw [if_pos c42] at H
               have c42b0 : (x6_5 == 61) = true := beq_iff_eq.mpr c42
               have c42b1 : (x6_5 != 61) = false := bne_eq_false_iff_eq.mpr c42
               clear c42
               (first | rw [c42b0] | (simp only [i64_w, i32_w]; rw [c42b0]) | rw [c42b1] | skip)
               have H' := A0q.mk H
               clear H
               go_wp2
               go_meet
               case rel => exact ⟨_, (true), (by first | rfl | (simp; done) | (simp [*]; done)), H', ⟨by have := HJ1.out; have := HJ10.out; have := HK3.out; have := HJ27.out; have := HK5.out; first | omega | exact Nat.le_refl _⟩, ⟨by (with_reducible repeat (first | apply Kd.S_alloc | apply Kd.S_drewN | apply Kd.S_drew)); exact HO_285002.out⟩, ⟨by (with_reducible repeat (first | apply Kd.R_alloc | apply Kd.R_drewN | apply Kd.R_drew)); exact HO_302001.out⟩, ⟨by (with_reducible repeat (first | refine bkN ?_ _ | refine bkD ?_ | refine bkA ?_ _)); exact BK280.out⟩, ⟨by (with_reducible repeat (first | refine bkN ?_ _ | refine bkD ?_ | refine bkA ?_ _)); exact BK284.out⟩, ⟨by (with_reducible repeat (first | refine bkN ?_ _ | refine bkD ?_ | refine bkA ?_ _)); exact BK301.out⟩, ⟨by repeat (first | (with_reducible first | exact HI283.out | apply I79.alloc | apply I79.drewN | apply I79.drew | apply I79.set_0 | apply I79.set_1 | apply I79.set_2 | refine I79.far ?_ NB283_280.out _ | refine I79.far ?_ NB283_284.out _ | refine I79.far ?_ NB283_301.out _) | exact HI283.out)⟩, ⟨by repeat (first | (with_reducible first | exact HB.out | apply bA | apply bdN | apply bd1 | refine bS ?_ (I79.ge HI283.out) | refine bS ?_ GE280.out | refine bS ?_ GE284.out | refine bS ?_ GE301.out) | exact HB.out)⟩⟩
              ·
               rw [if_neg c42] at H
               have c42b0 : (x6_5 == 61) = false := beq_eq_false_iff_ne.mpr c42
               have c42b1 : (x6_5 != 61) = true := bne_iff_ne.mpr c42
               (first | rw [c42b0] | (simp only [i64_w, i32_w]; rw [c42b0]) | rw [c42b1] | skip)
               have H' := A0q.mk H
               clear H
               go_wp2
               go_meet
               case rel => exact ⟨_, ((x6_5 == 44)), (by first | rfl | (simp; done) | (simp [*]; done)), H', ⟨by have := HJ1.out; have := HJ10.out; have := HK3.out; have := HJ27.out; have := HK5.out; first | omega | exact Nat.le_refl _⟩, ⟨by (with_reducible repeat (first | apply Kd.S_alloc | apply Kd.S_drewN | apply Kd.S_drew)); exact HO_285002.out⟩, ⟨by (with_reducible repeat (first | apply Kd.R_alloc | apply Kd.R_drewN | apply Kd.R_drew)); exact HO_302001.out⟩, ⟨by (with_reducible repeat (first | refine bkN ?_ _ | refine bkD ?_ | refine bkA ?_ _)); exact BK280.out⟩, ⟨by (with_reducible repeat (first | refine bkN ?_ _ | refine bkD ?_ | refine bkA ?_ _)); exact BK284.out⟩, ⟨by (with_reducible repeat (first | refine bkN ?_ _ | refine bkD ?_ | refine bkA ?_ _)); exact BK301.out⟩, ⟨by repeat (first | (with_reducible first | exact HI283.out | apply I79.alloc | apply I79.drewN | apply I79.drew | apply I79.set_0 | apply I79.set_1 | apply I79.set_2 | refine I79.far ?_ NB283_280.out _ | refine I79.far ?_ NB283_284.out _ | refine I79.far ?_ NB283_301.out _) | exact HI283.out)⟩, ⟨by repeat (first | (with_reducible first | exact HB.out | apply bA | apply bdN | apply bd1 | refine bS ?_ (I79.ge HI283.out) | refine bS ?_ GE280.out | refine bS ?_ GE284.out | refine bS ?_ GE301.out) | exact HB.out)⟩⟩
             case rest =>
              clear HC41
              try clear c1
              try clear c2
              try clear p2
              try clear c3
              try clear c4
              try clear c5
              try clear c7
              try clear c15
              try clear c16
              try clear c19
              try clear c19b0
              try clear c19b1
              try clear c22
              try clear c23
              try clear c29
              try clear c29b0
              try clear c29b1
              try clear c31
              try clear c36
              try clear c37
              try clear c38
              try clear c42
              try clear c42b0
              try clear c42b1
              try clear hcz17_0
              try clear hcz17_1
              try clear hcz17_2
              try clear hcz17_3
              try clear hcz24_0
              try clear hcz24_1
              try clear hcz24_2
              try clear hcz24_3
              try clear hcz26_0
              try clear hcz26_1
              try clear hcz26_2
              try clear hcz26_3
              try clear hcz30_0
              try clear hcz30_1
              try clear hcz30_2
              try clear hcz39_0
              try clear hcz39_1
              try clear hcz8_0
              try clear hcz8_1
              try clear hcz8_2
              try clear hcz8_3
              try clear hfz17_0
              try clear hfz17_1
              try clear hfz17_2
              try clear hfz17_3
              try clear hfz24_0
              try clear hfz24_1
              try clear hfz24_2
              try clear hfz24_3
              try clear hfz26_0
              try clear hfz26_1
              try clear hfz26_2
              try clear hfz26_3
              try clear hfz30_0
              try clear hfz30_1
              try clear hfz30_2
              try clear hfz39_0
              try clear hfz39_1
              try clear hfz8_0
              try clear hfz8_1
              try clear hfz8_2
              try clear hfz8_3
              try clear p2
              obtain ⟨kq, x54_40, rfl, HA, HJ40, HO_285002, HO_302001, BK280, BK284, BK301, HI283, HB⟩ := hcut
              cases kq with
              | zero => exact absurd HA.out (by simp [rPa.j5])
              | succ kj40 =>
               have H := HA.out
               clear HA
               simp only [rPa.j5] at H
               by_cases c43 : x54_40 = true
               ·
                subst c43
                have H1 : ((rSv.f kj40 x284000_5 x284001_5 x284002_5).bind fun bt310 => (if x302001_5.length < 8796093022208 then ((rSs.f kj40 bt310.2.1 bt310.2.2.1 bt310.2.2.2 (⟨#[44, 59, 58]⟩ : ByteArray)).bind fun bt317 => (rPa.l1 kj40 a0 bt317.1 bt317.2.1 bt317.2.2.1 bt317.2.2.2 x285000_10 x285001_10 x285002_3 (⟨#[]⟩ : ByteArray) t302 (x302001_5 ++ [bt310.1]))) else (none))) = some (r1, r2, r3, r4, r5) := by rw [if_pos rfl] at H; exact H
                clear H
                have H := H1
                clear H1
                replace H := Option.bind_eq_some_iff.mp H
                obtain ⟨⟨t310, t311, t312, t313⟩, A440, H⟩ := H
                replace H : (if x302001_5.length < 8796093022208 then ((rSs.f kj40 t311 t312 t313 (⟨#[44, 59, 58]⟩ : ByteArray)).bind fun bt317 => (rPa.l1 kj40 a0 bt317.1 bt317.2.1 bt317.2.2.1 bt317.2.2.2 x285000_10 x285001_10 x285002_3 (⟨#[]⟩ : ByteArray) t302 (x302001_5 ++ [t310]))) else (none)) = some (r1, r2, r3, r4, r5) := H
                have A44 := A0q.mk A440
                clear A440
                by_cases c45 : x302001_5.length < 8796093022208
                ·
                 rw [if_pos c45] at H
                 have LMc45 := A0q.mk c45
                 clear c45
                 obtain ⟨y314, hy314⟩ : ∃ y_ : List ByteArray, y_ = (x302001_5 ++ [t310]) := ⟨_, rfl⟩
                 replace H : ((rSs.f kj40 t311 t312 t313 (⟨#[44, 59, 58]⟩ : ByteArray)).bind fun bt317 => (rPa.l1 kj40 a0 bt317.1 bt317.2.1 bt317.2.2.1 bt317.2.2.2 x285000_10 x285001_10 x285002_3 (⟨#[]⟩ : ByteArray) t302 y314)) = some (r1, r2, r3, r4, r5) := by first | (rw [hy314]; with_reducible exact H) | (have H2_ := (Option.bind_some _ _).symm.trans H; rw [hy314]; with_reducible exact H2_) | (have H2_ := (Option.bind_some _ _).symm.trans H; with_reducible exact H2_) | with_reducible exact H | (rw [hy314]; exact H) | exact H
                 have Ny314 := A0q.mk hy314
                 clear hy314
                 replace H := Option.bind_eq_some_iff.mp H
                 obtain ⟨⟨t317, t318, t319, t320⟩, A460, H⟩ := H
                 replace H : (rPa.l1 kj40 a0 t317 t318 t319 t320 x285000_10 x285001_10 x285002_3 (⟨#[]⟩ : ByteArray) t302 y314) = some (r1, r2, r3, r4, r5) := H
                 have A46 := A0q.mk A460
                 clear A460
                 have H' := A0q.mk H
                 clear H
                 go_wp2_with (first | ((with_reducible refine gC (f := 58) rfl ?_); refine goesL_ (some 56) rfl rfl Tryz.func58 (by kernel_rfl) rfl #[.pointer (some ⟨gb283, 0, none⟩)] rfl (by (try simp only [List.map_toArray, List.map_cons, List.map_nil]); first | done | rfl | (simp only [List.length_drop, List.length_take]; rfl)) ?_; (with_reducible refine (rSv.calls kj40 gb283 x284000_5 x284001_5 x284002_5 t310 t311 t312 t313 w _ ?side1 ?side2 A44.out).mono ?_); (case side1 => repeat (first | (with_reducible first | exact HI283.out | apply I79.alloc | apply I79.drewN | apply I79.drew | apply I79.set_0 | apply I79.set_1 | apply I79.set_2 | refine I79.far ?_ NB283_280.out _ | refine I79.far ?_ NB283_284.out _ | refine I79.far ?_ NB283_301.out _) | exact HI283.out)); (case side2 => repeat (first | (with_reducible first | exact HB.out | apply bA | apply bdN | apply bd1 | refine bS ?_ (I79.ge HI283.out) | refine bS ?_ GE280.out | refine bS ?_ GE284.out | refine bS ?_ GE301.out) | exact HB.out)); rintro e w47 ⟨rfl, hi, hb, hk⟩; refine ⟨_, rfl, ?_⟩; have n0_ := A0q.mk (Kd.S_mono (Kd.S_keep (I79.apartS (show I79 w _ gb283 x284000_5 x284001_5 x284002_5 from by repeat (first | (with_reducible first | exact HI283.out | apply I79.alloc | apply I79.drewN | apply I79.drew | apply I79.set_0 | apply I79.set_1 | apply I79.set_2 | refine I79.far ?_ NB283_280.out _ | refine I79.far ?_ NB283_284.out _ | refine I79.far ?_ NB283_301.out _) | exact HI283.out)) (by (with_reducible repeat (first | apply Kd.S_alloc | apply Kd.S_drewN | apply Kd.S_drew)); exact HO_285002.out) (by decide)) hk (fun _ h => h.2)) (fun _ h => h.1)); have n1_ := A0q.mk (Kd.R_mono (Kd.R_keep (I79.apart (show I79 w _ gb283 x284000_5 x284001_5 x284002_5 from by repeat (first | (with_reducible first | exact HI283.out | apply I79.alloc | apply I79.drewN | apply I79.drew | apply I79.set_0 | apply I79.set_1 | apply I79.set_2 | refine I79.far ?_ NB283_280.out _ | refine I79.far ?_ NB283_284.out _ | refine I79.far ?_ NB283_301.out _) | exact HI283.out)) (by (with_reducible repeat (first | apply Kd.R_alloc | apply Kd.R_drewN | apply Kd.R_drew)); exact HO_302001.out) (by decide)) hk (fun _ h => h.2)) (fun _ h => h.1)); have n2_ := A0q.mk (KpB.blk hk (g' := gb280) (o := .cells #[.string (⟨#[]⟩ : ByteArray), .string (⟨#[]⟩ : ByteArray), .slice none 0 0, .string (⟨#[]⟩ : ByteArray)] 25 (0, 0)) (by (with_reducible repeat (first | refine bkN ?_ _ | refine bkD ?_ | refine bkA ?_ _)); exact BK280.out) NB280_283.out (by simp)); have n3_ := A0q.mk (KpB.blk hk (g' := gb284) (o := .cells #[.string x285000_10, .string x285001_10, u285002, .string (⟨#[]⟩ : ByteArray)] 25 (0, 0)) (by (with_reducible repeat (first | refine bkN ?_ _ | refine bkD ?_ | refine bkA ?_ _)); exact BK284.out) NB284_283.out (by simp)); have n4_ := A0q.mk (KpB.blk hk (g' := gb301) (o := .cells #[.string t302, u302001] 31 (0, 0)) (by (with_reducible repeat (first | refine bkN ?_ _ | refine bkD ?_ | refine bkA ?_ _)); exact BK301.out) NB301_283.out (by simp)); have n5_ := A0q.mk (hb); have n6_ := A0q.mk (hi); clear HO_285002; clear HO_302001; clear BK280; clear BK284; clear BK301; clear HB; clear HI283; have HO_285002 := n0_; have HO_302001 := n1_; have BK280 := n2_; have BK284 := n3_; have BK301 := n4_; have HB := n5_; have HI283 := n6_; clear n0_ n1_ n2_ n3_ n4_ n5_ n6_; (try clear hb); (try clear hb2); (try clear hk); (try clear hi); have hnb48 := NB301_280.out; have hnc48 := NB280_301.out; have hnb49 := NB301_284.out; have hnc49 := NB284_301.out; have hnb50 := NB301_283.out; have hnc50 := NB283_301.out; have hcz51_0 : w47.cell? ⟨gb301, 0, none⟩ = some (.string t302) := (bkC BK301.out 0).trans rfl; have hcz51_1 : w47.cell? ⟨gb301, 1, none⟩ = some (u302001) := (bkC BK301.out 1).trans rfl; have hfz51_0 := bkF BK301.out 0; have hfz51_1 := bkF BK301.out 1) | ((with_reducible refine gate_builtin (b := .append) (xs := #[.tmp 58, .tmp 60]) rfl ?_); at_builtin; refine Kd.R_append Kd.string (w0 := w) w.heap.size rfl (.tmp 58) (.tmp 60) 29 9 (.string ⟨#[]⟩) 16 rfl Tryz.underlying29 info9 rfl (by decide) (by omega) u302001 x302001_5 t310 [.string t310] (fun _ => True) (fun _ => False) rfl rfl ?aP (fun _ hk => hk.elim) ?aF ?aO ?aB ?aS ?aL ?_; (case aP => exact rfl); (case aB => exact (by repeat (first | (with_reducible first | exact HB.out | apply bA | apply bdN | apply bd1 | refine bS ?_ (I79.ge HI283.out) | refine bS ?_ GE280.out | refine bS ?_ GE284.out | refine bS ?_ GE301.out) | exact HB.out))); (case aF => exact (fun _ _ => trivial)); (case aO => exact (by (with_reducible repeat (first | apply Kd.R_alloc | apply Kd.R_drewN | apply Kd.R_drew)); exact HO_302001.out)); (case aS => exact (bZ (by repeat (first | (with_reducible first | exact HB.out | apply bA | apply bdN | apply bd1 | refine bS ?_ (I79.ge HI283.out) | refine bS ?_ GE280.out | refine bS ?_ GE284.out | refine bS ?_ GE301.out) | exact HB.out)))); (case aL => have := LMc45.out; omega); intro v315 w52 ho hb hg hat; rw [← Ny314.out] at ho; have n0_ := A0q.mk (Kd.S_after (ok := (fun k_ => k_ ≠ gb301)) (by (with_reducible repeat (first | apply Kd.S_alloc | apply Kd.S_drewN | apply Kd.S_drew)); exact Kd.S_mono HO_285002.out (fun _ hk => ⟨hk.2, hk.1⟩)) hg hat); have n1_ := A0q.mk (blk_grown (g := gb280) (o := .cells #[.string (⟨#[]⟩ : ByteArray), .string (⟨#[]⟩ : ByteArray), .slice none 0 0, .string (⟨#[]⟩ : ByteArray)] 25 (0, 0)) (by (with_reducible repeat (first | refine bkN ?_ _ | refine bkD ?_ | refine bkA ?_ _)); exact BK280.out) hg (Kd.R_ne HO_302001.out BK280.out (by decide))); have n2_ := A0q.mk (blk_grown (g := gb284) (o := .cells #[.string x285000_10, .string x285001_10, u285002, .string (⟨#[]⟩ : ByteArray)] 25 (0, 0)) (by (with_reducible repeat (first | refine bkN ?_ _ | refine bkD ?_ | refine bkA ?_ _)); exact BK284.out) hg (Kd.R_ne HO_302001.out BK284.out (by decide))); have n3_ := A0q.mk (blk_grown (g := gb301) (o := .cells #[.string t302, u302001] 31 (0, 0)) (by (with_reducible repeat (first | refine bkN ?_ _ | refine bkD ?_ | refine bkA ?_ _)); exact BK301.out) hg (Kd.R_ne HO_302001.out BK301.out (by decide))); have n4_ := A0q.mk (I79.grown (by repeat (first | (with_reducible first | exact HI283.out | apply I79.alloc | apply I79.drewN | apply I79.drew | apply I79.set_0 | apply I79.set_1 | apply I79.set_2 | refine I79.far ?_ NB283_280.out _ | refine I79.far ?_ NB283_284.out _ | refine I79.far ?_ NB283_301.out _) | exact HI283.out)) hg (I79.own_ne HI283.out HO_302001.out (by decide))); have n5_ := A0q.mk (hb); have n6_ := A0q.mk (ho); clear HO_285002; clear BK280; clear BK284; clear BK301; clear HI283; clear HB; clear HO_302001; have HO_285002 := n0_; have BK280 := n1_; have BK284 := n2_; have BK301 := n3_; have HI283 := n4_; have HB := n5_; have HO316 := n6_; clear n0_ n1_ n2_ n3_ n4_ n5_ n6_; clear ho hb hg hat; obtain ⟨Ao53, co53, eo53⟩ := Kd.R_slice HO316.out; subst eo53; have hcz54_0 : w52.cell? ⟨gb301, 0, none⟩ = some (.string t302) := (bkC BK301.out 0).trans rfl; have hcz54_1 : w52.cell? ⟨gb301, 1, none⟩ = some (u302001) := (bkC BK301.out 1).trans rfl; have hfz54_0 := bkF BK301.out 0; have hfz54_1 := bkF BK301.out 1) | ((with_reducible refine gC (f := 57) rfl ?_); refine goesL_ (some 64) rfl rfl Tryz.func57 (by kernel_rfl) rfl #[.pointer (some ⟨gb283, 0, none⟩), .string (⟨#[44, 59, 58]⟩ : ByteArray)] rfl (by (try simp only [List.map_toArray, List.map_cons, List.map_nil]); first | done | rfl | (simp only [List.length_drop, List.length_take]; rfl)) ?_; (with_reducible refine (rSs.calls kj40 gb283 t311 t312 t313 (⟨#[44, 59, 58]⟩ : ByteArray) t317 t318 t319 t320 w _ ?side1 ?side2 A46.out).mono ?_); (case side1 => repeat (first | (with_reducible first | exact HI283.out | apply I79.alloc | apply I79.drewN | apply I79.drew | apply I79.set_0 | apply I79.set_1 | apply I79.set_2 | refine I79.far ?_ NB283_280.out _ | refine I79.far ?_ NB283_284.out _ | refine I79.far ?_ NB283_301.out _) | exact HI283.out)); (case side2 => repeat (first | (with_reducible first | exact HB.out | apply bA | apply bdN | apply bd1 | refine bS ?_ (I79.ge HI283.out) | refine bS ?_ GE280.out | refine bS ?_ GE284.out | refine bS ?_ GE301.out) | exact HB.out)); rintro e w55 ⟨rfl, hi, hb, hk⟩; refine ⟨_, rfl, ?_⟩; have n0_ := A0q.mk (Kd.S_mono (Kd.S_keep (I79.apartS (show I79 w _ gb283 t311 t312 t313 from by repeat (first | (with_reducible first | exact HI283.out | apply I79.alloc | apply I79.drewN | apply I79.drew | apply I79.set_0 | apply I79.set_1 | apply I79.set_2 | refine I79.far ?_ NB283_280.out _ | refine I79.far ?_ NB283_284.out _ | refine I79.far ?_ NB283_301.out _) | exact HI283.out)) (by (with_reducible repeat (first | apply Kd.S_alloc | apply Kd.S_drewN | apply Kd.S_drew)); exact (Kd.S_mono (Kd.S_far (p := ⟨gb301, 1, none⟩) (Kd.S_mono HO_285002.out (fun k_ hk => (⟨hk, hk.1⟩ : _ ∧ k_ ≠ gb301))) (fun _ hk => hk.2) (.slice Ao53 y314.length co53)) (fun _ h_ => h_.1))) (by decide)) hk (fun _ h => h.2)) (fun _ h => h.1)); have n1_ := A0q.mk (KpB.blk hk (g' := gb280) (o := .cells #[.string (⟨#[]⟩ : ByteArray), .string (⟨#[]⟩ : ByteArray), .slice none 0 0, .string (⟨#[]⟩ : ByteArray)] 25 (0, 0)) (by (with_reducible repeat (first | refine bkN ?_ _ | refine bkD ?_ | refine bkA ?_ _)); refine bkR ?_ NB280_301.out _; (with_reducible repeat (first | refine bkN ?_ _ | refine bkD ?_ | refine bkA ?_ _)); exact BK280.out) NB280_283.out (by simp)); have n2_ := A0q.mk (KpB.blk hk (g' := gb284) (o := .cells #[.string x285000_10, .string x285001_10, u285002, .string (⟨#[]⟩ : ByteArray)] 25 (0, 0)) (by (with_reducible repeat (first | refine bkN ?_ _ | refine bkD ?_ | refine bkA ?_ _)); refine bkR ?_ NB284_301.out _; (with_reducible repeat (first | refine bkN ?_ _ | refine bkD ?_ | refine bkA ?_ _)); exact BK284.out) NB284_283.out (by simp)); have n3_ := A0q.mk (KpB.blk hk (g' := gb301) (o := .cells #[.string t302, .slice Ao53 y314.length co53] 31 (0, 0)) (by (with_reducible repeat (first | refine bkN ?_ _ | refine bkD ?_ | refine bkA ?_ _)); refine bkP (cs := #[.string t302, u302001]) ?_ 1 _ rfl; (with_reducible repeat (first | refine bkN ?_ _ | refine bkD ?_ | refine bkA ?_ _)); exact BK301.out) NB301_283.out (by simp)); have n4_ := A0q.mk (Kd.R_mono (Kd.R_keep (I79.apart (show I79 w _ gb283 t311 t312 t313 from by repeat (first | (with_reducible first | exact HI283.out | apply I79.alloc | apply I79.drewN | apply I79.drew | apply I79.set_0 | apply I79.set_1 | apply I79.set_2 | refine I79.far ?_ NB283_280.out _ | refine I79.far ?_ NB283_284.out _ | refine I79.far ?_ NB283_301.out _) | exact HI283.out)) (by (with_reducible repeat (first | apply Kd.R_alloc | apply Kd.R_drewN | apply Kd.R_drew)); exact (Kd.R_mono (Kd.R_far (p := ⟨gb301, 1, none⟩) (Kd.R_types HO316.out BK301.out (by decide)) (fun _ hk => hk.2) (.slice Ao53 y314.length co53)) (fun _ h_ => h_.1))) (by decide)) hk (fun _ h => h.2)) (fun _ h => h.1)); have n5_ := A0q.mk (hb); have n6_ := A0q.mk (hi); clear HO_285002; clear BK280; clear BK284; clear BK301; clear HO316; clear HB; clear HI283; have HO_285002 := n0_; have BK280 := n1_; have BK284 := n2_; have BK301 := n3_; have HO316 := n4_; have HB := n5_; have HI283 := n6_; clear n0_ n1_ n2_ n3_ n4_ n5_ n6_; (try clear hb); (try clear hb2); (try clear hk); (try clear hi)))
                 go_roundg kj40
                 case measure => have := HJ1.out; have := HJ10.out; have := HK3.out; have := HJ27.out; have := HK5.out; have := HJ40.out; omega
                 case rel => exact ⟨(t317), (t318), (t319), (t320), (y314), (.slice Ao53 y314.length co53), (by first | rfl | (simp; done) | (simp [*]; done)), H', ⟨by have := HJ1.out; have := HJ10.out; have := HK3.out; have := HJ27.out; have := HK5.out; have := HJ40.out; omega⟩, ⟨by (with_reducible repeat (first | apply Kd.S_alloc | apply Kd.S_drewN | apply Kd.S_drew)); exact Kd.S_mono HO_285002.out (fun _ hk => ⟨hk.2, hk.1⟩)⟩, ⟨by (with_reducible repeat (first | apply Kd.R_alloc | apply Kd.R_drewN | apply Kd.R_drew)); exact HO316.out⟩, ⟨by (with_reducible repeat (first | refine bkN ?_ _ | refine bkD ?_ | refine bkA ?_ _)); exact BK280.out⟩, ⟨by (with_reducible repeat (first | refine bkN ?_ _ | refine bkD ?_ | refine bkA ?_ _)); exact BK284.out⟩, ⟨by (with_reducible repeat (first | refine bkN ?_ _ | refine bkD ?_ | refine bkA ?_ _)); exact BK301.out⟩, ⟨by repeat (first | (with_reducible first | exact HI283.out | apply I79.alloc | apply I79.drewN | apply I79.drew | apply I79.set_0 | apply I79.set_1 | apply I79.set_2 | refine I79.far ?_ NB283_280.out _ | refine I79.far ?_ NB283_284.out _ | refine I79.far ?_ NB283_301.out _) | exact HI283.out)⟩, ⟨by repeat (first | (with_reducible first | exact HB.out | apply bA | apply bdN | apply bd1 | refine bS ?_ (I79.ge HI283.out) | refine bS ?_ GE280.out | refine bS ?_ GE284.out | refine bS ?_ GE301.out) | exact HB.out)⟩⟩
                ·
                 rw [if_neg c45] at H
                 exact absurd H (by simp)
               ·
                replace c43 := Bool.eq_false_iff.mpr c43
                subst c43
                have H1 : (if x285002_3.length < 3518437208883 then (rPa.l0 kj40 a0 x6_5 x284000_5 x284001_5 x284002_5 x285000_10 x285001_10 (x285002_3 ++ [(⟨t302, x302001_5⟩ : S31)]) (⟨#[]⟩ : ByteArray)) else (none)) = some (r1, r2, r3, r4, r5) := by rw [if_neg (show ¬ (false = true) by decide)] at H; exact H
                clear H
                have H := H1
                clear H1
                by_cases c56 : x285002_3.length < 3518437208883
                ·
                 rw [if_pos c56] at H
                 have LMc56 := A0q.mk c56
                 clear c56
                 obtain ⟨y321, hy321⟩ : ∃ y_ : List (S31), y_ = (x285002_3 ++ [(⟨t302, x302001_5⟩ : S31)]) := ⟨_, rfl⟩
                 replace H : (rPa.l0 kj40 a0 x6_5 x284000_5 x284001_5 x284002_5 x285000_10 x285001_10 y321 (⟨#[]⟩ : ByteArray)) = some (r1, r2, r3, r4, r5) := by first | (rw [hy321]; with_reducible exact H) | (have H2_ := (Option.bind_some _ _).symm.trans H; rw [hy321]; with_reducible exact H2_) | (have H2_ := (Option.bind_some _ _).symm.trans H; with_reducible exact H2_) | with_reducible exact H | (rw [hy321]; exact H) | exact H
                 have Ny321 := A0q.mk hy321
                 clear hy321
                 have H' := A0q.mk H
                 clear H
                 have hnb57 := NB284_280.out
                 have hnc57 := NB280_284.out
                 have hnb58 := NB284_301.out
                 have hnc58 := NB301_284.out
                 have hnb59 := NB284_283.out
                 have hnc59 := NB283_284.out
                 have hcz60_0 : wc.cell? ⟨gb284, 0, none⟩ = some (.string x285000_10) := (bkC BK284.out 0).trans rfl
                 have hcz60_1 : wc.cell? ⟨gb284, 1, none⟩ = some (.string x285001_10) := (bkC BK284.out 1).trans rfl
                 have hcz60_2 : wc.cell? ⟨gb284, 2, none⟩ = some (u285002) := (bkC BK284.out 2).trans rfl
                 have hcz60_3 : wc.cell? ⟨gb284, 3, none⟩ = some (.string (⟨#[]⟩ : ByteArray)) := (bkC BK284.out 3).trans rfl
                 have hfz60_0 := bkF BK284.out 0
                 have hfz60_1 := bkF BK284.out 1
                 have hfz60_2 := bkF BK284.out 2
                 have hfz60_3 := bkF BK284.out 3
                 have hnb61 := NB301_280.out
                 have hnc61 := NB280_301.out
                 have hnb62 := NB301_283.out
                 have hnc62 := NB283_301.out
                 have hcz63_0 : wc.cell? ⟨gb301, 0, none⟩ = some (.string t302) := (bkC BK301.out 0).trans rfl
                 have hcz63_1 : wc.cell? ⟨gb301, 1, none⟩ = some (u302001) := (bkC BK301.out 1).trans rfl
                 have hfz63_0 := bkF BK301.out 0
                 have hfz63_1 := bkF BK301.out 1
                 obtain ⟨Ao65, co65, eo65⟩ := Kd.R_slice HO_302001.out
                 subst eo65
                 go_wp2_with (first | ((with_reducible refine gate_builtin (b := .append) (xs := #[.tmp 66, .tmp 68]) rfl ?_); at_builtin; refine Kd.S_append k31 (w0 := w) w.heap.size rfl (.tmp 66) (.tmp 68) 23 31 (.agg #[(.string ⟨#[]⟩), (.slice none 0 0)]) 40 rfl Tryz.underlying23 info31 rfl (by decide) (by omega) u285002 x285002_3 (⟨t302, x302001_5⟩ : S31) [.string t302, .slice Ao65 x302001_5.length co65] (fun k_ => k_ ≠ gb301) (fun k_ => some k_ = (.slice Ao65 x302001_5.length co65 : Value).ownBlock) rfl rfl ?aP (fun k_ hk_ => ((Kd.R_mono (ok' := fun k_ => ((fun k_ => k_ ≠ gb301)) k_ ∧ some k_ ≠ (u285002 : Value).ownBlock) (Kd.R_types (Kd.R_apart' (HO_302001.out) (Kd.S_typed HO_285002.out) (by decide)) BK301.out (by decide)) (fun k_ hk => ⟨hk.2, hk.1.2⟩))).1 k_ hk_.symm) ?aF ?aO ?aB ?aS ?aL ?_; (case aP => exact k31_mkM _ _ _ (⟨t302, x302001_5⟩ : S31) (Kd.R_mono (Kd.R_tight rfl (Kd.R_mono (ok' := fun k_ => ((fun k_ => k_ ≠ gb301)) k_ ∧ some k_ ≠ (u285002 : Value).ownBlock) (Kd.R_types (Kd.R_apart' (HO_302001.out) (Kd.S_typed HO_285002.out) (by decide)) BK301.out (by decide)) (fun k_ hk => ⟨hk.2, hk.1.2⟩))) (fun _ h_ => h_))); (case aB => exact (by repeat (first | (with_reducible first | exact HB.out | apply bA | apply bdN | apply bd1 | refine bS ?_ (I79.ge HI283.out) | refine bS ?_ GE280.out | refine bS ?_ GE284.out | refine bS ?_ GE301.out) | exact HB.out))); (case aF => exact (fun k_ hk => Kd.freshB (g := gb301) (o := .cells #[.string t302, .slice Ao65 x302001_5.length co65] 31 (0, 0)) (by (with_reducible repeat (first | refine bkN ?_ _ | refine bkD ?_ | refine bkA ?_ _)); exact BK301.out) k_ hk)); (case aO => exact (by (with_reducible repeat (first | apply Kd.S_alloc | apply Kd.S_drewN | apply Kd.S_drew)); exact Kd.S_mono HO_285002.out (fun k_ hk => ⟨hk.2, fun e_ => hk.1 e_⟩))); (case aS => exact (bZ (by repeat (first | (with_reducible first | exact HB.out | apply bA | apply bdN | apply bd1 | refine bS ?_ (I79.ge HI283.out) | refine bS ?_ GE280.out | refine bS ?_ GE284.out | refine bS ?_ GE301.out) | exact HB.out)))); (case aL => have := LMc56.out; omega); intro v322 w64 ho hb hg hat; rw [← Ny321.out] at ho; have n0_ := A0q.mk (blk_grown (g := gb280) (o := .cells #[.string (⟨#[]⟩ : ByteArray), .string (⟨#[]⟩ : ByteArray), .slice none 0 0, .string (⟨#[]⟩ : ByteArray)] 25 (0, 0)) (by (with_reducible repeat (first | refine bkN ?_ _ | refine bkD ?_ | refine bkA ?_ _)); exact BK280.out) hg (Kd.S_ne HO_285002.out BK280.out (by decide))); have n1_ := A0q.mk (blk_grown (g := gb284) (o := .cells #[.string x285000_10, .string x285001_10, u285002, .string (⟨#[]⟩ : ByteArray)] 25 (0, 0)) (by (with_reducible repeat (first | refine bkN ?_ _ | refine bkD ?_ | refine bkA ?_ _)); exact BK284.out) hg (Kd.S_ne HO_285002.out BK284.out (by decide))); have n2_ := A0q.mk (blk_grown (g := gb301) (o := .cells #[.string t302, .slice Ao65 x302001_5.length co65] 31 (0, 0)) (by (with_reducible repeat (first | refine bkN ?_ _ | refine bkD ?_ | refine bkA ?_ _)); exact BK301.out) hg (Kd.S_away HO_285002.out (fun _ hk => hk.2))); have n3_ := A0q.mk (I79.grown (by repeat (first | (with_reducible first | exact HI283.out | apply I79.alloc | apply I79.drewN | apply I79.drew | apply I79.set_0 | apply I79.set_1 | apply I79.set_2 | refine I79.far ?_ NB283_280.out _ | refine I79.far ?_ NB283_284.out _ | refine I79.far ?_ NB283_301.out _) | exact HI283.out)) hg (I79.own_neS HI283.out HO_285002.out (by decide))); have n4_ := A0q.mk (hb); have n5_ := A0q.mk (ho); clear BK280; clear BK284; clear BK301; clear HI283; clear HB; clear HO_285002; clear HO_302001; have BK280 := n0_; have BK284 := n1_; have BK301 := n2_; have HI283 := n3_; have HB := n4_; have HO323 := n5_; clear n0_ n1_ n2_ n3_ n4_ n5_; clear ho hb hg hat; obtain ⟨Ao66, co66, eo66⟩ := Kd.S_slice HO323.out; subst eo66; have hcz67_0 : w64.cell? ⟨gb284, 0, none⟩ = some (.string x285000_10) := (bkC BK284.out 0).trans rfl; have hcz67_1 : w64.cell? ⟨gb284, 1, none⟩ = some (.string x285001_10) := (bkC BK284.out 1).trans rfl; have hcz67_2 : w64.cell? ⟨gb284, 2, none⟩ = some (u285002) := (bkC BK284.out 2).trans rfl; have hcz67_3 : w64.cell? ⟨gb284, 3, none⟩ = some (.string (⟨#[]⟩ : ByteArray)) := (bkC BK284.out 3).trans rfl; have hfz67_0 := bkF BK284.out 0; have hfz67_1 := bkF BK284.out 1; have hfz67_2 := bkF BK284.out 2; have hfz67_3 := bkF BK284.out 3))
                 go_roundg kj40
                 case measure => have := HJ1.out; have := HJ10.out; have := HK3.out; have := HJ27.out; have := HK5.out; have := HJ40.out; omega
                 case rel => exact ⟨(x6_5), (x284000_5), (x284001_5), (x284002_5), (y321), (.slice Ao66 y321.length co66), (by first | rfl | (simp; done) | (simp [*]; done)), H', ⟨by have := HJ1.out; have := HJ10.out; have := HK3.out; have := HJ27.out; have := HK5.out; have := HJ40.out; omega⟩, ⟨by (with_reducible repeat (first | apply Kd.S_alloc | apply Kd.S_drewN | apply Kd.S_drew)); exact Kd.S_mono (Kd.S_far (p := ⟨gb284, 2, none⟩) (Kd.S_types HO323.out BK284.out (by decide)) (fun _ hk => hk.2) (.slice Ao66 y321.length co66)) (fun _ hk => trivial)⟩, ⟨by (with_reducible repeat (first | refine bkN ?_ _ | refine bkD ?_ | refine bkA ?_ _)); refine bkR ?_ NB280_284.out _; (with_reducible repeat (first | refine bkN ?_ _ | refine bkD ?_ | refine bkA ?_ _)); exact BK280.out⟩, ⟨by (with_reducible repeat (first | refine bkN ?_ _ | refine bkD ?_ | refine bkA ?_ _)); refine bkP (cs := #[.string x285000_10, .string x285001_10, u285002, .string (⟨#[]⟩ : ByteArray)]) ?_ 2 _ rfl; (with_reducible repeat (first | refine bkN ?_ _ | refine bkD ?_ | refine bkA ?_ _)); exact BK284.out⟩, ⟨by repeat (first | (with_reducible first | exact HI283.out | apply I79.alloc | apply I79.drewN | apply I79.drew | apply I79.set_0 | apply I79.set_1 | apply I79.set_2 | refine I79.far ?_ NB283_280.out _ | refine I79.far ?_ NB283_284.out _ | refine I79.far ?_ NB283_301.out _) | exact HI283.out)⟩, ⟨by repeat (first | (with_reducible first | exact HB.out | apply bA | apply bdN | apply bd1 | refine bS ?_ (I79.ge HI283.out) | refine bS ?_ GE280.out | refine bS ?_ GE284.out | refine bS ?_ GE301.out) | exact HB.out)⟩⟩
                ·
                 rw [if_neg c56] at H
                 exact absurd H (by simp)
          ·
           replace c31 := Bool.eq_false_iff.mpr c31
           subst c31
           have H1 : (if x284002_3 = 0 then (if 0 ≤ x284001_3 then (if x284001_3 ≤ (a0.size : Int) then (some (x285000_10, x285001_10, x285002_3, a0.extract (x284001_3 : Int).toNat a0.size, 0)) else (none)) else (none)) else (some ((⟨#[]⟩ : ByteArray), (⟨#[]⟩ : ByteArray), ([] : List (S31)), (⟨#[]⟩ : ByteArray), x284002_3))) = some (r1, r2, r3, r4, r5) := by rw [if_neg (show ¬ (false = true) by decide)] at H; exact H
           clear H
           have H := H1
           clear H1
           by_cases c68 : x284002_3 = 0
           ·
            rw [if_pos c68] at H
            have c68b0 : (x284002_3 == 0) = true := beq_iff_eq.mpr c68
            have c68b1 : (x284002_3 != 0) = false := bne_eq_false_iff_eq.mpr c68
            clear c68
            by_cases c69 : 0 ≤ x284001_3
            ·
             rw [if_pos c69] at H
             have c69b0 := eq_true c69
             have c69b1 : decide (0 ≤ x284001_3) = true := decide_eq_true c69
             clear c69
             by_cases c70 : x284001_3 ≤ (a0.size : Int)
             ·
              rw [if_pos c70] at H
              have c70b0 := eq_true c70
              have c70b1 : decide (x284001_3 ≤ (a0.size : Int)) = true := decide_eq_true c70
              clear c70
              simp only [Option.some.injEq, Prod.mk.injEq] at H
              obtain ⟨rfl, rfl, rfl, rfl, rfl⟩ := H
              obtain ⟨HGz71, hgz71⟩ := HI283.out
              have hcz71_0 := cellS79_0 HGz71
              have hcz71_1 := cellS79_1 HGz71
              have hcz71_2 := cellS79_2 HGz71
              have hfz71_0 := bkF HGz71 0
              have hfz71_1 := bkF HGz71 1
              have hfz71_2 := bkF HGz71 2
              clear HGz71 hgz71
              have hnb72 := NB284_280.out
              have hnc72 := NB280_284.out
              have hnb73 := NB284_283.out
              have hnc73 := NB283_284.out
              have hcz74_0 : wc.cell? ⟨gb284, 0, none⟩ = some (.string x285000_10) := (bkC BK284.out 0).trans rfl
              have hcz74_1 : wc.cell? ⟨gb284, 1, none⟩ = some (.string x285001_10) := (bkC BK284.out 1).trans rfl
              have hcz74_2 : wc.cell? ⟨gb284, 2, none⟩ = some (u285002) := (bkC BK284.out 2).trans rfl
              have hcz74_3 : wc.cell? ⟨gb284, 3, none⟩ = some (.string (⟨#[]⟩ : ByteArray)) := (bkC BK284.out 3).trans rfl
              have hfz74_0 := bkF BK284.out 0
              have hfz74_1 := bkF BK284.out 1
              have hfz74_2 := bkF BK284.out 2
              have hfz74_3 := bkF BK284.out 3
              have hnb75 := NB280_283.out
              have hnc75 := NB283_280.out
              have hcz76_0 : wc.cell? ⟨gb280, 0, none⟩ = some (.string (⟨#[]⟩ : ByteArray)) := (bkC BK280.out 0).trans rfl
              have hcz76_1 : wc.cell? ⟨gb280, 1, none⟩ = some (.string (⟨#[]⟩ : ByteArray)) := (bkC BK280.out 1).trans rfl
              have hcz76_2 : wc.cell? ⟨gb280, 2, none⟩ = some (.slice none 0 0) := (bkC BK280.out 2).trans rfl
              have hcz76_3 : wc.cell? ⟨gb280, 3, none⟩ = some (.string (⟨#[]⟩ : ByteArray)) := (bkC BK280.out 3).trans rfl
              have hfz76_0 := bkF BK280.out 0
              have hfz76_1 := bkF BK280.out 1
              have hfz76_2 := bkF BK280.out 2
              have hfz76_3 := bkF BK280.out 3
              obtain ⟨Ao77, co77, eo77⟩ := Kd.S_slice HO_285002.out
              subst eo77
              go_wp2
              refine bodyPost_ret (results_ct rfl _ _ gb280 25 #[.string x285000_10, .string x285001_10, .slice Ao77 x285002_3.length co77, .string (a0.extract (x284001_3 : Int).toNat a0.size)] (0, 0) _ rfl (by (with_reducible repeat (first | refine bkN ?_ _ | refine bkD ?_ | refine bkA ?_ _)); refine bkP (cs := #[.string x285000_10, .string x285001_10, .slice Ao77 x285002_3.length co77, .string (⟨#[]⟩ : ByteArray)]) ?_ 3 _ rfl; (with_reducible repeat (first | refine bkN ?_ _ | refine bkD ?_ | refine bkA ?_ _)); refine bkP (cs := #[.string x285000_10, .string x285001_10, .slice none 0 0, .string (⟨#[]⟩ : ByteArray)]) ?_ 2 _ rfl; (with_reducible repeat (first | refine bkN ?_ _ | refine bkD ?_ | refine bkA ?_ _)); refine bkP (cs := #[.string x285000_10, .string (⟨#[]⟩ : ByteArray), .slice none 0 0, .string (⟨#[]⟩ : ByteArray)]) ?_ 1 _ rfl; (with_reducible repeat (first | refine bkN ?_ _ | refine bkD ?_ | refine bkA ?_ _)); refine bkP (cs := #[.string (⟨#[]⟩ : ByteArray), .string (⟨#[]⟩ : ByteArray), .slice none 0 0, .string (⟨#[]⟩ : ByteArray)]) ?_ 0 _ rfl; (with_reducible repeat (first | refine bkN ?_ _ | refine bkD ?_ | refine bkA ?_ _)); refine bkR ?_ NB280_284.out _; (with_reducible repeat (first | refine bkN ?_ _ | refine bkD ?_ | refine bkA ?_ _)); exact BK280.out) Tryz.underlying25 rfl (by kernel_rfl)) rfl ?_
              exact ⟨_, by first | rfl | (simp [eWn, eWs] <;> rfl) | (simp [*, eWn, eWs] <;> rfl), by (with_reducible repeat (first | apply Kd.S_alloc | apply Kd.S_drewN | apply Kd.S_drew)); exact Kd.S_mono (Kd.S_far (p := ⟨gb280, 3, none⟩) (Kd.S_far (p := ⟨gb280, 2, none⟩) (Kd.S_far (p := ⟨gb280, 1, none⟩) (Kd.S_far (p := ⟨gb280, 0, none⟩) (Kd.S_far (p := ⟨gb284, 3, none⟩) (Kd.S_types (Kd.S_types HO_285002.out BK284.out (by decide)) BK280.out (by decide)) (fun _ hk => hk.1.2) (.string (a0.extract (x284001_3 : Int).toNat a0.size))) (fun _ hk => hk.2) (.string x285000_10)) (fun _ hk => hk.2) (.string x285001_10)) (fun _ hk => hk.2) (.slice Ao77 x285002_3.length co77)) (fun _ hk => hk.2) (.string (a0.extract (x284001_3 : Int).toNat a0.size))) (fun _ hk => trivial), by repeat (first | (with_reducible first | exact HB.out | apply bA | apply bdN | apply bd1 | refine bS ?_ (I79.ge HI283.out) | refine bS ?_ GE280.out | refine bS ?_ GE284.out) | exact HB.out)⟩
             ·
              rw [if_neg c70] at H
              exact absurd H (by simp)
            ·
             rw [if_neg c69] at H
             exact absurd H (by simp)
           ·
            rw [if_neg c68] at H
            have c68b0 : (x284002_3 == 0) = false := beq_eq_false_iff_ne.mpr c68
            have c68b1 : (x284002_3 != 0) = true := bne_iff_ne.mpr c68
            simp only [Option.some.injEq, Prod.mk.injEq] at H
            obtain ⟨rfl, rfl, rfl, rfl, rfl⟩ := H
            obtain ⟨HGz78, hgz78⟩ := HI283.out
            have hcz78_0 := cellS79_0 HGz78
            have hcz78_1 := cellS79_1 HGz78
            have hcz78_2 := cellS79_2 HGz78
            have hfz78_0 := bkF HGz78 0
            have hfz78_1 := bkF HGz78 1
            have hfz78_2 := bkF HGz78 2
            clear HGz78 hgz78
            have BK283 := A0q.mk (HI283.out.1)
            clear HI283
            try go_wp2
            have n0_ := A0q.mk (Kd.S_drew HO_285002.out)
            have n1_ := A0q.mk (bkD BK280.out)
            have n2_ := A0q.mk (bkD BK284.out)
            have n3_ := A0q.mk (bkD BK283.out)
            have n4_ := A0q.mk (bd1 HB.out)
            clear HO_285002
            clear BK280
            clear BK284
            clear BK283
            clear HB
            have HO_285002 := n0_
            have BK280 := n1_
            have BK284 := n2_
            have BK283 := n3_
            have HB := n4_
            clear n0_ n1_ n2_ n3_ n4_
            refine start_ (n := 7) (S := fun w' => w'.cell? ⟨gb283, 0, none⟩ = some (.string x284000_3) ∧ w'.cell? ⟨gb283, 1, none⟩ = some (.int .i64 x284001_3) ∧ w'.cell? ⟨gb283, 2, none⟩ = some (.int .i64 x284002_3)) (ds := []) #[false, false, false, false, false, false, false] (by kernel_rfl) rfl rfl ⟨(bkC BK283.out 0).trans rfl, (bkC BK283.out 1).trans rfl, (bkC BK283.out 2).trans rfl⟩ (fun hHeld => ?_)
            generalize wc.drew = w79 at HO_285002 BK280 BK284 BK283 HB hHeld ⊢
            refine pure_ (i := 0) (N := some 76) (v := ?_) (a' := ?_) #[true, false, false, false, false, false, false] rfl rfl (by kernel_rfl) (fun _ _ _ h => h) (Or.inl ⟨by rfl, ?_⟩) ?_ ?_
            rotate_left
            ·
             intro w'
             go_simp
             with_reducible rfl
            rotate_left
            ·
             simp only [Act.put, List.setIfInBounds_toArray, List.set_cons_zero, List.set_cons_succ, i64_w, i32_w]
             rfl
            refine pure_ (i := 1) (N := some 77) (v := ?_) (a' := ?_) #[true, true, false, false, false, false, false] rfl rfl (by kernel_rfl) (fun _ _ _ h => h) (Or.inl ⟨by rfl, ?_⟩) ?_ ?_
            rotate_left
            ·
             intro w'
             go_simp
             with_reducible rfl
            rotate_left
            ·
             simp only [Act.put, List.setIfInBounds_toArray, List.set_cons_zero, List.set_cons_succ, i64_w, i32_w]
             rfl
            refine pure_ (i := 2) (N := some 78) (v := ?_) (a' := ?_) #[true, true, true, false, false, false, false] rfl rfl (by kernel_rfl) (fun _ _ _ h => h) (Or.inl ⟨by rfl, ?_⟩) ?_ ?_
            rotate_left
            ·
             intro w'
             go_simp
             with_reducible rfl
            rotate_left
            ·
             simp only [Act.put, List.setIfInBounds_toArray, List.set_cons_zero, List.set_cons_succ, i64_w, i32_w]
             rfl
            refine pure_ (i := 3) (N := some 79) (v := ?_) (a' := ?_) #[true, true, true, true, false, false, false] rfl rfl (by kernel_rfl) (fun _ _ _ h => h) (Or.inl ⟨by rfl, ?_⟩) ?_ ?_
            rotate_left
            ·
             intro w'
             go_simp
             with_reducible rfl
            rotate_left
            ·
             simp only [Act.put, List.setIfInBounds_toArray, List.set_cons_zero, List.set_cons_succ, i64_w, i32_w]
             rfl
            refine take_ (i := 4) (N := some 80) (v := ?_) (a' := ?_) #[true, true, true, true, true, false, false] rfl rfl (by kernel_rfl) (fun _ _ _ h => h) (Or.inl ⟨by rfl, ?_⟩) hHeld ?_ ?_
            rotate_left
            ·
             rintro w' ⟨s0, s1, s2⟩
             go_simp
             with_reducible rfl
            rotate_left
            ·
             simp only [Act.put, List.setIfInBounds_toArray, List.set_cons_zero, List.set_cons_succ, i64_w, i32_w]
             rfl
            refine one_ (i := 5) (N := none) #[true, true, true, true, true, true, false] rfl rfl (by kernel_rfl) (by decide) (fun K hK => ?_)
            have hs80 : w79.cell? ⟨gb280, 0, none⟩ = some (.string (⟨#[]⟩ : ByteArray)) := (bkC BK280.out 0).trans rfl
            have hfs80 := bkF BK280.out 0
            have hns80_1 := NB284_280.out
            have hns80_2 := NB283_280.out
            have hms80_1 := NB280_284.out
            have hms80_2 := NB280_283.out
            have hs81 : w79.cell? ⟨gb280, 1, none⟩ = some (.string (⟨#[]⟩ : ByteArray)) := (bkC BK280.out 1).trans rfl
            have hfs81 := bkF BK280.out 1
            have hns81_1 := NB284_280.out
            have hns81_2 := NB283_280.out
            have hms81_1 := NB280_284.out
            have hms81_2 := NB280_283.out
            have hs82 : w79.cell? ⟨gb280, 2, none⟩ = some (.slice none 0 0) := (bkC BK280.out 2).trans rfl
            have hfs82 := bkF BK280.out 2
            have hns82_1 := NB284_280.out
            have hns82_2 := NB283_280.out
            have hms82_1 := NB280_284.out
            have hms82_2 := NB280_283.out
            have hs83 : w79.cell? ⟨gb280, 3, none⟩ = some (.string (⟨#[]⟩ : ByteArray)) := (bkC BK280.out 3).trans rfl
            have hfs83 := bkF BK280.out 3
            have hns83_1 := NB284_280.out
            have hns83_2 := NB283_280.out
            have hms83_1 := NB280_284.out
            have hms83_2 := NB280_283.out
            refine skip_ (w1 := ?_) (by rfl) rfl ?_ ?_
            rotate_left
            ·
             go_simp
             rfl
            refine hK.out _ _ ⟨((cell_far (p := ⟨gb280, _, none⟩) NB283_280.out _).trans (((cell_far (p := ⟨gb280, _, none⟩) NB283_280.out _).trans (((cell_far (p := ⟨gb280, _, none⟩) NB283_280.out _).trans (((cell_far (p := ⟨gb280, _, none⟩) NB283_280.out _).trans (hHeld.1)))))))), ((cell_far (p := ⟨gb280, _, none⟩) NB283_280.out _).trans (((cell_far (p := ⟨gb280, _, none⟩) NB283_280.out _).trans (((cell_far (p := ⟨gb280, _, none⟩) NB283_280.out _).trans (((cell_far (p := ⟨gb280, _, none⟩) NB283_280.out _).trans (hHeld.2.1)))))))), ((cell_far (p := ⟨gb280, _, none⟩) NB283_280.out _).trans (((cell_far (p := ⟨gb280, _, none⟩) NB283_280.out _).trans (((cell_far (p := ⟨gb280, _, none⟩) NB283_280.out _).trans (((cell_far (p := ⟨gb280, _, none⟩) NB283_280.out _).trans (hHeld.2.2))))))))⟩ (fun hHeld => ?_)
            clear hK K
            refine pure_ (i := 6) (N := some 3) (v := ?_) (a' := ?_) #[true, true, true, true, true, true, true] rfl rfl (by kernel_rfl) (fun _ _ _ h => h) (Or.inl ⟨by rfl, ?_⟩) ?_ ?_
            rotate_left
            ·
             intro w'
             go_simp
             with_reducible rfl
            rotate_left
            ·
             simp only [Act.put, List.setIfInBounds_toArray, List.set_cons_zero, List.set_cons_succ, i64_w, i32_w]
             rfl
            refine done_ (by kernel_rfl) ?_
            try go_wp2
            refine bodyPost_ret (results_ct rfl _ _ gb280 25 #[.string (⟨#[]⟩ : ByteArray), .string (⟨#[]⟩ : ByteArray), .slice none 0 0, .string (⟨#[]⟩ : ByteArray)] (0, 0) _ rfl (by (with_reducible repeat (first | refine bkN ?_ _ | refine bkD ?_ | refine bkA ?_ _)); refine bkP (cs := #[.string (⟨#[]⟩ : ByteArray), .string (⟨#[]⟩ : ByteArray), .slice none 0 0, .string (⟨#[]⟩ : ByteArray)]) ?_ 3 _ rfl; (with_reducible repeat (first | refine bkN ?_ _ | refine bkD ?_ | refine bkA ?_ _)); refine bkP (cs := #[.string (⟨#[]⟩ : ByteArray), .string (⟨#[]⟩ : ByteArray), .slice none 0 0, .string (⟨#[]⟩ : ByteArray)]) ?_ 2 _ rfl; (with_reducible repeat (first | refine bkN ?_ _ | refine bkD ?_ | refine bkA ?_ _)); refine bkP (cs := #[.string (⟨#[]⟩ : ByteArray), .string (⟨#[]⟩ : ByteArray), .slice none 0 0, .string (⟨#[]⟩ : ByteArray)]) ?_ 1 _ rfl; (with_reducible repeat (first | refine bkN ?_ _ | refine bkD ?_ | refine bkA ?_ _)); refine bkP (cs := #[.string (⟨#[]⟩ : ByteArray), .string (⟨#[]⟩ : ByteArray), .slice none 0 0, .string (⟨#[]⟩ : ByteArray)]) ?_ 0 _ rfl; (with_reducible repeat (first | refine bkN ?_ _ | refine bkD ?_ | refine bkA ?_ _)); exact BK280.out) Tryz.underlying25 rfl (by kernel_rfl)) rfl ?_
            exact ⟨_, by first | rfl | (simp [eWn, eWs] <;> rfl) | (simp [*, eWn, eWs] <;> rfl), by first | exact Kd.S_nil _ _ _ _ _ | exact Kd.N_nil _ _ _ _ _ | exact Kd.V_nil _ _ _ _ _ | exact Kd.Q_nil _ _ _ _ _ | exact Kd.R_nil _ _ _ _ _, by repeat (first | (with_reducible first | exact HB.out | apply bA | apply bdN | apply bd1 | refine bS ?_ GE280.out | refine bS ?_ GE284.out | refine bS ?_ GE283.out) | exact HB.out)⟩
end Go.Proofs.YthabooeapfepnaaGreatDoor.PL
