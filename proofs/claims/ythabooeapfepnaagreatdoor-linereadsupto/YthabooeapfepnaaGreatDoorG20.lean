import Derived.Test.YthabooeapfepnaaGreatDoorPLx0
import Derived.Test.YthabooeapfepnaaGreatDoorG18
import Derived.WalkMore
import Derived.IntWalk
import Derived.Lib.Hide
import Derived.Deep.LoopGhost
import Derived.Deep.DeepCutAuto
namespace Go.Proofs.YthabooeapfepnaaGreatDoor.PL
open Go.RowKit Go.Proofs.YthabooeapfepnaaGreatDoor.Given Go.Proofs.YthabooeapfepnaaGreatDoorW.PrintWords
set_option linter.unusedVariables false
set_option pp.maxSteps 1500
def sameP (x y : S31) : Bool := (x.f0.toList == y.f0.toList) && decide (x.f1 = y.f1)
def sameLs (l m : List S31) : Bool := decide (l.length = m.length) && (List.range l.length).all fun i => sameP (rd_T31 l (i : Int)) (rd_T31 m (i : Int))
def lensOk (l : List S31) : Bool := decide (l.length ≤ 4000000000) && l.all fun x => decide (x.f1.length ≤ 4000000000)
def sameB (g n : ByteArray) (l : List S31) (v g' n' : ByteArray) (l' : List S31) (v' : ByteArray) : Bool := (g.toList == g'.toList) && (n.toList == n'.toList) && (v.toList == v'.toList) && sameLs l l'
def line_Same.f (a0_0 a0_1 : ByteArray) (l0_2 : List S31) (a0_3 : ByteArray) (a1_0 a1_1 : ByteArray) (l1_2 : List S31) (a1_3 : ByteArray) : Option Bool :=
  if lensOk l0_2 = true ∧ lensOk l1_2 = true then some (sameB a0_0 a0_1 l0_2 a0_3 a1_0 a1_1 l1_2 a1_3) else none
theorem same_params (x y : S31) (A1 : Option Addr) (c1 : Nat) (A2 : Option Addr) (c2 : Nat) (w : World) (h1 : Kd.C Kd.string w A1 x.f1.length x.f1) (h2 : Kd.C Kd.string w A2 y.f1.length y.f1) (s1 : x.f1.length ≤ 4000000000) (s2 : y.f1.length ≤ 4000000000) :
    Calls Tryz.prog 52 #[.agg #[.string x.f0, .slice A1 x.f1.length c1], .agg #[.string y.f0, .slice A2 y.f1.length c2]] w fun e w' => e = .returned (.bool (sameP x y)) ∧ Below w.heap.size w w' := by
  have ce := fun W (hb : Below w.heap.size w W) => slices_Equal_calls A1 c1 x.f1 A2 c2 y.f1 W (Kd.C_below h1 hb) (Kd.C_below h2 hb) s1 s2
  have HE := Lib.hid ce
  clear ce h1 h2
  unfold sameP
  generalize hd : decide (x.f1 = y.f1) = D at *
  cases he : (x.f0.toList == y.f0.toList)
  · go_enter Tryz.func52, Tryz.ntmps52
    go_wp2_with fail
    go_ret
    exact ⟨rfl, bA (bA (Below.refl _ w) _) _⟩
  · have B0 : Below w.heap.size w ((w.alloc (.cells #[.string x.f0, .slice A1 x.f1.length c1] 31)).alloc (.cells #[.string y.f0, .slice A2 y.f1.length c2] 31)) := bA (bA (Below.refl _ w) _) _
    have ce := HE.out _ B0
    clear HE hd
    go_enter Tryz.func52, Tryz.ntmps52
    go_wp2_with fail
    refine ce.mono ?_
    rintro e w' ⟨rfl, hb⟩
    clear ce
    go_wp2_with fail
    go_ret
    exact ⟨by simp, below_then B0 B0.size hb⟩
theorem rd31 (l : List S31) (i : Nat) (hi : i < l.length) : rd_T31 l (i : Int) ∈ l := by
  unfold rd_T31
  rw [Int.toNat_natCast, List.getD_eq_getElem?_getD, List.getElem?_eq_getElem hi]
  exact List.getElem_mem hi
theorem lens_of {l : List S31} (h : lensOk l = true) : l.length ≤ 4000000000 ∧ ∀ x ∈ l, x.f1.length ≤ 4000000000 := by
  unfold lensOk at h
  simp only [Bool.and_eq_true, decide_eq_true_eq, List.all_eq_true] at h
  exact h
theorem cell_alloc {w : World} {a : Addr} {v : Value} (o : Obj) (h : w.cell? a = some v) : (w.alloc o).cell? a = some v := Lib.cell?_alloc_some o h
theorem equal_func (A1 : Option Addr) (c1 : Nat) (l1 : List S31) (A2 : Option Addr) (c2 : Nat) (l2 : List S31) (w : World) (hC1 : Kd.C k31 w A1 l1.length l1) (hC2 : Kd.C k31 w A2 l2.length l2) (o1 : lensOk l1 = true) (o2 : lensOk l2 = true) :
    Calls Tryz.prog 51 #[.slice A1 l1.length c1, .slice A2 l2.length c2, .func (.func 52) #[] #[]] w fun e w' => e = .returned (.bool (sameLs l1 l2)) ∧ Below w.heap.size w w' := by
  obtain ⟨z1, y1⟩ := lens_of o1
  obtain ⟨z2, y2⟩ := lens_of o2
  have e52 : ∀ args W, (callFunc 52 args).run Tryz.prog W = .ok (.enter 52 args) W := fun args W => enters_of Tryz.func52 (by kernel_rfl) rfl args W
  by_cases hl : l1.length = l2.length
  · have HC := Lib.hid (And.intro hC1 (And.intro hC2 (And.intro y1 (And.intro y2 hl))))
    have hlz : ((l1.length : Int) != (l2.length : Int)) = false := by rw [hl]; simp
    have hL : sameLs l1 l2 = ((List.range l1.length).all fun i => sameP (rd_T31 l1 (i : Int)) (rd_T31 l2 (i : Int))) := by unfold sameLs; rw [decide_eq_true hl, Bool.true_and]
    have HL := Lib.hid hL
    obtain ⟨S, hS⟩ : ∃ S, S = sameLs l1 l2 := ⟨_, rfl⟩
    rw [← hS]
    have HS := Lib.hid (hS.trans hL)
    obtain ⟨n2, hn2⟩ : ∃ n2, n2 = l2.length := ⟨_, rfl⟩
    have HN := Lib.hid hn2
    rw [← hn2] at hlz z2 ⊢
    clear hC1 hC2 y1 y2 hl hL hS hn2
    go_enter Tryz.func51, Tryz.ntmps51
    go_wp2_with fail
    go_loopg [7, 8, 9, 17] l1.length (fun n v7 v8 v9 v17 wx => ∃ i : Nat, i + n = l1.length ∧ v17 = .int .i64 (i : Int) ∧ (∀ j, j < i → sameP (rd_T31 l1 (j : Int)) (rd_T31 l2 (j : Int)) = true) ∧ Below w.heap.size w wx)
    case atStart => exact ⟨0, by omega, rfl, fun j hj => by omega, Below.refl _ w⟩
    case round =>
      obtain ⟨i, hin, rfl, hall, hb⟩ := hrel
      cases gk with
      | zero =>
        obtain rfl : i = l1.length := by omega
        have hT : S = true := by
          rw [HS.out, List.all_eq_true]
          intro j hj
          exact hall j (by simpa using hj)
        have HE := Lib.hid (And.intro hT hb)
        clear hall hb hT
        go_wp2_with fail
        go_ret
        exact ⟨by rw [HE.out.1]; rfl, HE.out.2⟩
      | succ n =>
        have hi : i < l1.length := by omega
        have hiz : (i : Int) < l1.length := by omega
        have hi0 : (0 : Int) ≤ i := by omega
        have hi2 : i < n2 := by rw [HN.out, ← HC.out.2.2.2.2]; exact hi
        have hi2z : (i : Int) < n2 := by omega
        have wri : IntKind.i64.wrap ((i : Int) + 1) = (i : Int) + 1 := IntWalk.i64_in _ (by omega)
        obtain ⟨x, hx⟩ : ∃ x, rd_T31 l1 (i : Int) = x := ⟨_, rfl⟩
        obtain ⟨y, hy⟩ : ∃ y, rd_T31 l2 (i : Int) = y := ⟨_, rfl⟩
        obtain ⟨ad, B1, d1, e1, hc0, hc1, hl1, hg1⟩ := at_T31 (Kd.C_below HC.out.1 hb) (i : Int) hi0 hiz
        obtain ⟨ae, B2, d2, e2, hf0, hf1, hm1, hh1⟩ := at_T31 (Kd.C_below HC.out.2.1 hb) (i : Int) hi0 (by rw [← HN.out]; exact hi2z)
        subst e1
        subst e2
        rw [hx, Int.toNat_natCast] at hc0 hc1
        rw [hy, Int.toNat_natCast] at hf0 hf1
        rw [hx] at hg1 hl1
        rw [hy] at hh1 hm1
        have sx : x.f1.length ≤ 4000000000 := by rw [← hx]; exact HC.out.2.2.1 _ (rd31 l1 i hi)
        have sy : y.f1.length ≤ 4000000000 := by rw [← hy]; exact HC.out.2.2.2.1 _ (rd31 l2 i (by rw [← HN.out]; exact hi2))
        have cs := fun W (hB : Below wr.heap.size wr W) => same_params x y B1 d1 B2 d2 W (Kd.C_below hg1 hB) (Kd.C_below hh1 hB) sx sy
        have hf0' := cell_alloc (.cells #[.string x.f0, .slice B1 x.f1.length d1] 31) hf0
        have hf1' := cell_alloc (.cells #[.string x.f0, .slice B1 x.f1.length d1] 31) hf1
        have HX := Lib.hid (And.intro cs (And.intro hall (And.intro hb (And.intro hx hy))))
        clear cs hall hb hx hy hg1 hh1 hl1 hm1 sx sy hf0 hf1
        go_wp2_with fail
        have B0 : Below wr.heap.size wr ((wr.alloc (.cells #[.string x.f0, .slice B1 x.f1.length d1] 31)).alloc (.cells #[.string y.f0, .slice B2 y.f1.length d2] 31)) := bA (bA (Below.refl _ wr) _) _
        have cs := HX.out.1 _ B0
        refine cs.mono ?_
        rintro e w' ⟨rfl, hb'⟩
        have HW := Lib.hid (bT HX.out.2.2.1 (below_then B0 B0.size hb'))
        clear cs hb' B0
        cases hp : sameP x y
        · have hF : S = false := by
            rw [HS.out, List.all_eq_false]
            refine ⟨i, List.mem_range.2 hi, ?_⟩
            rw [HX.out.2.2.2.1, HX.out.2.2.2.2, hp]
            decide
          have HE := Lib.hid hF
          clear hp hF
          go_wp2_with fail
          go_ret
          exact ⟨by rw [HE.out]; rfl, HW.out⟩
        · have HE := Lib.hid hp
          clear hp
          go_wp2_with fail
          go_roundg n
          case measure => omega
          case rel =>
            refine ⟨i + 1, by omega, rfl, fun j hj => ?_, HW.out⟩
            rcases Nat.lt_or_ge j i with h | h
            · exact HX.out.2.1 j h
            · obtain rfl : j = i := by omega
              rw [HX.out.2.2.2.1, HX.out.2.2.2.2]
              exact HE.out
  · have hlz : ((l1.length : Int) != (l2.length : Int)) = true := by rw [bne_iff_ne]; omega
    have hS : sameLs l1 l2 = false := by unfold sameLs; rw [decide_eq_false hl, Bool.false_and]
    rw [hS]
    clear hl hC1 hC2 y1 y2 hS
    go_enter Tryz.func51, Tryz.ntmps51
    go_wp2_with fail
    go_ret
    exact ⟨rfl, Below.refl _ w⟩
theorem line_Same.calls (a0_0 a0_1 : ByteArray) (A0_2 : Option Addr) (c0_2 : Nat) (l0_2 : List S31) (a0_3 : ByteArray) (a1_0 a1_1 : ByteArray) (A1_2 : Option Addr) (c1_2 : Nat) (l1_2 : List S31) (a1_3 : ByteArray) (r : Bool) (w : World)
    (hr0_2 : Kd.C k31 w A0_2 l0_2.length l0_2) (hc0_2 : l0_2.length ≤ c0_2) (hr1_2 : Kd.C k31 w A1_2 l1_2.length l1_2) (hc1_2 : l1_2.length ≤ c1_2) (h : line_Same.f a0_0 a0_1 l0_2 a0_3 a1_0 a1_1 l1_2 a1_3 = some r) :
    Calls Tryz.prog 21 #[.agg #[.string a0_0, .string a0_1, .slice A0_2 l0_2.length c0_2, .string a0_3], .agg #[.string a1_0, .string a1_1, .slice A1_2 l1_2.length c1_2, .string a1_3]] w fun e w' => e = .returned (.bool r) ∧ Below w.heap.size w w' := by
  unfold line_Same.f at h
  split at h
  case isFalse => cases h
  rename_i ho
  obtain rfl := Option.some.inj h
  clear h
  have cs := fun W (hb : Below w.heap.size w W) => equal_func A0_2 c0_2 l0_2 A1_2 c1_2 l1_2 W (Kd.C_below hr0_2 hb) (Kd.C_below hr1_2 hb) ho.1 ho.2
  have HS := Lib.hid cs
  have B0 : Below w.heap.size w ((w.alloc (.cells #[.string a0_0, .string a0_1, .slice A0_2 l0_2.length c0_2, .string a0_3] 25)).alloc (.cells #[.string a1_0, .string a1_1, .slice A1_2 l1_2.length c1_2, .string a1_3] 25)) := bA (bA (Below.refl _ w) _) _
  have HB := Lib.hid B0
  clear cs ho hr0_2 hr1_2 B0
  unfold sameB
  cases e0 : (a0_0.toList == a1_0.toList)
  · go_enter Tryz.func21, Tryz.ntmps21
    go_wp2_with fail
    go_ret
    exact ⟨rfl, HB.out⟩
  · cases e1 : (a0_1.toList == a1_1.toList)
    · go_enter Tryz.func21, Tryz.ntmps21
      go_wp2_with fail
      go_ret
      exact ⟨rfl, HB.out⟩
    · cases e3 : (a0_3.toList == a1_3.toList)
      · go_enter Tryz.func21, Tryz.ntmps21
        go_wp2_with fail
        go_ret
        exact ⟨rfl, HB.out⟩
      · have cs := HS.out _ HB.out
        clear HS
        go_enter Tryz.func21, Tryz.ntmps21
        go_wp2_with fail
        refine cs.mono ?_
        rintro e w' ⟨rfl, hb'⟩
        clear cs
        go_wp2_with fail
        go_ret
        exact ⟨by simp, below_then HB.out HB.out.size hb'⟩
end Go.Proofs.YthabooeapfepnaaGreatDoor.PL
