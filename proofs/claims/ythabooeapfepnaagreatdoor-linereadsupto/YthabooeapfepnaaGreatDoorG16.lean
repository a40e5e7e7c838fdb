import Derived.Test.YthabooeapfepnaaGreatDoorPLx3
import Derived.WalkMore
import Derived.IntWalk
import Derived.Lib.Hide
namespace Go.Proofs.YthabooeapfepnaaGreatDoor.PL
open Go.RowKit Go.Proofs.YthabooeapfepnaaGreatDoor.Given Go.Proofs.YthabooeapfepnaaGreatDoorW.PrintWords
set_option linter.unusedVariables false
set_option pp.maxSteps 1500
theorem check1 (k : Nat) (name : ByteArray) (v : Value) (b : Bool) (w : World) (h : line_Name.f k name = some b) (hv : ∃ A n c, v = .slice A n c) :
    Calls Tryz.prog 83 #[.agg #[.string name, v]] w fun e w' => e = .returned (.bool (!b)) ∧ Below w.heap.size w w' := by
  obtain ⟨A, n, c, rfl⟩ := hv
  have hnot : ∀ (x : Bool) (w : World), (Op.unary .not (.bool x)).run Tryz.prog w = .ok (.bool (!x)) w := fun _ _ => rfl
  have cn := fun W => line_Name.calls k name b W h
  have HN := Lib.hid cn
  clear cn h
  go_enter Tryz.func83, Tryz.ntmps83
  go_wp2_with fail
  refine (HN.out _).mono ?_
  rintro e w' ⟨rfl, hd⟩
  go_wp2_with fail
  go_ret
  exact ⟨rfl, below_then (bA (Below.refl _ w) _) (bA (Below.refl _ w) _).size hd.below⟩
theorem check2 (name : ByteArray) (A : Option Addr) (n c : Nat) (w : World) :
    Calls Tryz.prog 84 #[.agg #[.string name, .slice A n c]] w fun e w' => e = .returned (.bool ((n : Int) == 0)) ∧ Below w.heap.size w w' := by
  go_enter Tryz.func84, Tryz.ntmps84
  go_wp2_with fail
  go_ret
  exact ⟨rfl, bA (Below.refl _ w) _⟩
def idxS (p : S31 → Bool) (l : List S31) : Int := match l.findIdx? p with | some i => (i : Int) | none => -1
theorem indexFunc (g : Nat) (eg : ∀ args w, (callFunc g args).run Tryz.prog w = .ok (.enter g args) w) (p : S31 → Bool) (A : Option Addr) (c : Nat) (l : List S31) (w : World) (hl : l.length ≤ 4000000000)
    (hC : Kd.C k31 w A l.length l) (hc : l.length ≤ c)
    (hp : ∀ W x A1 c1, x ∈ l → Kd.string.C W A1 x.f1.length x.f1 → x.f1.length ≤ c1 → Calls Tryz.prog g #[.agg #[.string x.f0, .slice A1 x.f1.length c1]] W fun e W' => e = .returned (.bool (p x)) ∧ Below W.heap.size W W') :
    Calls Tryz.prog 120 #[.slice A l.length c, .func (.func g) #[] #[]] w fun e w' => e = .returned (.int .i64 (idxS p l)) ∧ Below w.heap.size w w' := by
  have HP := Lib.hid hp
  have HC := Lib.hid hC
  clear hp hC
  go_enter Tryz.func120, Tryz.ntmps120
  go_wp2_with fail
  go_loopg [4, 5, 8] l.length (fun n v4 v5 v8 wx => ∃ i : Nat, i + n = l.length ∧ v8 = .int .i64 (i : Int) ∧ (∀ j x, j < i → l[j]? = some x → p x = false) ∧ Below w.heap.size w wx)
  case atStart => exact ⟨0, by omega, rfl, fun j x hj => by omega, Below.refl _ w⟩
  case round =>
    obtain ⟨i, hin, rfl, hno, hbw⟩ := hrel
    cases gk with
    | zero =>
      obtain rfl : i = l.length := by omega
      have hf : idxS p l = -1 := by
        have : l.findIdx? p = none := by
          rw [List.findIdx?_eq_none_iff]
          intro x hx
          obtain ⟨j, hj⟩ := List.mem_iff_getElem?.1 hx
          exact hno j x (List.getElem?_eq_some_iff.1 hj).1 hj
        unfold idxS
        rw [this]
      have HE := Lib.hid (And.intro hf hbw)
      clear hno hbw hf
      go_wp2_with fail
      go_ret
      exact ⟨by rw [HE.out.1]; rfl, HE.out.2⟩
    | succ n =>
      have hi : i < l.length := by omega
      have hiz : (i : Int) < l.length := by omega
      have hi0 : (0 : Int) ≤ i := by omega
      have wri : IntKind.i64.wrap ((i : Int) + 1) = (i : Int) + 1 := IntWalk.i64_in _ (by omega)
      obtain ⟨x, hx⟩ : ∃ x, rd_T31 l (i : Int) = x := ⟨_, rfl⟩
      have hxl : l[i]? = some x := by
        rw [← hx]
        unfold rd_T31
        rw [Int.toNat_natCast, List.getD_eq_getElem?_getD, List.getElem?_eq_getElem hi]
        rfl
      have hmem : x ∈ l := List.mem_iff_getElem?.2 ⟨i, hxl⟩
      have hCr := Kd.C_below HC.out hbw
      obtain ⟨ad, A1, c1, rfl, hc0, hc1, hl1, hg1⟩ := at_T31 hCr (i : Int) hi0 hiz
      rw [hx] at hc0 hc1 hl1 hg1
      rw [Int.toNat_natCast] at hc0 hc1
      have cp := HP.out wr x A1 c1 hmem hg1 hl1
      have HH := Lib.hid (And.intro hno (And.intro hbw hxl))
      clear hno hbw hxl hCr hmem hx hl1 hg1
      cases hpx : p x
      · rw [hpx] at cp
        go_wp2_with fail
        refine cp.mono ?_
        rintro e w' ⟨rfl, hb'⟩
        obtain ⟨hno, hbw, hxl⟩ := HH.out
        have HF := Lib.hid (bT hbw hb')
        have HX : Hid (∀ j y, j < i + 1 → l[j]? = some y → p y = false) := Lib.hid fun j y hj hy => by
          rcases Nat.lt_or_ge j i with h | h
          · exact hno j y h hy
          · obtain rfl : j = i := by omega
            rw [hxl] at hy
            cases hy
            exact hpx
        clear hno hbw hxl hb' cp hpx
        go_wp2_with fail
        go_roundg n
        case measure => omega
        case rel => exact ⟨i + 1, by omega, rfl, HX.out, HF.out⟩
      · rw [hpx] at cp
        go_wp2_with fail
        refine cp.mono ?_
        rintro e w' ⟨rfl, hb'⟩
        obtain ⟨hno, hbw, hxl⟩ := HH.out
        have HF := Lib.hid (bT hbw hb')
        have hf : idxS p l = (i : Int) := by
          have : l.findIdx? p = some i := by
            rw [List.findIdx?_eq_some_iff_getElem]
            refine ⟨hi, ?_, ?_⟩
            · have := (List.getElem?_eq_some_iff.1 hxl).2
              rw [this]; exact hpx
            · intro j hj
              rw [hno j _ hj (List.getElem?_eq_getElem (by omega))]
              simp
          unfold idxS
          rw [this]
        have HE := Lib.hid hf
        clear hno hbw hxl hb' cp hpx hf
        go_wp2_with fail
        go_ret
        exact ⟨by rw [HE.out]; rfl, HF.out⟩
theorem containsFunc (g : Nat) (eg : ∀ args w, (callFunc g args).run Tryz.prog w = .ok (.enter g args) w) (p : S31 → Bool) (A : Option Addr) (c : Nat) (l : List S31) (w : World) (hl : l.length ≤ 4000000000)
    (hC : Kd.C k31 w A l.length l) (hc : l.length ≤ c)
    (hp : ∀ W x A1 c1, x ∈ l → Kd.string.C W A1 x.f1.length x.f1 → x.f1.length ≤ c1 → Calls Tryz.prog g #[.agg #[.string x.f0, .slice A1 x.f1.length c1]] W fun e W' => e = .returned (.bool (p x)) ∧ Below W.heap.size W W') :
    Calls Tryz.prog 82 #[.slice A l.length c, .func (.func g) #[] #[]] w fun e w' => e = .returned (.bool (l.any p)) ∧ Below w.heap.size w w' := by
  have ci := indexFunc g eg p A c l w hl hC hc hp
  have hi : decide (0 ≤ idxS p l) = l.any p := by
    unfold idxS
    cases h : l.findIdx? p with
    | none =>
      rw [List.findIdx?_eq_none_iff] at h
      have : l.any p = false := by rw [List.any_eq_false]; intro x hx; simp [h x hx]
      rw [this]
      rfl
    | some i =>
      have h2 := List.findIdx?_eq_some_iff_getElem.1 h
      obtain ⟨hlt, hpi, _⟩ := h2
      have : l.any p = true := by rw [List.any_eq_true]; exact ⟨_, List.getElem_mem hlt, hpi⟩
      rw [this]
      simp
  have HI := Lib.hid hi
  clear hi hp hC
  go_enter Tryz.func82, Tryz.ntmps82
  go_wp2_with fail
  refine ci.mono ?_
  rintro e w' ⟨rfl, hb⟩
  clear ci
  go_wp2_with fail
  go_ret
  exact ⟨by rw [← HI.out]; rfl, hb⟩
end Go.Proofs.YthabooeapfepnaaGreatDoor.PL
