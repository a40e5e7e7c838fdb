import Derived.Test.YthabooeapfepnaaGreatDoorS2
import Derived.Test.YthabooeapfepnaaGreatDoorPLx4
import Derived.KernelRfl
namespace Go.Proofs.YthabooeapfepnaaGreatDoor.PL
open Go.RowKit Go.Proofs.YthabooeapfepnaaGreatDoor.Given Go.Proofs.YthabooeapfepnaaGreatDoor.Text Go.Proofs.YthabooeapfepnaaGreatDoorW.PrintWords
set_option linter.unusedVariables false
theorem takeWhile_full (p : UInt8 → Bool) (l : List UInt8) : (l.takeWhile p).length = l.length ↔ l.all p = true := by
  induction l with
  | nil => simp
  | cons b l ih =>
    have hle := takeWhile_le p l
    rw [List.takeWhile_cons, List.all_cons]
    cases h : p b
    · simp
    · simp only [if_true, List.length_cons, Bool.true_and]
      rw [← ih]
      omega
theorem Name_ev (l : List UInt8) (h : l.length ≤ 4000000000) : Ev (fun k => line_Name.f k (B l)) (isName l) := by
  unfold line_Name.f
  refine Ev.bind (lead_f l h) ?_
  refine Ev.congr (f := fun _ => some (isName l)) (fun k => ?_) (Ev.now _)
  rw [B_size, fits_f]
  simp only [Option.bind_some]
  have hf := takeWhile_full inName l
  unfold isName
  cases ha : l.all inName
  · rw [if_neg (fun h => by have := hf.1 (by omega); rw [ha] at this; cases this)]
    rfl
  · rw [if_pos (by have := hf.2 ha; omega)]
    rfl
theorem parse_lit {s : ByteArray} {r : ByteArray × ByteArray × List S31 × ByteArray × Int} (h : s.size ≤ 4000000000) (hr : lineB (parseS s.data.toList) = r) : Ev (fun k => lPa.f k s) r := by
  have := parse_ev s.data.toList h
  rw [hr] at this
  exact this
theorem Name_lit {s : ByteArray} {r : Bool} (h : s.size ≤ 4000000000) (hr : isName s.data.toList = r) : Ev (fun k => line_Name.f k s) r := by
  have := Name_ev s.data.toList h
  rw [hr] at this
  exact this
theorem first_one : parseS [97, 46, 84, 69, 76, 59, 84, 89, 80, 69, 61, 104, 111, 109, 101, 44, 34, 120, 44, 121, 34, 58, 43, 49] = ([97], [84, 69, 76], [([84, 89, 80, 69], [[104, 111, 109, 101], [120, 44, 121]])], [43, 49], 0) := by kernel_rfl
theorem first_two : parseS [58, 49] = ([], [], [], [], 30) := by kernel_rfl
theorem first_ev : Ev (fun k => calepinlaw03_first.f k) true := by
  unfold calepinlaw03_first.f
  refine Ev.bind (parse_lit (by decide) (congrArg lineB first_one)) ?_
  refine Ev.bind (parse_lit (by decide) (congrArg lineB first_two)) ?_
  have e1 : (B [97]).toList = [97] := B_toList _
  have e2 : (B [84, 69, 76]).toList = [84, 69, 76] := B_toList _
  have e3 : (B [43, 49]).toList = [43, 49] := B_toList _
  refine Ev.congr (f := fun k => (line_Name.f k (⟨#[65, 45, 49]⟩ : ByteArray)).bind fun t177 => (if t177 = true then ((line_Name.f k (⟨#[65, 32, 98]⟩ : ByteArray)).bind fun t178 => (some (!t178))) else (none))) (fun k => ?_) ?_
  · show (if (0 : Int) = 0 then _ else _) = _
    rw [if_pos rfl]
    show (if (B [97]).toList = ([97] : List UInt8) then _ else _) = _
    rw [if_pos e1]
    show (if (B [84, 69, 76]).toList = ([84, 69, 76] : List UInt8) then _ else _) = _
    rw [if_pos e2, if_pos (by rfl), if_pos (by decide), if_pos (by rfl)]
    show (if (B [43, 49]).toList = ([43, 49] : List UInt8) then _ else _) = _
    rw [if_pos e3]
    show (if (30 : Int) = 30 then _ else _) = _
    rw [if_pos rfl]
  · refine Ev.bind (Name_lit (by decide) (by kernel_rfl : isName [65, 45, 49] = true)) ?_
    refine Ev.congr (f := fun k => (line_Name.f k (⟨#[65, 32, 98]⟩ : ByteArray)).bind fun t178 => (some (!t178))) (fun k => if_pos rfl) ?_
    exact Ev.bind (Name_lit (by decide) (by kernel_rfl : isName [65, 32, 98] = false)) (Ev.now _)
theorem wrap_succ (i n : Nat) (h : i < n) (hn : n ≤ 4000000002) : wrap64 ((i : Int) + 1) = ((i + 1 : Nat) : Int) := by
  unfold wrap64; omega
theorem same_l1 (g n v : ByteArray) (ps : List S31) (x5 : Nat) (h5 : x5 < ps.length) (x37 x38 : Int) (hv : (rd_T31 ps (x5 : Int)).f1.length ≤ 4000000002)
    (hend : Ev (fun k => rSa.l0 k x37 (wrap64 (x38 + 1)) g n ps v g n ps v) true) :
    ∀ (d i : Nat), i + d = (rd_T31 ps (x5 : Int)).f1.length → Ev (fun k => rSa.l1 k (x5 : Int) x37 x38 ((rd_T31 ps (x5 : Int)).f1.length : Int) (i : Int) g n ps v g n ps v) true := by
  intro d
  induction d with
  | zero =>
    intro i hi
    refine Ev.step (fun k => ?_) hend
    simp only [rSa.l1]
    rw [if_neg (by omega)]
  | succ d ih =>
    intro i hi
    refine Ev.step (fun k => ?_) (ih (i + 1) (by omega))
    simp only [rSa.l1]
    rw [if_pos (by omega), if_pos (by omega), if_pos (by omega), if_pos (by omega), if_pos (by omega), if_pos (by omega), if_pos (by omega), if_pos trivial, wrap_succ i _ (by omega) hv]
theorem same_l0 (g n v : ByteArray) (ps : List S31) (hp : ps.length ≤ 4000000002) (hv : ∀ x ∈ ps, x.f1.length ≤ 4000000002) :
    ∀ (d i : Nat), i + d = ps.length → Ev (fun k => rSa.l0 k (ps.length : Int) (i : Int) g n ps v g n ps v) true := by
  intro d
  induction d with
  | zero =>
    intro i hi
    refine Ev.step (f := fun _ => some true) (fun k => ?_) (Ev.now _)
    simp only [rSa.l0]
    rw [if_neg (by omega)]
  | succ d ih =>
    intro i hi
    have hi' : i < ps.length := by omega
    have hm : rd_T31 ps (i : Int) ∈ ps := by
      unfold rd_T31
      rw [Int.toNat_natCast, List.getD_eq_getElem?_getD, List.getElem?_eq_getElem hi']
      exact List.getElem_mem hi'
    have hh := hv _ hm
    have hend : Ev (fun k => rSa.l0 k (ps.length : Int) (wrap64 ((i : Int) + 1)) g n ps v g n ps v) true := by
      rw [wrap_succ i _ hi' hp]
      exact ih (i + 1) (by omega)
    refine Ev.step (f := fun k => rSa.j2 k (i : Int) (ps.length : Int) (i : Int) false g n ps v g n ps v) (fun k => ?_) ?_
    · simp only [rSa.l0]
      rw [if_pos (by omega), if_pos (by omega), if_pos (by omega), if_pos (by omega), if_pos trivial]
      simp
    · refine Ev.step (fun k => ?_) (same_l1 g n v ps i hi' (ps.length : Int) (i : Int) hh hend (rd_T31 ps (i : Int)).f1.length 0 (by omega))
      simp only [rSa.j2]
      rw [if_neg (by decide), if_pos (by omega), if_pos (by omega)]
      rfl
theorem same_refl (g n v : ByteArray) (ps : List S31) (hp : ps.length ≤ 4000000002) (hv : ∀ x ∈ ps, x.f1.length ≤ 4000000002) :
    Ev (fun k => rSa.f k g n ps v g n ps v) true := by
  refine Ev.congr (f := fun k => rSa.j0 k false g n ps v g n ps v) (fun k => ?_) ?_
  · unfold rSa.f
    rw [if_pos rfl, if_pos rfl, if_pos rfl]
    simp
  · refine Ev.step (fun k => ?_) (same_l0 g n v ps hp hv ps.length 0 (by omega))
    simp only [rSa.j0]
    rw [if_neg (by decide)]
    rfl
end Go.Proofs.YthabooeapfepnaaGreatDoor.PL
