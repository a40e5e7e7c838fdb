import Derived.Test.YthabooeapfepnaaGreatDoorG10
import Derived.Test.YthabooeapfepnaaGreatDoorG5
namespace Go.Proofs.YthabooeapfepnaaGreatDoor.Given
open Go.RowKit Go.Proofs.YthabooeapfepnaaGreatDoorW.PrintWords Go.Shelf
set_option linter.unusedVariables false
set_option pp.maxSteps 1500
theorem strOf_nb (l : List UInt8) : strOfNums (nb l) = ⟨l.toArray⟩ := by
  unfold strOfNums nb
  congr 1
  apply congrArg List.toArray
  rw [List.map_map]
  conv => rhs; rw [← List.map_id l]
  apply List.map_congr_left
  intro b _
  simp
set_option maxRecDepth 100000 in
theorem generic_replace (G : Nat) (s : ByteArray) (w : World) (hs : s.size ≤ 4000000000) (hT : TrieAt w G) :
    Calls Tryz.prog 213 #[PT G, .string s] w fun e w' => e = .returned (.string ⟨(meantL s.data.toList).toArray⟩) ∧ Below w.heap.size w w' := by
  have hi5 : ∃ i, Tryz.prog.info? 5 = some i ∧ i.zero = some (.int .u8 0) ∧ i.size = 1 ∧ i.bytes = 1 := ⟨_, rfl, rfl, rfl, rfl⟩
  obtain ⟨i5, hi, hz0, hz1, hz2⟩ := hi5
  have hmk : (Instr.makeSlice 258 (.int .i64 0) (.int .i64 (s.size : Int))).run Tryz.prog w = .ok (.slice (some ⟨w.heap.size, 0, none⟩) 0 s.size) (w.alloc (.cells (madeCells #[.int .u8 0] s.size) 5)) := by
    have h := run_make (P := Tryz.prog) w 258 5 i5 (.int .u8 0) (by kernel_rfl) hi hz0 .i64 .i64 0 s.size (by omega) (by omega) (by rw [hz2]; omega) (by omega)
    rw [hz1, Nat.mul_one] at h
    exact h
  have ho : (w.alloc (.cells (madeCells #[.int .u8 0] s.size) 5)).ownsRow w.heap.size 5 1 (.slice (some ⟨w.heap.size, 0, none⟩) 0 s.size) 0 [] :=
    World.ownsRow_made w _ s.size (Nat.le_refl _) (by simp only [maxLen]; omega) (by rw [size_madeCells, Nat.mul_one])
  clear hi hz0 hz1 hz2
  go_enter Tryz.func213, Tryz.ntmps213
  go_wp2_with fail
  have hbw : Below w.heap.size w ((w.alloc (.cells (madeCells #[.int .u8 0] s.size) 5)).alloc (.cells #[.slice (some ⟨w.heap.size, 0, none⟩) 0 s.size] 258)) :=
    bA (bA (Below.refl _ w) _) _
  have hB : BufIs w.heap.size ((w.alloc (.cells (madeCells #[.int .u8 0] s.size) 5)).alloc (.cells #[.slice (some ⟨w.heap.size, 0, none⟩) 0 s.size] 258)) (w.heap.size + 1) [] := by
    refine ⟨by omega, hbw.size, _, blk_new' (by show (Array.push _ _).size = _; rw [Array.size_push]) _, ho.alloc _⟩
  refine (write_string G (w.heap.size + 1) s w hs _ (hT.below hbw) (fun w2 h2 => hT.below h2) hB hbw).mono ?_
  rintro e w2 ⟨n, rfl, hbuf, hbw2⟩
  obtain ⟨_, _, v, hv, hov⟩ := hbuf
  obtain ⟨b1, n1, c1, rfl⟩ := own_slice hov
  have hcv := own_string (P := Tryz.prog) (src := 258) (dst := 9) (e := 5) (by kernel_rfl) (by kernel_rfl) (by kernel_rfl) hov
  rw [strOf_nb] at hcv
  have xv : w2.cell? ⟨w.heap.size + 1, 0, none⟩ = some (.slice b1 n1 c1) := (bkC hv 0).trans rfl
  have HE := Lib.hid hbw2
  clear hv hov hbw2 hbw hB ho hmk hT
  go_wp2_with fail
  go_ret
  exact ⟨rfl, HE.out⟩
def NewRep (base : Nat) (w : World) (R : Nat) (ps : Array Value) : Prop :=
  base ≤ R ∧ ∃ O c s2 cs, RepIs w R 0 0 s2 .nilIface (.slice (some ⟨O, 0, none⟩) ps.size c) ∧ w.heap[O]? = some (.cells cs 9 (0, 0)) ∧ ∀ (i : Nat) (v : Value), ps[i]? = some v → cs[i]? = some v
set_option maxRecDepth 100000 in
theorem new_replacer (w0 w : World) (A c : Nat) (ps : Array Value) (h6 : ps.size = 6) (hA : w.heap[A]? = some (.cells ps 9 (0, 0))) (h1 : ∀ u ∈ ps.toList, u.oneCell' = true) (hb : Below w0.heap.size w0 w) :
    Calls Tryz.prog 86 #[.slice (some ⟨A, 0, none⟩) 6 c] w fun e w' => ∃ R, e = .returned (PT R) ∧ NewRep w0.heap.size w' R ps ∧ Below w0.heap.size w0 w' := by
  have hbase := hb.size
  have hnews : ∀ j u, ps.toList[j]? = some u → w.cell? ((⟨A, 0, none⟩ : Addr).add j) = some u := by
    intro j u hu
    rw [Addr.add_mid, Nat.zero_add, bkC hA]
    simpa using hu
  have hi9 : ∃ i z, Tryz.prog.info? 9 = some i ∧ i.zero = some z ∧ i.size = 1 ∧ i.bytes = 16 ∧ z.cells.size = 1 := ⟨_, _, rfl, rfl, rfl, rfl, rfl⟩
  obtain ⟨i9, z9, hi, hz0, hz1, hz2, hz3⟩ := hi9
  have HN := Lib.hid (And.intro hnews (And.intro hb hA))
  clear hnews hb hA
  go_enter Tryz.func86, Tryz.ntmps86
  go_wp2_with (at_builtin; refine wpList_append_own w rfl _ _ 29 rfl w0.heap.size 9 i9 z9 1 16 (by kernel_rfl) hi hz0 hz1 hz2 hz3 (by omega) (.slice none 0 0) 0 [] rfl (World.ownsRow_nil _ _ _ _) ⟨A, 0, none⟩ 6 c ps.toList rfl (by rw [Array.length_toList, h6]) HN.out.1 h1 (by simp only [maxLen]; omega) (by omega) hbase ?_; intro v1 w1 ho1 hg1 _; obtain ⟨b1, n1, c1, rfl⟩ := own_slice ho1)
  go_ret
  have hbw : Below w0.heap.size w0 w1 := HN.out.2.1.grown hg1 hbase (fun k hk => by cases hk)
  have hbs := hbw.size
  have hg1s := hg1.size
  refine ⟨w1.heap.size, rfl, ⟨by omega, ?_⟩, hbw.alloc hbs _⟩
  rcases ho1.2 with ⟨_, h0⟩ | ⟨g, cap, cur, he, hgb, hg, _, _, _, htk⟩
  · omega
  · injection he with e1 e2 e3
    subst e1 e3
    obtain rfl : n1 = 6 := by omega
    refine ⟨g, _, _, cur, by rw [h6]; exact blk_new' rfl _, bkA hg _, fun j v hj => ?_⟩
    have hj2 : ps.toList[j]? = some v := by simpa using hj
    have hjl : j < 6 := by
      have := (Array.getElem?_eq_some_iff.1 hj).1
      omega
    rw [List.nil_append] at htk
    rw [← htk, List.getElem?_take, if_pos (by omega)] at hj2
    simpa using hj2
set_option maxRecDepth 100000 in
theorem pairs_false (w : World) :
    Calls Tryz.prog 46 #[.bool false] w fun e w' => ∃ R, e = .returned (PT R) ∧ NewRep w.heap.size w' R PairsF ∧ Below w.heap.size w w' := by
  go_enter Tryz.func46, Tryz.ntmps46
  go_wp2_with fail
  refine (new_replacer w _ w.heap.size 6 PairsF rfl (blk_new w _) (by decide) (bA (Below.refl _ w) _)).mono ?_
  rintro e w1 ⟨R, rfl, hN, hb⟩
  go_wp2_with fail
  go_ret
  exact ⟨R, rfl, hN, hb⟩
end Go.Proofs.YthabooeapfepnaaGreatDoor.Given
