import Derived.Test.YthabooeapfepnaaGreatDoorG4
import Derived.LoopN
import Derived.Deep.MidRow
namespace Go.Proofs.YthabooeapfepnaaGreatDoor.Given
open Go.RowKit Go.Proofs.YthabooeapfepnaaGreatDoorW.PrintWords Go.Shelf
set_option linter.unusedVariables false
set_option pp.maxSteps 1500
def genCells (tb : Value) (ts : Int) (f : Nat → Nat) : Array Value :=
  #[.string ⟨#[]⟩, .int .i64 0, .string ⟨#[]⟩, .pointer none, tb, .int .i64 ts] ++ (Array.range 256).map (fun i => Value.int .u8 (f i : Int))
theorem zero_gen : Tryz.zeroCells222 = genCells (.slice none 0 0) 0 (fun _ => 0) := by kernel_rfl
def upd (f : Nat → Nat) (b v : Nat) : Nat → Nat := fun j => if j = b then v else f j
theorem gen_size (tb : Value) (ts : Int) (f : Nat → Nat) : (genCells tb ts f).size = 262 := by simp [genCells]
theorem gen_at (tb : Value) (ts : Int) (f : Nat → Nat) (b : Nat) (hb : b < 256) : (genCells tb ts f)[6 + b]? = some (.int .u8 (f b : Int)) := by
  unfold genCells
  rw [Array.getElem?_append_right (by simp)]
  simp [hb]
theorem gen_put (tb : Value) (ts : Int) (f : Nat → Nat) (b v : Nat) (hb : b < 256) : (genCells tb ts f).setIfInBounds (6 + b) (.int .u8 (v : Int)) = genCells tb ts (upd f b v) := by
  apply Array.ext_getElem?
  intro i
  by_cases h : i = 6 + b
  · subst h
    rw [gen_at _ _ _ _ hb, Array.getElem?_setIfInBounds_self_of_lt (by rw [gen_size]; omega)]
    simp [upd]
  · rw [Array.getElem?_setIfInBounds_ne (Ne.symm h)]
    unfold genCells
    by_cases h6 : i < 6
    · rw [Array.getElem?_append_left (by simpa using h6), Array.getElem?_append_left (by simpa using h6)]
    · rw [Array.getElem?_append_right (by simpa using h6), Array.getElem?_append_right (by simpa using h6)]
      simp only [Array.getElem?_map]
      by_cases hlt : i - 6 < 256
      · simp [hlt, upd, show i - 6 ≠ b by omega]
      · simp [hlt]
theorem gen_ts (tb : Value) (ts ts' : Int) (f : Nat → Nat) : (genCells tb ts f).setIfInBounds 5 (.int .i64 ts') = genCells tb ts' f := by
  unfold genCells
  rw [Array.setIfInBounds_append_left (by simp)]
  rfl
theorem gen_tb (tb tb' : Value) (ts : Int) (f : Nat → Nat) : (genCells tb ts f).setIfInBounds 4 tb' = genCells tb' ts f := by
  unfold genCells
  rw [Array.setIfInBounds_append_left (by simp)]
  rfl
def M0 (j : Nat) : Nat := if j = 39 ∨ j = 94 ∨ j = 110 then 1 else 0
def arrO (f : Nat → Nat) : Array Value := (Array.range 256).map (fun i => Value.int .u8 (f i : Int))
theorem gen_range (w : World) (G : Nat) (tb : Value) (ts : Int) (f : Nat → Nat) (h : w.heap[G]? = some (.cells (genCells tb ts f) 222 (0, 0))) : w.rangeAt G 6 (arrO f).toList := by
  intro j v hj
  have hlt : j < 256 := by
    have := (List.getElem?_eq_some_iff.1 hj).1
    simpa [arrO] using this
  rw [bkC h, gen_at _ _ _ _ hlt, ← hj]
  simp [arrO, hlt]
theorem gen_lo (tb : Value) (ts : Int) (f : Nat → Nat) (i : Nat) (hi : i < 6) : (genCells tb ts f)[i]? = (#[.string ⟨#[]⟩, .int .i64 0, .string ⟨#[]⟩, .pointer none, tb, .int .i64 ts] : Array Value)[i]? := by
  unfold genCells
  rw [Array.getElem?_append_left (by simpa using hi)]
theorem index_gen (W : World) (f : Nat → Nat) (i : Nat) (hi : i < 256) : (Instr.index 140 (.agg (arrO f)) (.int .i64 (i : Int))).run Tryz.prog W = .ok (.int .u8 (f i : Int)) W := by
  have hp : (arrO f)[i]? = some (.int .u8 (f i : Int)) := by simp [arrO, hi]
  have hu : Tryz.prog.underlying 140 = some (.array 256 5) := by kernel_rfl
  have hu5 : Tryz.prog.underlying 5 = some (.int .u8) := by kernel_rfl
  simp [Instr.index, asIntOf, run_underlying hu, part, isAgg, run_underlying hu5, hp, hi]
def cnt (i : Nat) : Nat := (if 39 < i then 1 else 0) + (if 94 < i then 1 else 0) + (if 110 < i then 1 else 0)
def FM (j : Nat) : Nat := if M0 j = 0 then 3 else cnt j
def mix (i : Nat) (j : Nat) : Nat := if j < i then FM j else M0 j
theorem mix_zero : mix 0 = M0 := by funext j; simp [mix]
theorem mix_end_at (j : Nat) (h : j < 256) : mix 256 j = FM j := by simp [mix, h]
theorem gen_congr (tb : Value) (ts : Int) (f g : Nat → Nat) (h : ∀ j, j < 256 → f j = g j) : genCells tb ts f = genCells tb ts g := by
  unfold genCells
  congr 1
  apply Array.map_congr_left
  intro a ha
  rw [h a (by simpa using ha)]
theorem mix_end (tb : Value) (ts : Int) : genCells tb ts (mix 256) = genCells tb ts FM := gen_congr _ _ _ _ mix_end_at
theorem mix_succ (i : Nat) : upd (mix i) i (FM i) = mix (i + 1) := by
  funext j
  unfold upd mix
  by_cases h : j = i
  · subst h; simp
  · by_cases h2 : j < i
    · simp [h, h2, show j < i + 1 by omega]
    · simp [h, h2, show ¬ j < i + 1 by omega]
theorem cnt_succ (i : Nat) : cnt (i + 1) = cnt i + M0 i := by unfold cnt M0; grind
abbrev SN : Value := .slice none 0 0
abbrev PN : Value := .pointer none
abbrev PT (n : Nat) : Value := .pointer (some ⟨n, 0, none⟩)
abbrev S3 (n : Nat) : Value := .slice (some ⟨n, 0, none⟩) 3 3
def GenIs (w : World) (G T : Nat) : Prop := w.heap[G]? = some (.cells (genCells (S3 T) 3 FM) 222 (0, 0))
def TabIs (w : World) (T : Nat) (a0 a1 a2 : Value) : Prop := w.heap[T]? = some (.cells #[a0, a1, a2] 217 (0, 0))
theorem Kp.gen {l : List Nat} {w w1 : World} {G T : Nat} (h : Kp l w w1) (hg : GenIs w G T) (hl : G ∉ l) : GenIs w1 G T := h.at_ hg hl
theorem GenIs.ne_tab {w : World} {G T T' : Nat} {a0 a1 a2 : Value} (h : GenIs w G T) (k : TabIs w T' a0 a1 a2) : G ≠ T' := by
  rintro rfl
  unfold GenIs at h
  unfold TabIs at k
  rw [h] at k
  injection k with k
  injection k with _ k
  exact absurd k (by decide)
theorem GenIs.ne_node {w : World} {G T t : Nat} {val : ByteArray} {prio : Int} {px : ByteArray} {nx tb : Value} (h : GenIs w G T) (k : NodeIs w t val prio px nx tb) : G ≠ t := by
  rintro rfl
  unfold GenIs at h
  unfold NodeIs at k
  rw [h] at k
  injection k with k
  injection k with _ k
  exact absurd k (by decide)
theorem TabIs.ne_node {w : World} {T t : Nat} {a0 a1 a2 : Value} {val : ByteArray} {prio : Int} {px : ByteArray} {nx tb : Value} (h : TabIs w T a0 a1 a2) (k : NodeIs w t val prio px nx tb) : T ≠ t := by
  rintro rfl
  unfold TabIs at h
  unfold NodeIs at k
  rw [h] at k
  injection k with k
  injection k with _ k
  exact absurd k (by decide)
theorem add1 (G T : Nat) (w : World) (hg : GenIs w G T) (ht : TabIs w T PN PN PN) :
    Calls Tryz.prog 168 #[PT G, .string ⟨#[94, 110]⟩, .string ⟨#[10]⟩, .int .i64 6, PT G] w fun e w' => e = .returned (.tuple #[])
      ∧ ∃ N C, TabIs w' T PN (PT N) PN ∧ NodeIs w' N ⟨#[]⟩ 0 ⟨#[110]⟩ (PT C) SN ∧ NodeIs w' C ⟨#[10]⟩ 6 ⟨#[]⟩ PN SN ∧ N ≠ C ∧ N ∉ [G, T] ∧ C ∉ [G, T] ∧ w.heap.size ≤ N ∧ Kp [T] w w' := by
  have hgT := hg.ne_tab ht
  have hlg := bkL hg
  have hlt := bkL ht
  refine add_tab_new G G T 94 1 ⟨#[94, 110]⟩ ⟨#[10]⟩ 6 w _ (by decide) (by omega) (by omega) hgT (by kernel_rfl) rfl (by omega) (by omega) ((bkC hg 2).trans (gen_lo _ _ _ 2 (by omega))) ((bkC hg 4).trans (gen_lo _ _ _ 4 (by omega)))
    ((bkC hg (6 + 94)).trans (gen_at _ _ _ 94 (by omega))) PN PN PN ht rfl ?_ (fun e W h => h.1)
  intro W hn hk htW
  refine (add_fresh w.heap.size 110 ⟨#[10]⟩ 6 (PT G) W hn).mono ?_
  rintro e w' ⟨rfl, hn1, hn2, hk2⟩
  have hle := hk.size
  have hlw := bkL hn
  refine ⟨rfl, w.heap.size, W.heap.size, hk2.at_ htW (by simp; omega), hn1, hn2, by omega, by simp; omega, by simp; omega, Nat.le_refl _, Kp.trans hk hk2 (fun i hi => .inr ?_)⟩
  rw [List.mem_singleton.1 hi]
  exact Nat.le_refl _
theorem add2 (G T N C : Nat) (w : World) (hg : GenIs w G T) (ht : TabIs w T PN (PT N) PN) (hn : NodeIs w N ⟨#[]⟩ 0 ⟨#[110]⟩ (PT C) SN) (hc : NodeIs w C ⟨#[10]⟩ 6 ⟨#[]⟩ PN SN) (hNC : N ≠ C) :
    Calls Tryz.prog 168 #[PT G, .string ⟨#[94, 94]⟩, .string ⟨#[94]⟩, .int .i64 4, PT G] w fun e w' => e = .returned (.tuple #[])
      ∧ ∃ B T1, GenIs w' G T ∧ TabIs w' T PN (PT N) PN ∧ NodeIs w' N ⟨#[]⟩ 0 ⟨#[]⟩ PN (S3 T1) ∧ NodeIs w' C ⟨#[10]⟩ 6 ⟨#[]⟩ PN SN ∧ NodeIs w' B ⟨#[94]⟩ 4 ⟨#[]⟩ PN SN ∧ TabIs w' T1 PN (PT B) (PT C) ∧ T1 ≠ T ∧ w.heap.size ≤ T1 ∧ Kp [N] w w' := by
  have hgT := hg.ne_tab ht
  have hgN := hg.ne_node hn
  have htN := ht.ne_node hn
  have hlg := bkL hg
  have hlt := bkL ht
  refine add_tab_old G G T N 94 1 ⟨#[94, 94]⟩ ⟨#[94]⟩ 4 w _ (by decide) (by kernel_rfl) rfl (by omega) (by omega) ((bkC hg 2).trans (gen_lo _ _ _ 2 (by omega))) ((bkC hg 4).trans (gen_lo _ _ _ 4 (by omega)))
    ((bkC hg (6 + 94)).trans (gen_at _ _ _ 94 (by omega))) ((bkC ht 1).trans rfl) ?_ (fun e W h => h.1)
  rintro W ⟨n, rfl⟩
  refine (add_split N G C ⟨#[94]⟩ 4 (w.drewN n) hn ((bkC hg 5).trans (gen_lo _ _ _ 5 (by omega))) ((bkC hg (6 + 94)).trans (gen_at _ _ _ 94 (by omega))) ((bkC hg (6 + 110)).trans (gen_at _ _ _ 110 (by omega))) hlg hgN).mono ?_
  rintro e w' ⟨rfl, h1, h2, h3, hk⟩
  exact ⟨rfl, _, _, hk.at_ hg (by simp [hgN]), hk.at_ ht (by simp [htN]), h1, hk.at_ hc (by simp [Ne.symm hNC]), h2, h3, by show w.heap.size + 1 ≠ T; omega, by show w.heap.size ≤ w.heap.size + 1; omega, ⟨hk.os, hk.tape, hk.output, hk.size, hk.block⟩⟩
theorem add3 (G T N C B T1 : Nat) (w : World) (hg : GenIs w G T) (ht : TabIs w T PN (PT N) PN) (hn : NodeIs w N ⟨#[]⟩ 0 ⟨#[]⟩ PN (S3 T1)) (hc : NodeIs w C ⟨#[10]⟩ 6 ⟨#[]⟩ PN SN) (hb : NodeIs w B ⟨#[94]⟩ 4 ⟨#[]⟩ PN SN) (ht1 : TabIs w T1 PN (PT B) (PT C)) (hT : T1 ≠ T) :
    Calls Tryz.prog 168 #[PT G, .string ⟨#[94, 39]⟩, .string ⟨#[34]⟩, .int .i64 2, PT G] w fun e w' => e = .returned (.tuple #[])
      ∧ ∃ A, GenIs w' G T ∧ TabIs w' T PN (PT N) PN ∧ NodeIs w' N ⟨#[]⟩ 0 ⟨#[]⟩ PN (S3 T1) ∧ NodeIs w' C ⟨#[10]⟩ 6 ⟨#[]⟩ PN SN ∧ NodeIs w' B ⟨#[94]⟩ 4 ⟨#[]⟩ PN SN ∧ NodeIs w' A ⟨#[34]⟩ 2 ⟨#[]⟩ PN SN ∧ TabIs w' T1 (PT A) (PT B) (PT C) ∧ Kp [T1] w w' := by
  have hgT := hg.ne_tab ht
  have hgT1 := hg.ne_tab ht1
  have hgN := hg.ne_node hn
  have htN := ht.ne_node hn
  have ht1N := ht1.ne_node hn
  have ht1C := ht1.ne_node hc
  have ht1B := ht1.ne_node hb
  have hlg := bkL hg
  have hlt := bkL ht
  have hln := bkL hn
  have hlc := bkL hc
  have hlb := bkL hb
  have hlt1 := bkL ht1
  refine add_tab_old G G T N 94 1 ⟨#[94, 39]⟩ ⟨#[34]⟩ 2 w _ (by decide) (by kernel_rfl) rfl (by omega) (by omega) ((bkC hg 2).trans (gen_lo _ _ _ 2 (by omega))) ((bkC hg 4).trans (gen_lo _ _ _ 4 (by omega)))
    ((bkC hg (6 + 94)).trans (gen_at _ _ _ 94 (by omega))) ((bkC ht 1).trans rfl) ?_ (fun e W h => h.1)
  rintro W ⟨n, rfl⟩
  refine add_tab_new N G T1 39 0 ⟨#[39]⟩ ⟨#[34]⟩ 2 (w.drewN n) _ (by decide) (by show N ≠ w.heap.size; omega) (by show G ≠ w.heap.size; omega) (Ne.symm ht1N) (by kernel_rfl) rfl (by omega) (by omega) ((bkC hn 2).trans rfl) ((bkC hn 4).trans rfl)
    ((bkC hg (6 + 39)).trans (gen_at _ _ _ 39 (by omega))) PN (PT B) (PT C) ht1 rfl ?_ (fun e W h => h.1)
  intro W hA hk htW
  refine (add_leaf w.heap.size ⟨#[34]⟩ 2 (PT G) W hA).mono ?_
  rintro e w' ⟨rfl, hA2, hk2⟩
  have hle : w.heap.size ≤ W.heap.size := hk.size
  have hK : Kp [T1] w w' := by
    have hK : Kp [T1] (w.drewN n) w' := Kp.trans hk hk2 (fun i hi => .inr (by rw [List.mem_singleton.1 hi]; exact Nat.le_refl _))
    exact ⟨hK.os, hK.tape, hK.output, hK.size, hK.block⟩
  exact ⟨rfl, w.heap.size, hK.gen hg (by simp [hgT1]), hK.at_ ht (by simp [Ne.symm hT]), hK.at_ hn (by simp [Ne.symm ht1N]), hK.at_ hc (by simp [Ne.symm ht1C]), hK.at_ hb (by simp [Ne.symm ht1B]), hA2, hk2.at_ htW (by simp; omega), hK⟩
def TrieAt (w : World) (G : Nat) : Prop :=
  ∃ T N T1 A B C, GenIs w G T ∧ TabIs w T PN (PT N) PN ∧ NodeIs w N ⟨#[]⟩ 0 ⟨#[]⟩ PN (S3 T1) ∧ TabIs w T1 (PT A) (PT B) (PT C)
    ∧ NodeIs w A ⟨#[34]⟩ 2 ⟨#[]⟩ PN SN ∧ NodeIs w B ⟨#[94]⟩ 4 ⟨#[]⟩ PN SN ∧ NodeIs w C ⟨#[10]⟩ 6 ⟨#[]⟩ PN SN
theorem TrieAt.of_block {w w' : World} {G : Nat} (h : TrieAt w G) (hb : ∀ (i : Nat) (o : Obj), w.heap[i]? = some o → w'.heap[i]? = some o) : TrieAt w' G := by
  obtain ⟨T, N, T1, A, B, C, h1, h2, h3, h4, h5, h6, h7⟩ := h
  exact ⟨T, N, T1, A, B, C, hb _ _ h1, hb _ _ h2, hb _ _ h3, hb _ _ h4, hb _ _ h5, hb _ _ h6, hb _ _ h7⟩
theorem TrieAt.below {w w' : World} {G : Nat} (h : TrieAt w G) (hb : Below w.heap.size w w') : TrieAt w' G := h.of_block fun i o hi => bkB hi hb
end Go.Proofs.YthabooeapfepnaaGreatDoor.Given
