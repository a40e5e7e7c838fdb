import Derived.Test.YthabooeapfepnaaGreatDoorG3
import Derived.Deep.RegionWith
namespace Go.Proofs.YthabooeapfepnaaGreatDoor.Given
open Go.RowKit Go.Proofs.YthabooeapfepnaaGreatDoorW.PrintWords Go.Shelf
set_option linter.unusedVariables false
set_option pp.maxSteps 1500
set_option maxHeartbeats 1000000 in
set_option maxRecDepth 100000 in
theorem add_tab_new (t G T : Nat) (b m : Nat) (key val : ByteArray) (prio : Int) (w : World) (Q : Ending → World → Prop) (hkey : 0 < key.size) (hts : t ≠ w.heap.size) (hGs : G ≠ w.heap.size) (htT : t ≠ T) (hkz : key.toList.isEmpty = false)
    (hb : (key[0]'(by omega)).toNat = b) (hb256 : b < 256) (hm : m < 3) (c2 : w.cell? ⟨t, 2, none⟩ = some (.string ⟨#[]⟩)) (c4 : w.cell? ⟨t, 4, none⟩ = some (.slice (some ⟨T, 0, none⟩) 3 3))
    (gm : w.cell? ⟨G, 6 + b, none⟩ = some (.int .u8 (m : Int))) (a0 : Value) (a1 : Value) (a2 : Value) (hT : w.heap[T]? = some (.cells #[a0, a1, a2] 217 (0, 0))) (ham : #[a0, a1, a2][m]? = some (.pointer none))
    (hC : ∀ W, NodeIs W w.heap.size ⟨#[]⟩ 0 ⟨#[]⟩ (.pointer none) (.slice none 0 0) → Kp [T] w W → W.heap[T]? = some (.cells ((#[a0, a1, a2] : Array Value).setIfInBounds m (.pointer (some ⟨w.heap.size, 0, none⟩))) 217 (0, 0)) →
      Calls Tryz.prog 168 #[.pointer (some ⟨w.heap.size, 0, none⟩), .string (key.extract 1 key.size), .string val, .int .i64 prio, .pointer (some ⟨G, 0, none⟩)] W Q) (hQ : ∀ e W, Q e W → e = .returned (.tuple #[])) :
    Calls Tryz.prog 168 #[.pointer (some ⟨t, 0, none⟩), .string key, .string val, .int .i64 prio, .pointer (some ⟨G, 0, none⟩)] w Q := by
  have tm : w.cell? ⟨T, m, none⟩ = some (.pointer none) := (bkC hT m).trans ham
  have uT := bkF hT m
  have hTs : T ≠ w.heap.size := by have := bkL hT; omega
  go_enter Tryz.func168, Tryz.ntmps168
  go_wp2_with fail
  go_quiet (fail)
  obtain ⟨w2, hw2⟩ : ∃ w2, w2 = w.drewN nq := ⟨_, rfl⟩
  rw [← hw2]
  have hz2 : w2.heap.size = w.heap.size := by rw [hw2]; rfl
  have hc2 : ∀ p, w2.cell? p = w.cell? p := by intro p; rw [hw2]; rfl
  have hf2 : ∀ p, w2.frozen? p = w.frozen? p := by intro p; rw [hw2]; rfl
  rw [← hc2] at c2 c4 gm tm
  rw [← hf2] at uT
  rw [← hz2] at hTs hts hGs
  have HK : Hid (w2.heap.size = w.heap.size ∧ w2 = w.drewN nq ∧ (∀ p, w2.cell? p = w.cell? p) ∧ ∀ p, w2.frozen? p = w.frozen? p) := Lib.hid ⟨hz2, hw2, hc2, hf2⟩
  have HC := Lib.hid (And.intro hC hT)
  have hT2 : w2.heap[T]? = some (.cells #[a0, a1, a2] 217 (0, 0)) := by rw [hw2]; exact hT
  have hTA := bkA hT2 (.cells #[.string ⟨#[]⟩, .int .i64 0, .string ⟨#[]⟩, .pointer none, .slice none 0 0] 220 (0, 0))
  have tmA : (w2.alloc (.cells #[.string ⟨#[]⟩, .int .i64 0, .string ⟨#[]⟩, .pointer none, .slice none 0 0] 220 (0, 0))).cell? ⟨T, m, none⟩ = some (.pointer none) := (bkC hTA m).trans ham
  have uTA := bkF hTA m
  clear hw2 hc2 hf2 hz2 hC hT hTA hT2
  go_wp2_with fail
  obtain ⟨w3, hw3⟩ : ∃ w3, w3 = (w2.alloc (.cells #[.string ⟨#[]⟩, .int .i64 0, .string ⟨#[]⟩, .pointer none, .slice none 0 0] 220 (0, 0))).setCell ⟨T, m, none⟩ (.pointer (some ⟨w2.heap.size, 0, none⟩)) := ⟨_, rfl⟩
  rw [← hw3]
  obtain ⟨hC, hT⟩ := HC.out
  have hT2 : w2.heap[T]? = some (.cells #[a0, a1, a2] 217 (0, 0)) := by rw [HK.out.2.1]; exact hT
  have hk3 : Kp [T] w2 w3 := by
    rw [hw3]
    exact ((Kp.refl [T] w2).alloc _).setCell _ (.inl (by simp)) _
  have n3 : NodeIs w3 w2.heap.size ⟨#[]⟩ 0 ⟨#[]⟩ (.pointer none) (.slice none 0 0) := by
    rw [hw3]
    exact (Below.heap_setCell _ _ _ _ (Ne.symm hTs)).trans (blk_new' rfl _)
  have r3 : w3.heap[T]? = some (.cells ((#[a0, a1, a2] : Array Value).setIfInBounds m (.pointer (some ⟨w2.heap.size, 0, none⟩))) 217 (0, 0)) := by
    rw [hw3]
    exact bkP (bkA hT2 _) m _ rfl
  have c4' := hk3.cell c4 (by simp [htT])
  have tm' : w3.cell? ⟨T, m, none⟩ = some (.pointer (some ⟨w2.heap.size, 0, none⟩)) := (bkC r3 m).trans (by simp [hm])
  have hsz := HK.out.1
  have hC' : Calls Tryz.prog 168 #[.pointer (some ⟨w2.heap.size, 0, none⟩), .string (key.extract 1 key.size), .string val, .int .i64 prio, .pointer (some ⟨G, 0, none⟩)] w3.drew Q := by
    rw [hsz]
    have hkk : Kp [T] w w2 := by rw [HK.out.2.1]; exact (Kp.refl [T] w).drewN _
    refine hC _ ?_ ((Kp.trans hkk hk3 (fun i hi => .inl hi)).drew) ?_
    · rw [← hsz]; exact n3
    · rw [← hsz]; exact r3
  clear hw3 hC hT hT2 hk3 n3 r3 c2 c4 gm tm uT tmA uTA HC hsz
  have hmz : (m : Int) < 3 := by omega
  have hkz1 : (1 : Int) ≤ key.size := by omega
  go_still_tail 12, (by kernel_rfl)
  change wpList _ _ _ _ _ w3.drew
  obtain ⟨wz, hwz⟩ : ∃ wz, wz = w3.drew := ⟨_, rfl⟩
  rw [← hwz]
  rw [← hwz] at hC'
  clear hwz
  go_wp2_with fail
  refine hC'.mono ?_
  intro e w' hQe
  have he := hQ e w' hQe
  subst he
  go_wp2
  exact bodyPost_end (results_none rfl _ _ _) rfl hQe
set_option maxHeartbeats 1000000 in
set_option maxRecDepth 100000 in
theorem add_tab_old (t G T N : Nat) (b m : Nat) (key val : ByteArray) (prio : Int) (w : World) (Q : Ending → World → Prop) (hkey : 0 < key.size) (hkz : key.toList.isEmpty = false)
    (hb : (key[0]'(by omega)).toNat = b) (hb256 : b < 256) (hm : m < 3) (c2 : w.cell? ⟨t, 2, none⟩ = some (.string ⟨#[]⟩)) (c4 : w.cell? ⟨t, 4, none⟩ = some (.slice (some ⟨T, 0, none⟩) 3 3))
    (gm : w.cell? ⟨G, 6 + b, none⟩ = some (.int .u8 (m : Int))) (tm : w.cell? ⟨T, m, none⟩ = some (.pointer (some ⟨N, 0, none⟩)))
    (hC : ∀ W, (∃ n, W = w.drewN n) →
      Calls Tryz.prog 168 #[.pointer (some ⟨N, 0, none⟩), .string (key.extract 1 key.size), .string val, .int .i64 prio, .pointer (some ⟨G, 0, none⟩)] W Q) (hQ : ∀ e W, Q e W → e = .returned (.tuple #[])) :
    Calls Tryz.prog 168 #[.pointer (some ⟨t, 0, none⟩), .string key, .string val, .int .i64 prio, .pointer (some ⟨G, 0, none⟩)] w Q := by
  go_enter Tryz.func168, Tryz.ntmps168
  go_wp2_with fail
  go_quiet (fail)
  obtain ⟨w2, hw2⟩ : ∃ w2, w2 = w.drewN nq := ⟨_, rfl⟩
  rw [← hw2]
  have hc2 : ∀ p, w2.cell? p = w.cell? p := by intro p; rw [hw2]; rfl
  rw [← hc2] at c2 c4 gm tm
  have hC' := hC w2.drew ⟨nq + 1, by rw [hw2]; rfl⟩
  clear hw2 hc2 hC
  go_wp2_with fail
  have hmz : (m : Int) < 3 := by omega
  have hkz1 : (1 : Int) ≤ key.size := by omega
  go_still_tail 12, (by kernel_rfl)
  change wpList _ _ _ _ _ w2.drew
  obtain ⟨wz, hwz⟩ : ∃ wz, wz = w2.drew := ⟨_, rfl⟩
  rw [← hwz]
  rw [← hwz] at hC'
  clear hwz
  go_wp2_with fail
  refine hC'.mono ?_
  intro e w' hQe
  have he := hQ e w' hQe
  subst he
  go_wp2
  exact bodyPost_end (results_none rfl _ _ _) rfl hQe
end Go.Proofs.YthabooeapfepnaaGreatDoor.Given
