import Derived.Test.YthabooeapfepnaaGreatDoorG14
namespace Go.Proofs.YthabooeapfepnaaGreatDoor.Given
open Go.RowKit Go.Proofs.YthabooeapfepnaaGreatDoorW.PrintWords Go.Shelf
set_option linter.unusedVariables false
set_option pp.maxSteps 1500
theorem rowAt.kp {R : Nat} {w w' : World} {v : Value} {b0 b1 : Int} {d s : Int} {s2 i o : Value} (h : rowAt w v b0 b1) (hk : Kp [R] w w') (hR : RepIs w R d s s2 i o) : rowAt w' v b0 b1 := by
  obtain ⟨r, c, e, h0, h1⟩ := h
  have hr : r ≠ R := by
    rintro rfl
    have := (bkC hR 0).symm.trans h0
    simp at this
  exact ⟨r, c, e, hk.cell h0 (by simp [hr]), hk.cell h1 (by simp [hr])⟩
theorem BsIs.kp {R M : Nat} {w w' : World} {d s : Int} {s2 i o : Value} (h : BsIs w M) (hk : Kp [R] w w') (hR : RepIs w R d s s2 i o) : BsIs w' M := by
  obtain ⟨T, f, hm, ht, hf, r10, r94, r34⟩ := h
  exact ⟨T, f, hk.at_type hR hm (by decide), hk.at_type hR ht (by decide), hf, r10.kp hk hR, r94.kp hk hR, r34.kp hk hR⟩
theorem once_bytes (base R : Nat) (w : World) (h : NewRep base w R PairsB) :
    Calls Tryz.prog 87 #[PT R, .func (.func 88) #[PT R] #[]] w fun e w' => e = .returned (.tuple #[]) ∧ ∃ M s2 o, BsIs w' M ∧ RepIs w' R 1 0 s2 (.iface 197 (PT M)) o ∧ Kp [R] w w' := by
  obtain ⟨hb, O, c, s2, cs, hR, hO, hcs⟩ := h
  have hOR : O ≠ R := by
    rintro rfl
    unfold RepIs at hR
    rw [hO] at hR
    injection hR with hR
    injection hR with _ hR
    exact absurd hR (by decide)
  refine (once_do R s2 .nilIface _ w (fun i o W' => ∃ M, i = .iface 197 (PT M) ∧ BsIs W' M ∧ RepIs W' R 0 1 s2 i o) hR ?_).mono ?_
  · intro W hk hRW
    have hOW : W.heap[O]? = some (.cells cs 9 (0, 0)) := hk.at_ hO (by simp [hOR])
    have hbg := build_bytes R O c 0 1 s2 .nilIface W hRW cs hOW hcs
    refine (build_once R 197 (PT (W.heap.size + 1)) s2 .nilIface _ W (fun W' => BsIs W' (W.heap.size + 1)) hRW (hbg.mono ?_)).mono ?_
    · rintro e W' ⟨M, rfl, rfl, h1, h2⟩
      exact ⟨rfl, h1, h2⟩
    · rintro e W' ⟨rfl, ⟨i, o, hR', rfl, W1, hT, hRW1, hk1⟩, hk2⟩
      exact ⟨rfl, ⟨_, o, hR', _, rfl, hT.kp hk1 hRW1, hR'⟩, hk2⟩
  · rintro e w' ⟨rfl, i1, o1, W', ⟨M, rfl, hT, hR1⟩, hR2, hk1, hk2⟩
    exact ⟨rfl, M, s2, o1, hT.kp hk1 hR1, hR2, hk2⟩
theorem nil_ahead_rb (G : Nat) (w : World) : (nilAhead 371 197 (PT G) "Replace").run Tryz.prog w = .ok (some false) w := by kernel_rfl
theorem method_rb (G : Nat) (w : World) : (method 371 197 (PT G) "Replace").run Tryz.prog w = .ok (219, PT G) w := by kernel_rfl
set_option maxRecDepth 100000 in
theorem replace_bytes (R : Nat) (s : ByteArray) (w0 w : World) (hs : s.size ≤ 4000000000) (h : NewRep w0.heap.size w R PairsB) (hb : Below w0.heap.size w0 w) :
    Calls Tryz.prog 47 #[PT R, .string s] w fun e w' => e = .returned (.string ⟨(quoteL s.data.toList).toArray⟩) ∧ Below w0.heap.size w0 w' := by
  have co := once_bytes w0.heap.size R w h
  have hme := method_rb
  have hna := nil_ahead_rb
  have HB := Lib.hid (And.intro h.1 hb)
  clear h hb
  go_enter Tryz.func47, Tryz.ntmps47
  go_wp2_with fail
  refine co.mono ?_
  rintro e w1 ⟨rfl, M, s2, o, hT, hR, hk⟩
  have x3 : w1.cell? ⟨R, 3, none⟩ = some (.iface 197 (PT M)) := (bkC hR 3).trans rfl
  have cr := bs_replace M s w1 hs hT
  have hb1 : Below w0.heap.size w0 w1 := HB.out.2.trans (hk.below (fun i hi => by rw [List.mem_singleton.1 hi]; exact HB.out.1) HB.out.2.size)
  have H1 := Lib.hid hb1
  clear hT hR hk co hb1
  go_wp2_with fail
  refine cr.mono ?_
  rintro e w2 ⟨rfl, hb2⟩
  go_wp2_with fail
  go_ret
  exact ⟨rfl, bT H1.out hb2⟩
end Go.Proofs.YthabooeapfepnaaGreatDoor.Given
