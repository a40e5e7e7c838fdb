import Derived.Test.YthabooeapfepnaaGreatDoorG11
namespace Go.Proofs.YthabooeapfepnaaGreatDoor.Given
open Go.RowKit Go.Proofs.YthabooeapfepnaaGreatDoorW.PrintWords Go.Shelf
set_option linter.unusedVariables false
set_option pp.maxSteps 1500
theorem Kp.at_type {R i : Nat} {w w' : World} {cs cs0 : Array Value} {t t0 : TypeId} (hk : Kp [R] w w') (hR : w.heap[R]? = some (.cells cs0 t0 (0, 0))) (h : w.heap[i]? = some (.cells cs t (0, 0))) (ht : t ≠ t0) : w'.heap[i]? = some (.cells cs t (0, 0)) := by
  refine hk.at_ h ?_
  intro hi
  rw [List.mem_singleton] at hi
  subst hi
  rw [hR] at h
  injection h with h
  injection h with _ h
  exact ht h.symm
theorem TrieAt.kp {R G : Nat} {w w' : World} {cs0 : Array Value} (h : TrieAt w G) (hk : Kp [R] w w') (hR : w.heap[R]? = some (.cells cs0 117 (0, 0))) : TrieAt w' G := by
  obtain ⟨T, N, T1, A, B, C, h1, h2, h3, h4, h5, h6, h7⟩ := h
  exact ⟨T, N, T1, A, B, C, hk.at_type hR h1 (by decide), hk.at_type hR h2 (by decide), hk.at_type hR h3 (by decide), hk.at_type hR h4 (by decide), hk.at_type hR h5 (by decide), hk.at_type hR h6 (by decide), hk.at_type hR h7 (by decide)⟩
theorem once_generic (base R : Nat) (w : World) (h : NewRep base w R PairsF) :
    Calls Tryz.prog 87 #[PT R, .func (.func 88) #[PT R] #[]] w fun e w' => e = .returned (.tuple #[]) ∧ ∃ G s2 o, TrieAt w' G ∧ RepIs w' R 1 0 s2 (.iface 190 (PT G)) o ∧ Kp [R] w w' := by
  obtain ⟨hb, O, c, s2, cs, hR, hO, hcs⟩ := h
  have hOR : O ≠ R := by
    rintro rfl
    unfold RepIs at hR
    rw [hO] at hR
    injection hR with hR
    injection hR with _ hR
    exact absurd hR (by decide)
  refine (once_do R s2 .nilIface _ w (fun i o W' => ∃ G, i = .iface 190 (PT G) ∧ TrieAt W' G ∧ RepIs W' R 0 1 s2 i o) hR ?_).mono ?_
  · intro W hk hRW
    have hOW : W.heap[O]? = some (.cells cs 9 (0, 0)) := hk.at_ hO (by simp [hOR])
    have hg := make_generic O c 9 W cs hOW hcs
    have hbg := build_generic R O c 0 1 s2 .nilIface W hRW ((bkC hOW 0).trans (hcs 0 _ rfl)) (PT W.heap.size) (fun W' => TrieAt W' W.heap.size ∧ Kp [] W W') hg
    refine (build_once R 190 (PT W.heap.size) s2 .nilIface _ W (fun W' => TrieAt W' W.heap.size) hRW (hbg.mono fun e W' ⟨h1, h2, h3⟩ => ⟨h1, h2, h3⟩)).mono ?_
    rintro e W' ⟨rfl, ⟨i, o, hR', rfl, W1, hT, hRW1, hk1⟩, hk2⟩
    exact ⟨rfl, ⟨_, o, hR', _, rfl, hT.kp hk1 hRW1, hR'⟩, hk2⟩
  · rintro e w' ⟨rfl, i1, o1, W', ⟨G, rfl, hT, hR1⟩, hR2, hk1, hk2⟩
    exact ⟨rfl, G, s2, o1, hT.kp hk1 hR1, hR2, hk2⟩
theorem nil_ahead_re (G : Nat) (w : World) : (nilAhead 371 190 (PT G) "Replace").run Tryz.prog w = .ok (some false) w := by kernel_rfl
theorem method_re (G : Nat) (w : World) : (method 371 190 (PT G) "Replace").run Tryz.prog w = .ok (213, PT G) w := by kernel_rfl
set_option maxRecDepth 100000 in
theorem replace_generic (R : Nat) (s : ByteArray) (w0 w : World) (hs : s.size ≤ 4000000000) (h : NewRep w0.heap.size w R PairsF) (hb : Below w0.heap.size w0 w) :
    Calls Tryz.prog 47 #[PT R, .string s] w fun e w' => e = .returned (.string ⟨(meantL s.data.toList).toArray⟩) ∧ Below w0.heap.size w0 w' := by
  have co := once_generic w0.heap.size R w h
  have hme := method_re
  have hna := nil_ahead_re
  have HB := Lib.hid (And.intro h.1 hb)
  clear h hb
  go_enter Tryz.func47, Tryz.ntmps47
  go_wp2_with fail
  refine co.mono ?_
  rintro e w1 ⟨rfl, G, s2, o, hT, hR, hk⟩
  have x3 : w1.cell? ⟨R, 3, none⟩ = some (.iface 190 (PT G)) := (bkC hR 3).trans rfl
  have cr := generic_replace G s w1 hs hT
  have hb1 : Below w0.heap.size w0 w1 := HB.out.2.trans (hk.below (fun i hi => by rw [List.mem_singleton.1 hi]; exact HB.out.1) HB.out.2.size)
  have H1 := Lib.hid hb1
  clear hT hR hk co hb1
  go_wp2_with fail
  refine cr.mono ?_
  rintro e w2 ⟨rfl, hb2⟩
  go_wp2_with fail
  go_ret
  exact ⟨rfl, bT H1.out (hb2.mono H1.out.size |> fun _ => hb2)⟩
def line_meant.f (a0 : ByteArray) : Option ByteArray := if a0.size ≤ 4000000000 then some ⟨(meantL a0.data.toList).toArray⟩ else none
theorem line_meant.calls (a0 : ByteArray) (r : ByteArray) (w : World) (h : line_meant.f a0 = some r) :
    Calls Tryz.prog 81 #[.string a0] w fun e w' => e = .returned (.string r) ∧ Below w.heap.size w w' := by
  unfold line_meant.f at h
  split at h
  · rename_i hs
    obtain rfl := Option.some.inj h
    have cp := pairs_false w
    have cr := fun (w1 : World) (R : Nat) h1 h2 => replace_generic R a0 w w1 hs h1 h2
    have HC := Lib.hid cr
    clear cr h
    go_enter Tryz.func81, Tryz.ntmps81
    go_wp2_with fail
    refine cp.mono ?_
    rintro e w1 ⟨R, rfl, hN, hb⟩
    have cr := HC.out w1 R hN hb
    clear HC cp hN hb
    go_wp2_with fail
    refine cr.mono ?_
    rintro e w2 ⟨rfl, hb2⟩
    go_wp2_with fail
    go_ret
    exact ⟨rfl, hb2⟩
  · cases h
end Go.Proofs.YthabooeapfepnaaGreatDoor.Given
