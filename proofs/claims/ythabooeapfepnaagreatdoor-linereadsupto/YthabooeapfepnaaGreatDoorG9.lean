import Derived.Test.YthabooeapfepnaaGreatDoorG8
import Derived.Lib.AppendStr
import Derived.OwnWalk
import Derived.Stop.Asserts
namespace Go.Proofs.YthabooeapfepnaaGreatDoor.Given
open Go.RowKit Go.Proofs.YthabooeapfepnaaGreatDoorW.PrintWords Go.Shelf
set_option linter.unusedVariables false
set_option pp.maxSteps 1500
def BufIs (base : Nat) (w : World) (B : Nat) (xs : List Int) : Prop :=
  base ≤ B ∧ base ≤ w.heap.size ∧ ∃ v, w.heap[B]? = some (.cells #[v] 258 (0, 0)) ∧ w.ownsRow base 5 1 v xs.length (nums .u8 xs)
theorem own_ne {w : World} {base n g : Nat} {t : TypeId} {cs : Array Value} {v : Value} {xs : List Value} (h : w.ownsRow base 5 1 v n xs) (hg : w.heap[g]? = some (.cells cs t (0, 0))) (ht : t ≠ 5) : some g ≠ v.ownBlock := by
  rcases h.2 with ⟨rfl, _⟩ | ⟨k, cap, cur, rfl, _, hk, _⟩
  · simp [Value.ownBlock]
  · intro hgk
    simp only [Value.ownBlock, Option.some.injEq] at hgk
    subst hgk
    rw [hk] at hg
    injection hg with hg
    injection hg with _ hg
    exact ht hg.symm
theorem own_slice {w : World} {base n e sz : Nat} {v : Value} {xs : List Value} (h : w.ownsRow base e sz v n xs) : ∃ b m c, v = .slice b m c := by
  rcases h.2 with ⟨rfl, _⟩ | ⟨k, cap, cur, rfl, _⟩ <;> exact ⟨_, _, _, rfl⟩
theorem own_set {w : World} {base n g i : Nat} {t : TypeId} {cs : Array Value} {v u : Value} {xs : List Value} (h : w.ownsRow base 5 1 v n xs) (hg : w.heap[g]? = some (.cells cs t (0, 0))) (ht : t ≠ 5) : (w.setCell ⟨g, i, none⟩ u).ownsRow base 5 1 v n xs := by
  refine ⟨h.1, ?_⟩
  rcases h.2 with h2 | ⟨k, cap, cur, rfl, hb, hk, h3⟩
  · exact .inl h2
  · refine .inr ⟨k, cap, cur, rfl, hb, (Below.heap_setCell _ _ _ _ ?_).trans hk, h3⟩
    rintro rfl
    rw [hk] at hg
    injection hg with hg
    injection hg with _ hg
    exact ht hg.symm
set_option maxRecDepth 100000 in
theorem buf_write (w0 w : World) (B : Nat) (xs : List Int) (y : ByteArray) (hB : BufIs w0.heap.size w B xs) (hb : Below w0.heap.size w0 w) (hl : xs.length + y.size ≤ 140737488355328) :
    Calls Tryz.prog 226 #[PT B, .string y] w fun e w' => e = .returned (.tuple #[.int .i64 y.size, .nilIface]) ∧ BufIs w0.heap.size w' B (xs ++ bytesOf y) ∧ Below w0.heap.size w0 w' := by
  obtain ⟨hB0, hbw, v, hv, ho⟩ := hB
  have x0 : w.cell? ⟨B, 0, none⟩ = some v := (bkC hv 0).trans rfl
  have HV := Lib.hid (And.intro hv (And.intro ho (And.intro hb (And.intro hbw (And.intro hB0 hl)))))
  clear hv ho hb hbw hB0 hl
  go_enter Tryz.func226, Tryz.ntmps226
  go_wp2_with (at_builtin; refine print_append_str (w0 := w0) w0.heap.size rfl _ _ 258 9 5 rfl (by kernel_rfl) (by kernel_rfl) (by kernel_rfl) v xs y rfl rfl HV.out.2.1 HV.out.2.2.1 HV.out.2.2.2.1 HV.out.2.2.2.2.2 ?_; intro v1 w1 ho1 hb1 hg1; obtain ⟨b1, n1, c1, rfl⟩ := own_slice ho1; have hv1 : w1.heap[B]? = some (.cells #[v] 258 (0, 0)) := blk_grown HV.out.1 hg1 (own_ne HV.out.2.1 HV.out.1 (by decide)); have x1 : w1.cell? ⟨B, 0, none⟩ = some v := (bkC hv1 0).trans rfl; have u1 := bkF hv1 0; have HU := Lib.hid (And.intro ho1 (And.intro hb1 hv1)); clear ho1 hb1 hg1 hv1 x0)
  go_ret2
  obtain ⟨ho1, hb1, hv1⟩ := HU.out
  have hB0 := HV.out.2.2.2.2.1
  refine ⟨rfl, ⟨hB0, ?_, _, bkP hv1 0 _ rfl, own_set ho1 hv1 (by decide)⟩, ?_⟩
  · rw [size_set]
    have := hb1.size
    omega
  · exact Below.setCell hb1 hB0 _
theorem assert_sw (B : Nat) (xT : TypeId) (w : World) : (Instr.typeAssert (.iface 259 (PT B)) xT 263 true).run Tryz.prog w = .ok (.tuple #[.iface 259 (PT B), .bool true]) w := by
  refine run_typeAssert_hasB Tryz.underlying263 (by kernel_rfl) _ _ _
theorem getStringWriter_any (B : Nat) (w : World) : Calls Tryz.prog 215 #[.iface 259 (PT B)] w fun e w' => e = .returned (.iface 259 (PT B)) ∧ w' = w := by
  have ha := assert_sw B
  have hnot : ∀ (x : Bool) (w : World), (Op.unary .not (.bool x)).run Tryz.prog w = .ok (.bool (!x)) w := fun _ _ => rfl
  go_enter Tryz.func215, Tryz.ntmps215
  go_wp2
  go_ret
  exact ⟨rfl, rfl⟩
theorem drewN_both {w w2 : World} (h : ∃ n, w2 = w.drewN n) (m : Nat) : ∃ n, w2.drewN m = w.drewN n := by
  obtain ⟨n, rfl⟩ := h
  exact ⟨n + m, by simp [World.drewN, Nat.add_assoc]⟩
set_option maxRecDepth 100000 in
theorem lookup_empty (G : Nat) (w : World) (h : TrieAt w G) (p : Bool) (s : ByteArray) (hs : s.toList.isEmpty = true) :
    Calls Tryz.prog 216 #[PT G, .string s, .bool p] w fun e w' => e = .returned (.tuple #[.string ⟨#[]⟩, .int .i64 0, .bool false]) ∧ ∃ n, w' = w.drewN n := by
  obtain ⟨T, N, T1, A, B, C, hg, ht, hn, ht1, ha, hb, hc⟩ := h
  have g1 : w.cell? ⟨G, 1, none⟩ = some (.int .i64 0) := (bkC hg 1).trans (gen_lo _ _ _ 1 (by omega))
  clear hg ht hn ht1 ha hb hc
  go_enter Tryz.func216, Tryz.ntmps216
  go_wp2_with fail
  refine wp_loop_once ?_
  go_wp2_with fail
  go_ret3
  exact ⟨rfl, 0, rfl⟩
set_option maxRecDepth 100000 in
theorem lookup_none (G : Nat) (w : World) (h : TrieAt w G) (s r : ByteArray) (c : Nat) (hc256 : c < 256) (hs : s.toList.isEmpty = false) (hz : 0 < s.size) (h94 : (s[0]'(by omega)).toNat = 94) (hr : s.extract 1 s.size = r)
    (hcase : r.toList.isEmpty = true ∨ (r.toList.isEmpty = false ∧ ∃ hr0 : 0 < r.size, (r[0]'hr0).toNat = c ∧ FM c = 3)) :
    Calls Tryz.prog 216 #[PT G, .string s, .bool false] w fun e w' => e = .returned (.tuple #[.string ⟨#[]⟩, .int .i64 0, .bool false]) ∧ ∃ n, w' = w.drewN n := by
  obtain ⟨T, N, T1, A, B, C, hg, ht, hn, ht1, ha, hb, hc⟩ := h
  have g1 : w.cell? ⟨G, 1, none⟩ = some (.int .i64 0) := (bkC hg 1).trans (gen_lo _ _ _ 1 (by omega))
  have g4 : w.cell? ⟨G, 4, none⟩ = some (.slice (some ⟨T, 0, none⟩) 3 3) := (bkC hg 4).trans (gen_lo _ _ _ 4 (by omega))
  have g5 : w.cell? ⟨G, 5, none⟩ = some (.int .i64 3) := (bkC hg 5).trans (gen_lo _ _ _ 5 (by omega))
  have gm : w.cell? ⟨G, 100, none⟩ = some (.int .u8 1) := (bkC hg 100).trans (gen_at _ _ _ 94 (by omega))
  have gc : w.cell? ⟨G, 6 + c, none⟩ = some (.int .u8 (FM c : Int)) := (bkC hg (6 + c)).trans (gen_at _ _ _ c hc256)
  have t1 : w.cell? ⟨T, 1, none⟩ = some (.pointer (some ⟨N, 0, none⟩)) := (bkC ht 1).trans rfl
  have n1 : w.cell? ⟨N, 1, none⟩ = some (.int .i64 0) := (bkC hn 1).trans rfl
  have n4 : w.cell? ⟨N, 4, none⟩ = some (.slice (some ⟨T1, 0, none⟩) 3 3) := (bkC hn 4).trans rfl
  clear hg ht hn ht1 ha hb hc
  have hz1 : (1 : Int) ≤ s.size := by omega
  have hw1 : IntKind.i64.wrap 1 = 1 := IntWalk.i64_in _ (by omega)
  go_enter Tryz.func216, Tryz.ntmps216
  go_wp2_with fail
  refine wp_loop_rounds 3 ?_
  rw [rounds_succ]
  go_wp2_with fail
  go_quiet (fail)
  obtain ⟨w2, hd2⟩ : ∃ w2, w2 = w.drewN nq := ⟨_, rfl⟩
  rw [← hd2]
  have hcl : ∀ p, w2.cell? p = w.cell? p := by intro p; rw [hd2]; rfl
  rw [← hcl] at g1 g4 g5 gm gc t1 n1 n4
  have HD : Hid (∃ n, w2 = w.drewN n) := Lib.hid ⟨_, hd2⟩
  clear hd2 hcl
  go_wp2_with fail
  rw [rounds_succ]
  rcases hcase with hre | ⟨hre, hr0, hrc, hF⟩
  · go_wp2_with fail
    go_ret3
    exact ⟨rfl, HD.out⟩
  · rw [hF] at gc
    go_wp2_with fail
    go_quiet (fail)
    go_wp2_with fail
    go_ret3
    exact ⟨rfl, drewN_both HD.out _⟩
set_option maxRecDepth 100000 in
theorem lookup_key (G : Nat) (w : World) (h : TrieAt w G) (s r : ByteArray) (c m : Nat) (val : ByteArray) (hc256 : c < 256) (hs : s.toList.isEmpty = false) (hz : 0 < s.size) (h94 : (s[0]'(by omega)).toNat = 94) (hr : s.extract 1 s.size = r)
    (hre : r.toList.isEmpty = false) (hr0 : 0 < r.size) (hrc : (r[0]'hr0).toNat = c) (hF : FM c = m) (hmv : (m = 0 ∧ val = ⟨#[34]⟩) ∨ (m = 1 ∧ val = ⟨#[94]⟩) ∨ (m = 2 ∧ val = ⟨#[10]⟩)) :
    Calls Tryz.prog 216 #[PT G, .string s, .bool false] w fun e w' => e = .returned (.tuple #[.string val, .int .i64 2, .bool true]) ∧ ∃ n, w' = w.drewN n := by
  obtain ⟨T, N, T1, A, B, C, hg, ht, hn, ht1, ha, hb, hc⟩ := h
  have g1 : w.cell? ⟨G, 1, none⟩ = some (.int .i64 0) := (bkC hg 1).trans (gen_lo _ _ _ 1 (by omega))
  have g4 : w.cell? ⟨G, 4, none⟩ = some (.slice (some ⟨T, 0, none⟩) 3 3) := (bkC hg 4).trans (gen_lo _ _ _ 4 (by omega))
  have g5 : w.cell? ⟨G, 5, none⟩ = some (.int .i64 3) := (bkC hg 5).trans (gen_lo _ _ _ 5 (by omega))
  have gm : w.cell? ⟨G, 100, none⟩ = some (.int .u8 1) := (bkC hg 100).trans (gen_at _ _ _ 94 (by omega))
  have gc : w.cell? ⟨G, 6 + c, none⟩ = some (.int .u8 (FM c : Int)) := (bkC hg (6 + c)).trans (gen_at _ _ _ c hc256)
  have t1 : w.cell? ⟨T, 1, none⟩ = some (.pointer (some ⟨N, 0, none⟩)) := (bkC ht 1).trans rfl
  have n1 : w.cell? ⟨N, 1, none⟩ = some (.int .i64 0) := (bkC hn 1).trans rfl
  have n4 : w.cell? ⟨N, 4, none⟩ = some (.slice (some ⟨T1, 0, none⟩) 3 3) := (bkC hn 4).trans rfl
  have hm3 : (m : Int) < 3 := by omega
  have hm3n : m < 3 := by omega
  have hm3e : ((m : Int) == 3) = false := beq_eq_false_iff_ne.mpr (by omega)
  obtain ⟨X, pr, tX, x0, x1, x2, x4, hpr⟩ : ∃ X pr, w.cell? ⟨T1, m, none⟩ = some (.pointer (some ⟨X, 0, none⟩)) ∧ w.cell? ⟨X, 0, none⟩ = some (.string val) ∧ w.cell? ⟨X, 1, none⟩ = some (.int .i64 pr) ∧ w.cell? ⟨X, 2, none⟩ = some (.string ⟨#[]⟩) ∧ w.cell? ⟨X, 4, none⟩ = some (.slice none 0 0) ∧ 0 < pr := by
    rcases hmv with ⟨rfl, rfl⟩ | ⟨rfl, rfl⟩ | ⟨rfl, rfl⟩
    · exact ⟨A, 2, (bkC ht1 0).trans rfl, (bkC ha 0).trans rfl, (bkC ha 1).trans rfl, (bkC ha 2).trans rfl, (bkC ha 4).trans rfl, by omega⟩
    · exact ⟨B, 4, (bkC ht1 1).trans rfl, (bkC hb 0).trans rfl, (bkC hb 1).trans rfl, (bkC hb 2).trans rfl, (bkC hb 4).trans rfl, by omega⟩
    · exact ⟨C, 6, (bkC ht1 2).trans rfl, (bkC hc 0).trans rfl, (bkC hc 1).trans rfl, (bkC hc 2).trans rfl, (bkC hc 4).trans rfl, by omega⟩
  rw [hF] at gc
  clear hg ht hn ht1 ha hb hc hmv
  have hz1 : (1 : Int) ≤ s.size := by omega
  have hr1 : (1 : Int) ≤ r.size := by omega
  have hw1 : IntKind.i64.wrap 1 = 1 := IntWalk.i64_in _ (by omega)
  have hw2 : IntKind.i64.wrap 2 = 2 := IntWalk.i64_in _ (by omega)
  have hprd : decide (0 < pr) = true := decide_eq_true hpr
  go_enter Tryz.func216, Tryz.ntmps216
  go_wp2_with fail
  refine wp_loop_rounds 3 ?_
  rw [rounds_succ]
  go_wp2_with fail
  go_quiet (fail)
  obtain ⟨w2, hd2⟩ : ∃ w2, w2 = w.drewN nq := ⟨_, rfl⟩
  rw [← hd2]
  have hcl : ∀ p, w2.cell? p = w.cell? p := by intro p; rw [hd2]; rfl
  rw [← hcl] at g1 g4 g5 gm gc t1 n1 n4 tX x0 x1 x2 x4
  have HD : Hid (∃ n, w2 = w.drewN n) := Lib.hid ⟨_, hd2⟩
  clear hd2 hcl
  go_wp2_with fail
  rw [rounds_succ]
  go_wp2_with fail
  go_quiet (fail)
  obtain ⟨w3, hd3⟩ : ∃ w3, w3 = w2.drewN nq := ⟨_, rfl⟩
  rw [← hd3]
  have hcl : ∀ p, w3.cell? p = w2.cell? p := by intro p; rw [hd3]; rfl
  rw [← hcl] at g1 g4 g5 gm gc t1 n1 n4 tX x0 x1 x2 x4
  have HD3 : Hid (∃ n, w3 = w.drewN n) := Lib.hid (by rw [hd3]; exact drewN_both HD.out _)
  clear hd3 hcl HD
  go_wp2_with fail
  rw [rounds_succ]
  obtain ⟨r2, hr2⟩ : ∃ r2, r.extract 1 r.size = r2 := ⟨_, rfl⟩
  rw [hr2]
  cases he2 : r2.toList.isEmpty
  · go_wp2_with fail
    go_ret3
    exact ⟨rfl, HD3.out⟩
  · go_wp2_with fail
    go_ret3
    exact ⟨rfl, HD3.out⟩
end Go.Proofs.YthabooeapfepnaaGreatDoor.Given
