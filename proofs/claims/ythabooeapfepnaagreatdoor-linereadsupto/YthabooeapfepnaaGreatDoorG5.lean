import Derived.Test.YthabooeapfepnaaGreatDoorG6
import Derived.LoopN
import Derived.Deep.MidRow
namespace Go.Proofs.YthabooeapfepnaaGreatDoor.Given
open Go.RowKit Go.Proofs.YthabooeapfepnaaGreatDoorW.PrintWords Go.Shelf
set_option linter.unusedVariables false
set_option pp.maxSteps 1500
def PairsF : Array Value := #[.string ⟨#[94, 110]⟩, .string ⟨#[10]⟩, .string ⟨#[94, 94]⟩, .string ⟨#[94]⟩, .string ⟨#[94, 39]⟩, .string ⟨#[34]⟩]
set_option maxHeartbeats 1000000 in
set_option maxRecDepth 100000 in
theorem make_generic (O c : Nat) (ty : TypeId) (w : World) (cs : Array Value) (hO : w.heap[O]? = some (.cells cs ty (0, 0))) (hcs : ∀ (i : Nat) (v : Value), PairsF[i]? = some v → cs[i]? = some v) :
    Calls Tryz.prog 152 #[.slice (some ⟨O, 0, none⟩) 6 c] w fun e w' => e = .returned (PT w.heap.size) ∧ TrieAt w' w.heap.size ∧ Kp [] w w' := by
  have p0 : w.cell? ⟨O, 0, none⟩ = some (.string ⟨#[94, 110]⟩) := (bkC hO 0).trans (hcs 0 _ rfl)
  have p2 : w.cell? ⟨O, 2, none⟩ = some (.string ⟨#[94, 94]⟩) := (bkC hO 2).trans (hcs 2 _ rfl)
  have p4 : w.cell? ⟨O, 4, none⟩ = some (.string ⟨#[94, 39]⟩) := (bkC hO 4).trans (hcs 4 _ rfl)
  have hOs : O ≠ w.heap.size := by have := bkL hO; omega
  have HO := Lib.hid (And.intro hO hcs)
  clear hO hcs
  go_enter Tryz.func152, Tryz.ntmps152
  go_wp2_with fail
  obtain ⟨w1, hw1⟩ : ∃ w1, w1 = w.alloc (.cells Tryz.zeroCells222 222) := ⟨_, rfl⟩
  rw [← hw1]
  obtain ⟨G, hGz⟩ : ∃ G, G = w.heap.size := ⟨_, rfl⟩
  rw [← hGz]
  rw [← hGz] at hOs
  have hGO : G ≠ O := Ne.symm hOs
  have hk1 : Kp [] w w1 := by rw [hw1]; exact (Kp.refl [] w).alloc _
  have g1 : w1.heap[G]? = some (.cells (genCells (.slice none 0 0) 0 (fun _ => 0)) 222 (0, 0)) := by rw [hw1, hGz, zero_gen]; exact blk_new' rfl _
  have HZ := Lib.hid hGz
  have hle : w.heap.size ≤ G := Nat.le_of_eq hGz.symm
  have HL := Lib.hid hle
  have b0 : (({data := #[94, 110]} : ByteArray)[0]'(by decide)).toNat = 94 := rfl
  have b1 : (({data := #[94, 110]} : ByteArray)[1]'(by decide)).toNat = 110 := rfl
  have b2 : (({data := #[94, 94]} : ByteArray)[0]'(by decide)).toNat = 94 := rfl
  have b3 : (({data := #[94, 94]} : ByteArray)[1]'(by decide)).toNat = 94 := rfl
  have b4 : (({data := #[94, 39]} : ByteArray)[0]'(by decide)).toNat = 94 := rfl
  have b5 : (({data := #[94, 39]} : ByteArray)[1]'(by decide)).toNat = 39 := rfl
  clear hw1 hGz hle
  have q0 := hk1.cell p0 (by simp)
  have q2 := hk1.cell p2 (by simp)
  have q4 := hk1.cell p4 (by simp)
  have xc : w1.cell? ⟨G, 100, none⟩ = some (.int .u8 _) := (bkC g1 100).trans (gen_at _ _ _ 94 (by omega))
  have uc := bkF g1 100
  have HK := Lib.hid (And.intro hk1 g1)
  clear hk1 g1
  refine wp_loop_rounds 4 ?_
  rw [rounds_succ]
  go_wp2_with fail
  refine wp_loop_rounds 3 ?_
  rw [rounds_succ]
  go_wp2_with fail
  go_region
  obtain ⟨hk1, g1⟩ := HK.out
  obtain ⟨w2, hw2⟩ : ∃ w2, w2 = (w1.setCell ⟨G, 100, none⟩ (.int .u8 1)).drew := ⟨_, rfl⟩
  rw [← hw2]
  have hk2 : Kp [] w w2 := by rw [hw2]; exact (hk1.setCell _ (.inr HL.out) _).drew
  have g2 : w2.heap[G]? = some (.cells (genCells (.slice none 0 0) 0 (upd (fun _ => 0) 94 1)) 222 (0, 0)) := by
    rw [hw2]
    exact bkP g1 100 _ (gen_put _ _ _ 94 1 (by omega))
  clear hw2 hk1 g1 HK q0 q2 q4 xc uc
  have q0 := hk2.cell p0 (by simp)
  have q2 := hk2.cell p2 (by simp)
  have q4 := hk2.cell p4 (by simp)
  have xc : w2.cell? ⟨G, 116, none⟩ = some (.int .u8 _) := (bkC g2 116).trans (gen_at _ _ _ 110 (by omega))
  have uc := bkF g2 116
  have HK := Lib.hid (And.intro hk2 g2)
  clear hk2 g2
  go_wp2_with fail
  rw [rounds_succ]
  go_wp2_with fail
  go_region
  obtain ⟨hk2, g2⟩ := HK.out
  obtain ⟨w3, hw3⟩ : ∃ w3, w3 = (w2.setCell ⟨G, 116, none⟩ (.int .u8 1)).drew := ⟨_, rfl⟩
  rw [← hw3]
  have hk3 : Kp [] w w3 := by rw [hw3]; exact (hk2.setCell _ (.inr HL.out) _).drew
  have g3 : w3.heap[G]? = some (.cells (genCells (.slice none 0 0) 0 (upd (upd (fun _ => 0) 94 1) 110 1)) 222 (0, 0)) := by
    rw [hw3]
    exact bkP g2 116 _ (gen_put _ _ _ 110 1 (by omega))
  clear hw3 hk2 g2 HK q0 q2 q4 xc uc
  have q0 := hk3.cell p0 (by simp)
  have q2 := hk3.cell p2 (by simp)
  have q4 := hk3.cell p4 (by simp)
  have xc : w3.cell? ⟨G, 100, none⟩ = some (.int .u8 _) := (bkC g3 100).trans (gen_at _ _ _ 94 (by omega))
  have uc := bkF g3 100
  have HK := Lib.hid (And.intro hk3 g3)
  clear hk3 g3
  go_wp2_with fail
  rw [rounds_succ]
  go_wp2_with fail
  rw [rounds_succ]
  go_wp2_with fail
  refine wp_loop_rounds 3 ?_
  rw [rounds_succ]
  go_wp2_with fail
  go_region
  obtain ⟨hk3, g3⟩ := HK.out
  obtain ⟨w4, hw4⟩ : ∃ w4, w4 = (w3.setCell ⟨G, 100, none⟩ (.int .u8 1)).drew := ⟨_, rfl⟩
  rw [← hw4]
  have hk4 : Kp [] w w4 := by rw [hw4]; exact (hk3.setCell _ (.inr HL.out) _).drew
  have g4 : w4.heap[G]? = some (.cells (genCells (.slice none 0 0) 0 (upd (upd (upd (fun _ => 0) 94 1) 110 1) 94 1)) 222 (0, 0)) := by
    rw [hw4]
    exact bkP g3 100 _ (gen_put _ _ _ 94 1 (by omega))
  clear hw4 hk3 g3 HK q0 q2 q4 xc uc
  have q0 := hk4.cell p0 (by simp)
  have q2 := hk4.cell p2 (by simp)
  have q4 := hk4.cell p4 (by simp)
  have xc : w4.cell? ⟨G, 100, none⟩ = some (.int .u8 _) := (bkC g4 100).trans (gen_at _ _ _ 94 (by omega))
  have uc := bkF g4 100
  have HK := Lib.hid (And.intro hk4 g4)
  clear hk4 g4
  go_wp2_with fail
  rw [rounds_succ]
  go_wp2_with fail
  go_region
  obtain ⟨hk4, g4⟩ := HK.out
  obtain ⟨w5, hw5⟩ : ∃ w5, w5 = (w4.setCell ⟨G, 100, none⟩ (.int .u8 1)).drew := ⟨_, rfl⟩
  rw [← hw5]
  have hk5 : Kp [] w w5 := by rw [hw5]; exact (hk4.setCell _ (.inr HL.out) _).drew
  have g5 : w5.heap[G]? = some (.cells (genCells (.slice none 0 0) 0 (upd (upd (upd (upd (fun _ => 0) 94 1) 110 1) 94 1) 94 1)) 222 (0, 0)) := by
    rw [hw5]
    exact bkP g4 100 _ (gen_put _ _ _ 94 1 (by omega))
  clear hw5 hk4 g4 HK q0 q2 q4 xc uc
  have q0 := hk5.cell p0 (by simp)
  have q2 := hk5.cell p2 (by simp)
  have q4 := hk5.cell p4 (by simp)
  have xc : w5.cell? ⟨G, 100, none⟩ = some (.int .u8 _) := (bkC g5 100).trans (gen_at _ _ _ 94 (by omega))
  have uc := bkF g5 100
  have HK := Lib.hid (And.intro hk5 g5)
  clear hk5 g5
  go_wp2_with fail
  rw [rounds_succ]
  go_wp2_with fail
  rw [rounds_succ]
  go_wp2_with fail
  refine wp_loop_rounds 3 ?_
  rw [rounds_succ]
  go_wp2_with fail
  go_region
  obtain ⟨hk5, g5⟩ := HK.out
  obtain ⟨w6, hw6⟩ : ∃ w6, w6 = (w5.setCell ⟨G, 100, none⟩ (.int .u8 1)).drew := ⟨_, rfl⟩
  rw [← hw6]
  have hk6 : Kp [] w w6 := by rw [hw6]; exact (hk5.setCell _ (.inr HL.out) _).drew
  have g6 : w6.heap[G]? = some (.cells (genCells (.slice none 0 0) 0 (upd (upd (upd (upd (upd (fun _ => 0) 94 1) 110 1) 94 1) 94 1) 94 1)) 222 (0, 0)) := by
    rw [hw6]
    exact bkP g5 100 _ (gen_put _ _ _ 94 1 (by omega))
  clear hw6 hk5 g5 HK q0 q2 q4 xc uc
  have q0 := hk6.cell p0 (by simp)
  have q2 := hk6.cell p2 (by simp)
  have q4 := hk6.cell p4 (by simp)
  have xc : w6.cell? ⟨G, 45, none⟩ = some (.int .u8 _) := (bkC g6 45).trans (gen_at _ _ _ 39 (by omega))
  have uc := bkF g6 45
  have HK := Lib.hid (And.intro hk6 g6)
  clear hk6 g6
  go_wp2_with fail
  rw [rounds_succ]
  go_wp2_with fail
  go_region
  obtain ⟨hk6, g6⟩ := HK.out
  obtain ⟨w7, hw7⟩ : ∃ w7, w7 = (w6.setCell ⟨G, 45, none⟩ (.int .u8 1)).drew := ⟨_, rfl⟩
  rw [← hw7]
  have hk7 : Kp [] w w7 := by rw [hw7]; exact (hk6.setCell _ (.inr HL.out) _).drew
  have g7 : w7.heap[G]? = some (.cells (genCells (.slice none 0 0) 0 (upd (upd (upd (upd (upd (upd (fun _ => 0) 94 1) 110 1) 94 1) 94 1) 94 1) 39 1)) 222 (0, 0)) := by
    rw [hw7]
    exact bkP g6 45 _ (gen_put _ _ _ 39 1 (by omega))
  clear hw7 hk6 g6 HK q0 q2 q4 xc uc
  go_wp2_with fail
  rw [rounds_succ]
  go_wp2_with fail
  rw [rounds_succ]
  go_wp2_with fail
  have hM : upd (upd (upd (upd (upd (upd (fun x => 0) 94 1) 110 1) 94 1) 94 1) 94 1) 39 1 = M0 := by
    funext j
    simp only [upd, M0]
    grind
  rw [hM] at g7
  obtain ⟨A, hA⟩ : ∃ A, A = arrO M0 := ⟨_, rfl⟩
  have HA := Lib.hid hA
  have hrng : w7.rangeAt G 6 (arrO M0).toList := gen_range w7 G _ _ _ g7
  have H7 := Lib.hid (And.intro hk7 g7)
  clear hk7 g7 hM
  refine wp_load_mid 140 (.tmp 39) rfl G 6 rfl (arrO M0).toList (.array 256 5) hrng (by kernel_rfl) rfl (by kernel_rfl) ?_
  rw [Array.toArray_toList, ← hA]
  clear hA hrng
  go_wp2_with fail
  go_loopg [41] 256 (fun g v41 wx => ∃ i : Nat, i + g = 256 ∧ v41 = .int .i64 (i : Int) ∧ Kp [] w wx ∧ wx.heap[G]? = some (.cells (genCells (.slice none 0 0) (cnt i : Int) M0) 222 (0, 0)))
  case atStart => exact ⟨0, rfl, rfl, H7.out.1, H7.out.2⟩
  case round =>
    obtain ⟨i, hig, hv, hkr, hgr⟩ := hrel
    subst hv
    cases gk with
    | succ g =>
      have hi : i < 256 := by omega
      have hiz : (i : Int) < 256 := by omega
      have hwi : IntKind.i64.wrap ((i : Int) + 1) = (i : Int) + 1 := IntWalk.i64_in _ (by omega)
      have hM1 : M0 i ≤ 1 := by unfold M0; split <;> omega
      have hc3 : cnt i ≤ 3 := by unfold cnt; split <;> split <;> split <;> omega
      have hwc : IntKind.i64.wrap ((cnt i : Int) + (M0 i : Int)) = (cnt i : Int) + (M0 i : Int) := IntWalk.i64_in _ (by omega)
      have hix : ∀ W, (Instr.index 140 (.agg A) (.int .i64 (i : Int))).run Tryz.prog W = .ok (.int .u8 (M0 i : Int)) W := by
        intro W
        rw [HA.out]
        exact index_gen W M0 i hi
      have x5 : wr.cell? ⟨G, 5, none⟩ = some (.int .i64 (cnt i : Int)) := (bkC hgr 5).trans (gen_lo _ _ _ 5 (by omega))
      have v5 := bkF hgr 5
      have HR := Lib.hid (And.intro hkr hgr)
      clear hkr hgr
      go_wp2_with fail
      obtain ⟨hkr, hgr⟩ := HR.out
      go_roundg g
      case measure => omega
      case rel => exact ⟨i + 1, by omega, rfl, hkr.setCell _ (.inr HL.out) _, bkP hgr 5 _ ((gen_ts _ _ _ _).trans (by rw [cnt_succ]; rfl))⟩
    | zero =>
      obtain rfl : i = 256 := by omega
      have h3 : ((cnt 256 : Nat) : Int) = 3 := rfl
      rw [h3] at hgr
      go_wp2_with fail
      have hrng : wr.rangeAt G 6 (arrO M0).toList := gen_range wr G _ _ _ hgr
      have H8 := Lib.hid (And.intro hkr hgr)
      clear hkr hgr h3 hig
      refine wp_load_mid 140 (.tmp 56) rfl G 6 rfl (arrO M0).toList (.array 256 5) hrng (by kernel_rfl) rfl (by kernel_rfl) ?_
      rw [Array.toArray_toList, ← HA.out]
      clear hrng
      go_wp2_with fail
      go_loopg [58, 9] 256 (fun g v58 v9 wx => ∃ i : Nat, i + g = 256 ∧ v58 = .int .i64 (i : Int) ∧ v9 = .int .u8 (cnt i : Int) ∧ Kp [] w wx ∧ wx.heap[G]? = some (.cells (genCells (.slice none 0 0) 3 (mix i)) 222 (0, 0)))
      case atStart => exact ⟨0, rfl, rfl, rfl, H8.out.1, by rw [mix_zero]; exact H8.out.2⟩
      case round =>
        obtain ⟨i, hig, hv, hv9, hkr, hgr⟩ := hrel
        subst hv hv9
        cases gk with
        | succ g =>
          have hi : i < 256 := by omega
          have hiz : (i : Int) < 256 := by omega
          have hwi : IntKind.i64.wrap ((i : Int) + 1) = (i : Int) + 1 := IntWalk.i64_in _ (by omega)
          have hM1 : M0 i ≤ 1 := by unfold M0; split <;> omega
          have hc3 : cnt i ≤ 3 := by unfold cnt; split <;> split <;> split <;> omega
          have hwc : IntKind.u8.wrap ((cnt i : Int) + 1) = (cnt i : Int) + 1 := IntWalk.u8_in _ (by omega)
          have hix : ∀ W, (Instr.index 140 (.agg A) (.int .i64 (i : Int))).run Tryz.prog W = .ok (.int .u8 (M0 i : Int)) W := by
            intro W
            rw [HA.out]
            exact index_gen W M0 i hi
          have x5 : wr.cell? ⟨G, 5, none⟩ = some (.int .i64 3) := (bkC hgr 5).trans (gen_lo _ _ _ 5 (by omega))
          have xi : wr.cell? ⟨G, 6 + i, none⟩ = some (.int .u8 (mix i i : Int)) := (bkC hgr (6 + i)).trans (gen_at _ _ _ i hi)
          have v5 := bkF hgr (6 + i)
          have HR := Lib.hid (And.intro hkr hgr)
          clear hkr hgr
          by_cases hz : M0 i = 0
          · have hFM : FM i = 3 := by simp [FM, hz]
            rw [hz] at hix
            go_wp2_with fail
            go_region
            obtain ⟨hkr, hgr⟩ := HR.out
            go_wp2_with fail
            go_roundg g
            case measure => omega
            case rel => exact ⟨i + 1, by omega, rfl, by rw [cnt_succ, hz]; rfl, (hkr.setCell _ (.inr HL.out) _).drew, bkP hgr (6 + i) _ ((gen_put _ _ _ i 3 hi).trans (by rw [← hFM, mix_succ]))⟩
          · have hz1 : M0 i = 1 := by omega
            have hFM : FM i = cnt i := by simp [FM, hz]
            rw [hz1] at hix
            go_wp2_with fail
            obtain ⟨hkr, hgr⟩ := HR.out
            go_roundg g
            case measure => omega
            case rel => exact ⟨i + 1, by omega, rfl, by rw [cnt_succ, hz1]; rfl, hkr.setCell _ (.inr HL.out) _, bkP hgr (6 + i) _ ((gen_put _ _ _ i (cnt i) hi).trans (by rw [← hFM, mix_succ]))⟩
        | zero =>
          obtain rfl : i = 256 := by omega
          rw [mix_end] at hgr
          have hmk := mk3
          have x5 : wr.cell? ⟨G, 5, none⟩ = some (.int .i64 3) := (bkC hgr 5).trans (gen_lo _ _ _ 5 (by omega))
          have hGl := bkL hgr
          have hga := bkA hgr (.cells #[.pointer none, .pointer none, .pointer none] 217)
          have x4 : (wr.alloc (.cells #[.pointer none, .pointer none, .pointer none] 217)).cell? ⟨G, 4, none⟩ = some (.slice none 0 0) := (bkC hga 4).trans (gen_lo _ _ _ 4 (by omega))
          have v4 := bkF hga 4
          have HR := Lib.hid (And.intro hkr hgr)
          have HGL := Lib.hid hGl
          clear hkr hgr hga hGl
          go_wp2_with fail
          obtain ⟨hkr, hgr⟩ := HR.out
          have hGl := HGL.out
          obtain ⟨w9, hw9⟩ : ∃ w9, w9 = (wr.alloc (.cells #[.pointer none, .pointer none, .pointer none] 217)).setCell ⟨G, 4, none⟩ (.slice (some ⟨wr.heap.size, 0, none⟩) 3 3) := ⟨_, rfl⟩
          rw [← hw9]
          obtain ⟨T, hT⟩ : ∃ T, T = wr.heap.size := ⟨_, rfl⟩
          rw [← hT] at hw9
          have hg9 : GenIs w9 G T := by rw [hw9]; exact bkP (bkA hgr _) 4 _ (gen_tb _ _ _ _)
          have ht9 : TabIs w9 T PN PN PN := by
            rw [hw9]
            exact (Below.heap_setCell _ _ _ _ (by show T ≠ G; omega)).trans (blk_new' hT.symm _)
          have hk9 : Kp [] w w9 := by rw [hw9]; exact (hkr.alloc _).setCell _ (.inr HL.out) _
          have hwT : w.heap.size ≤ T := by rw [hT]; exact hkr.size
          obtain ⟨hO', hcs⟩ := HO.out
          have j0 := hk9.cell p0 (by simp)
          have j1 := hk9.cell (show w.cell? ⟨O, 1, none⟩ = some (.string ⟨#[10]⟩) from (bkC hO' 1).trans (hcs 1 _ rfl)) (by simp)
          have wr1 : IntKind.i64.wrap 1 = 1 := IntWalk.i64_in _ (by omega)
          have wr2 : IntKind.i64.wrap 2 = 2 := IntWalk.i64_in _ (by omega)
          have wr3 : IntKind.i64.wrap 3 = 3 := IntWalk.i64_in _ (by omega)
          have wr4 : IntKind.i64.wrap 4 = 4 := IntWalk.i64_in _ (by omega)
          have wr5 : IntKind.i64.wrap 5 = 5 := IntWalk.i64_in _ (by omega)
          have wr6 : IntKind.i64.wrap 6 = 6 := IntWalk.i64_in _ (by omega)
          obtain ⟨wd, hwd⟩ : ∃ wd, wd = w9.drew := ⟨_, rfl⟩
          have cl := add1 G T wd (by rw [hwd]; exact hg9) (by rw [hwd]; exact ht9)
          have hkd : Kp [] w wd := by rw [hwd]; exact hk9.drew
          have hgd : GenIs wd G T := by rw [hwd]; exact hg9
          have hGT : G ≠ T := hg9.ne_tab ht9
          have HZ9 := Lib.hid (And.intro hgd (And.intro hkd (And.intro hwT hGT)))
          clear hw9 hT hg9 ht9 hk9 hwT hO' hcs x4 v4 x5 hmk hkr hgr HR hGl HGL hkd hgd hGT
          refine wp_loop_rounds 4 ?_
          rw [rounds_succ]
          go_wp2_with fail
          go_still_tail 17, (by kernel_rfl)
          change wpList _ _ _ _ _ w9.drew
          rw [← hwd]
          clear hwd j0 j1
          go_wp2_with fail
          refine cl.mono ?_
          clear cl
          rintro e w10 ⟨rfl, N, C, ht10, hn10, hc10, hNC, hNG, hCG, hwN, hk10⟩
          obtain ⟨hgd, hkd, hwT, hGT⟩ := HZ9.out
          have hkw : Kp [] w w10 := Kp.trans hkd hk10 (fun i hi => .inr (by rw [List.mem_singleton.1 hi]; exact hwT))
          have hg10 : GenIs w10 G T := hk10.gen hgd (by simp [hGT])
          have hwN' : w.heap.size ≤ N := Nat.le_trans hkd.size hwN
          obtain ⟨hO', hcs⟩ := HO.out
          have j0 := hkw.cell (show w.cell? ⟨O, 2, none⟩ = some (.string ⟨#[94, 94]⟩) from (bkC hO' 2).trans (hcs 2 _ rfl)) (by simp)
          have j1 := hkw.cell (show w.cell? ⟨O, 3, none⟩ = some (.string ⟨#[94]⟩) from (bkC hO' 3).trans (hcs 3 _ rfl)) (by simp)
          have HQ := Lib.hid (And.intro hg10 (And.intro ht10 (And.intro hn10 (And.intro hc10 (And.intro hNC (And.intro hkw hwN'))))))
          clear hgd hkd hwT hGT hkw hg10 hwN hwN' hO' hcs ht10 hn10 hc10 hNC hNG hCG hk10 HZ9
          go_wp2_with fail
          rw [rounds_succ]
          go_wp2_with fail
          go_still_tail 17, (by kernel_rfl)
          change wpList _ _ _ _ _ w10.drew
          obtain ⟨wd2, hwd2⟩ : ∃ wd2, wd2 = w10.drew := ⟨_, rfl⟩
          rw [← hwd2]
          have cl : Calls Tryz.prog 168 _ wd2 _ := add2 G T N C wd2 (by rw [hwd2]; exact HQ.out.1) (by rw [hwd2]; exact HQ.out.2.1) (by rw [hwd2]; exact HQ.out.2.2.1) (by rw [hwd2]; exact HQ.out.2.2.2.1) HQ.out.2.2.2.2.1
          have hkd : Kp [] w wd2 := by rw [hwd2]; exact HQ.out.2.2.2.2.2.1.drew
          clear hwd2 j0 j1
          go_wp2_with fail
          refine cl.mono ?_
          clear cl
          rintro e w11 ⟨rfl, B, T1, hg11, ht11, hn11, hc11, hb11, hs11, hTT, hwT1, hk11⟩
          have hwN := HQ.out.2.2.2.2.2.2
          have hkw : Kp [] w w11 := Kp.trans hkd hk11 (fun i hi => .inr (by rw [List.mem_singleton.1 hi]; exact hwN))
          have hwT1' : w.heap.size ≤ T1 := Nat.le_trans hkd.size hwT1
          obtain ⟨hO', hcs⟩ := HO.out
          have j0 := hkw.cell (show w.cell? ⟨O, 4, none⟩ = some (.string ⟨#[94, 39]⟩) from (bkC hO' 4).trans (hcs 4 _ rfl)) (by simp)
          have j1 := hkw.cell (show w.cell? ⟨O, 5, none⟩ = some (.string ⟨#[34]⟩) from (bkC hO' 5).trans (hcs 5 _ rfl)) (by simp)
          have HS := Lib.hid (And.intro hg11 (And.intro ht11 (And.intro hn11 (And.intro hc11 (And.intro hb11 (And.intro hs11 (And.intro hTT (And.intro hkw hwT1'))))))))
          clear hkw hwN hwT1 hwT1' hO' hcs hg11 ht11 hn11 hc11 hb11 hs11 hTT hk11 HQ hkd
          go_wp2_with fail
          rw [rounds_succ]
          go_wp2_with fail
          go_still_tail 17, (by kernel_rfl)
          change wpList _ _ _ _ _ w11.drew
          obtain ⟨wd3, hwd3⟩ : ∃ wd3, wd3 = w11.drew := ⟨_, rfl⟩
          rw [← hwd3]
          obtain ⟨hg11, ht11, hn11, hc11, hb11, hs11, hTT, hkw, hwT1⟩ := HS.out
          have cl : Calls Tryz.prog 168 _ wd3 _ := add3 G T N C B T1 wd3 (by rw [hwd3]; exact hg11) (by rw [hwd3]; exact ht11) (by rw [hwd3]; exact hn11) (by rw [hwd3]; exact hc11) (by rw [hwd3]; exact hb11) (by rw [hwd3]; exact hs11) hTT
          have hkd : Kp [] w wd3 := by rw [hwd3]; exact hkw.drew
          clear hwd3 j0 j1 hg11 ht11 hn11 hc11 hb11 hs11 hTT hkw
          go_wp2_with fail
          refine cl.mono ?_
          clear cl
          rintro e w12 ⟨rfl, A', hg12, ht12, hn12, hc12, hb12, ha12, hs12, hk12⟩
          have hkw : Kp [] w w12 := Kp.trans hkd hk12 (fun i hi => .inr (by rw [List.mem_singleton.1 hi]; exact hwT1))
          have HU : Hid (TrieAt w12 G ∧ Kp [] w w12) := Lib.hid ⟨⟨T, N, T1, A', B, C, hg12, ht12, hn12, hs12, ha12, hb12, hc12⟩, hkw⟩
          clear hg12 ht12 hn12 hc12 hb12 ha12 hs12 hk12 hkw hkd hwT1 HS
          go_wp2_with fail
          rw [rounds_succ]
          go_wp2_with fail
          go_ret
          refine ⟨?_, ?_, HU.out.2⟩
          · rw [HZ.out]; rfl
          · rw [← HZ.out]; exact HU.out.1
end Go.Proofs.YthabooeapfepnaaGreatDoor.Given
