import Derived.Test.YthabooeapfepnaaGreatDoorG13
import Derived.Laws.CopyOwn
import Derived.Deep.DeepCutAuto
import Derived.Deep.RegionLaw
namespace Go.Proofs.YthabooeapfepnaaGreatDoor.Given
open Go.RowKit Go.Proofs.YthabooeapfepnaaGreatDoorW.PrintWords Go.Shelf
set_option linter.unusedVariables false
set_option pp.maxSteps 1500
def qb (b : UInt8) : List UInt8 := if b = 10 then [94, 110] else if b = 94 then [94, 94] else if b = 34 then [94, 39] else [b]
def quoteL (l : List UInt8) : List UInt8 := l.flatMap qb
def sp (b : UInt8) : Bool := b == 10 || b == 94 || b == 34
theorem qb_sp (b : UInt8) (h : sp b = true) : (qb b).length = 2 := by
  unfold qb
  unfold sp at h
  split
  · rfl
  · split
    · rfl
    · split
      · rfl
      · simp_all
theorem qb_no (b : UInt8) (h : sp b = false) : qb b = [b] := by
  unfold qb
  unfold sp at h
  simp only [Bool.or_eq_false_iff, beq_eq_false_iff_ne, ne_eq] at h
  rw [if_neg h.1.1, if_neg h.1.2, if_neg h.2]
theorem quoteL_cons (b : UInt8) (l : List UInt8) : quoteL (b :: l) = qb b ++ quoteL l := rfl
theorem quoteL_length (l : List UInt8) : (quoteL l).length = l.length + l.countP sp := by
  induction l with
  | nil => rfl
  | cons b l ih =>
    rw [quoteL_cons, List.length_append, ih, List.length_cons, List.countP_cons]
    cases h : sp b
    · rw [qb_no b h]; simp; omega
    · rw [qb_sp b h]; simp; omega
theorem quoteL_same (l : List UInt8) (h : l.countP sp = 0) : quoteL l = l := by
  induction l with
  | nil => rfl
  | cons b l ih =>
    rw [List.countP_cons] at h
    cases hb : sp b
    · rw [quoteL_cons, qb_no b hb, ih (by omega)]; rfl
    · rw [hb] at h; simp at h
theorem countP_three (l : List UInt8) : l.countP sp = l.count 34 + l.count 94 + l.count 10 := by
  induction l with
  | nil => rfl
  | cons b l ih =>
    rw [List.countP_cons, List.count_cons, List.count_cons, List.count_cons, ih]
    by_cases h1 : b = 10
    · subst h1; simp [sp]; omega
    · by_cases h2 : b = 94
      · subst h2; simp [sp]; omega
      · by_cases h3 : b = 34
        · subst h3; simp [sp]; omega
        · simp [sp, h1, h2, h3]
def cs3 (l : List UInt8) : Nat → Nat
  | 0 => 0
  | 1 => l.count 34
  | 2 => l.count 34 + l.count 94
  | _ => l.count 34 + l.count 94 + l.count 10
theorem bs_row {w : World} {M : Nat} {f : Nat → Value} {tr : Value} (hm : w.heap[M]? = some (.cells (bsCells f tr) 196 (0, 0)))
    (r10 : rowAt w (f 10) 94 110) (r94 : rowAt w (f 94) 94 94) (r34 : rowAt w (f 34) 94 39) (x : UInt8) (hs : sp x = true) :
    ∃ (b0 b1 : UInt8) (r cc : Nat), w.cell? ⟨M, x.toNat, none⟩ = some (.slice (some ⟨r, 0, none⟩) 2 cc) ∧ w.cell? ⟨r, 0, none⟩ = some (.int .u8 (b0.toNat : Int)) ∧ w.cell? ⟨r, 1, none⟩ = some (.int .u8 (b1.toNat : Int)) ∧ qb x = [b0, b1] := by
  have hx := x.toNat_lt
  have h := (bkC hm x.toNat).trans (bs_at f tr x.toNat hx)
  obtain ⟨ra, ca, ea, a0, a1⟩ := r10
  obtain ⟨rb, cb, eb, c0, c1⟩ := r94
  obtain ⟨rc, cc, ec, d0, d1⟩ := r34
  unfold sp at hs
  simp only [Bool.or_eq_true, beq_iff_eq] at hs
  rcases hs with (rfl | rfl) | rfl
  · exact ⟨94, 110, ra, ca, h.trans (congrArg some ea), a0, a1, rfl⟩
  · exact ⟨94, 94, rb, cb, h.trans (congrArg some eb), c0, c1, rfl⟩
  · exact ⟨94, 39, rc, cc, h.trans (congrArg some ec), d0, d1, rfl⟩
def bz (l : List UInt8) : List Value := l.map fun b => .int .u8 (b.toNat : Int)
theorem nil_ne (W : World) : (binOp .neq 90 (.slice none 0 0) (.slice none 0 0)).run Tryz.prog W = .ok (.bool false) W := by kernel_rfl
theorem bs_byte {w : World} {M : Nat} {f : Nat → Value} {tr : Value} (hm : w.heap[M]? = some (.cells (bsCells f tr) 196 (0, 0))) (hf : ∀ b, b < 256 → b ≠ 10 → b ≠ 94 → b ≠ 34 → f b = SN)
    (r10 : rowAt w (f 10) 94 110) (r94 : rowAt w (f 94) 94 94) (r34 : rowAt w (f 34) 94 39) (x : UInt8) :
    (sp x = false → w.cell? ⟨M, x.toNat, none⟩ = some (.slice none 0 0)) ∧ (sp x = true → ∃ r cc, w.cell? ⟨M, x.toNat, none⟩ = some (.slice (some ⟨r, 0, none⟩) 2 cc)) := by
  have hx := x.toNat_lt
  have h := (bkC hm x.toNat).trans (bs_at f tr x.toNat hx)
  constructor
  · intro hs
    rw [h, hf x.toNat hx]
    · rintro e; rw [show x = 10 from UInt8.toNat.inj e] at hs; cases hs
    · rintro e; rw [show x = 94 from UInt8.toNat.inj e] at hs; cases hs
    · rintro e; rw [show x = 34 from UInt8.toNat.inj e] at hs; cases hs
  · intro hs
    obtain ⟨ra, ca, ea, _⟩ := r10
    obtain ⟨rb, cb, eb, _⟩ := r94
    obtain ⟨rc, cc, ec, _⟩ := r34
    unfold sp at hs
    simp only [Bool.or_eq_true, beq_iff_eq] at hs
    rcases hs with (rfl | rfl) | rfl
    · exact ⟨ra, ca, h.trans (congrArg some ea)⟩
    · exact ⟨rb, cb, h.trans (congrArg some eb)⟩
    · exact ⟨rc, cc, h.trans (congrArg some ec)⟩
set_option maxRecDepth 100000 in
set_option maxHeartbeats 4000000 in
theorem bs_replace (M : Nat) (s : ByteArray) (w : World) (hs : s.size ≤ 4000000000) (h : BsIs w M) :
    Calls Tryz.prog 219 #[PT M, .string s] w fun e w' => e = .returned (.string ⟨(quoteL s.data.toList).toArray⟩) ∧ Below w.heap.size w w' := by
  have hL : s.data.toList.length = s.size := by rw [Array.length_toList]; rfl
  obtain ⟨T, f, hm, ht, hf, r10, r94, r34⟩ := h
  have mtr : w.cell? ⟨M, 256, none⟩ = some (.slice (some ⟨T, 0, none⟩) 3 3) := (bkC hm 256).trans (bs_tr _ _)
  have t0 : w.cell? ⟨T, 0, none⟩ = some (.string ⟨#[34]⟩) := (bkC ht 0).trans rfl
  have t1 : w.cell? ⟨T, 1, none⟩ = some (.string ⟨#[94]⟩) := (bkC ht 1).trans rfl
  have t2 : w.cell? ⟨T, 2, none⟩ = some (.string ⟨#[10]⟩) := (bkC ht 2).trans rfl
  have wr24 : IntKind.i64.wrap 24 = 24 := IntWalk.i64_in _ (by omega)
  have HB := Lib.hid (And.intro hm (And.intro ht (And.intro hf (And.intro r10 (And.intro r94 r34)))))
  clear hm ht hf r10 r94 r34
  have hkk : Hid (∀ k, k < 3 → ∃ (c : UInt8) (r cc : Nat), w.cell? ⟨T, k, none⟩ = some (.string ⟨#[c]⟩) ∧ w.cell? ⟨M, c.toNat, none⟩ = some (.slice (some ⟨r, 0, none⟩) 2 cc) ∧ cs3 s.data.toList (k + 1) = cs3 s.data.toList k + s.data.toList.count c) := by
    refine Lib.hid fun k hk => ?_
    obtain ⟨hm, ht, hf, ⟨ra, ca, ea, _⟩, ⟨rb, cb, eb, _⟩, ⟨rc, cc, ec, _⟩⟩ := HB.out
    match k, hk with
    | 0, _ => exact ⟨34, rc, cc, t0, ((bkC hm 34).trans (bs_at _ _ 34 (by omega))).trans (by rw [ec]), by simp [cs3]⟩
    | 1, _ => exact ⟨94, rb, cb, t1, ((bkC hm 94).trans (bs_at _ _ 94 (by omega))).trans (by rw [eb]), rfl⟩
    | 2, _ => exact ⟨10, ra, ca, t2, ((bkC hm 10).trans (bs_at _ _ 10 (by omega))).trans (by rw [ea]), rfl⟩
    | k + 3, hk => omega
  have hcs3 : ∀ k, cs3 s.data.toList k ≤ s.size := by
    intro k
    have h1 := countP_three s.data.toList
    have h2 : s.data.toList.countP sp ≤ s.data.toList.length := List.countP_le_length
    unfold cs3
    split <;> omega
  have HC := Lib.hid hcs3
  obtain ⟨p, hp⟩ : ∃ p, p = s.data.toList.countP sp := ⟨_, rfl⟩
  have HP := Lib.hid hp
  clear hp
  clear t0 t1 t2 hcs3
  go_enter Tryz.func219, Tryz.ntmps219
  go_upto_if 26 with fail
  obtain ⟨d, hd⟩ : ∃ d, d = decide ((24 : Int) ≤ s.size) := ⟨_, rfl⟩
  rw [← hd]
  have HD := Lib.hid hd
  clear hd
  go_cut [5, 6] (fun s5 s6 wx => s5 = .int .i64 ((s.size : Int) + (p : Int)) ∧ s6 = .bool (p != 0) ∧ ∃ n, wx = w.drewN n)
  case first =>
    cases d
    rotate_left
    · go_wp2_with fail
      go_loopg [5, 6, 32] 3 (fun g v5 v6 v32 wx => ∃ k : Nat, k + g = 3 ∧ v32 = .int .i64 (k : Int) ∧ v5 = .int .i64 ((s.size : Int) + (cs3 s.data.toList k : Int)) ∧ v6 = .bool (cs3 s.data.toList k != 0) ∧ ∃ n, wx = w.drewN n)
      case atStart => exact ⟨0, rfl, rfl, by simp [cs3], rfl, 0, rfl⟩
      case round =>
        obtain ⟨k, hkg, rfl, rfl, rfl, hwx⟩ := hrel
        cases gk with
        | zero =>
          obtain rfl : k = 3 := by omega
          have h3 : cs3 s.data.toList 3 = p := by rw [HP.out]; exact (countP_three _).symm
          rw [h3]
          go_wp2_with fail
          go_meet
          exact ⟨rfl, rfl, hwx⟩
        | succ g =>
          have hk : k < 3 := by omega
          have hkz : (k : Int) < 3 := by omega
          obtain ⟨c, r, cc, ck, cm, hck⟩ := hkk.out k hk
          have hwr : wr.cell? ⟨T, k, none⟩ = some (.string ⟨#[c]⟩) ∧ wr.cell? ⟨M, c.toNat, none⟩ = some (.slice (some ⟨r, 0, none⟩) 2 cc) := by
            obtain ⟨n, rfl⟩ := hwx
            exact ⟨ck, cm⟩
          obtain ⟨ck', cm'⟩ := hwr
          have hcb := c.toNat_lt
          have hcbz : (c.toNat : Int) < 256 := by omega
          obtain ⟨q, hq⟩ : ∃ q, q = s.data.toList.count c := ⟨_, rfl⟩
          have hcnt := Tryz.strings_Count_one s c wr
          unfold Lib.countByte at hcnt
          rw [← hq] at hcnt hck
          obtain ⟨a, ha⟩ : ∃ a, a = cs3 s.data.toList k := ⟨_, rfl⟩
          have hb1 := HC.out (k + 1)
          rw [← ha]
          rw [← ha] at hck
          rw [hck] at hb1
          have hix : (({data := #[c]} : ByteArray)[0]'(by show 0 < 1; omega)).toNat = c.toNat := rfl
          have wr1 : IntKind.i64.wrap 1 = 1 := IntWalk.i64_in _ (by omega)
          have wrq : IntKind.i64.wrap (q : Int) = (q : Int) := IntWalk.i64_in _ (by omega)
          have wra : IntKind.i64.wrap ((s.size : Int) + (a : Int) + (q : Int)) = (s.size : Int) + (a : Int) + (q : Int) := IntWalk.i64_in _ (by omega)
          have wrk : IntKind.i64.wrap ((k : Int) + 1) = (k : Int) + 1 := IntWalk.i64_in _ (by omega)
          have HW := Lib.hid (And.intro hwx hck)
          clear hwx hck ck cm hq ha
          by_cases hq0 : q = 0
          · have hq0b : ((q : Int) != 0) = false := bne_eq_false_iff_eq.mpr (by omega)
            go_wp2_with fail
            refine hcnt.mono ?_
            rintro e w' ⟨rfl, rfl⟩
            go_wp2_with fail
            obtain ⟨hwx, hck⟩ := HW.out
            go_roundg g
            case measure => omega
            case rel => exact ⟨k + 1, by omega, rfl, by rw [hck, hq0]; rfl, by rw [hck, hq0]; rfl, hwx⟩
          · have hq0b : ((q : Int) != 0) = true := bne_iff_ne.mpr (by omega)
            go_wp2_with fail
            refine hcnt.mono ?_
            rintro e w' ⟨rfl, rfl⟩
            go_wp2_with fail
            go_quiet (fail)
            go_wp2_with fail
            obtain ⟨hwx, hck⟩ := HW.out
            go_roundg g
            case measure => omega
            case rel => exact ⟨k + 1, by omega, rfl, by rw [hck, Int.natCast_add, Int.add_assoc], by rw [hck]; exact congrArg Value.bool (bne_iff_ne.mpr (by omega)).symm, drewN_both hwx _⟩
    · go_wp2_with fail
      go_loopg [5, 6, 10] s.size (fun g v5 v6 v10 wx => ∃ i : Nat, i + g = s.size ∧ v10 = .int .i64 (i : Int) ∧ v5 = .int .i64 ((s.size : Int) + ((s.data.toList.take i).countP sp : Int)) ∧ v6 = .bool ((s.data.toList.take i).countP sp != 0) ∧ ∃ n, wx = w.drewN n)
      case atStart => exact ⟨0, by omega, rfl, by simp, by simp, 0, rfl⟩
      case round =>
        obtain ⟨i, hig, rfl, rfl, rfl, hwx⟩ := hrel
        cases gk with
        | zero =>
          obtain rfl : i = s.size := by omega
          rw [List.take_of_length_le (by omega), ← HP.out]
          go_wp2_with fail
          go_meet
          exact ⟨rfl, rfl, hwx⟩
        | succ g =>
          have hi : i < s.size := by omega
          have hiz : (i : Int) < s.size := by omega
          have hi0 : (0 : Int) ≤ i := by omega
          obtain ⟨x, hx⟩ : ∃ x : UInt8, s[i]'hi = x := ⟨_, rfl⟩
          have hxl : s.data.toList[i]? = some x := by rw [← hx]; exact Lib.data_getElem? s i hi
          have hxb := x.toNat_lt
          have hxz : (x.toNat : Int) < 256 := by omega
          have wri : IntKind.i64.wrap ((i : Int) + 1) = (i : Int) + 1 := IntWalk.i64_in _ (by omega)
          have wr1 : IntKind.i64.wrap 1 = 1 := IntWalk.i64_in _ (by omega)
          obtain ⟨a, ha⟩ : ∃ a, a = (s.data.toList.take i).countP sp := ⟨_, rfl⟩
          have hal : a ≤ s.size := by
            have h1 : (s.data.toList.take i).countP sp ≤ (s.data.toList.take i).length := List.countP_le_length
            rw [List.length_take] at h1
            omega
          have hnext : (s.data.toList.take (i + 1)).countP sp = a + (if sp x then 1 else 0) := by
            rw [List.take_add_one, hxl, List.countP_append, ha]
            simp [List.countP_cons]
          rw [← ha]
          have wra : IntKind.i64.wrap ((s.size : Int) + (a : Int) + 1) = (s.size : Int) + (a : Int) + 1 := IntWalk.i64_in _ (by omega)
          have hfx := bs_byte HB.out.1 HB.out.2.2.1 HB.out.2.2.2.1 HB.out.2.2.2.2.1 HB.out.2.2.2.2.2 x
          cases hspx : sp x
          · have hc : wr.cell? ⟨M, x.toNat, none⟩ = some (.slice none 0 0) := by
              obtain ⟨n, rfl⟩ := hwx
              exact hfx.1 hspx
            rw [hspx] at hnext
            have HW := Lib.hid (And.intro hwx hnext)
            have hne := nil_ne
            clear hwx hnext hfx ha hxl hspx
            go_wp2_with fail
            obtain ⟨hwx, hnext⟩ := HW.out
            go_roundg g
            case measure => omega
            case rel => exact ⟨i + 1, by omega, rfl, by rw [hnext]; rfl, by rw [hnext]; rfl, hwx⟩
          · obtain ⟨r, cc, hcr⟩ := hfx.2 hspx
            have hc : wr.cell? ⟨M, x.toNat, none⟩ = some (.slice (some ⟨r, 0, none⟩) 2 cc) := by
              obtain ⟨n, rfl⟩ := hwx
              exact hcr
            rw [hspx] at hnext
            have HW := Lib.hid (And.intro hwx hnext)
            clear hwx hnext hfx ha hxl hspx hcr
            go_wp2_with fail
            obtain ⟨hwx, hnext⟩ := HW.out
            go_roundg g
            case measure => omega
            case rel => exact ⟨i + 1, by omega, rfl, by rw [hnext]; simp [Int.add_assoc], by rw [hnext]; simp, hwx⟩
  case rest =>
    obtain ⟨rfl, rfl, hwx⟩ := hcut
    have hbc : Below w.heap.size w wc := by
      obtain ⟨n, rfl⟩ := hwx
      exact bdN (Below.refl _ w) _
    clear hwx
    by_cases hp0 : p = 0
    · have hq : quoteL s.data.toList = s.data.toList := quoteL_same _ (by rw [← HP.out]; exact hp0)
      have HQ := Lib.hid (And.intro hq hbc)
      clear hq hbc
      subst hp0
      go_wp2_with fail
      go_ret
      exact ⟨by rw [HQ.out.1]; rfl, HQ.out.2⟩
    · have hp0b : (p != 0) = true := bne_iff_ne.mpr hp0
      rw [hp0b]
      have hqn : (quoteL s.data.toList).length = s.size + p := by rw [quoteL_length, hL, HP.out]
      have hps : p ≤ s.size := by rw [HP.out, ← hL]; exact List.countP_le_length
      obtain ⟨N, hN⟩ : ∃ N : Nat, N = s.size + p := ⟨_, rfl⟩
      rw [show (s.size : Int) + (p : Int) = (N : Int) by omega]
      rw [← hN] at hqn
      have hN8 : N ≤ 8000000000 := by omega
      have hi5 : ∃ i, Tryz.prog.info? 5 = some i ∧ i.zero = some (.int .u8 0) ∧ i.size = 1 ∧ i.bytes = 1 := ⟨_, rfl, rfl, rfl, rfl⟩
      obtain ⟨i5, hi, hz0, hz1, hz2⟩ := hi5
      have hmk : (Instr.makeSlice 90 (.int .i64 (N : Int)) (.int .i64 (N : Int))).run Tryz.prog wc = .ok (.slice (some ⟨wc.heap.size, 0, none⟩) N N) (wc.alloc (.cells (madeCells #[.int .u8 0] N) 5)) := by
        have h := run_make (P := Tryz.prog) wc 90 5 i5 (.int .u8 0) (by kernel_rfl) hi hz0 .i64 .i64 N N (by omega) (by omega) (by rw [hz2]; omega) (by omega)
        rw [hz1, Nat.mul_one] at h
        exact h
      obtain ⟨B, hB⟩ : ∃ B, B = wc.heap.size := ⟨_, rfl⟩
      have hwB : w.heap.size ≤ B := by rw [hB]; exact hbc.size
      have HW := Lib.hid (And.intro hqn (And.intro hbc (And.intro hwB hN)))
      rw [← hB] at hmk
      have HBz := Lib.hid hB
      clear hi hz0 hz1 hz2 hbc hqn hwB hN hp0 hp0b hps hB
      go_wp2_with fail
      have hlm : (madeCells #[.int .u8 0] N).toList.length = N := by rw [Array.length_toList, size_madeCells]
      go_loopg [13, 14] s.size (fun g v13 v14 wx => ∃ (i : Nat) (Z : List Value), i + g = s.size ∧ v14 = .int .i64 (i : Int) ∧ v13 = .int .i64 ((quoteL (s.data.toList.take i)).length : Int) ∧ wx.heap[B]? = some (.cells Z.toArray 5 (0, 0)) ∧ Z.length = N ∧ Z.take (quoteL (s.data.toList.take i)).length = bz (quoteL (s.data.toList.take i)) ∧ Below w.heap.size w wx)
      case atStart => exact ⟨0, (madeCells #[.int .u8 0] N).toList, by omega, rfl, rfl, by rw [Array.toArray_toList]; exact blk_new' HBz.out.symm _, hlm, rfl, HW.out.2.1.alloc HW.out.2.1.size _⟩
      case round =>
        obtain ⟨i, Z, hig, rfl, rfl, hblk, hZl, hZt, hbw⟩ := hrel
        cases gk with
        | zero =>
          obtain rfl : i = s.size := by omega
          have htk : s.data.toList.take s.size = s.data.toList := List.take_of_length_le (by omega)
          rw [htk, HW.out.1, List.take_of_length_le (by omega)] at hZt
          have hcv : (convert 90 9 (.slice (some ⟨B, 0, none⟩) N N)).run Tryz.prog wr = .ok (.string ⟨(quoteL s.data.toList).toArray⟩) wr := by
            have h := run_convert_bytes_back (P := Tryz.prog) wr 90 9 5 ⟨B, 0, none⟩ N (quoteL s.data.toList) (by kernel_rfl) (by kernel_rfl) (by kernel_rfl) (fun j hj => by
              rw [Addr.add_mid, Nat.zero_add, bkC hblk, hZt]
              simp [bz, hj])
            rw [HW.out.1] at h
            exact h
          have HE := Lib.hid hbw
          clear hbw hblk hZt hZl hlm
          go_wp2_with fail
          go_ret
          exact ⟨rfl, HE.out⟩
        | succ g =>
          have hi : i < s.size := by omega
          have hiz : (i : Int) < s.size := by omega
          have hi0 : (0 : Int) ≤ i := by omega
          obtain ⟨x, hx⟩ : ∃ x : UInt8, s[i]'hi = x := ⟨_, rfl⟩
          have hxl : s.data.toList[i]? = some x := by rw [← hx]; exact Lib.data_getElem? s i hi
          have hxb := x.toNat_lt
          have hxz : (x.toNat : Int) < 256 := by omega
          have wri : IntKind.i64.wrap ((i : Int) + 1) = (i : Int) + 1 := IntWalk.i64_in _ (by omega)
          have hnext : quoteL (s.data.toList.take (i + 1)) = quoteL (s.data.toList.take i) ++ qb x := by
            rw [List.take_add_one, hxl]
            simp [quoteL]
          have hwhole : quoteL s.data.toList = quoteL (s.data.toList.take (i + 1)) ++ quoteL (s.data.toList.drop (i + 1)) := by
            unfold quoteL
            rw [← List.flatMap_append, List.take_append_drop]
          obtain ⟨y, hy⟩ : ∃ y, y = quoteL (s.data.toList.take i) := ⟨_, rfl⟩
          rw [← hy] at hnext hZt
          rw [← hy]
          have hJN : y.length + (qb x).length ≤ N := by
            have h := congrArg List.length hwhole
            rw [HW.out.1, hnext, List.length_append, List.length_append] at h
            omega
          obtain ⟨J, hJ⟩ : ∃ J, J = y.length := ⟨_, rfl⟩
          rw [← hJ] at hJN hZt
          rw [← hJ]
          have hfx := bs_byte HB.out.1 HB.out.2.2.1 HB.out.2.2.2.1 HB.out.2.2.2.2.1 HB.out.2.2.2.2.2 x
          have hMl := bkL HB.out.1
          cases hspx : sp x
          · have hc : wr.cell? ⟨M, x.toNat, none⟩ = some (.slice none 0 0) := pw_cell_below hbw (hfx.1 hspx)
            have hq1 := qb_no x hspx
            rw [hq1] at hnext hJN
            have hJn : J < N := by simp at hJN; omega
            have hJz : (J : Int) < N := by omega
            have hJ0 : (0 : Int) ≤ J := by omega
            have wrj : IntKind.i64.wrap ((J : Int) + 1) = (J : Int) + 1 := IntWalk.i64_in _ (by omega)
            have hne := nil_ne
            obtain ⟨u, hu⟩ : ∃ u, wr.cell? ⟨B, J, none⟩ = some u := ⟨Z[J]'(by omega), (bkC hblk J).trans (by simp [hZl, hJn])⟩
            have uB := bkF hblk J
            have HQ := Lib.hid (And.intro hblk (And.intro hZl (And.intro hZt (And.intro hbw (And.intro hnext (And.intro hJ hy))))))
            clear hblk hZl hZt hbw hnext hwhole hfx hxl hspx hq1 hJN hJ hy hlm
            go_wp2_with fail
            obtain ⟨hblk, hZl, hZt, hbw, hnext, hJ, hy⟩ := HQ.out
            go_roundg g
            case measure => omega
            case rel =>
              refine ⟨i + 1, Z.set J (.int .u8 (x.toNat : Int)), by omega, rfl, by rw [hnext, List.length_append, ← hJ]; rfl, ?_, by rw [List.length_set]; exact hZl, ?_, hbw.setCell (show w.heap.size ≤ B from HW.out.2.2.1) _⟩
              · exact bkP hblk J _ (by simp)
              · rw [hnext, List.length_append, ← hJ, List.length_singleton, List.take_add_one, List.take_set_of_le (Nat.le_refl _), hZt, List.getElem?_set_self (by omega)]
                simp [bz]
          · obtain ⟨b0, b1, r, cc, hcr, hr0, hr1, hqx⟩ := bs_row HB.out.1 HB.out.2.2.2.1 HB.out.2.2.2.2.1 HB.out.2.2.2.2.2 x hspx
            have hc : wr.cell? ⟨M, x.toNat, none⟩ = some (.slice (some ⟨r, 0, none⟩) 2 cc) := pw_cell_below hbw hcr
            have hr0' : wr.cell? ⟨r, 0, none⟩ = some (.int .u8 b0.toNat) := pw_cell_below hbw hr0
            have hr1' : wr.cell? ⟨r, 1, none⟩ = some (.int .u8 b1.toNat) := pw_cell_below hbw hr1
            rw [hqx] at hnext hJN
            have hJN2 : J + 2 ≤ N := hJN
            have hJz : (J : Int) ≤ N := by omega
            have hJ0 : (0 : Int) ≤ J := by omega
            have hJne : N ≠ J := by omega
            have wrj : IntKind.i64.wrap ((J : Int) + 2) = (J : Int) + 2 := IntWalk.i64_in _ (by omega)
            have HQ := Lib.hid (And.intro hblk (And.intro hZl (And.intro hZt (And.intro hbw (And.intro hnext (And.intro hJ (And.intro hy (And.intro hr0' hr1'))))))))
            clear hblk hZl hZt hbw hnext hwhole hfx hxl hspx hqx hJN hJ hy hlm hcr hr0 hr1 hr0' hr1'
            go_wp2_with fail
            have lg : wr.drew.heap[B]? = some (.cells Z.toArray 5 (0, 0)) := HQ.out.1
            have ln : [Value.int .u8 (b0.toNat : Int), .int .u8 (b1.toNat : Int)].length = Nat.min 2 (N - J) := by
              show 2 = min 2 (N - J)
              omega
            have lp : 0 < [Value.int .u8 (b0.toNat : Int), .int .u8 (b1.toNat : Int)].length → (some (⟨B, J, none⟩ : Addr)) = some ⟨B, J, none⟩ ∧ ∃ ad, (some (⟨r, 0, none⟩ : Addr)) = some ad ∧ ∀ j v, [Value.int .u8 (b0.toNat : Int), .int .u8 (b1.toNat : Int)][j]? = some v → wr.drew.cell? (ad.add j) = some v := by
              refine fun _ => ⟨rfl, _, rfl, fun j v hj => ?_⟩
              rw [Addr.add_mid, Nat.zero_add]
              match j, hj with
              | 0, hj => simp at hj; subst hj; exact HQ.out.2.2.2.2.2.2.2.1
              | 1, hj => simp at hj; subst hj; exact HQ.out.2.2.2.2.2.2.2.2
              | j + 2, hj => simp at hj
            have lf : J + [Value.int .u8 (b0.toNat : Int), .int .u8 (b1.toNat : Int)].length ≤ Z.length := by rw [HQ.out.2.1]; exact hJN2
            have l1 : ∀ v ∈ [Value.int .u8 (b0.toNat : Int), .int .u8 (b1.toNat : Int)], v.oneCell' = true := by simp [Value.oneCell']
            have lb : Below w.heap.size w wr.drew := HQ.out.2.2.2.1.drew
            have LL := Lib.hid (And.intro lg (And.intro ln (And.intro lp (And.intro lf (And.intro l1 lb)))))
            clear lg ln lp lf l1 lb
            go_region_law (refine step_copy_splice rfl (.tmp 105) (.tmp 111) 90 90 rfl 5 (by kernel_rfl) (by kernel_rfl) (some ⟨B, J, none⟩) (some ⟨r, 0, none⟩) (N - J) (N - J) 2 cc rfl rfl B J Z 5 LL.out.1 [.int .u8 (b0.toNat : Int), .int .u8 (b1.toNat : Int)] LL.out.2.1 LL.out.2.2.1 LL.out.2.2.2.1 LL.out.2.2.2.2.1 w.heap.size w LL.out.2.2.2.2.2 HW.out.2.2.1 ?_; intro w4 hg4 hb4)
            all_goals
              have H4 := Lib.hid (And.intro hg4 hb4)
              clear hg4 hb4
              go_wp2_with fail
              obtain ⟨hg4, hb4⟩ := H4.out
              obtain ⟨hblk, hZl, hZt, hbw, hnext, hJ, hy, _⟩ := HQ.out
              go_roundg g
              case measure => omega
              case rel =>
                have hlen : (quoteL (s.data.toList.take (i + 1))).length = J + 2 := by rw [hnext, List.length_append, ← hJ]; rfl
                have hfit : J + [Value.int .u8 (b0.toNat : Int), .int .u8 (b1.toNat : Int)].length ≤ Z.length := by rw [hZl]; exact hJN2
                refine ⟨i + 1, splice Z J [.int .u8 (b0.toNat : Int), .int .u8 (b1.toNat : Int)], by omega, rfl, by rw [hlen, Int.natCast_add]; rfl, hg4.out, by rw [length_splice _ _ _ hfit]; exact hZl, ?_, hb4⟩
                rw [hlen, hnext]
                unfold splice
                rw [← List.append_assoc, List.take_append_of_le_length (by simp; omega), List.take_of_length_le (by simp; omega), hZt]
                simp [bz]
end Go.Proofs.YthabooeapfepnaaGreatDoor.Given
