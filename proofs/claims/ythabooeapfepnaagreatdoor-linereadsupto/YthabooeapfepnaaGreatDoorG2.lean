import Derived.Test.YthabooeapfepnaaGreatDoorG1
import Derived.WalkMore
import Derived.Lib.Hide
import Derived.IntWalk
import Derived.Lib.OthersKept
import Derived.Laws.RangeAny
import Derived.Deep.LoopGhost
namespace Go.Proofs.YthabooeapfepnaaGreatDoor.Given
open Go.RowKit Go.Proofs.YthabooeapfepnaaGreatDoorW.PrintWords Go.Shelf
set_option linter.unusedVariables false
theorem u8_high (a : Nat) (h : a < 64) : 128 ≤ (UInt8.ofNat (128 + a)).toNat := by
  simp [UInt8.toNat_ofNat']; omega
theorem encode_shape (r : Int) (h0 : 128 ≤ r) : ∃ n : Nat, 1 ≤ n ∧ n ≤ 3 ∧ (Utf8.encode r).size = n + 1 ∧ ∀ b, (Utf8.encode r).data.toList[n]? = some b → 128 ≤ b.toNat := by
  obtain ⟨c, hc, h⟩ : ∃ c : Nat, 128 ≤ c ∧ (if Utf8.valid r = true then r.toNat else Utf8.runeError) = c := by
    split
    · exact ⟨_, by omega, rfl⟩
    · exact ⟨_, by unfold Utf8.runeError; omega, rfl⟩
  have e : Utf8.encode r = (if c < 0x80 then ⟨#[UInt8.ofNat c]⟩
    else if c < 0x800 then ⟨#[UInt8.ofNat (0xC0 + c / 64), UInt8.ofNat (0x80 + c % 64)]⟩
    else if c < 0x10000 then ⟨#[UInt8.ofNat (0xE0 + c / 4096), UInt8.ofNat (0x80 + c / 64 % 64), UInt8.ofNat (0x80 + c % 64)]⟩
    else ⟨#[UInt8.ofNat (0xF0 + c / 262144), UInt8.ofNat (0x80 + c / 4096 % 64), UInt8.ofNat (0x80 + c / 64 % 64), UInt8.ofNat (0x80 + c % 64)]⟩) := by
    rw [← h]; rfl
  have hm : c % 64 < 64 := Nat.mod_lt _ (by decide)
  rw [e, if_neg (by omega)]
  split
  · exact ⟨1, by omega, by omega, rfl, fun b hb => by obtain rfl := Option.some.inj hb; exact u8_high _ hm⟩
  · split
    · exact ⟨2, by omega, by omega, rfl, fun b hb => by obtain rfl := Option.some.inj hb; exact u8_high _ hm⟩
    · exact ⟨3, by omega, by omega, rfl, fun b hb => by obtain rfl := Option.some.inj hb; exact u8_high _ hm⟩
theorem indexByte_none (l : List UInt8) (c : UInt8) (h : ∀ (j : Nat) b, l[j]? = some b → b ≠ c) : Lib.indexByte l c = -1 := by
  induction l with
  | nil => rfl
  | cons b l ih =>
    have h0 : (b == c) = false := beq_eq_false_iff_ne.mpr (h 0 b rfl)
    have ih' := ih (fun j x hx => h (j + 1) x (by simpa using hx))
    simp [Lib.indexByte, h0, ih']
set_option maxHeartbeats 1000000 in
set_option maxRecDepth 100000 in
theorem indexRune_core (chars rs : ByteArray) (n : Nat) (r : Int) (w : World) (hn1 : 1 ≤ n) (hn3 : n ≤ 3) (hsz : rs.size = n + 1) (y : UInt8) (hrn : n < rs.size) (hy : rs[n]'hrn = y) (h0 : 128 ≤ r) (h1 : r ≤ 1114111) (hne : r ≠ 65533)
    (hrs : Utf8.encode r = rs) (h8 : chars.size ≤ 8) (hcy : ∀ h : n < chars.size, chars[n]'h ≠ y) (V : Bool) (cV : ∀ w, Calls Tryz.prog 142 #[.int .i32 r] w fun e w' => e = .returned (.bool V) ∧ w' = w)
    (cB : ∀ W, Calls Tryz.prog 78 #[.string (chars.extract (n + 1) chars.size), .int .u8 (y.toNat : Int)] W fun e w' => e = .returned (.int .i64 (-1)) ∧ w' = W) :
    Calls Tryz.prog 113 #[.string chars, .int .i32 r] w fun e w' => e = .returned (.int .i64 (-1)) ∧ Below w.heap.size w w' := by
  have c1 : (r == 65533) = false := beq_eq_false_iff_ne.mpr (by omega)
  cases V
  · go_enter Tryz.func113, Tryz.ntmps113
    go_wp2_with fail
    refine (cV _).mono ?_
    rintro e w' ⟨rfl, rfl⟩
    go_wp2
    go_ret
    exact ⟨rfl, Below.refl _ _⟩
  · have hT : decide (n < rs.size) = true := decide_eq_true hrn
    have hi : (n : Int) < (rs.size : Int) := by omega
    by_cases hlt : n < chars.size
    · obtain ⟨x, hx⟩ : ∃ x : UInt8, chars[n]'hlt = x := ⟨_, rfl⟩
      have hxy := hcy hlt
      rw [hx] at hxy
      have hd2 : ((x.toNat : Int) != (y.toNat : Int)) = true := bne_iff_ne.mpr (fun h => hxy (UInt8.toNat.inj (by omega)))
      have hlt' : (n : Int) < (chars.size : Int) := by omega
      have hltd : decide (n < chars.size) = true := decide_eq_true hlt
      have hsz2 : (n : Int) + 1 ≤ (chars.size : Int) := by omega
      go_enter Tryz.func113, Tryz.ntmps113
      go_wp2_with fail
      refine (cV _).mono ?_
      rintro e w' ⟨rfl, rfl⟩
      go_wp2_with fail
      go_step3
      go_wp2_with fail
      refine wp_loop_once ?_
      go_wp2_with fail
      go_step3
      go_wp2_with fail
      go_quiet (fail)
      obtain ⟨w2, hw2⟩ : ∃ w2, w2 = w'.drewN nq := ⟨_, rfl⟩
      rw [← hw2]
      have HB : Below w'.heap.size w' w2 := by rw [hw2]; exact bdN (Below.refl _ _) _
      clear hw2
      go_wp2_with fail
      clear hsz
      have hw1 : IntKind.i64.wrap ((n : Int) + 1) = (n : Int) + 1 := IntWalk.i64_in _ (by omega)
      have hw2 : (0 : Int) ≤ (n : Int) + 1 := by omega
      have hw3 : ((n : Int) + 1).toNat = n + 1 := by omega
      go_quiet ((go_at_call 78; exact Calls.quiet_of_same (cB _)))
      clear hw1 hw2 hw3
      go_wp2_with fail
      go_big_unhide
      simp only [Exit.noGoto_ret, Exit.inBlock, Exit.then]
      go_ret
      exact ⟨rfl, bdN HB _⟩
    · have hlt' : ¬ (n : Int) < (chars.size : Int) := by omega
      have hltd : decide (n < chars.size) = false := decide_eq_false hlt
      go_enter Tryz.func113, Tryz.ntmps113
      go_wp2_with fail
      refine (cV _).mono ?_
      rintro e w' ⟨rfl, rfl⟩
      go_wp2_with fail
      go_step3
      go_wp2_with fail
      refine wp_loop_once ?_
      go_wp2_with fail
      go_big_unhide
      simp only [Exit.noGoto_ret, Exit.inBlock]
      go_ret
      exact ⟨rfl, Below.refl _ _⟩
set_option maxHeartbeats 1000000 in
set_option maxRecDepth 100000 in
theorem indexRune_err (chars : ByteArray) (w : World) (ha : ∀ (j : Nat) b, chars.data.toList[j]? = some b → b.toNat < 128) :
    Calls Tryz.prog 113 #[.string chars, .int .i32 65533] w fun e w' => e = .returned (.int .i64 (-1)) ∧ Below w.heap.size w w' := by
  have HA := Lib.hid ha
  clear ha
  go_enter Tryz.func113, Tryz.ntmps113
  go_wp2
  go_loopg [5, 6] chars.size (fun g _ _ wx => ∃ i : Nat, i + g = chars.size ∧ wx.heap[w.heap.size]? = some (.stringIter chars i) ∧ Below w.heap.size w wx)
  case atStart => exact ⟨0, by omega, World.iter_heap w chars 0, (Below.refl _ w).alloc (Nat.le_refl _) _⟩
  case round =>
    obtain ⟨i, hig, hit, hbw⟩ := hrel
    cases gk with
    | zero =>
      obtain rfl : i = chars.size := by omega
      have hnx : ∀ ty, (Instr.next (.pointer (some ⟨w.heap.size, 0, none⟩)) true ty).run Tryz.prog wr = _ := fun ty => Lib.run_next_end_at wr w.heap.size chars chars.size ty hit (by omega)
      clear hit
      go_wp2
      go_ret
      exact ⟨rfl, hbw⟩
    | succ g =>
      have hi : i < chars.size := by omega
      obtain ⟨x, hx⟩ : ∃ x : UInt8, chars[i]'hi = x := ⟨_, rfl⟩
      have hxl : chars.data.toList[i]? = some x := by rw [← hx]; exact Lib.data_getElem? chars i hi
      have hx128 : x.toNat < 128 := HA.out i x hxl
      have hnx : ∀ ty, (Instr.next (.pointer (some ⟨w.heap.size, 0, none⟩)) true ty).run Tryz.prog wr = _ := fun ty => Lib.run_next_ascii_at wr w.heap.size chars i ty hit hi (by rw [hx]; exact hx128)
      rw [hx] at hnx
      have hit2 := Lib.iterAt_heap wr w.heap.size chars i (i + 1) hit
      have hbw2 := Lib.below_iterAt hbw (k := w.heap.size) (Nat.le_refl _) chars (i + 1)
      obtain ⟨W, hWd⟩ : ∃ W, wr.iterAt w.heap.size chars (i + 1) = W := ⟨_, rfl⟩
      rw [hWd] at hnx hit2 hbw2
      clear hxl hx hit hbw hWd
      have hne : ((x.toNat : Int) == 65533) = false := beq_eq_false_iff_ne.mpr (by omega)
      go_wp2
      go_roundg g
      case measure => omega
      case rel => exact ⟨i + 1, by omega, hit2, hbw2⟩
theorem decode_max (s : ByteArray) (pos : Nat) : (Utf8.decode s pos).1 ≤ 1114111 := by
  have hb : ∀ k, (s.get! (pos + k)).toNat < 256 := fun k => (s.get! (pos + k)).toNat_lt
  have h0 := hb 0; have h1 := hb 1; have h2 := hb 2; have h3 := hb 3
  simp only [Utf8.decode]
  repeat' split
  all_goals simp_all [Utf8.runeError, Utf8.valid]
  all_goals omega
theorem get_bang (s : ByteArray) (j : Nat) (h : j < s.size) : s.data.toList[j]? = some (s.get! j) := by
  rw [Lib.data_getElem? s j h]
  have := get_at s j h
  rw [Nat.add_zero] at this
  rw [this]
theorem decode_tail (s : ByteArray) (i : Nat) (h : i < s.size) (ha : 128 ≤ (s[i]'h).toNat) (j : Nat) (h1 : i ≤ j) (h2 : j < i + (Utf8.decode s i).2) :
    ∃ b, s.data.toList[j]? = some b ∧ 128 ≤ b.toNat := by
  have g0 : 128 ≤ (s.get! i).toNat := by have := get_at s i h; rw [Nat.add_zero] at this; rw [this]; exact ha
  have key : ∀ k, k < (Utf8.decode s i).2 → k = 0 ∨ (i + k < s.size ∧ 128 ≤ (s.get! (i + k)).toNat) := by
    intro k hk
    unfold Utf8.decode at hk
    simp only [] at hk
    rw [if_neg (by rw [Nat.add_zero]; omega)] at hk
    split at hk
    · rename_i c
      simp only [Bool.and_eq_true, beq_iff_eq, decide_eq_true_eq] at c
      split at hk
      · simp only [] at hk
        obtain rfl | rfl : k = 0 ∨ k = 1 := by omega
        · exact .inl rfl
        · exact .inr ⟨c.2.1, by omega⟩
      · simp only [] at hk; exact .inl (by omega)
    · split at hk
      · rename_i c
        simp only [Bool.and_eq_true, beq_iff_eq, decide_eq_true_eq] at c
        split at hk
        · simp only [] at hk
          obtain rfl | rfl | rfl : k = 0 ∨ k = 1 ∨ k = 2 := by omega
          · exact .inl rfl
          · exact .inr ⟨c.1.2.1, by omega⟩
          · exact .inr ⟨c.2.1, by omega⟩
        · simp only [] at hk; exact .inl (by omega)
      · split at hk
        · rename_i c
          simp only [Bool.and_eq_true, beq_iff_eq, decide_eq_true_eq] at c
          split at hk
          · simp only [] at hk
            obtain rfl | rfl | rfl | rfl : k = 0 ∨ k = 1 ∨ k = 2 ∨ k = 3 := by omega
            · exact .inl rfl
            · exact .inr ⟨c.1.1.2.1, by omega⟩
            · exact .inr ⟨c.1.2.1, by omega⟩
            · exact .inr ⟨c.2.1, by omega⟩
          · simp only [] at hk; exact .inl (by omega)
        · simp only [] at hk; exact .inl (by omega)
  obtain ⟨k, rfl⟩ : ∃ k, j = i + k := ⟨j - i, by omega⟩
  rcases key k (by omega) with rfl | ⟨hl, hg⟩
  · exact ⟨_, get_bang s _ h, g0⟩
  · exact ⟨_, get_bang s _ hl, hg⟩
theorem indexRune_high (chars : ByteArray) (r : Int) (w : World) (ha : ∀ (j : Nat) b, chars.data.toList[j]? = some b → b.toNat < 128) (h8 : chars.size ≤ 8) (h0 : 128 ≤ r) (h1 : r ≤ 1114111) :
    Calls Tryz.prog 113 #[.string chars, .int .i32 r] w fun e w' => e = .returned (.int .i64 (-1)) ∧ Below w.heap.size w w' := by
  by_cases hne : r = 65533
  · subst hne
    exact indexRune_err chars w ha
  · obtain ⟨n, hn1, hn3, hsz, hb⟩ := encode_shape r h0
    have hrn : n < (Utf8.encode r).size := by omega
    refine indexRune_core chars _ n r w hn1 hn3 hsz _ hrn rfl h0 h1 hne rfl h8 ?_ _ (fun w => Tryz.utf8_ValidRune r w) ?_
    · intro h e
      have k1 := ha n _ (Lib.data_getElem? chars n h)
      have k2 := hb _ (Lib.data_getElem? _ n hrn)
      rw [e] at k1
      omega
    · intro W
      have k2 := hb _ (Lib.data_getElem? _ n hrn)
      have hc := Tryz.strings_IndexByte (chars.extract (n + 1) chars.size) (((Utf8.encode r)[n]'hrn).toNat : Int) W
      rw [indexByte_none] at hc
      · exact hc
      · intro j b hj e
        rw [Lib.extract_data, List.getElem?_take] at hj
        split at hj
        · rw [List.getElem?_drop] at hj
          have k1 := ha _ _ hj
          subst e
          simp at k1
          omega
        · cases hj
set_option maxHeartbeats 1000000 in
set_option maxRecDepth 100000 in
theorem indexAny_short (s chars : ByteArray) (w : World) (h2 : 2 ≤ chars.size) (hc8 : chars.size ≤ 8) (h8 : s.size ≤ 8) (ha : ∀ (j : Nat) b, chars.data.toList[j]? = some b → b.toNat < 128) :
    Calls Tryz.prog 76 #[.string s, .string chars] w fun e w' => e = .returned (.int .i64 (Lib.indexAny s.data.toList chars.data.toList)) ∧ Below w.heap.size w w' := by
  have HA := Lib.hid ha
  clear ha
  have hemp : chars.toList.isEmpty = false := by
    rw [Lib.toList_data]
    cases h : chars.data.toList with
    | nil => have := Lib.size_eq chars; rw [h, List.length_nil] at this; omega
    | cons _ _ => rfl
  have hn1 : ((chars.size : Int) == 1) = false := beq_eq_false_iff_ne.2 (by omega)
  have h8z : decide ((8 : Int) < (s.size : Int)) = false := decide_eq_false (by omega)
  go_enter Tryz.func76, Tryz.ntmps76
  go_wp2_with (go_at_call 114; refine (Tryz.strings_shouldUseASCIISet _ _).mono ?_; rintro e w' ⟨rfl, hw⟩; rw [hw, h8z])
  go_loopg [9, 10] s.size (fun g _ _ wx => ∃ i : Nat, s.size ≤ i + g ∧ i ≤ s.size ∧ wx.heap[w.heap.size]? = some (.stringIter s i) ∧ Below w.heap.size w wx ∧ A0q (Lib.NoAny s.data.toList chars.data.toList i))
  case atStart => exact ⟨0, by omega, by omega, World.iter_heap w s 0, (Below.refl _ w).alloc (Nat.le_refl _) _, ⟨Lib.NoAny.zero _ _⟩⟩
  case round =>
    obtain ⟨i, hig, his, hit, hbw, HN⟩ := hrel
    by_cases hi : i < s.size
    · obtain ⟨g, rfl⟩ : ∃ g, gk = g + 1 := ⟨gk - 1, by omega⟩
      obtain ⟨x, hx⟩ : ∃ x : UInt8, s[i]'hi = x := ⟨_, rfl⟩
      have hxl : s.data.toList[i]? = some x := by rw [← hx]; exact Lib.data_getElem? s i hi
      by_cases hx128 : x.toNat < 128
      · have hnx : ∀ ty, (Instr.next (.pointer (some ⟨w.heap.size, 0, none⟩)) true ty).run Tryz.prog wr = _ := fun ty => Lib.run_next_ascii_at wr w.heap.size s i ty hit hi (by rw [hx]; exact hx128)
        rw [hx] at hnx
        have hit2 := Lib.iterAt_heap wr w.heap.size s i (i + 1) hit
        have hbw2 := Lib.below_iterAt hbw (k := w.heap.size) (Nat.le_refl _) s (i + 1)
        obtain ⟨W, hWd⟩ : ∃ W, wr.iterAt w.heap.size s (i + 1) = W := ⟨_, rfl⟩
        rw [hWd] at hnx hit2 hbw2
        have Hx : A0q (s.data.toList[i]? = some x) := ⟨hxl⟩
        clear hxl hx hit hbw hWd
        have hcon := Lib.contains_iff_indexByte chars.data.toList x
        have hback : ((x.toNat : Int)).toNat.toUInt8 = x := by simp
        cases hin : chars.data.toList.contains x
        · rw [hin] at hcon
          have hlt : ¬ ((0 : Int) ≤ Lib.indexByte chars.data.toList x) := of_decide_eq_false hcon.symm
          clear hcon
          go_wp2_with (go_at_call 113; refine (Tryz.strings_IndexRune_ascii _ _ _ (by omega) (by omega)).mono ?_; rintro e w' ⟨rfl, hw⟩; rw [hw, hback])
          go_roundg g
          case measure => omega
          case rel => exact ⟨i + 1, by omega, by omega, hit2, hbw2, ⟨HN.out.succ Hx.out hin⟩⟩
        · rw [hin] at hcon
          have hge : (0 : Int) ≤ Lib.indexByte chars.data.toList x := of_decide_eq_true hcon.symm
          clear hcon
          go_wp2_with (go_at_call 113; refine (Tryz.strings_IndexRune_ascii _ _ _ (by omega) (by omega)).mono ?_; rintro e w' ⟨rfl, hw⟩; rw [hw, hback])
          go_ret
          exact ⟨by rw [Lib.indexAny_hit HN.out Hx.out hin]; rfl, hbw2⟩
      · have hnx : ∀ ty, (Instr.next (.pointer (some ⟨w.heap.size, 0, none⟩)) true ty).run Tryz.prog wr = _ := fun ty => Lib.run_next_any_at wr w.heap.size s i ty hit hi
        have hwd := Lib.width_pos s i
        have hhi := decode_high s i hi (by rw [hx]; omega)
        have hle : (Utf8.decode s i).1 ≤ 1114111 := decode_max s i
        have HT : A0q (∀ (j : Nat), i ≤ j → j < i + (Utf8.decode s i).2 → ∃ b, s.data.toList[j]? = some b ∧ 128 ≤ b.toNat) := ⟨fun j h1 h2 => decode_tail s i hi (by rw [hx]; omega) j h1 h2⟩
        obtain ⟨R, hR⟩ : ∃ R, (Utf8.decode s i).1 = R := ⟨_, rfl⟩
        obtain ⟨K, hK⟩ : ∃ K, (Utf8.decode s i).2 = K := ⟨_, rfl⟩
        rw [hR] at hhi hle
        rw [hK] at hwd HT hhi
        rw [hR, hK] at hnx
        have hit2 := Lib.iterAt_heap wr w.heap.size s i (i + K) hit
        have hbw2 := Lib.below_iterAt hbw (k := w.heap.size) (Nat.le_refl _) s (i + K)
        obtain ⟨W, hWd⟩ : ∃ W, wr.iterAt w.heap.size s (i + K) = W := ⟨_, rfl⟩
        rw [hWd] at hnx hit2 hbw2
        clear hxl hx hit hbw hWd hR hK
        have hKs : i + K ≤ s.size := by
          obtain ⟨b, hb, _⟩ := HT.out (i + K - 1) (by omega) (by omega)
          have := (List.getElem?_eq_some_iff.1 hb).1
          rw [← Lib.size_eq] at this
          omega
        have cR : ∀ W, Calls Tryz.prog 113 #[.string chars, .int .i32 (R : Int)] W fun e w' => e = .returned (.int .i64 (-1)) ∧ Below W.heap.size W w' := fun W => indexRune_high chars R W HA.out hc8 (by omega) (by omega)
        go_wp2_with (go_at_call 113; refine (cR _).mono ?_; rintro e w' ⟨rfl, hb3⟩)
        go_roundg g
        case measure => omega
        case rel =>
          refine ⟨i + K, by omega, hKs, (hb3.block _ (Array.getElem?_eq_some_iff.1 hit2).1).trans hit2, below_then hbw2 hbw2.size hb3, ⟨fun j b hj hb => ?_⟩⟩
          by_cases hji : j < i
          · exact HN.out j b hji hb
          · obtain ⟨b', hb', h128⟩ := HT.out j (by omega) hj
            rw [hb] at hb'
            obtain rfl := Option.some.inj hb'
            cases hcc : chars.data.toList.contains b
            · rfl
            · obtain ⟨q, hq, hqe⟩ := List.getElem_of_mem (List.contains_iff_mem.1 hcc)
              have := HA.out q b (by rw [List.getElem?_eq_getElem hq, hqe])
              omega
    · obtain rfl : i = s.size := by omega
      have hnx : ∀ ty, (Instr.next (.pointer (some ⟨w.heap.size, 0, none⟩)) true ty).run Tryz.prog wr = _ := fun ty => Lib.run_next_end_at wr w.heap.size s s.size ty hit (by omega)
      clear hit
      go_wp2
      go_ret
      exact ⟨by rw [Lib.indexAny_none (by rw [← Lib.size_eq]; exact HN.out)]; rfl, hbw⟩
def smallAscii (c : List UInt8) : Bool := decide (2 ≤ c.length) && decide (c.length ≤ 8) && c.all (fun b => decide (b.toNat < 128))
theorem smallAscii_of {c : ByteArray} (h : smallAscii c.data.toList = true) : 2 ≤ c.size ∧ c.size ≤ 8 ∧ ∀ (j : Nat) b, c.data.toList[j]? = some b → b.toNat < 128 := by
  unfold smallAscii at h
  simp only [Bool.and_eq_true, decide_eq_true_eq, List.all_eq_true] at h
  rw [← Lib.size_eq] at h
  exact ⟨h.1.1, h.1.2, fun j b hb => h.2 b (List.mem_of_getElem? hb)⟩
theorem indexAny_small (s chars : ByteArray) (w : World) (hs : s.size ≤ 4000000000) (h : smallAscii chars.data.toList = true) :
    Calls Tryz.prog 76 #[.string s, .string chars] w fun e w' => e = .returned (.int .i64 (Lib.indexAny s.data.toList chars.data.toList)) ∧ Below w.heap.size w w' := by
  obtain ⟨h2, h8, ha⟩ := smallAscii_of h
  by_cases hl : s.size ≤ 8
  · exact indexAny_short s chars w h2 h8 hl ha
  · refine (Tryz.strings_IndexAny_long (fun w => by kernel_rfl) s chars w h2 (by omega) (by omega) (by omega) ha).mono ?_
    rintro e w' ⟨rfl, rfl⟩
    exact ⟨rfl, bA (bA (Below.refl _ _) _) _⟩
def strings_IndexAny.f (a0 a1 : ByteArray) : Option Int := if a0.size ≤ 4000000000 ∧ smallAscii a1.data.toList = true then some (Lib.indexAny a0.data.toList a1.data.toList) else none
theorem strings_IndexAny.calls (a0 a1 : ByteArray) (r : Int) (w : World) (h : strings_IndexAny.f a0 a1 = some r) :
    Calls Tryz.prog 76 #[.string a0, .string a1] w fun e w' => e = .returned (.int .i64 r) ∧ Below w.heap.size w w' := by
  unfold strings_IndexAny.f at h
  split at h
  · rename_i hs
    obtain rfl := Option.some.inj h
    exact indexAny_small a0 a1 w hs.1 hs.2
  · cases h
def strings_ContainsAny.f (a0 a1 : ByteArray) : Option Bool := if a0.size ≤ 4000000000 ∧ smallAscii a1.data.toList = true then some (Lib.containsAny a0.data.toList a1.data.toList) else none
theorem strings_ContainsAny.calls (a0 a1 : ByteArray) (r : Bool) (w : World) (h : strings_ContainsAny.f a0 a1 = some r) :
    Calls Tryz.prog 41 #[.string a0, .string a1] w fun e w' => e = .returned (.bool r) ∧ Below w.heap.size w w' := by
  unfold strings_ContainsAny.f at h
  split at h
  · rename_i hs
    obtain rfl := Option.some.inj h
    have c := indexAny_small a0 a1 w hs.1 hs.2
    unfold Lib.containsAny
    generalize Lib.indexAny a0.data.toList a1.data.toList = i at c ⊢
    clear h hs
    go_enter Tryz.func41, Tryz.ntmps41
    go_wp2_with fail
    refine c.mono ?_
    rintro e w' ⟨rfl, hb⟩
    go_wp2
    go_ret
    exact ⟨rfl, hb⟩
  · cases h
def strings_IndexByte.f (a0 : ByteArray) (a1 : Int) : Option Int := some (Lib.indexByte a0.data.toList a1.toNat.toUInt8)
theorem strings_IndexByte.calls (a0 : ByteArray) (a1 : Int) (r : Int) (w : World) (h : strings_IndexByte.f a0 a1 = some r) :
    Calls Tryz.prog 78 #[.string a0, .int .u8 a1] w fun e w' => e = .returned (.int .i64 r) ∧ Dr0 w w' := by
  obtain rfl := Option.some.inj h
  refine (Tryz.strings_IndexByte a0 a1 w).mono ?_
  rintro e w' ⟨rfl, rfl⟩
  exact ⟨rfl, Dr0.refl _⟩
def strings_HasPrefix.f (a0 a1 : ByteArray) : Option Bool := some (Lib.hasPrefix a0.data.toList a1.data.toList)
theorem strings_HasPrefix.calls (a0 a1 : ByteArray) (r : Bool) (w : World) (h : strings_HasPrefix.f a0 a1 = some r) :
    Calls Tryz.prog 79 #[.string a0, .string a1] w fun e w' => e = .returned (.bool r) ∧ Dr0 w w' := by
  obtain rfl := Option.some.inj h
  refine (Tryz.strings_HasPrefix a0 a1 w).mono ?_
  rintro e w' ⟨rfl, rfl⟩
  exact ⟨rfl, Dr0.refl _⟩
def strings_Cut.f (a0 a1 : ByteArray) : Option (ByteArray × ByteArray × Bool) :=
  if a0.size ≤ 4000000000 then some (⟨(Lib.cut a0.data.toList a1.data.toList).1.toArray⟩, ⟨(Lib.cut a0.data.toList a1.data.toList).2.1.toArray⟩, (Lib.cut a0.data.toList a1.data.toList).2.2) else none
theorem strings_Cut.calls (a0 a1 : ByteArray) (r1 r2 : ByteArray) (r3 : Bool) (w : World) (hT : TabsW w) (h : strings_Cut.f a0 a1 = some (r1, r2, r3)) :
    Calls Tryz.prog 80 #[.string a0, .string a1] w fun e w' => e = .returned (.tuple #[.string r1, .string r2, .bool r3]) ∧ Below w.heap.size w w' := by
  unfold strings_Cut.f at h
  split at h
  · rename_i hs
    have h := Option.some.inj h
    simp only [Prod.mk.injEq] at h
    obtain ⟨rfl, rfl, rfl⟩ := h
    obtain ⟨m, hm⟩ := hT.maxLen
    refine (Tryz.strings_Cut a0 a1 m w (by omega) hm).mono ?_
    rintro e w' ⟨rfl, n, rfl⟩
    exact ⟨rfl, bdN (Below.refl _ _) _⟩
  · cases h
end Go.Proofs.YthabooeapfepnaaGreatDoor.Given
