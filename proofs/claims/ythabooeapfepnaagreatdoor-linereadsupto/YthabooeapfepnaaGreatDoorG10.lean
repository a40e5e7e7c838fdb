import Derived.Test.YthabooeapfepnaaGreatDoorG9
namespace Go.Proofs.YthabooeapfepnaaGreatDoor.Given
open Go.RowKit Go.Proofs.YthabooeapfepnaaGreatDoorW.PrintWords Go.Shelf
set_option linter.unusedVariables false
set_option pp.maxSteps 1500
theorem nil_ahead_ws (B : Nat) (w : World) : (nilAhead 371 259 (PT B) "WriteString").run Tryz.prog w = .ok (some false) w := by kernel_rfl
theorem method_ws (B : Nat) (w : World) : (method 371 259 (PT B) "WriteString").run Tryz.prog w = .ok (226, PT B) w := by kernel_rfl
theorem size_data (s : ByteArray) : s.size = s.data.toList.length := by rw [Array.length_toList]; rfl
def meantL : List UInt8 → List UInt8
  | 94 :: 110 :: l => 10 :: meantL l
  | 94 :: 94 :: l => 94 :: meantL l
  | 94 :: 39 :: l => 34 :: meantL l
  | b :: l => b :: meantL l
  | [] => []
def nb (l : List UInt8) : List Int := l.map fun b => (b.toNat : Int)
theorem bytesOf_nb (y : ByteArray) : bytesOf y = nb y.data.toList := rfl
theorem FM_ne3 (x : UInt8) (h : ¬ FM x.toNat = 3) : x = 39 ∨ x = 94 ∨ x = 110 := by
  have : M0 x.toNat ≠ 0 := fun h0 => h (by simp [FM, h0])
  unfold M0 at this
  split at this
  · rename_i h1
    rcases h1 with h1 | h1 | h1
    · exact .inl (UInt8.toNat.inj h1)
    · exact .inr (.inl (UInt8.toNat.inj h1))
    · exact .inr (.inr (UInt8.toNat.inj h1))
  · exact absurd rfl this
theorem at_list (s : ByteArray) (b : UInt8) (i : Nat) (h : i < s.size) (hl : s.data.toList[i]? = some b) : (s[i]'h).toNat = b.toNat := by
  have := Lib.data_getElem? s i h
  rw [this] at hl
  rw [Option.some.inj hl]
def NoKey (r : List UInt8) : Prop := ∀ c rest, r = c :: rest → c ≠ 39 ∧ c ≠ 94 ∧ c ≠ 110
theorem meant_no (r : List UInt8) (h : NoKey r) : meantL (94 :: r) = 94 :: meantL r := by
  cases r with
  | nil => rfl
  | cons c rest =>
    obtain ⟨h1, h2, h3⟩ := h c rest rfl
    rw [meantL]
    all_goals (intros; simp_all)
theorem key_or (r : List UInt8) : (∃ (c : UInt8) (m : Nat) (val : ByteArray) (v : UInt8) (rest : List UInt8), r = c :: rest ∧ FM c.toNat = m ∧ val = ⟨#[v]⟩ ∧ ((m = 0 ∧ val = ⟨#[34]⟩) ∨ (m = 1 ∧ val = ⟨#[94]⟩) ∨ (m = 2 ∧ val = ⟨#[10]⟩)) ∧ meantL (94 :: c :: rest) = v :: meantL rest) ∨ NoKey r := by
  cases r with
  | nil => exact .inr (fun c rest e => by cases e)
  | cons c rest =>
    by_cases h1 : c = 39
    · subst h1
      exact .inl ⟨39, 0, _, 34, rest, rfl, rfl, rfl, .inl ⟨rfl, rfl⟩, by rw [meantL]⟩
    · by_cases h2 : c = 94
      · subst h2
        exact .inl ⟨94, 1, _, 94, rest, rfl, rfl, rfl, .inr (.inl ⟨rfl, rfl⟩), by rw [meantL]⟩
      · by_cases h3 : c = 110
        · subst h3
          exact .inl ⟨110, 2, _, 10, rest, rfl, rfl, rfl, .inr (.inr ⟨rfl, rfl⟩), by rw [meantL]⟩
        · refine .inr (fun d t e => ?_)
          injection e with e1 e2
          subst e1
          exact ⟨h1, h2, h3⟩
theorem meantL_other (x : UInt8) (l : List UInt8) (h : x ≠ 94) : meantL (x :: l) = x :: meantL l := by
  rw [meantL]
  all_goals (intros; simp_all)
theorem meantL_length (l : List UInt8) : (meantL l).length ≤ l.length := by
  fun_induction meantL l <;> simp only [List.length_cons, List.length_nil] <;> omega
structure At (L : List UInt8) (i last : Nat) (xs : List Int) : Prop where
  le : last ≤ i
  top : i ≤ L.length + 1
  last_le : last ≤ L.length
  eq : xs ++ nb ((L.drop last).take (i - last) ++ meantL (L.drop i)) = nb (meantL L)
theorem At.short {L : List UInt8} {i last : Nat} {xs : List Int} (h : At L i last xs) : xs.length ≤ L.length := by
  have h1 := congrArg List.length h.eq
  have h2 := meantL_length L
  simp only [nb, List.length_append, List.length_map] at h1
  omega
theorem At.start (L : List UInt8) : At L 0 0 [] := ⟨by omega, by omega, by omega, by simp⟩
theorem At.next {L : List UInt8} {i last : Nat} {xs : List Int} (h : At L i last xs) (hi : i ≤ L.length) (hn : ∀ b, L[i]? = some b → meantL (L.drop i) = b :: meantL (L.drop (i + 1))) : At L (i + 1) last xs := by
  refine ⟨by have := h.le; omega, by omega, h.last_le, ?_⟩
  rw [← h.eq]
  congr 2
  have hle := h.le
  by_cases hlt : i < L.length
  · have hb := hn L[i] (List.getElem?_eq_getElem hlt)
    rw [hb, show i + 1 - last = (i - last) + 1 by omega, List.take_add_one, List.getElem?_drop, show last + (i - last) = i by omega, List.getElem?_eq_getElem hlt]
    simp
  · rw [List.drop_eq_nil_of_le (show L.length ≤ i by omega), List.drop_eq_nil_of_le (show L.length ≤ i + 1 by omega)]
    simp only [meantL, List.append_nil]
    rw [List.take_of_length_le (by rw [List.length_drop]; omega), List.take_of_length_le (by rw [List.length_drop]; omega)]
theorem At.key {L : List UInt8} {i last : Nat} {xs : List Int} {v : UInt8} (h : At L i last xs) (hi : i + 2 ≤ L.length) (hm : meantL (L.drop i) = v :: meantL (L.drop (i + 2))) : At L (i + 2) (i + 2) (xs ++ nb ((L.drop last).take (i - last)) ++ nb [v]) := by
  refine ⟨by omega, by omega, hi, ?_⟩
  rw [← h.eq, hm]
  simp [nb]
theorem At.stop {L : List UInt8} {last : Nat} {xs : List Int} (h : At L (L.length + 1) last xs) : xs ++ nb (L.drop last) = nb (meantL L) := by
  rw [← h.eq, List.drop_eq_nil_of_le (show L.length ≤ L.length + 1 by omega), List.take_of_length_le (by rw [List.length_drop]; omega)]
  simp [meantL]
set_option maxRecDepth 100000 in
set_option maxHeartbeats 4000000 in
theorem write_string (G B : Nat) (s : ByteArray) (w0 : World) (hs : s.size ≤ 4000000000) (w : World) (hT : TrieAt w G) (hG : ∀ w2, Below w0.heap.size w0 w2 → TrieAt w2 G) (hB : BufIs w0.heap.size w B []) (hb : Below w0.heap.size w0 w) :
    Calls Tryz.prog 214 #[PT G, .iface 259 (PT B), .string s] w fun e w' => ∃ n, e = .returned (.tuple #[.int .i64 n, .nilIface]) ∧ BufIs w0.heap.size w' B (nb (meantL s.data.toList)) ∧ Below w0.heap.size w0 w' := by
  have cg := getStringWriter_any B w
  have hna := nil_ahead_ws B
  have hme := method_ws B
  have HB := Lib.hid (And.intro hT (And.intro hB hb))
  have HG := Lib.hid hG
  clear hT hG hB hb
  have hL : s.data.toList.length = s.size := by rw [Array.length_toList]; rfl
  go_enter Tryz.func214, Tryz.ntmps214
  go_wp2_with fail
  refine cg.mono ?_
  rintro e w' ⟨rfl, rfl⟩
  clear cg
  go_wp2_with fail
  go_loopg [6, 7, 9, 11, 12] (s.size + 1) (fun g v6 v7 v9 v11 v12 wx => ∃ (n : Int) (i last : Nat) (xs : List Int), v6 = .int .i64 n ∧ v7 = .nilIface ∧ v9 = .int .i64 (last : Int) ∧ v11 = .bool false ∧ v12 = .int .i64 (i : Int) ∧ i + g = s.size + 1 ∧ At s.data.toList i last xs ∧ BufIs w0.heap.size wx B xs ∧ Below w0.heap.size w0 wx)
  case atStart => exact ⟨0, 0, 0, [], rfl, rfl, rfl, rfl, rfl, by omega, At.start _, HB.out.2.1, HB.out.2.2⟩
  case round =>
    obtain ⟨n6, i, last, xs, rfl, rfl, rfl, rfl, rfl, hig, hat, hbuf, hbw⟩ := hrel
    cases gk with
    | zero =>
      obtain rfl : i = s.size + 1 := by omega
      have hgt : ¬ ((s.size : Int) + 1 ≤ s.size) := by omega
      have hla := hat.last_le
      rw [hL] at hla
      have HA := Lib.hid (And.intro hat (And.intro hbuf hbw))
      clear hat hbuf hbw
      by_cases hll : last = s.size
      · have hllb : ((last : Int) != s.size) = false := bne_eq_false_iff_eq.mpr (by omega)
        go_wp2_with fail
        go_ret2
        have hst := At.stop (L := s.data.toList) (last := last) (xs := xs) (by rw [hL]; exact HA.out.1)
        rw [List.drop_eq_nil_of_le (by omega)] at hst
        refine ⟨⟨_, rfl⟩, ?_, HA.out.2.2⟩
        rw [← hst]
        simpa [nb] using HA.out.2.1
      · have hllb : ((last : Int) != s.size) = true := bne_iff_ne.mpr (by omega)
        have hlz : (0 : Int) ≤ last := by omega
        have hlz2 : (last : Int) ≤ s.size := by omega
        go_wp2_with fail
        have cb := buf_write w0 wr.drew B xs (s.extract last s.size) HA.out.2.1 HA.out.2.2.drew (by have := HA.out.1.short; rw [hL] at this; rw [size_data, Lib.extract_data]; simp only [List.length_take, List.length_drop, hL]; omega)
        go_region_with (go_at_call 226; refine cb.mono ?_; rintro e w2 ⟨rfl, hbuf2, hbw2⟩)
        all_goals
          go_wp2_with fail
          go_ret2
          have hst := At.stop (L := s.data.toList) (last := last) (xs := xs) (by rw [hL]; exact HA.out.1)
          refine ⟨_, rfl, ?_, hbw2⟩
          rw [← hst]
          rw [bytesOf_nb, Lib.extract_data, List.take_of_length_le (by rw [List.length_drop, hL]; omega)] at hbuf2
          exact hbuf2
    | succ g =>
      have hi : i ≤ s.size := by omega
      have hiz : (i : Int) ≤ s.size := by omega
      have hi0 : (0 : Int) ≤ i := by omega
      have hwi : IntKind.i64.wrap ((i : Int) + 1) = (i : Int) + 1 := IntWalk.i64_in _ (by omega)
      have hTr := HG.out _ hbw
      have HA := Lib.hid (And.intro hat (And.intro hbuf hbw))
      clear hat hbuf hbw
      by_cases hlt : i < s.size
      · have hltb : ((i : Int) != s.size) = true := bne_iff_ne.mpr (by omega)
        obtain ⟨x, hx⟩ : ∃ x : UInt8, s[i]'hlt = x := ⟨_, rfl⟩
        have hxl : s.data.toList[i]? = some x := by rw [← hx]; exact Lib.data_getElem? s i hlt
        have hx256 : x.toNat < 256 := x.toNat_lt
        have hxz : (x.toNat : Int) < 256 := by omega
        have hiw : (i : Int) < s.size := by omega
        obtain ⟨T, N, T1, A, B', C, hg, ht, hn, ht1, ha, hb, hc⟩ := hTr
        have g1 : wr.cell? ⟨G, 1, none⟩ = some (.int .i64 0) := (bkC hg 1).trans (gen_lo _ _ _ 1 (by omega))
        have g4 : wr.cell? ⟨G, 4, none⟩ = some (.slice (some ⟨T, 0, none⟩) 3 3) := (bkC hg 4).trans (gen_lo _ _ _ 4 (by omega))
        have g5 : wr.cell? ⟨G, 5, none⟩ = some (.int .i64 3) := (bkC hg 5).trans (gen_lo _ _ _ 5 (by omega))
        have gx : wr.cell? ⟨G, 6 + x.toNat, none⟩ = some (.int .u8 (FM x.toNat : Int)) := (bkC hg (6 + x.toNat)).trans (gen_at _ _ _ _ hx256)
        have t0 : wr.cell? ⟨T, 0, none⟩ = some (.pointer none) := (bkC ht 0).trans rfl
        have t1 : wr.cell? ⟨T, 1, none⟩ = some (.pointer (some ⟨N, 0, none⟩)) := (bkC ht 1).trans rfl
        have t2 : wr.cell? ⟨T, 2, none⟩ = some (.pointer none) := (bkC ht 2).trans rfl
        clear hg ht hn ht1 ha hb hc
        have hdr : s.data.toList.drop i = x :: s.data.toList.drop (i + 1) := by
          rw [List.drop_eq_getElem_cons (by rw [hL]; exact hlt)]
          congr 1
        by_cases hF3 : FM x.toNat = 3
        · have hnx : x ≠ 94 := by rintro rfl; exact absurd hF3 (by decide)
          have hm : meantL (s.data.toList.drop i) = x :: meantL (s.data.toList.drop (i + 1)) := by rw [hdr]; exact meantL_other x _ hnx
          have HM := Lib.hid hm
          rw [hF3] at gx
          have HX := Lib.hid hxl
          clear hm hdr hxl
          go_wp2_with fail
          go_quiet (fail)
          obtain ⟨w2, hd2⟩ : ∃ w2, w2 = wr.drewN nq := ⟨_, rfl⟩
          rw [← hd2]
          have hcl : ∀ p, w2.cell? p = wr.cell? p := by intro p; rw [hd2]; rfl
          rw [← hcl] at g1 g4 g5 t0 t1 t2
          have hbuf2 : BufIs w0.heap.size w2 B xs := by rw [hd2]; exact HA.out.2.1
          have hbw2 : Below w0.heap.size w0 w2 := by rw [hd2]; exact bdN HA.out.2.2 _
          have HA2 := Lib.hid (And.intro HA.out.1 (And.intro hbuf2 hbw2))
          clear hd2 hcl hbuf2 hbw2
          go_wp2_with fail
          go_roundg g
          case measure => omega
          case rel => exact ⟨n6, i + 1, last, xs, rfl, rfl, rfl, rfl, rfl, by omega, HA2.out.1.next (by omega) (fun b hb => by rw [HX.out] at hb; cases hb; exact HM.out), HA2.out.2.1, HA2.out.2.2⟩
        · have hx3 : x = 39 ∨ x = 94 ∨ x = 110 := FM_ne3 x hF3
          by_cases h94 : x = 94
          · subst h94
            have gx : wr.cell? ⟨G, 100, none⟩ = some (.int .u8 1) := gx
            have HM := Lib.hid (And.intro hdr hxl)
            clear hdr hxl hx3 hF3
            go_wp2_with fail
            go_quiet (fail)
            obtain ⟨w2, hd2⟩ : ∃ w2, w2 = wr.drewN nq := ⟨_, rfl⟩
            rw [← hd2]
            have hcl : ∀ p, w2.cell? p = wr.cell? p := by intro p; rw [hd2]; rfl
            rw [← hcl] at g1 g4 g5 t0 t1 t2
            have hbuf2 : BufIs w0.heap.size w2 B xs := by rw [hd2]; exact HA.out.2.1
            have hbw2 : Below w0.heap.size w0 w2 := by rw [hd2]; exact bdN HA.out.2.2 _
            have HA2 := Lib.hid (And.intro HA.out.1 (And.intro hbuf2 hbw2))
            clear hd2 hcl hbuf2 hbw2
            obtain ⟨hat, hbuf2, hbw2⟩ := HA2.out
            obtain ⟨hdr, hxl⟩ := HM.out
            obtain ⟨q, hq⟩ : ∃ q, s.extract i s.size = q := ⟨_, rfl⟩
            have hqd : q.data.toList = 94 :: s.data.toList.drop (i + 1) := by rw [← hq, Lib.extract_data, List.take_of_length_le (by rw [List.length_drop, hL]; omega), hdr]
            obtain ⟨r, hr⟩ : ∃ r, q.extract 1 q.size = r := ⟨_, rfl⟩
            have hrd : r.data.toList = s.data.toList.drop (i + 1) := by
              rw [← hr, Lib.extract_data, hqd, List.drop_succ_cons, List.drop_zero, List.take_of_length_le]
              rw [size_data, hqd, List.length_cons]
              omega
            have hqe : q.toList.isEmpty = false := by rw [Lib.toList_data, hqd]; rfl
            have hqz : 0 < q.size := by rw [size_data, hqd]; simp
            have hq94 : (q[0]'(by omega)).toNat = 94 := at_list q 94 0 (by omega) (by rw [hqd]; rfl)
            have hTr2 := HG.out _ hbw2
            rcases key_or r.data.toList with hkey | hkey
            · obtain ⟨c, m, val, v, rest, hrc, hF, hval, hmv, hmean⟩ := hkey
              have hre : r.toList.isEmpty = false := by rw [Lib.toList_data, hrc]; rfl
              have hrz : 0 < r.size := by rw [size_data, hrc]; simp
              have cl := lookup_key G w2 hTr2 q r c.toNat m val c.toNat_lt hqe hqz hq94 hr hre hrz (at_list r c 0 hrz (by rw [hrc]; rfl)) hF hmv
              have hlen : i + 2 ≤ s.size := by
                have := congrArg List.length hrd
                rw [hrc, List.length_drop, hL] at this
                simp at this
                omega
              have hrest : rest = s.data.toList.drop (i + 2) := by
                have := congrArg (List.drop 1) (hrc.symm.trans hrd)
                simpa [List.drop_drop] using this
              have hatk := hat.key (v := v) (by rw [hL]; omega) (by rw [hdr, ← hrd, hrc, hmean, hrest])
              have hshort := hat.short
              have hli := hat.le
              have hlz : (0 : Int) ≤ last := by omega
              have hlz2 : (last : Int) ≤ i := by omega
              have hiz3 : (i : Int) ≤ s.size := by omega
              have hwi2 : IntKind.i64.wrap ((i : Int) + 2) = (i : Int) + 2 := IntWalk.i64_in _ (by omega)
              rw [hL] at hshort
              have hwr1 : Hid (∀ W, BufIs w0.heap.size W B xs → Below w0.heap.size w0 W → Calls Tryz.prog 226 #[PT B, .string (s.extract last i)] W fun e w' => e = .returned (.tuple #[.int .i64 (s.extract last i).size, .nilIface]) ∧ BufIs w0.heap.size w' B (xs ++ bytesOf (s.extract last i)) ∧ Below w0.heap.size w0 w') :=
                Lib.hid fun W h1 h2 => buf_write w0 W B xs (s.extract last i) h1 h2 (by rw [size_data, Lib.extract_data]; simp only [List.length_take, List.length_drop, hL]; omega)
              have hwr2 : Hid (∀ W, BufIs w0.heap.size W B (xs ++ bytesOf (s.extract last i)) → Below w0.heap.size w0 W → Calls Tryz.prog 226 #[PT B, .string val] W fun e w' => e = .returned (.tuple #[.int .i64 val.size, .nilIface]) ∧ BufIs w0.heap.size w' B (xs ++ bytesOf (s.extract last i) ++ bytesOf val) ∧ Below w0.heap.size w0 w') :=
                Lib.hid fun W h1 h2 => buf_write w0 W B _ val h1 h2 (by rw [List.length_append, bytesOf_length, size_data (s.extract last i), Lib.extract_data, hval]; simp only [List.length_take, List.length_drop, hL]; show _ + 1 ≤ _; omega)
              have hxs : xs ++ bytesOf (s.extract last i) ++ bytesOf val = xs ++ nb ((s.data.toList.drop last).take (i - last)) ++ nb [v] := by rw [bytesOf_nb, bytesOf_nb, Lib.extract_data, hval]
              have HF := Lib.hid (And.intro hatk (And.intro hbuf2 (And.intro hbw2 (And.intro hxs hlen))))
              clear hatk hbuf2 hbw2 hxs hat hdr hxl hqd hrd hrc hre hrz hmean hrest hq94 hqe hqz hF hmv hTr2 hr hshort hval hlen
              go_wp2_with fail
              refine cl.mono ?_
              rintro e w3 ⟨rfl, n3, hw3⟩
              have hbuf3 : BufIs w0.heap.size w3.drew B xs := by rw [hw3]; exact HF.out.2.1
              have hbw3 : Below w0.heap.size w0 w3.drew := by rw [hw3]; exact (bdN HF.out.2.2.1 _).drew
              have cb := hwr1.out w3.drew hbuf3 hbw3
              clear hbuf3 hbw3 hw3 cl
              go_wp2_with fail
              go_region_with (go_at_call 226; refine cb.mono ?_; rintro e w4 ⟨rfl, hbuf4, hbw4⟩)
              all_goals
                have cb2 := hwr2.out w4 hbuf4 hbw4
                clear hbuf4 hbw4 cb
                go_wp2_with fail
                refine cb2.mono ?_
                rintro e w5 ⟨rfl, hbuf5, hbw5⟩
                go_wp2_with fail
                go_roundg (g - 1)
                case measure => omega
                case rel =>
                  obtain ⟨hatk, _, _, hxs, hlen⟩ := HF.out
                  exact ⟨_, i + 2, i + 2, _, rfl, rfl, rfl, rfl, rfl, by omega, hatk, by rw [← hxs]; exact hbuf5, hbw5⟩
            · have hmn : meantL (s.data.toList.drop i) = 94 :: meantL (s.data.toList.drop (i + 1)) := by
                rw [hdr, ← hrd]
                exact meant_no _ hkey
              have cl : Calls Tryz.prog 216 #[PT G, .string q, .bool false] w2 fun e w' => e = .returned (.tuple #[.string ⟨#[]⟩, .int .i64 0, .bool false]) ∧ ∃ n, w' = w2.drewN n := by
                rcases hrl : r.data.toList with _ | ⟨c, rest⟩
                · exact lookup_none G w2 hTr2 q r 0 (by omega) hqe hqz hq94 hr (.inl (by rw [Lib.toList_data, hrl]; rfl))
                · obtain ⟨n1, n2, n3⟩ := hkey c rest hrl
                  have hrz : 0 < r.size := by rw [size_data, hrl]; simp
                  refine lookup_none G w2 hTr2 q r c.toNat c.toNat_lt hqe hqz hq94 hr (.inr ⟨by rw [Lib.toList_data, hrl]; rfl, hrz, at_list r c 0 hrz (by rw [hrl]; rfl), ?_⟩)
                  refine Classical.byContradiction fun hne => ?_
                  rcases FM_ne3 c hne with h | h | h <;> contradiction
              have hatn := hat.next (by rw [hL]; omega) (fun b hb => by rw [hxl] at hb; cases hb; exact hmn)
              have HF := Lib.hid (And.intro hatn (And.intro hbuf2 hbw2))
              clear hatn hbuf2 hbw2 hat hdr hxl hqd hrd hq94 hqe hqz hTr2 hr hmn hkey
              go_wp2_with fail
              refine cl.mono ?_
              rintro e w3 ⟨rfl, n3, hw3⟩
              have hbuf3 : BufIs w0.heap.size w3 B xs := by rw [hw3]; exact HF.out.2.1
              have hbw3 : Below w0.heap.size w0 w3 := by rw [hw3]; exact bdN HF.out.2.2 _
              have HF3 := Lib.hid (And.intro HF.out.1 (And.intro hbuf3 hbw3))
              clear hbuf3 hbw3 hw3 cl HF
              go_wp2_with fail
              go_roundg g
              case measure => omega
              case rel => exact ⟨_, i + 1, last, xs, rfl, rfl, rfl, rfl, rfl, by omega, HF3.out.1, HF3.out.2.1, HF3.out.2.2⟩
          · have hm : meantL (s.data.toList.drop i) = x :: meantL (s.data.toList.drop (i + 1)) := by rw [hdr]; exact meantL_other x _ h94
            have HM := Lib.hid hm
            have HX := Lib.hid hxl
            clear hm hdr hxl
            rcases hx3 with rfl | rfl | rfl
            · have gx : wr.cell? ⟨G, 45, none⟩ = some (.int .u8 0) := gx
              go_wp2_with fail
              go_quiet (fail)
              obtain ⟨w2, hd2⟩ : ∃ w2, w2 = wr.drewN nq := ⟨_, rfl⟩
              rw [← hd2]
              have hcl : ∀ p, w2.cell? p = wr.cell? p := by intro p; rw [hd2]; rfl
              rw [← hcl] at g1 g4 g5 t0 t1 t2
              have hbuf2 : BufIs w0.heap.size w2 B xs := by rw [hd2]; exact HA.out.2.1
              have hbw2 : Below w0.heap.size w0 w2 := by rw [hd2]; exact bdN HA.out.2.2 _
              have HA2 := Lib.hid (And.intro HA.out.1 (And.intro hbuf2 hbw2))
              clear hd2 hcl hbuf2 hbw2
              go_wp2_with fail
              go_roundg g
              case measure => omega
              case rel => exact ⟨n6, i + 1, last, xs, rfl, rfl, rfl, rfl, rfl, by omega, HA2.out.1.next (by omega) (fun b hb => by rw [HX.out] at hb; cases hb; exact HM.out), HA2.out.2.1, HA2.out.2.2⟩
            · exact absurd rfl h94
            · have gx : wr.cell? ⟨G, 116, none⟩ = some (.int .u8 2) := gx
              go_wp2_with fail
              go_quiet (fail)
              obtain ⟨w2, hd2⟩ : ∃ w2, w2 = wr.drewN nq := ⟨_, rfl⟩
              rw [← hd2]
              have hcl : ∀ p, w2.cell? p = wr.cell? p := by intro p; rw [hd2]; rfl
              rw [← hcl] at g1 g4 g5 t0 t1 t2
              have hbuf2 : BufIs w0.heap.size w2 B xs := by rw [hd2]; exact HA.out.2.1
              have hbw2 : Below w0.heap.size w0 w2 := by rw [hd2]; exact bdN HA.out.2.2 _
              have HA2 := Lib.hid (And.intro HA.out.1 (And.intro hbuf2 hbw2))
              clear hd2 hcl hbuf2 hbw2
              go_wp2_with fail
              go_roundg g
              case measure => omega
              case rel => exact ⟨n6, i + 1, last, xs, rfl, rfl, rfl, rfl, rfl, by omega, HA2.out.1.next (by omega) (fun b hb => by rw [HX.out] at hb; cases hb; exact HM.out), HA2.out.2.1, HA2.out.2.2⟩
      · have hltb : ((i : Int) != s.size) = false := bne_eq_false_iff_eq.mpr (by omega)
        have hE : (s.extract i s.size).toList.isEmpty = true := by
          rw [Lib.toList_data, Lib.extract_data, List.drop_eq_nil_of_le (by rw [hL]; omega), List.take_nil]
          rfl
        have cl := lookup_empty G wr hTr false _ hE
        clear hTr
        go_wp2_with fail
        refine cl.mono ?_
        rintro e w' ⟨rfl, n, rfl⟩
        go_wp2_with fail
        go_roundg g
        case measure => omega
        case rel => exact ⟨n6, i + 1, last, xs, rfl, rfl, rfl, rfl, rfl, by omega, HA.out.1.next (by omega) (fun b hb => by rw [List.getElem?_eq_none (by rw [hL]; omega)] at hb; cases hb), HA.out.2.1, bdN HA.out.2.2 _⟩
end Go.Proofs.YthabooeapfepnaaGreatDoor.Given
