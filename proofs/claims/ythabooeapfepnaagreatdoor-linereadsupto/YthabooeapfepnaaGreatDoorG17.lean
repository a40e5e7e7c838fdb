import Derived.Test.YthabooeapfepnaaGreatDoorG16
import Derived.Deep.DeepCutAuto
import Derived.Test.YthabooeapfepnaaGreatDoorG18
import Derived.Test.YthabooeapfepnaaGreatDoorShelf
namespace Go.Proofs.YthabooeapfepnaaGreatDoor.PL
open Go.RowKit Go.Proofs.YthabooeapfepnaaGreatDoor.Given Go.Proofs.YthabooeapfepnaaGreatDoorW.PrintWords
set_option linter.unusedVariables false
set_option pp.maxSteps 1500
def nm (s : ByteArray) : Option Bool := line_Name.f (s.size + 2) s
def nmB (s : ByteArray) : Bool := (nm s).getD false
def vaB (s : ByteArray) : Bool := (char_Valid.f s).getD false
def crlf (s : ByteArray) : Bool := Lib.containsAny s.data.toList [13, 10]
def crB (s : ByteArray) : Bool := decide (0 ≤ Lib.indexByte s.data.toList 13)
def asksLine (g n : ByteArray) (l : List S31) (v : ByteArray) : Bool :=
  decide (l.length ≤ 4000000000) && (nm g).isSome && (nm n).isSome && decide (v.size ≤ 4000000000) && l.all fun x => (nm x.f0).isSome && decide (x.f1.length ≤ 4000000000) && x.f1.all fun u => decide (u.size ≤ 4000000000)
def bad1 (g n : ByteArray) (l : List S31) : Bool := ((!g.toList.isEmpty && !nmB g) || !nmB n) || l.any (fun x => !nmB x.f0)
def bad2 (l : List S31) : Bool := l.any (fun x => (x.f1.length : Int) == 0)
def bad3 (v : ByteArray) : Bool := !vaB v || crlf v
def badU (u : ByteArray) : Bool := !vaB u || crB u
def bad4 (l : List S31) : Bool := l.any (fun x => x.f1.any badU)
def checkB (g n : ByteArray) (l : List S31) (v : ByteArray) : Int :=
  if bad1 g n l = true then 30 else if bad2 l = true then 31 else if bad3 v = true then 10 else if bad4 l = true then 10 else 0
def line_check.f (g n : ByteArray) (l : List S31) (v : ByteArray) : Option Int := if asksLine g n l v = true then some (checkB g n l v) else none
theorem nm_calls (s : ByteArray) (w : World) (h : (nm s).isSome = true) : Calls Tryz.prog 23 #[.string s] w fun e w' => e = .returned (.bool (nmB s)) ∧ Dr0 w w' := by
  obtain ⟨b, hb⟩ := Option.isSome_iff_exists.1 h
  have hB : nmB s = b := by unfold nmB; rw [hb]; rfl
  rw [hB]
  exact line_Name.calls _ s b w hb
theorem va_some (v : ByteArray) (h : v.size ≤ 4000000000) : char_Valid.f v = some (vaB v) := by
  unfold vaB char_Valid.f
  rw [if_pos h]
  rfl
theorem crlf_some (v : ByteArray) (h : v.size ≤ 4000000000) : strings_ContainsAny.f v (⟨#[13, 10]⟩ : ByteArray) = some (crlf v) := by
  unfold strings_ContainsAny.f
  rw [if_pos ⟨h, by decide⟩]
  rfl
structure BoxIs (w : World) (g n : ByteArray) (ps : Value) (v : ByteArray) (W : World) : Prop where
  below : Below w.heap.size w W
  box : W.heap[w.heap.size]? = some (.cells #[.string g, .string n, ps, .string v] 25 (0, 0))
theorem BoxIs.step {w W W' : World} {g n v : ByteArray} {ps : Value} (h : BoxIs w g n ps v W) (hb : Below W.heap.size W W') : BoxIs w g n ps v W' := ⟨bT h.below hb, bkB h.box hb⟩
theorem bad4_of (l : List S31) (x : S31) (u : ByteArray) (i j : Nat) (hx : l[i]? = some x) (hu : x.f1[j]? = some u) (h : badU u = true) : bad4 l = true := by
  unfold bad4
  rw [List.any_eq_true]
  refine ⟨x, List.mem_iff_getElem?.2 ⟨i, hx⟩, ?_⟩
  rw [List.any_eq_true]
  exact ⟨u, List.mem_iff_getElem?.2 ⟨j, hu⟩, h⟩
set_option maxRecDepth 100000 in
theorem line_check.calls (g n : ByteArray) (A : Option Addr) (c : Nat) (l : List S31) (v : ByteArray) (r : Int) (w : World) (hT : TabsW w) (hC : Kd.C k31 w A l.length l) (hc : l.length ≤ c) (h : line_check.f g n l v = some r) :
    Calls Tryz.prog 45 #[.agg #[.string g, .string n, .slice A l.length c, .string v]] w fun e w' => e = .returned (.int .i64 r) ∧ Below w.heap.size w w' := by
  unfold line_check.f at h
  split at h
  case isFalse => cases h
  rename_i hask
  obtain rfl := Option.some.inj h
  clear h
  unfold asksLine at hask
  simp only [Bool.and_eq_true, decide_eq_true_eq, List.all_eq_true] at hask
  obtain ⟨⟨⟨⟨hll, hng⟩, hnn⟩, hvz⟩, hall⟩ := hask
  have cg := Lib.hid (fun W => nm_calls g W hng)
  have cn := Lib.hid (fun W => nm_calls n W hnn)
  obtain ⟨R, hR⟩ : ∃ R, R = checkB g n l v := ⟨_, rfl⟩
  have HRR := Lib.hid hR
  rw [← hR]
  clear hR
  have hnot : ∀ (x : Bool) (w : World), (Op.unary .not (.bool x)).run Tryz.prog w = .ok (.bool (!x)) w := fun _ _ => rfl
  have c1 := Lib.hid (fun W (hb : Below w.heap.size w W) => containsFunc 83 (fun args w => enters_of Tryz.func83 (by kernel_rfl) rfl args w) (fun x => !nmB x.f0) A c l W hll (Kd.C_below hC hb) hc (fun W' x A1 c1 hx _ _ => by
    obtain ⟨b, hb⟩ := Option.isSome_iff_exists.1 (hall x hx).1.1
    have hB : nmB x.f0 = b := by unfold nmB; rw [hb]; rfl
    rw [hB]
    exact check1 _ x.f0 _ b W' hb ⟨_, _, _, rfl⟩))
  have c2 := Lib.hid (fun W (hb : Below w.heap.size w W) => containsFunc 84 (fun args w => enters_of Tryz.func84 (by kernel_rfl) rfl args w) (fun x => (x.f1.length : Int) == 0) A c l W hll (Kd.C_below hC hb) hc (fun W' x A1 c1 hx _ _ => check2 x.f0 A1 _ c1 W'))
  have HALL := Lib.hid (And.intro hT (And.intro hC (And.intro hvz hall)))
  clear hT hC hvz hall hng hnn
  go_enter Tryz.func45, Tryz.ntmps45
  go_upto_region 1 with fail
  go_cut [26] (fun s26 wx => s26 = .bool (bad1 g n l) ∧ BoxIs w g n (.slice A l.length c) v wx)
  case first =>
    have B0 : BoxIs w g n (.slice A l.length c) v (w.alloc (.cells #[.string g, .string n, .slice A l.length c, .string v] 25)) := ⟨bA (Below.refl _ w) _, blk_new w _⟩
    obtain ⟨W0, hW0⟩ : ∃ W0, W0 = w.alloc (.cells #[.string g, .string n, .slice A l.length c, .string v] 25) := ⟨_, rfl⟩
    rw [← hW0] at B0
    rw [← hW0]
    clear hW0
    have x0 : W0.cell? ⟨w.heap.size, 0, none⟩ = some (.string g) := (bkC B0.box 0).trans rfl
    have x1 : W0.cell? ⟨w.heap.size, 1, none⟩ = some (.string n) := (bkC B0.box 1).trans rfl
    cases hge : g.toList.isEmpty
    · go_wp2_with fail
      refine (cg.out _).mono ?_
      rintro e wg ⟨rfl, hd⟩
      replace B0 := B0.step hd.below
      clear hd x0 x1
      have x1 : wg.cell? ⟨w.heap.size, 1, none⟩ = some (.string n) := (bkC B0.box 1).trans rfl
      cases hgb : nmB g
      · have HB := Lib.hid B0
        clear B0
        go_wp2_with fail
        go_meet
        exact ⟨congrArg Value.bool (by simp [bad1, *]), HB.out⟩
      · go_wp2_with fail
        refine (cn.out _).mono ?_
        rintro e wn ⟨rfl, hd⟩
        have BN := B0.step hd.below
        clear hd
        have x2 : wn.cell? ⟨w.heap.size, 2, none⟩ = some (.slice A l.length c) := (bkC BN.box 2).trans rfl
        cases hnb : nmB n
        · have HB := Lib.hid BN
          clear BN
          go_wp2_with fail
          go_meet
          exact ⟨congrArg Value.bool (by simp [bad1, *]), HB.out⟩
        · have cc := c1.out _ BN.below
          have HB := Lib.hid BN
          clear BN
          go_wp2_with fail
          refine cc.mono ?_
          rintro e w3 ⟨rfl, hb3⟩
          have HB3 := Lib.hid (HB.out.step hb3)
          clear hb3 cc
          go_wp2_with fail
          go_meet
          exact ⟨congrArg Value.bool (by simp [bad1, *]), HB3.out⟩
    · go_wp2_with fail
      refine (cn.out _).mono ?_
      rintro e wn ⟨rfl, hd⟩
      have BN := B0.step hd.below
      clear hd
      have x2 : wn.cell? ⟨w.heap.size, 2, none⟩ = some (.slice A l.length c) := (bkC BN.box 2).trans rfl
      cases hnb : nmB n
      · have HB := Lib.hid BN
        clear BN
        go_wp2_with fail
        go_meet
        exact ⟨congrArg Value.bool (by simp [bad1, *]), HB.out⟩
      · have cc := c1.out _ BN.below
        have HB := Lib.hid BN
        clear BN
        go_wp2_with fail
        refine cc.mono ?_
        rintro e w3 ⟨rfl, hb3⟩
        have HB3 := Lib.hid (HB.out.step hb3)
        clear hb3 cc
        go_wp2_with fail
        go_meet
        exact ⟨congrArg Value.bool (by simp [bad1, *]), HB3.out⟩
  case rest =>
    obtain ⟨rfl, B1⟩ := hcut
    obtain ⟨hT, hC, hvz, hall⟩ := HALL.out
    have hva : char_Valid.f v = some (vaB v) := va_some v hvz
    have hcl : strings_ContainsAny.f v (⟨#[13, 10]⟩ : ByteArray) = some (crlf v) := crlf_some v hvz
    have HV := Lib.hid (And.intro hva hcl)
    have HALL2 := Lib.hid hall
    have HR := Lib.hid (show checkB g n l v = (if bad1 g n l = true then 30 else if bad2 l = true then 31 else if bad3 v = true then 10 else if bad4 l = true then 10 else 0) from rfl)
    clear hva hcl hall
    cases hb1 : bad1 g n l
    · have x2 : wc.cell? ⟨w.heap.size, 2, none⟩ = some (.slice A l.length c) := (bkC B1.box 2).trans rfl
      have cc : Calls Tryz.prog 82 #[.slice A l.length c, .func (.func 84) #[] #[]] wc fun e w' => e = .returned (.bool (bad2 l)) ∧ Below wc.heap.size wc w' := c2.out _ B1.below
      have HB := Lib.hid B1
      clear B1
      cases hb2 : bad2 l
      · rw [hb2] at cc
        have H12 := Lib.hid (And.intro hb1 hb2)
        clear hb1 hb2
        go_wp2_with fail
        refine cc.mono ?_
        rintro e w2 ⟨rfl, hb⟩
        have B2 := HB.out.step hb
        clear cc hb x2 HB
        have x3 : w2.cell? ⟨w.heap.size, 3, none⟩ = some (.string v) := (bkC B2.box 3).trans rfl
        have cv := char_Valid.calls v (vaB v) w2 (TabsW.below hT B2.below) HV.out.1
        have HB := Lib.hid B2
        clear B2
        cases hv : vaB v
        · rw [hv] at cv
          have hRR : R = 10 := by rw [HRR.out, HR.out, H12.out.1, H12.out.2]; unfold bad3; rw [hv]; rfl
          have HE := Lib.hid hRR
          clear hv hRR
          go_wp2_with fail
          refine cv.mono ?_
          rintro e w3 ⟨rfl, hb⟩
          have HB3 := Lib.hid (HB.out.step hb)
          clear cv hb
          go_wp2_with fail
          go_ret
          exact ⟨by rw [HE.out]; rfl, HB3.out.below⟩
        · rw [hv] at cv
          have H3 := Lib.hid hv
          clear hv
          go_wp2_with fail
          refine cv.mono ?_
          rintro e w3 ⟨rfl, hb⟩
          have B3 := HB.out.step hb
          clear cv hb x3 HB
          have x3 : w3.cell? ⟨w.heap.size, 3, none⟩ = some (.string v) := (bkC B3.box 3).trans rfl
          have cl := strings_ContainsAny.calls v (⟨#[13, 10]⟩ : ByteArray) (crlf v) w3 HV.out.2
          have HB := Lib.hid B3
          clear B3
          cases hcr : crlf v
          · rw [hcr] at cl
            have hb3 : bad3 v = false := by unfold bad3; rw [H3.out, hcr]; rfl
            have H3 := Lib.hid hb3
            clear hcr hb3
            go_wp2_with fail
            refine cl.mono ?_
            rintro e w4 ⟨rfl, hb⟩
            have B4 := HB.out.step hb
            clear cl hb x3 HB
            have x2 : w4.cell? ⟨w.heap.size, 2, none⟩ = some (.slice A l.length c) := (bkC B4.box 2).trans rfl
            have HB := Lib.hid B4
            clear B4
            go_wp2_with fail
            go_loopg [42] l.length (fun m s42 wx => ∃ i : Nat, i + m = l.length ∧ s42 = .int .i64 (i : Int) ∧ (∀ j x, j < i → l[j]? = some x → x.f1.any badU = false) ∧ BoxIs w g n (.slice A l.length c) v wx)
            case atStart => exact ⟨0, by omega, rfl, fun j x hj => by omega, HB.out⟩
            case round =>
              obtain ⟨i, hin, rfl, hno, hB⟩ := hrel
              cases gk with
              | zero =>
                obtain rfl : i = l.length := by omega
                have h4 : bad4 l = false := by
                  unfold bad4
                  rw [List.any_eq_false]
                  intro x hx
                  obtain ⟨j, hj⟩ := List.mem_iff_getElem?.1 hx
                  rw [hno j x (List.getElem?_eq_some_iff.1 hj).1 hj]
                  decide
                have hRR : R = 0 := by rw [HRR.out, HR.out, H12.out.1, H12.out.2, H3.out, h4]; rfl
                have HE := Lib.hid (And.intro hRR hB)
                clear hno hB h4 hRR
                go_wp2_with fail
                go_ret
                exact ⟨by rw [HE.out.1]; rfl, HE.out.2.below⟩
              | succ m =>
                have hi : i < l.length := by omega
                have hiz : (i : Int) < l.length := by omega
                have hi0 : (0 : Int) ≤ i := by omega
                have wri : IntKind.i64.wrap ((i : Int) + 1) = (i : Int) + 1 := IntWalk.i64_in _ (by omega)
                obtain ⟨x, hx⟩ : ∃ x, rd_T31 l (i : Int) = x := ⟨_, rfl⟩
                have hxl : l[i]? = some x := by
                  rw [← hx]
                  unfold rd_T31
                  rw [Int.toNat_natCast, List.getD_eq_getElem?_getD, List.getElem?_eq_getElem hi]
                  rfl
                obtain ⟨ad, A1, d1, e1, hc0, hc1, hl1, hg1⟩ := at_T31 (Kd.C_below hC hB.below) (i : Int) hi0 hiz
                subst e1
                rw [hx, Int.toNat_natCast] at hc0 hc1
                rw [hx] at hg1 hl1
                have hq := HALL2.out x (List.mem_iff_getElem?.2 ⟨i, hxl⟩)
                have hfl : x.f1.length ≤ 4000000000 := hq.1.2
                have HX := Lib.hid (And.intro hno (And.intro hB (And.intro hxl (And.intro hg1 hq.2))))
                clear hno hB hx hxl hg1 hl1 hq
                go_wp2_with fail
                go_loopg [49] x.f1.length (fun q s49 wy => ∃ j : Nat, j + q = x.f1.length ∧ s49 = .int .i64 (j : Int) ∧ (∀ k u, k < j → x.f1[k]? = some u → badU u = false) ∧ Below wr.heap.size wr wy)
                case atStart => exact ⟨0, by omega, rfl, fun k u hk => by omega, bA (Below.refl _ wr) _⟩
                case round =>
                  obtain ⟨j, hjn, rfl, hnu, hBy⟩ := hrel
                  cases gk with
                  | zero =>
                    obtain rfl : j = x.f1.length := by omega
                    have hX : x.f1.any badU = false := by
                      rw [List.any_eq_false]
                      intro u hu
                      obtain ⟨k, hk⟩ := List.mem_iff_getElem?.1 hu
                      rw [hnu k u (List.getElem?_eq_some_iff.1 hk).1 hk]
                      decide
                    have HY := Lib.hid (And.intro hX hBy)
                    clear hnu hBy hX
                    go_wp2_with fail
                    go_roundg m
                    case measure => omega
                    case rel =>
                      refine ⟨i + 1, by omega, rfl, fun k y hk hy => ?_, HX.out.2.1.step HY.out.2⟩
                      rcases Nat.lt_or_ge k i with h | h
                      · exact HX.out.1 k y h hy
                      · obtain rfl : k = i := by omega
                        rw [HX.out.2.2.1] at hy
                        cases hy
                        exact HY.out.1
                  | succ q =>
                    have hj : j < x.f1.length := by omega
                    have hjz : (j : Int) < x.f1.length := by omega
                    have hj0 : (0 : Int) ≤ j := by omega
                    have wrj : IntKind.i64.wrap ((j : Int) + 1) = (j : Int) + 1 := IntWalk.i64_in _ (by omega)
                    obtain ⟨b, o, rfl, hcs⟩ := str_cells (Kd.C_below HX.out.2.2.2.1 hBy) (by omega)
                    have hcj := hcs j hj
                    obtain ⟨u, hu⟩ : ∃ u, x.f1.getD j ByteArray.empty = u := ⟨_, rfl⟩
                    have hul : x.f1[j]? = some u := by
                      rw [← hu, List.getD_eq_getElem?_getD, List.getElem?_eq_getElem hj]
                      rfl
                    rw [hu] at hcj
                    have huz : u.size ≤ 4000000000 := HX.out.2.2.2.2 u (List.mem_iff_getElem?.2 ⟨j, hul⟩)
                    have hB' := HX.out.2.1.step hBy
                    have cv := char_Valid.calls u (vaB u) _ (TabsW.below hT hB'.below) (va_some u huz)
                    have HU := Lib.hid (And.intro hnu (And.intro hBy hul))
                    have HBX := Lib.hid hB'
                    clear hnu hBy hul hcs hu hB'
                    cases hv : vaB u
                    · rw [hv] at cv
                      have hbu : badU u = true := by unfold badU; rw [hv]; rfl
                      have h4 := bad4_of l x u i j HX.out.2.2.1 HU.out.2.2 hbu
                      have hRR : R = 10 := by rw [HRR.out, HR.out, H12.out.1, H12.out.2, H3.out, h4]; rfl
                      have HE := Lib.hid hRR
                      clear hv hbu h4 hRR
                      go_wp2_with fail
                      refine cv.mono ?_
                      rintro e w5 ⟨rfl, hb⟩
                      have HB5 := Lib.hid (HBX.out.step hb)
                      clear cv hb
                      go_wp2_with fail
                      go_ret
                      exact ⟨by rw [HE.out]; rfl, HB5.out.below⟩
                    · rw [hv] at cv
                      have HVV := Lib.hid hv
                      clear hv
                      go_wp2_with fail
                      refine cv.mono ?_
                      rintro e w5 ⟨rfl, hb⟩
                      have HB5 := Lib.hid (And.intro (HBX.out.step hb) (bT HU.out.2.1 hb))
                      clear cv hb
                      have cr := Tryz.strings_Contains_one u 13 w5
                      have hcrB : decide (0 ≤ Lib.indexByte u.data.toList 13) = crB u := rfl
                      rw [hcrB] at cr
                      have HCB := Lib.hid hcrB
                      clear hcrB
                      cases hcb : crB u
                      · rw [hcb] at cr
                        have hbu : badU u = false := by unfold badU; rw [HVV.out, hcb]; rfl
                        have HE := Lib.hid hbu
                        clear hcb hbu
                        go_wp2_with fail
                        refine cr.mono ?_
                        rintro e w6 ⟨rfl, rfl⟩
                        clear cr
                        go_wp2_with fail
                        go_roundg q
                        case measure => omega
                        case rel =>
                          refine ⟨j + 1, by omega, rfl, fun k y hk hy => ?_, HB5.out.2⟩
                          rcases Nat.lt_or_ge k j with h | h
                          · exact HU.out.1 k y h hy
                          · obtain rfl : k = j := by omega
                            rw [HU.out.2.2] at hy
                            cases hy
                            exact HE.out
                      · rw [hcb] at cr
                        have hbu : badU u = true := by unfold badU; rw [HVV.out, hcb]; rfl
                        have h4 := bad4_of l x u i j HX.out.2.2.1 HU.out.2.2 hbu
                        have hRR : R = 10 := by rw [HRR.out, HR.out, H12.out.1, H12.out.2, H3.out, h4]; rfl
                        have HE := Lib.hid hRR
                        clear hcb hbu h4 hRR
                        go_wp2_with fail
                        refine cr.mono ?_
                        rintro e w6 ⟨rfl, rfl⟩
                        clear cr
                        go_wp2_with fail
                        go_ret
                        exact ⟨by rw [HE.out]; rfl, HB5.out.1.below⟩
          · rw [hcr] at cl
            have hRR : R = 10 := by rw [HRR.out, HR.out, H12.out.1, H12.out.2]; unfold bad3; rw [H3.out, hcr]; rfl
            have HE := Lib.hid hRR
            clear hcr hRR
            go_wp2_with fail
            refine cl.mono ?_
            rintro e w4 ⟨rfl, hb⟩
            have HB4 := Lib.hid (HB.out.step hb)
            clear cl hb
            go_wp2_with fail
            go_ret
            exact ⟨by rw [HE.out]; rfl, HB4.out.below⟩
      · rw [hb2] at cc
        have hRR : R = 31 := by rw [HRR.out, HR.out, hb1, hb2]; rfl
        have HE := Lib.hid hRR
        clear hb1 hb2 hRR
        go_wp2_with fail
        refine cc.mono ?_
        rintro e w2 ⟨rfl, hb⟩
        have HB2 := Lib.hid (HB.out.step hb)
        clear cc hb
        go_wp2_with fail
        go_ret
        exact ⟨by rw [HE.out]; rfl, HB2.out.below⟩
    · have hRR : R = 30 := by rw [HRR.out, HR.out, hb1]; rfl
      have HE := Lib.hid (And.intro hRR B1)
      clear hb1 hRR B1
      go_wp2_with fail
      go_ret
      exact ⟨by rw [HE.out.1]; rfl, HE.out.2.below⟩
end Go.Proofs.YthabooeapfepnaaGreatDoor.PL
