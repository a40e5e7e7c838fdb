import Derived.Test.YthabooeapfepnaaGreatDoorPLx0
import Derived.Test.YthabooeapfepnaaGreatDoorPLx1
import Derived.Test.YthabooeapfepnaaGreatDoorPLx2
namespace Go.Proofs.YthabooeapfepnaaGreatDoor.PL
open Go.RowKit Go.Proofs.YthabooeapfepnaaGreatDoor.Given Go.Proofs.YthabooeapfepnaaGreatDoorW.PrintWords Go.Proofs.YthabooeapfepnaaGreatDoorW.PrintLast Go.Proofs.YthabooeapfepnaaGreatDoorW.PrintMore
attribute [local go_sem] max2_int min2_int max_two min_two max_three min_three max_four min_four   -- for this text's walks alone
set_option linter.unusedVariables false
set_option linter.unusedSimpArgs false
def line_Name.f (k : Nat) (a0 : ByteArray) : Option (Bool) := (line_lead.f k a0).bind fun t158 => (if t158 = (a0.size : Int) then ((line_fits.f a0).bind fun t159 => (some t159)) else (some false))
set_option maxHeartbeats 8000000 in
set_option maxRecDepth 100000 in
theorem line_Name.calls (k : Nat) (a0 : ByteArray) (r : Bool) (w : World) (h : line_Name.f k a0 = some r) :
  Calls Tryz.prog 23 #[.string a0] w fun e w' => e = .returned (.bool r) ∧ Dr0 w w' := by
 have H : ((line_lead.f k a0).bind fun t158 => (if t158 = (a0.size : Int) then ((line_fits.f a0).bind fun t159 => (some t159)) else (some false))) = some r := h
 clear h
 replace H := Option.bind_eq_some_iff.mp H
 obtain ⟨t158, A20, H⟩ := H
 replace H : (if t158 = (a0.size : Int) then ((line_fits.f a0).bind fun t159 => (some t159)) else (some false)) = some r := H
 have A2 := A0q.mk A20
 clear A20
 by_cases c3 : t158 = (a0.size : Int)
 ·
  rw [if_pos c3] at H
  have c3b0 : (t158 == (a0.size : Int)) = true := beq_iff_eq.mpr c3
  have c3b1 : (t158 != (a0.size : Int)) = false := bne_eq_false_iff_eq.mpr c3
  clear c3
  replace H := Option.bind_eq_some_iff.mp H
  obtain ⟨t159, A40, H⟩ := H
  replace H : (some t159) = some r := H
  have A4 := A0q.mk A40
  clear A40
  obtain rfl := Option.some.inj H
  go_enter Tryz.func23, Tryz.ntmps23
  go_wp2_with (first | ((with_reducible refine gC (f := 59) rfl ?_); refine goesL_ (some 4) rfl rfl Tryz.func59 (by kernel_rfl) rfl #[.string a0] rfl (by (try simp only [List.map_toArray, List.map_cons, List.map_nil]); first | done | rfl | (simp only [List.length_drop, List.length_take]; rfl)) ?_; (with_reducible refine (line_lead.calls k a0 t158 _ A2.out).mono ?_); rintro e w' ⟨rfl, ⟨nd, rfl⟩⟩; refine ⟨_, rfl, ?_⟩) | (go_at_call 60; (with_reducible refine (line_fits.calls a0 t159 _ A4.out).mono ?_); rintro e w' ⟨rfl, ⟨nd, rfl⟩⟩))
  go_ret
  exact ⟨by first | rfl | (simp; done) | (simp [*]; done), by repeat (first | exact Dr0.refl _ | apply Dr0.step)⟩
 ·
  rw [if_neg c3] at H
  have c3b0 : (t158 == (a0.size : Int)) = false := beq_eq_false_iff_ne.mpr c3
  have c3b1 : (t158 != (a0.size : Int)) = true := bne_iff_ne.mpr c3
  obtain rfl := Option.some.inj H
  go_enter Tryz.func23, Tryz.ntmps23
  go_wp2_with (first | ((with_reducible refine gC (f := 59) rfl ?_); refine goesL_ (some 4) rfl rfl Tryz.func59 (by kernel_rfl) rfl #[.string a0] rfl (by (try simp only [List.map_toArray, List.map_cons, List.map_nil]); first | done | rfl | (simp only [List.length_drop, List.length_take]; rfl)) ?_; (with_reducible refine (line_lead.calls k a0 t158 _ A2.out).mono ?_); rintro e w' ⟨rfl, ⟨nd, rfl⟩⟩; refine ⟨_, rfl, ?_⟩))
  go_ret
  exact ⟨by first | rfl | (simp; done) | (simp [*]; done), by repeat (first | exact Dr0.refl _ | apply Dr0.step)⟩
def calepinlaw03_first.f (k : Nat)  : Option (Bool) := (lPa.f k (⟨#[97, 46, 84, 69, 76, 59, 84, 89, 80, 69, 61, 104, 111, 109, 101, 44, 34, 120, 44, 121, 34, 58, 43, 49]⟩ : ByteArray)).bind fun bt160 => ((lPa.f k (⟨#[58, 49]⟩ : ByteArray)).bind fun bt168 => (if bt160.2.2.2.2 = 0 then (if bt160.1.toList = ([97] : List UInt8) then (if bt160.2.1.toList = ([84, 69, 76] : List UInt8) then (if (bt160.2.2.1.length : Int) = 1 then (if 0 < (bt160.2.2.1.length : Int) then (if (((rd_T31 bt160.2.2.1 0).f1).length : Int) = 2 then (if bt160.2.2.2.1.toList = ([43, 49] : List UInt8) then (if bt168.2.2.2.2 = 30 then ((line_Name.f k (⟨#[65, 45, 49]⟩ : ByteArray)).bind fun t177 => (if t177 = true then ((line_Name.f k (⟨#[65, 32, 98]⟩ : ByteArray)).bind fun t178 => (some (!t178))) else (none))) else (none)) else (none)) else (none)) else (none)) else (none)) else (none)) else (none)) else (none)))
set_option maxHeartbeats 8000000 in
set_option maxRecDepth 100000 in
theorem calepinlaw03_first.calls (k : Nat)  (r : Bool) (w : World) (hT : TabsW w) (h : calepinlaw03_first.f k  = some r) :
  Calls Tryz.prog 14 #[] w fun e w' => e = .returned (.bool r) ∧ Below w.heap.size w w' := by
 have hu25 := Tryz.underlying25
 have HT := A0q.mk hT
 clear hT
 have HB := A0q.mk (Below.refl w.heap.size w)
 have H : ((lPa.f k (⟨#[97, 46, 84, 69, 76, 59, 84, 89, 80, 69, 61, 104, 111, 109, 101, 44, 34, 120, 44, 121, 34, 58, 43, 49]⟩ : ByteArray)).bind fun bt160 => ((lPa.f k (⟨#[58, 49]⟩ : ByteArray)).bind fun bt168 => (if bt160.2.2.2.2 = 0 then (if bt160.1.toList = ([97] : List UInt8) then (if bt160.2.1.toList = ([84, 69, 76] : List UInt8) then (if (bt160.2.2.1.length : Int) = 1 then (if 0 < (bt160.2.2.1.length : Int) then (if (((rd_T31 bt160.2.2.1 0).f1).length : Int) = 2 then (if bt160.2.2.2.1.toList = ([43, 49] : List UInt8) then (if bt168.2.2.2.2 = 30 then ((line_Name.f k (⟨#[65, 45, 49]⟩ : ByteArray)).bind fun t177 => (if t177 = true then ((line_Name.f k (⟨#[65, 32, 98]⟩ : ByteArray)).bind fun t178 => (some (!t178))) else (none))) else (none)) else (none)) else (none)) else (none)) else (none)) else (none)) else (none)) else (none)))) = some r := h
 clear h
 replace H := Option.bind_eq_some_iff.mp H
 obtain ⟨⟨t160, t161, t162, t165, t166⟩, A10, H⟩ := H
 replace H : ((lPa.f k (⟨#[58, 49]⟩ : ByteArray)).bind fun bt168 => (if t166 = 0 then (if t160.toList = ([97] : List UInt8) then (if t161.toList = ([84, 69, 76] : List UInt8) then (if (t162.length : Int) = 1 then (if 0 < (t162.length : Int) then (if (((rd_T31 t162 0).f1).length : Int) = 2 then (if t165.toList = ([43, 49] : List UInt8) then (if bt168.2.2.2.2 = 30 then ((line_Name.f k (⟨#[65, 45, 49]⟩ : ByteArray)).bind fun t177 => (if t177 = true then ((line_Name.f k (⟨#[65, 32, 98]⟩ : ByteArray)).bind fun t178 => (some (!t178))) else (none))) else (none)) else (none)) else (none)) else (none)) else (none)) else (none)) else (none)) else (none))) = some r := H
 have A1 := A0q.mk A10
 clear A10
 replace H := Option.bind_eq_some_iff.mp H
 obtain ⟨⟨t168, t169, t170, t173, t174⟩, A20, H⟩ := H
 replace H : (if t166 = 0 then (if t160.toList = ([97] : List UInt8) then (if t161.toList = ([84, 69, 76] : List UInt8) then (if (t162.length : Int) = 1 then (if 0 < (t162.length : Int) then (if (((rd_T31 t162 0).f1).length : Int) = 2 then (if t165.toList = ([43, 49] : List UInt8) then (if t174 = 30 then ((line_Name.f k (⟨#[65, 45, 49]⟩ : ByteArray)).bind fun t177 => (if t177 = true then ((line_Name.f k (⟨#[65, 32, 98]⟩ : ByteArray)).bind fun t178 => (some (!t178))) else (none))) else (none)) else (none)) else (none)) else (none)) else (none)) else (none)) else (none)) else (none)) = some r := H
 have A2 := A0q.mk A20
 clear A20
 by_cases c3 : t166 = 0
 ·
  rw [if_pos c3] at H
  have c3b0 : (t166 == 0) = true := beq_iff_eq.mpr c3
  have c3b1 : (t166 != 0) = false := bne_eq_false_iff_eq.mpr c3
  clear c3
  by_cases c4 : t160.toList = ([97] : List UInt8)
  ·
   rw [if_pos c4] at H
   have c4b0 : (t160.toList == ([97] : List UInt8)) = true := beq_iff_eq.mpr c4
   have c4b1 : (t160.toList != ([97] : List UInt8)) = false := bne_eq_false_iff_eq.mpr c4
   clear c4
   by_cases c5 : t161.toList = ([84, 69, 76] : List UInt8)
   ·
    rw [if_pos c5] at H
    have c5b0 : (t161.toList == ([84, 69, 76] : List UInt8)) = true := beq_iff_eq.mpr c5
    have c5b1 : (t161.toList != ([84, 69, 76] : List UInt8)) = false := bne_eq_false_iff_eq.mpr c5
    clear c5
    by_cases c6 : (t162.length : Int) = 1
    ·
     rw [if_pos c6] at H
     have c6b0 : ((t162.length : Int) == 1) = true := beq_iff_eq.mpr c6
     have c6b1 : ((t162.length : Int) != 1) = false := bne_eq_false_iff_eq.mpr c6
     clear c6
     by_cases c7 : 0 < (t162.length : Int)
     ·
      rw [if_pos c7] at H
      have c7b0 : decide (0 < (t162.length : Int)) = true := decide_eq_true c7
      have c7b1 : decide (0 < t162.length) = true := decide_eq_true (by omega)
      clear c7
      by_cases c8 : (((rd_T31 t162 0).f1).length : Int) = 2
      ·
       rw [if_pos c8] at H
       have c8b0 : ((((rd_T31 t162 0).f1).length : Int) == 2) = true := beq_iff_eq.mpr c8
       have c8b1 : ((((rd_T31 t162 0).f1).length : Int) != 2) = false := bne_eq_false_iff_eq.mpr c8
       clear c8
       by_cases c9 : t165.toList = ([43, 49] : List UInt8)
       ·
        rw [if_pos c9] at H
        have c9b0 : (t165.toList == ([43, 49] : List UInt8)) = true := beq_iff_eq.mpr c9
        have c9b1 : (t165.toList != ([43, 49] : List UInt8)) = false := bne_eq_false_iff_eq.mpr c9
        clear c9
        by_cases c10 : t174 = 30
        ·
         rw [if_pos c10] at H
         have c10b0 : (t174 == 30) = true := beq_iff_eq.mpr c10
         have c10b1 : (t174 != 30) = false := bne_eq_false_iff_eq.mpr c10
         clear c10
         replace H := Option.bind_eq_some_iff.mp H
         obtain ⟨t177, A110, H⟩ := H
         replace H : (if t177 = true then ((line_Name.f k (⟨#[65, 32, 98]⟩ : ByteArray)).bind fun t178 => (some (!t178))) else (none)) = some r := H
         have A11 := A0q.mk A110
         clear A110
         by_cases c12 : t177 = true
         ·
          subst c12
          have H1 : ((line_Name.f k (⟨#[65, 32, 98]⟩ : ByteArray)).bind fun t178 => (some (!t178))) = some r := by rw [if_pos rfl] at H; exact H
          clear H
          have H := H1
          clear H1
          replace H := Option.bind_eq_some_iff.mp H
          obtain ⟨t178, A130, H⟩ := H
          replace H : (some (!t178)) = some r := H
          have A13 := A0q.mk A130
          clear A130
          obtain rfl := Option.some.inj H
          go_enter Tryz.func14, Tryz.ntmps14
          go_wp2_with (first | ((with_reducible refine gC (f := 15) rfl ?_); refine goesL_ (some 6) rfl rfl Tryz.func15 (by kernel_rfl) rfl #[.string (⟨#[97, 46, 84, 69, 76, 59, 84, 89, 80, 69, 61, 104, 111, 109, 101, 44, 34, 120, 44, 121, 34, 58, 43, 49]⟩ : ByteArray)] rfl (by (try simp only [List.map_toArray, List.map_cons, List.map_nil]); first | done | rfl | (simp only [List.length_drop, List.length_take]; rfl)) ?_; (with_reducible refine (lPa.calls k (⟨#[97, 46, 84, 69, 76, 59, 84, 89, 80, 69, 61, 104, 111, 109, 101, 44, 34, 120, 44, 121, 34, 58, 43, 49]⟩ : ByteArray) t160 t161 t162 t165 t166 _ ?side1 A1.out).mono ?_); (case side1 => exact TabsW.below HT.out (by repeat (first | (with_reducible first | exact HB.out | apply bA | apply bdN | apply bd1) | exact HB.out))); rintro e w14 ⟨v163, rfl, ho0, hb⟩; refine ⟨_, rfl, ?_⟩; have n0_ := A0q.mk (Kd.S_lower ho0 (bZ (by repeat (first | (with_reducible first | exact HB.out | apply bA | apply bdN | apply bd1) | exact HB.out)))); have n1_ := A0q.mk (bT (by repeat (first | (with_reducible first | exact HB.out | apply bA | apply bdN | apply bd1) | exact HB.out)) hb); clear HB; have HO164 := n0_; have HB := n1_; clear n0_ n1_; (try clear hb); (try clear hb2); (try clear hk); (try clear hi); (try clear ho0)) | ((with_reducible refine gate_dst (N := 1) rfl ?_); (try (refine gate_guard (by rfl) ?_; dsimp only)); refine box_event ?hg (N := 1) ?hd (cs := #[.string (⟨#[]⟩ : ByteArray), .string (⟨#[]⟩ : ByteArray), .slice none 0 0, .string (⟨#[]⟩ : ByteArray)]) (t := 25) ?hr ?_; (case hd => rfl); (case hg => rfl); (case hr => first | (go_simp; done) | (go_simp; rfl)); intro gb167 hg w15 hbox hb; have n0_ := A0q.mk (Kd.S_below (by (with_reducible repeat (first | apply Kd.S_alloc | apply Kd.S_drewN | apply Kd.S_drew)); exact HO164.out) hb); have n1_ := A0q.mk (bT (by repeat (first | (with_reducible first | exact HB.out | apply bA | apply bdN | apply bd1) | exact HB.out)) hb); have n2_ := A0q.mk (hbox); have n3_ := A0q.mk ((by rw [hg]; exact (bZ (by repeat (first | (with_reducible first | exact HB.out | apply bA | apply bdN | apply bd1) | exact HB.out))) : w.heap.size ≤ gb167)); have n4_ := A0q.mk ((by rw [hg]; exact (bZ (by repeat (first | (with_reducible first | exact HB.out | apply bA | apply bdN | apply bd1) | exact HB.out))) : w.heap.size ≤ gb167)); clear HO164; clear HB; have HO164 := n0_; have HB := n1_; have BK167 := n2_; have GW167 := n3_; have GE167 := n4_; clear n0_ n1_ n2_ n3_ n4_; clear hb hbox hg; have hcz16_0 : w15.cell? ⟨gb167, 0, none⟩ = some (.string (⟨#[]⟩ : ByteArray)) := (bkC BK167.out 0).trans rfl; have hcz16_1 : w15.cell? ⟨gb167, 1, none⟩ = some (.string (⟨#[]⟩ : ByteArray)) := (bkC BK167.out 1).trans rfl; have hcz16_2 : w15.cell? ⟨gb167, 2, none⟩ = some (.slice none 0 0) := (bkC BK167.out 2).trans rfl; have hcz16_3 : w15.cell? ⟨gb167, 3, none⟩ = some (.string (⟨#[]⟩ : ByteArray)) := (bkC BK167.out 3).trans rfl; have hfz16_0 := bkF BK167.out 0; have hfz16_1 := bkF BK167.out 1; have hfz16_2 := bkF BK167.out 2; have hfz16_3 := bkF BK167.out 3; obtain ⟨Ao17, co17, eo17⟩ := Kd.S_slice HO164.out; subst eo17) | ((with_reducible refine gC (f := 15) rfl ?_); refine goesL_ (some 10) rfl rfl Tryz.func15 (by kernel_rfl) rfl #[.string (⟨#[58, 49]⟩ : ByteArray)] rfl (by (try simp only [List.map_toArray, List.map_cons, List.map_nil]); first | done | rfl | (simp only [List.length_drop, List.length_take]; rfl)) ?_; (with_reducible refine (lPa.calls k (⟨#[58, 49]⟩ : ByteArray) t168 t169 t170 t173 t174 _ ?side1 A2.out).mono ?_); (case side1 => exact TabsW.below HT.out (by repeat (first | (with_reducible first | exact HB.out | apply bA | apply bdN | apply bd1 | refine bS ?_ GE167.out) | exact HB.out))); rintro e w18 ⟨v171, rfl, ho0, hb⟩; refine ⟨_, rfl, ?_⟩; have n0_ := A0q.mk (Kd.S_elder' (by (with_reducible repeat (first | apply Kd.S_alloc | apply Kd.S_drewN | apply Kd.S_drew)); exact (Kd.S_mono (Kd.S_far (p := ⟨gb167, 3, none⟩) (Kd.S_far (p := ⟨gb167, 2, none⟩) (Kd.S_far (p := ⟨gb167, 1, none⟩) (Kd.S_far (p := ⟨gb167, 0, none⟩) (Kd.S_types HO164.out BK167.out (by decide)) (fun _ hk => hk.2) (.string t160)) (fun _ hk => hk.2) (.string t161)) (fun _ hk => hk.2) (.slice Ao17 t162.length co17)) (fun _ hk => hk.2) (.string t165)) (fun _ h_ => h_.1))) (Kd.S_base ho0) hb); have n1_ := A0q.mk (Kd.S_lower (Kd.S_new' ho0 (Kd.S_lt (by (with_reducible repeat (first | apply Kd.S_alloc | apply Kd.S_drewN | apply Kd.S_drew)); exact (Kd.S_mono (Kd.S_far (p := ⟨gb167, 3, none⟩) (Kd.S_far (p := ⟨gb167, 2, none⟩) (Kd.S_far (p := ⟨gb167, 1, none⟩) (Kd.S_far (p := ⟨gb167, 0, none⟩) (Kd.S_types HO164.out BK167.out (by decide)) (fun _ hk => hk.2) (.string t160)) (fun _ hk => hk.2) (.string t161)) (fun _ hk => hk.2) (.slice Ao17 t162.length co17)) (fun _ hk => hk.2) (.string t165)) (fun _ h_ => h_.1))))) (bZ (by repeat (first | (with_reducible first | exact HB.out | apply bA | apply bdN | apply bd1 | refine bS ?_ GE167.out) | exact HB.out)))); have n2_ := A0q.mk (bkB (g := gb167) (o := .cells #[.string t160, .string t161, .slice Ao17 t162.length co17, .string t165] 25 (0, 0)) (by (with_reducible repeat (first | refine bkN ?_ _ | refine bkD ?_ | refine bkA ?_ _)); refine bkP (cs := #[.string t160, .string t161, .slice Ao17 t162.length co17, .string (⟨#[]⟩ : ByteArray)]) ?_ 3 _ rfl; (with_reducible repeat (first | refine bkN ?_ _ | refine bkD ?_ | refine bkA ?_ _)); refine bkP (cs := #[.string t160, .string t161, .slice none 0 0, .string (⟨#[]⟩ : ByteArray)]) ?_ 2 _ rfl; (with_reducible repeat (first | refine bkN ?_ _ | refine bkD ?_ | refine bkA ?_ _)); refine bkP (cs := #[.string t160, .string (⟨#[]⟩ : ByteArray), .slice none 0 0, .string (⟨#[]⟩ : ByteArray)]) ?_ 1 _ rfl; (with_reducible repeat (first | refine bkN ?_ _ | refine bkD ?_ | refine bkA ?_ _)); refine bkP (cs := #[.string (⟨#[]⟩ : ByteArray), .string (⟨#[]⟩ : ByteArray), .slice none 0 0, .string (⟨#[]⟩ : ByteArray)]) ?_ 0 _ rfl; (with_reducible repeat (first | refine bkN ?_ _ | refine bkD ?_ | refine bkA ?_ _)); exact BK167.out) hb); have n3_ := A0q.mk (bT (by repeat (first | (with_reducible first | exact HB.out | apply bA | apply bdN | apply bd1 | refine bS ?_ GE167.out) | exact HB.out)) hb); clear HO164; clear BK167; clear HB; have HO164 := n0_; have HO172 := n1_; have BK167 := n2_; have HB := n3_; clear n0_ n1_ n2_ n3_; (try clear hb); (try clear hb2); (try clear hk); (try clear hi); (try clear ho0)) | ((with_reducible refine gate_dst (N := 3) rfl ?_); (try (refine gate_guard (by rfl) ?_; dsimp only)); refine box_event ?hg (N := 3) ?hd (cs := #[.string (⟨#[]⟩ : ByteArray), .string (⟨#[]⟩ : ByteArray), .slice none 0 0, .string (⟨#[]⟩ : ByteArray)]) (t := 25) ?hr ?_; (case hd => rfl); (case hg => rfl); (case hr => first | (go_simp; done) | (go_simp; rfl)); intro gb175 hg w19 hbox hb; have n0_ := A0q.mk (Kd.S_below (by (with_reducible repeat (first | apply Kd.S_alloc | apply Kd.S_drewN | apply Kd.S_drew)); exact HO164.out) hb); have n1_ := A0q.mk (Kd.S_below (by (with_reducible repeat (first | apply Kd.S_alloc | apply Kd.S_drewN | apply Kd.S_drew)); exact HO172.out) hb); have n2_ := A0q.mk (bkB (g := gb167) (o := .cells #[.string t160, .string t161, .slice Ao17 t162.length co17, .string t165] 25 (0, 0)) (by (with_reducible repeat (first | refine bkN ?_ _ | refine bkD ?_ | refine bkA ?_ _)); exact BK167.out) hb); have n3_ := A0q.mk (bT (by repeat (first | (with_reducible first | exact HB.out | apply bA | apply bdN | apply bd1 | refine bS ?_ GE167.out) | exact HB.out)) hb); have n4_ := A0q.mk (hbox); have n5_ := A0q.mk ((by rw [hg]; exact (bZ (by repeat (first | (with_reducible first | exact HB.out | apply bA | apply bdN | apply bd1 | refine bS ?_ GE167.out) | exact HB.out))) : w.heap.size ≤ gb175)); have n6_ := A0q.mk ((by rw [hg]; exact (bZ (by repeat (first | (with_reducible first | exact HB.out | apply bA | apply bdN | apply bd1 | refine bS ?_ GE167.out) | exact HB.out))) : w.heap.size ≤ gb175)); have n7_ := A0q.mk ((by rw [hg]; exact Nat.ne_of_lt (bkL (g := gb167) (o := .cells #[.string t160, .string t161, .slice Ao17 t162.length co17, .string t165] 25 (0, 0)) (by (with_reducible repeat (first | refine bkN ?_ _ | refine bkD ?_ | refine bkA ?_ _)); exact BK167.out)) : gb167 ≠ gb175)); have n8_ := A0q.mk ((by rw [hg]; exact Nat.ne_of_gt (bkL (g := gb167) (o := .cells #[.string t160, .string t161, .slice Ao17 t162.length co17, .string t165] 25 (0, 0)) (by (with_reducible repeat (first | refine bkN ?_ _ | refine bkD ?_ | refine bkA ?_ _)); exact BK167.out)) : gb175 ≠ gb167)); clear HO164; clear HO172; clear BK167; clear HB; have HO164 := n0_; have HO172 := n1_; have BK167 := n2_; have HB := n3_; have BK175 := n4_; have GW175 := n5_; have GE175 := n6_; have NB167_175 := n7_; have NB175_167 := n8_; clear n0_ n1_ n2_ n3_ n4_ n5_ n6_ n7_ n8_; clear hb hbox hg; have hnb20 := NB175_167.out; have hnc20 := NB167_175.out; have hcz21_0 : w19.cell? ⟨gb175, 0, none⟩ = some (.string (⟨#[]⟩ : ByteArray)) := (bkC BK175.out 0).trans rfl; have hcz21_1 : w19.cell? ⟨gb175, 1, none⟩ = some (.string (⟨#[]⟩ : ByteArray)) := (bkC BK175.out 1).trans rfl; have hcz21_2 : w19.cell? ⟨gb175, 2, none⟩ = some (.slice none 0 0) := (bkC BK175.out 2).trans rfl; have hcz21_3 : w19.cell? ⟨gb175, 3, none⟩ = some (.string (⟨#[]⟩ : ByteArray)) := (bkC BK175.out 3).trans rfl; have hfz21_0 := bkF BK175.out 0; have hfz21_1 := bkF BK175.out 1; have hfz21_2 := bkF BK175.out 2; have hfz21_3 := bkF BK175.out 3; obtain ⟨Ao22, co22, eo22⟩ := Kd.S_slice HO172.out; subst eo22) | ((with_reducible refine gate_store (t := 25) (p := 3) rfl ?_); refine store_event (t := 25) (p := 3) (v := ?vo_w23) (w1 := ((((w19.setCell ⟨gb175, 0, none⟩ (.string t168)).setCell ⟨gb175, 1, none⟩ (.string t169)).setCell ⟨gb175, 2, none⟩ (.slice Ao22 t170.length co22)).setCell ⟨gb175, 3, none⟩ (.string t173))) ?hg ?ho ?hn ?hr ?_; (case ho => rfl); (case hg => rfl); (case hn => rfl); (case hr => first | (go_simp; done) | (go_simp; rfl)); intro w23 hw; have n0_ : A0q (Kd.S k31 31 w23 w.heap.size (fun k_ => some k_ ≠ (.slice Ao22 t170.length co22 : Value).ownBlock) (.slice Ao17 t162.length co17) t162) := ⟨(by rw [hw]; exact (by (with_reducible repeat (first | apply Kd.S_alloc | apply Kd.S_drewN | apply Kd.S_drew)); exact Kd.S_mono (Kd.S_far (p := ⟨gb175, 3, none⟩) (Kd.S_far (p := ⟨gb175, 2, none⟩) (Kd.S_far (p := ⟨gb175, 1, none⟩) (Kd.S_far (p := ⟨gb175, 0, none⟩) (Kd.S_types HO164.out BK175.out (by decide)) (fun _ hk => hk.2) (.string t168)) (fun _ hk => hk.2) (.string t169)) (fun _ hk => hk.2) (.slice Ao22 t170.length co22)) (fun _ hk => hk.2) (.string t173)) (fun _ hk => hk.1.2)))⟩; have n1_ : A0q (Kd.S k31 31 w23 w.heap.size (fun k_ => some k_ ≠ (.slice Ao17 t162.length co17 : Value).ownBlock) (.slice Ao22 t170.length co22) t170) := ⟨(by rw [hw]; exact (by (with_reducible repeat (first | apply Kd.S_alloc | apply Kd.S_drewN | apply Kd.S_drew)); exact Kd.S_mono (Kd.S_far (p := ⟨gb175, 3, none⟩) (Kd.S_far (p := ⟨gb175, 2, none⟩) (Kd.S_far (p := ⟨gb175, 1, none⟩) (Kd.S_far (p := ⟨gb175, 0, none⟩) (Kd.S_types HO172.out BK175.out (by decide)) (fun _ hk => hk.2) (.string t168)) (fun _ hk => hk.2) (.string t169)) (fun _ hk => hk.2) (.slice Ao22 t170.length co22)) (fun _ hk => hk.2) (.string t173)) (fun _ hk => hk.1.2)))⟩; have n2_ : A0q (w23.heap[gb167]? = some (.cells #[.string t160, .string t161, .slice Ao17 t162.length co17, .string t165] 25 (0, 0))) := ⟨(by rw [hw]; exact (by (with_reducible repeat (first | refine bkN ?_ _ | refine bkD ?_ | refine bkA ?_ _)); refine bkR ?_ NB167_175.out _; (with_reducible repeat (first | refine bkN ?_ _ | refine bkD ?_ | refine bkA ?_ _)); refine bkR ?_ NB167_175.out _; (with_reducible repeat (first | refine bkN ?_ _ | refine bkD ?_ | refine bkA ?_ _)); refine bkR ?_ NB167_175.out _; (with_reducible repeat (first | refine bkN ?_ _ | refine bkD ?_ | refine bkA ?_ _)); refine bkR ?_ NB167_175.out _; (with_reducible repeat (first | refine bkN ?_ _ | refine bkD ?_ | refine bkA ?_ _)); exact BK167.out))⟩; have n3_ : A0q (w23.heap[gb175]? = some (.cells #[.string t168, .string t169, .slice Ao22 t170.length co22, .string t173] 25 (0, 0))) := ⟨(by rw [hw]; exact (by (with_reducible repeat (first | refine bkN ?_ _ | refine bkD ?_ | refine bkA ?_ _)); refine bkP (cs := #[.string t168, .string t169, .slice Ao22 t170.length co22, .string (⟨#[]⟩ : ByteArray)]) ?_ 3 _ rfl; (with_reducible repeat (first | refine bkN ?_ _ | refine bkD ?_ | refine bkA ?_ _)); refine bkP (cs := #[.string t168, .string t169, .slice none 0 0, .string (⟨#[]⟩ : ByteArray)]) ?_ 2 _ rfl; (with_reducible repeat (first | refine bkN ?_ _ | refine bkD ?_ | refine bkA ?_ _)); refine bkP (cs := #[.string t168, .string (⟨#[]⟩ : ByteArray), .slice none 0 0, .string (⟨#[]⟩ : ByteArray)]) ?_ 1 _ rfl; (with_reducible repeat (first | refine bkN ?_ _ | refine bkD ?_ | refine bkA ?_ _)); refine bkP (cs := #[.string (⟨#[]⟩ : ByteArray), .string (⟨#[]⟩ : ByteArray), .slice none 0 0, .string (⟨#[]⟩ : ByteArray)]) ?_ 0 _ rfl; (with_reducible repeat (first | refine bkN ?_ _ | refine bkD ?_ | refine bkA ?_ _)); exact BK175.out))⟩; have n4_ : A0q (Below w.heap.size w w23) := ⟨(by rw [hw]; exact (by repeat (first | (with_reducible first | exact HB.out | apply bA | apply bdN | apply bd1 | refine bS ?_ GE167.out | refine bS ?_ GE175.out) | exact HB.out)))⟩; clear hw; clear HO164; clear HO172; clear BK167; clear BK175; clear HB; have HO164 := n0_; have HO172 := n1_; have BK167 := n2_; have BK175 := n3_; have HB := n4_; clear n0_ n1_ n2_ n3_ n4_; have hcz24_0 : w23.cell? ⟨gb167, 0, none⟩ = some (.string t160) := (bkC BK167.out 0).trans rfl; have hcz24_1 : w23.cell? ⟨gb167, 1, none⟩ = some (.string t161) := (bkC BK167.out 1).trans rfl; have hcz24_2 : w23.cell? ⟨gb167, 2, none⟩ = some (.slice Ao17 t162.length co17) := (bkC BK167.out 2).trans rfl; have hcz24_3 : w23.cell? ⟨gb167, 3, none⟩ = some (.string t165) := (bkC BK167.out 3).trans rfl; have hfz24_0 := bkF BK167.out 0; have hfz24_1 := bkF BK167.out 1; have hfz24_2 := bkF BK167.out 2; have hfz24_3 := bkF BK167.out 3; have p176 : 0 ≤ (0 : Int) := (by omega); have q176 : 0 < (t162.length : Int) := of_decide_eq_true (by first | (with_reducible assumption) | assumption); obtain ⟨ad176, A176_1, c176_1, e176, hx176_0, hx176_1, hl176_1, hi176_1⟩ := at_T31 (Kd.S_reads' HO164.out).2.2 0 p176 q176; cases e176; obtain ⟨ce176, hce176, hMe176, hcc176⟩ := Kd.S_get HO164.out z31 0 p176 (by first | exact q176 | exact of_decide_eq_true (by first | (with_reducible assumption) | assumption) | (have e_ := (Kd.S_reads' HO164.out).1; omega)); obtain ⟨ve176_1, rfl, ge176_1⟩ := k31_openM hMe176; have hv176_1 := hcc176 1 _ rfl; rw [add_field _ _ 1 (by omega)] at hv176_1; replace hv176_1 := Option.some.inj (hv176_1.symm.trans hx176_1); rw [hv176_1] at ge176_1; have HL176_1 := A0q.mk (show Kd.R Kd.string 9 _ _ _ _ ((rd_T31 t162 0).f1) from ge176_1); clear hv176_1 ge176_1; clear hcc176 hce176; have qi176 : (0 < t162.length) = True := eq_true (by omega); (try rw [show ((0 : Int)).toNat = 0 from rfl] at hx176_0); (try rw [show 0 * 2 = 0 from rfl] at hx176_0); (try rw [Addr.add_zero'] at hx176_0); (try rw [show ((0 : Int)).toNat = 0 from rfl] at hx176_1); (try rw [show 0 * 2 = 0 from rfl] at hx176_1); (try rw [Addr.add_zero'] at hx176_1); have HR176_1 := A0q.mk hi176_1; have HC176_1 := A0q.mk hl176_1; clear hi176_1 hl176_1; replace p176 := eq_true p176; replace q176 := eq_true q176) | (go_at_call 23; (with_reducible refine (line_Name.calls k (⟨#[65, 45, 49]⟩ : ByteArray) true _ A11.out).mono ?_); rintro e w' ⟨rfl, ⟨nd, rfl⟩⟩) | (go_at_call 23; (with_reducible refine (line_Name.calls k (⟨#[65, 32, 98]⟩ : ByteArray) t178 _ A13.out).mono ?_); rintro e w' ⟨rfl, ⟨nd, rfl⟩⟩))
          go_ret
          exact ⟨by first | rfl | (simp [eWn, eWs] <;> rfl) | (simp [*, eWn, eWs] <;> rfl), by repeat (first | (with_reducible first | exact HB.out | apply bA | apply bdN | apply bd1 | refine bS ?_ GE167.out | refine bS ?_ GE175.out) | exact HB.out)⟩
         ·
          replace c12 := Bool.eq_false_iff.mpr c12
          subst c12
          exact absurd H (by simp)
        ·
         rw [if_neg c10] at H
         exact absurd H (by simp)
       ·
        rw [if_neg c9] at H
        exact absurd H (by simp)
      ·
       rw [if_neg c8] at H
       exact absurd H (by simp)
     ·
      rw [if_neg c7] at H
      exact absurd H (by simp)
    ·
     rw [if_neg c6] at H
     exact absurd H (by simp)
   ·
    rw [if_neg c5] at H
    exact absurd H (by simp)
  ·
   rw [if_neg c4] at H
   exact absurd H (by simp)
 ·
  rw [if_neg c3] at H
  exact absurd H (by simp)
end Go.Proofs.YthabooeapfepnaaGreatDoor.PL
