/- A part of a proof over the package's statements: contracts of functions and plain facts, merged by a program of this session's out of the texts in wip/src. -/
import Derived.Test.YtgeonilideojnaaGreatDoorMA5
import Derived.Test.YtgeonilideojnaaGreatDoorMA1
namespace Go.Proofs.YtgeonilideojnaaGreatDoor.Pr
open Go.RowKit Go.Proofs.YtgeonilideojnaaGreatDoorW.PrintWords Go.Proofs.YtgeonilideojnaaGreatDoorW.PrintLast Go.Proofs.YtgeonilideojnaaGreatDoorW.PrintMore
attribute [local go_sem] max2_int min2_int max_two min_two max_three min_three max_four min_four   -- for this text's walks alone
set_option linter.unusedVariables false
set_option linter.unusedSimpArgs false
/-! ### tokens_Name: function 18 -/
def tokens_Name.f (a0 : ByteArray) : Option (ByteArray) := (TkC.plain.f a0).bind fun t101 => (if t101 = true then (some a0) else ((TkC.escaped.f a0 (⟨#[92, 39]⟩ : ByteArray)).bind fun t102 => (if 1 + t102.size ≤ 9223372036854775807 then (if ((⟨#[39]⟩ : ByteArray) ++ t102).size + 1 ≤ 9223372036854775807 then (some (((⟨#[39]⟩ : ByteArray) ++ t102) ++ (⟨#[39]⟩ : ByteArray))) else (none)) else (none))))
set_option maxHeartbeats 8000000 in
set_option maxRecDepth 100000 in
theorem tokens_Name.calls (a0 : ByteArray) (r : ByteArray) (w : World) (hEnv : EnvW w) (h : tokens_Name.f a0 = some r) :
    Calls Tryz.prog 18 #[.string a0] w fun e w' => e = .returned (.string r) ∧ Below w.heap.size w w' := by
  have HB := Aside0.mk (Below.refl w.heap.size w)
  have H : ((TkC.plain.f a0).bind fun t101 => (if t101 = true then (some a0) else ((TkC.escaped.f a0 (⟨#[92, 39]⟩ : ByteArray)).bind fun t102 => (if 1 + t102.size ≤ 9223372036854775807 then (if ((⟨#[39]⟩ : ByteArray) ++ t102).size + 1 ≤ 9223372036854775807 then (some (((⟨#[39]⟩ : ByteArray) ++ t102) ++ (⟨#[39]⟩ : ByteArray))) else (none)) else (none))))) = some r := h
  clear h
  replace H := Option.bind_eq_some_iff.mp H
  obtain ⟨t101, A20, H⟩ := H
  replace H : (if t101 = true then (some a0) else ((TkC.escaped.f a0 (⟨#[92, 39]⟩ : ByteArray)).bind fun t102 => (if 1 + t102.size ≤ 9223372036854775807 then (if ((⟨#[39]⟩ : ByteArray) ++ t102).size + 1 ≤ 9223372036854775807 then (some (((⟨#[39]⟩ : ByteArray) ++ t102) ++ (⟨#[39]⟩ : ByteArray))) else (none)) else (none)))) = some r := H
  have A2 := Aside0.mk A20
  clear A20
  by_cases c3 : t101 = true
  · subst c3
    have H1 : (some a0) = some r := by rw [if_pos rfl] at H; exact H
    clear H
    have H := H1
    clear H1
    obtain rfl := Option.some.inj H
    go_enter Tryz.func18, Tryz.ntmps18
    go_wp2_with (first | ((with_reducible refine gate_callee (f := 44) rfl ?_); refine goesL_ (some 4) rfl rfl Tryz.func44 (by kernel_rfl) rfl #[.string a0] rfl (by (try simp only [List.map_toArray, List.map_cons, List.map_nil]); first | done | rfl | (simp only [List.length_drop, List.length_take]; rfl)) ?_; (with_reducible refine (TkC.plain.calls a0 true _ ?side1 A2.out).mono ?_); (case side1 => first | exact hEnv | exact EnvW.below hEnv (by repeat (first | (with_reducible first | exact HB.out | apply below_alloc | apply pw_below_drewN | apply below_drew1) | exact HB.out)) | exact hEnv.drewN _); rintro e w4 ⟨rfl, hb⟩; refine ⟨_, rfl, ?_⟩; have n0_ := Aside0.mk (below_step (by repeat (first | (with_reducible first | exact HB.out | apply below_alloc | apply pw_below_drewN | apply below_drew1) | exact HB.out)) hb); clear HB; have HB := n0_; clear n0_; (try clear hb); (try clear hb2); (try clear hk); (try clear hi)))
    go_ret
    exact ⟨by first | rfl | (simp [errW_none, errW_some] <;> rfl) | (simp [*, errW_none, errW_some] <;> rfl), by repeat (first | (with_reducible first | exact HB.out | apply below_alloc | apply pw_below_drewN | apply below_drew1) | exact HB.out)⟩
  · replace c3 := Bool.eq_false_iff.mpr c3
    subst c3
    have H1 : ((TkC.escaped.f a0 (⟨#[92, 39]⟩ : ByteArray)).bind fun t102 => (if 1 + t102.size ≤ 9223372036854775807 then (if ((⟨#[39]⟩ : ByteArray) ++ t102).size + 1 ≤ 9223372036854775807 then (some (((⟨#[39]⟩ : ByteArray) ++ t102) ++ (⟨#[39]⟩ : ByteArray))) else (none)) else (none))) = some r := by rw [if_neg (show ¬ (false = true) by decide)] at H; exact H
    clear H
    have H := H1
    clear H1
    replace H := Option.bind_eq_some_iff.mp H
    obtain ⟨t102, A50, H⟩ := H
    replace H : (if 1 + t102.size ≤ 9223372036854775807 then (if ((⟨#[39]⟩ : ByteArray) ++ t102).size + 1 ≤ 9223372036854775807 then (some (((⟨#[39]⟩ : ByteArray) ++ t102) ++ (⟨#[39]⟩ : ByteArray))) else (none)) else (none)) = some r := H
    have A5 := Aside0.mk A50
    clear A50
    by_cases c6 : 1 + t102.size ≤ 9223372036854775807
    · rw [if_pos c6] at H
      have c6b0 := eq_true c6
      have c6b1 : decide (1 + t102.size ≤ 9223372036854775807) = true := decide_eq_true c6
      try have c6b2 : (9223372036854775807 < 1 + t102.size) = False := eq_false (Nat.not_lt.2 c6)
      by_cases c7 : ((⟨#[39]⟩ : ByteArray) ++ t102).size + 1 ≤ 9223372036854775807
      · rw [if_pos c7] at H
        have c7b0 := eq_true c7
        have c7b1 : decide (((⟨#[39]⟩ : ByteArray) ++ t102).size + 1 ≤ 9223372036854775807) = true := decide_eq_true c7
        (try (have c7n := c7; simp only [ByteArray.size_append, show (⟨#[39]⟩ : ByteArray).size = 1 from rfl] at c7n; have c7n0 := eq_true c7n; have c7n1 := eq_false (Nat.not_lt.2 c7n)))
        try have c7b2 : (9223372036854775807 < ((⟨#[39]⟩ : ByteArray) ++ t102).size + 1) = False := eq_false (Nat.not_lt.2 c7)
        obtain rfl := Option.some.inj H
        go_enter Tryz.func18, Tryz.ntmps18
        go_wp2_with (first | ((with_reducible refine gate_callee (f := 44) rfl ?_); refine goesL_ (some 4) rfl rfl Tryz.func44 (by kernel_rfl) rfl #[.string a0] rfl (by (try simp only [List.map_toArray, List.map_cons, List.map_nil]); first | done | rfl | (simp only [List.length_drop, List.length_take]; rfl)) ?_; (with_reducible refine (TkC.plain.calls a0 false _ ?side1 A2.out).mono ?_); (case side1 => first | exact hEnv | exact EnvW.below hEnv (by repeat (first | (with_reducible first | exact HB.out | apply below_alloc | apply pw_below_drewN | apply below_drew1) | exact HB.out)) | exact hEnv.drewN _); rintro e w8 ⟨rfl, hb⟩; refine ⟨_, rfl, ?_⟩; have n0_ := Aside0.mk (below_step (by repeat (first | (with_reducible first | exact HB.out | apply below_alloc | apply pw_below_drewN | apply below_drew1) | exact HB.out)) hb); clear HB; have HB := n0_; clear n0_; (try clear hb); (try clear hb2); (try clear hk); (try clear hi)) | ((with_reducible refine gate_callee (f := 45) rfl ?_); refine goesL_ (some 7) rfl rfl Tryz.func45 (by kernel_rfl) rfl #[.string a0, .string (⟨#[92, 39]⟩ : ByteArray)] rfl (by (try simp only [List.map_toArray, List.map_cons, List.map_nil]); first | done | rfl | (simp only [List.length_drop, List.length_take]; rfl)) ?_; (with_reducible refine (TkC.escaped.calls a0 (⟨#[92, 39]⟩ : ByteArray) t102 _ A5.out).mono ?_); rintro e w9 ⟨rfl, hb⟩; refine ⟨_, rfl, ?_⟩; have n0_ := Aside0.mk (below_step (by repeat (first | (with_reducible first | exact HB.out | apply below_alloc | apply pw_below_drewN | apply below_drew1) | exact HB.out)) hb); clear HB; have HB := n0_; clear n0_; (try clear hb); (try clear hb2); (try clear hk); (try clear hi)))
        go_ret
        exact ⟨by first | rfl | (simp [errW_none, errW_some] <;> rfl) | (simp [*, errW_none, errW_some] <;> rfl), by repeat (first | (with_reducible first | exact HB.out | apply below_alloc | apply pw_below_drewN | apply below_drew1) | exact HB.out)⟩
      · rw [if_neg c7] at H
        exact absurd H (by simp)
    · rw [if_neg c6] at H
      exact absurd H (by simp)
end Go.Proofs.YtgeonilideojnaaGreatDoor.Pr
namespace Go.Proofs.YtgeonilideojnaaGreatDoor.Pr
open Go.RowKit Go.Proofs.YtgeonilideojnaaGreatDoorW.PrintWords Go.Proofs.YtgeonilideojnaaGreatDoorW.PrintLast Go.Proofs.YtgeonilideojnaaGreatDoorW.PrintMore
attribute [local go_sem] max2_int min2_int max_two min_two max_three min_three max_four min_four   -- for this text's walks alone
set_option linter.unusedVariables false
set_option linter.unusedSimpArgs false
/-! ### tokens_written: function 30 -/
def tokens_written.f (a0_0 : Int) (a0_1 : ByteArray) (a0_2 : Int) : Option (ByteArray) := if a0_0 = 1 then ((tokens_Name.f a0_1).bind fun t301 => (some t301)) else (if a0_0 = 4 then ((TkC.escaped.f a0_1 (⟨#[110, 92]⟩ : ByteArray)).bind fun t302 => (if 2 + t302.size ≤ 9223372036854775807 then (some ((⟨#[48, 39]⟩ : ByteArray) ++ t302)) else (none))) else (if a0_0 = 5 then ((TkC.escaped.f a0_1 (⟨#[110, 92, 34]⟩ : ByteArray)).bind fun t303 => (if 1 + t303.size ≤ 9223372036854775807 then (if ((⟨#[34]⟩ : ByteArray) ++ t303).size + 1 ≤ 9223372036854775807 then (some (((⟨#[34]⟩ : ByteArray) ++ t303) ++ (⟨#[34]⟩ : ByteArray))) else (none)) else (none))) else (if a0_0 = 6 then (if 0 ≤ 1 then (if 1 ≤ (a0_1.size : Int) then (some (a0_1.extract 0 1)) else (none)) else (none)) else (some a0_1))))
set_option maxHeartbeats 8000000 in
set_option maxRecDepth 100000 in
theorem tokens_written.calls (a0_0 : Int) (a0_1 : ByteArray) (a0_2 : Int) (r : ByteArray) (w : World) (hEnv : EnvW w) (h : tokens_written.f a0_0 a0_1 a0_2 = some r) :
    Calls Tryz.prog 30 #[.agg #[.int .i64 a0_0, .string a0_1, .int .i64 a0_2]] w fun e w' => e = .returned (.string r) ∧ Below w.heap.size w w' := by
  have hu35 := Tryz.underlying35
  have HB := Aside0.mk (Below.refl w.heap.size w)
  have H : (if a0_0 = 1 then ((tokens_Name.f a0_1).bind fun t301 => (some t301)) else (if a0_0 = 4 then ((TkC.escaped.f a0_1 (⟨#[110, 92]⟩ : ByteArray)).bind fun t302 => (if 2 + t302.size ≤ 9223372036854775807 then (some ((⟨#[48, 39]⟩ : ByteArray) ++ t302)) else (none))) else (if a0_0 = 5 then ((TkC.escaped.f a0_1 (⟨#[110, 92, 34]⟩ : ByteArray)).bind fun t303 => (if 1 + t303.size ≤ 9223372036854775807 then (if ((⟨#[34]⟩ : ByteArray) ++ t303).size + 1 ≤ 9223372036854775807 then (some (((⟨#[34]⟩ : ByteArray) ++ t303) ++ (⟨#[34]⟩ : ByteArray))) else (none)) else (none))) else (if a0_0 = 6 then (if 0 ≤ 1 then (if 1 ≤ (a0_1.size : Int) then (some (a0_1.extract 0 1)) else (none)) else (none)) else (some a0_1))))) = some r := h
  clear h
  by_cases c2 : a0_0 = 1
  · rw [if_pos c2] at H
    have c2b0 : (a0_0 == 1) = true := beq_iff_eq.mpr c2
    have c2b1 : (a0_0 != 1) = false := bne_eq_false_iff_eq.mpr c2
    clear c2
    replace H := Option.bind_eq_some_iff.mp H
    obtain ⟨t301, A30, H⟩ := H
    replace H : (some t301) = some r := H
    have A3 := Aside0.mk A30
    clear A30
    obtain rfl := Option.some.inj H
    go_enter Tryz.func30, Tryz.ntmps30
    go_wp2_with (first | ((with_reducible refine gate_dst (N := 1) rfl ?_); refine box_event ?hg (N := 1) ?hd (cs := #[.int .i64 a0_0, .string a0_1, .int .i64 a0_2]) (t := 35) ?hr ?_; (case hd => rfl); (case hg => rfl); (case hr => first | (go_simp; done) | (go_simp; rfl)); intro gb300 hg w4 hbox hb; have n0_ := Aside0.mk (below_step (by repeat (first | (with_reducible first | exact HB.out | apply below_alloc | apply pw_below_drewN | apply below_drew1) | exact HB.out)) hb); have n1_ := Aside0.mk (hbox); have n2_ := Aside0.mk ((by rw [hg]; exact (below_size (by repeat (first | (with_reducible first | exact HB.out | apply below_alloc | apply pw_below_drewN | apply below_drew1) | exact HB.out))) : w.heap.size ≤ gb300)); have n3_ := Aside0.mk ((by rw [hg]; exact (below_size (by repeat (first | (with_reducible first | exact HB.out | apply below_alloc | apply pw_below_drewN | apply below_drew1) | exact HB.out))) : w.heap.size ≤ gb300)); clear HB; have HB := n0_; have BK300 := n1_; have GW300 := n2_; have GE300 := n3_; clear n0_ n1_ n2_ n3_; clear hb hbox hg; have hcz5_0 : w4.cell? ⟨gb300, 0, none⟩ = some (.int .i64 a0_0) := (blk_cell BK300.out 0).trans rfl; have hcz5_1 : w4.cell? ⟨gb300, 1, none⟩ = some (.string a0_1) := (blk_cell BK300.out 1).trans rfl; have hcz5_2 : w4.cell? ⟨gb300, 2, none⟩ = some (.int .i64 a0_2) := (blk_cell BK300.out 2).trans rfl; have hfz5_0 := blk_frozen BK300.out 0; have hfz5_1 := blk_frozen BK300.out 1; have hfz5_2 := blk_frozen BK300.out 2) | ((with_reducible refine gate_callee (f := 18) rfl ?_); refine goesL_ (some 9) rfl rfl Tryz.func18 (by kernel_rfl) rfl #[.string a0_1] rfl (by (try simp only [List.map_toArray, List.map_cons, List.map_nil]); first | done | rfl | (simp only [List.length_drop, List.length_take]; rfl)) ?_; (with_reducible refine (tokens_Name.calls a0_1 t301 _ ?side1 A3.out).mono ?_); (case side1 => first | exact hEnv | exact EnvW.below hEnv (by repeat (first | (with_reducible first | exact HB.out | apply below_alloc | apply pw_below_drewN | apply below_drew1 | refine below_set ?_ GE300.out) | exact HB.out)) | exact hEnv.drewN _); rintro e w6 ⟨rfl, hb⟩; refine ⟨_, rfl, ?_⟩; have n0_ := Aside0.mk (blk_below (g := gb300) (o := .cells #[.int .i64 a0_0, .string a0_1, .int .i64 a0_2] 35 (0, 0)) (by (with_reducible repeat (first | refine blk_drewN ?_ _ | refine blk_drew ?_ | refine blk_alloc ?_ _)); exact BK300.out) hb); have n1_ := Aside0.mk (below_step (by repeat (first | (with_reducible first | exact HB.out | apply below_alloc | apply pw_below_drewN | apply below_drew1 | refine below_set ?_ GE300.out) | exact HB.out)) hb); clear BK300; clear HB; have BK300 := n0_; have HB := n1_; clear n0_ n1_; (try clear hb); (try clear hb2); (try clear hk); (try clear hi)))
    go_ret
    exact ⟨by first | rfl | (simp [errW_none, errW_some] <;> rfl) | (simp [*, errW_none, errW_some] <;> rfl), by repeat (first | (with_reducible first | exact HB.out | apply below_alloc | apply pw_below_drewN | apply below_drew1 | refine below_set ?_ GE300.out) | exact HB.out)⟩
  · rw [if_neg c2] at H
    have c2b0 : (a0_0 == 1) = false := beq_eq_false_iff_ne.mpr c2
    have c2b1 : (a0_0 != 1) = true := bne_iff_ne.mpr c2
    by_cases c7 : a0_0 = 4
    · rw [if_pos c7] at H
      have c7b0 : (a0_0 == 4) = true := beq_iff_eq.mpr c7
      have c7b1 : (a0_0 != 4) = false := bne_eq_false_iff_eq.mpr c7
      clear c7
      replace H := Option.bind_eq_some_iff.mp H
      obtain ⟨t302, A80, H⟩ := H
      replace H : (if 2 + t302.size ≤ 9223372036854775807 then (some ((⟨#[48, 39]⟩ : ByteArray) ++ t302)) else (none)) = some r := H
      have A8 := Aside0.mk A80
      clear A80
      by_cases c9 : 2 + t302.size ≤ 9223372036854775807
      · rw [if_pos c9] at H
        have c9b0 := eq_true c9
        have c9b1 : decide (2 + t302.size ≤ 9223372036854775807) = true := decide_eq_true c9
        try have c9b2 : (9223372036854775807 < 2 + t302.size) = False := eq_false (Nat.not_lt.2 c9)
        obtain rfl := Option.some.inj H
        go_enter Tryz.func30, Tryz.ntmps30
        go_wp2_with (first | ((with_reducible refine gate_dst (N := 1) rfl ?_); refine box_event ?hg (N := 1) ?hd (cs := #[.int .i64 a0_0, .string a0_1, .int .i64 a0_2]) (t := 35) ?hr ?_; (case hd => rfl); (case hg => rfl); (case hr => first | (go_simp; done) | (go_simp; rfl)); intro gb300 hg w10 hbox hb; have n0_ := Aside0.mk (below_step (by repeat (first | (with_reducible first | exact HB.out | apply below_alloc | apply pw_below_drewN | apply below_drew1) | exact HB.out)) hb); have n1_ := Aside0.mk (hbox); have n2_ := Aside0.mk ((by rw [hg]; exact (below_size (by repeat (first | (with_reducible first | exact HB.out | apply below_alloc | apply pw_below_drewN | apply below_drew1) | exact HB.out))) : w.heap.size ≤ gb300)); have n3_ := Aside0.mk ((by rw [hg]; exact (below_size (by repeat (first | (with_reducible first | exact HB.out | apply below_alloc | apply pw_below_drewN | apply below_drew1) | exact HB.out))) : w.heap.size ≤ gb300)); clear HB; have HB := n0_; have BK300 := n1_; have GW300 := n2_; have GE300 := n3_; clear n0_ n1_ n2_ n3_; clear hb hbox hg; have hcz11_0 : w10.cell? ⟨gb300, 0, none⟩ = some (.int .i64 a0_0) := (blk_cell BK300.out 0).trans rfl; have hcz11_1 : w10.cell? ⟨gb300, 1, none⟩ = some (.string a0_1) := (blk_cell BK300.out 1).trans rfl; have hcz11_2 : w10.cell? ⟨gb300, 2, none⟩ = some (.int .i64 a0_2) := (blk_cell BK300.out 2).trans rfl; have hfz11_0 := blk_frozen BK300.out 0; have hfz11_1 := blk_frozen BK300.out 1; have hfz11_2 := blk_frozen BK300.out 2) | ((with_reducible refine gate_callee (f := 45) rfl ?_); refine goesL_ (some 14) rfl rfl Tryz.func45 (by kernel_rfl) rfl #[.string a0_1, .string (⟨#[110, 92]⟩ : ByteArray)] rfl (by (try simp only [List.map_toArray, List.map_cons, List.map_nil]); first | done | rfl | (simp only [List.length_drop, List.length_take]; rfl)) ?_; (with_reducible refine (TkC.escaped.calls a0_1 (⟨#[110, 92]⟩ : ByteArray) t302 _ A8.out).mono ?_); rintro e w12 ⟨rfl, hb⟩; refine ⟨_, rfl, ?_⟩; have n0_ := Aside0.mk (blk_below (g := gb300) (o := .cells #[.int .i64 a0_0, .string a0_1, .int .i64 a0_2] 35 (0, 0)) (by (with_reducible repeat (first | refine blk_drewN ?_ _ | refine blk_drew ?_ | refine blk_alloc ?_ _)); exact BK300.out) hb); have n1_ := Aside0.mk (below_step (by repeat (first | (with_reducible first | exact HB.out | apply below_alloc | apply pw_below_drewN | apply below_drew1 | refine below_set ?_ GE300.out) | exact HB.out)) hb); clear BK300; clear HB; have BK300 := n0_; have HB := n1_; clear n0_ n1_; (try clear hb); (try clear hb2); (try clear hk); (try clear hi)))
        go_ret
        exact ⟨by first | rfl | (simp [errW_none, errW_some] <;> rfl) | (simp [*, errW_none, errW_some] <;> rfl), by repeat (first | (with_reducible first | exact HB.out | apply below_alloc | apply pw_below_drewN | apply below_drew1 | refine below_set ?_ GE300.out) | exact HB.out)⟩
      · rw [if_neg c9] at H
        exact absurd H (by simp)
    · rw [if_neg c7] at H
      have c7b0 : (a0_0 == 4) = false := beq_eq_false_iff_ne.mpr c7
      have c7b1 : (a0_0 != 4) = true := bne_iff_ne.mpr c7
      by_cases c13 : a0_0 = 5
      · rw [if_pos c13] at H
        have c13b0 : (a0_0 == 5) = true := beq_iff_eq.mpr c13
        have c13b1 : (a0_0 != 5) = false := bne_eq_false_iff_eq.mpr c13
        clear c13
        replace H := Option.bind_eq_some_iff.mp H
        obtain ⟨t303, A140, H⟩ := H
        replace H : (if 1 + t303.size ≤ 9223372036854775807 then (if ((⟨#[34]⟩ : ByteArray) ++ t303).size + 1 ≤ 9223372036854775807 then (some (((⟨#[34]⟩ : ByteArray) ++ t303) ++ (⟨#[34]⟩ : ByteArray))) else (none)) else (none)) = some r := H
        have A14 := Aside0.mk A140
        clear A140
        by_cases c15 : 1 + t303.size ≤ 9223372036854775807
        · rw [if_pos c15] at H
          have c15b0 := eq_true c15
          have c15b1 : decide (1 + t303.size ≤ 9223372036854775807) = true := decide_eq_true c15
          try have c15b2 : (9223372036854775807 < 1 + t303.size) = False := eq_false (Nat.not_lt.2 c15)
          by_cases c16 : ((⟨#[34]⟩ : ByteArray) ++ t303).size + 1 ≤ 9223372036854775807
          · rw [if_pos c16] at H
            have c16b0 := eq_true c16
            have c16b1 : decide (((⟨#[34]⟩ : ByteArray) ++ t303).size + 1 ≤ 9223372036854775807) = true := decide_eq_true c16
            (try (have c16n := c16; simp only [ByteArray.size_append, show (⟨#[34]⟩ : ByteArray).size = 1 from rfl] at c16n; have c16n0 := eq_true c16n; have c16n1 := eq_false (Nat.not_lt.2 c16n)))
            try have c16b2 : (9223372036854775807 < ((⟨#[34]⟩ : ByteArray) ++ t303).size + 1) = False := eq_false (Nat.not_lt.2 c16)
            obtain rfl := Option.some.inj H
            go_enter Tryz.func30, Tryz.ntmps30
            go_wp2_with (first | ((with_reducible refine gate_dst (N := 1) rfl ?_); refine box_event ?hg (N := 1) ?hd (cs := #[.int .i64 a0_0, .string a0_1, .int .i64 a0_2]) (t := 35) ?hr ?_; (case hd => rfl); (case hg => rfl); (case hr => first | (go_simp; done) | (go_simp; rfl)); intro gb300 hg w17 hbox hb; have n0_ := Aside0.mk (below_step (by repeat (first | (with_reducible first | exact HB.out | apply below_alloc | apply pw_below_drewN | apply below_drew1) | exact HB.out)) hb); have n1_ := Aside0.mk (hbox); have n2_ := Aside0.mk ((by rw [hg]; exact (below_size (by repeat (first | (with_reducible first | exact HB.out | apply below_alloc | apply pw_below_drewN | apply below_drew1) | exact HB.out))) : w.heap.size ≤ gb300)); have n3_ := Aside0.mk ((by rw [hg]; exact (below_size (by repeat (first | (with_reducible first | exact HB.out | apply below_alloc | apply pw_below_drewN | apply below_drew1) | exact HB.out))) : w.heap.size ≤ gb300)); clear HB; have HB := n0_; have BK300 := n1_; have GW300 := n2_; have GE300 := n3_; clear n0_ n1_ n2_ n3_; clear hb hbox hg; have hcz18_0 : w17.cell? ⟨gb300, 0, none⟩ = some (.int .i64 a0_0) := (blk_cell BK300.out 0).trans rfl; have hcz18_1 : w17.cell? ⟨gb300, 1, none⟩ = some (.string a0_1) := (blk_cell BK300.out 1).trans rfl; have hcz18_2 : w17.cell? ⟨gb300, 2, none⟩ = some (.int .i64 a0_2) := (blk_cell BK300.out 2).trans rfl; have hfz18_0 := blk_frozen BK300.out 0; have hfz18_1 := blk_frozen BK300.out 1; have hfz18_2 := blk_frozen BK300.out 2) | ((with_reducible refine gate_callee (f := 45) rfl ?_); refine goesL_ (some 20) rfl rfl Tryz.func45 (by kernel_rfl) rfl #[.string a0_1, .string (⟨#[110, 92, 34]⟩ : ByteArray)] rfl (by (try simp only [List.map_toArray, List.map_cons, List.map_nil]); first | done | rfl | (simp only [List.length_drop, List.length_take]; rfl)) ?_; (with_reducible refine (TkC.escaped.calls a0_1 (⟨#[110, 92, 34]⟩ : ByteArray) t303 _ A14.out).mono ?_); rintro e w19 ⟨rfl, hb⟩; refine ⟨_, rfl, ?_⟩; have n0_ := Aside0.mk (blk_below (g := gb300) (o := .cells #[.int .i64 a0_0, .string a0_1, .int .i64 a0_2] 35 (0, 0)) (by (with_reducible repeat (first | refine blk_drewN ?_ _ | refine blk_drew ?_ | refine blk_alloc ?_ _)); exact BK300.out) hb); have n1_ := Aside0.mk (below_step (by repeat (first | (with_reducible first | exact HB.out | apply below_alloc | apply pw_below_drewN | apply below_drew1 | refine below_set ?_ GE300.out) | exact HB.out)) hb); clear BK300; clear HB; have BK300 := n0_; have HB := n1_; clear n0_ n1_; (try clear hb); (try clear hb2); (try clear hk); (try clear hi)))
            go_ret
            exact ⟨by first | rfl | (simp [errW_none, errW_some] <;> rfl) | (simp [*, errW_none, errW_some] <;> rfl), by repeat (first | (with_reducible first | exact HB.out | apply below_alloc | apply pw_below_drewN | apply below_drew1 | refine below_set ?_ GE300.out) | exact HB.out)⟩
          · rw [if_neg c16] at H
            exact absurd H (by simp)
        · rw [if_neg c15] at H
          exact absurd H (by simp)
      · rw [if_neg c13] at H
        have c13b0 : (a0_0 == 5) = false := beq_eq_false_iff_ne.mpr c13
        have c13b1 : (a0_0 != 5) = true := bne_iff_ne.mpr c13
        by_cases c20 : a0_0 = 6
        · rw [if_pos c20] at H
          have c20b0 : (a0_0 == 6) = true := beq_iff_eq.mpr c20
          have c20b1 : (a0_0 != 6) = false := bne_eq_false_iff_eq.mpr c20
          clear c20
          by_cases c21 : 0 ≤ 1
          · rw [if_pos c21] at H
            have c21b0 := eq_true c21
            have c21b1 : decide (0 ≤ 1) = true := decide_eq_true c21
            clear c21
            by_cases c22 : 1 ≤ (a0_1.size : Int)
            · rw [if_pos c22] at H
              have c22b0 := eq_true c22
              have c22b1 : decide (1 ≤ (a0_1.size : Int)) = true := decide_eq_true c22
              clear c22
              obtain rfl := Option.some.inj H
              go_enter Tryz.func30, Tryz.ntmps30
              go_wp2_with (first | ((with_reducible refine gate_dst (N := 1) rfl ?_); refine box_event ?hg (N := 1) ?hd (cs := #[.int .i64 a0_0, .string a0_1, .int .i64 a0_2]) (t := 35) ?hr ?_; (case hd => rfl); (case hg => rfl); (case hr => first | (go_simp; done) | (go_simp; rfl)); intro gb300 hg w23 hbox hb; have n0_ := Aside0.mk (below_step (by repeat (first | (with_reducible first | exact HB.out | apply below_alloc | apply pw_below_drewN | apply below_drew1) | exact HB.out)) hb); have n1_ := Aside0.mk (hbox); have n2_ := Aside0.mk ((by rw [hg]; exact (below_size (by repeat (first | (with_reducible first | exact HB.out | apply below_alloc | apply pw_below_drewN | apply below_drew1) | exact HB.out))) : w.heap.size ≤ gb300)); have n3_ := Aside0.mk ((by rw [hg]; exact (below_size (by repeat (first | (with_reducible first | exact HB.out | apply below_alloc | apply pw_below_drewN | apply below_drew1) | exact HB.out))) : w.heap.size ≤ gb300)); clear HB; have HB := n0_; have BK300 := n1_; have GW300 := n2_; have GE300 := n3_; clear n0_ n1_ n2_ n3_; clear hb hbox hg; have hcz24_0 : w23.cell? ⟨gb300, 0, none⟩ = some (.int .i64 a0_0) := (blk_cell BK300.out 0).trans rfl; have hcz24_1 : w23.cell? ⟨gb300, 1, none⟩ = some (.string a0_1) := (blk_cell BK300.out 1).trans rfl; have hcz24_2 : w23.cell? ⟨gb300, 2, none⟩ = some (.int .i64 a0_2) := (blk_cell BK300.out 2).trans rfl; have hfz24_0 := blk_frozen BK300.out 0; have hfz24_1 := blk_frozen BK300.out 1; have hfz24_2 := blk_frozen BK300.out 2))
              go_ret
              exact ⟨by first | rfl | (simp [errW_none, errW_some] <;> rfl) | (simp [*, errW_none, errW_some] <;> rfl), by repeat (first | (with_reducible first | exact HB.out | apply below_alloc | apply pw_below_drewN | apply below_drew1 | refine below_set ?_ GE300.out) | exact HB.out)⟩
            · rw [if_neg c22] at H
              exact absurd H (by simp)
          · exact absurd c21 (by decide)
        · rw [if_neg c20] at H
          have c20b0 : (a0_0 == 6) = false := beq_eq_false_iff_ne.mpr c20
          have c20b1 : (a0_0 != 6) = true := bne_iff_ne.mpr c20
          obtain rfl := Option.some.inj H
          go_enter Tryz.func30, Tryz.ntmps30
          go_wp2_with (first | ((with_reducible refine gate_dst (N := 1) rfl ?_); refine box_event ?hg (N := 1) ?hd (cs := #[.int .i64 a0_0, .string a0_1, .int .i64 a0_2]) (t := 35) ?hr ?_; (case hd => rfl); (case hg => rfl); (case hr => first | (go_simp; done) | (go_simp; rfl)); intro gb300 hg w25 hbox hb; have n0_ := Aside0.mk (below_step (by repeat (first | (with_reducible first | exact HB.out | apply below_alloc | apply pw_below_drewN | apply below_drew1) | exact HB.out)) hb); have n1_ := Aside0.mk (hbox); have n2_ := Aside0.mk ((by rw [hg]; exact (below_size (by repeat (first | (with_reducible first | exact HB.out | apply below_alloc | apply pw_below_drewN | apply below_drew1) | exact HB.out))) : w.heap.size ≤ gb300)); have n3_ := Aside0.mk ((by rw [hg]; exact (below_size (by repeat (first | (with_reducible first | exact HB.out | apply below_alloc | apply pw_below_drewN | apply below_drew1) | exact HB.out))) : w.heap.size ≤ gb300)); clear HB; have HB := n0_; have BK300 := n1_; have GW300 := n2_; have GE300 := n3_; clear n0_ n1_ n2_ n3_; clear hb hbox hg; have hcz26_0 : w25.cell? ⟨gb300, 0, none⟩ = some (.int .i64 a0_0) := (blk_cell BK300.out 0).trans rfl; have hcz26_1 : w25.cell? ⟨gb300, 1, none⟩ = some (.string a0_1) := (blk_cell BK300.out 1).trans rfl; have hcz26_2 : w25.cell? ⟨gb300, 2, none⟩ = some (.int .i64 a0_2) := (blk_cell BK300.out 2).trans rfl; have hfz26_0 := blk_frozen BK300.out 0; have hfz26_1 := blk_frozen BK300.out 1; have hfz26_2 := blk_frozen BK300.out 2))
          go_ret
          exact ⟨by first | rfl | (simp [errW_none, errW_some] <;> rfl) | (simp [*, errW_none, errW_some] <;> rfl), by repeat (first | (with_reducible first | exact HB.out | apply below_alloc | apply pw_below_drewN | apply below_drew1 | refine below_set ?_ GE300.out) | exact HB.out)⟩
end Go.Proofs.YtgeonilideojnaaGreatDoor.Pr
/- Text: where the end stands (slices.IndexFunc with a function of Text's own). -/
namespace Go.Proofs.YtgeonilideojnaaGreatDoor.Tk
open Go Go.RowKit Go.Proofs.YtgeonilideojnaaGreatDoor.Pr Go.Proofs.YtgeonilideojnaaGreatDoorW.PrintWords Go.Proofs.YtgeonilideojnaaGreatDoorW.PrintLast Go.Proofs.YtgeonilideojnaaGreatDoorW.PrintMore
set_option linter.unusedVariables false
set_option linter.unusedSimpArgs false
abbrev STok := S35
/-- How many stand in front of the end. -/
def endAt : List STok → Nat
  | [] => 0
  | x :: xs => if x.f0 = 0 then 0 else endAt xs + 1
theorem endAt_le : ∀ xs : List STok, endAt xs ≤ xs.length
  | [] => Nat.le_refl _
  | x :: xs => by
    have := endAt_le xs
    unfold endAt
    split <;> simp <;> omega
theorem endAt_at : ∀ (xs : List STok) (k : Nat), k ≤ endAt xs → k < xs.length → ((xs.getD k z35).f0 = 0 → endAt xs = k) ∧ ((xs.getD k z35).f0 ≠ 0 → k + 1 ≤ endAt xs)
  | [], k, h, hk => by simp at hk
  | x :: xs, 0, h, hk => by
    simp only [List.getD_cons_zero, endAt]
    constructor
    · intro h0; rw [if_pos h0]
    · intro h0; rw [if_neg h0]; omega
  | x :: xs, k + 1, h, hk => by
    simp only [List.getD_cons_succ, endAt] at h ⊢
    split at h
    · omega
    · rename_i hx
      rw [if_neg hx]
      have := endAt_at xs k (by omega) (by simpa using hk)
      exact ⟨fun h0 => by rw [this.1 h0], fun h0 => by have := this.2 h0; omega⟩
def idxEnd (xs : List STok) : Int := if endAt xs < xs.length then (endAt xs : Int) else -1
section
set_option maxHeartbeats 1000000
set_option maxRecDepth 100000
theorem TextF_calls (k : Int) (s : ByteArray) (i : Int) (w : World) : Calls Tryz.prog 25 #[.agg #[.int .i64 k, .string s, .int .i64 i]] w fun e w' => e = .returned (.bool (k == 0)) ∧ Below w.heap.size w w' := by
  go_enter Tryz.func25, Tryz.ntmps25
  go_wp2
  go_ret
  exact ⟨rfl, (Below.refl _ _).alloc (Nat.le_refl _) _⟩
theorem IdxTok_calls (A : Option Addr) (c : Nat) (xs : List STok) (w : World) (hC : Kd.C k35 w A xs.length xs) (hn : xs.length ≤ 65536) :
    Calls Tryz.prog 24 #[.slice A xs.length c, .func (.func 25) #[] #[]] w fun e w' => e = .returned (.int .i64 (idxEnd xs)) ∧ Below w.heap.size w w' := by
  have hC := hide hC
  have eK := enters_of Tryz.func25 (by kernel_rfl) rfl
  have hE := endAt_le xs
  go_enter Tryz.func24, Tryz.ntmps24
  go_wp2
  go_loopw [8] (fun v wr => ∃ k : Nat, k ≤ xs.length ∧ v = .int .i64 (k : Int) ∧ k ≤ endAt xs ∧ Below w.heap.size w wr) (fun v _ => xs.length - (intOf v).toNat)
  case atStart => exact ⟨0, Nat.zero_le _, rfl, Nat.zero_le _, Below.refl _ _⟩
  case round =>
    obtain ⟨k, hk, rfl, hke, hb⟩ := hrel
    have HB := hide hb
    clear hb
    by_cases hlt : k < xs.length
    · obtain ⟨ad, rfl, h0, h1, h2⟩ := at_T35 (Kd.C_below hC.out HB.out) (k : Int) (by omega) (by omega)
      simp only [Int.toNat_natCast] at h0 h1 h2
      have he := hide (endAt_at xs k hke hlt)
      have hx : rd_T35 xs (k : Int) = xs.getD k z35 := by simp [rd_T35]
      rw [hx] at h0 h1 h2
      clear hx
      generalize xs.getD k z35 = x at h0 h1 h2 he
      go_wp2_with fail
      refine (TextF_calls _ _ _ _).mono ?_
      rintro e w1 ⟨rfl, hb1⟩
      by_cases hx0 : x.f0 = 0
      · have hx1 : (x.f0 == 0) = true := by simpa using hx0
        have e1 := he.out.1 hx0
        have he1 := hide e1
        clear hx0 e1 he
        go_wp2
        go_ret
        refine ⟨ret_int ?_, HB.out.trans (hb1.mono HB.out.size)⟩
        have e1 := he1.out
        unfold idxEnd
        rw [if_pos (by omega), e1]
      · have hx1 : (x.f0 == 0) = false := by simpa using hx0
        have e1 := he.out.2 hx0
        clear hx0 he
        go_wp2
        go_roundw
        case rel => exact ⟨k + 1, by omega, by go_num, by omega, HB.out.trans (hb1.mono HB.out.size)⟩
        case measure => simp [intOf]; omega
    · go_wp2
      go_ret
      refine ⟨ret_int ?_, HB.out⟩
      unfold idxEnd
      rw [if_neg (by omega)]
end
end Go.Proofs.YtgeonilideojnaaGreatDoor.Tk
/- Text: plain facts about what it calls, and about its specification. -/
namespace Go.Proofs.YtgeonilideojnaaGreatDoor.Tk
open Go Go.RowKit Go.Proofs.YtgeonilideojnaaGreatDoor.Pr Go.Proofs.YtgeonilideojnaaGreatDoorW.PrintWords Go.Proofs.YtgeonilideojnaaGreatDoorW.PrintLast Go.Proofs.YtgeonilideojnaaGreatDoorW.PrintMore
set_option linter.unusedVariables false
set_option linter.unusedSimpArgs false
def toTok (x : STok) : Tok := ⟨x.f0, x.f1.data.toList, x.f2⟩
/-- What a token may be at most. -/
def okT (x : STok) : Prop := (Lit.int .i64 x.f0).wf = true ∧ x.f1.size ≤ 65536
theorem toTok_ofTok (t : Tok) : toTok (TkC.ofTok t) = t := rfl
theorem ofTok_toTok (x : STok) : TkC.ofTok (toTok x) = x := by
  unfold TkC.ofTok toTok
  simp only [B_of]
theorem Check_f (x : STok) (h : okT x) : TkC.Check.f x.f0 x.f1 x.f2 = some (checkS (toTok x).kind (toTok x).text : Int) := by
  unfold TkC.Check.f
  rw [if_pos ⟨h.1, h.2⟩]
  rfl
theorem B_data (l : Bs) : (B l).data.toList = l := by simp [B]
theorem getD_drop {xs : List STok} {i : Nat} {x : STok} {t : List STok} (h : xs.drop i = x :: t) : i < xs.length ∧ rd_T35 xs (i : Int) = x ∧ xs.drop (i + 1) = t := by
  have hl : i < xs.length := by
    rcases Nat.lt_or_ge i xs.length with h1 | h1
    · exact h1
    · rw [List.drop_eq_nil_of_le h1] at h; cases h
  rw [List.drop_eq_getElem_cons hl] at h
  injection h with h1 h2
  refine ⟨hl, ?_, h2⟩
  unfold rd_T35
  simp [List.getD_eq_getElem?_getD, List.getElem?_eq_getElem hl, h1]
theorem wrap_nat (i : Nat) (h : i ≤ 1000000) : wrap64 ((i : Int) + 1) = ((i + 1 : Nat) : Int) := by
  unfold wrap64
  omega
theorem first_l0 (xs : List STok) (hn : xs.length ≤ 1000000) (hok : ∀ x ∈ xs, okT x) : ∀ (t : List STok) (i : Nat), xs.drop i = t → Ev (fun k => tokens_first.l0 k xs (xs.length : Int) (i : Int)) (firstS (t.map toTok) : Int)
  | [], i, h => by
    have hl : ¬ (i : Int) < (xs.length : Int) := by have : xs.length ≤ i := by simpa using h
                                                    omega
    exact Ev.step (f := fun _ => some 0) (fun k => by simp only [tokens_first.l0]; rw [if_neg hl]) (Ev.now _)
  | x :: t, i, h => by
    obtain ⟨hl, hx, h2⟩ := getD_drop h
    have hm : x ∈ xs := List.mem_of_mem_drop (h ▸ List.mem_cons_self)
    have hc := Check_f x (hok x hm)
    have ih := first_l0 xs hn hok t (i + 1) h2
    simp only [List.map_cons, firstS]
    by_cases h0 : checkS (toTok x).kind (toTok x).text = 0
    · rw [if_pos h0]
      refine Ev.step (f := fun k => tokens_first.l0 k xs (xs.length : Int) ((i + 1 : Nat) : Int)) (fun k => ?_) ih
      simp only [tokens_first.l0]
      rw [if_pos (by omega), if_pos (by omega), if_pos (by omega), hx, hc]
      simp only [Option.bind_some]
      rw [if_pos (by omega), wrap_nat i (by omega)]
    · rw [if_neg h0]
      refine Ev.step (f := fun k => some (checkS (toTok x).kind (toTok x).text : Int)) (fun k => ?_) (Ev.now _)
      simp only [tokens_first.l0]
      rw [if_pos (by omega), if_pos (by omega), if_pos (by omega), hx, hc]
      simp only [Option.bind_some]
      rw [if_neg (by omega)]
theorem first_f (xs : List STok) (hn : xs.length ≤ 1000000) (hok : ∀ x ∈ xs, okT x) : Ev (fun k => tokens_first.f k xs) (firstS (xs.map toTok) : Int) := first_l0 xs hn hok xs 0 rfl
theorem toList_data (s : ByteArray) : s.toList = s.data.toList := by rw [ByteArray.toList_eq]
theorem state_f (x : STok) : tokens_state.f x.f0 x.f1 x.f2 = some (stateS (toTok x)) := by
  unfold tokens_state.f stateS toTok
  simp only [toList_data]
  by_cases h : x.f0 = 1
  · rw [if_pos h]
    by_cases h2 : x.f1.data.toList = [33, 46]
    · rw [if_pos h2]; simp [h, h2]
    · rw [if_neg h2]; simp [h, h2]
  · rw [if_neg h]; simp [h]
theorem plain_f (s : ByteArray) (h : s.size ≤ 65536) : TkC.plain.f s = some (plain s.data.toList) := by unfold TkC.plain.f; rw [if_pos h]
theorem esc_f (s m : ByteArray) (h : s.size ≤ 65536) : TkC.escaped.f s m = some (B (escapedS m.data.toList s.data.toList)) := by unfold TkC.escaped.f; rw [if_pos h]
theorem B_app (a b : Bs) : B a ++ B b = B (a ++ b) := by
  apply ByteArray.ext
  rw [ByteArray.data_append]
  simp [B]
theorem Name_f (s : ByteArray) (h : s.size ≤ 65536) : tokens_Name.f s = some (B (nameS s.data.toList)) := by
  unfold tokens_Name.f nameS
  rw [plain_f s h]
  simp only [Option.bind_some]
  cases plain s.data.toList with
  | true => simp [B_of]
  | false =>
    simp only [Bool.false_eq_true, if_false]
    rw [esc_f s _ h]
    simp only [Option.bind_some]
    have hl := escapedS_len [92, 39] s.data.toList
    have hs : s.data.toList.length = s.size := rfl
    rw [if_pos (by rw [size_B]; omega), show (⟨#[39]⟩ : ByteArray) = B [39] from rfl, B_app, if_pos (by rw [size_B]; simp; omega), B_app]
theorem written_f (x : STok) (h : okT x) (h6 : x.f0 = 6 → x.f1.size ≠ 0) : tokens_written.f x.f0 x.f1 x.f2 = some (B (writtenS (toTok x).kind (toTok x).text)) := by
  have hs : x.f1.data.toList.length = x.f1.size := rfl
  have h2 := h.2
  unfold tokens_written.f writtenS toTok
  simp only
  by_cases e1 : x.f0 = 1
  · rw [if_pos e1, if_pos e1, Name_f _ h.2]; rfl
  · rw [if_neg e1, if_neg e1]
    by_cases e4 : x.f0 = 4
    · rw [if_pos e4, if_pos e4, esc_f _ _ h.2]
      simp only [Option.bind_some]
      have hl := escapedS_len [110, 92] x.f1.data.toList
      rw [if_pos (by rw [size_B]; omega), show (⟨#[48, 39]⟩ : ByteArray) = B [48, 39] from rfl, B_app]
    · rw [if_neg e4, if_neg e4]
      by_cases e5 : x.f0 = 5
      · rw [if_pos e5, if_pos e5, esc_f _ _ h.2]
        simp only [Option.bind_some]
        have hl := escapedS_len [110, 92, 34] x.f1.data.toList
        rw [if_pos (by rw [size_B]; omega), show (⟨#[34]⟩ : ByteArray) = B [34] from rfl, B_app, if_pos (by rw [size_B]; simp; omega), B_app]
      · rw [if_neg e5, if_neg e5]
        by_cases e6 : x.f0 = 6
        · rw [if_pos e6, if_pos e6]
          have := h6 e6
          rw [if_pos (by omega), if_pos (by omega)]
          congr 1
          have he := extract_B x.f1.data.toList 0 1
          rw [B_of] at he
          rw [he]
          rfl
        · rw [if_neg e6, if_neg e6, B_of]
theorem written_len (k : Int) (s : Bs) : (writtenS k s).length ≤ 2 * s.length + 4 := by
  unfold writtenS nameS
  have h1 := escapedS_len [92, 39] s
  have h2 := escapedS_len [110, 92] s
  have h3 := escapedS_len [110, 92, 34] s
  repeat' split
  all_goals simp
  all_goals omega
/-! ### The specification, along an index -/
theorem before_take : ∀ xs : List STok, beforeEnd (xs.map toTok) = (xs.take (endAt xs)).map toTok
  | [] => rfl
  | x :: xs => by
    simp only [List.map_cons, beforeEnd, endAt]
    by_cases h : x.f0 = 0
    · rw [if_pos (by exact h), if_pos h]; rfl
    · rw [if_neg (by exact h), if_neg h, before_take xs]; rfl
theorem endCheck_at : ∀ xs : List STok, endCheck (xs.map toTok) = if h : endAt xs < xs.length then checkS (toTok xs[endAt xs]).kind (toTok xs[endAt xs]).text else 0
  | [] => rfl
  | x :: xs => by
    simp only [List.map_cons, endCheck]
    by_cases h : x.f0 = 0
    · rw [if_pos (by exact h)]
      have e : endAt (x :: xs) = 0 := by simp [endAt, h]
      simp [e]
    · rw [if_neg (by exact h), endCheck_at xs]
      have e : endAt (x :: xs) = endAt xs + 1 := by simp [endAt, h]
      simp [e]
theorem first_take (xs : List STok) (h : endAt xs < xs.length) : firstS ((xs.take (endAt xs + 1)).map toTok) = if firstS ((xs.take (endAt xs)).map toTok) ≠ 0 then firstS ((xs.take (endAt xs)).map toTok) else checkS (toTok xs[endAt xs]).kind (toTok xs[endAt xs]).text := by
  have hf : ∀ (l : List Tok) (t : Tok), firstS (l ++ [t]) = if firstS l ≠ 0 then firstS l else checkS t.kind t.text := by
    intro l t
    induction l with
    | nil =>
      simp only [List.nil_append, firstS]
      by_cases h0 : checkS t.kind t.text = 0
      · simp [h0]
      · simp [h0]
    | cons a l ih =>
      by_cases h0 : checkS a.kind a.text = 0
      · have e1 : firstS ((a :: l) ++ [t]) = firstS (l ++ [t]) := by simp [firstS, h0]
        have e2 : firstS (a :: l) = firstS l := by simp [firstS, h0]
        rw [e1, ih]
        simp only [e2]
      · have e1 : firstS ((a :: l) ++ [t]) = checkS a.kind a.text := by simp [firstS, h0]
        have e2 : firstS (a :: l) = checkS a.kind a.text := by simp [firstS, h0]
        rw [e1]
        simp only [e2]
        simp [h0]
  rw [List.take_succ_eq_append_getElem h, List.map_append, List.map_cons, List.map_nil, hf]
theorem firstS_all : ∀ l : List Tok, firstS l = 0 → ∀ t ∈ l, checkS t.kind t.text = 0
  | [], _, _, h => by simp at h
  | a :: l, h, t, ht => by
    unfold firstS at h
    split at h
    · rename_i h0
      rcases List.mem_cons.1 ht with rfl | h1
      · exact h0
      · exact firstS_all l h t h1
    · rename_i h0
      exact absurd h h0
theorem check6_ne {s : Bs} (h : checkS 6 s = 0) : s ≠ [] := by
  rintro rfl
  revert h
  decide
theorem C_take {w : World} {A : Option Addr} {xs : List STok} (h : Kd.C k35 w A xs.length xs) (n : Nat) (hn : n ≤ xs.length) : Kd.C k35 w A (xs.take n).length (xs.take n) := by
  obtain ⟨h1, h2, h3⟩ := h
  refine ⟨rfl, by simp; omega, fun hp => ?_⟩
  obtain ⟨ad, e, hc⟩ := h3 (by simp at hp; omega)
  refine ⟨ad, e, fun j p hj => hc j p ?_⟩
  rw [List.getElem?_take] at hj
  split at hj
  · exact hj
  · cases hj
end Go.Proofs.YtgeonilideojnaaGreatDoor.Tk
