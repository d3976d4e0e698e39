/- A part of a proof over the package's statements: contracts of functions and plain facts, merged by a program of this session's. -/
import Derived.Test.YtgeonilideojnaaGreatDoorRG1x1
import Derived.Test.YtgeonilideojnaaGreatDoorRG1x2
import Derived.Test.YtgeonilideojnaaGreatDoorRG1x3
import Derived.Test.YtgeonilideojnaaGreatDoorRG1x4
import Derived.Test.YtgeonilideojnaaGreatDoorRG1x5
section
namespace Go.Proofs.YtgeonilideojnaaGreatDoor.TkC
set_option linter.unusedVariables false
set_option linter.unusedSimpArgs false
open Go Go.RowKit Tk
def Check.f (k : Int) (s : ByteArray) (i : Int) : Option Int := if (Lit.int .i64 k).wf = true ∧ s.size ≤ 65536 then some (checkS k s.data.toList : Int) else none
theorem Check.calls (k : Int) (s : ByteArray) (i : Int) (r : Int) (w : World) (hEnv : EnvW w) (h : Check.f k s i = some r) :
    Calls Tryz.prog 16 #[.agg #[.int .i64 k, .string s, .int .i64 i]] w fun e w' => e = .returned (.int .i64 r) ∧ Below w.heap.size w w' := by
  unfold Check.f at h
  split at h
  · rename_i hc
    injection h with h
    subst h
    have := Check_calls k s.data.toList i w hc.1 hc.2 hEnv.1 hEnv.2
    rw [B_of] at this
    exact this.mono fun _ _ ⟨h1, h2⟩ => ⟨h1, gb_below h2⟩
  · cases h
def plain.f (s : ByteArray) : Option Bool := if s.size ≤ 65536 then some (Tk.plain s.data.toList) else none
theorem plain.calls (s : ByteArray) (r : Bool) (w : World) (hEnv : EnvW w) (h : plain.f s = some r) :
    Calls Tryz.prog 44 #[.string s] w fun e w' => e = .returned (.bool r) ∧ Below w.heap.size w w' := by
  unfold plain.f at h
  split at h
  · rename_i hc
    injection h with h
    subst h
    have := plain_calls s.data.toList w hc hEnv.1
    rw [B_of] at this
    exact this.mono fun _ _ ⟨h1, h2⟩ => ⟨h1, gb_below h2⟩
  · cases h
end Go.Proofs.YtgeonilideojnaaGreatDoor.TkC
end
section
namespace Go.Proofs.YtgeonilideojnaaGreatDoor.Pr
open Go.RowKit Go.Proofs.YtgeonilideojnaaGreatDoorW.PrintWords Go.Proofs.YtgeonilideojnaaGreatDoorW.PrintLast Go.Proofs.YtgeonilideojnaaGreatDoorW.PrintMore
attribute [local go_sem] max2_int min2_int max_two min_two max_three min_three max_four min_four
set_option linter.unusedVariables false
set_option linter.unusedSimpArgs false
def tokens_first.l0 : Nat → List (S35) → Int → Int → Option (Int)
  | 0, _, _, _ => none
  | k + 1, x6, x7, x8 => if x8 < x7 then (if 0 ≤ x8 then (if x8 < (x6.length : Int) then ((TkC.Check.f ((rd_T35 x6 x8).f0) ((rd_T35 x6 x8).f1) ((rd_T35 x6 x8).f2)).bind fun t299 => (if t299 = 0 then (tokens_first.l0 k x6 x7 (wrap64 (x8 + 1))) else (some t299))) else (none)) else (none)) else (some 0)
def tokens_first.f (k : Nat) (l0 : List (S35)) : Option (Int) := tokens_first.l0 k l0 (l0.length : Int) 0
theorem tokens_first.mono_l : ∀ k, (∀ y0 y1 y2, LeO (tokens_first.l0 k y0 y1 y2) (tokens_first.l0 (k + 1) y0 y1 y2))
  | 0 => fun _ _ _ r h => by simp [tokens_first.l0] at h
  | k + 1 => by
    have ih0 := tokens_first.mono_l k
    · intro y0 y1 y2
      unfold tokens_first.l0
      repeat' first
      | (with_reducible exact ih0 _ _ _)
      | (with_reducible exact LeO.refl _)
      | (with_reducible exact LeO.none _)
      | (with_reducible refine LeO.ite ?_ ?_)
      | (with_reducible refine LeO.bind ?_ (fun _ => ?_))
      | exact ih0 _ _ _
      | exact LeO.none _
      | refine LeO.ite ?_ ?_
      | refine LeO.bind ?_ (fun _ => ?_)
theorem tokens_first.mono : ∀ a0 k, LeO (tokens_first.f k a0) (tokens_first.f (k + 1) a0) := by
  intro a0 k
  have ih0 := tokens_first.mono_l k
  unfold tokens_first.f
  repeat' first
      | (with_reducible exact ih0 _ _ _)
      | (with_reducible exact LeO.refl _)
      | (with_reducible exact LeO.none _)
      | (with_reducible refine LeO.ite ?_ ?_)
      | (with_reducible refine LeO.bind ?_ (fun _ => ?_))
      | exact ih0 _ _ _
      | exact LeO.none _
      | refine LeO.ite ?_ ?_
      | refine LeO.bind ?_ (fun _ => ?_)
set_option maxHeartbeats 8000000 in
set_option maxRecDepth 100000 in
theorem tokens_first.calls (k : Nat) (A0 : Option Addr) (c0 : Nat) (l0 : List (S35)) (r : Int) (w : World) (hr0 : Kd.C k35 w A0 l0.length l0) (hc0 : l0.length ≤ c0) (hEnv : EnvW w) (h : tokens_first.f k l0 = some r) :
    Calls Tryz.prog 26 #[.slice A0 l0.length c0] w fun e w' => e = .returned (.int .i64 r) ∧ Below w.heap.size w w' := by
  have hu35 := Tryz.underlying35
  have HR0 := Aside0.mk hr0
  have HC0 := Aside0.mk hc0
  clear hr0 hc0
  have HB := Aside0.mk (Below.refl w.heap.size w)
  have H : (tokens_first.l0 k l0 (l0.length : Int) 0) = some r := h
  clear h
  have H' := Aside0.mk H
  clear H
  go_enter Tryz.func26, Tryz.ntmps26
  go_wp2
  (try simp only [Go.Act.put, List.setIfInBounds_toArray, List.set_cons_succ, List.set_cons_zero])
  go_loopg [8] k (fun kq v8 w' => ∃ (x8_1 : Int), v8 = .int .i64 x8_1 ∧ Aside0 (tokens_first.l0 kq l0 (l0.length : Int) x8_1 = some r) ∧ Aside0 (kq ≤ k) ∧ Aside0 (Below w.heap.size w w'))
  case atStart => exact ⟨(0), (by first | rfl | (simp; done) | (simp [*]; done) | (simp [show ∀ l : List UInt8, (l != []) = !l.isEmpty from fun l => by cases l <;> rfl]; done)), H', ⟨Nat.le_refl _⟩, ⟨by repeat (first | (with_reducible first | exact HB.out | apply below_alloc | apply pw_below_drewN | apply below_drew1) | exact HB.out)⟩⟩
  case round =>
    clear H'
    obtain ⟨x8_1, rfl, HA, HK1, HB⟩ := hrel
    cases gk with
    | zero => exact absurd HA.out (by simp [tokens_first.l0])
    | succ k1 =>
      have H := HA.out
      clear HA
      simp only [tokens_first.l0] at H
      by_cases c2 : x8_1 < (l0.length : Int)
      · rw [if_pos c2] at H
        have c2b0 : decide (x8_1 < (l0.length : Int)) = true := decide_eq_true c2
        clear c2
        by_cases c3 : 0 ≤ x8_1
        · rw [if_pos c3] at H
          have c3b0 : decide (0 ≤ x8_1) = true := decide_eq_true c3
          clear c3
          by_cases c4 : x8_1 < (l0.length : Int)
          · rw [if_pos c4] at H
            have c4b0 : decide (x8_1 < (l0.length : Int)) = true := decide_eq_true c4
            clear c4
            replace H := Option.bind_eq_some_iff.mp H
            obtain ⟨t299, A50, H⟩ := H
            replace H : (if t299 = 0 then (tokens_first.l0 k1 l0 (l0.length : Int) (wrap64 (x8_1 + 1))) else (some t299)) = some r := H
            have A5 := Aside0.mk A50
            clear A50
            by_cases c6 : t299 = 0
            · rw [if_pos c6] at H
              have c6b0 : (t299 == 0) = true := beq_iff_eq.mpr c6
              have c6b1 : (t299 != 0) = false := bne_eq_false_iff_eq.mpr c6
              clear c6
              have H' := Aside0.mk H
              clear H
              have p297 : 0 ≤ (x8_1 : Int) := of_decide_eq_true (by first | (with_reducible assumption) | assumption)
              have q297 : x8_1 < (l0.length : Int) := of_decide_eq_true (by first | (with_reducible assumption) | assumption)
              obtain ⟨ad297, e297, hx297_0, hx297_1, hx297_2⟩ := at_T35 HR0.out x8_1 p297 q297
              cases e297
              replace hx297_0 := (HB.out.cell (World.block_lt_of_cell? w _ hx297_0)).trans hx297_0
              replace hx297_1 := (HB.out.cell (World.block_lt_of_cell? w _ hx297_1)).trans hx297_1
              replace hx297_2 := (HB.out.cell (World.block_lt_of_cell? w _ hx297_2)).trans hx297_2
              replace p297 := eq_true p297
              replace q297 := eq_true q297
              go_wp2_with (first | ((with_reducible refine gate_dst (N := 4) rfl ?_); refine box_event ?hg (N := 4) ?hd (cs := #[.int .i64 0, .string (⟨#[]⟩ : ByteArray), .int .i64 0]) (t := 35) ?hr ?_; (case hd => rfl); (case hg => rfl); (case hr => first | (go_simp; done) | (go_simp; rfl)); intro gb298 hg w7 hbox hb; have n0_ := Aside0.mk (below_step (by repeat (first | (with_reducible first | exact HB.out | apply below_alloc | apply pw_below_drewN | apply below_drew1) | exact HB.out)) hb); have n1_ := Aside0.mk (hbox); have n2_ := Aside0.mk ((by rw [hg]; exact (below_size (by repeat (first | (with_reducible first | exact HB.out | apply below_alloc | apply pw_below_drewN | apply below_drew1) | exact HB.out))) : w.heap.size ≤ gb298)); have n3_ := Aside0.mk ((by rw [hg]; exact (below_size (by repeat (first | (with_reducible first | exact HB.out | apply below_alloc | apply pw_below_drewN | apply below_drew1) | exact HB.out))) : w.heap.size ≤ gb298)); clear HB; have HB := n0_; have BK298 := n1_; have GW298 := n2_; have GE298 := n3_; clear n0_ n1_ n2_ n3_; clear hb hbox hg; have hcz8_0 : w7.cell? ⟨gb298, 0, none⟩ = some (.int .i64 0) := (blk_cell BK298.out 0).trans rfl; have hcz8_1 : w7.cell? ⟨gb298, 1, none⟩ = some (.string (⟨#[]⟩ : ByteArray)) := (blk_cell BK298.out 1).trans rfl; have hcz8_2 : w7.cell? ⟨gb298, 2, none⟩ = some (.int .i64 0) := (blk_cell BK298.out 2).trans rfl; have hfz8_0 := blk_frozen BK298.out 0; have hfz8_1 := blk_frozen BK298.out 1; have hfz8_2 := blk_frozen BK298.out 2) | ((with_reducible refine gate_callee (f := 16) rfl ?_); refine goesL_ (some 13) rfl rfl Tryz.func16 (by kernel_rfl) rfl #[.agg #[.int .i64 ((rd_T35 l0 x8_1).f0), .string ((rd_T35 l0 x8_1).f1), .int .i64 ((rd_T35 l0 x8_1).f2)]] rfl (by (try simp only [List.map_toArray, List.map_cons, List.map_nil]); first | done | rfl | (simp only [List.length_drop, List.length_take]; rfl)) ?_; (with_reducible refine (TkC.Check.calls ((rd_T35 l0 x8_1).f0) ((rd_T35 l0 x8_1).f1) ((rd_T35 l0 x8_1).f2) t299 _ ?side1 A5.out).mono ?_); (case side1 => first | exact hEnv | exact EnvW.below hEnv (by repeat (first | (with_reducible first | exact HB.out | apply below_alloc | apply pw_below_drewN | apply below_drew1 | refine below_set ?_ GE298.out) | exact HB.out)) | exact hEnv.drewN _); rintro e w9 ⟨rfl, hb⟩; refine ⟨_, rfl, ?_⟩; have n0_ := Aside0.mk (blk_below (g := gb298) (o := .cells #[.int .i64 ((rd_T35 l0 x8_1).f0), .string ((rd_T35 l0 x8_1).f1), .int .i64 ((rd_T35 l0 x8_1).f2)] 35 (0, 0)) (by (with_reducible repeat (first | refine blk_drewN ?_ _ | refine blk_drew ?_ | refine blk_alloc ?_ _)); refine blk_put (cs := #[.int .i64 ((rd_T35 l0 x8_1).f0), .string ((rd_T35 l0 x8_1).f1), .int .i64 0]) ?_ 2 _ rfl; (with_reducible repeat (first | refine blk_drewN ?_ _ | refine blk_drew ?_ | refine blk_alloc ?_ _)); refine blk_put (cs := #[.int .i64 ((rd_T35 l0 x8_1).f0), .string (⟨#[]⟩ : ByteArray), .int .i64 0]) ?_ 1 _ rfl; (with_reducible repeat (first | refine blk_drewN ?_ _ | refine blk_drew ?_ | refine blk_alloc ?_ _)); refine blk_put (cs := #[.int .i64 0, .string (⟨#[]⟩ : ByteArray), .int .i64 0]) ?_ 0 _ rfl; (with_reducible repeat (first | refine blk_drewN ?_ _ | refine blk_drew ?_ | refine blk_alloc ?_ _)); exact BK298.out) hb); have n1_ := Aside0.mk (below_step (by repeat (first | (with_reducible first | exact HB.out | apply below_alloc | apply pw_below_drewN | apply below_drew1 | refine below_set ?_ GE298.out) | exact HB.out)) hb); clear BK298; clear HB; have BK298 := n0_; have HB := n1_; clear n0_ n1_; (try clear hb); (try clear hb2); (try clear hk); (try clear hi)))
              go_roundg k1
              case measure => have := HK1.out; omega
              case rel => exact ⟨(wrap64 (x8_1 + 1)), (by first | rfl | (simp; done) | (simp [*]; done) | (simp [show ∀ l : List UInt8, (l != []) = !l.isEmpty from fun l => by cases l <;> rfl]; done)), H', ⟨by have := HK1.out; omega⟩, ⟨by repeat (first | (with_reducible first | exact HB.out | apply below_alloc | apply pw_below_drewN | apply below_drew1 | refine below_set ?_ GE298.out) | exact HB.out)⟩⟩
            · rw [if_neg c6] at H
              have c6b0 : (t299 == 0) = false := beq_eq_false_iff_ne.mpr c6
              have c6b1 : (t299 != 0) = true := bne_iff_ne.mpr c6
              obtain rfl := Option.some.inj H
              have p297 : 0 ≤ (x8_1 : Int) := of_decide_eq_true (by first | (with_reducible assumption) | assumption)
              have q297 : x8_1 < (l0.length : Int) := of_decide_eq_true (by first | (with_reducible assumption) | assumption)
              obtain ⟨ad297, e297, hx297_0, hx297_1, hx297_2⟩ := at_T35 HR0.out x8_1 p297 q297
              cases e297
              replace hx297_0 := (HB.out.cell (World.block_lt_of_cell? w _ hx297_0)).trans hx297_0
              replace hx297_1 := (HB.out.cell (World.block_lt_of_cell? w _ hx297_1)).trans hx297_1
              replace hx297_2 := (HB.out.cell (World.block_lt_of_cell? w _ hx297_2)).trans hx297_2
              replace p297 := eq_true p297
              replace q297 := eq_true q297
              go_wp2_with (first | ((with_reducible refine gate_dst (N := 4) rfl ?_); refine box_event ?hg (N := 4) ?hd (cs := #[.int .i64 0, .string (⟨#[]⟩ : ByteArray), .int .i64 0]) (t := 35) ?hr ?_; (case hd => rfl); (case hg => rfl); (case hr => first | (go_simp; done) | (go_simp; rfl)); intro gb298 hg w10 hbox hb; have n0_ := Aside0.mk (below_step (by repeat (first | (with_reducible first | exact HB.out | apply below_alloc | apply pw_below_drewN | apply below_drew1) | exact HB.out)) hb); have n1_ := Aside0.mk (hbox); have n2_ := Aside0.mk ((by rw [hg]; exact (below_size (by repeat (first | (with_reducible first | exact HB.out | apply below_alloc | apply pw_below_drewN | apply below_drew1) | exact HB.out))) : w.heap.size ≤ gb298)); have n3_ := Aside0.mk ((by rw [hg]; exact (below_size (by repeat (first | (with_reducible first | exact HB.out | apply below_alloc | apply pw_below_drewN | apply below_drew1) | exact HB.out))) : w.heap.size ≤ gb298)); clear HB; have HB := n0_; have BK298 := n1_; have GW298 := n2_; have GE298 := n3_; clear n0_ n1_ n2_ n3_; clear hb hbox hg; have hcz11_0 : w10.cell? ⟨gb298, 0, none⟩ = some (.int .i64 0) := (blk_cell BK298.out 0).trans rfl; have hcz11_1 : w10.cell? ⟨gb298, 1, none⟩ = some (.string (⟨#[]⟩ : ByteArray)) := (blk_cell BK298.out 1).trans rfl; have hcz11_2 : w10.cell? ⟨gb298, 2, none⟩ = some (.int .i64 0) := (blk_cell BK298.out 2).trans rfl; have hfz11_0 := blk_frozen BK298.out 0; have hfz11_1 := blk_frozen BK298.out 1; have hfz11_2 := blk_frozen BK298.out 2) | ((with_reducible refine gate_callee (f := 16) rfl ?_); refine goesL_ (some 13) rfl rfl Tryz.func16 (by kernel_rfl) rfl #[.agg #[.int .i64 ((rd_T35 l0 x8_1).f0), .string ((rd_T35 l0 x8_1).f1), .int .i64 ((rd_T35 l0 x8_1).f2)]] rfl (by (try simp only [List.map_toArray, List.map_cons, List.map_nil]); first | done | rfl | (simp only [List.length_drop, List.length_take]; rfl)) ?_; (with_reducible refine (TkC.Check.calls ((rd_T35 l0 x8_1).f0) ((rd_T35 l0 x8_1).f1) ((rd_T35 l0 x8_1).f2) t299 _ ?side1 A5.out).mono ?_); (case side1 => first | exact hEnv | exact EnvW.below hEnv (by repeat (first | (with_reducible first | exact HB.out | apply below_alloc | apply pw_below_drewN | apply below_drew1 | refine below_set ?_ GE298.out) | exact HB.out)) | exact hEnv.drewN _); rintro e w12 ⟨rfl, hb⟩; refine ⟨_, rfl, ?_⟩; have n0_ := Aside0.mk (blk_below (g := gb298) (o := .cells #[.int .i64 ((rd_T35 l0 x8_1).f0), .string ((rd_T35 l0 x8_1).f1), .int .i64 ((rd_T35 l0 x8_1).f2)] 35 (0, 0)) (by (with_reducible repeat (first | refine blk_drewN ?_ _ | refine blk_drew ?_ | refine blk_alloc ?_ _)); refine blk_put (cs := #[.int .i64 ((rd_T35 l0 x8_1).f0), .string ((rd_T35 l0 x8_1).f1), .int .i64 0]) ?_ 2 _ rfl; (with_reducible repeat (first | refine blk_drewN ?_ _ | refine blk_drew ?_ | refine blk_alloc ?_ _)); refine blk_put (cs := #[.int .i64 ((rd_T35 l0 x8_1).f0), .string (⟨#[]⟩ : ByteArray), .int .i64 0]) ?_ 1 _ rfl; (with_reducible repeat (first | refine blk_drewN ?_ _ | refine blk_drew ?_ | refine blk_alloc ?_ _)); refine blk_put (cs := #[.int .i64 0, .string (⟨#[]⟩ : ByteArray), .int .i64 0]) ?_ 0 _ rfl; (with_reducible repeat (first | refine blk_drewN ?_ _ | refine blk_drew ?_ | refine blk_alloc ?_ _)); exact BK298.out) hb); have n1_ := Aside0.mk (below_step (by repeat (first | (with_reducible first | exact HB.out | apply below_alloc | apply pw_below_drewN | apply below_drew1 | refine below_set ?_ GE298.out) | exact HB.out)) hb); clear BK298; clear HB; have BK298 := n0_; have HB := n1_; clear n0_ n1_; (try clear hb); (try clear hb2); (try clear hk); (try clear hi)))
              go_ret
              exact ⟨by first | rfl | (simp [errW_none, errW_some] <;> rfl) | (simp [*, errW_none, errW_some] <;> rfl), by repeat (first | (with_reducible first | exact HB.out | apply below_alloc | apply pw_below_drewN | apply below_drew1 | refine below_set ?_ GE298.out) | exact HB.out)⟩
          · rw [if_neg c4] at H
            exact absurd H (by simp)
        · rw [if_neg c3] at H
          exact absurd H (by simp)
      · rw [if_neg c2] at H
        have c2b0 : decide (x8_1 < (l0.length : Int)) = false := decide_eq_false c2
        clear c2
        obtain rfl := Option.some.inj H
        go_wp2
        go_ret
        exact ⟨by first | rfl | (simp [errW_none, errW_some] <;> rfl) | (simp [*, errW_none, errW_some] <;> rfl), by repeat (first | (with_reducible first | exact HB.out | apply below_alloc | apply pw_below_drewN | apply below_drew1) | exact HB.out)⟩
end Go.Proofs.YtgeonilideojnaaGreatDoor.Pr
end
section
namespace Go.Proofs.YtgeonilideojnaaGreatDoor.Pr
open Go.RowKit Go.Proofs.YtgeonilideojnaaGreatDoorW.PrintWords Go.Proofs.YtgeonilideojnaaGreatDoorW.PrintLast Go.Proofs.YtgeonilideojnaaGreatDoorW.PrintMore
attribute [local go_sem] max2_int min2_int max_two min_two max_three min_three max_four min_four
set_option linter.unusedVariables false
set_option linter.unusedSimpArgs false
def tokens_state.f (a0_0 : Int) (a0_1 : ByteArray) (a0_2 : Int) : Option (Bool) := if a0_0 = 1 then (if a0_1.toList = ([33, 46] : List UInt8) then (some true) else (some (a0_1.toList == ([33, 58] : List UInt8)))) else (some false)
set_option maxHeartbeats 8000000 in
set_option maxRecDepth 100000 in
theorem tokens_state.calls (a0_0 : Int) (a0_1 : ByteArray) (a0_2 : Int) (r : Bool) (w : World) (h : tokens_state.f a0_0 a0_1 a0_2 = some r) :
    Calls Tryz.prog 27 #[.agg #[.int .i64 a0_0, .string a0_1, .int .i64 a0_2]] w fun e w' => e = .returned (.bool r) ∧ Below w.heap.size w w' := by
  have hu35 := Tryz.underlying35
  have HB := Aside0.mk (Below.refl w.heap.size w)
  have H : (if a0_0 = 1 then (if a0_1.toList = ([33, 46] : List UInt8) then (some true) else (some (a0_1.toList == ([33, 58] : List UInt8)))) else (some false)) = some r := h
  clear h
  by_cases c2 : a0_0 = 1
  · rw [if_pos c2] at H
    have c2b0 : (a0_0 == 1) = true := beq_iff_eq.mpr c2
    have c2b1 : (a0_0 != 1) = false := bne_eq_false_iff_eq.mpr c2
    clear c2
    by_cases c3 : a0_1.toList = ([33, 46] : List UInt8)
    · rw [if_pos c3] at H
      have c3b0 : (a0_1.toList == ([33, 46] : List UInt8)) = true := beq_iff_eq.mpr c3
      have c3b1 : (a0_1.toList != ([33, 46] : List UInt8)) = false := bne_eq_false_iff_eq.mpr c3
      clear c3
      obtain rfl := Option.some.inj H
      go_enter Tryz.func27, Tryz.ntmps27
      go_wp2_with (first | ((with_reducible refine gate_dst (N := 1) rfl ?_); refine box_event ?hg (N := 1) ?hd (cs := #[.int .i64 a0_0, .string a0_1, .int .i64 a0_2]) (t := 35) ?hr ?_; (case hd => rfl); (case hg => rfl); (case hr => first | (go_simp; done) | (go_simp; rfl)); intro gb304 hg w4 hbox hb; have n0_ := Aside0.mk (below_step (by repeat (first | (with_reducible first | exact HB.out | apply below_alloc | apply pw_below_drewN | apply below_drew1) | exact HB.out)) hb); have n1_ := Aside0.mk (hbox); have n2_ := Aside0.mk ((by rw [hg]; exact (below_size (by repeat (first | (with_reducible first | exact HB.out | apply below_alloc | apply pw_below_drewN | apply below_drew1) | exact HB.out))) : w.heap.size ≤ gb304)); have n3_ := Aside0.mk ((by rw [hg]; exact (below_size (by repeat (first | (with_reducible first | exact HB.out | apply below_alloc | apply pw_below_drewN | apply below_drew1) | exact HB.out))) : w.heap.size ≤ gb304)); clear HB; have HB := n0_; have BK304 := n1_; have GW304 := n2_; have GE304 := n3_; clear n0_ n1_ n2_ n3_; clear hb hbox hg; have hcz5_0 : w4.cell? ⟨gb304, 0, none⟩ = some (.int .i64 a0_0) := (blk_cell BK304.out 0).trans rfl; have hcz5_1 : w4.cell? ⟨gb304, 1, none⟩ = some (.string a0_1) := (blk_cell BK304.out 1).trans rfl; have hcz5_2 : w4.cell? ⟨gb304, 2, none⟩ = some (.int .i64 a0_2) := (blk_cell BK304.out 2).trans rfl; have hfz5_0 := blk_frozen BK304.out 0; have hfz5_1 := blk_frozen BK304.out 1; have hfz5_2 := blk_frozen BK304.out 2))
      go_ret
      exact ⟨by first | rfl | (simp [errW_none, errW_some] <;> rfl) | (simp [*, errW_none, errW_some] <;> rfl), by repeat (first | (with_reducible first | exact HB.out | apply below_alloc | apply pw_below_drewN | apply below_drew1 | refine below_set ?_ GE304.out) | exact HB.out)⟩
    · rw [if_neg c3] at H
      have c3b0 : (a0_1.toList == ([33, 46] : List UInt8)) = false := beq_eq_false_iff_ne.mpr c3
      have c3b1 : (a0_1.toList != ([33, 46] : List UInt8)) = true := bne_iff_ne.mpr c3
      obtain rfl := Option.some.inj H
      go_enter Tryz.func27, Tryz.ntmps27
      go_wp2_with (first | ((with_reducible refine gate_dst (N := 1) rfl ?_); refine box_event ?hg (N := 1) ?hd (cs := #[.int .i64 a0_0, .string a0_1, .int .i64 a0_2]) (t := 35) ?hr ?_; (case hd => rfl); (case hg => rfl); (case hr => first | (go_simp; done) | (go_simp; rfl)); intro gb304 hg w6 hbox hb; have n0_ := Aside0.mk (below_step (by repeat (first | (with_reducible first | exact HB.out | apply below_alloc | apply pw_below_drewN | apply below_drew1) | exact HB.out)) hb); have n1_ := Aside0.mk (hbox); have n2_ := Aside0.mk ((by rw [hg]; exact (below_size (by repeat (first | (with_reducible first | exact HB.out | apply below_alloc | apply pw_below_drewN | apply below_drew1) | exact HB.out))) : w.heap.size ≤ gb304)); have n3_ := Aside0.mk ((by rw [hg]; exact (below_size (by repeat (first | (with_reducible first | exact HB.out | apply below_alloc | apply pw_below_drewN | apply below_drew1) | exact HB.out))) : w.heap.size ≤ gb304)); clear HB; have HB := n0_; have BK304 := n1_; have GW304 := n2_; have GE304 := n3_; clear n0_ n1_ n2_ n3_; clear hb hbox hg; have hcz7_0 : w6.cell? ⟨gb304, 0, none⟩ = some (.int .i64 a0_0) := (blk_cell BK304.out 0).trans rfl; have hcz7_1 : w6.cell? ⟨gb304, 1, none⟩ = some (.string a0_1) := (blk_cell BK304.out 1).trans rfl; have hcz7_2 : w6.cell? ⟨gb304, 2, none⟩ = some (.int .i64 a0_2) := (blk_cell BK304.out 2).trans rfl; have hfz7_0 := blk_frozen BK304.out 0; have hfz7_1 := blk_frozen BK304.out 1; have hfz7_2 := blk_frozen BK304.out 2))
      go_ret
      exact ⟨by first | rfl | (simp [errW_none, errW_some] <;> rfl) | (simp [*, errW_none, errW_some] <;> rfl), by repeat (first | (with_reducible first | exact HB.out | apply below_alloc | apply pw_below_drewN | apply below_drew1 | refine below_set ?_ GE304.out) | exact HB.out)⟩
  · rw [if_neg c2] at H
    have c2b0 : (a0_0 == 1) = false := beq_eq_false_iff_ne.mpr c2
    have c2b1 : (a0_0 != 1) = true := bne_iff_ne.mpr c2
    obtain rfl := Option.some.inj H
    go_enter Tryz.func27, Tryz.ntmps27
    go_wp2_with (first | ((with_reducible refine gate_dst (N := 1) rfl ?_); refine box_event ?hg (N := 1) ?hd (cs := #[.int .i64 a0_0, .string a0_1, .int .i64 a0_2]) (t := 35) ?hr ?_; (case hd => rfl); (case hg => rfl); (case hr => first | (go_simp; done) | (go_simp; rfl)); intro gb304 hg w8 hbox hb; have n0_ := Aside0.mk (below_step (by repeat (first | (with_reducible first | exact HB.out | apply below_alloc | apply pw_below_drewN | apply below_drew1) | exact HB.out)) hb); have n1_ := Aside0.mk (hbox); have n2_ := Aside0.mk ((by rw [hg]; exact (below_size (by repeat (first | (with_reducible first | exact HB.out | apply below_alloc | apply pw_below_drewN | apply below_drew1) | exact HB.out))) : w.heap.size ≤ gb304)); have n3_ := Aside0.mk ((by rw [hg]; exact (below_size (by repeat (first | (with_reducible first | exact HB.out | apply below_alloc | apply pw_below_drewN | apply below_drew1) | exact HB.out))) : w.heap.size ≤ gb304)); clear HB; have HB := n0_; have BK304 := n1_; have GW304 := n2_; have GE304 := n3_; clear n0_ n1_ n2_ n3_; clear hb hbox hg; have hcz9_0 : w8.cell? ⟨gb304, 0, none⟩ = some (.int .i64 a0_0) := (blk_cell BK304.out 0).trans rfl; have hcz9_1 : w8.cell? ⟨gb304, 1, none⟩ = some (.string a0_1) := (blk_cell BK304.out 1).trans rfl; have hcz9_2 : w8.cell? ⟨gb304, 2, none⟩ = some (.int .i64 a0_2) := (blk_cell BK304.out 2).trans rfl; have hfz9_0 := blk_frozen BK304.out 0; have hfz9_1 := blk_frozen BK304.out 1; have hfz9_2 := blk_frozen BK304.out 2))
    go_ret
    exact ⟨by first | rfl | (simp [errW_none, errW_some] <;> rfl) | (simp [*, errW_none, errW_some] <;> rfl), by repeat (first | (with_reducible first | exact HB.out | apply below_alloc | apply pw_below_drewN | apply below_drew1 | refine below_set ?_ GE304.out) | exact HB.out)⟩
end Go.Proofs.YtgeonilideojnaaGreatDoor.Pr
end
section
namespace Go.Proofs.YtgeonilideojnaaGreatDoor.Tk
open Go Go.RowKit
set_option linter.unusedVariables false
set_option linter.unusedSimpArgs false
def esc1 (marks : Bs) (c : UInt8) : Bs :=
  if c = 10 && marks.contains 110 then [92, 110] else if c = 9 && marks.contains 110 then [92, 116]
  else if c ≠ 110 && marks.contains c then [92, c] else [c]
theorem escapedS_cons (marks : Bs) (c : UInt8) (t : Bs) : escapedS marks (c :: t) = esc1 marks c ++ escapedS marks t := rfl
theorem escapedS_snoc (marks : Bs) (c : UInt8) : ∀ t : Bs, escapedS marks (t ++ [c]) = escapedS marks t ++ esc1 marks c
  | [] => by rw [List.nil_append, escapedS_cons]; simp [escapedS]
  | d :: t => by rw [List.cons_append, escapedS_cons, escapedS_cons, escapedS_snoc marks c t, List.append_assoc]
theorem esc1_len (marks : Bs) (c : UInt8) : (esc1 marks c).length ≤ 2 := by
  unfold esc1
  repeat' split
  all_goals simp
theorem escapedS_len (marks : Bs) : ∀ s : Bs, (escapedS marks s).length ≤ 2 * s.length
  | [] => by simp [escapedS]
  | c :: t => by
    have := escapedS_len marks t
    have := esc1_len marks c
    rw [escapedS_cons, List.length_append, List.length_cons]
    omega
theorem escapedS_take (marks s : Bs) {k : Nat} (hk : k < s.length) : escapedS marks (s.take (k + 1)) = escapedS marks (s.take k) ++ esc1 marks s[k] := by
  rw [List.take_add_one, List.getElem?_eq_getElem hk]
  exact escapedS_snoc marks _ _
structure EsSt (w W : World) (b : Nat) (s l : Bs) : Prop where
  bld : Bld W b (b + 2) l
  row : ∀ j (h : j < s.length), W.cell? ⟨b + 1, j, none⟩ = some (.int .u8 (s[j].toNat : Int))
  g : Below b w W
  sz : b + 2 ≤ W.heap.size
theorem EsSt.step {w W W1 : World} {b : Nat} {s l l1 : Bs} (h : EsSt w W b s l) (hb : Bld W1 b (b + 2) l1) (hk : ∀ k, k < b + 2 → k ≠ b → W1.heap[k]? = W.heap[k]?) (h1 : W1.os = W.os) (h2 : W1.tape = W.tape) (h3 : W1.output = W.output) (h4 : W.heap.size ≤ W1.heap.size) : EsSt w W1 b s l1 := by
  refine ⟨hb, fun j hj => ?_, ⟨h1.trans h.g.os, h2.trans h.g.tape, h3.trans h.g.output, Nat.le_trans h.g.size h4, fun k hkb => (hk k (by omega) (by omega)).trans (h.g.block k hkb)⟩, Nat.le_trans h.sz h4⟩
  rw [← h.row j hj]
  exact World.cell?_of_block (w := W) (hk (b + 1) (by omega) (by omega))
theorem EsSt.kept {w W W1 : World} {b : Nat} {s l : Bs} (h : EsSt w W b s l) (hg : W.grownBy W1 none) : EsSt w W1 b s l := by
  obtain ⟨p, v, hp, hb, ho, hbB⟩ := h.bld
  exact h.step ⟨p, v, hp, hb.kept hg, ho.same hg, hbB⟩ (fun k hk _ => hg.block k (by have := h.sz; omega) (by simp)) hg.os hg.tape hg.output hg.size
theorem EsSt.init (w : World) (s : Bs) : EsSt w (Lib.bytesWorld (w.alloc (.cells #[.pointer none, .slice none 0 0] 55)) 5 (B s)) w.heap.size s [] := by
  have e1 : (w.alloc (.cells #[.pointer none, .slice none 0 0] 55)).heap.size = w.heap.size + 1 := Array.size_push ..
  have hg := bytes_gb s (w.alloc (.cells #[.pointer none, .slice none 0 0] 55))
  refine ⟨⟨_, _, .inl rfl, (Blk.new w _ _).kept hg, OwnB.nil _ _, by omega⟩, fun j hj => ?_, gb_below (gb_trans (gb_alloc (gb_refl w none) _) hg), ?_⟩
  · have := bytes_cell s (w.alloc (.cells #[.pointer none, .slice none 0 0] 55)) hj
    rwa [e1] at this
  · rw [Lib.bytesWorld_size, e1]
    omega
section
set_option maxHeartbeats 2000000
set_option maxRecDepth 100000
theorem escaped_calls (s marks : Bs) (w : World) (hs : s.length ≤ 65536) : Calls Tryz.prog 45 #[.string (B s), .string (B marks)] w fun e w' => e = .returned (.string (B (escapedS marks s))) ∧ w.grownBy w' none := by
  have hz := size_B s
  have hcv := bytes_conv s
  go_enter Tryz.func45, Tryz.ntmps45
  go_wp2_with fail
  refine code_forget (fun W => EsSt w W w.heap.size s []) (EsSt.init w s) ?_
  generalize hb : w.heap.size = b
  generalize grownCap (w.alloc (.cells #[.pointer none, .slice none 0 0] 55)) s.length 0 5 = cap
  clear hcv
  intro W HS
  replace HS := hide HS
  go_loopw [11] (fun v wr => ∃ k : Nat, k ≤ s.length ∧ v = .int .i64 (k : Int) ∧ EsSt w wr b s (escapedS marks (s.take k))) (fun v _ => s.length - (intOf v).toNat)
  case atStart => exact ⟨0, Nat.zero_le _, rfl, HS.out⟩
  case round =>
    clear HS
    obtain ⟨k, hk, rfl, HS⟩ := hrel
    by_cases hlt : k < s.length
    · have hrow := HS.row k hlt
      have htk := escapedS_take marks s hlt
      have hlen := escapedS_len marks (s.take k)
      have hl2 : (s.take k).length ≤ s.length := by simp; omega
      replace HS := hide HS
      generalize s[k] = c at hrow htk
      replace htk := hide htk
      have hcn0 := fun W => Contains_calls marks 110 W
      obtain ⟨ix, hix0⟩ : ∃ ix, ix = Lib.indexByte marks c := ⟨_, rfl⟩
      have hci := index_has marks c
      rw [← hix0] at hci
      have hix : ∀ W, Calls Tryz.prog 59 #[.string (B marks), .int .u8 (c.toNat : Int)] W fun e w' => e = .returned (.int .i64 ix) ∧ W = w' := by
        intro W
        rw [hix0]
        exact IndexByte_calls marks c W
      clear hix0
      replace hix := hide hix
      cases cn : marks.contains 110 with
      | true =>
        have hcn := hide (cn ▸ hcn0)
        clear hcn0
        by_cases e10 : c = 10
        · have t10 := is_yes (n := 10) (d := 10) rfl e10
          have e9 : ¬ c = 9 := by rw [e10]; decide
          have e110 : ¬ c = 110 := by rw [e10]; decide
          have t9 := is_no (n := 9) (d := 9) rfl e9
          have t110 := isnt_yes (n := 110) (d := 110) rfl e110
          have hone := hide (show esc1 marks c = [92, 110] by unfold esc1; simp only [cn]; simp [e10])
          clear e10 e9 e110
          go_wp2_with (first | (go_at_call 57; refine (hcn.out _).mono ?_; rintro e w1 ⟨rfl, rfl⟩) | (go_at_call 59; refine (hix.out _).mono ?_; rintro e w1 ⟨rfl, rfl⟩) | (go_at_call 29; refine (writeString_own b (b + 2) _ [92, 110] _ (by exact HS.out.bld) (by simp; omega) (by exact HS.out.sz)).mono ?_; rintro e w2 ⟨rfl, hb2, hk2, ho2, ht2, hp2, hs2⟩; have HS2 := hide (HS.out.step hb2 hk2 ho2 ht2 hp2 hs2)))
          go_roundw
          case rel => exact ⟨k + 1, by omega, by go_num, by rw [htk.out, hone.out]; exact HS2.out⟩
          case measure => simp [intOf]; omega
        · have t10 := is_no (n := 10) (d := 10) rfl e10
          by_cases e9 : c = 9
          · have t9 := is_yes (n := 9) (d := 9) rfl e9
            have e110 : ¬ c = 110 := by rw [e9]; decide
            have t110 := isnt_yes (n := 110) (d := 110) rfl e110
            have hone := hide (show esc1 marks c = [92, 116] by unfold esc1; simp only [cn]; simp [e10, e9])
            clear e10 e9 e110
            go_wp2_with (first | (go_at_call 57; refine (hcn.out _).mono ?_; rintro e w1 ⟨rfl, rfl⟩) | (go_at_call 59; refine (hix.out _).mono ?_; rintro e w1 ⟨rfl, rfl⟩) | (go_at_call 29; refine (writeString_own b (b + 2) _ [92, 116] _ (by exact HS.out.bld) (by simp; omega) (by exact HS.out.sz)).mono ?_; rintro e w2 ⟨rfl, hb2, hk2, ho2, ht2, hp2, hs2⟩; have HS2 := hide (HS.out.step hb2 hk2 ho2 ht2 hp2 hs2)))
            go_roundw
            case rel => exact ⟨k + 1, by omega, by go_num, by rw [htk.out, hone.out]; exact HS2.out⟩
            case measure => simp [intOf]; omega
          · have t9 := is_no (n := 9) (d := 9) rfl e9
            by_cases e110 : c = 110
            · have t110 := isnt_no (n := 110) (d := 110) rfl e110
              have hone := hide (show esc1 marks c = [c] by unfold esc1; simp [e10, e9, e110])
              clear e10 e9 e110
              go_wp2_with (first | (go_at_call 57; refine (hcn.out _).mono ?_; rintro e w1 ⟨rfl, rfl⟩) | (go_at_call 59; refine (hix.out _).mono ?_; rintro e w1 ⟨rfl, rfl⟩) | (go_at_call 28; refine (writeByte_own b (b + 2) _ c _ (by exact HS.out.bld) (by omega) (by exact HS.out.sz)).mono ?_; rintro e w2 ⟨rfl, hb2, hk2, ho2, ht2, hp2, hs2⟩; have HS2 := hide (HS.out.step hb2 hk2 ho2 ht2 hp2 hs2)))
              go_roundw
              case rel => exact ⟨k + 1, by omega, by go_num, by rw [htk.out, hone.out]; exact HS2.out⟩
              case measure => simp [intOf]; omega
            · have t110 := isnt_yes (n := 110) (d := 110) rfl e110
              cases ci : marks.contains c with
              | true =>
                rw [ci] at hci
                have hone := hide (show esc1 marks c = [92, c] by unfold esc1; simp only [ci]; simp [e10, e9, e110])
                clear e10 e9 e110
                have hcv := conv1 c
                have hsA : ∀ W, (Op.stringOp .add ⟨#[92]⟩ (B [c])).run Tryz.prog W = .ok (.string (B [92, c])) W := fun W => run_string_add_lists W [92] [c] (by simp) (by simp)
                have HSa := hide (HS.out.kept (World.grownBy_alloc _ (.cells #[.int .u8 (c.toNat : Int)] 5) none))
                go_wp2_with (first | (go_at_call 57; refine (hcn.out _).mono ?_; rintro e w1 ⟨rfl, rfl⟩) | (go_at_call 59; refine (hix.out _).mono ?_; rintro e w1 ⟨rfl, rfl⟩) | (go_at_call 29; refine (writeString_own b (b + 2) _ [92, c] _ (by exact (HSa.out).bld) (by simp; omega) (by exact (HSa.out).sz)).mono ?_; rintro e w2 ⟨rfl, hb2, hk2, ho2, ht2, hp2, hs2⟩; have HS2 := hide ((HSa.out).step hb2 hk2 ho2 ht2 hp2 hs2)))
                go_roundw
                case rel => exact ⟨k + 1, by omega, by go_num, by rw [htk.out, hone.out]; exact HS2.out⟩
                case measure => simp [intOf]; omega
              | false =>
                rw [ci] at hci
                have hone := hide (show esc1 marks c = [c] by unfold esc1; simp only [ci]; simp [e10, e9, e110])
                clear e10 e9 e110
                go_wp2_with (first | (go_at_call 57; refine (hcn.out _).mono ?_; rintro e w1 ⟨rfl, rfl⟩) | (go_at_call 59; refine (hix.out _).mono ?_; rintro e w1 ⟨rfl, rfl⟩) | (go_at_call 28; refine (writeByte_own b (b + 2) _ c _ (by exact HS.out.bld) (by omega) (by exact HS.out.sz)).mono ?_; rintro e w2 ⟨rfl, hb2, hk2, ho2, ht2, hp2, hs2⟩; have HS2 := hide (HS.out.step hb2 hk2 ho2 ht2 hp2 hs2)))
                go_roundw
                case rel => exact ⟨k + 1, by omega, by go_num, by rw [htk.out, hone.out]; exact HS2.out⟩
                case measure => simp [intOf]; omega
      | false =>
        have hcn := hide (cn ▸ hcn0)
        clear hcn0
        by_cases e10 : c = 10
        · have t10 := is_yes (n := 10) (d := 10) rfl e10
          have e9 : ¬ c = 9 := by rw [e10]; decide
          have e110 : ¬ c = 110 := by rw [e10]; decide
          have t9 := is_no (n := 9) (d := 9) rfl e9
          have t110 := isnt_yes (n := 110) (d := 110) rfl e110
          cases ci : marks.contains c with
          | true =>
            rw [ci] at hci
            have hone := hide (show esc1 marks c = [92, c] by unfold esc1; simp only [cn, ci]; simp [e9, e110])
            clear e10 e9 e110
            have hcv := conv1 c
            have hsA : ∀ W, (Op.stringOp .add ⟨#[92]⟩ (B [c])).run Tryz.prog W = .ok (.string (B [92, c])) W := fun W => run_string_add_lists W [92] [c] (by simp) (by simp)
            have HSa := hide (HS.out.kept (World.grownBy_alloc _ (.cells #[.int .u8 (c.toNat : Int)] 5) none))
            go_wp2_with (first | (go_at_call 57; refine (hcn.out _).mono ?_; rintro e w1 ⟨rfl, rfl⟩) | (go_at_call 59; refine (hix.out _).mono ?_; rintro e w1 ⟨rfl, rfl⟩) | (go_at_call 29; refine (writeString_own b (b + 2) _ [92, c] _ (by exact (HSa.out).bld) (by simp; omega) (by exact (HSa.out).sz)).mono ?_; rintro e w2 ⟨rfl, hb2, hk2, ho2, ht2, hp2, hs2⟩; have HS2 := hide ((HSa.out).step hb2 hk2 ho2 ht2 hp2 hs2)))
            go_roundw
            case rel => exact ⟨k + 1, by omega, by go_num, by rw [htk.out, hone.out]; exact HS2.out⟩
            case measure => simp [intOf]; omega
          | false =>
            rw [ci] at hci
            have hone := hide (show esc1 marks c = [c] by unfold esc1; simp only [cn, ci]; simp [e9, e110])
            clear e10 e9 e110
            go_wp2_with (first | (go_at_call 57; refine (hcn.out _).mono ?_; rintro e w1 ⟨rfl, rfl⟩) | (go_at_call 59; refine (hix.out _).mono ?_; rintro e w1 ⟨rfl, rfl⟩) | (go_at_call 28; refine (writeByte_own b (b + 2) _ c _ (by exact HS.out.bld) (by omega) (by exact HS.out.sz)).mono ?_; rintro e w2 ⟨rfl, hb2, hk2, ho2, ht2, hp2, hs2⟩; have HS2 := hide (HS.out.step hb2 hk2 ho2 ht2 hp2 hs2)))
            go_roundw
            case rel => exact ⟨k + 1, by omega, by go_num, by rw [htk.out, hone.out]; exact HS2.out⟩
            case measure => simp [intOf]; omega
        · have t10 := is_no (n := 10) (d := 10) rfl e10
          by_cases e9 : c = 9
          · have t9 := is_yes (n := 9) (d := 9) rfl e9
            have e110 : ¬ c = 110 := by rw [e9]; decide
            have t110 := isnt_yes (n := 110) (d := 110) rfl e110
            cases ci : marks.contains c with
            | true =>
              rw [ci] at hci
              have hone := hide (show esc1 marks c = [92, c] by unfold esc1; simp only [cn, ci]; simp [e10, e110])
              clear e10 e9 e110
              have hcv := conv1 c
              have hsA : ∀ W, (Op.stringOp .add ⟨#[92]⟩ (B [c])).run Tryz.prog W = .ok (.string (B [92, c])) W := fun W => run_string_add_lists W [92] [c] (by simp) (by simp)
              have HSa := hide (HS.out.kept (World.grownBy_alloc _ (.cells #[.int .u8 (c.toNat : Int)] 5) none))
              go_wp2_with (first | (go_at_call 57; refine (hcn.out _).mono ?_; rintro e w1 ⟨rfl, rfl⟩) | (go_at_call 59; refine (hix.out _).mono ?_; rintro e w1 ⟨rfl, rfl⟩) | (go_at_call 29; refine (writeString_own b (b + 2) _ [92, c] _ (by exact (HSa.out).bld) (by simp; omega) (by exact (HSa.out).sz)).mono ?_; rintro e w2 ⟨rfl, hb2, hk2, ho2, ht2, hp2, hs2⟩; have HS2 := hide ((HSa.out).step hb2 hk2 ho2 ht2 hp2 hs2)))
              go_roundw
              case rel => exact ⟨k + 1, by omega, by go_num, by rw [htk.out, hone.out]; exact HS2.out⟩
              case measure => simp [intOf]; omega
            | false =>
              rw [ci] at hci
              have hone := hide (show esc1 marks c = [c] by unfold esc1; simp only [cn, ci]; simp [e10, e110])
              clear e10 e9 e110
              go_wp2_with (first | (go_at_call 57; refine (hcn.out _).mono ?_; rintro e w1 ⟨rfl, rfl⟩) | (go_at_call 59; refine (hix.out _).mono ?_; rintro e w1 ⟨rfl, rfl⟩) | (go_at_call 28; refine (writeByte_own b (b + 2) _ c _ (by exact HS.out.bld) (by omega) (by exact HS.out.sz)).mono ?_; rintro e w2 ⟨rfl, hb2, hk2, ho2, ht2, hp2, hs2⟩; have HS2 := hide (HS.out.step hb2 hk2 ho2 ht2 hp2 hs2)))
              go_roundw
              case rel => exact ⟨k + 1, by omega, by go_num, by rw [htk.out, hone.out]; exact HS2.out⟩
              case measure => simp [intOf]; omega
          · have t9 := is_no (n := 9) (d := 9) rfl e9
            by_cases e110 : c = 110
            · have t110 := isnt_no (n := 110) (d := 110) rfl e110
              have hone := hide (show esc1 marks c = [c] by unfold esc1; simp [e10, e9, e110])
              clear e10 e9 e110
              go_wp2_with (first | (go_at_call 57; refine (hcn.out _).mono ?_; rintro e w1 ⟨rfl, rfl⟩) | (go_at_call 59; refine (hix.out _).mono ?_; rintro e w1 ⟨rfl, rfl⟩) | (go_at_call 28; refine (writeByte_own b (b + 2) _ c _ (by exact HS.out.bld) (by omega) (by exact HS.out.sz)).mono ?_; rintro e w2 ⟨rfl, hb2, hk2, ho2, ht2, hp2, hs2⟩; have HS2 := hide (HS.out.step hb2 hk2 ho2 ht2 hp2 hs2)))
              go_roundw
              case rel => exact ⟨k + 1, by omega, by go_num, by rw [htk.out, hone.out]; exact HS2.out⟩
              case measure => simp [intOf]; omega
            · have t110 := isnt_yes (n := 110) (d := 110) rfl e110
              cases ci : marks.contains c with
              | true =>
                rw [ci] at hci
                have hone := hide (show esc1 marks c = [92, c] by unfold esc1; simp only [ci]; simp [e10, e9, e110])
                clear e10 e9 e110
                have hcv := conv1 c
                have hsA : ∀ W, (Op.stringOp .add ⟨#[92]⟩ (B [c])).run Tryz.prog W = .ok (.string (B [92, c])) W := fun W => run_string_add_lists W [92] [c] (by simp) (by simp)
                have HSa := hide (HS.out.kept (World.grownBy_alloc _ (.cells #[.int .u8 (c.toNat : Int)] 5) none))
                go_wp2_with (first | (go_at_call 57; refine (hcn.out _).mono ?_; rintro e w1 ⟨rfl, rfl⟩) | (go_at_call 59; refine (hix.out _).mono ?_; rintro e w1 ⟨rfl, rfl⟩) | (go_at_call 29; refine (writeString_own b (b + 2) _ [92, c] _ (by exact (HSa.out).bld) (by simp; omega) (by exact (HSa.out).sz)).mono ?_; rintro e w2 ⟨rfl, hb2, hk2, ho2, ht2, hp2, hs2⟩; have HS2 := hide ((HSa.out).step hb2 hk2 ho2 ht2 hp2 hs2)))
                go_roundw
                case rel => exact ⟨k + 1, by omega, by go_num, by rw [htk.out, hone.out]; exact HS2.out⟩
                case measure => simp [intOf]; omega
              | false =>
                rw [ci] at hci
                have hone := hide (show esc1 marks c = [c] by unfold esc1; simp only [ci]; simp [e10, e9, e110])
                clear e10 e9 e110
                go_wp2_with (first | (go_at_call 57; refine (hcn.out _).mono ?_; rintro e w1 ⟨rfl, rfl⟩) | (go_at_call 59; refine (hix.out _).mono ?_; rintro e w1 ⟨rfl, rfl⟩) | (go_at_call 28; refine (writeByte_own b (b + 2) _ c _ (by exact HS.out.bld) (by omega) (by exact HS.out.sz)).mono ?_; rintro e w2 ⟨rfl, hb2, hk2, ho2, ht2, hp2, hs2⟩; have HS2 := hide (HS.out.step hb2 hk2 ho2 ht2 hp2 hs2)))
                go_roundw
                case rel => exact ⟨k + 1, by omega, by go_num, by rw [htk.out, hone.out]; exact HS2.out⟩
                case measure => simp [intOf]; omega
    · have hkk : k = s.length := by omega
      subst hkk
      replace HS := hide HS
      go_wp2_with (first | (go_at_call 32; refine (string_own b (b + 2) _ _ (by exact HS.out.bld)).mono ?_; rintro e w2 ⟨rfl, hg2⟩))
      go_ret
      refine ⟨rfl, ?_⟩
      subst hb
      exact below_gb (HS.out.g.trans hg2) none
end
end Go.Proofs.YtgeonilideojnaaGreatDoor.Tk
end
section
namespace Go.Proofs.YtgeonilideojnaaGreatDoor.TkC
set_option linter.unusedVariables false
set_option linter.unusedSimpArgs false
open Go Go.RowKit Tk
def escaped.f (s marks : ByteArray) : Option ByteArray := if s.size ≤ 65536 then some (B (escapedS marks.data.toList s.data.toList)) else none
theorem escaped.calls (s marks : ByteArray) (r : ByteArray) (w : World) (h : escaped.f s marks = some r) :
    Calls Tryz.prog 45 #[.string s, .string marks] w fun e w' => e = .returned (.string r) ∧ Below w.heap.size w w' := by
  unfold escaped.f at h
  split at h
  · rename_i hc
    injection h with h
    subst h
    have := escaped_calls s.data.toList marks.data.toList w hc
    rw [B_of, B_of] at this
    exact this.mono fun _ _ ⟨h1, h2⟩ => ⟨h1, gb_below h2⟩
  · cases h
end Go.Proofs.YtgeonilideojnaaGreatDoor.TkC
end
section
namespace Go.Proofs.YtgeonilideojnaaGreatDoor.Pr
open Go.RowKit Go.Proofs.YtgeonilideojnaaGreatDoorW.PrintWords Go.Proofs.YtgeonilideojnaaGreatDoorW.PrintLast Go.Proofs.YtgeonilideojnaaGreatDoorW.PrintMore
attribute [local go_sem] max2_int min2_int max_two min_two max_three min_three max_four min_four
set_option linter.unusedVariables false
set_option linter.unusedSimpArgs false
def tokens_Name.f (a0 : ByteArray) : Option (ByteArray) := (TkC.plain.f a0).bind fun t101 => (if t101 = true then (some a0) else ((TkC.escaped.f a0 (⟨#[92, 39]⟩ : ByteArray)).bind fun t102 => (if 1 + t102.size ≤ 9223372036854775807 then (if ((⟨#[39]⟩ : ByteArray) ++ t102).size + 1 ≤ 9223372036854775807 then (some (((⟨#[39]⟩ : ByteArray) ++ t102) ++ (⟨#[39]⟩ : ByteArray))) else (none)) else (none))))
set_option maxHeartbeats 8000000 in
set_option maxRecDepth 100000 in
theorem tokens_Name.calls (a0 : ByteArray) (r : ByteArray) (w : World) (hEnv : EnvW w) (h : tokens_Name.f a0 = some r) :
    Calls Tryz.prog 18 #[.string a0] w fun e w' => e = .returned (.string r) ∧ Below w.heap.size w w' := by
  have HB := Aside0.mk (Below.refl w.heap.size w)
  have H : ((TkC.plain.f a0).bind fun t101 => (if t101 = true then (some a0) else ((TkC.escaped.f a0 (⟨#[92, 39]⟩ : ByteArray)).bind fun t102 => (if 1 + t102.size ≤ 9223372036854775807 then (if ((⟨#[39]⟩ : ByteArray) ++ t102).size + 1 ≤ 9223372036854775807 then (some (((⟨#[39]⟩ : ByteArray) ++ t102) ++ (⟨#[39]⟩ : ByteArray))) else (none)) else (none))))) = some r := h
  clear h
  replace H := Option.bind_eq_some_iff.mp H
  obtain ⟨t101, A20, H⟩ := H
  replace H : (if t101 = true then (some a0) else ((TkC.escaped.f a0 (⟨#[92, 39]⟩ : ByteArray)).bind fun t102 => (if 1 + t102.size ≤ 9223372036854775807 then (if ((⟨#[39]⟩ : ByteArray) ++ t102).size + 1 ≤ 9223372036854775807 then (some (((⟨#[39]⟩ : ByteArray) ++ t102) ++ (⟨#[39]⟩ : ByteArray))) else (none)) else (none)))) = some r := H
  have A2 := Aside0.mk A20
  clear A20
  by_cases c3 : t101 = true
  · subst c3
    have H1 : (some a0) = some r := by rw [if_pos rfl] at H; exact H
    clear H
    have H := H1
    clear H1
    obtain rfl := Option.some.inj H
    go_enter Tryz.func18, Tryz.ntmps18
    go_wp2_with (first | ((with_reducible refine gate_callee (f := 44) rfl ?_); refine goesL_ (some 4) rfl rfl Tryz.func44 (by kernel_rfl) rfl #[.string a0] rfl (by (try simp only [List.map_toArray, List.map_cons, List.map_nil]); first | done | rfl | (simp only [List.length_drop, List.length_take]; rfl)) ?_; (with_reducible refine (TkC.plain.calls a0 true _ ?side1 A2.out).mono ?_); (case side1 => first | exact hEnv | exact EnvW.below hEnv (by repeat (first | (with_reducible first | exact HB.out | apply below_alloc | apply pw_below_drewN | apply below_drew1) | exact HB.out)) | exact hEnv.drewN _); rintro e w4 ⟨rfl, hb⟩; refine ⟨_, rfl, ?_⟩; have n0_ := Aside0.mk (below_step (by repeat (first | (with_reducible first | exact HB.out | apply below_alloc | apply pw_below_drewN | apply below_drew1) | exact HB.out)) hb); clear HB; have HB := n0_; clear n0_; (try clear hb); (try clear hb2); (try clear hk); (try clear hi)))
    go_ret
    exact ⟨by first | rfl | (simp [errW_none, errW_some] <;> rfl) | (simp [*, errW_none, errW_some] <;> rfl), by repeat (first | (with_reducible first | exact HB.out | apply below_alloc | apply pw_below_drewN | apply below_drew1) | exact HB.out)⟩
  · replace c3 := Bool.eq_false_iff.mpr c3
    subst c3
    have H1 : ((TkC.escaped.f a0 (⟨#[92, 39]⟩ : ByteArray)).bind fun t102 => (if 1 + t102.size ≤ 9223372036854775807 then (if ((⟨#[39]⟩ : ByteArray) ++ t102).size + 1 ≤ 9223372036854775807 then (some (((⟨#[39]⟩ : ByteArray) ++ t102) ++ (⟨#[39]⟩ : ByteArray))) else (none)) else (none))) = some r := by rw [if_neg (show ¬ (false = true) by decide)] at H; exact H
    clear H
    have H := H1
    clear H1
    replace H := Option.bind_eq_some_iff.mp H
    obtain ⟨t102, A50, H⟩ := H
    replace H : (if 1 + t102.size ≤ 9223372036854775807 then (if ((⟨#[39]⟩ : ByteArray) ++ t102).size + 1 ≤ 9223372036854775807 then (some (((⟨#[39]⟩ : ByteArray) ++ t102) ++ (⟨#[39]⟩ : ByteArray))) else (none)) else (none)) = some r := H
    have A5 := Aside0.mk A50
    clear A50
    by_cases c6 : 1 + t102.size ≤ 9223372036854775807
    · rw [if_pos c6] at H
      have c6b0 := eq_true c6
      have c6b1 : decide (1 + t102.size ≤ 9223372036854775807) = true := decide_eq_true c6
      try have c6b2 : (9223372036854775807 < 1 + t102.size) = False := eq_false (Nat.not_lt.2 c6)
      by_cases c7 : ((⟨#[39]⟩ : ByteArray) ++ t102).size + 1 ≤ 9223372036854775807
      · rw [if_pos c7] at H
        have c7b0 := eq_true c7
        have c7b1 : decide (((⟨#[39]⟩ : ByteArray) ++ t102).size + 1 ≤ 9223372036854775807) = true := decide_eq_true c7
        (try (have c7n := c7; simp only [ByteArray.size_append, show (⟨#[39]⟩ : ByteArray).size = 1 from rfl] at c7n; have c7n0 := eq_true c7n; have c7n1 := eq_false (Nat.not_lt.2 c7n)))
        try have c7b2 : (9223372036854775807 < ((⟨#[39]⟩ : ByteArray) ++ t102).size + 1) = False := eq_false (Nat.not_lt.2 c7)
        obtain rfl := Option.some.inj H
        go_enter Tryz.func18, Tryz.ntmps18
        go_wp2_with (first | ((with_reducible refine gate_callee (f := 44) rfl ?_); refine goesL_ (some 4) rfl rfl Tryz.func44 (by kernel_rfl) rfl #[.string a0] rfl (by (try simp only [List.map_toArray, List.map_cons, List.map_nil]); first | done | rfl | (simp only [List.length_drop, List.length_take]; rfl)) ?_; (with_reducible refine (TkC.plain.calls a0 false _ ?side1 A2.out).mono ?_); (case side1 => first | exact hEnv | exact EnvW.below hEnv (by repeat (first | (with_reducible first | exact HB.out | apply below_alloc | apply pw_below_drewN | apply below_drew1) | exact HB.out)) | exact hEnv.drewN _); rintro e w8 ⟨rfl, hb⟩; refine ⟨_, rfl, ?_⟩; have n0_ := Aside0.mk (below_step (by repeat (first | (with_reducible first | exact HB.out | apply below_alloc | apply pw_below_drewN | apply below_drew1) | exact HB.out)) hb); clear HB; have HB := n0_; clear n0_; (try clear hb); (try clear hb2); (try clear hk); (try clear hi)) | ((with_reducible refine gate_callee (f := 45) rfl ?_); refine goesL_ (some 7) rfl rfl Tryz.func45 (by kernel_rfl) rfl #[.string a0, .string (⟨#[92, 39]⟩ : ByteArray)] rfl (by (try simp only [List.map_toArray, List.map_cons, List.map_nil]); first | done | rfl | (simp only [List.length_drop, List.length_take]; rfl)) ?_; (with_reducible refine (TkC.escaped.calls a0 (⟨#[92, 39]⟩ : ByteArray) t102 _ A5.out).mono ?_); rintro e w9 ⟨rfl, hb⟩; refine ⟨_, rfl, ?_⟩; have n0_ := Aside0.mk (below_step (by repeat (first | (with_reducible first | exact HB.out | apply below_alloc | apply pw_below_drewN | apply below_drew1) | exact HB.out)) hb); clear HB; have HB := n0_; clear n0_; (try clear hb); (try clear hb2); (try clear hk); (try clear hi)))
        go_ret
        exact ⟨by first | rfl | (simp [errW_none, errW_some] <;> rfl) | (simp [*, errW_none, errW_some] <;> rfl), by repeat (first | (with_reducible first | exact HB.out | apply below_alloc | apply pw_below_drewN | apply below_drew1) | exact HB.out)⟩
      · rw [if_neg c7] at H
        exact absurd H (by simp)
    · rw [if_neg c6] at H
      exact absurd H (by simp)
end Go.Proofs.YtgeonilideojnaaGreatDoor.Pr
end
section
namespace Go.Proofs.YtgeonilideojnaaGreatDoor.Pr
open Go.RowKit Go.Proofs.YtgeonilideojnaaGreatDoorW.PrintWords Go.Proofs.YtgeonilideojnaaGreatDoorW.PrintLast Go.Proofs.YtgeonilideojnaaGreatDoorW.PrintMore
attribute [local go_sem] max2_int min2_int max_two min_two max_three min_three max_four min_four
set_option linter.unusedVariables false
set_option linter.unusedSimpArgs false
def tokens_written.f (a0_0 : Int) (a0_1 : ByteArray) (a0_2 : Int) : Option (ByteArray) := if a0_0 = 1 then ((tokens_Name.f a0_1).bind fun t301 => (some t301)) else (if a0_0 = 4 then ((TkC.escaped.f a0_1 (⟨#[110, 92]⟩ : ByteArray)).bind fun t302 => (if 2 + t302.size ≤ 9223372036854775807 then (some ((⟨#[48, 39]⟩ : ByteArray) ++ t302)) else (none))) else (if a0_0 = 5 then ((TkC.escaped.f a0_1 (⟨#[110, 92, 34]⟩ : ByteArray)).bind fun t303 => (if 1 + t303.size ≤ 9223372036854775807 then (if ((⟨#[34]⟩ : ByteArray) ++ t303).size + 1 ≤ 9223372036854775807 then (some (((⟨#[34]⟩ : ByteArray) ++ t303) ++ (⟨#[34]⟩ : ByteArray))) else (none)) else (none))) else (if a0_0 = 6 then (if 0 ≤ 1 then (if 1 ≤ (a0_1.size : Int) then (some (a0_1.extract 0 1)) else (none)) else (none)) else (some a0_1))))
set_option maxHeartbeats 8000000 in
set_option maxRecDepth 100000 in
theorem tokens_written.calls (a0_0 : Int) (a0_1 : ByteArray) (a0_2 : Int) (r : ByteArray) (w : World) (hEnv : EnvW w) (h : tokens_written.f a0_0 a0_1 a0_2 = some r) :
    Calls Tryz.prog 30 #[.agg #[.int .i64 a0_0, .string a0_1, .int .i64 a0_2]] w fun e w' => e = .returned (.string r) ∧ Below w.heap.size w w' := by
  have hu35 := Tryz.underlying35
  have HB := Aside0.mk (Below.refl w.heap.size w)
  have H : (if a0_0 = 1 then ((tokens_Name.f a0_1).bind fun t301 => (some t301)) else (if a0_0 = 4 then ((TkC.escaped.f a0_1 (⟨#[110, 92]⟩ : ByteArray)).bind fun t302 => (if 2 + t302.size ≤ 9223372036854775807 then (some ((⟨#[48, 39]⟩ : ByteArray) ++ t302)) else (none))) else (if a0_0 = 5 then ((TkC.escaped.f a0_1 (⟨#[110, 92, 34]⟩ : ByteArray)).bind fun t303 => (if 1 + t303.size ≤ 9223372036854775807 then (if ((⟨#[34]⟩ : ByteArray) ++ t303).size + 1 ≤ 9223372036854775807 then (some (((⟨#[34]⟩ : ByteArray) ++ t303) ++ (⟨#[34]⟩ : ByteArray))) else (none)) else (none))) else (if a0_0 = 6 then (if 0 ≤ 1 then (if 1 ≤ (a0_1.size : Int) then (some (a0_1.extract 0 1)) else (none)) else (none)) else (some a0_1))))) = some r := h
  clear h
  by_cases c2 : a0_0 = 1
  · rw [if_pos c2] at H
    have c2b0 : (a0_0 == 1) = true := beq_iff_eq.mpr c2
    have c2b1 : (a0_0 != 1) = false := bne_eq_false_iff_eq.mpr c2
    clear c2
    replace H := Option.bind_eq_some_iff.mp H
    obtain ⟨t301, A30, H⟩ := H
    replace H : (some t301) = some r := H
    have A3 := Aside0.mk A30
    clear A30
    obtain rfl := Option.some.inj H
    go_enter Tryz.func30, Tryz.ntmps30
    go_wp2_with (first | ((with_reducible refine gate_dst (N := 1) rfl ?_); refine box_event ?hg (N := 1) ?hd (cs := #[.int .i64 a0_0, .string a0_1, .int .i64 a0_2]) (t := 35) ?hr ?_; (case hd => rfl); (case hg => rfl); (case hr => first | (go_simp; done) | (go_simp; rfl)); intro gb300 hg w4 hbox hb; have n0_ := Aside0.mk (below_step (by repeat (first | (with_reducible first | exact HB.out | apply below_alloc | apply pw_below_drewN | apply below_drew1) | exact HB.out)) hb); have n1_ := Aside0.mk (hbox); have n2_ := Aside0.mk ((by rw [hg]; exact (below_size (by repeat (first | (with_reducible first | exact HB.out | apply below_alloc | apply pw_below_drewN | apply below_drew1) | exact HB.out))) : w.heap.size ≤ gb300)); have n3_ := Aside0.mk ((by rw [hg]; exact (below_size (by repeat (first | (with_reducible first | exact HB.out | apply below_alloc | apply pw_below_drewN | apply below_drew1) | exact HB.out))) : w.heap.size ≤ gb300)); clear HB; have HB := n0_; have BK300 := n1_; have GW300 := n2_; have GE300 := n3_; clear n0_ n1_ n2_ n3_; clear hb hbox hg; have hcz5_0 : w4.cell? ⟨gb300, 0, none⟩ = some (.int .i64 a0_0) := (blk_cell BK300.out 0).trans rfl; have hcz5_1 : w4.cell? ⟨gb300, 1, none⟩ = some (.string a0_1) := (blk_cell BK300.out 1).trans rfl; have hcz5_2 : w4.cell? ⟨gb300, 2, none⟩ = some (.int .i64 a0_2) := (blk_cell BK300.out 2).trans rfl; have hfz5_0 := blk_frozen BK300.out 0; have hfz5_1 := blk_frozen BK300.out 1; have hfz5_2 := blk_frozen BK300.out 2) | ((with_reducible refine gate_callee (f := 18) rfl ?_); refine goesL_ (some 9) rfl rfl Tryz.func18 (by kernel_rfl) rfl #[.string a0_1] rfl (by (try simp only [List.map_toArray, List.map_cons, List.map_nil]); first | done | rfl | (simp only [List.length_drop, List.length_take]; rfl)) ?_; (with_reducible refine (tokens_Name.calls a0_1 t301 _ ?side1 A3.out).mono ?_); (case side1 => first | exact hEnv | exact EnvW.below hEnv (by repeat (first | (with_reducible first | exact HB.out | apply below_alloc | apply pw_below_drewN | apply below_drew1 | refine below_set ?_ GE300.out) | exact HB.out)) | exact hEnv.drewN _); rintro e w6 ⟨rfl, hb⟩; refine ⟨_, rfl, ?_⟩; have n0_ := Aside0.mk (blk_below (g := gb300) (o := .cells #[.int .i64 a0_0, .string a0_1, .int .i64 a0_2] 35 (0, 0)) (by (with_reducible repeat (first | refine blk_drewN ?_ _ | refine blk_drew ?_ | refine blk_alloc ?_ _)); exact BK300.out) hb); have n1_ := Aside0.mk (below_step (by repeat (first | (with_reducible first | exact HB.out | apply below_alloc | apply pw_below_drewN | apply below_drew1 | refine below_set ?_ GE300.out) | exact HB.out)) hb); clear BK300; clear HB; have BK300 := n0_; have HB := n1_; clear n0_ n1_; (try clear hb); (try clear hb2); (try clear hk); (try clear hi)))
    go_ret
    exact ⟨by first | rfl | (simp [errW_none, errW_some] <;> rfl) | (simp [*, errW_none, errW_some] <;> rfl), by repeat (first | (with_reducible first | exact HB.out | apply below_alloc | apply pw_below_drewN | apply below_drew1 | refine below_set ?_ GE300.out) | exact HB.out)⟩
  · rw [if_neg c2] at H
    have c2b0 : (a0_0 == 1) = false := beq_eq_false_iff_ne.mpr c2
    have c2b1 : (a0_0 != 1) = true := bne_iff_ne.mpr c2
    by_cases c7 : a0_0 = 4
    · rw [if_pos c7] at H
      have c7b0 : (a0_0 == 4) = true := beq_iff_eq.mpr c7
      have c7b1 : (a0_0 != 4) = false := bne_eq_false_iff_eq.mpr c7
      clear c7
      replace H := Option.bind_eq_some_iff.mp H
      obtain ⟨t302, A80, H⟩ := H
      replace H : (if 2 + t302.size ≤ 9223372036854775807 then (some ((⟨#[48, 39]⟩ : ByteArray) ++ t302)) else (none)) = some r := H
      have A8 := Aside0.mk A80
      clear A80
      by_cases c9 : 2 + t302.size ≤ 9223372036854775807
      · rw [if_pos c9] at H
        have c9b0 := eq_true c9
        have c9b1 : decide (2 + t302.size ≤ 9223372036854775807) = true := decide_eq_true c9
        try have c9b2 : (9223372036854775807 < 2 + t302.size) = False := eq_false (Nat.not_lt.2 c9)
        obtain rfl := Option.some.inj H
        go_enter Tryz.func30, Tryz.ntmps30
        go_wp2_with (first | ((with_reducible refine gate_dst (N := 1) rfl ?_); refine box_event ?hg (N := 1) ?hd (cs := #[.int .i64 a0_0, .string a0_1, .int .i64 a0_2]) (t := 35) ?hr ?_; (case hd => rfl); (case hg => rfl); (case hr => first | (go_simp; done) | (go_simp; rfl)); intro gb300 hg w10 hbox hb; have n0_ := Aside0.mk (below_step (by repeat (first | (with_reducible first | exact HB.out | apply below_alloc | apply pw_below_drewN | apply below_drew1) | exact HB.out)) hb); have n1_ := Aside0.mk (hbox); have n2_ := Aside0.mk ((by rw [hg]; exact (below_size (by repeat (first | (with_reducible first | exact HB.out | apply below_alloc | apply pw_below_drewN | apply below_drew1) | exact HB.out))) : w.heap.size ≤ gb300)); have n3_ := Aside0.mk ((by rw [hg]; exact (below_size (by repeat (first | (with_reducible first | exact HB.out | apply below_alloc | apply pw_below_drewN | apply below_drew1) | exact HB.out))) : w.heap.size ≤ gb300)); clear HB; have HB := n0_; have BK300 := n1_; have GW300 := n2_; have GE300 := n3_; clear n0_ n1_ n2_ n3_; clear hb hbox hg; have hcz11_0 : w10.cell? ⟨gb300, 0, none⟩ = some (.int .i64 a0_0) := (blk_cell BK300.out 0).trans rfl; have hcz11_1 : w10.cell? ⟨gb300, 1, none⟩ = some (.string a0_1) := (blk_cell BK300.out 1).trans rfl; have hcz11_2 : w10.cell? ⟨gb300, 2, none⟩ = some (.int .i64 a0_2) := (blk_cell BK300.out 2).trans rfl; have hfz11_0 := blk_frozen BK300.out 0; have hfz11_1 := blk_frozen BK300.out 1; have hfz11_2 := blk_frozen BK300.out 2) | ((with_reducible refine gate_callee (f := 45) rfl ?_); refine goesL_ (some 14) rfl rfl Tryz.func45 (by kernel_rfl) rfl #[.string a0_1, .string (⟨#[110, 92]⟩ : ByteArray)] rfl (by (try simp only [List.map_toArray, List.map_cons, List.map_nil]); first | done | rfl | (simp only [List.length_drop, List.length_take]; rfl)) ?_; (with_reducible refine (TkC.escaped.calls a0_1 (⟨#[110, 92]⟩ : ByteArray) t302 _ A8.out).mono ?_); rintro e w12 ⟨rfl, hb⟩; refine ⟨_, rfl, ?_⟩; have n0_ := Aside0.mk (blk_below (g := gb300) (o := .cells #[.int .i64 a0_0, .string a0_1, .int .i64 a0_2] 35 (0, 0)) (by (with_reducible repeat (first | refine blk_drewN ?_ _ | refine blk_drew ?_ | refine blk_alloc ?_ _)); exact BK300.out) hb); have n1_ := Aside0.mk (below_step (by repeat (first | (with_reducible first | exact HB.out | apply below_alloc | apply pw_below_drewN | apply below_drew1 | refine below_set ?_ GE300.out) | exact HB.out)) hb); clear BK300; clear HB; have BK300 := n0_; have HB := n1_; clear n0_ n1_; (try clear hb); (try clear hb2); (try clear hk); (try clear hi)))
        go_ret
        exact ⟨by first | rfl | (simp [errW_none, errW_some] <;> rfl) | (simp [*, errW_none, errW_some] <;> rfl), by repeat (first | (with_reducible first | exact HB.out | apply below_alloc | apply pw_below_drewN | apply below_drew1 | refine below_set ?_ GE300.out) | exact HB.out)⟩
      · rw [if_neg c9] at H
        exact absurd H (by simp)
    · rw [if_neg c7] at H
      have c7b0 : (a0_0 == 4) = false := beq_eq_false_iff_ne.mpr c7
      have c7b1 : (a0_0 != 4) = true := bne_iff_ne.mpr c7
      by_cases c13 : a0_0 = 5
      · rw [if_pos c13] at H
        have c13b0 : (a0_0 == 5) = true := beq_iff_eq.mpr c13
        have c13b1 : (a0_0 != 5) = false := bne_eq_false_iff_eq.mpr c13
        clear c13
        replace H := Option.bind_eq_some_iff.mp H
        obtain ⟨t303, A140, H⟩ := H
        replace H : (if 1 + t303.size ≤ 9223372036854775807 then (if ((⟨#[34]⟩ : ByteArray) ++ t303).size + 1 ≤ 9223372036854775807 then (some (((⟨#[34]⟩ : ByteArray) ++ t303) ++ (⟨#[34]⟩ : ByteArray))) else (none)) else (none)) = some r := H
        have A14 := Aside0.mk A140
        clear A140
        by_cases c15 : 1 + t303.size ≤ 9223372036854775807
        · rw [if_pos c15] at H
          have c15b0 := eq_true c15
          have c15b1 : decide (1 + t303.size ≤ 9223372036854775807) = true := decide_eq_true c15
          try have c15b2 : (9223372036854775807 < 1 + t303.size) = False := eq_false (Nat.not_lt.2 c15)
          by_cases c16 : ((⟨#[34]⟩ : ByteArray) ++ t303).size + 1 ≤ 9223372036854775807
          · rw [if_pos c16] at H
            have c16b0 := eq_true c16
            have c16b1 : decide (((⟨#[34]⟩ : ByteArray) ++ t303).size + 1 ≤ 9223372036854775807) = true := decide_eq_true c16
            (try (have c16n := c16; simp only [ByteArray.size_append, show (⟨#[34]⟩ : ByteArray).size = 1 from rfl] at c16n; have c16n0 := eq_true c16n; have c16n1 := eq_false (Nat.not_lt.2 c16n)))
            try have c16b2 : (9223372036854775807 < ((⟨#[34]⟩ : ByteArray) ++ t303).size + 1) = False := eq_false (Nat.not_lt.2 c16)
            obtain rfl := Option.some.inj H
            go_enter Tryz.func30, Tryz.ntmps30
            go_wp2_with (first | ((with_reducible refine gate_dst (N := 1) rfl ?_); refine box_event ?hg (N := 1) ?hd (cs := #[.int .i64 a0_0, .string a0_1, .int .i64 a0_2]) (t := 35) ?hr ?_; (case hd => rfl); (case hg => rfl); (case hr => first | (go_simp; done) | (go_simp; rfl)); intro gb300 hg w17 hbox hb; have n0_ := Aside0.mk (below_step (by repeat (first | (with_reducible first | exact HB.out | apply below_alloc | apply pw_below_drewN | apply below_drew1) | exact HB.out)) hb); have n1_ := Aside0.mk (hbox); have n2_ := Aside0.mk ((by rw [hg]; exact (below_size (by repeat (first | (with_reducible first | exact HB.out | apply below_alloc | apply pw_below_drewN | apply below_drew1) | exact HB.out))) : w.heap.size ≤ gb300)); have n3_ := Aside0.mk ((by rw [hg]; exact (below_size (by repeat (first | (with_reducible first | exact HB.out | apply below_alloc | apply pw_below_drewN | apply below_drew1) | exact HB.out))) : w.heap.size ≤ gb300)); clear HB; have HB := n0_; have BK300 := n1_; have GW300 := n2_; have GE300 := n3_; clear n0_ n1_ n2_ n3_; clear hb hbox hg; have hcz18_0 : w17.cell? ⟨gb300, 0, none⟩ = some (.int .i64 a0_0) := (blk_cell BK300.out 0).trans rfl; have hcz18_1 : w17.cell? ⟨gb300, 1, none⟩ = some (.string a0_1) := (blk_cell BK300.out 1).trans rfl; have hcz18_2 : w17.cell? ⟨gb300, 2, none⟩ = some (.int .i64 a0_2) := (blk_cell BK300.out 2).trans rfl; have hfz18_0 := blk_frozen BK300.out 0; have hfz18_1 := blk_frozen BK300.out 1; have hfz18_2 := blk_frozen BK300.out 2) | ((with_reducible refine gate_callee (f := 45) rfl ?_); refine goesL_ (some 20) rfl rfl Tryz.func45 (by kernel_rfl) rfl #[.string a0_1, .string (⟨#[110, 92, 34]⟩ : ByteArray)] rfl (by (try simp only [List.map_toArray, List.map_cons, List.map_nil]); first | done | rfl | (simp only [List.length_drop, List.length_take]; rfl)) ?_; (with_reducible refine (TkC.escaped.calls a0_1 (⟨#[110, 92, 34]⟩ : ByteArray) t303 _ A14.out).mono ?_); rintro e w19 ⟨rfl, hb⟩; refine ⟨_, rfl, ?_⟩; have n0_ := Aside0.mk (blk_below (g := gb300) (o := .cells #[.int .i64 a0_0, .string a0_1, .int .i64 a0_2] 35 (0, 0)) (by (with_reducible repeat (first | refine blk_drewN ?_ _ | refine blk_drew ?_ | refine blk_alloc ?_ _)); exact BK300.out) hb); have n1_ := Aside0.mk (below_step (by repeat (first | (with_reducible first | exact HB.out | apply below_alloc | apply pw_below_drewN | apply below_drew1 | refine below_set ?_ GE300.out) | exact HB.out)) hb); clear BK300; clear HB; have BK300 := n0_; have HB := n1_; clear n0_ n1_; (try clear hb); (try clear hb2); (try clear hk); (try clear hi)))
            go_ret
            exact ⟨by first | rfl | (simp [errW_none, errW_some] <;> rfl) | (simp [*, errW_none, errW_some] <;> rfl), by repeat (first | (with_reducible first | exact HB.out | apply below_alloc | apply pw_below_drewN | apply below_drew1 | refine below_set ?_ GE300.out) | exact HB.out)⟩
          · rw [if_neg c16] at H
            exact absurd H (by simp)
        · rw [if_neg c15] at H
          exact absurd H (by simp)
      · rw [if_neg c13] at H
        have c13b0 : (a0_0 == 5) = false := beq_eq_false_iff_ne.mpr c13
        have c13b1 : (a0_0 != 5) = true := bne_iff_ne.mpr c13
        by_cases c20 : a0_0 = 6
        · rw [if_pos c20] at H
          have c20b0 : (a0_0 == 6) = true := beq_iff_eq.mpr c20
          have c20b1 : (a0_0 != 6) = false := bne_eq_false_iff_eq.mpr c20
          clear c20
          by_cases c21 : 0 ≤ 1
          · rw [if_pos c21] at H
            have c21b0 := eq_true c21
            have c21b1 : decide (0 ≤ 1) = true := decide_eq_true c21
            clear c21
            by_cases c22 : 1 ≤ (a0_1.size : Int)
            · rw [if_pos c22] at H
              have c22b0 := eq_true c22
              have c22b1 : decide (1 ≤ (a0_1.size : Int)) = true := decide_eq_true c22
              clear c22
              obtain rfl := Option.some.inj H
              go_enter Tryz.func30, Tryz.ntmps30
              go_wp2_with (first | ((with_reducible refine gate_dst (N := 1) rfl ?_); refine box_event ?hg (N := 1) ?hd (cs := #[.int .i64 a0_0, .string a0_1, .int .i64 a0_2]) (t := 35) ?hr ?_; (case hd => rfl); (case hg => rfl); (case hr => first | (go_simp; done) | (go_simp; rfl)); intro gb300 hg w23 hbox hb; have n0_ := Aside0.mk (below_step (by repeat (first | (with_reducible first | exact HB.out | apply below_alloc | apply pw_below_drewN | apply below_drew1) | exact HB.out)) hb); have n1_ := Aside0.mk (hbox); have n2_ := Aside0.mk ((by rw [hg]; exact (below_size (by repeat (first | (with_reducible first | exact HB.out | apply below_alloc | apply pw_below_drewN | apply below_drew1) | exact HB.out))) : w.heap.size ≤ gb300)); have n3_ := Aside0.mk ((by rw [hg]; exact (below_size (by repeat (first | (with_reducible first | exact HB.out | apply below_alloc | apply pw_below_drewN | apply below_drew1) | exact HB.out))) : w.heap.size ≤ gb300)); clear HB; have HB := n0_; have BK300 := n1_; have GW300 := n2_; have GE300 := n3_; clear n0_ n1_ n2_ n3_; clear hb hbox hg; have hcz24_0 : w23.cell? ⟨gb300, 0, none⟩ = some (.int .i64 a0_0) := (blk_cell BK300.out 0).trans rfl; have hcz24_1 : w23.cell? ⟨gb300, 1, none⟩ = some (.string a0_1) := (blk_cell BK300.out 1).trans rfl; have hcz24_2 : w23.cell? ⟨gb300, 2, none⟩ = some (.int .i64 a0_2) := (blk_cell BK300.out 2).trans rfl; have hfz24_0 := blk_frozen BK300.out 0; have hfz24_1 := blk_frozen BK300.out 1; have hfz24_2 := blk_frozen BK300.out 2))
              go_ret
              exact ⟨by first | rfl | (simp [errW_none, errW_some] <;> rfl) | (simp [*, errW_none, errW_some] <;> rfl), by repeat (first | (with_reducible first | exact HB.out | apply below_alloc | apply pw_below_drewN | apply below_drew1 | refine below_set ?_ GE300.out) | exact HB.out)⟩
            · rw [if_neg c22] at H
              exact absurd H (by simp)
          · exact absurd c21 (by decide)
        · rw [if_neg c20] at H
          have c20b0 : (a0_0 == 6) = false := beq_eq_false_iff_ne.mpr c20
          have c20b1 : (a0_0 != 6) = true := bne_iff_ne.mpr c20
          obtain rfl := Option.some.inj H
          go_enter Tryz.func30, Tryz.ntmps30
          go_wp2_with (first | ((with_reducible refine gate_dst (N := 1) rfl ?_); refine box_event ?hg (N := 1) ?hd (cs := #[.int .i64 a0_0, .string a0_1, .int .i64 a0_2]) (t := 35) ?hr ?_; (case hd => rfl); (case hg => rfl); (case hr => first | (go_simp; done) | (go_simp; rfl)); intro gb300 hg w25 hbox hb; have n0_ := Aside0.mk (below_step (by repeat (first | (with_reducible first | exact HB.out | apply below_alloc | apply pw_below_drewN | apply below_drew1) | exact HB.out)) hb); have n1_ := Aside0.mk (hbox); have n2_ := Aside0.mk ((by rw [hg]; exact (below_size (by repeat (first | (with_reducible first | exact HB.out | apply below_alloc | apply pw_below_drewN | apply below_drew1) | exact HB.out))) : w.heap.size ≤ gb300)); have n3_ := Aside0.mk ((by rw [hg]; exact (below_size (by repeat (first | (with_reducible first | exact HB.out | apply below_alloc | apply pw_below_drewN | apply below_drew1) | exact HB.out))) : w.heap.size ≤ gb300)); clear HB; have HB := n0_; have BK300 := n1_; have GW300 := n2_; have GE300 := n3_; clear n0_ n1_ n2_ n3_; clear hb hbox hg; have hcz26_0 : w25.cell? ⟨gb300, 0, none⟩ = some (.int .i64 a0_0) := (blk_cell BK300.out 0).trans rfl; have hcz26_1 : w25.cell? ⟨gb300, 1, none⟩ = some (.string a0_1) := (blk_cell BK300.out 1).trans rfl; have hcz26_2 : w25.cell? ⟨gb300, 2, none⟩ = some (.int .i64 a0_2) := (blk_cell BK300.out 2).trans rfl; have hfz26_0 := blk_frozen BK300.out 0; have hfz26_1 := blk_frozen BK300.out 1; have hfz26_2 := blk_frozen BK300.out 2))
          go_ret
          exact ⟨by first | rfl | (simp [errW_none, errW_some] <;> rfl) | (simp [*, errW_none, errW_some] <;> rfl), by repeat (first | (with_reducible first | exact HB.out | apply below_alloc | apply pw_below_drewN | apply below_drew1 | refine below_set ?_ GE300.out) | exact HB.out)⟩
end Go.Proofs.YtgeonilideojnaaGreatDoor.Pr
end
section
namespace Go.Proofs.YtgeonilideojnaaGreatDoor.Tk
open Go Go.RowKit Go.Proofs.YtgeonilideojnaaGreatDoor.Pr Go.Proofs.YtgeonilideojnaaGreatDoorW.PrintWords Go.Proofs.YtgeonilideojnaaGreatDoorW.PrintLast Go.Proofs.YtgeonilideojnaaGreatDoorW.PrintMore
set_option linter.unusedVariables false
set_option linter.unusedSimpArgs false
abbrev STok := S35
def endAt : List STok → Nat
  | [] => 0
  | x :: xs => if x.f0 = 0 then 0 else endAt xs + 1
theorem endAt_le : ∀ xs : List STok, endAt xs ≤ xs.length
  | [] => Nat.le_refl _
  | x :: xs => by
    have := endAt_le xs
    unfold endAt
    split <;> simp <;> omega
theorem endAt_at : ∀ (xs : List STok) (k : Nat), k ≤ endAt xs → k < xs.length → ((xs.getD k z35).f0 = 0 → endAt xs = k) ∧ ((xs.getD k z35).f0 ≠ 0 → k + 1 ≤ endAt xs)
  | [], k, h, hk => by simp at hk
  | x :: xs, 0, h, hk => by
    simp only [List.getD_cons_zero, endAt]
    constructor
    · intro h0; rw [if_pos h0]
    · intro h0; rw [if_neg h0]; omega
  | x :: xs, k + 1, h, hk => by
    simp only [List.getD_cons_succ, endAt] at h ⊢
    split at h
    · omega
    · rename_i hx
      rw [if_neg hx]
      have := endAt_at xs k (by omega) (by simpa using hk)
      exact ⟨fun h0 => by rw [this.1 h0], fun h0 => by have := this.2 h0; omega⟩
def idxEnd (xs : List STok) : Int := if endAt xs < xs.length then (endAt xs : Int) else -1
section
set_option maxHeartbeats 1000000
set_option maxRecDepth 100000
theorem TextF_calls (k : Int) (s : ByteArray) (i : Int) (w : World) : Calls Tryz.prog 25 #[.agg #[.int .i64 k, .string s, .int .i64 i]] w fun e w' => e = .returned (.bool (k == 0)) ∧ Below w.heap.size w w' := by
  go_enter Tryz.func25, Tryz.ntmps25
  go_wp2
  go_ret
  exact ⟨rfl, (Below.refl _ _).alloc (Nat.le_refl _) _⟩
theorem IdxTok_calls (A : Option Addr) (c : Nat) (xs : List STok) (w : World) (hC : Kd.C k35 w A xs.length xs) (hn : xs.length ≤ 65536) :
    Calls Tryz.prog 24 #[.slice A xs.length c, .func (.func 25) #[] #[]] w fun e w' => e = .returned (.int .i64 (idxEnd xs)) ∧ Below w.heap.size w w' := by
  have hC := hide hC
  have eK := enters_of Tryz.func25 (by kernel_rfl) rfl
  have hE := endAt_le xs
  go_enter Tryz.func24, Tryz.ntmps24
  go_wp2
  go_loopw [8] (fun v wr => ∃ k : Nat, k ≤ xs.length ∧ v = .int .i64 (k : Int) ∧ k ≤ endAt xs ∧ Below w.heap.size w wr) (fun v _ => xs.length - (intOf v).toNat)
  case atStart => exact ⟨0, Nat.zero_le _, rfl, Nat.zero_le _, Below.refl _ _⟩
  case round =>
    obtain ⟨k, hk, rfl, hke, hb⟩ := hrel
    have HB := hide hb
    clear hb
    by_cases hlt : k < xs.length
    · obtain ⟨ad, rfl, h0, h1, h2⟩ := at_T35 (Kd.C_below hC.out HB.out) (k : Int) (by omega) (by omega)
      simp only [Int.toNat_natCast] at h0 h1 h2
      have he := hide (endAt_at xs k hke hlt)
      have hx : rd_T35 xs (k : Int) = xs.getD k z35 := by simp [rd_T35]
      rw [hx] at h0 h1 h2
      clear hx
      generalize xs.getD k z35 = x at h0 h1 h2 he
      go_wp2_with fail
      refine (TextF_calls _ _ _ _).mono ?_
      rintro e w1 ⟨rfl, hb1⟩
      by_cases hx0 : x.f0 = 0
      · have hx1 : (x.f0 == 0) = true := by simpa using hx0
        have e1 := he.out.1 hx0
        have he1 := hide e1
        clear hx0 e1 he
        go_wp2
        go_ret
        refine ⟨ret_int ?_, HB.out.trans (hb1.mono HB.out.size)⟩
        have e1 := he1.out
        unfold idxEnd
        rw [if_pos (by omega), e1]
      · have hx1 : (x.f0 == 0) = false := by simpa using hx0
        have e1 := he.out.2 hx0
        clear hx0 he
        go_wp2
        go_roundw
        case rel => exact ⟨k + 1, by omega, by go_num, by omega, HB.out.trans (hb1.mono HB.out.size)⟩
        case measure => simp [intOf]; omega
    · go_wp2
      go_ret
      refine ⟨ret_int ?_, HB.out⟩
      unfold idxEnd
      rw [if_neg (by omega)]
end
end Go.Proofs.YtgeonilideojnaaGreatDoor.Tk
end
section
namespace Go.Proofs.YtgeonilideojnaaGreatDoor.Tk
open Go Go.RowKit Go.Proofs.YtgeonilideojnaaGreatDoor.Pr Go.Proofs.YtgeonilideojnaaGreatDoorW.PrintWords Go.Proofs.YtgeonilideojnaaGreatDoorW.PrintLast Go.Proofs.YtgeonilideojnaaGreatDoorW.PrintMore
set_option linter.unusedVariables false
set_option linter.unusedSimpArgs false
def toTok (x : STok) : Tok := ⟨x.f0, x.f1.data.toList, x.f2⟩
def okT (x : STok) : Prop := (Lit.int .i64 x.f0).wf = true ∧ x.f1.size ≤ 65536
theorem Check_f (x : STok) (h : okT x) : TkC.Check.f x.f0 x.f1 x.f2 = some (checkS (toTok x).kind (toTok x).text : Int) := by
  unfold TkC.Check.f
  rw [if_pos ⟨h.1, h.2⟩]
  rfl
theorem B_data (l : Bs) : (B l).data.toList = l := by simp [B]
theorem getD_drop {xs : List STok} {i : Nat} {x : STok} {t : List STok} (h : xs.drop i = x :: t) : i < xs.length ∧ rd_T35 xs (i : Int) = x ∧ xs.drop (i + 1) = t := by
  have hl : i < xs.length := by
    rcases Nat.lt_or_ge i xs.length with h1 | h1
    · exact h1
    · rw [List.drop_eq_nil_of_le h1] at h; cases h
  rw [List.drop_eq_getElem_cons hl] at h
  injection h with h1 h2
  refine ⟨hl, ?_, h2⟩
  unfold rd_T35
  simp [List.getD_eq_getElem?_getD, List.getElem?_eq_getElem hl, h1]
theorem wrap_nat (i : Nat) (h : i ≤ 1000000) : wrap64 ((i : Int) + 1) = ((i + 1 : Nat) : Int) := by
  unfold wrap64
  omega
theorem first_l0 (xs : List STok) (hn : xs.length ≤ 1000000) (hok : ∀ x ∈ xs, okT x) : ∀ (t : List STok) (i : Nat), xs.drop i = t → Ev (fun k => tokens_first.l0 k xs (xs.length : Int) (i : Int)) (firstS (t.map toTok) : Int)
  | [], i, h => by
    have hl : ¬ (i : Int) < (xs.length : Int) := by have : xs.length ≤ i := by simpa using h
                                                    omega
    exact Ev.step (f := fun _ => some 0) (fun k => by simp only [tokens_first.l0]; rw [if_neg hl]) (Ev.now _)
  | x :: t, i, h => by
    obtain ⟨hl, hx, h2⟩ := getD_drop h
    have hm : x ∈ xs := List.mem_of_mem_drop (h ▸ List.mem_cons_self)
    have hc := Check_f x (hok x hm)
    have ih := first_l0 xs hn hok t (i + 1) h2
    simp only [List.map_cons, firstS]
    by_cases h0 : checkS (toTok x).kind (toTok x).text = 0
    · rw [if_pos h0]
      refine Ev.step (f := fun k => tokens_first.l0 k xs (xs.length : Int) ((i + 1 : Nat) : Int)) (fun k => ?_) ih
      simp only [tokens_first.l0]
      rw [if_pos (by omega), if_pos (by omega), if_pos (by omega), hx, hc]
      simp only [Option.bind_some]
      rw [if_pos (by omega), wrap_nat i (by omega)]
    · rw [if_neg h0]
      refine Ev.step (f := fun k => some (checkS (toTok x).kind (toTok x).text : Int)) (fun k => ?_) (Ev.now _)
      simp only [tokens_first.l0]
      rw [if_pos (by omega), if_pos (by omega), if_pos (by omega), hx, hc]
      simp only [Option.bind_some]
      rw [if_neg (by omega)]
theorem first_f (xs : List STok) (hn : xs.length ≤ 1000000) (hok : ∀ x ∈ xs, okT x) : Ev (fun k => tokens_first.f k xs) (firstS (xs.map toTok) : Int) := first_l0 xs hn hok xs 0 rfl
theorem toList_data (s : ByteArray) : s.toList = s.data.toList := by rw [ByteArray.toList_eq]
theorem state_f (x : STok) : tokens_state.f x.f0 x.f1 x.f2 = some (stateS (toTok x)) := by
  unfold tokens_state.f stateS toTok
  simp only [toList_data]
  by_cases h : x.f0 = 1
  · rw [if_pos h]
    by_cases h2 : x.f1.data.toList = [33, 46]
    · rw [if_pos h2]; simp [h, h2]
    · rw [if_neg h2]; simp [h, h2]
  · rw [if_neg h]; simp [h]
theorem plain_f (s : ByteArray) (h : s.size ≤ 65536) : TkC.plain.f s = some (plain s.data.toList) := by unfold TkC.plain.f; rw [if_pos h]
theorem esc_f (s m : ByteArray) (h : s.size ≤ 65536) : TkC.escaped.f s m = some (B (escapedS m.data.toList s.data.toList)) := by unfold TkC.escaped.f; rw [if_pos h]
theorem B_app (a b : Bs) : B a ++ B b = B (a ++ b) := by
  apply ByteArray.ext
  rw [ByteArray.data_append]
  simp [B]
theorem Name_f (s : ByteArray) (h : s.size ≤ 65536) : tokens_Name.f s = some (B (nameS s.data.toList)) := by
  unfold tokens_Name.f nameS
  rw [plain_f s h]
  simp only [Option.bind_some]
  cases plain s.data.toList with
  | true => simp [B_of]
  | false =>
    simp only [Bool.false_eq_true, if_false]
    rw [esc_f s _ h]
    simp only [Option.bind_some]
    have hl := escapedS_len [92, 39] s.data.toList
    have hs : s.data.toList.length = s.size := rfl
    rw [if_pos (by rw [size_B]; omega), show (⟨#[39]⟩ : ByteArray) = B [39] from rfl, B_app, if_pos (by rw [size_B]; simp; omega), B_app]
theorem written_f (x : STok) (h : okT x) (h6 : x.f0 = 6 → x.f1.size ≠ 0) : tokens_written.f x.f0 x.f1 x.f2 = some (B (writtenS (toTok x).kind (toTok x).text)) := by
  have hs : x.f1.data.toList.length = x.f1.size := rfl
  have h2 := h.2
  unfold tokens_written.f writtenS toTok
  simp only
  by_cases e1 : x.f0 = 1
  · rw [if_pos e1, if_pos e1, Name_f _ h.2]; rfl
  · rw [if_neg e1, if_neg e1]
    by_cases e4 : x.f0 = 4
    · rw [if_pos e4, if_pos e4, esc_f _ _ h.2]
      simp only [Option.bind_some]
      have hl := escapedS_len [110, 92] x.f1.data.toList
      rw [if_pos (by rw [size_B]; omega), show (⟨#[48, 39]⟩ : ByteArray) = B [48, 39] from rfl, B_app]
    · rw [if_neg e4, if_neg e4]
      by_cases e5 : x.f0 = 5
      · rw [if_pos e5, if_pos e5, esc_f _ _ h.2]
        simp only [Option.bind_some]
        have hl := escapedS_len [110, 92, 34] x.f1.data.toList
        rw [if_pos (by rw [size_B]; omega), show (⟨#[34]⟩ : ByteArray) = B [34] from rfl, B_app, if_pos (by rw [size_B]; simp; omega), B_app]
      · rw [if_neg e5, if_neg e5]
        by_cases e6 : x.f0 = 6
        · rw [if_pos e6, if_pos e6]
          have := h6 e6
          rw [if_pos (by omega), if_pos (by omega)]
          congr 1
          have he := extract_B x.f1.data.toList 0 1
          rw [B_of] at he
          rw [he]
          rfl
        · rw [if_neg e6, if_neg e6, B_of]
theorem written_len (k : Int) (s : Bs) : (writtenS k s).length ≤ 2 * s.length + 4 := by
  unfold writtenS nameS
  have h1 := escapedS_len [92, 39] s
  have h2 := escapedS_len [110, 92] s
  have h3 := escapedS_len [110, 92, 34] s
  repeat' split
  all_goals simp
  all_goals omega
theorem before_take : ∀ xs : List STok, beforeEnd (xs.map toTok) = (xs.take (endAt xs)).map toTok
  | [] => rfl
  | x :: xs => by
    simp only [List.map_cons, beforeEnd, endAt]
    by_cases h : x.f0 = 0
    · rw [if_pos (by exact h), if_pos h]; rfl
    · rw [if_neg (by exact h), if_neg h, before_take xs]; rfl
theorem endCheck_at : ∀ xs : List STok, endCheck (xs.map toTok) = if h : endAt xs < xs.length then checkS (toTok xs[endAt xs]).kind (toTok xs[endAt xs]).text else 0
  | [] => rfl
  | x :: xs => by
    simp only [List.map_cons, endCheck]
    by_cases h : x.f0 = 0
    · rw [if_pos (by exact h)]
      have e : endAt (x :: xs) = 0 := by simp [endAt, h]
      simp [e]
    · rw [if_neg (by exact h), endCheck_at xs]
      have e : endAt (x :: xs) = endAt xs + 1 := by simp [endAt, h]
      simp [e]
theorem first_take (xs : List STok) (h : endAt xs < xs.length) : firstS ((xs.take (endAt xs + 1)).map toTok) = if firstS ((xs.take (endAt xs)).map toTok) ≠ 0 then firstS ((xs.take (endAt xs)).map toTok) else checkS (toTok xs[endAt xs]).kind (toTok xs[endAt xs]).text := by
  have hf : ∀ (l : List Tok) (t : Tok), firstS (l ++ [t]) = if firstS l ≠ 0 then firstS l else checkS t.kind t.text := by
    intro l t
    induction l with
    | nil =>
      simp only [List.nil_append, firstS]
      by_cases h0 : checkS t.kind t.text = 0
      · simp [h0]
      · simp [h0]
    | cons a l ih =>
      by_cases h0 : checkS a.kind a.text = 0
      · have e1 : firstS ((a :: l) ++ [t]) = firstS (l ++ [t]) := by simp [firstS, h0]
        have e2 : firstS (a :: l) = firstS l := by simp [firstS, h0]
        rw [e1, ih]
        simp only [e2]
      · have e1 : firstS ((a :: l) ++ [t]) = checkS a.kind a.text := by simp [firstS, h0]
        have e2 : firstS (a :: l) = checkS a.kind a.text := by simp [firstS, h0]
        rw [e1]
        simp only [e2]
        simp [h0]
  rw [List.take_succ_eq_append_getElem h, List.map_append, List.map_cons, List.map_nil, hf]
theorem firstS_all : ∀ l : List Tok, firstS l = 0 → ∀ t ∈ l, checkS t.kind t.text = 0
  | [], _, _, h => by simp at h
  | a :: l, h, t, ht => by
    unfold firstS at h
    split at h
    · rename_i h0
      rcases List.mem_cons.1 ht with rfl | h1
      · exact h0
      · exact firstS_all l h t h1
    · rename_i h0
      exact absurd h h0
theorem check6_ne {s : Bs} (h : checkS 6 s = 0) : s ≠ [] := by
  rintro rfl
  revert h
  decide
theorem C_take {w : World} {A : Option Addr} {xs : List STok} (h : Kd.C k35 w A xs.length xs) (n : Nat) (hn : n ≤ xs.length) : Kd.C k35 w A (xs.take n).length (xs.take n) := by
  obtain ⟨h1, h2, h3⟩ := h
  refine ⟨rfl, by simp; omega, fun hp => ?_⟩
  obtain ⟨ad, e, hc⟩ := h3 (by simp at hp; omega)
  refine ⟨ad, e, fun j p hj => hc j p ?_⟩
  rw [List.getElem?_take] at hj
  split at hj
  · exact hj
  · cases hj
end Go.Proofs.YtgeonilideojnaaGreatDoor.Tk
end
