/- A part of a proof over the package's statements: contracts of functions and plain facts, merged by a program of this session's. -/
import Derived.Test.YtgeonilideojnaaGreatDoorRG1x1
import Derived.Test.YtgeonilideojnaaGreatDoorRG1x2
import Derived.Test.YtgeonilideojnaaGreatDoorRG1x3
import Derived.Test.YtgeonilideojnaaGreatDoorRG1x4
import Derived.Test.YtgeonilideojnaaGreatDoorRG1x5
import Derived.Test.YtgeonilideojnaaGreatDoorRG1x6
import Derived.Test.YtgeonilideojnaaGreatDoorRG1x7
import Derived.Test.YtgeonilideojnaaGreatDoorRG1x8
import Derived.Test.YtgeonilideojnaaGreatDoorRG1x9
import Derived.Test.YtgeonilideojnaaGreatDoorRG1x10
section
namespace Go.Proofs.YtgeonilideojnaaGreatDoor.Pr
open Go.RowKit Go.Proofs.YtgeonilideojnaaGreatDoorW.PrintWords Go.Proofs.YtgeonilideojnaaGreatDoorW.PrintLast Go.Proofs.YtgeonilideojnaaGreatDoorW.PrintMore
attribute [local go_sem] max2_int min2_int max_two min_two max_three min_three max_four min_four
set_option linter.unusedVariables false
set_option linter.unusedSimpArgs false
mutual
def cinnabarlaw01_TokensBlanks.j0 : Nat → ByteArray → Int → Int → List (S35) → Bool → Option (Bool)
  | 0, _, _, _, _, _ => none
  | k + 1, x0, x1, x2, x7, x29 => if x29 = true then ((cinnabarlaw01_awake.f k).bind fun t264 => (some t264)) else (if (IntKind.u64.wrap ((x7.length : Int))) = 0 then (none) else (if 0 ≤ (wrap64 (Int.tmod (IntKind.u64.wrap (x1)) (IntKind.u64.wrap ((x7.length : Int))))) then (if (wrap64 (Int.tmod (IntKind.u64.wrap (x1)) (IntKind.u64.wrap ((x7.length : Int))))) < (x7.length : Int) then (if ((rd_T35 x7 (wrap64 (Int.tmod (IntKind.u64.wrap (x1)) (IntKind.u64.wrap ((x7.length : Int)))))).f0) = 0 then (cinnabarlaw01_TokensBlanks.j1 k x0 x2 x7 (wrap64 (Int.tmod (IntKind.u64.wrap (x1)) (IntKind.u64.wrap ((x7.length : Int))))) true) else (if ((rd_T35 x7 (wrap64 (Int.tmod (IntKind.u64.wrap (x1)) (IntKind.u64.wrap ((x7.length : Int)))))).f1).toList = ([40, 40] : List UInt8) then (cinnabarlaw01_TokensBlanks.j1 k x0 x2 x7 (wrap64 (Int.tmod (IntKind.u64.wrap (x1)) (IntKind.u64.wrap ((x7.length : Int))))) true) else (if (wrap64 (Int.tmod (IntKind.u64.wrap (x1)) (IntKind.u64.wrap ((x7.length : Int))))) > 0 then (if 0 ≤ (wrap64 ((wrap64 (Int.tmod (IntKind.u64.wrap (x1)) (IntKind.u64.wrap ((x7.length : Int))))) - 1)) then (if (wrap64 ((wrap64 (Int.tmod (IntKind.u64.wrap (x1)) (IntKind.u64.wrap ((x7.length : Int))))) - 1)) < (x7.length : Int) then (if ((rd_T35 x7 (wrap64 ((wrap64 (Int.tmod (IntKind.u64.wrap (x1)) (IntKind.u64.wrap ((x7.length : Int))))) - 1))).f1).toList = ([33, 46] : List UInt8) then (cinnabarlaw01_TokensBlanks.j1 k x0 x2 x7 (wrap64 (Int.tmod (IntKind.u64.wrap (x1)) (IntKind.u64.wrap ((x7.length : Int))))) true) else (cinnabarlaw01_TokensBlanks.j1 k x0 x2 x7 (wrap64 (Int.tmod (IntKind.u64.wrap (x1)) (IntKind.u64.wrap ((x7.length : Int))))) (((rd_T35 x7 (wrap64 ((wrap64 (Int.tmod (IntKind.u64.wrap (x1)) (IntKind.u64.wrap ((x7.length : Int))))) - 1))).f1).toList == ([33, 58] : List UInt8)))) else (none)) else (none)) else (cinnabarlaw01_TokensBlanks.j1 k x0 x2 x7 (wrap64 (Int.tmod (IntKind.u64.wrap (x1)) (IntKind.u64.wrap ((x7.length : Int))))) false)))) else (none)) else (none)))
def cinnabarlaw01_TokensBlanks.j1 : Nat → ByteArray → Int → List (S35) → Int → Bool → Option (Bool)
  | 0, _, _, _, _, _ => none
  | k + 1, x0, x2, x7, x9, x73 => if x73 = true then ((cinnabarlaw01_awake.f k).bind fun t269 => (some t269)) else ((some (([(⟨#[32]⟩ : ByteArray), (⟨#[10, 9]⟩ : ByteArray), (⟨#[32, 47, 42, 32, 97, 32, 37, 32, 98, 32, 10, 32, 42, 47, 32]⟩ : ByteArray), (⟨#[32, 37, 32, 99, 32, 39, 100, 32, 10]⟩ : ByteArray)] : List ByteArray) : List ByteArray)).bind fun y270 => (if 0 ≤ (Int.tmod (IntKind.u64.wrap (x2)) 4) then (if (Int.tmod (IntKind.u64.wrap (x2)) 4) < (y270.length : Int) then (if 0 ≤ x9 then (if x9 < (x7.length : Int) then (if 0 ≤ ((rd_T35 x7 x9).f2) then (if ((rd_T35 x7 x9).f2) ≤ (x0.size : Int) then (if (x0.extract 0 (((rd_T35 x7 x9).f2) : Int).toNat).size + (rdOf ByteArray.empty y270 (Int.tmod (IntKind.u64.wrap (x2)) 4)).size ≤ 9223372036854775807 then (if ((x0.extract 0 (((rd_T35 x7 x9).f2) : Int).toNat) ++ (rdOf ByteArray.empty y270 (Int.tmod (IntKind.u64.wrap (x2)) 4))).size + (x0.extract (((rd_T35 x7 x9).f2) : Int).toNat x0.size).size ≤ 9223372036854775807 then ((TkC.Tokens.f (((x0.extract 0 (((rd_T35 x7 x9).f2) : Int).toNat) ++ (rdOf ByteArray.empty y270 (Int.tmod (IntKind.u64.wrap (x2)) 4))) ++ (x0.extract (((rd_T35 x7 x9).f2) : Int).toNat x0.size))).bind fun bt276 => (if bt276.2.2 = 0 then ((cinnabarlaw01_Same.f k x7 bt276.1 false).bind fun t281 => (if t281 = true then ((cinnabarlaw01_awake.f k).bind fun t282 => (some t282)) else (some false))) else (some false))) else (none)) else (none)) else (none)) else (none)) else (none)) else (none)) else (none)) else (none)))
end
def cinnabarlaw01_TokensBlanks.f (k : Nat) (a0 : ByteArray) (a1 : Int) (a2 : Int) : Option (Bool) := (TkC.Tokens.f a0).bind fun bt258 => (if (a0.size : Int) > 400 then (cinnabarlaw01_TokensBlanks.j0 k a0 a1 a2 bt258.1 true) else (if bt258.2.2 = 0 then (cinnabarlaw01_TokensBlanks.j0 k a0 a1 a2 bt258.1 ((bt258.1.length : Int) == 0)) else (cinnabarlaw01_TokensBlanks.j0 k a0 a1 a2 bt258.1 true)))
theorem cinnabarlaw01_TokensBlanks.mono_l : ∀ k, (∀ y0 y1 y2 y3 y4, LeO (cinnabarlaw01_TokensBlanks.j0 k y0 y1 y2 y3 y4) (cinnabarlaw01_TokensBlanks.j0 (k + 1) y0 y1 y2 y3 y4)) ∧ (∀ y0 y1 y2 y3 y4, LeO (cinnabarlaw01_TokensBlanks.j1 k y0 y1 y2 y3 y4) (cinnabarlaw01_TokensBlanks.j1 (k + 1) y0 y1 y2 y3 y4))
  | 0 => ⟨fun _ _ _ _ _ r h => by simp [cinnabarlaw01_TokensBlanks.j0] at h, fun _ _ _ _ _ r h => by simp [cinnabarlaw01_TokensBlanks.j1] at h⟩
  | k + 1 => by
    obtain ⟨ih0, ih1⟩ := cinnabarlaw01_TokensBlanks.mono_l k
    refine ⟨?_, ?_⟩
    · intro y0 y1 y2 y3 y4
      unfold cinnabarlaw01_TokensBlanks.j0
      repeat' first
      | (with_reducible exact ih0 _ _ _ _ _)
      | (with_reducible exact ih1 _ _ _ _ _)
      | (with_reducible exact cinnabarlaw01_Same.mono _ _ _ _)
      | (with_reducible exact cinnabarlaw01_awake.mono _)
      | (with_reducible exact LeO.refl _)
      | (with_reducible exact LeO.none _)
      | (with_reducible refine LeO.ite ?_ ?_)
      | (with_reducible refine LeO.bind ?_ (fun _ => ?_))
      | exact ih0 _ _ _ _ _
      | exact ih1 _ _ _ _ _
      | exact cinnabarlaw01_Same.mono _ _ _ _
      | exact cinnabarlaw01_awake.mono _
      | exact LeO.none _
      | refine LeO.ite ?_ ?_
      | refine LeO.bind ?_ (fun _ => ?_)
    · intro y0 y1 y2 y3 y4
      unfold cinnabarlaw01_TokensBlanks.j1
      repeat' first
      | (with_reducible exact ih0 _ _ _ _ _)
      | (with_reducible exact ih1 _ _ _ _ _)
      | (with_reducible exact cinnabarlaw01_Same.mono _ _ _ _)
      | (with_reducible exact cinnabarlaw01_awake.mono _)
      | (with_reducible exact LeO.refl _)
      | (with_reducible exact LeO.none _)
      | (with_reducible refine LeO.ite ?_ ?_)
      | (with_reducible refine LeO.bind ?_ (fun _ => ?_))
      | exact ih0 _ _ _ _ _
      | exact ih1 _ _ _ _ _
      | exact cinnabarlaw01_Same.mono _ _ _ _
      | exact cinnabarlaw01_awake.mono _
      | exact LeO.none _
      | refine LeO.ite ?_ ?_
      | refine LeO.bind ?_ (fun _ => ?_)
theorem cinnabarlaw01_TokensBlanks.mono : ∀ a0 a1 a2 k, LeO (cinnabarlaw01_TokensBlanks.f k a0 a1 a2) (cinnabarlaw01_TokensBlanks.f (k + 1) a0 a1 a2) := by
  intro a0 a1 a2 k
  obtain ⟨ih0, ih1⟩ := cinnabarlaw01_TokensBlanks.mono_l k
  unfold cinnabarlaw01_TokensBlanks.f
  repeat' first
      | (with_reducible exact ih0 _ _ _ _ _)
      | (with_reducible exact ih1 _ _ _ _ _)
      | (with_reducible exact cinnabarlaw01_Same.mono _ _ _ _)
      | (with_reducible exact cinnabarlaw01_awake.mono _)
      | (with_reducible exact LeO.refl _)
      | (with_reducible exact LeO.none _)
      | (with_reducible refine LeO.ite ?_ ?_)
      | (with_reducible refine LeO.bind ?_ (fun _ => ?_))
      | exact ih0 _ _ _ _ _
      | exact ih1 _ _ _ _ _
      | exact cinnabarlaw01_Same.mono _ _ _ _
      | exact cinnabarlaw01_awake.mono _
      | exact LeO.none _
      | refine LeO.ite ?_ ?_
      | refine LeO.bind ?_ (fun _ => ?_)
def cinnabarlaw01_TokensBlanks.T8 : Bool × List (List Nat × List Nat) := (true, [([], []), ([], []), ([], []), ([1, 2], [1, 2]), ([3], [3]), ([4], [4]), ([0, 5], [0, 5]), ([], []), ([6, 7], [6, 7]), ([], []), ([], []), ([], []), ([10, 11], [10, 11]), ([12], [12]), ([13], [13]), ([9, 14], [9, 14]), ([8, 15], [8, 15]), ([16], [16]), ([17], [17]), ([18], [18]), ([18], [18]), ([19, 17, 0, 1, 2, 3, 4, 5, 6, 7, 8, 9, 10, 11, 12, 13, 14, 15, 16, 17, 18, 19], [19]), ([20, 21, 0, 1, 2, 3, 4, 5, 6, 7, 8, 9, 10, 11, 12, 13, 14, 15, 16, 17, 18, 19, 20, 21], [20])])
def cinnabarlaw01_TokensBlanks.B8 : List Nat := [0, 0, 0, 6, 14, 30, 63, 0, 255, 0, 0, 0, 3072, 7168, 15360, 32256, 65535, 131071, 262143, 524287, 524287, 1048575, 4194303]
theorem cinnabarlaw01_TokensBlanks.tab8 : rtab .any (opsOf Tryz.f7 8) = cinnabarlaw01_TokensBlanks.T8 := by kernel_rfl
theorem cinnabarlaw01_TokensBlanks.bits8 : waitsOk cinnabarlaw01_TokensBlanks.T8.2 cinnabarlaw01_TokensBlanks.B8 = true := by kernel_rfl
set_option maxHeartbeats 8000000 in
set_option maxRecDepth 100000 in
theorem cinnabarlaw01_TokensBlanks.calls (k : Nat) (a0 : ByteArray) (a1 : Int) (a2 : Int) (r : Bool) (w : World) (hEnv : EnvW w) (h : cinnabarlaw01_TokensBlanks.f k a0 a1 a2 = some r) :
    Calls Tryz.prog 7 #[.string a0, .int .i64 a1, .int .i64 a2] w fun e w' => e = .returned (.bool r) ∧ Below w.heap.size w w' := by
  have hu26 := Tryz.underlying26
  have HB := Aside0.mk (Below.refl w.heap.size w)
  have H : ((TkC.Tokens.f a0).bind fun bt258 => (if (a0.size : Int) > 400 then (cinnabarlaw01_TokensBlanks.j0 k a0 a1 a2 bt258.1 true) else (if bt258.2.2 = 0 then (cinnabarlaw01_TokensBlanks.j0 k a0 a1 a2 bt258.1 ((bt258.1.length : Int) == 0)) else (cinnabarlaw01_TokensBlanks.j0 k a0 a1 a2 bt258.1 true)))) = some r := h
  clear h
  replace H := Option.bind_eq_some_iff.mp H
  obtain ⟨⟨t258, t261, t262⟩, A40, H⟩ := H
  replace H : (if (a0.size : Int) > 400 then (cinnabarlaw01_TokensBlanks.j0 k a0 a1 a2 t258 true) else (if t262 = 0 then (cinnabarlaw01_TokensBlanks.j0 k a0 a1 a2 t258 ((t258.length : Int) == 0)) else (cinnabarlaw01_TokensBlanks.j0 k a0 a1 a2 t258 true))) = some r := H
  have A4 := Aside0.mk A40
  clear A40
  have HC5 := Aside0.mk H
  clear H
  go_enter Tryz.func7, Tryz.ntmps7
  go_upto_region 2 with (first | ((with_reducible refine gate_callee (f := 10) rfl ?_); refine goesL_ (some 14) rfl rfl Tryz.func10 (by kernel_rfl) rfl #[.string a0] rfl (by (try simp only [List.map_toArray, List.map_cons, List.map_nil]); first | done | rfl | (simp only [List.length_drop, List.length_take]; rfl)) ?_; (with_reducible refine (TkC.Tokens.calls a0 t258 t261 t262 _ ?side1 A4.out).mono ?_); (case side1 => first | exact hEnv | exact EnvW.below hEnv (by repeat (first | (with_reducible first | exact HB.out | apply below_alloc | apply pw_below_drewN | apply below_drew1) | exact HB.out)) | exact hEnv.drewN _); rintro e w6 ⟨v259, rfl, ho0, hb⟩; refine ⟨_, rfl, ?_⟩; have n0_ := Aside0.mk (Kd.R_lower ho0 (below_size (by repeat (first | (with_reducible first | exact HB.out | apply below_alloc | apply pw_below_drewN | apply below_drew1) | exact HB.out)))); have n1_ := Aside0.mk (below_step (by repeat (first | (with_reducible first | exact HB.out | apply below_alloc | apply pw_below_drewN | apply below_drew1) | exact HB.out)) hb); clear HB; have HO260 := n0_; have HB := n1_; clear n0_ n1_; (try clear hb); (try clear hb2); (try clear hk); (try clear hi); (try clear ho0)) | ((with_reducible refine gate_dst (N := 8) rfl ?_); (try (refine gate_guard (by rfl) ?_; dsimp only)); refine box_event ?hg (N := 8) ?hd (cs := #[.int .i64 0, .int .i64 0]) (t := 26) ?hr ?_; (case hd => rfl); (case hg => rfl); (case hr => first | (go_simp; done) | (go_simp; rfl)); intro gb263 hg w7 hbox hb; have n0_ := Aside0.mk (Kd.R_below (by (with_reducible repeat (first | apply Kd.R_alloc | apply Kd.R_drewN | apply Kd.R_drew)); exact HO260.out) hb); have n1_ := Aside0.mk (below_step (by repeat (first | (with_reducible first | exact HB.out | apply below_alloc | apply pw_below_drewN | apply below_drew1) | exact HB.out)) hb); have n2_ := Aside0.mk (hbox); have n3_ := Aside0.mk ((by rw [hg]; exact (below_size (by repeat (first | (with_reducible first | exact HB.out | apply below_alloc | apply pw_below_drewN | apply below_drew1) | exact HB.out))) : w.heap.size ≤ gb263)); have n4_ := Aside0.mk ((by rw [hg]; exact (below_size (by repeat (first | (with_reducible first | exact HB.out | apply below_alloc | apply pw_below_drewN | apply below_drew1) | exact HB.out))) : w.heap.size ≤ gb263)); clear HO260; clear HB; have HO260 := n0_; have HB := n1_; have BK263 := n2_; have GW263 := n3_; have GE263 := n4_; clear n0_ n1_ n2_ n3_ n4_; clear hb hbox hg; have hcz8_0 : w7.cell? ⟨gb263, 0, none⟩ = some (.int .i64 0) := (blk_cell BK263.out 0).trans rfl; have hcz8_1 : w7.cell? ⟨gb263, 1, none⟩ = some (.int .i64 0) := (blk_cell BK263.out 1).trans rfl; have hfz8_0 := blk_frozen BK263.out 0; have hfz8_1 := blk_frozen BK263.out 1))
  (try simp only [Act.put, List.setIfInBounds_toArray, List.set_cons_zero, List.set_cons_succ])
  go_cut [29] (fun v29 wc => ∃ (kq : Nat) (x29_4 : Bool), v29 = .bool x29_4 ∧ Aside0 (cinnabarlaw01_TokensBlanks.j0 kq a0 a1 a2 t258 x29_4 = some r) ∧ Aside0 (kq ≤ k) ∧ Aside0 (Kd.R k35 35 wc w.heap.size (fun _ => True) v259 t258) ∧ Aside0 (wc.heap[gb263]? = some (.cells #[.int .i64 t261, .int .i64 t262] 26 (0, 0))) ∧ Aside0 (Below w.heap.size w wc))
  case first =>
    have H := HC5.out
    clear HC5
    by_cases c9 : (a0.size : Int) > 400
    · rw [if_pos c9] at H
      have c9b0 : decide (400 < (a0.size : Int)) = true := decide_eq_true c9
      have c9b1 : decide (400 < a0.size) = true := decide_eq_true (by omega)
      clear c9
      (first | rw [c9b0] | (simp only [i64_w, i32_w]; rw [c9b0]) | skip)
      have H' := Aside0.mk H
      clear H
      go_wp2
      go_meet
      case rel => exact ⟨_, (true), (by first | rfl | (simp; done) | (simp [*]; done) | (simp [show ∀ l : List UInt8, (l != []) = !l.isEmpty from fun l => by cases l <;> rfl]; done)), H', ⟨by first | omega | exact Nat.le_refl _⟩, ⟨by (with_reducible repeat (first | apply Kd.R_alloc | apply Kd.R_drewN | apply Kd.R_drew)); exact Kd.R_mono (Kd.R_far (p := ⟨gb263, 1, none⟩) (Kd.R_far (p := ⟨gb263, 0, none⟩) (Kd.R_types HO260.out BK263.out (by decide)) (fun _ hk => hk.2) (.int .i64 t261)) (fun _ hk => hk.2) (.int .i64 t262)) (fun _ hk => trivial)⟩, ⟨by (with_reducible repeat (first | refine blk_drewN ?_ _ | refine blk_drew ?_ | refine blk_alloc ?_ _)); refine blk_put (cs := #[.int .i64 t261, .int .i64 0]) ?_ 1 _ rfl; (with_reducible repeat (first | refine blk_drewN ?_ _ | refine blk_drew ?_ | refine blk_alloc ?_ _)); refine blk_put (cs := #[.int .i64 0, .int .i64 0]) ?_ 0 _ rfl; (with_reducible repeat (first | refine blk_drewN ?_ _ | refine blk_drew ?_ | refine blk_alloc ?_ _)); exact BK263.out⟩, ⟨by repeat (first | (with_reducible first | exact HB.out | apply below_alloc | apply pw_below_drewN | apply below_drew1 | refine below_set ?_ GE263.out) | exact HB.out)⟩⟩
    · rw [if_neg c9] at H
      have c9b0 : decide (400 < (a0.size : Int)) = false := decide_eq_false c9
      have c9b1 : decide (400 < a0.size) = false := decide_eq_false (by omega)
      clear c9
      (first | rw [c9b0] | (simp only [i64_w, i32_w]; rw [c9b0]) | skip)
      by_cases c10 : t262 = 0
      · rw [if_pos c10] at H
        have c10b0 : (t262 == 0) = true := beq_iff_eq.mpr c10
        have c10b1 : (t262 != 0) = false := bne_eq_false_iff_eq.mpr c10
        clear c10
        have H' := Aside0.mk H
        clear H
        have hcz11_0 : w7.cell? ⟨gb263, 0, none⟩ = some (.int .i64 0) := (blk_cell BK263.out 0).trans rfl
        have hcz11_1 : w7.cell? ⟨gb263, 1, none⟩ = some (.int .i64 0) := (blk_cell BK263.out 1).trans rfl
        have hfz11_0 := blk_frozen BK263.out 0
        have hfz11_1 := blk_frozen BK263.out 1
        obtain ⟨Ao12, co12, eo12⟩ := Kd.R_slice HO260.out
        subst eo12
        go_wp2
        go_meet
        case rel => exact ⟨_, (((t258.length : Int) == 0)), (by first | rfl | (simp; done) | (simp [*]; done) | (simp [show ∀ l : List UInt8, (l != []) = !l.isEmpty from fun l => by cases l <;> rfl]; done)), H', ⟨by first | omega | exact Nat.le_refl _⟩, ⟨by (with_reducible repeat (first | apply Kd.R_alloc | apply Kd.R_drewN | apply Kd.R_drew)); exact Kd.R_mono (Kd.R_far (p := ⟨gb263, 1, none⟩) (Kd.R_far (p := ⟨gb263, 0, none⟩) (Kd.R_types HO260.out BK263.out (by decide)) (fun _ hk => hk.2) (.int .i64 t261)) (fun _ hk => hk.2) (.int .i64 t262)) (fun _ hk => trivial)⟩, ⟨by (with_reducible repeat (first | refine blk_drewN ?_ _ | refine blk_drew ?_ | refine blk_alloc ?_ _)); refine blk_put (cs := #[.int .i64 t261, .int .i64 0]) ?_ 1 _ rfl; (with_reducible repeat (first | refine blk_drewN ?_ _ | refine blk_drew ?_ | refine blk_alloc ?_ _)); refine blk_put (cs := #[.int .i64 0, .int .i64 0]) ?_ 0 _ rfl; (with_reducible repeat (first | refine blk_drewN ?_ _ | refine blk_drew ?_ | refine blk_alloc ?_ _)); exact BK263.out⟩, ⟨by repeat (first | (with_reducible first | exact HB.out | apply below_alloc | apply pw_below_drewN | apply below_drew1 | refine below_set ?_ GE263.out) | exact HB.out)⟩⟩
      · rw [if_neg c10] at H
        have c10b0 : (t262 == 0) = false := beq_eq_false_iff_ne.mpr c10
        have c10b1 : (t262 != 0) = true := bne_iff_ne.mpr c10
        have H' := Aside0.mk H
        clear H
        have hcz13_0 : w7.cell? ⟨gb263, 0, none⟩ = some (.int .i64 0) := (blk_cell BK263.out 0).trans rfl
        have hcz13_1 : w7.cell? ⟨gb263, 1, none⟩ = some (.int .i64 0) := (blk_cell BK263.out 1).trans rfl
        have hfz13_0 := blk_frozen BK263.out 0
        have hfz13_1 := blk_frozen BK263.out 1
        go_wp2
        go_meet
        case rel => exact ⟨_, (true), (by first | rfl | (simp; done) | (simp [*]; done) | (simp [show ∀ l : List UInt8, (l != []) = !l.isEmpty from fun l => by cases l <;> rfl]; done)), H', ⟨by first | omega | exact Nat.le_refl _⟩, ⟨by (with_reducible repeat (first | apply Kd.R_alloc | apply Kd.R_drewN | apply Kd.R_drew)); exact Kd.R_mono (Kd.R_far (p := ⟨gb263, 1, none⟩) (Kd.R_far (p := ⟨gb263, 0, none⟩) (Kd.R_types HO260.out BK263.out (by decide)) (fun _ hk => hk.2) (.int .i64 t261)) (fun _ hk => hk.2) (.int .i64 t262)) (fun _ hk => trivial)⟩, ⟨by (with_reducible repeat (first | refine blk_drewN ?_ _ | refine blk_drew ?_ | refine blk_alloc ?_ _)); refine blk_put (cs := #[.int .i64 t261, .int .i64 0]) ?_ 1 _ rfl; (with_reducible repeat (first | refine blk_drewN ?_ _ | refine blk_drew ?_ | refine blk_alloc ?_ _)); refine blk_put (cs := #[.int .i64 0, .int .i64 0]) ?_ 0 _ rfl; (with_reducible repeat (first | refine blk_drewN ?_ _ | refine blk_drew ?_ | refine blk_alloc ?_ _)); exact BK263.out⟩, ⟨by repeat (first | (with_reducible first | exact HB.out | apply below_alloc | apply pw_below_drewN | apply below_drew1 | refine below_set ?_ GE263.out) | exact HB.out)⟩⟩
  case rest =>
    clear HC5
    try clear c1
    try clear p2
    try clear c7
    try clear c9
    try clear c9b0
    try clear c9b1
    try clear c10
    try clear c10b0
    try clear c10b1
    try clear hcz11_0
    try clear hcz11_1
    try clear hcz13_0
    try clear hcz13_1
    try clear hcz8_0
    try clear hcz8_1
    try clear hfz11_0
    try clear hfz11_1
    try clear hfz13_0
    try clear hfz13_1
    try clear hfz8_0
    try clear hfz8_1
    obtain ⟨kq, x29_4, rfl, HA, HJ4, HO_7, BK263, HB⟩ := hcut
    cases kq with
    | zero => exact absurd HA.out (by simp [cinnabarlaw01_TokensBlanks.j0])
    | succ kj4 =>
      have H := HA.out
      clear HA
      simp only [cinnabarlaw01_TokensBlanks.j0] at H
      by_cases c14 : x29_4 = true
      · subst c14
        have H1 : ((cinnabarlaw01_awake.f kj4).bind fun t264 => (some t264)) = some r := by rw [if_pos rfl] at H; exact H
        clear H
        have H := H1
        clear H1
        replace H := Option.bind_eq_some_iff.mp H
        obtain ⟨t264, A150, H⟩ := H
        replace H : (some t264) = some r := H
        have A15 := Aside0.mk A150
        clear A150
        obtain rfl := Option.some.inj H
        go_wp2_with (first | ((with_reducible refine gate_callee (f := 9) rfl ?_); refine goesL_ (some 30) rfl rfl Tryz.func9 (by kernel_rfl) rfl #[] rfl (by (try simp only [List.map_toArray, List.map_cons, List.map_nil]); first | done | rfl | (simp only [List.length_drop, List.length_take]; rfl)) ?_; (with_reducible refine (cinnabarlaw01_awake.calls kj4  t264 _ ?side1 A15.out).mono ?_); (case side1 => first | exact hEnv | exact EnvW.below hEnv (by repeat (first | (with_reducible first | exact HB.out | apply below_alloc | apply pw_below_drewN | apply below_drew1 | refine below_set ?_ GE263.out) | exact HB.out)) | exact hEnv.drewN _); rintro e w16 ⟨rfl, hb⟩; refine ⟨_, rfl, ?_⟩; have n0_ := Aside0.mk (Kd.R_below (by (with_reducible repeat (first | apply Kd.R_alloc | apply Kd.R_drewN | apply Kd.R_drew)); exact HO_7.out) hb); have n1_ := Aside0.mk (blk_below (g := gb263) (o := .cells #[.int .i64 t261, .int .i64 t262] 26 (0, 0)) (by (with_reducible repeat (first | refine blk_drewN ?_ _ | refine blk_drew ?_ | refine blk_alloc ?_ _)); exact BK263.out) hb); have n2_ := Aside0.mk (below_step (by repeat (first | (with_reducible first | exact HB.out | apply below_alloc | apply pw_below_drewN | apply below_drew1 | refine below_set ?_ GE263.out) | exact HB.out)) hb); clear HO_7; clear BK263; clear HB; have HO_7 := n0_; have BK263 := n1_; have HB := n2_; clear n0_ n1_ n2_; (try clear hb); (try clear hb2); (try clear hk); (try clear hi)))
        go_ret
        exact ⟨by first | rfl | (simp [errW_none, errW_some] <;> rfl) | (simp [*, errW_none, errW_some] <;> rfl), by repeat (first | (with_reducible first | exact HB.out | apply below_alloc | apply pw_below_drewN | apply below_drew1 | refine below_set ?_ GE263.out) | exact HB.out)⟩
      · as_aux_lemma =>
          replace c14 := Bool.eq_false_iff.mpr c14
          subst c14
          have H1 : (if (IntKind.u64.wrap ((t258.length : Int))) = 0 then (none) else (if 0 ≤ (wrap64 (Int.tmod (IntKind.u64.wrap (a1)) (IntKind.u64.wrap ((t258.length : Int))))) then (if (wrap64 (Int.tmod (IntKind.u64.wrap (a1)) (IntKind.u64.wrap ((t258.length : Int))))) < (t258.length : Int) then (if ((rd_T35 t258 (wrap64 (Int.tmod (IntKind.u64.wrap (a1)) (IntKind.u64.wrap ((t258.length : Int)))))).f0) = 0 then (cinnabarlaw01_TokensBlanks.j1 kj4 a0 a2 t258 (wrap64 (Int.tmod (IntKind.u64.wrap (a1)) (IntKind.u64.wrap ((t258.length : Int))))) true) else (if ((rd_T35 t258 (wrap64 (Int.tmod (IntKind.u64.wrap (a1)) (IntKind.u64.wrap ((t258.length : Int)))))).f1).toList = ([40, 40] : List UInt8) then (cinnabarlaw01_TokensBlanks.j1 kj4 a0 a2 t258 (wrap64 (Int.tmod (IntKind.u64.wrap (a1)) (IntKind.u64.wrap ((t258.length : Int))))) true) else (if (wrap64 (Int.tmod (IntKind.u64.wrap (a1)) (IntKind.u64.wrap ((t258.length : Int))))) > 0 then (if 0 ≤ (wrap64 ((wrap64 (Int.tmod (IntKind.u64.wrap (a1)) (IntKind.u64.wrap ((t258.length : Int))))) - 1)) then (if (wrap64 ((wrap64 (Int.tmod (IntKind.u64.wrap (a1)) (IntKind.u64.wrap ((t258.length : Int))))) - 1)) < (t258.length : Int) then (if ((rd_T35 t258 (wrap64 ((wrap64 (Int.tmod (IntKind.u64.wrap (a1)) (IntKind.u64.wrap ((t258.length : Int))))) - 1))).f1).toList = ([33, 46] : List UInt8) then (cinnabarlaw01_TokensBlanks.j1 kj4 a0 a2 t258 (wrap64 (Int.tmod (IntKind.u64.wrap (a1)) (IntKind.u64.wrap ((t258.length : Int))))) true) else (cinnabarlaw01_TokensBlanks.j1 kj4 a0 a2 t258 (wrap64 (Int.tmod (IntKind.u64.wrap (a1)) (IntKind.u64.wrap ((t258.length : Int))))) (((rd_T35 t258 (wrap64 ((wrap64 (Int.tmod (IntKind.u64.wrap (a1)) (IntKind.u64.wrap ((t258.length : Int))))) - 1))).f1).toList == ([33, 58] : List UInt8)))) else (none)) else (none)) else (cinnabarlaw01_TokensBlanks.j1 kj4 a0 a2 t258 (wrap64 (Int.tmod (IntKind.u64.wrap (a1)) (IntKind.u64.wrap ((t258.length : Int))))) false)))) else (none)) else (none))) = some r := by rw [if_neg (show ¬ (false = true) by decide)] at H; exact H
          clear H
          have H := H1
          clear H1
          by_cases c17 : (IntKind.u64.wrap ((t258.length : Int))) = 0
          · rw [if_pos c17] at H
            exact absurd H (by simp)
          · as_aux_lemma =>
              rw [if_neg c17] at H
              have c17b0 : ((IntKind.u64.wrap ((t258.length : Int))) == 0) = false := beq_eq_false_iff_ne.mpr c17
              have c17b1 : ((IntKind.u64.wrap ((t258.length : Int))) != 0) = true := bne_iff_ne.mpr c17
              have HC18 := Aside0.mk H
              clear H
              obtain ⟨Ao19, co19, eo19⟩ := Kd.R_slice HO_7.out
              subst eo19
              go_upto_region 5 with (fail)
              go_cut [73] (fun v73 wc => ∃ (kq : Nat) (x73_17 : Bool), v73 = .bool x73_17 ∧ Aside0 (cinnabarlaw01_TokensBlanks.j1 kq a0 a2 t258 (wrap64 (Int.tmod (IntKind.u64.wrap (a1)) (IntKind.u64.wrap ((t258.length : Int))))) x73_17 = some r) ∧ Aside0 (kq ≤ kj4) ∧ Aside0 (Kd.R k35 35 wc w.heap.size (fun _ => True) (.slice Ao19 t258.length co19) t258) ∧ Aside0 (wc.heap[gb263]? = some (.cells #[.int .i64 t261, .int .i64 t262] 26 (0, 0))) ∧ Aside0 (Below w.heap.size w wc))
              case first =>
                have H := HC18.out
                clear HC18
                obtain ⟨ji20, hji20⟩ : ∃ j_ : Int, (wrap64 (Int.tmod (IntKind.u64.wrap (a1)) (IntKind.u64.wrap ((t258.length : Int))))) = j_ := ⟨_, rfl⟩
                replace H : (if 0 ≤ (ji20) then (if (ji20) < (t258.length : Int) then (if ((rd_T35 t258 (ji20)).f0) = 0 then (cinnabarlaw01_TokensBlanks.j1 kj4 a0 a2 t258 ji20 true) else (if ((rd_T35 t258 (ji20)).f1).toList = ([40, 40] : List UInt8) then (cinnabarlaw01_TokensBlanks.j1 kj4 a0 a2 t258 ji20 true) else (if (ji20) > 0 then (if 0 ≤ (wrap64 ((ji20) - 1)) then (if (wrap64 ((ji20) - 1)) < (t258.length : Int) then (if ((rd_T35 t258 (wrap64 ((ji20) - 1))).f1).toList = ([33, 46] : List UInt8) then (cinnabarlaw01_TokensBlanks.j1 kj4 a0 a2 t258 ji20 true) else (cinnabarlaw01_TokensBlanks.j1 kj4 a0 a2 t258 ji20 (((rd_T35 t258 (wrap64 ((ji20) - 1))).f1).toList == ([33, 58] : List UInt8)))) else (none)) else (none)) else (cinnabarlaw01_TokensBlanks.j1 kj4 a0 a2 t258 ji20 false)))) else (none)) else (none)) = some r := by first | (rw [hji20] at H; exact H) | (simp only [hji20] at H ⊢; exact H)
                have hji20w : (IntKind.i64.wrap (Int.tmod (IntKind.u64.wrap (a1)) (IntKind.u64.wrap ((t258.length : Int))))) = ji20 := (i64_w _).trans hji20
                by_cases c21 : 0 ≤ (ji20)
                · as_aux_lemma =>
                    rw [if_pos c21] at H
                    have c21b0 : decide (0 ≤ (ji20)) = true := decide_eq_true c21
                    clear c21
                    (first | rw [c21b0] | (simp only [i64_w, i32_w]; rw [c21b0]) | skip)
                    by_cases c22 : (ji20) < (t258.length : Int)
                    · as_aux_lemma =>
                        rw [if_pos c22] at H
                        have c22b0 : decide ((ji20) < (t258.length : Int)) = true := decide_eq_true c22
                        clear c22
                        by_cases c23 : ((rd_T35 t258 (ji20)).f0) = 0
                        · rw [if_pos c23] at H
                          have c23b0 : (((rd_T35 t258 (ji20)).f0) == 0) = true := beq_iff_eq.mpr c23
                          have c23b1 : (((rd_T35 t258 (ji20)).f0) != 0) = false := bne_eq_false_iff_eq.mpr c23
                          clear c23
                          have H' := Aside0.mk H
                          clear H
                          have p265 : 0 ≤ ((ji20) : Int) := of_decide_eq_true (by first | (with_reducible assumption) | assumption)
                          have q265 : (ji20) < (t258.length : Int) := of_decide_eq_true (by first | (with_reducible assumption) | assumption)
                          obtain ⟨ad265, e265, hx265_0, hx265_1, hx265_2⟩ := at_T35 (Kd.R_reads' HO_7.out).2.2 (ji20) p265 q265
                          cases e265
                          replace p265 := eq_true p265
                          replace q265 := eq_true q265
                          go_wp2
                          subst hji20
                          go_meet
                          case rel => exact ⟨_, (true), (by first | rfl | (simp; done) | (simp [*]; done) | (simp [show ∀ l : List UInt8, (l != []) = !l.isEmpty from fun l => by cases l <;> rfl]; done)), H', ⟨by have := HJ4.out; first | omega | exact Nat.le_refl _⟩, ⟨by (with_reducible repeat (first | apply Kd.R_alloc | apply Kd.R_drewN | apply Kd.R_drew)); exact HO_7.out⟩, ⟨by (with_reducible repeat (first | refine blk_drewN ?_ _ | refine blk_drew ?_ | refine blk_alloc ?_ _)); exact BK263.out⟩, ⟨by repeat (first | (with_reducible first | exact HB.out | apply below_alloc | apply pw_below_drewN | apply below_drew1 | refine below_set ?_ GE263.out) | exact HB.out)⟩⟩
                        · as_aux_lemma =>
                            rw [if_neg c23] at H
                            have c23b0 : (((rd_T35 t258 (ji20)).f0) == 0) = false := beq_eq_false_iff_ne.mpr c23
                            have c23b1 : (((rd_T35 t258 (ji20)).f0) != 0) = true := bne_iff_ne.mpr c23
                            by_cases c24 : ((rd_T35 t258 (ji20)).f1).toList = ([40, 40] : List UInt8)
                            · rw [if_pos c24] at H
                              have c24b0 : (((rd_T35 t258 (ji20)).f1).toList == ([40, 40] : List UInt8)) = true := beq_iff_eq.mpr c24
                              have c24b1 : (((rd_T35 t258 (ji20)).f1).toList != ([40, 40] : List UInt8)) = false := bne_eq_false_iff_eq.mpr c24
                              clear c24
                              have H' := Aside0.mk H
                              clear H
                              have p265 : 0 ≤ ((ji20) : Int) := of_decide_eq_true (by first | (with_reducible assumption) | assumption)
                              have q265 : (ji20) < (t258.length : Int) := of_decide_eq_true (by first | (with_reducible assumption) | assumption)
                              obtain ⟨ad265, e265, hx265_0, hx265_1, hx265_2⟩ := at_T35 (Kd.R_reads' HO_7.out).2.2 (ji20) p265 q265
                              cases e265
                              replace p265 := eq_true p265
                              replace q265 := eq_true q265
                              have p266 : 0 ≤ ((ji20) : Int) := of_decide_eq_true (by first | (with_reducible assumption) | assumption)
                              have q266 : (ji20) < (t258.length : Int) := of_decide_eq_true (by first | (with_reducible assumption) | assumption)
                              obtain ⟨ad266, e266, hx266_0, hx266_1, hx266_2⟩ := at_T35 (Kd.R_reads' HO_7.out).2.2 (ji20) p266 q266
                              obtain rfl : ad265 = ad266 := (by injection e266)
                              replace p266 := eq_true p266
                              replace q266 := eq_true q266
                              go_wp2
                              subst hji20
                              go_meet
                              case rel => exact ⟨_, (true), (by first | rfl | (simp; done) | (simp [*]; done) | (simp [show ∀ l : List UInt8, (l != []) = !l.isEmpty from fun l => by cases l <;> rfl]; done)), H', ⟨by have := HJ4.out; first | omega | exact Nat.le_refl _⟩, ⟨by (with_reducible repeat (first | apply Kd.R_alloc | apply Kd.R_drewN | apply Kd.R_drew)); exact HO_7.out⟩, ⟨by (with_reducible repeat (first | refine blk_drewN ?_ _ | refine blk_drew ?_ | refine blk_alloc ?_ _)); exact BK263.out⟩, ⟨by repeat (first | (with_reducible first | exact HB.out | apply below_alloc | apply pw_below_drewN | apply below_drew1 | refine below_set ?_ GE263.out) | exact HB.out)⟩⟩
                            · as_aux_lemma =>
                                rw [if_neg c24] at H
                                have c24b0 : (((rd_T35 t258 (ji20)).f1).toList == ([40, 40] : List UInt8)) = false := beq_eq_false_iff_ne.mpr c24
                                have c24b1 : (((rd_T35 t258 (ji20)).f1).toList != ([40, 40] : List UInt8)) = true := bne_iff_ne.mpr c24
                                by_cases c25 : (ji20) > 0
                                · as_aux_lemma =>
                                    rw [if_pos c25] at H
                                    have c25b0 : decide (0 < (ji20)) = true := decide_eq_true c25
                                    clear c25
                                    obtain ⟨ji26, hji26⟩ : ∃ j_ : Int, (wrap64 ((ji20) - 1)) = j_ := ⟨_, rfl⟩
                                    replace H : (if 0 ≤ (ji26) then (if (ji26) < (t258.length : Int) then (if ((rd_T35 t258 (ji26)).f1).toList = ([33, 46] : List UInt8) then (cinnabarlaw01_TokensBlanks.j1 kj4 a0 a2 t258 ji20 true) else (cinnabarlaw01_TokensBlanks.j1 kj4 a0 a2 t258 ji20 (((rd_T35 t258 (ji26)).f1).toList == ([33, 58] : List UInt8)))) else (none)) else (none)) = some r := by first | (rw [hji26] at H; exact H) | (simp only [hji26] at H ⊢; exact H)
                                    have hji26w : (IntKind.i64.wrap ((ji20) - 1)) = ji26 := (i64_w _).trans hji26
                                    by_cases c27 : 0 ≤ (ji26)
                                    · as_aux_lemma =>
                                        rw [if_pos c27] at H
                                        have c27b0 : decide (0 ≤ (ji26)) = true := decide_eq_true c27
                                        clear c27
                                        by_cases c28 : (ji26) < (t258.length : Int)
                                        · as_aux_lemma =>
                                            rw [if_pos c28] at H
                                            have c28b0 : decide ((ji26) < (t258.length : Int)) = true := decide_eq_true c28
                                            clear c28
                                            by_cases c29 : ((rd_T35 t258 (ji26)).f1).toList = ([33, 46] : List UInt8)
                                            · rw [if_pos c29] at H
                                              have c29b0 : (((rd_T35 t258 (ji26)).f1).toList == ([33, 46] : List UInt8)) = true := beq_iff_eq.mpr c29
                                              have c29b1 : (((rd_T35 t258 (ji26)).f1).toList != ([33, 46] : List UInt8)) = false := bne_eq_false_iff_eq.mpr c29
                                              clear c29
                                              have H' := Aside0.mk H
                                              clear H
                                              have p265 : 0 ≤ ((ji20) : Int) := of_decide_eq_true (by first | (with_reducible assumption) | assumption)
                                              have q265 : (ji20) < (t258.length : Int) := of_decide_eq_true (by first | (with_reducible assumption) | assumption)
                                              obtain ⟨ad265, e265, hx265_0, hx265_1, hx265_2⟩ := at_T35 (Kd.R_reads' HO_7.out).2.2 (ji20) p265 q265
                                              cases e265
                                              replace p265 := eq_true p265
                                              replace q265 := eq_true q265
                                              have p266 : 0 ≤ ((ji20) : Int) := of_decide_eq_true (by first | (with_reducible assumption) | assumption)
                                              have q266 : (ji20) < (t258.length : Int) := of_decide_eq_true (by first | (with_reducible assumption) | assumption)
                                              obtain ⟨ad266, e266, hx266_0, hx266_1, hx266_2⟩ := at_T35 (Kd.R_reads' HO_7.out).2.2 (ji20) p266 q266
                                              obtain rfl : ad265 = ad266 := (by injection e266)
                                              replace p266 := eq_true p266
                                              replace q266 := eq_true q266
                                              have p267 : 0 ≤ ((ji26) : Int) := of_decide_eq_true (by first | (with_reducible assumption) | assumption)
                                              have q267 : (ji26) < (t258.length : Int) := of_decide_eq_true (by first | (with_reducible assumption) | assumption)
                                              obtain ⟨ad267, e267, hx267_0, hx267_1, hx267_2⟩ := at_T35 (Kd.R_reads' HO_7.out).2.2 (ji26) p267 q267
                                              obtain rfl : ad265 = ad267 := (by injection e267)
                                              replace p267 := eq_true p267
                                              replace q267 := eq_true q267
                                              go_wp2
                                              subst hji20
                                              go_meet
                                              case rel => exact ⟨_, (true), (by first | rfl | (simp; done) | (simp [*]; done) | (simp [show ∀ l : List UInt8, (l != []) = !l.isEmpty from fun l => by cases l <;> rfl]; done)), H', ⟨by have := HJ4.out; first | omega | exact Nat.le_refl _⟩, ⟨by (with_reducible repeat (first | apply Kd.R_alloc | apply Kd.R_drewN | apply Kd.R_drew)); exact HO_7.out⟩, ⟨by (with_reducible repeat (first | refine blk_drewN ?_ _ | refine blk_drew ?_ | refine blk_alloc ?_ _)); exact BK263.out⟩, ⟨by repeat (first | (with_reducible first | exact HB.out | apply below_alloc | apply pw_below_drewN | apply below_drew1 | refine below_set ?_ GE263.out) | exact HB.out)⟩⟩
                                            · rw [if_neg c29] at H
                                              have c29b0 : (((rd_T35 t258 (ji26)).f1).toList == ([33, 46] : List UInt8)) = false := beq_eq_false_iff_ne.mpr c29
                                              have c29b1 : (((rd_T35 t258 (ji26)).f1).toList != ([33, 46] : List UInt8)) = true := bne_iff_ne.mpr c29
                                              have H' := Aside0.mk H
                                              clear H
                                              have p265 : 0 ≤ ((ji20) : Int) := of_decide_eq_true (by first | (with_reducible assumption) | assumption)
                                              have q265 : (ji20) < (t258.length : Int) := of_decide_eq_true (by first | (with_reducible assumption) | assumption)
                                              obtain ⟨ad265, e265, hx265_0, hx265_1, hx265_2⟩ := at_T35 (Kd.R_reads' HO_7.out).2.2 (ji20) p265 q265
                                              cases e265
                                              replace p265 := eq_true p265
                                              replace q265 := eq_true q265
                                              have p266 : 0 ≤ ((ji20) : Int) := of_decide_eq_true (by first | (with_reducible assumption) | assumption)
                                              have q266 : (ji20) < (t258.length : Int) := of_decide_eq_true (by first | (with_reducible assumption) | assumption)
                                              obtain ⟨ad266, e266, hx266_0, hx266_1, hx266_2⟩ := at_T35 (Kd.R_reads' HO_7.out).2.2 (ji20) p266 q266
                                              obtain rfl : ad265 = ad266 := (by injection e266)
                                              replace p266 := eq_true p266
                                              replace q266 := eq_true q266
                                              have p267 : 0 ≤ ((ji26) : Int) := of_decide_eq_true (by first | (with_reducible assumption) | assumption)
                                              have q267 : (ji26) < (t258.length : Int) := of_decide_eq_true (by first | (with_reducible assumption) | assumption)
                                              obtain ⟨ad267, e267, hx267_0, hx267_1, hx267_2⟩ := at_T35 (Kd.R_reads' HO_7.out).2.2 (ji26) p267 q267
                                              obtain rfl : ad265 = ad267 := (by injection e267)
                                              replace p267 := eq_true p267
                                              replace q267 := eq_true q267
                                              have p268 : 0 ≤ ((ji26) : Int) := of_decide_eq_true (by first | (with_reducible assumption) | assumption)
                                              have q268 : (ji26) < (t258.length : Int) := of_decide_eq_true (by first | (with_reducible assumption) | assumption)
                                              obtain ⟨ad268, e268, hx268_0, hx268_1, hx268_2⟩ := at_T35 (Kd.R_reads' HO_7.out).2.2 (ji26) p268 q268
                                              obtain rfl : ad265 = ad268 := (by injection e268)
                                              replace p268 := eq_true p268
                                              replace q268 := eq_true q268
                                              go_wp2
                                              subst hji20
                                              go_meet
                                              case rel => exact ⟨_, ((((rd_T35 t258 (ji26)).f1).toList == ([33, 58] : List UInt8))), (by first | rfl | (simp; done) | (simp only [← hji26] <;> (first | rfl | simp)) | (simp [*]; done)), H', ⟨by have := HJ4.out; first | omega | exact Nat.le_refl _⟩, ⟨by (with_reducible repeat (first | apply Kd.R_alloc | apply Kd.R_drewN | apply Kd.R_drew)); exact HO_7.out⟩, ⟨by (with_reducible repeat (first | refine blk_drewN ?_ _ | refine blk_drew ?_ | refine blk_alloc ?_ _)); exact BK263.out⟩, ⟨by repeat (first | (with_reducible first | exact HB.out | apply below_alloc | apply pw_below_drewN | apply below_drew1 | refine below_set ?_ GE263.out) | exact HB.out)⟩⟩
                                        · rw [if_neg c28] at H
                                          exact absurd H (by simp)
                                    · rw [if_neg c27] at H
                                      exact absurd H (by simp)
                                · rw [if_neg c25] at H
                                  have c25b0 : decide (0 < (ji20)) = false := decide_eq_false c25
                                  clear c25
                                  have H' := Aside0.mk H
                                  clear H
                                  have p265 : 0 ≤ ((ji20) : Int) := of_decide_eq_true (by first | (with_reducible assumption) | assumption)
                                  have q265 : (ji20) < (t258.length : Int) := of_decide_eq_true (by first | (with_reducible assumption) | assumption)
                                  obtain ⟨ad265, e265, hx265_0, hx265_1, hx265_2⟩ := at_T35 (Kd.R_reads' HO_7.out).2.2 (ji20) p265 q265
                                  cases e265
                                  replace p265 := eq_true p265
                                  replace q265 := eq_true q265
                                  have p266 : 0 ≤ ((ji20) : Int) := of_decide_eq_true (by first | (with_reducible assumption) | assumption)
                                  have q266 : (ji20) < (t258.length : Int) := of_decide_eq_true (by first | (with_reducible assumption) | assumption)
                                  obtain ⟨ad266, e266, hx266_0, hx266_1, hx266_2⟩ := at_T35 (Kd.R_reads' HO_7.out).2.2 (ji20) p266 q266
                                  obtain rfl : ad265 = ad266 := (by injection e266)
                                  replace p266 := eq_true p266
                                  replace q266 := eq_true q266
                                  go_wp2
                                  subst hji20
                                  go_meet
                                  case rel => exact ⟨_, (false), (by first | rfl | (simp; done) | (simp [*]; done) | (simp [show ∀ l : List UInt8, (l != []) = !l.isEmpty from fun l => by cases l <;> rfl]; done)), H', ⟨by have := HJ4.out; first | omega | exact Nat.le_refl _⟩, ⟨by (with_reducible repeat (first | apply Kd.R_alloc | apply Kd.R_drewN | apply Kd.R_drew)); exact HO_7.out⟩, ⟨by (with_reducible repeat (first | refine blk_drewN ?_ _ | refine blk_drew ?_ | refine blk_alloc ?_ _)); exact BK263.out⟩, ⟨by repeat (first | (with_reducible first | exact HB.out | apply below_alloc | apply pw_below_drewN | apply below_drew1 | refine below_set ?_ GE263.out) | exact HB.out)⟩⟩
                    · rw [if_neg c22] at H
                      exact absurd H (by simp)
                · rw [if_neg c21] at H
                  exact absurd H (by simp)
              case rest =>
                clear HC18
                try clear c1
                try clear c2
                try clear p2
                try clear q2
                try clear hx2
                try clear p6
                try clear c7
                try clear c9
                try clear c9b0
                try clear c9b1
                try clear c10
                try clear c10b0
                try clear c10b1
                try clear c14
                try clear c17
                try clear c17b0
                try clear c17b1
                try clear c21
                try clear c21b0
                try clear c22
                try clear c22b0
                try clear c23
                try clear c23b0
                try clear c23b1
                try clear c24
                try clear c24b0
                try clear c24b1
                try clear c25
                try clear c25b0
                try clear p26
                try clear q26
                try clear hx26
                try clear c27
                try clear c27b0
                try clear c28
                try clear c28b0
                try clear c29
                try clear c29b0
                try clear c29b1
                try clear hcz11_0
                try clear hcz11_1
                try clear hcz13_0
                try clear hcz13_1
                try clear hcz8_0
                try clear hcz8_1
                try clear hfz11_0
                try clear hfz11_1
                try clear hfz13_0
                try clear hfz13_1
                try clear hfz8_0
                try clear hfz8_1
                try clear hx265_0
                try clear hx265_1
                try clear hx265_2
                try clear hx266_0
                try clear hx266_1
                try clear hx266_2
                try clear hx267_0
                try clear hx267_1
                try clear hx267_2
                try clear hx268_0
                try clear hx268_1
                try clear hx268_2
                try clear p2
                try clear p265
                try clear p266
                try clear p267
                try clear p268
                try clear q265
                try clear q266
                try clear q267
                try clear q268
                obtain ⟨kq, x73_17, rfl, HA, HJ17, HO_7, BK263, HB⟩ := hcut
                cases kq with
                | zero => exact absurd HA.out (by simp [cinnabarlaw01_TokensBlanks.j1])
                | succ kj17 =>
                  have H := HA.out
                  clear HA
                  simp only [cinnabarlaw01_TokensBlanks.j1] at H
                  by_cases c30 : x73_17 = true
                  · subst c30
                    have H1 : ((cinnabarlaw01_awake.f kj17).bind fun t269 => (some t269)) = some r := by rw [if_pos rfl] at H; exact H
                    clear H
                    have H := H1
                    clear H1
                    replace H := Option.bind_eq_some_iff.mp H
                    obtain ⟨t269, A310, H⟩ := H
                    replace H : (some t269) = some r := H
                    have A31 := Aside0.mk A310
                    clear A310
                    obtain rfl := Option.some.inj H
                    go_wp2_with (first | ((with_reducible refine gate_callee (f := 9) rfl ?_); refine goesL_ (some 74) rfl rfl Tryz.func9 (by kernel_rfl) rfl #[] rfl (by (try simp only [List.map_toArray, List.map_cons, List.map_nil]); first | done | rfl | (simp only [List.length_drop, List.length_take]; rfl)) ?_; (with_reducible refine (cinnabarlaw01_awake.calls kj17  t269 _ ?side1 A31.out).mono ?_); (case side1 => first | exact hEnv | exact EnvW.below hEnv (by repeat (first | (with_reducible first | exact HB.out | apply below_alloc | apply pw_below_drewN | apply below_drew1 | refine below_set ?_ GE263.out) | exact HB.out)) | exact hEnv.drewN _); rintro e w32 ⟨rfl, hb⟩; refine ⟨_, rfl, ?_⟩; have n0_ := Aside0.mk (Kd.R_below (by (with_reducible repeat (first | apply Kd.R_alloc | apply Kd.R_drewN | apply Kd.R_drew)); exact HO_7.out) hb); have n1_ := Aside0.mk (blk_below (g := gb263) (o := .cells #[.int .i64 t261, .int .i64 t262] 26 (0, 0)) (by (with_reducible repeat (first | refine blk_drewN ?_ _ | refine blk_drew ?_ | refine blk_alloc ?_ _)); exact BK263.out) hb); have n2_ := Aside0.mk (below_step (by repeat (first | (with_reducible first | exact HB.out | apply below_alloc | apply pw_below_drewN | apply below_drew1 | refine below_set ?_ GE263.out) | exact HB.out)) hb); clear HO_7; clear BK263; clear HB; have HO_7 := n0_; have BK263 := n1_; have HB := n2_; clear n0_ n1_ n2_; (try clear hb); (try clear hb2); (try clear hk); (try clear hi)))
                    go_ret
                    exact ⟨by first | rfl | (simp [errW_none, errW_some] <;> rfl) | (simp [*, errW_none, errW_some] <;> rfl), by repeat (first | (with_reducible first | exact HB.out | apply below_alloc | apply pw_below_drewN | apply below_drew1 | refine below_set ?_ GE263.out) | exact HB.out)⟩
                  · as_aux_lemma =>
                      replace c30 := Bool.eq_false_iff.mpr c30
                      subst c30
                      have H1 : ((some (([(⟨#[32]⟩ : ByteArray), (⟨#[10, 9]⟩ : ByteArray), (⟨#[32, 47, 42, 32, 97, 32, 37, 32, 98, 32, 10, 32, 42, 47, 32]⟩ : ByteArray), (⟨#[32, 37, 32, 99, 32, 39, 100, 32, 10]⟩ : ByteArray)] : List ByteArray) : List ByteArray)).bind fun y270 => (if 0 ≤ (Int.tmod (IntKind.u64.wrap (a2)) 4) then (if (Int.tmod (IntKind.u64.wrap (a2)) 4) < (y270.length : Int) then (if 0 ≤ (wrap64 (Int.tmod (IntKind.u64.wrap (a1)) (IntKind.u64.wrap ((t258.length : Int))))) then (if (wrap64 (Int.tmod (IntKind.u64.wrap (a1)) (IntKind.u64.wrap ((t258.length : Int))))) < (t258.length : Int) then (if 0 ≤ ((rd_T35 t258 (wrap64 (Int.tmod (IntKind.u64.wrap (a1)) (IntKind.u64.wrap ((t258.length : Int)))))).f2) then (if ((rd_T35 t258 (wrap64 (Int.tmod (IntKind.u64.wrap (a1)) (IntKind.u64.wrap ((t258.length : Int)))))).f2) ≤ (a0.size : Int) then (if (a0.extract 0 (((rd_T35 t258 (wrap64 (Int.tmod (IntKind.u64.wrap (a1)) (IntKind.u64.wrap ((t258.length : Int)))))).f2) : Int).toNat).size + (rdOf ByteArray.empty y270 (Int.tmod (IntKind.u64.wrap (a2)) 4)).size ≤ 9223372036854775807 then (if ((a0.extract 0 (((rd_T35 t258 (wrap64 (Int.tmod (IntKind.u64.wrap (a1)) (IntKind.u64.wrap ((t258.length : Int)))))).f2) : Int).toNat) ++ (rdOf ByteArray.empty y270 (Int.tmod (IntKind.u64.wrap (a2)) 4))).size + (a0.extract (((rd_T35 t258 (wrap64 (Int.tmod (IntKind.u64.wrap (a1)) (IntKind.u64.wrap ((t258.length : Int)))))).f2) : Int).toNat a0.size).size ≤ 9223372036854775807 then ((TkC.Tokens.f (((a0.extract 0 (((rd_T35 t258 (wrap64 (Int.tmod (IntKind.u64.wrap (a1)) (IntKind.u64.wrap ((t258.length : Int)))))).f2) : Int).toNat) ++ (rdOf ByteArray.empty y270 (Int.tmod (IntKind.u64.wrap (a2)) 4))) ++ (a0.extract (((rd_T35 t258 (wrap64 (Int.tmod (IntKind.u64.wrap (a1)) (IntKind.u64.wrap ((t258.length : Int)))))).f2) : Int).toNat a0.size))).bind fun bt276 => (if bt276.2.2 = 0 then ((cinnabarlaw01_Same.f kj17 t258 bt276.1 false).bind fun t281 => (if t281 = true then ((cinnabarlaw01_awake.f kj17).bind fun t282 => (some t282)) else (some false))) else (some false))) else (none)) else (none)) else (none)) else (none)) else (none)) else (none)) else (none)) else (none))) = some r := by rw [if_neg (show ¬ (false = true) by decide)] at H; exact H
                      clear H
                      have H := H1
                      clear H1
                      obtain ⟨y270, hy270⟩ : ∃ y_ : List ByteArray, y_ = (([(⟨#[32]⟩ : ByteArray), (⟨#[10, 9]⟩ : ByteArray), (⟨#[32, 47, 42, 32, 97, 32, 37, 32, 98, 32, 10, 32, 42, 47, 32]⟩ : ByteArray), (⟨#[32, 37, 32, 99, 32, 39, 100, 32, 10]⟩ : ByteArray)] : List ByteArray)) := ⟨_, rfl⟩
                      replace H : (if 0 ≤ (Int.tmod (IntKind.u64.wrap (a2)) 4) then (if (Int.tmod (IntKind.u64.wrap (a2)) 4) < (y270.length : Int) then (if 0 ≤ (wrap64 (Int.tmod (IntKind.u64.wrap (a1)) (IntKind.u64.wrap ((t258.length : Int))))) then (if (wrap64 (Int.tmod (IntKind.u64.wrap (a1)) (IntKind.u64.wrap ((t258.length : Int))))) < (t258.length : Int) then (if 0 ≤ ((rd_T35 t258 (wrap64 (Int.tmod (IntKind.u64.wrap (a1)) (IntKind.u64.wrap ((t258.length : Int)))))).f2) then (if ((rd_T35 t258 (wrap64 (Int.tmod (IntKind.u64.wrap (a1)) (IntKind.u64.wrap ((t258.length : Int)))))).f2) ≤ (a0.size : Int) then (if (a0.extract 0 (((rd_T35 t258 (wrap64 (Int.tmod (IntKind.u64.wrap (a1)) (IntKind.u64.wrap ((t258.length : Int)))))).f2) : Int).toNat).size + (rdOf ByteArray.empty y270 (Int.tmod (IntKind.u64.wrap (a2)) 4)).size ≤ 9223372036854775807 then (if ((a0.extract 0 (((rd_T35 t258 (wrap64 (Int.tmod (IntKind.u64.wrap (a1)) (IntKind.u64.wrap ((t258.length : Int)))))).f2) : Int).toNat) ++ (rdOf ByteArray.empty y270 (Int.tmod (IntKind.u64.wrap (a2)) 4))).size + (a0.extract (((rd_T35 t258 (wrap64 (Int.tmod (IntKind.u64.wrap (a1)) (IntKind.u64.wrap ((t258.length : Int)))))).f2) : Int).toNat a0.size).size ≤ 9223372036854775807 then ((TkC.Tokens.f (((a0.extract 0 (((rd_T35 t258 (wrap64 (Int.tmod (IntKind.u64.wrap (a1)) (IntKind.u64.wrap ((t258.length : Int)))))).f2) : Int).toNat) ++ (rdOf ByteArray.empty y270 (Int.tmod (IntKind.u64.wrap (a2)) 4))) ++ (a0.extract (((rd_T35 t258 (wrap64 (Int.tmod (IntKind.u64.wrap (a1)) (IntKind.u64.wrap ((t258.length : Int)))))).f2) : Int).toNat a0.size))).bind fun bt276 => (if bt276.2.2 = 0 then ((cinnabarlaw01_Same.f kj17 t258 bt276.1 false).bind fun t281 => (if t281 = true then ((cinnabarlaw01_awake.f kj17).bind fun t282 => (some t282)) else (some false))) else (some false))) else (none)) else (none)) else (none)) else (none)) else (none)) else (none)) else (none)) else (none)) = some r := by first | (rw [hy270]; with_reducible exact H) | (have H2_ := (Option.bind_some _ _).symm.trans H; rw [hy270]; with_reducible exact H2_) | (have H2_ := (Option.bind_some _ _).symm.trans H; with_reducible exact H2_) | with_reducible exact H | (rw [hy270]; exact H) | exact H
                      have Ny270 := Aside0.mk hy270
                      clear hy270
                      obtain ⟨ji33, hji33⟩ : ∃ j_ : Int, (Int.tmod (IntKind.u64.wrap (a2)) 4) = j_ := ⟨_, rfl⟩
                      replace H : (if 0 ≤ (ji33) then (if (ji33) < (y270.length : Int) then (if 0 ≤ (wrap64 (Int.tmod (IntKind.u64.wrap (a1)) (IntKind.u64.wrap ((t258.length : Int))))) then (if (wrap64 (Int.tmod (IntKind.u64.wrap (a1)) (IntKind.u64.wrap ((t258.length : Int))))) < (t258.length : Int) then (if 0 ≤ ((rd_T35 t258 (wrap64 (Int.tmod (IntKind.u64.wrap (a1)) (IntKind.u64.wrap ((t258.length : Int)))))).f2) then (if ((rd_T35 t258 (wrap64 (Int.tmod (IntKind.u64.wrap (a1)) (IntKind.u64.wrap ((t258.length : Int)))))).f2) ≤ (a0.size : Int) then (if (a0.extract 0 (((rd_T35 t258 (wrap64 (Int.tmod (IntKind.u64.wrap (a1)) (IntKind.u64.wrap ((t258.length : Int)))))).f2) : Int).toNat).size + (rdOf ByteArray.empty y270 (ji33)).size ≤ 9223372036854775807 then (if ((a0.extract 0 (((rd_T35 t258 (wrap64 (Int.tmod (IntKind.u64.wrap (a1)) (IntKind.u64.wrap ((t258.length : Int)))))).f2) : Int).toNat) ++ (rdOf ByteArray.empty y270 (ji33))).size + (a0.extract (((rd_T35 t258 (wrap64 (Int.tmod (IntKind.u64.wrap (a1)) (IntKind.u64.wrap ((t258.length : Int)))))).f2) : Int).toNat a0.size).size ≤ 9223372036854775807 then ((TkC.Tokens.f (((a0.extract 0 (((rd_T35 t258 (wrap64 (Int.tmod (IntKind.u64.wrap (a1)) (IntKind.u64.wrap ((t258.length : Int)))))).f2) : Int).toNat) ++ (rdOf ByteArray.empty y270 (ji33))) ++ (a0.extract (((rd_T35 t258 (wrap64 (Int.tmod (IntKind.u64.wrap (a1)) (IntKind.u64.wrap ((t258.length : Int)))))).f2) : Int).toNat a0.size))).bind fun bt276 => (if bt276.2.2 = 0 then ((cinnabarlaw01_Same.f kj17 t258 bt276.1 false).bind fun t281 => (if t281 = true then ((cinnabarlaw01_awake.f kj17).bind fun t282 => (some t282)) else (some false))) else (some false))) else (none)) else (none)) else (none)) else (none)) else (none)) else (none)) else (none)) else (none)) = some r := by first | (rw [hji33] at H; exact H) | (simp only [hji33] at H ⊢; exact H)
                      by_cases c34 : 0 ≤ (ji33)
                      · as_aux_lemma =>
                          rw [if_pos c34] at H
                          have c34b0 : decide (0 ≤ (ji33)) = true := decide_eq_true c34
                          clear c34
                          by_cases c35 : (ji33) < (y270.length : Int)
                          · as_aux_lemma =>
                              rw [if_pos c35] at H
                              have c35b0 : decide ((ji33) < (y270.length : Int)) = true := decide_eq_true c35
                              clear c35
                              obtain ⟨ji36, hji36⟩ : ∃ j_ : Int, (wrap64 (Int.tmod (IntKind.u64.wrap (a1)) (IntKind.u64.wrap ((t258.length : Int))))) = j_ := ⟨_, rfl⟩
                              replace H : (if 0 ≤ (ji36) then (if (ji36) < (t258.length : Int) then (if 0 ≤ ((rd_T35 t258 (ji36)).f2) then (if ((rd_T35 t258 (ji36)).f2) ≤ (a0.size : Int) then (if (a0.extract 0 (((rd_T35 t258 (ji36)).f2) : Int).toNat).size + (rdOf ByteArray.empty y270 (ji33)).size ≤ 9223372036854775807 then (if ((a0.extract 0 (((rd_T35 t258 (ji36)).f2) : Int).toNat) ++ (rdOf ByteArray.empty y270 (ji33))).size + (a0.extract (((rd_T35 t258 (ji36)).f2) : Int).toNat a0.size).size ≤ 9223372036854775807 then ((TkC.Tokens.f (((a0.extract 0 (((rd_T35 t258 (ji36)).f2) : Int).toNat) ++ (rdOf ByteArray.empty y270 (ji33))) ++ (a0.extract (((rd_T35 t258 (ji36)).f2) : Int).toNat a0.size))).bind fun bt276 => (if bt276.2.2 = 0 then ((cinnabarlaw01_Same.f kj17 t258 bt276.1 false).bind fun t281 => (if t281 = true then ((cinnabarlaw01_awake.f kj17).bind fun t282 => (some t282)) else (some false))) else (some false))) else (none)) else (none)) else (none)) else (none)) else (none)) else (none)) = some r := by first | (rw [hji36] at H; exact H) | (simp only [hji36] at H ⊢; exact H)
                              have hji36w : (IntKind.i64.wrap (Int.tmod (IntKind.u64.wrap (a1)) (IntKind.u64.wrap ((t258.length : Int))))) = ji36 := (i64_w _).trans hji36
                              by_cases c37 : 0 ≤ (ji36)
                              · as_aux_lemma =>
                                  rw [if_pos c37] at H
                                  have c37b0 : decide (0 ≤ (ji36)) = true := decide_eq_true c37
                                  clear c37
                                  by_cases c38 : (ji36) < (t258.length : Int)
                                  · as_aux_lemma =>
                                      rw [if_pos c38] at H
                                      have c38b0 : decide ((ji36) < (t258.length : Int)) = true := decide_eq_true c38
                                      clear c38
                                      by_cases c39 : 0 ≤ ((rd_T35 t258 (ji36)).f2)
                                      · as_aux_lemma =>
                                          rw [if_pos c39] at H
                                          have c39b0 := eq_true c39
                                          have c39b1 : decide (0 ≤ ((rd_T35 t258 (ji36)).f2)) = true := decide_eq_true c39
                                          clear c39
                                          by_cases c40 : ((rd_T35 t258 (ji36)).f2) ≤ (a0.size : Int)
                                          · as_aux_lemma =>
                                              rw [if_pos c40] at H
                                              have c40b0 := eq_true c40
                                              have c40b1 : decide (((rd_T35 t258 (ji36)).f2) ≤ (a0.size : Int)) = true := decide_eq_true c40
                                              clear c40
                                              by_cases c41 : (a0.extract 0 (((rd_T35 t258 (ji36)).f2) : Int).toNat).size + (rdOf ByteArray.empty y270 (ji33)).size ≤ 9223372036854775807
                                              · as_aux_lemma =>
                                                  rw [if_pos c41] at H
                                                  have c41b0 := eq_true c41
                                                  have c41b1 : decide ((a0.extract 0 (((rd_T35 t258 (ji36)).f2) : Int).toNat).size + (rdOf ByteArray.empty y270 (ji33)).size ≤ 9223372036854775807) = true := decide_eq_true c41
                                                  try have c41b2 : (9223372036854775807 < (a0.extract 0 (((rd_T35 t258 (ji36)).f2) : Int).toNat).size + (rdOf ByteArray.empty y270 (ji33)).size) = False := eq_false (Nat.not_lt.2 c41)
                                                  have c42b0 := eq_true (of_decide_eq_true (by first | (with_reducible assumption) | assumption) : 0 ≤ ((rd_T35 t258 (ji36)).f2))
                                                  have c43b0 := eq_true (of_decide_eq_true (by first | (with_reducible assumption) | assumption) : ((rd_T35 t258 (ji36)).f2) ≤ (a0.size : Int))
                                                  by_cases c44 : ((a0.extract 0 (((rd_T35 t258 (ji36)).f2) : Int).toNat) ++ (rdOf ByteArray.empty y270 (ji33))).size + (a0.extract (((rd_T35 t258 (ji36)).f2) : Int).toNat a0.size).size ≤ 9223372036854775807
                                                  · as_aux_lemma =>
                                                      rw [if_pos c44] at H
                                                      have c44b0 := eq_true c44
                                                      have c44b1 : decide (((a0.extract 0 (((rd_T35 t258 (ji36)).f2) : Int).toNat) ++ (rdOf ByteArray.empty y270 (ji33))).size + (a0.extract (((rd_T35 t258 (ji36)).f2) : Int).toNat a0.size).size ≤ 9223372036854775807) = true := decide_eq_true c44
                                                      (try (have c44n := c44; simp only [ByteArray.size_append] at c44n; have c44n0 := eq_true c44n; have c44n1 := eq_false (Nat.not_lt.2 c44n)))
                                                      try have c44b2 : (9223372036854775807 < ((a0.extract 0 (((rd_T35 t258 (ji36)).f2) : Int).toNat) ++ (rdOf ByteArray.empty y270 (ji33))).size + (a0.extract (((rd_T35 t258 (ji36)).f2) : Int).toNat a0.size).size) = False := eq_false (Nat.not_lt.2 c44)
                                                      replace H := Option.bind_eq_some_iff.mp H
                                                      obtain ⟨⟨t276, t279, t280⟩, A450, H⟩ := H
                                                      replace H : (if t280 = 0 then ((cinnabarlaw01_Same.f kj17 t258 t276 false).bind fun t281 => (if t281 = true then ((cinnabarlaw01_awake.f kj17).bind fun t282 => (some t282)) else (some false))) else (some false)) = some r := H
                                                      have A45 := Aside0.mk A450
                                                      clear A450
                                                      by_cases c46 : t280 = 0
                                                      · as_aux_lemma =>
                                                          rw [if_pos c46] at H
                                                          have c46b0 : (t280 == 0) = true := beq_iff_eq.mpr c46
                                                          have c46b1 : (t280 != 0) = false := bne_eq_false_iff_eq.mpr c46
                                                          clear c46
                                                          replace H := Option.bind_eq_some_iff.mp H
                                                          obtain ⟨t281, A470, H⟩ := H
                                                          replace H : (if t281 = true then ((cinnabarlaw01_awake.f kj17).bind fun t282 => (some t282)) else (some false)) = some r := H
                                                          have A47 := Aside0.mk A470
                                                          clear A470
                                                          by_cases c48 : t281 = true
                                                          · as_aux_lemma =>
                                                              subst c48
                                                              have H1 : ((cinnabarlaw01_awake.f kj17).bind fun t282 => (some t282)) = some r := by rw [if_pos rfl] at H; exact H
                                                              clear H
                                                              have H := H1
                                                              clear H1
                                                              replace H := Option.bind_eq_some_iff.mp H
                                                              obtain ⟨t282, A490, H⟩ := H
                                                              replace H : (some t282) = some r := H
                                                              have A49 := Aside0.mk A490
                                                              clear A490
                                                              obtain rfl := Option.some.inj H
                                                              try go_wp2_with (first | ((with_reducible refine gate_dst (N := 75) rfl ?_); (try (refine gate_guard (by rfl) ?_; dsimp only)); refine Kd.R_lit Kd.string _ 9 ?hg (N := 75) ?hd (xs := ([(⟨#[32]⟩ : ByteArray), (⟨#[10, 9]⟩ : ByteArray), (⟨#[32, 47, 42, 32, 97, 32, 37, 32, 98, 32, 10, 32, 42, 47, 32]⟩ : ByteArray), (⟨#[32, 37, 32, 99, 32, 39, 100, 32, 10]⟩ : ByteArray)] : List ByteArray)) (inner := [.string (⟨#[32]⟩ : ByteArray), .string (⟨#[10, 9]⟩ : ByteArray), .string (⟨#[32, 47, 42, 32, 97, 32, 37, 32, 98, 32, 10, 32, 42, 47, 32]⟩ : ByteArray), .string (⟨#[32, 37, 32, 99, 32, 39, 100, 32, 10]⟩ : ByteArray)]) (ok := fun _ => True) (okp := fun _ => True) ?hr ?hp (fun _ hk => hk) trivial (Below.refl _ _) (Nat.le_refl _) (by simp) ?_; (case hd => rfl); (case hg => rfl); (case hr => first | (go_simp; done) | (go_simp; rfl)); (case hp => exact (Reps.one (show Kd.M Kd.string _ _ _ (⟨#[32]⟩ : ByteArray) [.string (⟨#[32]⟩ : ByteArray)] from rfl) (Reps.one (show Kd.M Kd.string _ _ _ (⟨#[10, 9]⟩ : ByteArray) [.string (⟨#[10, 9]⟩ : ByteArray)] from rfl) (Reps.one (show Kd.M Kd.string _ _ _ (⟨#[32, 47, 42, 32, 97, 32, 37, 32, 98, 32, 10, 32, 42, 47, 32]⟩ : ByteArray) [.string (⟨#[32, 47, 42, 32, 97, 32, 37, 32, 98, 32, 10, 32, 42, 47, 32]⟩ : ByteArray)] from rfl) (Reps.one (show Kd.M Kd.string _ _ _ (⟨#[32, 37, 32, 99, 32, 39, 100, 32, 10]⟩ : ByteArray) [.string (⟨#[32, 37, 32, 99, 32, 39, 100, 32, 10]⟩ : ByteArray)] from rfl) (Reps.none _ _)))))); intro v271 w50 ho51 hb hg_ hnew_; clear hg_ hnew_; (first | rw [← Ny270.out] at ho51 | (simp only [Int.reduceToNat] at ho51; rw [← Ny270.out] at ho51)); have n0_ := Aside0.mk (Kd.R_below (by (with_reducible repeat (first | apply Kd.R_alloc | apply Kd.R_drewN | apply Kd.R_drew)); exact HO_7.out) hb); have n1_ := Aside0.mk (Kd.R_lower ho51 (below_size (by repeat (first | (with_reducible first | exact HB.out | apply below_alloc | apply pw_below_drewN | apply below_drew1 | refine below_set ?_ GE263.out) | exact HB.out)))); have n2_ := Aside0.mk (blk_below (g := gb263) (o := .cells #[.int .i64 t261, .int .i64 t262] 26 (0, 0)) (by (with_reducible repeat (first | refine blk_drewN ?_ _ | refine blk_drew ?_ | refine blk_alloc ?_ _)); exact BK263.out) hb); have n3_ := Aside0.mk (below_step (by repeat (first | (with_reducible first | exact HB.out | apply below_alloc | apply pw_below_drewN | apply below_drew1 | refine below_set ?_ GE263.out) | exact HB.out)) hb); clear HO_7; clear BK263; clear HB; have HO_7 := n0_; have HO272 := n1_; have BK263 := n2_; have HB := n3_; clear n0_ n1_ n2_ n3_; clear hb ho51; obtain ⟨Ao52, co52, eo52⟩ := Kd.R_slice HO272.out; subst eo52; have p273 : 0 ≤ ((ji33) : Int) := of_decide_eq_true (by first | (with_reducible assumption) | assumption); have q273 : (ji33) < (y270.length : Int) := of_decide_eq_true (by first | (with_reducible assumption) | assumption); obtain ⟨ad273, e273, hx273_0⟩ := Kd.at_string (Kd.R_reads' HO272.out).2.2 (ji33) p273 q273; cases e273; replace p273 := eq_true p273; replace q273 := eq_true q273))
                                                              have n0_ := Aside0.mk (Kd.R_drew HO_7.out)
                                                              have n1_ := Aside0.mk (Kd.R_drew HO272.out)
                                                              have n2_ := Aside0.mk (blk_drew BK263.out)
                                                              have n3_ := Aside0.mk (below_drew1 HB.out)
                                                              clear HO_7
                                                              clear HO272
                                                              clear BK263
                                                              clear HB
                                                              have HO_7 := n0_
                                                              have HO272 := n1_
                                                              have BK263 := n2_
                                                              have HB := n3_
                                                              clear n0_ n1_ n2_ n3_
                                                              have p274 : 0 ≤ ((ji36) : Int) := of_decide_eq_true (by first | (with_reducible assumption) | assumption)
                                                              have q274 : (ji36) < (t258.length : Int) := of_decide_eq_true (by first | (with_reducible assumption) | assumption)
                                                              obtain ⟨ad274, e274, hx274_0, hx274_1, hx274_2⟩ := at_T35 (Kd.R_reads' HO_7.out).2.2 (ji36) p274 q274
                                                              cases e274
                                                              replace p274 := eq_true p274
                                                              replace q274 := eq_true q274
                                                              have p275 : 0 ≤ ((ji36) : Int) := of_decide_eq_true (by first | (with_reducible assumption) | assumption)
                                                              have q275 : (ji36) < (t258.length : Int) := of_decide_eq_true (by first | (with_reducible assumption) | assumption)
                                                              obtain ⟨ad275, e275, hx275_0, hx275_1, hx275_2⟩ := at_T35 (Kd.R_reads' HO_7.out).2.2 (ji36) p275 q275
                                                              obtain rfl : ad274 = ad275 := (by injection e275)
                                                              replace p275 := eq_true p275
                                                              replace q275 := eq_true q275
                                                              refine start_ (n := 23) (S := fun w' => w'.cell? (ad274.add (((ji36)).toNat * 3)) = some (.int .i64 ((rd_T35 t258 (ji36)).f0)) ∧ w'.cell? ⟨(ad274.add (((ji36)).toNat * 3)).block, (ad274.add (((ji36)).toNat * 3)).off + 1, none⟩ = some (.string ((rd_T35 t258 (ji36)).f1)) ∧ w'.cell? ⟨(ad274.add (((ji36)).toNat * 3)).block, (ad274.add (((ji36)).toNat * 3)).off + 2, none⟩ = some (.int .i64 ((rd_T35 t258 (ji36)).f2)) ∧ w'.cell? (ad274.add (((ji36)).toNat * 3)) = some (.int .i64 ((rd_T35 t258 (ji36)).f0)) ∧ w'.cell? ⟨(ad274.add (((ji36)).toNat * 3)).block, (ad274.add (((ji36)).toNat * 3)).off + 1, none⟩ = some (.string ((rd_T35 t258 (ji36)).f1)) ∧ w'.cell? ⟨(ad274.add (((ji36)).toNat * 3)).block, (ad274.add (((ji36)).toNat * 3)).off + 2, none⟩ = some (.int .i64 ((rd_T35 t258 (ji36)).f2))) (ds := []) #[false, false, false, false, false, false, false, false, false, false, false, false, false, false, false, false, false, false, false, false, false, false, false] (by kernel_rfl) rfl rfl ⟨hx274_0, hx274_1, hx274_2, hx275_0, hx275_1, hx275_2⟩ (fun hHeld => ?_); refine with_tabW cinnabarlaw01_TokensBlanks.tab8 cinnabarlaw01_TokensBlanks.bits8 (fun HT_ HW_ => ?_)
                                                              generalize w50.drew = w53 at HO_7 HO272 BK263 HB hx274_0 hx274_1 hx274_2 hx275_0 hx275_1 hx275_2 hHeld ⊢
                                                              refine pure_ (i := 0) (N := some 82) (v := ?_) (a' := ?_) #[true, false, false, false, false, false, false, false, false, false, false, false, false, false, false, false, false, false, false, false, false, false, false] rfl rfl (any_of HT_.out (by kernel_rfl)) (fun _ _ _ h => h) (Or.inl ⟨by rfl, ?_⟩) ?_ ?_
                                                              rotate_left
                                                              · intro w'
                                                                go_simp
                                                                first | with_reducible rfl | (rw [if_neg]; all_goals (first | with_reducible rfl | (have h := of_decide_eq_true c41b1; have h39 := of_decide_eq_true c39b1; have h40 := of_decide_eq_true c40b1; (try simp only [ByteArray.size_append, ByteArray.size_extract] at h); omega) | (have h := of_decide_eq_true c44b1; have h39 := of_decide_eq_true c39b1; have h40 := of_decide_eq_true c40b1; (try simp only [ByteArray.size_append, ByteArray.size_extract] at h); omega)))
                                                              rotate_left
                                                              · simp only [Act.put, List.setIfInBounds_toArray, List.set_cons_zero, List.set_cons_succ, i64_w, i32_w]
                                                                rfl
                                                              refine pure_ (i := 1) (N := some 83) (v := ?_) (a' := ?_) #[true, true, false, false, false, false, false, false, false, false, false, false, false, false, false, false, false, false, false, false, false, false, false] rfl rfl (any_of HT_.out (by kernel_rfl)) (fun _ _ _ h => h) (Or.inl ⟨by rfl, ?_⟩) ?_ ?_
                                                              rotate_left
                                                              · intro w'
                                                                go_simp
                                                                first | with_reducible rfl | (rw [if_neg]; all_goals (first | with_reducible rfl | (have h := of_decide_eq_true c41b1; have h39 := of_decide_eq_true c39b1; have h40 := of_decide_eq_true c40b1; (try simp only [ByteArray.size_append, ByteArray.size_extract] at h); omega) | (have h := of_decide_eq_true c44b1; have h39 := of_decide_eq_true c39b1; have h40 := of_decide_eq_true c40b1; (try simp only [ByteArray.size_append, ByteArray.size_extract] at h); omega)))
                                                              rotate_left
                                                              · simp only [Act.put, List.setIfInBounds_toArray, List.set_cons_zero, List.set_cons_succ, i64_w, i32_w]
                                                                rfl
                                                              refine pure_ (i := 2) (N := some 84) (v := ?_) (a' := ?_) #[true, true, true, false, false, false, false, false, false, false, false, false, false, false, false, false, false, false, false, false, false, false, false] rfl rfl (any_of HT_.out (by kernel_rfl)) (fun _ _ _ h => h) (Or.inl ⟨by rfl, ?_⟩) ?_ ?_
                                                              rotate_left
                                                              · intro w'
                                                                go_simp
                                                                first | with_reducible rfl | (rw [if_neg]; all_goals (first | with_reducible rfl | (have h := of_decide_eq_true c41b1; have h39 := of_decide_eq_true c39b1; have h40 := of_decide_eq_true c40b1; (try simp only [ByteArray.size_append, ByteArray.size_extract] at h); omega) | (have h := of_decide_eq_true c44b1; have h39 := of_decide_eq_true c39b1; have h40 := of_decide_eq_true c40b1; (try simp only [ByteArray.size_append, ByteArray.size_extract] at h); omega)))
                                                              rotate_left
                                                              · simp only [Act.put, List.setIfInBounds_toArray, List.set_cons_zero, List.set_cons_succ, i64_w, i32_w]
                                                                rfl
                                                              refine pure_ (i := 3) (N := some 85) (v := ?_) (a' := ?_) #[true, true, true, true, false, false, false, false, false, false, false, false, false, false, false, false, false, false, false, false, false, false, false] rfl rfl (any_of HT_.out (by kernel_rfl)) (fun _ _ _ h => h) (Or.inl ⟨by rfl, ?_⟩) ?_ ?_
                                                              rotate_left
                                                              · intro w'
                                                                go_simp
                                                                first | with_reducible rfl | (rw [if_neg]; all_goals (first | with_reducible rfl | (have h := of_decide_eq_true c41b1; have h39 := of_decide_eq_true c39b1; have h40 := of_decide_eq_true c40b1; (try simp only [ByteArray.size_append, ByteArray.size_extract] at h); omega) | (have h := of_decide_eq_true c44b1; have h39 := of_decide_eq_true c39b1; have h40 := of_decide_eq_true c40b1; (try simp only [ByteArray.size_append, ByteArray.size_extract] at h); omega)))
                                                              rotate_left
                                                              · simp only [Act.put, List.setIfInBounds_toArray, List.set_cons_zero, List.set_cons_succ, i64_w, i32_w]
                                                                rfl
                                                              refine pure_ (i := 4) (N := some 86) (v := ?_) (a' := ?_) #[true, true, true, true, true, false, false, false, false, false, false, false, false, false, false, false, false, false, false, false, false, false, false] rfl rfl (any_of HT_.out (by kernel_rfl)) (fun _ _ _ h => h) (Or.inl ⟨by rfl, ?_⟩) ?_ ?_
                                                              rotate_left
                                                              · intro w'
                                                                go_simp
                                                                first | with_reducible rfl | (rw [if_neg]; all_goals (first | with_reducible rfl | (have h := of_decide_eq_true c41b1; have h39 := of_decide_eq_true c39b1; have h40 := of_decide_eq_true c40b1; (try simp only [ByteArray.size_append, ByteArray.size_extract] at h); omega) | (have h := of_decide_eq_true c44b1; have h39 := of_decide_eq_true c39b1; have h40 := of_decide_eq_true c40b1; (try simp only [ByteArray.size_append, ByteArray.size_extract] at h); omega)))
                                                              rotate_left
                                                              · simp only [Act.put, List.setIfInBounds_toArray, List.set_cons_zero, List.set_cons_succ, i64_w, i32_w]
                                                                rfl
                                                              refine pure_ (i := 7) (N := some 89) (v := ?_) (a' := ?_) #[true, true, true, true, true, false, false, true, false, false, false, false, false, false, false, false, false, false, false, false, false, false, false] rfl rfl (any_of HT_.out (by kernel_rfl)) (fun _ _ _ h => h) (Or.inl ⟨by rfl, ?_⟩) ?_ ?_
                                                              rotate_left
                                                              · intro w'
                                                                go_simp
                                                                first | with_reducible rfl | (rw [if_neg]; all_goals (first | with_reducible rfl | (have h := of_decide_eq_true c41b1; have h39 := of_decide_eq_true c39b1; have h40 := of_decide_eq_true c40b1; (try simp only [ByteArray.size_append, ByteArray.size_extract] at h); omega) | (have h := of_decide_eq_true c44b1; have h39 := of_decide_eq_true c39b1; have h40 := of_decide_eq_true c40b1; (try simp only [ByteArray.size_append, ByteArray.size_extract] at h); omega)))
                                                              rotate_left
                                                              · simp only [Act.put, List.setIfInBounds_toArray, List.set_cons_zero, List.set_cons_succ, i64_w, i32_w]
                                                                rfl
                                                              refine pure_ (i := 9) (N := some 91) (v := ?_) (a' := ?_) #[true, true, true, true, true, false, false, true, false, true, false, false, false, false, false, false, false, false, false, false, false, false, false] rfl rfl (any_of HT_.out (by kernel_rfl)) (fun _ _ _ h => h) (Or.inl ⟨by rfl, ?_⟩) ?_ ?_
                                                              rotate_left
                                                              · intro w'
                                                                go_simp
                                                                first | with_reducible rfl | (rw [if_neg]; all_goals (first | with_reducible rfl | (have h := of_decide_eq_true c41b1; have h39 := of_decide_eq_true c39b1; have h40 := of_decide_eq_true c40b1; (try simp only [ByteArray.size_append, ByteArray.size_extract] at h); omega) | (have h := of_decide_eq_true c44b1; have h39 := of_decide_eq_true c39b1; have h40 := of_decide_eq_true c40b1; (try simp only [ByteArray.size_append, ByteArray.size_extract] at h); omega)))
                                                              rotate_left
                                                              · simp only [Act.put, List.setIfInBounds_toArray, List.set_cons_zero, List.set_cons_succ, i64_w, i32_w]
                                                                rfl
                                                              refine pure_ (i := 10) (N := some 92) (v := ?_) (a' := ?_) #[true, true, true, true, true, false, false, true, false, true, true, false, false, false, false, false, false, false, false, false, false, false, false] rfl rfl (any_of HT_.out (by kernel_rfl)) (fun _ _ _ h => h) (Or.inl ⟨by rfl, ?_⟩) ?_ ?_
                                                              rotate_left
                                                              · intro w'
                                                                go_simp
                                                                first | with_reducible rfl | (rw [if_neg]; all_goals (first | with_reducible rfl | (have h := of_decide_eq_true c41b1; have h39 := of_decide_eq_true c39b1; have h40 := of_decide_eq_true c40b1; (try simp only [ByteArray.size_append, ByteArray.size_extract] at h); omega) | (have h := of_decide_eq_true c44b1; have h39 := of_decide_eq_true c39b1; have h40 := of_decide_eq_true c40b1; (try simp only [ByteArray.size_append, ByteArray.size_extract] at h); omega)))
                                                              rotate_left
                                                              · simp only [Act.put, List.setIfInBounds_toArray, List.set_cons_zero, List.set_cons_succ, i64_w, i32_w]
                                                                rfl
                                                              refine pure_ (i := 11) (N := some 93) (v := ?_) (a' := ?_) #[true, true, true, true, true, false, false, true, false, true, true, true, false, false, false, false, false, false, false, false, false, false, false] rfl rfl (any_of HT_.out (by kernel_rfl)) (fun _ _ _ h => h) (Or.inl ⟨by rfl, ?_⟩) ?_ ?_
                                                              rotate_left
                                                              · intro w'
                                                                go_simp
                                                                first | with_reducible rfl | (rw [if_neg]; all_goals (first | with_reducible rfl | (have h := of_decide_eq_true c41b1; have h39 := of_decide_eq_true c39b1; have h40 := of_decide_eq_true c40b1; (try simp only [ByteArray.size_append, ByteArray.size_extract] at h); omega) | (have h := of_decide_eq_true c44b1; have h39 := of_decide_eq_true c39b1; have h40 := of_decide_eq_true c40b1; (try simp only [ByteArray.size_append, ByteArray.size_extract] at h); omega)))
                                                              rotate_left
                                                              · simp only [Act.put, List.setIfInBounds_toArray, List.set_cons_zero, List.set_cons_succ, i64_w, i32_w]
                                                                rfl
                                                              refine pure_ (i := 12) (N := some 94) (v := ?_) (a' := ?_) #[true, true, true, true, true, false, false, true, false, true, true, true, true, false, false, false, false, false, false, false, false, false, false] rfl rfl (any_of HT_.out (by kernel_rfl)) (fun _ _ _ h => h) (Or.inl ⟨by rfl, ?_⟩) ?_ ?_
                                                              rotate_left
                                                              · intro w'
                                                                go_simp
                                                                first | with_reducible rfl | (rw [if_neg]; all_goals (first | with_reducible rfl | (have h := of_decide_eq_true c41b1; have h39 := of_decide_eq_true c39b1; have h40 := of_decide_eq_true c40b1; (try simp only [ByteArray.size_append, ByteArray.size_extract] at h); omega) | (have h := of_decide_eq_true c44b1; have h39 := of_decide_eq_true c39b1; have h40 := of_decide_eq_true c40b1; (try simp only [ByteArray.size_append, ByteArray.size_extract] at h); omega)))
                                                              rotate_left
                                                              · simp only [Act.put, List.setIfInBounds_toArray, List.set_cons_zero, List.set_cons_succ, i64_w, i32_w]
                                                                rfl
                                                              refine pure_ (i := 13) (N := some 95) (v := ?_) (a' := ?_) #[true, true, true, true, true, false, false, true, false, true, true, true, true, true, false, false, false, false, false, false, false, false, false] rfl rfl (any_of HT_.out (by kernel_rfl)) (fun _ _ _ h => h) (Or.inl ⟨by rfl, ?_⟩) ?_ ?_
                                                              rotate_left
                                                              · intro w'
                                                                go_simp
                                                                first | with_reducible rfl | (rw [if_neg]; all_goals (first | with_reducible rfl | (have h := of_decide_eq_true c41b1; have h39 := of_decide_eq_true c39b1; have h40 := of_decide_eq_true c40b1; (try simp only [ByteArray.size_append, ByteArray.size_extract] at h); omega) | (have h := of_decide_eq_true c44b1; have h39 := of_decide_eq_true c39b1; have h40 := of_decide_eq_true c40b1; (try simp only [ByteArray.size_append, ByteArray.size_extract] at h); omega)))
                                                              rotate_left
                                                              · simp only [Act.put, List.setIfInBounds_toArray, List.set_cons_zero, List.set_cons_succ, i64_w, i32_w]
                                                                rfl
                                                              refine take_ (i := 5) (N := some 87) (v := ?_) (a' := ?_) #[true, true, true, true, true, true, false, true, false, true, true, true, true, true, false, false, false, false, false, false, false, false, false] rfl rfl (take_ofW HT_.out HW_.out (by kernel_rfl)) (fun _ _ _ h => h) (Or.inl ⟨by rfl, ?_⟩) hHeld ?_ ?_
                                                              rotate_left
                                                              · rintro w' ⟨s0, s1, s2, s3, s4, s5⟩
                                                                go_simp
                                                                first | with_reducible rfl | (rw [if_neg]; all_goals (first | with_reducible rfl | (have h := of_decide_eq_true c41b1; have h39 := of_decide_eq_true c39b1; have h40 := of_decide_eq_true c40b1; (try simp only [ByteArray.size_append, ByteArray.size_extract] at h); omega) | (have h := of_decide_eq_true c44b1; have h39 := of_decide_eq_true c39b1; have h40 := of_decide_eq_true c40b1; (try simp only [ByteArray.size_append, ByteArray.size_extract] at h); omega)))
                                                              rotate_left
                                                              · simp only [Act.put, List.setIfInBounds_toArray, List.set_cons_zero, List.set_cons_succ, i64_w, i32_w]
                                                                rfl
                                                              refine pure_ (i := 6) (N := some 88) (v := ?_) (a' := ?_) #[true, true, true, true, true, true, true, true, false, true, true, true, true, true, false, false, false, false, false, false, false, false, false] rfl rfl (any_of HT_.out (by kernel_rfl)) (fun _ _ _ h => h) (Or.inl ⟨by rfl, ?_⟩) ?_ ?_
                                                              rotate_left
                                                              · intro w'
                                                                go_simp
                                                                first | with_reducible rfl | (rw [if_neg]; all_goals (first | with_reducible rfl | (have h := of_decide_eq_true c41b1; have h39 := of_decide_eq_true c39b1; have h40 := of_decide_eq_true c40b1; (try simp only [ByteArray.size_append, ByteArray.size_extract] at h); omega) | (have h := of_decide_eq_true c44b1; have h39 := of_decide_eq_true c39b1; have h40 := of_decide_eq_true c40b1; (try simp only [ByteArray.size_append, ByteArray.size_extract] at h); omega)))
                                                              rotate_left
                                                              · simp only [Act.put, List.setIfInBounds_toArray, List.set_cons_zero, List.set_cons_succ, i64_w, i32_w]
                                                                rfl
                                                              refine pure_ (i := 8) (N := some 90) (v := ?_) (a' := ?_) #[true, true, true, true, true, true, true, true, true, true, true, true, true, true, false, false, false, false, false, false, false, false, false] rfl rfl (any_of HT_.out (by kernel_rfl)) (fun _ _ _ h => h) (Or.inl ⟨by rfl, ?_⟩) ?_ ?_
                                                              rotate_left
                                                              · intro w'
                                                                go_simp
                                                                first | with_reducible rfl | (rw [if_neg]; all_goals (first | with_reducible rfl | (have h := of_decide_eq_true c41b1; have h39 := of_decide_eq_true c39b1; have h40 := of_decide_eq_true c40b1; (try simp only [ByteArray.size_append, ByteArray.size_extract] at h); omega) | (have h := of_decide_eq_true c44b1; have h39 := of_decide_eq_true c39b1; have h40 := of_decide_eq_true c40b1; (try simp only [ByteArray.size_append, ByteArray.size_extract] at h); omega)))
                                                              rotate_left
                                                              · simp only [Act.put, List.setIfInBounds_toArray, List.set_cons_zero, List.set_cons_succ, i64_w, i32_w]
                                                                rfl
                                                              refine take_ (i := 14) (N := some 96) (v := ?_) (a' := ?_) #[true, true, true, true, true, true, true, true, true, true, true, true, true, true, true, false, false, false, false, false, false, false, false] rfl rfl (take_ofW HT_.out HW_.out (by kernel_rfl)) (fun _ _ _ h => h) (Or.inl ⟨by rfl, ?_⟩) hHeld ?_ ?_
                                                              rotate_left
                                                              · rintro w' ⟨s0, s1, s2, s3, s4, s5⟩
                                                                go_simp
                                                                first | with_reducible rfl | (rw [if_neg]; all_goals (first | with_reducible rfl | (have h := of_decide_eq_true c41b1; have h39 := of_decide_eq_true c39b1; have h40 := of_decide_eq_true c40b1; (try simp only [ByteArray.size_append, ByteArray.size_extract] at h); omega) | (have h := of_decide_eq_true c44b1; have h39 := of_decide_eq_true c39b1; have h40 := of_decide_eq_true c40b1; (try simp only [ByteArray.size_append, ByteArray.size_extract] at h); omega)))
                                                              rotate_left
                                                              · simp only [Act.put, List.setIfInBounds_toArray, List.set_cons_zero, List.set_cons_succ, i64_w, i32_w]
                                                                rfl
                                                              refine pure_ (i := 15) (N := some 97) (v := ?_) (a' := ?_) #[true, true, true, true, true, true, true, true, true, true, true, true, true, true, true, true, false, false, false, false, false, false, false] rfl rfl (any_of HT_.out (by kernel_rfl)) (fun _ _ _ h => h) (Or.inl ⟨by rfl, ?_⟩) ?_ ?_
                                                              rotate_left
                                                              · intro w'
                                                                go_simp
                                                                first | with_reducible rfl | (rw [if_neg]; all_goals (first | with_reducible rfl | (have h := of_decide_eq_true c41b1; have h39 := of_decide_eq_true c39b1; have h40 := of_decide_eq_true c40b1; (try simp only [ByteArray.size_append, ByteArray.size_extract] at h); omega) | (have h := of_decide_eq_true c44b1; have h39 := of_decide_eq_true c39b1; have h40 := of_decide_eq_true c40b1; (try simp only [ByteArray.size_append, ByteArray.size_extract] at h); omega)))
                                                              rotate_left
                                                              · simp only [Act.put, List.setIfInBounds_toArray, List.set_cons_zero, List.set_cons_succ, i64_w, i32_w]
                                                                rfl
                                                              refine pure_ (i := 16) (N := some 98) (v := ?_) (a' := ?_) #[true, true, true, true, true, true, true, true, true, true, true, true, true, true, true, true, true, false, false, false, false, false, false] rfl rfl (any_of HT_.out (by kernel_rfl)) (fun _ _ _ h => h) (Or.inl ⟨by rfl, ?_⟩) ?_ ?_
                                                              rotate_left
                                                              · intro w'
                                                                go_simp
                                                                first | with_reducible rfl | (rw [if_neg]; all_goals (first | with_reducible rfl | (have h := of_decide_eq_true c41b1; have h39 := of_decide_eq_true c39b1; have h40 := of_decide_eq_true c40b1; (try simp only [ByteArray.size_append, ByteArray.size_extract] at h); omega) | (have h := of_decide_eq_true c44b1; have h39 := of_decide_eq_true c39b1; have h40 := of_decide_eq_true c40b1; (try simp only [ByteArray.size_append, ByteArray.size_extract] at h); omega)))
                                                              rotate_left
                                                              · simp only [Act.put, List.setIfInBounds_toArray, List.set_cons_zero, List.set_cons_succ, i64_w, i32_w]
                                                                rfl
                                                              refine one_ (i := 17) (N := some 99) #[true, true, true, true, true, true, true, true, true, true, true, true, true, true, true, true, true, true, false, false, false, false, false] rfl rfl (one_of HT_.out (by kernel_rfl)) (by decide) (fun K hK => ?_)
                                                              refine goes_ Tryz.func10 (by kernel_rfl) rfl #[.string (((a0.extract 0 (((rd_T35 t258 (ji36)).f2) : Int).toNat) ++ (rdOf ByteArray.empty y270 (ji33))) ++ (a0.extract (((rd_T35 t258 (ji36)).f2) : Int).toNat a0.size))] (by rfl) rfl rfl (by (try simp only [List.map_toArray, List.map_cons, List.map_nil]); first | done | (simp only [hji33, hji36]; rfl) | rfl | (simp only [List.length_drop, List.length_take]; rfl)) ?_
                                                              with_reducible refine (TkC.Tokens.calls (((a0.extract 0 (((rd_T35 t258 (ji36)).f2) : Int).toNat) ++ (rdOf ByteArray.empty y270 (ji33))) ++ (a0.extract (((rd_T35 t258 (ji36)).f2) : Int).toNat a0.size)) t276 t279 t280 _ ?side1 A45.out).mono ?_
                                                              (case side1 => first | exact hEnv | exact EnvW.below hEnv (by repeat (first | (with_reducible first | exact HB.out | apply below_alloc | apply pw_below_drewN | apply below_drew1 | refine below_set ?_ GE263.out) | exact HB.out)) | exact hEnv.drewN _)
                                                              rintro e w54 ⟨v277, rfl, ho0, hb⟩
                                                              have HS0_ := (hb.cell (World.block_lt_of_cell? _ _ (hHeld.1))).trans (hHeld.1)
                                                              have HS1_ := (hb.cell (World.block_lt_of_cell? _ _ (hHeld.2.1))).trans (hHeld.2.1)
                                                              have HS2_ := (hb.cell (World.block_lt_of_cell? _ _ (hHeld.2.2.1))).trans (hHeld.2.2.1)
                                                              have HS3_ := (hb.cell (World.block_lt_of_cell? _ _ (hHeld.2.2.2.1))).trans (hHeld.2.2.2.1)
                                                              have HS4_ := (hb.cell (World.block_lt_of_cell? _ _ (hHeld.2.2.2.2.1))).trans (hHeld.2.2.2.2.1)
                                                              have HS5_ := (hb.cell (World.block_lt_of_cell? _ _ (hHeld.2.2.2.2.2))).trans (hHeld.2.2.2.2.2)
                                                              refine ⟨_, rfl, ?_⟩
                                                              have n0_ := Aside0.mk (Kd.R_elder' (by (with_reducible repeat (first | apply Kd.R_alloc | apply Kd.R_drewN | apply Kd.R_drew)); exact HO_7.out) (Kd.R_base ho0) hb)
                                                              have n1_ := Aside0.mk (Kd.R_below (by (with_reducible repeat (first | apply Kd.R_alloc | apply Kd.R_drewN | apply Kd.R_drew)); exact HO272.out) hb)
                                                              have n2_ := Aside0.mk (Kd.R_lower (Kd.R_new' ho0 (Kd.R_lt (by (with_reducible repeat (first | apply Kd.R_alloc | apply Kd.R_drewN | apply Kd.R_drew)); exact HO_7.out))) (below_size (by repeat (first | (with_reducible first | exact HB.out | apply below_alloc | apply pw_below_drewN | apply below_drew1 | refine below_set ?_ GE263.out) | exact HB.out))))
                                                              have n3_ := Aside0.mk (blk_below (g := gb263) (o := .cells #[.int .i64 t261, .int .i64 t262] 26 (0, 0)) (by (with_reducible repeat (first | refine blk_drewN ?_ _ | refine blk_drew ?_ | refine blk_alloc ?_ _)); exact BK263.out) hb)
                                                              have n4_ := Aside0.mk (below_step (by repeat (first | (with_reducible first | exact HB.out | apply below_alloc | apply pw_below_drewN | apply below_drew1 | refine below_set ?_ GE263.out) | exact HB.out)) hb)
                                                              clear HO_7
                                                              clear HO272
                                                              clear BK263
                                                              clear HB
                                                              have HO_7 := n0_
                                                              have HO272 := n1_
                                                              have HO278 := n2_
                                                              have BK263 := n3_
                                                              have HB := n4_
                                                              clear n0_ n1_ n2_ n3_ n4_
                                                              (try clear hb)
                                                              (try clear hb2)
                                                              (try clear hk)
                                                              (try clear hi)
                                                              (try clear ho0)
                                                              refine hK.out _ _ ⟨HS0_, HS1_, HS2_, HS3_, HS4_, HS5_⟩ (fun hHeld => ?_)
                                                              clear hK K
                                                              refine norm_ (a' := ?_) ?_ ?_
                                                              rotate_left
                                                              · show Act.put _ (some 99) _ = _
                                                                simp only [Act.put, List.setIfInBounds_toArray, List.set_cons_zero, List.set_cons_succ, i64_w, i32_w]
                                                                rfl
                                                              refine pure_ (i := 18) (N := some 81) (v := ?_) (a' := ?_) #[true, true, true, true, true, true, true, true, true, true, true, true, true, true, true, true, true, true, true, false, false, false, false] rfl rfl (any_of HT_.out (by kernel_rfl)) (fun _ _ _ h => h) (Or.inl ⟨by rfl, ?_⟩) ?_ ?_
                                                              rotate_left
                                                              · intro w'
                                                                go_simp
                                                                first | with_reducible rfl | (rw [if_neg]; all_goals (first | with_reducible rfl | (have h := of_decide_eq_true c41b1; have h39 := of_decide_eq_true c39b1; have h40 := of_decide_eq_true c40b1; (try simp only [ByteArray.size_append, ByteArray.size_extract] at h); omega) | (have h := of_decide_eq_true c44b1; have h39 := of_decide_eq_true c39b1; have h40 := of_decide_eq_true c40b1; (try simp only [ByteArray.size_append, ByteArray.size_extract] at h); omega)))
                                                              rotate_left
                                                              · simp only [Act.put, List.setIfInBounds_toArray, List.set_cons_zero, List.set_cons_succ, i64_w, i32_w]
                                                                rfl
                                                              refine pure_ (i := 19) (N := some 100) (v := ?_) (a' := ?_) #[true, true, true, true, true, true, true, true, true, true, true, true, true, true, true, true, true, true, true, true, false, false, false] rfl rfl (any_of HT_.out (by kernel_rfl)) (fun _ _ _ h => h) (Or.inl ⟨by rfl, ?_⟩) ?_ ?_
                                                              rotate_left
                                                              · intro w'
                                                                go_simp
                                                                first | with_reducible rfl | (rw [if_neg]; all_goals (first | with_reducible rfl | (have h := of_decide_eq_true c41b1; have h39 := of_decide_eq_true c39b1; have h40 := of_decide_eq_true c40b1; (try simp only [ByteArray.size_append, ByteArray.size_extract] at h); omega) | (have h := of_decide_eq_true c44b1; have h39 := of_decide_eq_true c39b1; have h40 := of_decide_eq_true c40b1; (try simp only [ByteArray.size_append, ByteArray.size_extract] at h); omega)))
                                                              rotate_left
                                                              · simp only [Act.put, List.setIfInBounds_toArray, List.set_cons_zero, List.set_cons_succ, i64_w, i32_w]
                                                                rfl
                                                              refine pure_ (i := 20) (N := some 101) (v := ?_) (a' := ?_) #[true, true, true, true, true, true, true, true, true, true, true, true, true, true, true, true, true, true, true, true, true, false, false] rfl rfl (any_of HT_.out (by kernel_rfl)) (fun _ _ _ h => h) (Or.inl ⟨by rfl, ?_⟩) ?_ ?_
                                                              rotate_left
                                                              · intro w'
                                                                go_simp
                                                                first | with_reducible rfl | (rw [if_neg]; all_goals (first | with_reducible rfl | (have h := of_decide_eq_true c41b1; have h39 := of_decide_eq_true c39b1; have h40 := of_decide_eq_true c40b1; (try simp only [ByteArray.size_append, ByteArray.size_extract] at h); omega) | (have h := of_decide_eq_true c44b1; have h39 := of_decide_eq_true c39b1; have h40 := of_decide_eq_true c40b1; (try simp only [ByteArray.size_append, ByteArray.size_extract] at h); omega)))
                                                              rotate_left
                                                              · simp only [Act.put, List.setIfInBounds_toArray, List.set_cons_zero, List.set_cons_succ, i64_w, i32_w]
                                                                rfl
                                                              refine pure_ (i := 21) (N := some 11) (v := ?_) (a' := ?_) #[true, true, true, true, true, true, true, true, true, true, true, true, true, true, true, true, true, true, true, true, true, true, false] rfl rfl (any_of HT_.out (by kernel_rfl)) (fun _ _ _ h => h) (Or.inl ⟨by rfl, ?_⟩) ?_ ?_
                                                              rotate_left
                                                              · intro w'
                                                                go_simp
                                                                first | with_reducible rfl | (rw [if_neg]; all_goals (first | with_reducible rfl | (have h := of_decide_eq_true c41b1; have h39 := of_decide_eq_true c39b1; have h40 := of_decide_eq_true c40b1; (try simp only [ByteArray.size_append, ByteArray.size_extract] at h); omega) | (have h := of_decide_eq_true c44b1; have h39 := of_decide_eq_true c39b1; have h40 := of_decide_eq_true c40b1; (try simp only [ByteArray.size_append, ByteArray.size_extract] at h); omega)))
                                                              rotate_left
                                                              · simp only [Act.put, List.setIfInBounds_toArray, List.set_cons_zero, List.set_cons_succ, i64_w, i32_w]
                                                                rfl
                                                              refine one_ (i := 22) (N := none) #[true, true, true, true, true, true, true, true, true, true, true, true, true, true, true, true, true, true, true, true, true, true, true] rfl rfl (one_of HT_.out (by kernel_rfl)) (by decide) (fun K hK => ?_)
                                                              have hs55 : w54.cell? ⟨gb263, 0, none⟩ = some (.int .i64 t261) := (blk_cell BK263.out 0).trans rfl
                                                              have hfs55 := blk_frozen BK263.out 0
                                                              have hs56 : w54.cell? ⟨gb263, 1, none⟩ = some (.int .i64 t262) := (blk_cell BK263.out 1).trans rfl
                                                              have hfs56 := blk_frozen BK263.out 1
                                                              refine skip_ (w1 := ?_) (by rfl) rfl ?_ ?_
                                                              rotate_left
                                                              · go_simp
                                                                rfl
                                                              refine hK.out _ _ ⟨((cell_far (p := ⟨gb263, _, none⟩) (by first | exact Kd.own_blk (Kd.R_ne HO_7.out BK263.out (by decide)) | (rw [add_block]; exact Kd.own_blk (Kd.R_ne HO_7.out BK263.out (by decide))) | (show (Addr.add _ _).block ≠ _; rw [add_block]; exact Kd.own_blk (Kd.R_ne HO_7.out BK263.out (by decide))) | (dsimp only; exact Kd.own_blk (Kd.R_ne HO_7.out BK263.out (by decide)))) _).trans (((cell_far (p := ⟨gb263, _, none⟩) (by first | exact Kd.own_blk (Kd.R_ne HO_7.out BK263.out (by decide)) | (rw [add_block]; exact Kd.own_blk (Kd.R_ne HO_7.out BK263.out (by decide))) | (show (Addr.add _ _).block ≠ _; rw [add_block]; exact Kd.own_blk (Kd.R_ne HO_7.out BK263.out (by decide))) | (dsimp only; exact Kd.own_blk (Kd.R_ne HO_7.out BK263.out (by decide)))) _).trans (hHeld.1)))), ((cell_far (p := ⟨gb263, _, none⟩) (by first | exact Kd.own_blk (Kd.R_ne HO_7.out BK263.out (by decide)) | (rw [add_block]; exact Kd.own_blk (Kd.R_ne HO_7.out BK263.out (by decide))) | (show (Addr.add _ _).block ≠ _; rw [add_block]; exact Kd.own_blk (Kd.R_ne HO_7.out BK263.out (by decide))) | (dsimp only; exact Kd.own_blk (Kd.R_ne HO_7.out BK263.out (by decide)))) _).trans (((cell_far (p := ⟨gb263, _, none⟩) (by first | exact Kd.own_blk (Kd.R_ne HO_7.out BK263.out (by decide)) | (rw [add_block]; exact Kd.own_blk (Kd.R_ne HO_7.out BK263.out (by decide))) | (show (Addr.add _ _).block ≠ _; rw [add_block]; exact Kd.own_blk (Kd.R_ne HO_7.out BK263.out (by decide))) | (dsimp only; exact Kd.own_blk (Kd.R_ne HO_7.out BK263.out (by decide)))) _).trans (hHeld.2.1)))), ((cell_far (p := ⟨gb263, _, none⟩) (by first | exact Kd.own_blk (Kd.R_ne HO_7.out BK263.out (by decide)) | (rw [add_block]; exact Kd.own_blk (Kd.R_ne HO_7.out BK263.out (by decide))) | (show (Addr.add _ _).block ≠ _; rw [add_block]; exact Kd.own_blk (Kd.R_ne HO_7.out BK263.out (by decide))) | (dsimp only; exact Kd.own_blk (Kd.R_ne HO_7.out BK263.out (by decide)))) _).trans (((cell_far (p := ⟨gb263, _, none⟩) (by first | exact Kd.own_blk (Kd.R_ne HO_7.out BK263.out (by decide)) | (rw [add_block]; exact Kd.own_blk (Kd.R_ne HO_7.out BK263.out (by decide))) | (show (Addr.add _ _).block ≠ _; rw [add_block]; exact Kd.own_blk (Kd.R_ne HO_7.out BK263.out (by decide))) | (dsimp only; exact Kd.own_blk (Kd.R_ne HO_7.out BK263.out (by decide)))) _).trans (hHeld.2.2.1)))), ((cell_far (p := ⟨gb263, _, none⟩) (by first | exact Kd.own_blk (Kd.R_ne HO_7.out BK263.out (by decide)) | (rw [add_block]; exact Kd.own_blk (Kd.R_ne HO_7.out BK263.out (by decide))) | (show (Addr.add _ _).block ≠ _; rw [add_block]; exact Kd.own_blk (Kd.R_ne HO_7.out BK263.out (by decide))) | (dsimp only; exact Kd.own_blk (Kd.R_ne HO_7.out BK263.out (by decide)))) _).trans (((cell_far (p := ⟨gb263, _, none⟩) (by first | exact Kd.own_blk (Kd.R_ne HO_7.out BK263.out (by decide)) | (rw [add_block]; exact Kd.own_blk (Kd.R_ne HO_7.out BK263.out (by decide))) | (show (Addr.add _ _).block ≠ _; rw [add_block]; exact Kd.own_blk (Kd.R_ne HO_7.out BK263.out (by decide))) | (dsimp only; exact Kd.own_blk (Kd.R_ne HO_7.out BK263.out (by decide)))) _).trans (hHeld.2.2.2.1)))), ((cell_far (p := ⟨gb263, _, none⟩) (by first | exact Kd.own_blk (Kd.R_ne HO_7.out BK263.out (by decide)) | (rw [add_block]; exact Kd.own_blk (Kd.R_ne HO_7.out BK263.out (by decide))) | (show (Addr.add _ _).block ≠ _; rw [add_block]; exact Kd.own_blk (Kd.R_ne HO_7.out BK263.out (by decide))) | (dsimp only; exact Kd.own_blk (Kd.R_ne HO_7.out BK263.out (by decide)))) _).trans (((cell_far (p := ⟨gb263, _, none⟩) (by first | exact Kd.own_blk (Kd.R_ne HO_7.out BK263.out (by decide)) | (rw [add_block]; exact Kd.own_blk (Kd.R_ne HO_7.out BK263.out (by decide))) | (show (Addr.add _ _).block ≠ _; rw [add_block]; exact Kd.own_blk (Kd.R_ne HO_7.out BK263.out (by decide))) | (dsimp only; exact Kd.own_blk (Kd.R_ne HO_7.out BK263.out (by decide)))) _).trans (hHeld.2.2.2.2.1)))), ((cell_far (p := ⟨gb263, _, none⟩) (by first | exact Kd.own_blk (Kd.R_ne HO_7.out BK263.out (by decide)) | (rw [add_block]; exact Kd.own_blk (Kd.R_ne HO_7.out BK263.out (by decide))) | (show (Addr.add _ _).block ≠ _; rw [add_block]; exact Kd.own_blk (Kd.R_ne HO_7.out BK263.out (by decide))) | (dsimp only; exact Kd.own_blk (Kd.R_ne HO_7.out BK263.out (by decide)))) _).trans (((cell_far (p := ⟨gb263, _, none⟩) (by first | exact Kd.own_blk (Kd.R_ne HO_7.out BK263.out (by decide)) | (rw [add_block]; exact Kd.own_blk (Kd.R_ne HO_7.out BK263.out (by decide))) | (show (Addr.add _ _).block ≠ _; rw [add_block]; exact Kd.own_blk (Kd.R_ne HO_7.out BK263.out (by decide))) | (dsimp only; exact Kd.own_blk (Kd.R_ne HO_7.out BK263.out (by decide)))) _).trans (hHeld.2.2.2.2.2))))⟩ (fun hHeld => ?_)
                                                              clear hK K
                                                              refine done_ (done_of HT_.out (by kernel_rfl)) ?_
                                                              have hcz57_0 : w54.cell? ⟨gb263, 0, none⟩ = some (.int .i64 t261) := (blk_cell BK263.out 0).trans rfl
                                                              have hcz57_1 : w54.cell? ⟨gb263, 1, none⟩ = some (.int .i64 t262) := (blk_cell BK263.out 1).trans rfl
                                                              have hfz57_0 := blk_frozen BK263.out 0
                                                              have hfz57_1 := blk_frozen BK263.out 1
                                                              obtain ⟨Ao58, co58, eo58⟩ := Kd.R_slice HO278.out
                                                              subst eo58
                                                              try go_wp2_with (first | (go_at_call 12; (with_reducible refine (cinnabarlaw01_Same.calls kj17 _ _ t258 _ _ t276 false true _ ?side1 ?side2 ?side3 ?side4 A47.out).mono ?_); (case side1 => refine (Kd.R_reads' (e := 35) (base := w.heap.size) (ok := fun k_ => (True ∧ some k_ ≠ (.slice Ao58 t276.length co58 : Value).ownBlock)) (n := t258.length) (c := co19) ?_).2.2; exact (by (with_reducible repeat (first | apply Kd.R_alloc | apply Kd.R_drewN | apply Kd.R_drew)); exact (Kd.R_mono (Kd.R_far (p := ⟨gb263, 1, none⟩) (Kd.R_far (p := ⟨gb263, 0, none⟩) (Kd.R_types HO_7.out BK263.out (by decide)) (fun _ hk => hk.2) (.int .i64 t279)) (fun _ hk => hk.2) (.int .i64 t280)) (fun _ h_ => h_.1)))); (case side2 => exact (Kd.R_reads' HO_7.out).2.1); (case side3 => refine (Kd.R_reads' (e := 35) (base := w.heap.size) (ok := fun k_ => (True ∧ some k_ ≠ (.slice (some ad274) t258.length co19 : Value).ownBlock)) (n := t276.length) (c := co58) ?_).2.2; exact (by (with_reducible repeat (first | apply Kd.R_alloc | apply Kd.R_drewN | apply Kd.R_drew)); exact (Kd.R_mono (Kd.R_far (p := ⟨gb263, 1, none⟩) (Kd.R_far (p := ⟨gb263, 0, none⟩) (Kd.R_types HO278.out BK263.out (by decide)) (fun _ hk => hk.2) (.int .i64 t279)) (fun _ hk => hk.2) (.int .i64 t280)) (fun _ h_ => h_.1)))); (case side4 => exact (Kd.R_reads' HO278.out).2.1); rintro e w' ⟨rfl, ⟨nd, rfl⟩⟩) | (go_at_call 9; (with_reducible refine (cinnabarlaw01_awake.calls kj17  t282 _ ?side1 A49.out).mono ?_); (case side1 => first | exact hEnv | exact EnvW.below hEnv (by repeat (first | (with_reducible first | exact HB.out | apply below_alloc | apply pw_below_drewN | apply below_drew1 | refine below_set ?_ GE263.out) | exact HB.out)) | exact hEnv.drewN _); rintro e w59 ⟨rfl, hb⟩; have n0_ := Aside0.mk (Kd.R_below (by (with_reducible repeat (first | apply Kd.R_alloc | apply Kd.R_drewN | apply Kd.R_drew)); exact (Kd.R_mono (Kd.R_far (p := ⟨gb263, 1, none⟩) (Kd.R_far (p := ⟨gb263, 0, none⟩) (Kd.R_types HO_7.out BK263.out (by decide)) (fun _ hk => hk.2) (.int .i64 t279)) (fun _ hk => hk.2) (.int .i64 t280)) (fun _ h_ => h_.1))) hb); have n1_ := Aside0.mk (Kd.R_below (by (with_reducible repeat (first | apply Kd.R_alloc | apply Kd.R_drewN | apply Kd.R_drew)); exact (Kd.R_mono (Kd.R_far (p := ⟨gb263, 1, none⟩) (Kd.R_far (p := ⟨gb263, 0, none⟩) (Kd.R_types HO272.out BK263.out (by decide)) (fun _ hk => hk.2) (.int .i64 t279)) (fun _ hk => hk.2) (.int .i64 t280)) (fun _ h_ => h_.1))) hb); have n2_ := Aside0.mk (Kd.R_below (by (with_reducible repeat (first | apply Kd.R_alloc | apply Kd.R_drewN | apply Kd.R_drew)); exact (Kd.R_mono (Kd.R_far (p := ⟨gb263, 1, none⟩) (Kd.R_far (p := ⟨gb263, 0, none⟩) (Kd.R_types HO278.out BK263.out (by decide)) (fun _ hk => hk.2) (.int .i64 t279)) (fun _ hk => hk.2) (.int .i64 t280)) (fun _ h_ => h_.1))) hb); have n3_ := Aside0.mk (blk_below (g := gb263) (o := .cells #[.int .i64 t279, .int .i64 t280] 26 (0, 0)) (by (with_reducible repeat (first | refine blk_drewN ?_ _ | refine blk_drew ?_ | refine blk_alloc ?_ _)); refine blk_put (cs := #[.int .i64 t279, .int .i64 t262]) ?_ 1 _ rfl; (with_reducible repeat (first | refine blk_drewN ?_ _ | refine blk_drew ?_ | refine blk_alloc ?_ _)); refine blk_put (cs := #[.int .i64 t261, .int .i64 t262]) ?_ 0 _ rfl; (with_reducible repeat (first | refine blk_drewN ?_ _ | refine blk_drew ?_ | refine blk_alloc ?_ _)); exact BK263.out) hb); have n4_ := Aside0.mk (below_step (by repeat (first | (with_reducible first | exact HB.out | apply below_alloc | apply pw_below_drewN | apply below_drew1 | refine below_set ?_ GE263.out) | exact HB.out)) hb); clear HO_7; clear HO272; clear HO278; clear BK263; clear HB; have HO_7 := n0_; have HO272 := n1_; have HO278 := n2_; have BK263 := n3_; have HB := n4_; clear n0_ n1_ n2_ n3_ n4_; (try clear hb); (try clear hb2); (try clear hk); (try clear hi)))
                                                              go_ret
                                                              exact ⟨by first | rfl | (simp [errW_none, errW_some] <;> rfl) | (simp only [← hji33, ← hji36]; first | rfl | (simp [errW_none, errW_some] <;> rfl)) | (simp [*, errW_none, errW_some] <;> rfl), by repeat (first | (with_reducible first | exact HB.out | apply below_alloc | apply pw_below_drewN | apply below_drew1 | refine below_set ?_ GE263.out) | exact HB.out)⟩
                                                          · as_aux_lemma =>
                                                              replace c48 := Bool.eq_false_iff.mpr c48
                                                              subst c48
                                                              have H1 : (some false) = some r := by rw [if_neg (show ¬ (false = true) by decide)] at H; exact H
                                                              clear H
                                                              have H := H1
                                                              clear H1
                                                              obtain rfl := Option.some.inj H
                                                              try go_wp2_with (first | ((with_reducible refine gate_dst (N := 75) rfl ?_); (try (refine gate_guard (by rfl) ?_; dsimp only)); refine Kd.R_lit Kd.string _ 9 ?hg (N := 75) ?hd (xs := ([(⟨#[32]⟩ : ByteArray), (⟨#[10, 9]⟩ : ByteArray), (⟨#[32, 47, 42, 32, 97, 32, 37, 32, 98, 32, 10, 32, 42, 47, 32]⟩ : ByteArray), (⟨#[32, 37, 32, 99, 32, 39, 100, 32, 10]⟩ : ByteArray)] : List ByteArray)) (inner := [.string (⟨#[32]⟩ : ByteArray), .string (⟨#[10, 9]⟩ : ByteArray), .string (⟨#[32, 47, 42, 32, 97, 32, 37, 32, 98, 32, 10, 32, 42, 47, 32]⟩ : ByteArray), .string (⟨#[32, 37, 32, 99, 32, 39, 100, 32, 10]⟩ : ByteArray)]) (ok := fun _ => True) (okp := fun _ => True) ?hr ?hp (fun _ hk => hk) trivial (Below.refl _ _) (Nat.le_refl _) (by simp) ?_; (case hd => rfl); (case hg => rfl); (case hr => first | (go_simp; done) | (go_simp; rfl)); (case hp => exact (Reps.one (show Kd.M Kd.string _ _ _ (⟨#[32]⟩ : ByteArray) [.string (⟨#[32]⟩ : ByteArray)] from rfl) (Reps.one (show Kd.M Kd.string _ _ _ (⟨#[10, 9]⟩ : ByteArray) [.string (⟨#[10, 9]⟩ : ByteArray)] from rfl) (Reps.one (show Kd.M Kd.string _ _ _ (⟨#[32, 47, 42, 32, 97, 32, 37, 32, 98, 32, 10, 32, 42, 47, 32]⟩ : ByteArray) [.string (⟨#[32, 47, 42, 32, 97, 32, 37, 32, 98, 32, 10, 32, 42, 47, 32]⟩ : ByteArray)] from rfl) (Reps.one (show Kd.M Kd.string _ _ _ (⟨#[32, 37, 32, 99, 32, 39, 100, 32, 10]⟩ : ByteArray) [.string (⟨#[32, 37, 32, 99, 32, 39, 100, 32, 10]⟩ : ByteArray)] from rfl) (Reps.none _ _)))))); intro v271 w60 ho61 hb hg_ hnew_; clear hg_ hnew_; (first | rw [← Ny270.out] at ho61 | (simp only [Int.reduceToNat] at ho61; rw [← Ny270.out] at ho61)); have n0_ := Aside0.mk (Kd.R_below (by (with_reducible repeat (first | apply Kd.R_alloc | apply Kd.R_drewN | apply Kd.R_drew)); exact HO_7.out) hb); have n1_ := Aside0.mk (Kd.R_lower ho61 (below_size (by repeat (first | (with_reducible first | exact HB.out | apply below_alloc | apply pw_below_drewN | apply below_drew1 | refine below_set ?_ GE263.out) | exact HB.out)))); have n2_ := Aside0.mk (blk_below (g := gb263) (o := .cells #[.int .i64 t261, .int .i64 t262] 26 (0, 0)) (by (with_reducible repeat (first | refine blk_drewN ?_ _ | refine blk_drew ?_ | refine blk_alloc ?_ _)); exact BK263.out) hb); have n3_ := Aside0.mk (below_step (by repeat (first | (with_reducible first | exact HB.out | apply below_alloc | apply pw_below_drewN | apply below_drew1 | refine below_set ?_ GE263.out) | exact HB.out)) hb); clear HO_7; clear BK263; clear HB; have HO_7 := n0_; have HO272 := n1_; have BK263 := n2_; have HB := n3_; clear n0_ n1_ n2_ n3_; clear hb ho61; obtain ⟨Ao62, co62, eo62⟩ := Kd.R_slice HO272.out; subst eo62; have p273 : 0 ≤ ((ji33) : Int) := of_decide_eq_true (by first | (with_reducible assumption) | assumption); have q273 : (ji33) < (y270.length : Int) := of_decide_eq_true (by first | (with_reducible assumption) | assumption); obtain ⟨ad273, e273, hx273_0⟩ := Kd.at_string (Kd.R_reads' HO272.out).2.2 (ji33) p273 q273; cases e273; replace p273 := eq_true p273; replace q273 := eq_true q273))
                                                              have n0_ := Aside0.mk (Kd.R_drew HO_7.out)
                                                              have n1_ := Aside0.mk (Kd.R_drew HO272.out)
                                                              have n2_ := Aside0.mk (blk_drew BK263.out)
                                                              have n3_ := Aside0.mk (below_drew1 HB.out)
                                                              clear HO_7
                                                              clear HO272
                                                              clear BK263
                                                              clear HB
                                                              have HO_7 := n0_
                                                              have HO272 := n1_
                                                              have BK263 := n2_
                                                              have HB := n3_
                                                              clear n0_ n1_ n2_ n3_
                                                              have p274 : 0 ≤ ((ji36) : Int) := of_decide_eq_true (by first | (with_reducible assumption) | assumption)
                                                              have q274 : (ji36) < (t258.length : Int) := of_decide_eq_true (by first | (with_reducible assumption) | assumption)
                                                              obtain ⟨ad274, e274, hx274_0, hx274_1, hx274_2⟩ := at_T35 (Kd.R_reads' HO_7.out).2.2 (ji36) p274 q274
                                                              cases e274
                                                              replace p274 := eq_true p274
                                                              replace q274 := eq_true q274
                                                              have p275 : 0 ≤ ((ji36) : Int) := of_decide_eq_true (by first | (with_reducible assumption) | assumption)
                                                              have q275 : (ji36) < (t258.length : Int) := of_decide_eq_true (by first | (with_reducible assumption) | assumption)
                                                              obtain ⟨ad275, e275, hx275_0, hx275_1, hx275_2⟩ := at_T35 (Kd.R_reads' HO_7.out).2.2 (ji36) p275 q275
                                                              obtain rfl : ad274 = ad275 := (by injection e275)
                                                              replace p275 := eq_true p275
                                                              replace q275 := eq_true q275
                                                              refine start_ (n := 23) (S := fun w' => w'.cell? (ad274.add (((ji36)).toNat * 3)) = some (.int .i64 ((rd_T35 t258 (ji36)).f0)) ∧ w'.cell? ⟨(ad274.add (((ji36)).toNat * 3)).block, (ad274.add (((ji36)).toNat * 3)).off + 1, none⟩ = some (.string ((rd_T35 t258 (ji36)).f1)) ∧ w'.cell? ⟨(ad274.add (((ji36)).toNat * 3)).block, (ad274.add (((ji36)).toNat * 3)).off + 2, none⟩ = some (.int .i64 ((rd_T35 t258 (ji36)).f2)) ∧ w'.cell? (ad274.add (((ji36)).toNat * 3)) = some (.int .i64 ((rd_T35 t258 (ji36)).f0)) ∧ w'.cell? ⟨(ad274.add (((ji36)).toNat * 3)).block, (ad274.add (((ji36)).toNat * 3)).off + 1, none⟩ = some (.string ((rd_T35 t258 (ji36)).f1)) ∧ w'.cell? ⟨(ad274.add (((ji36)).toNat * 3)).block, (ad274.add (((ji36)).toNat * 3)).off + 2, none⟩ = some (.int .i64 ((rd_T35 t258 (ji36)).f2))) (ds := []) #[false, false, false, false, false, false, false, false, false, false, false, false, false, false, false, false, false, false, false, false, false, false, false] (by kernel_rfl) rfl rfl ⟨hx274_0, hx274_1, hx274_2, hx275_0, hx275_1, hx275_2⟩ (fun hHeld => ?_); refine with_tabW cinnabarlaw01_TokensBlanks.tab8 cinnabarlaw01_TokensBlanks.bits8 (fun HT_ HW_ => ?_)
                                                              generalize w60.drew = w63 at HO_7 HO272 BK263 HB hx274_0 hx274_1 hx274_2 hx275_0 hx275_1 hx275_2 hHeld ⊢
                                                              refine pure_ (i := 0) (N := some 82) (v := ?_) (a' := ?_) #[true, false, false, false, false, false, false, false, false, false, false, false, false, false, false, false, false, false, false, false, false, false, false] rfl rfl (any_of HT_.out (by kernel_rfl)) (fun _ _ _ h => h) (Or.inl ⟨by rfl, ?_⟩) ?_ ?_
                                                              rotate_left
                                                              · intro w'
                                                                go_simp
                                                                first | with_reducible rfl | (rw [if_neg]; all_goals (first | with_reducible rfl | (have h := of_decide_eq_true c41b1; have h39 := of_decide_eq_true c39b1; have h40 := of_decide_eq_true c40b1; (try simp only [ByteArray.size_append, ByteArray.size_extract] at h); omega) | (have h := of_decide_eq_true c44b1; have h39 := of_decide_eq_true c39b1; have h40 := of_decide_eq_true c40b1; (try simp only [ByteArray.size_append, ByteArray.size_extract] at h); omega)))
                                                              rotate_left
                                                              · simp only [Act.put, List.setIfInBounds_toArray, List.set_cons_zero, List.set_cons_succ, i64_w, i32_w]
                                                                rfl
                                                              refine pure_ (i := 1) (N := some 83) (v := ?_) (a' := ?_) #[true, true, false, false, false, false, false, false, false, false, false, false, false, false, false, false, false, false, false, false, false, false, false] rfl rfl (any_of HT_.out (by kernel_rfl)) (fun _ _ _ h => h) (Or.inl ⟨by rfl, ?_⟩) ?_ ?_
                                                              rotate_left
                                                              · intro w'
                                                                go_simp
                                                                first | with_reducible rfl | (rw [if_neg]; all_goals (first | with_reducible rfl | (have h := of_decide_eq_true c41b1; have h39 := of_decide_eq_true c39b1; have h40 := of_decide_eq_true c40b1; (try simp only [ByteArray.size_append, ByteArray.size_extract] at h); omega) | (have h := of_decide_eq_true c44b1; have h39 := of_decide_eq_true c39b1; have h40 := of_decide_eq_true c40b1; (try simp only [ByteArray.size_append, ByteArray.size_extract] at h); omega)))
                                                              rotate_left
                                                              · simp only [Act.put, List.setIfInBounds_toArray, List.set_cons_zero, List.set_cons_succ, i64_w, i32_w]
                                                                rfl
                                                              refine pure_ (i := 2) (N := some 84) (v := ?_) (a' := ?_) #[true, true, true, false, false, false, false, false, false, false, false, false, false, false, false, false, false, false, false, false, false, false, false] rfl rfl (any_of HT_.out (by kernel_rfl)) (fun _ _ _ h => h) (Or.inl ⟨by rfl, ?_⟩) ?_ ?_
                                                              rotate_left
                                                              · intro w'
                                                                go_simp
                                                                first | with_reducible rfl | (rw [if_neg]; all_goals (first | with_reducible rfl | (have h := of_decide_eq_true c41b1; have h39 := of_decide_eq_true c39b1; have h40 := of_decide_eq_true c40b1; (try simp only [ByteArray.size_append, ByteArray.size_extract] at h); omega) | (have h := of_decide_eq_true c44b1; have h39 := of_decide_eq_true c39b1; have h40 := of_decide_eq_true c40b1; (try simp only [ByteArray.size_append, ByteArray.size_extract] at h); omega)))
                                                              rotate_left
                                                              · simp only [Act.put, List.setIfInBounds_toArray, List.set_cons_zero, List.set_cons_succ, i64_w, i32_w]
                                                                rfl
                                                              refine pure_ (i := 3) (N := some 85) (v := ?_) (a' := ?_) #[true, true, true, true, false, false, false, false, false, false, false, false, false, false, false, false, false, false, false, false, false, false, false] rfl rfl (any_of HT_.out (by kernel_rfl)) (fun _ _ _ h => h) (Or.inl ⟨by rfl, ?_⟩) ?_ ?_
                                                              rotate_left
                                                              · intro w'
                                                                go_simp
                                                                first | with_reducible rfl | (rw [if_neg]; all_goals (first | with_reducible rfl | (have h := of_decide_eq_true c41b1; have h39 := of_decide_eq_true c39b1; have h40 := of_decide_eq_true c40b1; (try simp only [ByteArray.size_append, ByteArray.size_extract] at h); omega) | (have h := of_decide_eq_true c44b1; have h39 := of_decide_eq_true c39b1; have h40 := of_decide_eq_true c40b1; (try simp only [ByteArray.size_append, ByteArray.size_extract] at h); omega)))
                                                              rotate_left
                                                              · simp only [Act.put, List.setIfInBounds_toArray, List.set_cons_zero, List.set_cons_succ, i64_w, i32_w]
                                                                rfl
                                                              refine pure_ (i := 4) (N := some 86) (v := ?_) (a' := ?_) #[true, true, true, true, true, false, false, false, false, false, false, false, false, false, false, false, false, false, false, false, false, false, false] rfl rfl (any_of HT_.out (by kernel_rfl)) (fun _ _ _ h => h) (Or.inl ⟨by rfl, ?_⟩) ?_ ?_
                                                              rotate_left
                                                              · intro w'
                                                                go_simp
                                                                first | with_reducible rfl | (rw [if_neg]; all_goals (first | with_reducible rfl | (have h := of_decide_eq_true c41b1; have h39 := of_decide_eq_true c39b1; have h40 := of_decide_eq_true c40b1; (try simp only [ByteArray.size_append, ByteArray.size_extract] at h); omega) | (have h := of_decide_eq_true c44b1; have h39 := of_decide_eq_true c39b1; have h40 := of_decide_eq_true c40b1; (try simp only [ByteArray.size_append, ByteArray.size_extract] at h); omega)))
                                                              rotate_left
                                                              · simp only [Act.put, List.setIfInBounds_toArray, List.set_cons_zero, List.set_cons_succ, i64_w, i32_w]
                                                                rfl
                                                              refine pure_ (i := 7) (N := some 89) (v := ?_) (a' := ?_) #[true, true, true, true, true, false, false, true, false, false, false, false, false, false, false, false, false, false, false, false, false, false, false] rfl rfl (any_of HT_.out (by kernel_rfl)) (fun _ _ _ h => h) (Or.inl ⟨by rfl, ?_⟩) ?_ ?_
                                                              rotate_left
                                                              · intro w'
                                                                go_simp
                                                                first | with_reducible rfl | (rw [if_neg]; all_goals (first | with_reducible rfl | (have h := of_decide_eq_true c41b1; have h39 := of_decide_eq_true c39b1; have h40 := of_decide_eq_true c40b1; (try simp only [ByteArray.size_append, ByteArray.size_extract] at h); omega) | (have h := of_decide_eq_true c44b1; have h39 := of_decide_eq_true c39b1; have h40 := of_decide_eq_true c40b1; (try simp only [ByteArray.size_append, ByteArray.size_extract] at h); omega)))
                                                              rotate_left
                                                              · simp only [Act.put, List.setIfInBounds_toArray, List.set_cons_zero, List.set_cons_succ, i64_w, i32_w]
                                                                rfl
                                                              refine pure_ (i := 9) (N := some 91) (v := ?_) (a' := ?_) #[true, true, true, true, true, false, false, true, false, true, false, false, false, false, false, false, false, false, false, false, false, false, false] rfl rfl (any_of HT_.out (by kernel_rfl)) (fun _ _ _ h => h) (Or.inl ⟨by rfl, ?_⟩) ?_ ?_
                                                              rotate_left
                                                              · intro w'
                                                                go_simp
                                                                first | with_reducible rfl | (rw [if_neg]; all_goals (first | with_reducible rfl | (have h := of_decide_eq_true c41b1; have h39 := of_decide_eq_true c39b1; have h40 := of_decide_eq_true c40b1; (try simp only [ByteArray.size_append, ByteArray.size_extract] at h); omega) | (have h := of_decide_eq_true c44b1; have h39 := of_decide_eq_true c39b1; have h40 := of_decide_eq_true c40b1; (try simp only [ByteArray.size_append, ByteArray.size_extract] at h); omega)))
                                                              rotate_left
                                                              · simp only [Act.put, List.setIfInBounds_toArray, List.set_cons_zero, List.set_cons_succ, i64_w, i32_w]
                                                                rfl
                                                              refine pure_ (i := 10) (N := some 92) (v := ?_) (a' := ?_) #[true, true, true, true, true, false, false, true, false, true, true, false, false, false, false, false, false, false, false, false, false, false, false] rfl rfl (any_of HT_.out (by kernel_rfl)) (fun _ _ _ h => h) (Or.inl ⟨by rfl, ?_⟩) ?_ ?_
                                                              rotate_left
                                                              · intro w'
                                                                go_simp
                                                                first | with_reducible rfl | (rw [if_neg]; all_goals (first | with_reducible rfl | (have h := of_decide_eq_true c41b1; have h39 := of_decide_eq_true c39b1; have h40 := of_decide_eq_true c40b1; (try simp only [ByteArray.size_append, ByteArray.size_extract] at h); omega) | (have h := of_decide_eq_true c44b1; have h39 := of_decide_eq_true c39b1; have h40 := of_decide_eq_true c40b1; (try simp only [ByteArray.size_append, ByteArray.size_extract] at h); omega)))
                                                              rotate_left
                                                              · simp only [Act.put, List.setIfInBounds_toArray, List.set_cons_zero, List.set_cons_succ, i64_w, i32_w]
                                                                rfl
                                                              refine pure_ (i := 11) (N := some 93) (v := ?_) (a' := ?_) #[true, true, true, true, true, false, false, true, false, true, true, true, false, false, false, false, false, false, false, false, false, false, false] rfl rfl (any_of HT_.out (by kernel_rfl)) (fun _ _ _ h => h) (Or.inl ⟨by rfl, ?_⟩) ?_ ?_
                                                              rotate_left
                                                              · intro w'
                                                                go_simp
                                                                first | with_reducible rfl | (rw [if_neg]; all_goals (first | with_reducible rfl | (have h := of_decide_eq_true c41b1; have h39 := of_decide_eq_true c39b1; have h40 := of_decide_eq_true c40b1; (try simp only [ByteArray.size_append, ByteArray.size_extract] at h); omega) | (have h := of_decide_eq_true c44b1; have h39 := of_decide_eq_true c39b1; have h40 := of_decide_eq_true c40b1; (try simp only [ByteArray.size_append, ByteArray.size_extract] at h); omega)))
                                                              rotate_left
                                                              · simp only [Act.put, List.setIfInBounds_toArray, List.set_cons_zero, List.set_cons_succ, i64_w, i32_w]
                                                                rfl
                                                              refine pure_ (i := 12) (N := some 94) (v := ?_) (a' := ?_) #[true, true, true, true, true, false, false, true, false, true, true, true, true, false, false, false, false, false, false, false, false, false, false] rfl rfl (any_of HT_.out (by kernel_rfl)) (fun _ _ _ h => h) (Or.inl ⟨by rfl, ?_⟩) ?_ ?_
                                                              rotate_left
                                                              · intro w'
                                                                go_simp
                                                                first | with_reducible rfl | (rw [if_neg]; all_goals (first | with_reducible rfl | (have h := of_decide_eq_true c41b1; have h39 := of_decide_eq_true c39b1; have h40 := of_decide_eq_true c40b1; (try simp only [ByteArray.size_append, ByteArray.size_extract] at h); omega) | (have h := of_decide_eq_true c44b1; have h39 := of_decide_eq_true c39b1; have h40 := of_decide_eq_true c40b1; (try simp only [ByteArray.size_append, ByteArray.size_extract] at h); omega)))
                                                              rotate_left
                                                              · simp only [Act.put, List.setIfInBounds_toArray, List.set_cons_zero, List.set_cons_succ, i64_w, i32_w]
                                                                rfl
                                                              refine pure_ (i := 13) (N := some 95) (v := ?_) (a' := ?_) #[true, true, true, true, true, false, false, true, false, true, true, true, true, true, false, false, false, false, false, false, false, false, false] rfl rfl (any_of HT_.out (by kernel_rfl)) (fun _ _ _ h => h) (Or.inl ⟨by rfl, ?_⟩) ?_ ?_
                                                              rotate_left
                                                              · intro w'
                                                                go_simp
                                                                first | with_reducible rfl | (rw [if_neg]; all_goals (first | with_reducible rfl | (have h := of_decide_eq_true c41b1; have h39 := of_decide_eq_true c39b1; have h40 := of_decide_eq_true c40b1; (try simp only [ByteArray.size_append, ByteArray.size_extract] at h); omega) | (have h := of_decide_eq_true c44b1; have h39 := of_decide_eq_true c39b1; have h40 := of_decide_eq_true c40b1; (try simp only [ByteArray.size_append, ByteArray.size_extract] at h); omega)))
                                                              rotate_left
                                                              · simp only [Act.put, List.setIfInBounds_toArray, List.set_cons_zero, List.set_cons_succ, i64_w, i32_w]
                                                                rfl
                                                              refine take_ (i := 5) (N := some 87) (v := ?_) (a' := ?_) #[true, true, true, true, true, true, false, true, false, true, true, true, true, true, false, false, false, false, false, false, false, false, false] rfl rfl (take_ofW HT_.out HW_.out (by kernel_rfl)) (fun _ _ _ h => h) (Or.inl ⟨by rfl, ?_⟩) hHeld ?_ ?_
                                                              rotate_left
                                                              · rintro w' ⟨s0, s1, s2, s3, s4, s5⟩
                                                                go_simp
                                                                first | with_reducible rfl | (rw [if_neg]; all_goals (first | with_reducible rfl | (have h := of_decide_eq_true c41b1; have h39 := of_decide_eq_true c39b1; have h40 := of_decide_eq_true c40b1; (try simp only [ByteArray.size_append, ByteArray.size_extract] at h); omega) | (have h := of_decide_eq_true c44b1; have h39 := of_decide_eq_true c39b1; have h40 := of_decide_eq_true c40b1; (try simp only [ByteArray.size_append, ByteArray.size_extract] at h); omega)))
                                                              rotate_left
                                                              · simp only [Act.put, List.setIfInBounds_toArray, List.set_cons_zero, List.set_cons_succ, i64_w, i32_w]
                                                                rfl
                                                              refine pure_ (i := 6) (N := some 88) (v := ?_) (a' := ?_) #[true, true, true, true, true, true, true, true, false, true, true, true, true, true, false, false, false, false, false, false, false, false, false] rfl rfl (any_of HT_.out (by kernel_rfl)) (fun _ _ _ h => h) (Or.inl ⟨by rfl, ?_⟩) ?_ ?_
                                                              rotate_left
                                                              · intro w'
                                                                go_simp
                                                                first | with_reducible rfl | (rw [if_neg]; all_goals (first | with_reducible rfl | (have h := of_decide_eq_true c41b1; have h39 := of_decide_eq_true c39b1; have h40 := of_decide_eq_true c40b1; (try simp only [ByteArray.size_append, ByteArray.size_extract] at h); omega) | (have h := of_decide_eq_true c44b1; have h39 := of_decide_eq_true c39b1; have h40 := of_decide_eq_true c40b1; (try simp only [ByteArray.size_append, ByteArray.size_extract] at h); omega)))
                                                              rotate_left
                                                              · simp only [Act.put, List.setIfInBounds_toArray, List.set_cons_zero, List.set_cons_succ, i64_w, i32_w]
                                                                rfl
                                                              refine pure_ (i := 8) (N := some 90) (v := ?_) (a' := ?_) #[true, true, true, true, true, true, true, true, true, true, true, true, true, true, false, false, false, false, false, false, false, false, false] rfl rfl (any_of HT_.out (by kernel_rfl)) (fun _ _ _ h => h) (Or.inl ⟨by rfl, ?_⟩) ?_ ?_
                                                              rotate_left
                                                              · intro w'
                                                                go_simp
                                                                first | with_reducible rfl | (rw [if_neg]; all_goals (first | with_reducible rfl | (have h := of_decide_eq_true c41b1; have h39 := of_decide_eq_true c39b1; have h40 := of_decide_eq_true c40b1; (try simp only [ByteArray.size_append, ByteArray.size_extract] at h); omega) | (have h := of_decide_eq_true c44b1; have h39 := of_decide_eq_true c39b1; have h40 := of_decide_eq_true c40b1; (try simp only [ByteArray.size_append, ByteArray.size_extract] at h); omega)))
                                                              rotate_left
                                                              · simp only [Act.put, List.setIfInBounds_toArray, List.set_cons_zero, List.set_cons_succ, i64_w, i32_w]
                                                                rfl
                                                              refine take_ (i := 14) (N := some 96) (v := ?_) (a' := ?_) #[true, true, true, true, true, true, true, true, true, true, true, true, true, true, true, false, false, false, false, false, false, false, false] rfl rfl (take_ofW HT_.out HW_.out (by kernel_rfl)) (fun _ _ _ h => h) (Or.inl ⟨by rfl, ?_⟩) hHeld ?_ ?_
                                                              rotate_left
                                                              · rintro w' ⟨s0, s1, s2, s3, s4, s5⟩
                                                                go_simp
                                                                first | with_reducible rfl | (rw [if_neg]; all_goals (first | with_reducible rfl | (have h := of_decide_eq_true c41b1; have h39 := of_decide_eq_true c39b1; have h40 := of_decide_eq_true c40b1; (try simp only [ByteArray.size_append, ByteArray.size_extract] at h); omega) | (have h := of_decide_eq_true c44b1; have h39 := of_decide_eq_true c39b1; have h40 := of_decide_eq_true c40b1; (try simp only [ByteArray.size_append, ByteArray.size_extract] at h); omega)))
                                                              rotate_left
                                                              · simp only [Act.put, List.setIfInBounds_toArray, List.set_cons_zero, List.set_cons_succ, i64_w, i32_w]
                                                                rfl
                                                              refine pure_ (i := 15) (N := some 97) (v := ?_) (a' := ?_) #[true, true, true, true, true, true, true, true, true, true, true, true, true, true, true, true, false, false, false, false, false, false, false] rfl rfl (any_of HT_.out (by kernel_rfl)) (fun _ _ _ h => h) (Or.inl ⟨by rfl, ?_⟩) ?_ ?_
                                                              rotate_left
                                                              · intro w'
                                                                go_simp
                                                                first | with_reducible rfl | (rw [if_neg]; all_goals (first | with_reducible rfl | (have h := of_decide_eq_true c41b1; have h39 := of_decide_eq_true c39b1; have h40 := of_decide_eq_true c40b1; (try simp only [ByteArray.size_append, ByteArray.size_extract] at h); omega) | (have h := of_decide_eq_true c44b1; have h39 := of_decide_eq_true c39b1; have h40 := of_decide_eq_true c40b1; (try simp only [ByteArray.size_append, ByteArray.size_extract] at h); omega)))
                                                              rotate_left
                                                              · simp only [Act.put, List.setIfInBounds_toArray, List.set_cons_zero, List.set_cons_succ, i64_w, i32_w]
                                                                rfl
                                                              refine pure_ (i := 16) (N := some 98) (v := ?_) (a' := ?_) #[true, true, true, true, true, true, true, true, true, true, true, true, true, true, true, true, true, false, false, false, false, false, false] rfl rfl (any_of HT_.out (by kernel_rfl)) (fun _ _ _ h => h) (Or.inl ⟨by rfl, ?_⟩) ?_ ?_
                                                              rotate_left
                                                              · intro w'
                                                                go_simp
                                                                first | with_reducible rfl | (rw [if_neg]; all_goals (first | with_reducible rfl | (have h := of_decide_eq_true c41b1; have h39 := of_decide_eq_true c39b1; have h40 := of_decide_eq_true c40b1; (try simp only [ByteArray.size_append, ByteArray.size_extract] at h); omega) | (have h := of_decide_eq_true c44b1; have h39 := of_decide_eq_true c39b1; have h40 := of_decide_eq_true c40b1; (try simp only [ByteArray.size_append, ByteArray.size_extract] at h); omega)))
                                                              rotate_left
                                                              · simp only [Act.put, List.setIfInBounds_toArray, List.set_cons_zero, List.set_cons_succ, i64_w, i32_w]
                                                                rfl
                                                              refine one_ (i := 17) (N := some 99) #[true, true, true, true, true, true, true, true, true, true, true, true, true, true, true, true, true, true, false, false, false, false, false] rfl rfl (one_of HT_.out (by kernel_rfl)) (by decide) (fun K hK => ?_)
                                                              refine goes_ Tryz.func10 (by kernel_rfl) rfl #[.string (((a0.extract 0 (((rd_T35 t258 (ji36)).f2) : Int).toNat) ++ (rdOf ByteArray.empty y270 (ji33))) ++ (a0.extract (((rd_T35 t258 (ji36)).f2) : Int).toNat a0.size))] (by rfl) rfl rfl (by (try simp only [List.map_toArray, List.map_cons, List.map_nil]); first | done | (simp only [hji33, hji36]; rfl) | rfl | (simp only [List.length_drop, List.length_take]; rfl)) ?_
                                                              with_reducible refine (TkC.Tokens.calls (((a0.extract 0 (((rd_T35 t258 (ji36)).f2) : Int).toNat) ++ (rdOf ByteArray.empty y270 (ji33))) ++ (a0.extract (((rd_T35 t258 (ji36)).f2) : Int).toNat a0.size)) t276 t279 t280 _ ?side1 A45.out).mono ?_
                                                              (case side1 => first | exact hEnv | exact EnvW.below hEnv (by repeat (first | (with_reducible first | exact HB.out | apply below_alloc | apply pw_below_drewN | apply below_drew1 | refine below_set ?_ GE263.out) | exact HB.out)) | exact hEnv.drewN _)
                                                              rintro e w64 ⟨v277, rfl, ho0, hb⟩
                                                              have HS0_ := (hb.cell (World.block_lt_of_cell? _ _ (hHeld.1))).trans (hHeld.1)
                                                              have HS1_ := (hb.cell (World.block_lt_of_cell? _ _ (hHeld.2.1))).trans (hHeld.2.1)
                                                              have HS2_ := (hb.cell (World.block_lt_of_cell? _ _ (hHeld.2.2.1))).trans (hHeld.2.2.1)
                                                              have HS3_ := (hb.cell (World.block_lt_of_cell? _ _ (hHeld.2.2.2.1))).trans (hHeld.2.2.2.1)
                                                              have HS4_ := (hb.cell (World.block_lt_of_cell? _ _ (hHeld.2.2.2.2.1))).trans (hHeld.2.2.2.2.1)
                                                              have HS5_ := (hb.cell (World.block_lt_of_cell? _ _ (hHeld.2.2.2.2.2))).trans (hHeld.2.2.2.2.2)
                                                              refine ⟨_, rfl, ?_⟩
                                                              have n0_ := Aside0.mk (Kd.R_elder' (by (with_reducible repeat (first | apply Kd.R_alloc | apply Kd.R_drewN | apply Kd.R_drew)); exact HO_7.out) (Kd.R_base ho0) hb)
                                                              have n1_ := Aside0.mk (Kd.R_below (by (with_reducible repeat (first | apply Kd.R_alloc | apply Kd.R_drewN | apply Kd.R_drew)); exact HO272.out) hb)
                                                              have n2_ := Aside0.mk (Kd.R_lower (Kd.R_new' ho0 (Kd.R_lt (by (with_reducible repeat (first | apply Kd.R_alloc | apply Kd.R_drewN | apply Kd.R_drew)); exact HO_7.out))) (below_size (by repeat (first | (with_reducible first | exact HB.out | apply below_alloc | apply pw_below_drewN | apply below_drew1 | refine below_set ?_ GE263.out) | exact HB.out))))
                                                              have n3_ := Aside0.mk (blk_below (g := gb263) (o := .cells #[.int .i64 t261, .int .i64 t262] 26 (0, 0)) (by (with_reducible repeat (first | refine blk_drewN ?_ _ | refine blk_drew ?_ | refine blk_alloc ?_ _)); exact BK263.out) hb)
                                                              have n4_ := Aside0.mk (below_step (by repeat (first | (with_reducible first | exact HB.out | apply below_alloc | apply pw_below_drewN | apply below_drew1 | refine below_set ?_ GE263.out) | exact HB.out)) hb)
                                                              clear HO_7
                                                              clear HO272
                                                              clear BK263
                                                              clear HB
                                                              have HO_7 := n0_
                                                              have HO272 := n1_
                                                              have HO278 := n2_
                                                              have BK263 := n3_
                                                              have HB := n4_
                                                              clear n0_ n1_ n2_ n3_ n4_
                                                              (try clear hb)
                                                              (try clear hb2)
                                                              (try clear hk)
                                                              (try clear hi)
                                                              (try clear ho0)
                                                              refine hK.out _ _ ⟨HS0_, HS1_, HS2_, HS3_, HS4_, HS5_⟩ (fun hHeld => ?_)
                                                              clear hK K
                                                              refine norm_ (a' := ?_) ?_ ?_
                                                              rotate_left
                                                              · show Act.put _ (some 99) _ = _
                                                                simp only [Act.put, List.setIfInBounds_toArray, List.set_cons_zero, List.set_cons_succ, i64_w, i32_w]
                                                                rfl
                                                              refine pure_ (i := 18) (N := some 81) (v := ?_) (a' := ?_) #[true, true, true, true, true, true, true, true, true, true, true, true, true, true, true, true, true, true, true, false, false, false, false] rfl rfl (any_of HT_.out (by kernel_rfl)) (fun _ _ _ h => h) (Or.inl ⟨by rfl, ?_⟩) ?_ ?_
                                                              rotate_left
                                                              · intro w'
                                                                go_simp
                                                                first | with_reducible rfl | (rw [if_neg]; all_goals (first | with_reducible rfl | (have h := of_decide_eq_true c41b1; have h39 := of_decide_eq_true c39b1; have h40 := of_decide_eq_true c40b1; (try simp only [ByteArray.size_append, ByteArray.size_extract] at h); omega) | (have h := of_decide_eq_true c44b1; have h39 := of_decide_eq_true c39b1; have h40 := of_decide_eq_true c40b1; (try simp only [ByteArray.size_append, ByteArray.size_extract] at h); omega)))
                                                              rotate_left
                                                              · simp only [Act.put, List.setIfInBounds_toArray, List.set_cons_zero, List.set_cons_succ, i64_w, i32_w]
                                                                rfl
                                                              refine pure_ (i := 19) (N := some 100) (v := ?_) (a' := ?_) #[true, true, true, true, true, true, true, true, true, true, true, true, true, true, true, true, true, true, true, true, false, false, false] rfl rfl (any_of HT_.out (by kernel_rfl)) (fun _ _ _ h => h) (Or.inl ⟨by rfl, ?_⟩) ?_ ?_
                                                              rotate_left
                                                              · intro w'
                                                                go_simp
                                                                first | with_reducible rfl | (rw [if_neg]; all_goals (first | with_reducible rfl | (have h := of_decide_eq_true c41b1; have h39 := of_decide_eq_true c39b1; have h40 := of_decide_eq_true c40b1; (try simp only [ByteArray.size_append, ByteArray.size_extract] at h); omega) | (have h := of_decide_eq_true c44b1; have h39 := of_decide_eq_true c39b1; have h40 := of_decide_eq_true c40b1; (try simp only [ByteArray.size_append, ByteArray.size_extract] at h); omega)))
                                                              rotate_left
                                                              · simp only [Act.put, List.setIfInBounds_toArray, List.set_cons_zero, List.set_cons_succ, i64_w, i32_w]
                                                                rfl
                                                              refine pure_ (i := 20) (N := some 101) (v := ?_) (a' := ?_) #[true, true, true, true, true, true, true, true, true, true, true, true, true, true, true, true, true, true, true, true, true, false, false] rfl rfl (any_of HT_.out (by kernel_rfl)) (fun _ _ _ h => h) (Or.inl ⟨by rfl, ?_⟩) ?_ ?_
                                                              rotate_left
                                                              · intro w'
                                                                go_simp
                                                                first | with_reducible rfl | (rw [if_neg]; all_goals (first | with_reducible rfl | (have h := of_decide_eq_true c41b1; have h39 := of_decide_eq_true c39b1; have h40 := of_decide_eq_true c40b1; (try simp only [ByteArray.size_append, ByteArray.size_extract] at h); omega) | (have h := of_decide_eq_true c44b1; have h39 := of_decide_eq_true c39b1; have h40 := of_decide_eq_true c40b1; (try simp only [ByteArray.size_append, ByteArray.size_extract] at h); omega)))
                                                              rotate_left
                                                              · simp only [Act.put, List.setIfInBounds_toArray, List.set_cons_zero, List.set_cons_succ, i64_w, i32_w]
                                                                rfl
                                                              refine pure_ (i := 21) (N := some 11) (v := ?_) (a' := ?_) #[true, true, true, true, true, true, true, true, true, true, true, true, true, true, true, true, true, true, true, true, true, true, false] rfl rfl (any_of HT_.out (by kernel_rfl)) (fun _ _ _ h => h) (Or.inl ⟨by rfl, ?_⟩) ?_ ?_
                                                              rotate_left
                                                              · intro w'
                                                                go_simp
                                                                first | with_reducible rfl | (rw [if_neg]; all_goals (first | with_reducible rfl | (have h := of_decide_eq_true c41b1; have h39 := of_decide_eq_true c39b1; have h40 := of_decide_eq_true c40b1; (try simp only [ByteArray.size_append, ByteArray.size_extract] at h); omega) | (have h := of_decide_eq_true c44b1; have h39 := of_decide_eq_true c39b1; have h40 := of_decide_eq_true c40b1; (try simp only [ByteArray.size_append, ByteArray.size_extract] at h); omega)))
                                                              rotate_left
                                                              · simp only [Act.put, List.setIfInBounds_toArray, List.set_cons_zero, List.set_cons_succ, i64_w, i32_w]
                                                                rfl
                                                              refine one_ (i := 22) (N := none) #[true, true, true, true, true, true, true, true, true, true, true, true, true, true, true, true, true, true, true, true, true, true, true] rfl rfl (one_of HT_.out (by kernel_rfl)) (by decide) (fun K hK => ?_)
                                                              have hs65 : w64.cell? ⟨gb263, 0, none⟩ = some (.int .i64 t261) := (blk_cell BK263.out 0).trans rfl
                                                              have hfs65 := blk_frozen BK263.out 0
                                                              have hs66 : w64.cell? ⟨gb263, 1, none⟩ = some (.int .i64 t262) := (blk_cell BK263.out 1).trans rfl
                                                              have hfs66 := blk_frozen BK263.out 1
                                                              refine skip_ (w1 := ?_) (by rfl) rfl ?_ ?_
                                                              rotate_left
                                                              · go_simp
                                                                rfl
                                                              refine hK.out _ _ ⟨((cell_far (p := ⟨gb263, _, none⟩) (by first | exact Kd.own_blk (Kd.R_ne HO_7.out BK263.out (by decide)) | (rw [add_block]; exact Kd.own_blk (Kd.R_ne HO_7.out BK263.out (by decide))) | (show (Addr.add _ _).block ≠ _; rw [add_block]; exact Kd.own_blk (Kd.R_ne HO_7.out BK263.out (by decide))) | (dsimp only; exact Kd.own_blk (Kd.R_ne HO_7.out BK263.out (by decide)))) _).trans (((cell_far (p := ⟨gb263, _, none⟩) (by first | exact Kd.own_blk (Kd.R_ne HO_7.out BK263.out (by decide)) | (rw [add_block]; exact Kd.own_blk (Kd.R_ne HO_7.out BK263.out (by decide))) | (show (Addr.add _ _).block ≠ _; rw [add_block]; exact Kd.own_blk (Kd.R_ne HO_7.out BK263.out (by decide))) | (dsimp only; exact Kd.own_blk (Kd.R_ne HO_7.out BK263.out (by decide)))) _).trans (hHeld.1)))), ((cell_far (p := ⟨gb263, _, none⟩) (by first | exact Kd.own_blk (Kd.R_ne HO_7.out BK263.out (by decide)) | (rw [add_block]; exact Kd.own_blk (Kd.R_ne HO_7.out BK263.out (by decide))) | (show (Addr.add _ _).block ≠ _; rw [add_block]; exact Kd.own_blk (Kd.R_ne HO_7.out BK263.out (by decide))) | (dsimp only; exact Kd.own_blk (Kd.R_ne HO_7.out BK263.out (by decide)))) _).trans (((cell_far (p := ⟨gb263, _, none⟩) (by first | exact Kd.own_blk (Kd.R_ne HO_7.out BK263.out (by decide)) | (rw [add_block]; exact Kd.own_blk (Kd.R_ne HO_7.out BK263.out (by decide))) | (show (Addr.add _ _).block ≠ _; rw [add_block]; exact Kd.own_blk (Kd.R_ne HO_7.out BK263.out (by decide))) | (dsimp only; exact Kd.own_blk (Kd.R_ne HO_7.out BK263.out (by decide)))) _).trans (hHeld.2.1)))), ((cell_far (p := ⟨gb263, _, none⟩) (by first | exact Kd.own_blk (Kd.R_ne HO_7.out BK263.out (by decide)) | (rw [add_block]; exact Kd.own_blk (Kd.R_ne HO_7.out BK263.out (by decide))) | (show (Addr.add _ _).block ≠ _; rw [add_block]; exact Kd.own_blk (Kd.R_ne HO_7.out BK263.out (by decide))) | (dsimp only; exact Kd.own_blk (Kd.R_ne HO_7.out BK263.out (by decide)))) _).trans (((cell_far (p := ⟨gb263, _, none⟩) (by first | exact Kd.own_blk (Kd.R_ne HO_7.out BK263.out (by decide)) | (rw [add_block]; exact Kd.own_blk (Kd.R_ne HO_7.out BK263.out (by decide))) | (show (Addr.add _ _).block ≠ _; rw [add_block]; exact Kd.own_blk (Kd.R_ne HO_7.out BK263.out (by decide))) | (dsimp only; exact Kd.own_blk (Kd.R_ne HO_7.out BK263.out (by decide)))) _).trans (hHeld.2.2.1)))), ((cell_far (p := ⟨gb263, _, none⟩) (by first | exact Kd.own_blk (Kd.R_ne HO_7.out BK263.out (by decide)) | (rw [add_block]; exact Kd.own_blk (Kd.R_ne HO_7.out BK263.out (by decide))) | (show (Addr.add _ _).block ≠ _; rw [add_block]; exact Kd.own_blk (Kd.R_ne HO_7.out BK263.out (by decide))) | (dsimp only; exact Kd.own_blk (Kd.R_ne HO_7.out BK263.out (by decide)))) _).trans (((cell_far (p := ⟨gb263, _, none⟩) (by first | exact Kd.own_blk (Kd.R_ne HO_7.out BK263.out (by decide)) | (rw [add_block]; exact Kd.own_blk (Kd.R_ne HO_7.out BK263.out (by decide))) | (show (Addr.add _ _).block ≠ _; rw [add_block]; exact Kd.own_blk (Kd.R_ne HO_7.out BK263.out (by decide))) | (dsimp only; exact Kd.own_blk (Kd.R_ne HO_7.out BK263.out (by decide)))) _).trans (hHeld.2.2.2.1)))), ((cell_far (p := ⟨gb263, _, none⟩) (by first | exact Kd.own_blk (Kd.R_ne HO_7.out BK263.out (by decide)) | (rw [add_block]; exact Kd.own_blk (Kd.R_ne HO_7.out BK263.out (by decide))) | (show (Addr.add _ _).block ≠ _; rw [add_block]; exact Kd.own_blk (Kd.R_ne HO_7.out BK263.out (by decide))) | (dsimp only; exact Kd.own_blk (Kd.R_ne HO_7.out BK263.out (by decide)))) _).trans (((cell_far (p := ⟨gb263, _, none⟩) (by first | exact Kd.own_blk (Kd.R_ne HO_7.out BK263.out (by decide)) | (rw [add_block]; exact Kd.own_blk (Kd.R_ne HO_7.out BK263.out (by decide))) | (show (Addr.add _ _).block ≠ _; rw [add_block]; exact Kd.own_blk (Kd.R_ne HO_7.out BK263.out (by decide))) | (dsimp only; exact Kd.own_blk (Kd.R_ne HO_7.out BK263.out (by decide)))) _).trans (hHeld.2.2.2.2.1)))), ((cell_far (p := ⟨gb263, _, none⟩) (by first | exact Kd.own_blk (Kd.R_ne HO_7.out BK263.out (by decide)) | (rw [add_block]; exact Kd.own_blk (Kd.R_ne HO_7.out BK263.out (by decide))) | (show (Addr.add _ _).block ≠ _; rw [add_block]; exact Kd.own_blk (Kd.R_ne HO_7.out BK263.out (by decide))) | (dsimp only; exact Kd.own_blk (Kd.R_ne HO_7.out BK263.out (by decide)))) _).trans (((cell_far (p := ⟨gb263, _, none⟩) (by first | exact Kd.own_blk (Kd.R_ne HO_7.out BK263.out (by decide)) | (rw [add_block]; exact Kd.own_blk (Kd.R_ne HO_7.out BK263.out (by decide))) | (show (Addr.add _ _).block ≠ _; rw [add_block]; exact Kd.own_blk (Kd.R_ne HO_7.out BK263.out (by decide))) | (dsimp only; exact Kd.own_blk (Kd.R_ne HO_7.out BK263.out (by decide)))) _).trans (hHeld.2.2.2.2.2))))⟩ (fun hHeld => ?_)
                                                              clear hK K
                                                              refine done_ (done_of HT_.out (by kernel_rfl)) ?_
                                                              have hcz67_0 : w64.cell? ⟨gb263, 0, none⟩ = some (.int .i64 t261) := (blk_cell BK263.out 0).trans rfl
                                                              have hcz67_1 : w64.cell? ⟨gb263, 1, none⟩ = some (.int .i64 t262) := (blk_cell BK263.out 1).trans rfl
                                                              have hfz67_0 := blk_frozen BK263.out 0
                                                              have hfz67_1 := blk_frozen BK263.out 1
                                                              obtain ⟨Ao68, co68, eo68⟩ := Kd.R_slice HO278.out
                                                              subst eo68
                                                              try go_wp2_with (first | (go_at_call 12; (with_reducible refine (cinnabarlaw01_Same.calls kj17 _ _ t258 _ _ t276 false false _ ?side1 ?side2 ?side3 ?side4 A47.out).mono ?_); (case side1 => refine (Kd.R_reads' (e := 35) (base := w.heap.size) (ok := fun k_ => (True ∧ some k_ ≠ (.slice Ao68 t276.length co68 : Value).ownBlock)) (n := t258.length) (c := co19) ?_).2.2; exact (by (with_reducible repeat (first | apply Kd.R_alloc | apply Kd.R_drewN | apply Kd.R_drew)); exact (Kd.R_mono (Kd.R_far (p := ⟨gb263, 1, none⟩) (Kd.R_far (p := ⟨gb263, 0, none⟩) (Kd.R_types HO_7.out BK263.out (by decide)) (fun _ hk => hk.2) (.int .i64 t279)) (fun _ hk => hk.2) (.int .i64 t280)) (fun _ h_ => h_.1)))); (case side2 => exact (Kd.R_reads' HO_7.out).2.1); (case side3 => refine (Kd.R_reads' (e := 35) (base := w.heap.size) (ok := fun k_ => (True ∧ some k_ ≠ (.slice (some ad274) t258.length co19 : Value).ownBlock)) (n := t276.length) (c := co68) ?_).2.2; exact (by (with_reducible repeat (first | apply Kd.R_alloc | apply Kd.R_drewN | apply Kd.R_drew)); exact (Kd.R_mono (Kd.R_far (p := ⟨gb263, 1, none⟩) (Kd.R_far (p := ⟨gb263, 0, none⟩) (Kd.R_types HO278.out BK263.out (by decide)) (fun _ hk => hk.2) (.int .i64 t279)) (fun _ hk => hk.2) (.int .i64 t280)) (fun _ h_ => h_.1)))); (case side4 => exact (Kd.R_reads' HO278.out).2.1); rintro e w' ⟨rfl, ⟨nd, rfl⟩⟩))
                                                              go_ret
                                                              exact ⟨by first | rfl | (simp [errW_none, errW_some] <;> rfl) | (simp only [← hji33, ← hji36]; first | rfl | (simp [errW_none, errW_some] <;> rfl)) | (simp [*, errW_none, errW_some] <;> rfl), by repeat (first | (with_reducible first | exact HB.out | apply below_alloc | apply pw_below_drewN | apply below_drew1 | refine below_set ?_ GE263.out) | exact HB.out)⟩
                                                      · as_aux_lemma =>
                                                          rw [if_neg c46] at H
                                                          have c46b0 : (t280 == 0) = false := beq_eq_false_iff_ne.mpr c46
                                                          have c46b1 : (t280 != 0) = true := bne_iff_ne.mpr c46
                                                          obtain rfl := Option.some.inj H
                                                          try go_wp2_with (first | ((with_reducible refine gate_dst (N := 75) rfl ?_); (try (refine gate_guard (by rfl) ?_; dsimp only)); refine Kd.R_lit Kd.string _ 9 ?hg (N := 75) ?hd (xs := ([(⟨#[32]⟩ : ByteArray), (⟨#[10, 9]⟩ : ByteArray), (⟨#[32, 47, 42, 32, 97, 32, 37, 32, 98, 32, 10, 32, 42, 47, 32]⟩ : ByteArray), (⟨#[32, 37, 32, 99, 32, 39, 100, 32, 10]⟩ : ByteArray)] : List ByteArray)) (inner := [.string (⟨#[32]⟩ : ByteArray), .string (⟨#[10, 9]⟩ : ByteArray), .string (⟨#[32, 47, 42, 32, 97, 32, 37, 32, 98, 32, 10, 32, 42, 47, 32]⟩ : ByteArray), .string (⟨#[32, 37, 32, 99, 32, 39, 100, 32, 10]⟩ : ByteArray)]) (ok := fun _ => True) (okp := fun _ => True) ?hr ?hp (fun _ hk => hk) trivial (Below.refl _ _) (Nat.le_refl _) (by simp) ?_; (case hd => rfl); (case hg => rfl); (case hr => first | (go_simp; done) | (go_simp; rfl)); (case hp => exact (Reps.one (show Kd.M Kd.string _ _ _ (⟨#[32]⟩ : ByteArray) [.string (⟨#[32]⟩ : ByteArray)] from rfl) (Reps.one (show Kd.M Kd.string _ _ _ (⟨#[10, 9]⟩ : ByteArray) [.string (⟨#[10, 9]⟩ : ByteArray)] from rfl) (Reps.one (show Kd.M Kd.string _ _ _ (⟨#[32, 47, 42, 32, 97, 32, 37, 32, 98, 32, 10, 32, 42, 47, 32]⟩ : ByteArray) [.string (⟨#[32, 47, 42, 32, 97, 32, 37, 32, 98, 32, 10, 32, 42, 47, 32]⟩ : ByteArray)] from rfl) (Reps.one (show Kd.M Kd.string _ _ _ (⟨#[32, 37, 32, 99, 32, 39, 100, 32, 10]⟩ : ByteArray) [.string (⟨#[32, 37, 32, 99, 32, 39, 100, 32, 10]⟩ : ByteArray)] from rfl) (Reps.none _ _)))))); intro v271 w69 ho70 hb hg_ hnew_; clear hg_ hnew_; (first | rw [← Ny270.out] at ho70 | (simp only [Int.reduceToNat] at ho70; rw [← Ny270.out] at ho70)); have n0_ := Aside0.mk (Kd.R_below (by (with_reducible repeat (first | apply Kd.R_alloc | apply Kd.R_drewN | apply Kd.R_drew)); exact HO_7.out) hb); have n1_ := Aside0.mk (Kd.R_lower ho70 (below_size (by repeat (first | (with_reducible first | exact HB.out | apply below_alloc | apply pw_below_drewN | apply below_drew1 | refine below_set ?_ GE263.out) | exact HB.out)))); have n2_ := Aside0.mk (blk_below (g := gb263) (o := .cells #[.int .i64 t261, .int .i64 t262] 26 (0, 0)) (by (with_reducible repeat (first | refine blk_drewN ?_ _ | refine blk_drew ?_ | refine blk_alloc ?_ _)); exact BK263.out) hb); have n3_ := Aside0.mk (below_step (by repeat (first | (with_reducible first | exact HB.out | apply below_alloc | apply pw_below_drewN | apply below_drew1 | refine below_set ?_ GE263.out) | exact HB.out)) hb); clear HO_7; clear BK263; clear HB; have HO_7 := n0_; have HO272 := n1_; have BK263 := n2_; have HB := n3_; clear n0_ n1_ n2_ n3_; clear hb ho70; obtain ⟨Ao71, co71, eo71⟩ := Kd.R_slice HO272.out; subst eo71; have p273 : 0 ≤ ((ji33) : Int) := of_decide_eq_true (by first | (with_reducible assumption) | assumption); have q273 : (ji33) < (y270.length : Int) := of_decide_eq_true (by first | (with_reducible assumption) | assumption); obtain ⟨ad273, e273, hx273_0⟩ := Kd.at_string (Kd.R_reads' HO272.out).2.2 (ji33) p273 q273; cases e273; replace p273 := eq_true p273; replace q273 := eq_true q273))
                                                          have n0_ := Aside0.mk (Kd.R_drew HO_7.out)
                                                          have n1_ := Aside0.mk (Kd.R_drew HO272.out)
                                                          have n2_ := Aside0.mk (blk_drew BK263.out)
                                                          have n3_ := Aside0.mk (below_drew1 HB.out)
                                                          clear HO_7
                                                          clear HO272
                                                          clear BK263
                                                          clear HB
                                                          have HO_7 := n0_
                                                          have HO272 := n1_
                                                          have BK263 := n2_
                                                          have HB := n3_
                                                          clear n0_ n1_ n2_ n3_
                                                          have p274 : 0 ≤ ((ji36) : Int) := of_decide_eq_true (by first | (with_reducible assumption) | assumption)
                                                          have q274 : (ji36) < (t258.length : Int) := of_decide_eq_true (by first | (with_reducible assumption) | assumption)
                                                          obtain ⟨ad274, e274, hx274_0, hx274_1, hx274_2⟩ := at_T35 (Kd.R_reads' HO_7.out).2.2 (ji36) p274 q274
                                                          cases e274
                                                          replace p274 := eq_true p274
                                                          replace q274 := eq_true q274
                                                          have p275 : 0 ≤ ((ji36) : Int) := of_decide_eq_true (by first | (with_reducible assumption) | assumption)
                                                          have q275 : (ji36) < (t258.length : Int) := of_decide_eq_true (by first | (with_reducible assumption) | assumption)
                                                          obtain ⟨ad275, e275, hx275_0, hx275_1, hx275_2⟩ := at_T35 (Kd.R_reads' HO_7.out).2.2 (ji36) p275 q275
                                                          obtain rfl : ad274 = ad275 := (by injection e275)
                                                          replace p275 := eq_true p275
                                                          replace q275 := eq_true q275
                                                          refine start_ (n := 23) (S := fun w' => w'.cell? (ad274.add (((ji36)).toNat * 3)) = some (.int .i64 ((rd_T35 t258 (ji36)).f0)) ∧ w'.cell? ⟨(ad274.add (((ji36)).toNat * 3)).block, (ad274.add (((ji36)).toNat * 3)).off + 1, none⟩ = some (.string ((rd_T35 t258 (ji36)).f1)) ∧ w'.cell? ⟨(ad274.add (((ji36)).toNat * 3)).block, (ad274.add (((ji36)).toNat * 3)).off + 2, none⟩ = some (.int .i64 ((rd_T35 t258 (ji36)).f2)) ∧ w'.cell? (ad274.add (((ji36)).toNat * 3)) = some (.int .i64 ((rd_T35 t258 (ji36)).f0)) ∧ w'.cell? ⟨(ad274.add (((ji36)).toNat * 3)).block, (ad274.add (((ji36)).toNat * 3)).off + 1, none⟩ = some (.string ((rd_T35 t258 (ji36)).f1)) ∧ w'.cell? ⟨(ad274.add (((ji36)).toNat * 3)).block, (ad274.add (((ji36)).toNat * 3)).off + 2, none⟩ = some (.int .i64 ((rd_T35 t258 (ji36)).f2))) (ds := []) #[false, false, false, false, false, false, false, false, false, false, false, false, false, false, false, false, false, false, false, false, false, false, false] (by kernel_rfl) rfl rfl ⟨hx274_0, hx274_1, hx274_2, hx275_0, hx275_1, hx275_2⟩ (fun hHeld => ?_); refine with_tabW cinnabarlaw01_TokensBlanks.tab8 cinnabarlaw01_TokensBlanks.bits8 (fun HT_ HW_ => ?_)
                                                          generalize w69.drew = w72 at HO_7 HO272 BK263 HB hx274_0 hx274_1 hx274_2 hx275_0 hx275_1 hx275_2 hHeld ⊢
                                                          refine pure_ (i := 0) (N := some 82) (v := ?_) (a' := ?_) #[true, false, false, false, false, false, false, false, false, false, false, false, false, false, false, false, false, false, false, false, false, false, false] rfl rfl (any_of HT_.out (by kernel_rfl)) (fun _ _ _ h => h) (Or.inl ⟨by rfl, ?_⟩) ?_ ?_
                                                          rotate_left
                                                          · intro w'
                                                            go_simp
                                                            first | with_reducible rfl | (rw [if_neg]; all_goals (first | with_reducible rfl | (have h := of_decide_eq_true c41b1; have h39 := of_decide_eq_true c39b1; have h40 := of_decide_eq_true c40b1; (try simp only [ByteArray.size_append, ByteArray.size_extract] at h); omega) | (have h := of_decide_eq_true c44b1; have h39 := of_decide_eq_true c39b1; have h40 := of_decide_eq_true c40b1; (try simp only [ByteArray.size_append, ByteArray.size_extract] at h); omega)))
                                                          rotate_left
                                                          · simp only [Act.put, List.setIfInBounds_toArray, List.set_cons_zero, List.set_cons_succ, i64_w, i32_w]
                                                            rfl
                                                          refine pure_ (i := 1) (N := some 83) (v := ?_) (a' := ?_) #[true, true, false, false, false, false, false, false, false, false, false, false, false, false, false, false, false, false, false, false, false, false, false] rfl rfl (any_of HT_.out (by kernel_rfl)) (fun _ _ _ h => h) (Or.inl ⟨by rfl, ?_⟩) ?_ ?_
                                                          rotate_left
                                                          · intro w'
                                                            go_simp
                                                            first | with_reducible rfl | (rw [if_neg]; all_goals (first | with_reducible rfl | (have h := of_decide_eq_true c41b1; have h39 := of_decide_eq_true c39b1; have h40 := of_decide_eq_true c40b1; (try simp only [ByteArray.size_append, ByteArray.size_extract] at h); omega) | (have h := of_decide_eq_true c44b1; have h39 := of_decide_eq_true c39b1; have h40 := of_decide_eq_true c40b1; (try simp only [ByteArray.size_append, ByteArray.size_extract] at h); omega)))
                                                          rotate_left
                                                          · simp only [Act.put, List.setIfInBounds_toArray, List.set_cons_zero, List.set_cons_succ, i64_w, i32_w]
                                                            rfl
                                                          refine pure_ (i := 2) (N := some 84) (v := ?_) (a' := ?_) #[true, true, true, false, false, false, false, false, false, false, false, false, false, false, false, false, false, false, false, false, false, false, false] rfl rfl (any_of HT_.out (by kernel_rfl)) (fun _ _ _ h => h) (Or.inl ⟨by rfl, ?_⟩) ?_ ?_
                                                          rotate_left
                                                          · intro w'
                                                            go_simp
                                                            first | with_reducible rfl | (rw [if_neg]; all_goals (first | with_reducible rfl | (have h := of_decide_eq_true c41b1; have h39 := of_decide_eq_true c39b1; have h40 := of_decide_eq_true c40b1; (try simp only [ByteArray.size_append, ByteArray.size_extract] at h); omega) | (have h := of_decide_eq_true c44b1; have h39 := of_decide_eq_true c39b1; have h40 := of_decide_eq_true c40b1; (try simp only [ByteArray.size_append, ByteArray.size_extract] at h); omega)))
                                                          rotate_left
                                                          · simp only [Act.put, List.setIfInBounds_toArray, List.set_cons_zero, List.set_cons_succ, i64_w, i32_w]
                                                            rfl
                                                          refine pure_ (i := 3) (N := some 85) (v := ?_) (a' := ?_) #[true, true, true, true, false, false, false, false, false, false, false, false, false, false, false, false, false, false, false, false, false, false, false] rfl rfl (any_of HT_.out (by kernel_rfl)) (fun _ _ _ h => h) (Or.inl ⟨by rfl, ?_⟩) ?_ ?_
                                                          rotate_left
                                                          · intro w'
                                                            go_simp
                                                            first | with_reducible rfl | (rw [if_neg]; all_goals (first | with_reducible rfl | (have h := of_decide_eq_true c41b1; have h39 := of_decide_eq_true c39b1; have h40 := of_decide_eq_true c40b1; (try simp only [ByteArray.size_append, ByteArray.size_extract] at h); omega) | (have h := of_decide_eq_true c44b1; have h39 := of_decide_eq_true c39b1; have h40 := of_decide_eq_true c40b1; (try simp only [ByteArray.size_append, ByteArray.size_extract] at h); omega)))
                                                          rotate_left
                                                          · simp only [Act.put, List.setIfInBounds_toArray, List.set_cons_zero, List.set_cons_succ, i64_w, i32_w]
                                                            rfl
                                                          refine pure_ (i := 4) (N := some 86) (v := ?_) (a' := ?_) #[true, true, true, true, true, false, false, false, false, false, false, false, false, false, false, false, false, false, false, false, false, false, false] rfl rfl (any_of HT_.out (by kernel_rfl)) (fun _ _ _ h => h) (Or.inl ⟨by rfl, ?_⟩) ?_ ?_
                                                          rotate_left
                                                          · intro w'
                                                            go_simp
                                                            first | with_reducible rfl | (rw [if_neg]; all_goals (first | with_reducible rfl | (have h := of_decide_eq_true c41b1; have h39 := of_decide_eq_true c39b1; have h40 := of_decide_eq_true c40b1; (try simp only [ByteArray.size_append, ByteArray.size_extract] at h); omega) | (have h := of_decide_eq_true c44b1; have h39 := of_decide_eq_true c39b1; have h40 := of_decide_eq_true c40b1; (try simp only [ByteArray.size_append, ByteArray.size_extract] at h); omega)))
                                                          rotate_left
                                                          · simp only [Act.put, List.setIfInBounds_toArray, List.set_cons_zero, List.set_cons_succ, i64_w, i32_w]
                                                            rfl
                                                          refine pure_ (i := 7) (N := some 89) (v := ?_) (a' := ?_) #[true, true, true, true, true, false, false, true, false, false, false, false, false, false, false, false, false, false, false, false, false, false, false] rfl rfl (any_of HT_.out (by kernel_rfl)) (fun _ _ _ h => h) (Or.inl ⟨by rfl, ?_⟩) ?_ ?_
                                                          rotate_left
                                                          · intro w'
                                                            go_simp
                                                            first | with_reducible rfl | (rw [if_neg]; all_goals (first | with_reducible rfl | (have h := of_decide_eq_true c41b1; have h39 := of_decide_eq_true c39b1; have h40 := of_decide_eq_true c40b1; (try simp only [ByteArray.size_append, ByteArray.size_extract] at h); omega) | (have h := of_decide_eq_true c44b1; have h39 := of_decide_eq_true c39b1; have h40 := of_decide_eq_true c40b1; (try simp only [ByteArray.size_append, ByteArray.size_extract] at h); omega)))
                                                          rotate_left
                                                          · simp only [Act.put, List.setIfInBounds_toArray, List.set_cons_zero, List.set_cons_succ, i64_w, i32_w]
                                                            rfl
                                                          refine pure_ (i := 9) (N := some 91) (v := ?_) (a' := ?_) #[true, true, true, true, true, false, false, true, false, true, false, false, false, false, false, false, false, false, false, false, false, false, false] rfl rfl (any_of HT_.out (by kernel_rfl)) (fun _ _ _ h => h) (Or.inl ⟨by rfl, ?_⟩) ?_ ?_
                                                          rotate_left
                                                          · intro w'
                                                            go_simp
                                                            first | with_reducible rfl | (rw [if_neg]; all_goals (first | with_reducible rfl | (have h := of_decide_eq_true c41b1; have h39 := of_decide_eq_true c39b1; have h40 := of_decide_eq_true c40b1; (try simp only [ByteArray.size_append, ByteArray.size_extract] at h); omega) | (have h := of_decide_eq_true c44b1; have h39 := of_decide_eq_true c39b1; have h40 := of_decide_eq_true c40b1; (try simp only [ByteArray.size_append, ByteArray.size_extract] at h); omega)))
                                                          rotate_left
                                                          · simp only [Act.put, List.setIfInBounds_toArray, List.set_cons_zero, List.set_cons_succ, i64_w, i32_w]
                                                            rfl
                                                          refine pure_ (i := 10) (N := some 92) (v := ?_) (a' := ?_) #[true, true, true, true, true, false, false, true, false, true, true, false, false, false, false, false, false, false, false, false, false, false, false] rfl rfl (any_of HT_.out (by kernel_rfl)) (fun _ _ _ h => h) (Or.inl ⟨by rfl, ?_⟩) ?_ ?_
                                                          rotate_left
                                                          · intro w'
                                                            go_simp
                                                            first | with_reducible rfl | (rw [if_neg]; all_goals (first | with_reducible rfl | (have h := of_decide_eq_true c41b1; have h39 := of_decide_eq_true c39b1; have h40 := of_decide_eq_true c40b1; (try simp only [ByteArray.size_append, ByteArray.size_extract] at h); omega) | (have h := of_decide_eq_true c44b1; have h39 := of_decide_eq_true c39b1; have h40 := of_decide_eq_true c40b1; (try simp only [ByteArray.size_append, ByteArray.size_extract] at h); omega)))
                                                          rotate_left
                                                          · simp only [Act.put, List.setIfInBounds_toArray, List.set_cons_zero, List.set_cons_succ, i64_w, i32_w]
                                                            rfl
                                                          refine pure_ (i := 11) (N := some 93) (v := ?_) (a' := ?_) #[true, true, true, true, true, false, false, true, false, true, true, true, false, false, false, false, false, false, false, false, false, false, false] rfl rfl (any_of HT_.out (by kernel_rfl)) (fun _ _ _ h => h) (Or.inl ⟨by rfl, ?_⟩) ?_ ?_
                                                          rotate_left
                                                          · intro w'
                                                            go_simp
                                                            first | with_reducible rfl | (rw [if_neg]; all_goals (first | with_reducible rfl | (have h := of_decide_eq_true c41b1; have h39 := of_decide_eq_true c39b1; have h40 := of_decide_eq_true c40b1; (try simp only [ByteArray.size_append, ByteArray.size_extract] at h); omega) | (have h := of_decide_eq_true c44b1; have h39 := of_decide_eq_true c39b1; have h40 := of_decide_eq_true c40b1; (try simp only [ByteArray.size_append, ByteArray.size_extract] at h); omega)))
                                                          rotate_left
                                                          · simp only [Act.put, List.setIfInBounds_toArray, List.set_cons_zero, List.set_cons_succ, i64_w, i32_w]
                                                            rfl
                                                          refine pure_ (i := 12) (N := some 94) (v := ?_) (a' := ?_) #[true, true, true, true, true, false, false, true, false, true, true, true, true, false, false, false, false, false, false, false, false, false, false] rfl rfl (any_of HT_.out (by kernel_rfl)) (fun _ _ _ h => h) (Or.inl ⟨by rfl, ?_⟩) ?_ ?_
                                                          rotate_left
                                                          · intro w'
                                                            go_simp
                                                            first | with_reducible rfl | (rw [if_neg]; all_goals (first | with_reducible rfl | (have h := of_decide_eq_true c41b1; have h39 := of_decide_eq_true c39b1; have h40 := of_decide_eq_true c40b1; (try simp only [ByteArray.size_append, ByteArray.size_extract] at h); omega) | (have h := of_decide_eq_true c44b1; have h39 := of_decide_eq_true c39b1; have h40 := of_decide_eq_true c40b1; (try simp only [ByteArray.size_append, ByteArray.size_extract] at h); omega)))
                                                          rotate_left
                                                          · simp only [Act.put, List.setIfInBounds_toArray, List.set_cons_zero, List.set_cons_succ, i64_w, i32_w]
                                                            rfl
                                                          refine pure_ (i := 13) (N := some 95) (v := ?_) (a' := ?_) #[true, true, true, true, true, false, false, true, false, true, true, true, true, true, false, false, false, false, false, false, false, false, false] rfl rfl (any_of HT_.out (by kernel_rfl)) (fun _ _ _ h => h) (Or.inl ⟨by rfl, ?_⟩) ?_ ?_
                                                          rotate_left
                                                          · intro w'
                                                            go_simp
                                                            first | with_reducible rfl | (rw [if_neg]; all_goals (first | with_reducible rfl | (have h := of_decide_eq_true c41b1; have h39 := of_decide_eq_true c39b1; have h40 := of_decide_eq_true c40b1; (try simp only [ByteArray.size_append, ByteArray.size_extract] at h); omega) | (have h := of_decide_eq_true c44b1; have h39 := of_decide_eq_true c39b1; have h40 := of_decide_eq_true c40b1; (try simp only [ByteArray.size_append, ByteArray.size_extract] at h); omega)))
                                                          rotate_left
                                                          · simp only [Act.put, List.setIfInBounds_toArray, List.set_cons_zero, List.set_cons_succ, i64_w, i32_w]
                                                            rfl
                                                          refine take_ (i := 5) (N := some 87) (v := ?_) (a' := ?_) #[true, true, true, true, true, true, false, true, false, true, true, true, true, true, false, false, false, false, false, false, false, false, false] rfl rfl (take_ofW HT_.out HW_.out (by kernel_rfl)) (fun _ _ _ h => h) (Or.inl ⟨by rfl, ?_⟩) hHeld ?_ ?_
                                                          rotate_left
                                                          · rintro w' ⟨s0, s1, s2, s3, s4, s5⟩
                                                            go_simp
                                                            first | with_reducible rfl | (rw [if_neg]; all_goals (first | with_reducible rfl | (have h := of_decide_eq_true c41b1; have h39 := of_decide_eq_true c39b1; have h40 := of_decide_eq_true c40b1; (try simp only [ByteArray.size_append, ByteArray.size_extract] at h); omega) | (have h := of_decide_eq_true c44b1; have h39 := of_decide_eq_true c39b1; have h40 := of_decide_eq_true c40b1; (try simp only [ByteArray.size_append, ByteArray.size_extract] at h); omega)))
                                                          rotate_left
                                                          · simp only [Act.put, List.setIfInBounds_toArray, List.set_cons_zero, List.set_cons_succ, i64_w, i32_w]
                                                            rfl
                                                          refine pure_ (i := 6) (N := some 88) (v := ?_) (a' := ?_) #[true, true, true, true, true, true, true, true, false, true, true, true, true, true, false, false, false, false, false, false, false, false, false] rfl rfl (any_of HT_.out (by kernel_rfl)) (fun _ _ _ h => h) (Or.inl ⟨by rfl, ?_⟩) ?_ ?_
                                                          rotate_left
                                                          · intro w'
                                                            go_simp
                                                            first | with_reducible rfl | (rw [if_neg]; all_goals (first | with_reducible rfl | (have h := of_decide_eq_true c41b1; have h39 := of_decide_eq_true c39b1; have h40 := of_decide_eq_true c40b1; (try simp only [ByteArray.size_append, ByteArray.size_extract] at h); omega) | (have h := of_decide_eq_true c44b1; have h39 := of_decide_eq_true c39b1; have h40 := of_decide_eq_true c40b1; (try simp only [ByteArray.size_append, ByteArray.size_extract] at h); omega)))
                                                          rotate_left
                                                          · simp only [Act.put, List.setIfInBounds_toArray, List.set_cons_zero, List.set_cons_succ, i64_w, i32_w]
                                                            rfl
                                                          refine pure_ (i := 8) (N := some 90) (v := ?_) (a' := ?_) #[true, true, true, true, true, true, true, true, true, true, true, true, true, true, false, false, false, false, false, false, false, false, false] rfl rfl (any_of HT_.out (by kernel_rfl)) (fun _ _ _ h => h) (Or.inl ⟨by rfl, ?_⟩) ?_ ?_
                                                          rotate_left
                                                          · intro w'
                                                            go_simp
                                                            first | with_reducible rfl | (rw [if_neg]; all_goals (first | with_reducible rfl | (have h := of_decide_eq_true c41b1; have h39 := of_decide_eq_true c39b1; have h40 := of_decide_eq_true c40b1; (try simp only [ByteArray.size_append, ByteArray.size_extract] at h); omega) | (have h := of_decide_eq_true c44b1; have h39 := of_decide_eq_true c39b1; have h40 := of_decide_eq_true c40b1; (try simp only [ByteArray.size_append, ByteArray.size_extract] at h); omega)))
                                                          rotate_left
                                                          · simp only [Act.put, List.setIfInBounds_toArray, List.set_cons_zero, List.set_cons_succ, i64_w, i32_w]
                                                            rfl
                                                          refine take_ (i := 14) (N := some 96) (v := ?_) (a' := ?_) #[true, true, true, true, true, true, true, true, true, true, true, true, true, true, true, false, false, false, false, false, false, false, false] rfl rfl (take_ofW HT_.out HW_.out (by kernel_rfl)) (fun _ _ _ h => h) (Or.inl ⟨by rfl, ?_⟩) hHeld ?_ ?_
                                                          rotate_left
                                                          · rintro w' ⟨s0, s1, s2, s3, s4, s5⟩
                                                            go_simp
                                                            first | with_reducible rfl | (rw [if_neg]; all_goals (first | with_reducible rfl | (have h := of_decide_eq_true c41b1; have h39 := of_decide_eq_true c39b1; have h40 := of_decide_eq_true c40b1; (try simp only [ByteArray.size_append, ByteArray.size_extract] at h); omega) | (have h := of_decide_eq_true c44b1; have h39 := of_decide_eq_true c39b1; have h40 := of_decide_eq_true c40b1; (try simp only [ByteArray.size_append, ByteArray.size_extract] at h); omega)))
                                                          rotate_left
                                                          · simp only [Act.put, List.setIfInBounds_toArray, List.set_cons_zero, List.set_cons_succ, i64_w, i32_w]
                                                            rfl
                                                          refine pure_ (i := 15) (N := some 97) (v := ?_) (a' := ?_) #[true, true, true, true, true, true, true, true, true, true, true, true, true, true, true, true, false, false, false, false, false, false, false] rfl rfl (any_of HT_.out (by kernel_rfl)) (fun _ _ _ h => h) (Or.inl ⟨by rfl, ?_⟩) ?_ ?_
                                                          rotate_left
                                                          · intro w'
                                                            go_simp
                                                            first | with_reducible rfl | (rw [if_neg]; all_goals (first | with_reducible rfl | (have h := of_decide_eq_true c41b1; have h39 := of_decide_eq_true c39b1; have h40 := of_decide_eq_true c40b1; (try simp only [ByteArray.size_append, ByteArray.size_extract] at h); omega) | (have h := of_decide_eq_true c44b1; have h39 := of_decide_eq_true c39b1; have h40 := of_decide_eq_true c40b1; (try simp only [ByteArray.size_append, ByteArray.size_extract] at h); omega)))
                                                          rotate_left
                                                          · simp only [Act.put, List.setIfInBounds_toArray, List.set_cons_zero, List.set_cons_succ, i64_w, i32_w]
                                                            rfl
                                                          refine pure_ (i := 16) (N := some 98) (v := ?_) (a' := ?_) #[true, true, true, true, true, true, true, true, true, true, true, true, true, true, true, true, true, false, false, false, false, false, false] rfl rfl (any_of HT_.out (by kernel_rfl)) (fun _ _ _ h => h) (Or.inl ⟨by rfl, ?_⟩) ?_ ?_
                                                          rotate_left
                                                          · intro w'
                                                            go_simp
                                                            first | with_reducible rfl | (rw [if_neg]; all_goals (first | with_reducible rfl | (have h := of_decide_eq_true c41b1; have h39 := of_decide_eq_true c39b1; have h40 := of_decide_eq_true c40b1; (try simp only [ByteArray.size_append, ByteArray.size_extract] at h); omega) | (have h := of_decide_eq_true c44b1; have h39 := of_decide_eq_true c39b1; have h40 := of_decide_eq_true c40b1; (try simp only [ByteArray.size_append, ByteArray.size_extract] at h); omega)))
                                                          rotate_left
                                                          · simp only [Act.put, List.setIfInBounds_toArray, List.set_cons_zero, List.set_cons_succ, i64_w, i32_w]
                                                            rfl
                                                          refine one_ (i := 17) (N := some 99) #[true, true, true, true, true, true, true, true, true, true, true, true, true, true, true, true, true, true, false, false, false, false, false] rfl rfl (one_of HT_.out (by kernel_rfl)) (by decide) (fun K hK => ?_)
                                                          refine goes_ Tryz.func10 (by kernel_rfl) rfl #[.string (((a0.extract 0 (((rd_T35 t258 (ji36)).f2) : Int).toNat) ++ (rdOf ByteArray.empty y270 (ji33))) ++ (a0.extract (((rd_T35 t258 (ji36)).f2) : Int).toNat a0.size))] (by rfl) rfl rfl (by (try simp only [List.map_toArray, List.map_cons, List.map_nil]); first | done | (simp only [hji33, hji36]; rfl) | rfl | (simp only [List.length_drop, List.length_take]; rfl)) ?_
                                                          with_reducible refine (TkC.Tokens.calls (((a0.extract 0 (((rd_T35 t258 (ji36)).f2) : Int).toNat) ++ (rdOf ByteArray.empty y270 (ji33))) ++ (a0.extract (((rd_T35 t258 (ji36)).f2) : Int).toNat a0.size)) t276 t279 t280 _ ?side1 A45.out).mono ?_
                                                          (case side1 => first | exact hEnv | exact EnvW.below hEnv (by repeat (first | (with_reducible first | exact HB.out | apply below_alloc | apply pw_below_drewN | apply below_drew1 | refine below_set ?_ GE263.out) | exact HB.out)) | exact hEnv.drewN _)
                                                          rintro e w73 ⟨v277, rfl, ho0, hb⟩
                                                          have HS0_ := (hb.cell (World.block_lt_of_cell? _ _ (hHeld.1))).trans (hHeld.1)
                                                          have HS1_ := (hb.cell (World.block_lt_of_cell? _ _ (hHeld.2.1))).trans (hHeld.2.1)
                                                          have HS2_ := (hb.cell (World.block_lt_of_cell? _ _ (hHeld.2.2.1))).trans (hHeld.2.2.1)
                                                          have HS3_ := (hb.cell (World.block_lt_of_cell? _ _ (hHeld.2.2.2.1))).trans (hHeld.2.2.2.1)
                                                          have HS4_ := (hb.cell (World.block_lt_of_cell? _ _ (hHeld.2.2.2.2.1))).trans (hHeld.2.2.2.2.1)
                                                          have HS5_ := (hb.cell (World.block_lt_of_cell? _ _ (hHeld.2.2.2.2.2))).trans (hHeld.2.2.2.2.2)
                                                          refine ⟨_, rfl, ?_⟩
                                                          have n0_ := Aside0.mk (Kd.R_elder' (by (with_reducible repeat (first | apply Kd.R_alloc | apply Kd.R_drewN | apply Kd.R_drew)); exact HO_7.out) (Kd.R_base ho0) hb)
                                                          have n1_ := Aside0.mk (Kd.R_below (by (with_reducible repeat (first | apply Kd.R_alloc | apply Kd.R_drewN | apply Kd.R_drew)); exact HO272.out) hb)
                                                          have n2_ := Aside0.mk (Kd.R_lower (Kd.R_new' ho0 (Kd.R_lt (by (with_reducible repeat (first | apply Kd.R_alloc | apply Kd.R_drewN | apply Kd.R_drew)); exact HO_7.out))) (below_size (by repeat (first | (with_reducible first | exact HB.out | apply below_alloc | apply pw_below_drewN | apply below_drew1 | refine below_set ?_ GE263.out) | exact HB.out))))
                                                          have n3_ := Aside0.mk (blk_below (g := gb263) (o := .cells #[.int .i64 t261, .int .i64 t262] 26 (0, 0)) (by (with_reducible repeat (first | refine blk_drewN ?_ _ | refine blk_drew ?_ | refine blk_alloc ?_ _)); exact BK263.out) hb)
                                                          have n4_ := Aside0.mk (below_step (by repeat (first | (with_reducible first | exact HB.out | apply below_alloc | apply pw_below_drewN | apply below_drew1 | refine below_set ?_ GE263.out) | exact HB.out)) hb)
                                                          clear HO_7
                                                          clear HO272
                                                          clear BK263
                                                          clear HB
                                                          have HO_7 := n0_
                                                          have HO272 := n1_
                                                          have HO278 := n2_
                                                          have BK263 := n3_
                                                          have HB := n4_
                                                          clear n0_ n1_ n2_ n3_ n4_
                                                          (try clear hb)
                                                          (try clear hb2)
                                                          (try clear hk)
                                                          (try clear hi)
                                                          (try clear ho0)
                                                          refine hK.out _ _ ⟨HS0_, HS1_, HS2_, HS3_, HS4_, HS5_⟩ (fun hHeld => ?_)
                                                          clear hK K
                                                          refine norm_ (a' := ?_) ?_ ?_
                                                          rotate_left
                                                          · show Act.put _ (some 99) _ = _
                                                            simp only [Act.put, List.setIfInBounds_toArray, List.set_cons_zero, List.set_cons_succ, i64_w, i32_w]
                                                            rfl
                                                          refine pure_ (i := 18) (N := some 81) (v := ?_) (a' := ?_) #[true, true, true, true, true, true, true, true, true, true, true, true, true, true, true, true, true, true, true, false, false, false, false] rfl rfl (any_of HT_.out (by kernel_rfl)) (fun _ _ _ h => h) (Or.inl ⟨by rfl, ?_⟩) ?_ ?_
                                                          rotate_left
                                                          · intro w'
                                                            go_simp
                                                            first | with_reducible rfl | (rw [if_neg]; all_goals (first | with_reducible rfl | (have h := of_decide_eq_true c41b1; have h39 := of_decide_eq_true c39b1; have h40 := of_decide_eq_true c40b1; (try simp only [ByteArray.size_append, ByteArray.size_extract] at h); omega) | (have h := of_decide_eq_true c44b1; have h39 := of_decide_eq_true c39b1; have h40 := of_decide_eq_true c40b1; (try simp only [ByteArray.size_append, ByteArray.size_extract] at h); omega)))
                                                          rotate_left
                                                          · simp only [Act.put, List.setIfInBounds_toArray, List.set_cons_zero, List.set_cons_succ, i64_w, i32_w]
                                                            rfl
                                                          refine pure_ (i := 19) (N := some 100) (v := ?_) (a' := ?_) #[true, true, true, true, true, true, true, true, true, true, true, true, true, true, true, true, true, true, true, true, false, false, false] rfl rfl (any_of HT_.out (by kernel_rfl)) (fun _ _ _ h => h) (Or.inl ⟨by rfl, ?_⟩) ?_ ?_
                                                          rotate_left
                                                          · intro w'
                                                            go_simp
                                                            first | with_reducible rfl | (rw [if_neg]; all_goals (first | with_reducible rfl | (have h := of_decide_eq_true c41b1; have h39 := of_decide_eq_true c39b1; have h40 := of_decide_eq_true c40b1; (try simp only [ByteArray.size_append, ByteArray.size_extract] at h); omega) | (have h := of_decide_eq_true c44b1; have h39 := of_decide_eq_true c39b1; have h40 := of_decide_eq_true c40b1; (try simp only [ByteArray.size_append, ByteArray.size_extract] at h); omega)))
                                                          rotate_left
                                                          · simp only [Act.put, List.setIfInBounds_toArray, List.set_cons_zero, List.set_cons_succ, i64_w, i32_w]
                                                            rfl
                                                          refine pure_ (i := 20) (N := some 101) (v := ?_) (a' := ?_) #[true, true, true, true, true, true, true, true, true, true, true, true, true, true, true, true, true, true, true, true, true, false, false] rfl rfl (any_of HT_.out (by kernel_rfl)) (fun _ _ _ h => h) (Or.inl ⟨by rfl, ?_⟩) ?_ ?_
                                                          rotate_left
                                                          · intro w'
                                                            go_simp
                                                            first | with_reducible rfl | (rw [if_neg]; all_goals (first | with_reducible rfl | (have h := of_decide_eq_true c41b1; have h39 := of_decide_eq_true c39b1; have h40 := of_decide_eq_true c40b1; (try simp only [ByteArray.size_append, ByteArray.size_extract] at h); omega) | (have h := of_decide_eq_true c44b1; have h39 := of_decide_eq_true c39b1; have h40 := of_decide_eq_true c40b1; (try simp only [ByteArray.size_append, ByteArray.size_extract] at h); omega)))
                                                          rotate_left
                                                          · simp only [Act.put, List.setIfInBounds_toArray, List.set_cons_zero, List.set_cons_succ, i64_w, i32_w]
                                                            rfl
                                                          refine pure_ (i := 21) (N := some 11) (v := ?_) (a' := ?_) #[true, true, true, true, true, true, true, true, true, true, true, true, true, true, true, true, true, true, true, true, true, true, false] rfl rfl (any_of HT_.out (by kernel_rfl)) (fun _ _ _ h => h) (Or.inl ⟨by rfl, ?_⟩) ?_ ?_
                                                          rotate_left
                                                          · intro w'
                                                            go_simp
                                                            first | with_reducible rfl | (rw [if_neg]; all_goals (first | with_reducible rfl | (have h := of_decide_eq_true c41b1; have h39 := of_decide_eq_true c39b1; have h40 := of_decide_eq_true c40b1; (try simp only [ByteArray.size_append, ByteArray.size_extract] at h); omega) | (have h := of_decide_eq_true c44b1; have h39 := of_decide_eq_true c39b1; have h40 := of_decide_eq_true c40b1; (try simp only [ByteArray.size_append, ByteArray.size_extract] at h); omega)))
                                                          rotate_left
                                                          · simp only [Act.put, List.setIfInBounds_toArray, List.set_cons_zero, List.set_cons_succ, i64_w, i32_w]
                                                            rfl
                                                          refine one_ (i := 22) (N := none) #[true, true, true, true, true, true, true, true, true, true, true, true, true, true, true, true, true, true, true, true, true, true, true] rfl rfl (one_of HT_.out (by kernel_rfl)) (by decide) (fun K hK => ?_)
                                                          have hs74 : w73.cell? ⟨gb263, 0, none⟩ = some (.int .i64 t261) := (blk_cell BK263.out 0).trans rfl
                                                          have hfs74 := blk_frozen BK263.out 0
                                                          have hs75 : w73.cell? ⟨gb263, 1, none⟩ = some (.int .i64 t262) := (blk_cell BK263.out 1).trans rfl
                                                          have hfs75 := blk_frozen BK263.out 1
                                                          refine skip_ (w1 := ?_) (by rfl) rfl ?_ ?_
                                                          rotate_left
                                                          · go_simp
                                                            rfl
                                                          refine hK.out _ _ ⟨((cell_far (p := ⟨gb263, _, none⟩) (by first | exact Kd.own_blk (Kd.R_ne HO_7.out BK263.out (by decide)) | (rw [add_block]; exact Kd.own_blk (Kd.R_ne HO_7.out BK263.out (by decide))) | (show (Addr.add _ _).block ≠ _; rw [add_block]; exact Kd.own_blk (Kd.R_ne HO_7.out BK263.out (by decide))) | (dsimp only; exact Kd.own_blk (Kd.R_ne HO_7.out BK263.out (by decide)))) _).trans (((cell_far (p := ⟨gb263, _, none⟩) (by first | exact Kd.own_blk (Kd.R_ne HO_7.out BK263.out (by decide)) | (rw [add_block]; exact Kd.own_blk (Kd.R_ne HO_7.out BK263.out (by decide))) | (show (Addr.add _ _).block ≠ _; rw [add_block]; exact Kd.own_blk (Kd.R_ne HO_7.out BK263.out (by decide))) | (dsimp only; exact Kd.own_blk (Kd.R_ne HO_7.out BK263.out (by decide)))) _).trans (hHeld.1)))), ((cell_far (p := ⟨gb263, _, none⟩) (by first | exact Kd.own_blk (Kd.R_ne HO_7.out BK263.out (by decide)) | (rw [add_block]; exact Kd.own_blk (Kd.R_ne HO_7.out BK263.out (by decide))) | (show (Addr.add _ _).block ≠ _; rw [add_block]; exact Kd.own_blk (Kd.R_ne HO_7.out BK263.out (by decide))) | (dsimp only; exact Kd.own_blk (Kd.R_ne HO_7.out BK263.out (by decide)))) _).trans (((cell_far (p := ⟨gb263, _, none⟩) (by first | exact Kd.own_blk (Kd.R_ne HO_7.out BK263.out (by decide)) | (rw [add_block]; exact Kd.own_blk (Kd.R_ne HO_7.out BK263.out (by decide))) | (show (Addr.add _ _).block ≠ _; rw [add_block]; exact Kd.own_blk (Kd.R_ne HO_7.out BK263.out (by decide))) | (dsimp only; exact Kd.own_blk (Kd.R_ne HO_7.out BK263.out (by decide)))) _).trans (hHeld.2.1)))), ((cell_far (p := ⟨gb263, _, none⟩) (by first | exact Kd.own_blk (Kd.R_ne HO_7.out BK263.out (by decide)) | (rw [add_block]; exact Kd.own_blk (Kd.R_ne HO_7.out BK263.out (by decide))) | (show (Addr.add _ _).block ≠ _; rw [add_block]; exact Kd.own_blk (Kd.R_ne HO_7.out BK263.out (by decide))) | (dsimp only; exact Kd.own_blk (Kd.R_ne HO_7.out BK263.out (by decide)))) _).trans (((cell_far (p := ⟨gb263, _, none⟩) (by first | exact Kd.own_blk (Kd.R_ne HO_7.out BK263.out (by decide)) | (rw [add_block]; exact Kd.own_blk (Kd.R_ne HO_7.out BK263.out (by decide))) | (show (Addr.add _ _).block ≠ _; rw [add_block]; exact Kd.own_blk (Kd.R_ne HO_7.out BK263.out (by decide))) | (dsimp only; exact Kd.own_blk (Kd.R_ne HO_7.out BK263.out (by decide)))) _).trans (hHeld.2.2.1)))), ((cell_far (p := ⟨gb263, _, none⟩) (by first | exact Kd.own_blk (Kd.R_ne HO_7.out BK263.out (by decide)) | (rw [add_block]; exact Kd.own_blk (Kd.R_ne HO_7.out BK263.out (by decide))) | (show (Addr.add _ _).block ≠ _; rw [add_block]; exact Kd.own_blk (Kd.R_ne HO_7.out BK263.out (by decide))) | (dsimp only; exact Kd.own_blk (Kd.R_ne HO_7.out BK263.out (by decide)))) _).trans (((cell_far (p := ⟨gb263, _, none⟩) (by first | exact Kd.own_blk (Kd.R_ne HO_7.out BK263.out (by decide)) | (rw [add_block]; exact Kd.own_blk (Kd.R_ne HO_7.out BK263.out (by decide))) | (show (Addr.add _ _).block ≠ _; rw [add_block]; exact Kd.own_blk (Kd.R_ne HO_7.out BK263.out (by decide))) | (dsimp only; exact Kd.own_blk (Kd.R_ne HO_7.out BK263.out (by decide)))) _).trans (hHeld.2.2.2.1)))), ((cell_far (p := ⟨gb263, _, none⟩) (by first | exact Kd.own_blk (Kd.R_ne HO_7.out BK263.out (by decide)) | (rw [add_block]; exact Kd.own_blk (Kd.R_ne HO_7.out BK263.out (by decide))) | (show (Addr.add _ _).block ≠ _; rw [add_block]; exact Kd.own_blk (Kd.R_ne HO_7.out BK263.out (by decide))) | (dsimp only; exact Kd.own_blk (Kd.R_ne HO_7.out BK263.out (by decide)))) _).trans (((cell_far (p := ⟨gb263, _, none⟩) (by first | exact Kd.own_blk (Kd.R_ne HO_7.out BK263.out (by decide)) | (rw [add_block]; exact Kd.own_blk (Kd.R_ne HO_7.out BK263.out (by decide))) | (show (Addr.add _ _).block ≠ _; rw [add_block]; exact Kd.own_blk (Kd.R_ne HO_7.out BK263.out (by decide))) | (dsimp only; exact Kd.own_blk (Kd.R_ne HO_7.out BK263.out (by decide)))) _).trans (hHeld.2.2.2.2.1)))), ((cell_far (p := ⟨gb263, _, none⟩) (by first | exact Kd.own_blk (Kd.R_ne HO_7.out BK263.out (by decide)) | (rw [add_block]; exact Kd.own_blk (Kd.R_ne HO_7.out BK263.out (by decide))) | (show (Addr.add _ _).block ≠ _; rw [add_block]; exact Kd.own_blk (Kd.R_ne HO_7.out BK263.out (by decide))) | (dsimp only; exact Kd.own_blk (Kd.R_ne HO_7.out BK263.out (by decide)))) _).trans (((cell_far (p := ⟨gb263, _, none⟩) (by first | exact Kd.own_blk (Kd.R_ne HO_7.out BK263.out (by decide)) | (rw [add_block]; exact Kd.own_blk (Kd.R_ne HO_7.out BK263.out (by decide))) | (show (Addr.add _ _).block ≠ _; rw [add_block]; exact Kd.own_blk (Kd.R_ne HO_7.out BK263.out (by decide))) | (dsimp only; exact Kd.own_blk (Kd.R_ne HO_7.out BK263.out (by decide)))) _).trans (hHeld.2.2.2.2.2))))⟩ (fun hHeld => ?_)
                                                          clear hK K
                                                          refine done_ (done_of HT_.out (by kernel_rfl)) ?_
                                                          have hcz76_0 : w73.cell? ⟨gb263, 0, none⟩ = some (.int .i64 t261) := (blk_cell BK263.out 0).trans rfl
                                                          have hcz76_1 : w73.cell? ⟨gb263, 1, none⟩ = some (.int .i64 t262) := (blk_cell BK263.out 1).trans rfl
                                                          have hfz76_0 := blk_frozen BK263.out 0
                                                          have hfz76_1 := blk_frozen BK263.out 1
                                                          try go_wp2
                                                          go_ret
                                                          exact ⟨by first | rfl | (simp [errW_none, errW_some] <;> rfl) | (simp only [← hji33, ← hji36]; first | rfl | (simp [errW_none, errW_some] <;> rfl)) | (simp [*, errW_none, errW_some] <;> rfl), by repeat (first | (with_reducible first | exact HB.out | apply below_alloc | apply pw_below_drewN | apply below_drew1 | refine below_set ?_ GE263.out) | exact HB.out)⟩
                                                  · rw [if_neg c44] at H
                                                    exact absurd H (by simp)
                                              · rw [if_neg c41] at H
                                                exact absurd H (by simp)
                                          · rw [if_neg c40] at H
                                            exact absurd H (by simp)
                                      · rw [if_neg c39] at H
                                        exact absurd H (by simp)
                                  · rw [if_neg c38] at H
                                    exact absurd H (by simp)
                              · rw [if_neg c37] at H
                                exact absurd H (by simp)
                          · rw [if_neg c35] at H
                            exact absurd H (by simp)
                      · rw [if_neg c34] at H
                        exact absurd H (by simp)
end Go.Proofs.YtgeonilideojnaaGreatDoor.Pr
end
