/- A part of a proof over the package's statements: contracts of functions and plain facts, merged by a program of this session's. -/
import Derived.Test.YtgeonilideojnaaGreatDoorRG1x1
import Derived.Test.YtgeonilideojnaaGreatDoorRG1x5
import Derived.Test.YtgeonilideojnaaGreatDoorRG2x1
import Derived.Test.YtgeonilideojnaaGreatDoorRG2x2
import Derived.Test.YtgeonilideojnaaGreatDoorRG2x3
section
namespace Go.Proofs.YtgeonilideojnaaGreatDoor.Pr
open Go.RowKit Go.Proofs.YtgeonilideojnaaGreatDoorW.PrintWords Go.Proofs.YtgeonilideojnaaGreatDoorW.PrintLast Go.Proofs.YtgeonilideojnaaGreatDoorW.PrintMore
attribute [local go_sem] max2_int min2_int max_two min_two max_three min_three max_four min_four
set_option linter.unusedVariables false
set_option linter.unusedSimpArgs false
mutual
def cinnabarref01_Check.j3 : Nat → ByteArray → Bool → Int → ByteArray → Int → Option (Int)
  | 0, _, _, _, _, _ => none
  | k + 1, x3, x4, x144000, x144001, x144002 => if x4 = true then (if x144000 = 1 then ((cinnabarref01_long.f k x3).bind fun t153 => (cinnabarref01_Check.j4 k x3 t153 x144000 x144001 x144002)) else (if x144000 = 2 then ((cinnabarref01_long.f k x3).bind fun t154 => (cinnabarref01_Check.j4 k x3 t154 x144000 x144001 x144002)) else (cinnabarref01_Check.j4 k x3 false x144000 x144001 x144002))) else (some 2)
def cinnabarref01_Check.j4 : Nat → ByteArray → Bool → Int → ByteArray → Int → Option (Int)
  | 0, _, _, _, _, _ => none
  | k + 1, x3, x119, x144000, x144001, x144002 => if x119 = true then (some 6) else (if x144000 = 3 then ((cinnabarref01_great.f k x3).bind fun t155 => (if t155 = true then (some 5) else (some 0))) else (some 0))
def cinnabarref01_Check.j0 : Nat → ByteArray → Bool → Int → ByteArray → Int → Option (Int)
  | 0, _, _, _, _, _ => none
  | k + 1, x3, x4, x144000, x144001, x144002 => cinnabarref01_Check.l0 k x3 x4 0 x144000 x144001 x144002
def cinnabarref01_Check.l0 : Nat → ByteArray → Bool → Int → Int → ByteArray → Int → Option (Int)
  | 0, _, _, _, _, _, _ => none
  | k + 1, x3, x4, x5, x144000, x144001, x144002 => if x5 < (x3.size : Int) then (if x4 = true then (if 0 ≤ x5 then ((cinnabarref01_word.f (bt x3 x5)).bind fun t148 => (cinnabarref01_Check.l0 k x3 t148 (wrap64 (x5 + 1)) x144000 x144001 x144002)) else (none)) else (cinnabarref01_Check.l0 k x3 false (wrap64 (x5 + 1)) x144000 x144001 x144002)) else (cinnabarref01_Check.j3 k x3 x4 x144000 x144001 x144002)
def cinnabarref01_Check.l1 : Nat → ByteArray → Bool → Int → Int → ByteArray → Int → Option (Int)
  | 0, _, _, _, _, _, _ => none
  | k + 1, x3, x4, x6, x144000, x144001, x144002 => if x6 < (x3.size : Int) then (if x4 = true then (if 0 ≤ x6 then ((cinnabarref01_digit.f (bt x3 x6)).bind fun t149 => (cinnabarref01_Check.l1 k x3 t149 (wrap64 (x6 + 1)) x144000 x144001 x144002)) else (none)) else (cinnabarref01_Check.l1 k x3 false (wrap64 (x6 + 1)) x144000 x144001 x144002)) else (cinnabarref01_Check.j3 k x3 x4 x144000 x144001 x144002)
end
def cinnabarref01_Check.f (k : Nat) (a0_0 : Int) (a0_1 : ByteArray) (a0_2 : Int) : Option (Int) := if a0_0 = 0 then (cinnabarref01_Check.j3 k a0_1 (a0_1.toList == ([] : List UInt8)) a0_0 a0_1 a0_2) else (if a0_0 = 1 then (if a0_1.toList = ([] : List UInt8) then (cinnabarref01_Check.j3 k a0_1 false a0_0 a0_1 a0_2) else ((cinnabarref01_all.f k a0_1 false).bind fun t144 => (if t144 = true then ((TkRef.plain.f a0_1).bind fun t145 => (if t145 = true then (cinnabarref01_Check.j3 k a0_1 true a0_0 a0_1 a0_2) else (if a0_1.toList = ([33, 46] : List UInt8) then (cinnabarref01_Check.j3 k a0_1 true a0_0 a0_1 a0_2) else ((cinnabarref01_has.f k a0_1 46).bind fun t146 => (cinnabarref01_Check.j3 k a0_1 (!t146) a0_0 a0_1 a0_2))))) else (cinnabarref01_Check.j3 k a0_1 false a0_0 a0_1 a0_2)))) else (if a0_0 = 2 then (if a0_1.toList = ([] : List UInt8) then (cinnabarref01_Check.j0 k a0_1 false a0_0 a0_1 a0_2) else (if 0 < (a0_1.size : Int) then ((cinnabarref01_capital.f (bt a0_1 0)).bind fun t147 => (cinnabarref01_Check.j0 k a0_1 t147 a0_0 a0_1 a0_2)) else (none))) else (if a0_0 = 3 then (cinnabarref01_Check.l1 k a0_1 (a0_1.toList != ([] : List UInt8)) 0 a0_0 a0_1 a0_2) else (if a0_0 = 4 then (if (a0_1.size : Int) = 1 then ((cinnabarref01_all.f k a0_1 true).bind fun t150 => (cinnabarref01_Check.j3 k a0_1 t150 a0_0 a0_1 a0_2)) else (cinnabarref01_Check.j3 k a0_1 false a0_0 a0_1 a0_2)) else (if a0_0 = 5 then ((cinnabarref01_all.f k a0_1 true).bind fun t151 => (cinnabarref01_Check.j3 k a0_1 t151 a0_0 a0_1 a0_2)) else (if a0_0 = 6 then (if a0_1.toList = ([40, 40] : List UInt8) then (cinnabarref01_Check.j3 k a0_1 true a0_0 a0_1 a0_2) else (if (a0_1.size : Int) = 1 then (if 0 < (a0_1.size : Int) then ((cinnabarref01_has.f k (⟨#[40, 41, 91, 93, 123, 125, 44, 124]⟩ : ByteArray) (bt a0_1 0)).bind fun t152 => (cinnabarref01_Check.j3 k a0_1 t152 a0_0 a0_1 a0_2)) else (none)) else (cinnabarref01_Check.j3 k a0_1 false a0_0 a0_1 a0_2))) else (if a0_0 = 7 then (cinnabarref01_Check.j3 k a0_1 (a0_1.toList == ([46] : List UInt8)) a0_0 a0_1 a0_2) else (some 3))))))))
theorem cinnabarref01_Check.mono_l : ∀ k, (∀ y0 y1 y2 y3 y4, LeO (cinnabarref01_Check.j3 k y0 y1 y2 y3 y4) (cinnabarref01_Check.j3 (k + 1) y0 y1 y2 y3 y4)) ∧ (∀ y0 y1 y2 y3 y4, LeO (cinnabarref01_Check.j4 k y0 y1 y2 y3 y4) (cinnabarref01_Check.j4 (k + 1) y0 y1 y2 y3 y4)) ∧ (∀ y0 y1 y2 y3 y4, LeO (cinnabarref01_Check.j0 k y0 y1 y2 y3 y4) (cinnabarref01_Check.j0 (k + 1) y0 y1 y2 y3 y4)) ∧ (∀ y0 y1 y2 y3 y4 y5, LeO (cinnabarref01_Check.l0 k y0 y1 y2 y3 y4 y5) (cinnabarref01_Check.l0 (k + 1) y0 y1 y2 y3 y4 y5)) ∧ (∀ y0 y1 y2 y3 y4 y5, LeO (cinnabarref01_Check.l1 k y0 y1 y2 y3 y4 y5) (cinnabarref01_Check.l1 (k + 1) y0 y1 y2 y3 y4 y5))
  | 0 => ⟨fun _ _ _ _ _ r h => by simp [cinnabarref01_Check.j3] at h, fun _ _ _ _ _ r h => by simp [cinnabarref01_Check.j4] at h, fun _ _ _ _ _ r h => by simp [cinnabarref01_Check.j0] at h, fun _ _ _ _ _ _ r h => by simp [cinnabarref01_Check.l0] at h, fun _ _ _ _ _ _ r h => by simp [cinnabarref01_Check.l1] at h⟩
  | k + 1 => by
    obtain ⟨ih0, ih1, ih2, ih3, ih4⟩ := cinnabarref01_Check.mono_l k
    refine ⟨?_, ?_, ?_, ?_, ?_⟩
    · intro y0 y1 y2 y3 y4
      unfold cinnabarref01_Check.j3
      repeat' first
      | (with_reducible exact ih0 _ _ _ _ _)
      | (with_reducible exact ih1 _ _ _ _ _)
      | (with_reducible exact ih2 _ _ _ _ _)
      | (with_reducible exact ih3 _ _ _ _ _ _)
      | (with_reducible exact ih4 _ _ _ _ _ _)
      | (with_reducible exact cinnabarref01_all.mono _ _ _)
      | (with_reducible exact cinnabarref01_great.mono _ _)
      | (with_reducible exact cinnabarref01_has.mono _ _ _)
      | (with_reducible exact cinnabarref01_long.mono _ _)
      | (with_reducible exact LeO.refl _)
      | (with_reducible exact LeO.none _)
      | (with_reducible refine LeO.ite ?_ ?_)
      | (with_reducible refine LeO.bind ?_ (fun _ => ?_))
      | exact ih0 _ _ _ _ _
      | exact ih1 _ _ _ _ _
      | exact ih2 _ _ _ _ _
      | exact ih3 _ _ _ _ _ _
      | exact ih4 _ _ _ _ _ _
      | exact cinnabarref01_all.mono _ _ _
      | exact cinnabarref01_great.mono _ _
      | exact cinnabarref01_has.mono _ _ _
      | exact cinnabarref01_long.mono _ _
      | exact LeO.none _
      | refine LeO.ite ?_ ?_
      | refine LeO.bind ?_ (fun _ => ?_)
    · intro y0 y1 y2 y3 y4
      unfold cinnabarref01_Check.j4
      repeat' first
      | (with_reducible exact ih0 _ _ _ _ _)
      | (with_reducible exact ih1 _ _ _ _ _)
      | (with_reducible exact ih2 _ _ _ _ _)
      | (with_reducible exact ih3 _ _ _ _ _ _)
      | (with_reducible exact ih4 _ _ _ _ _ _)
      | (with_reducible exact cinnabarref01_all.mono _ _ _)
      | (with_reducible exact cinnabarref01_great.mono _ _)
      | (with_reducible exact cinnabarref01_has.mono _ _ _)
      | (with_reducible exact cinnabarref01_long.mono _ _)
      | (with_reducible exact LeO.refl _)
      | (with_reducible exact LeO.none _)
      | (with_reducible refine LeO.ite ?_ ?_)
      | (with_reducible refine LeO.bind ?_ (fun _ => ?_))
      | exact ih0 _ _ _ _ _
      | exact ih1 _ _ _ _ _
      | exact ih2 _ _ _ _ _
      | exact ih3 _ _ _ _ _ _
      | exact ih4 _ _ _ _ _ _
      | exact cinnabarref01_all.mono _ _ _
      | exact cinnabarref01_great.mono _ _
      | exact cinnabarref01_has.mono _ _ _
      | exact cinnabarref01_long.mono _ _
      | exact LeO.none _
      | refine LeO.ite ?_ ?_
      | refine LeO.bind ?_ (fun _ => ?_)
    · intro y0 y1 y2 y3 y4
      unfold cinnabarref01_Check.j0
      repeat' first
      | (with_reducible exact ih0 _ _ _ _ _)
      | (with_reducible exact ih1 _ _ _ _ _)
      | (with_reducible exact ih2 _ _ _ _ _)
      | (with_reducible exact ih3 _ _ _ _ _ _)
      | (with_reducible exact ih4 _ _ _ _ _ _)
      | (with_reducible exact cinnabarref01_all.mono _ _ _)
      | (with_reducible exact cinnabarref01_great.mono _ _)
      | (with_reducible exact cinnabarref01_has.mono _ _ _)
      | (with_reducible exact cinnabarref01_long.mono _ _)
      | (with_reducible exact LeO.refl _)
      | (with_reducible exact LeO.none _)
      | (with_reducible refine LeO.ite ?_ ?_)
      | (with_reducible refine LeO.bind ?_ (fun _ => ?_))
      | exact ih0 _ _ _ _ _
      | exact ih1 _ _ _ _ _
      | exact ih2 _ _ _ _ _
      | exact ih3 _ _ _ _ _ _
      | exact ih4 _ _ _ _ _ _
      | exact cinnabarref01_all.mono _ _ _
      | exact cinnabarref01_great.mono _ _
      | exact cinnabarref01_has.mono _ _ _
      | exact cinnabarref01_long.mono _ _
      | exact LeO.none _
      | refine LeO.ite ?_ ?_
      | refine LeO.bind ?_ (fun _ => ?_)
    · intro y0 y1 y2 y3 y4 y5
      unfold cinnabarref01_Check.l0
      repeat' first
      | (with_reducible exact ih0 _ _ _ _ _)
      | (with_reducible exact ih1 _ _ _ _ _)
      | (with_reducible exact ih2 _ _ _ _ _)
      | (with_reducible exact ih3 _ _ _ _ _ _)
      | (with_reducible exact ih4 _ _ _ _ _ _)
      | (with_reducible exact cinnabarref01_all.mono _ _ _)
      | (with_reducible exact cinnabarref01_great.mono _ _)
      | (with_reducible exact cinnabarref01_has.mono _ _ _)
      | (with_reducible exact cinnabarref01_long.mono _ _)
      | (with_reducible exact LeO.refl _)
      | (with_reducible exact LeO.none _)
      | (with_reducible refine LeO.ite ?_ ?_)
      | (with_reducible refine LeO.bind ?_ (fun _ => ?_))
      | exact ih0 _ _ _ _ _
      | exact ih1 _ _ _ _ _
      | exact ih2 _ _ _ _ _
      | exact ih3 _ _ _ _ _ _
      | exact ih4 _ _ _ _ _ _
      | exact cinnabarref01_all.mono _ _ _
      | exact cinnabarref01_great.mono _ _
      | exact cinnabarref01_has.mono _ _ _
      | exact cinnabarref01_long.mono _ _
      | exact LeO.none _
      | refine LeO.ite ?_ ?_
      | refine LeO.bind ?_ (fun _ => ?_)
    · intro y0 y1 y2 y3 y4 y5
      unfold cinnabarref01_Check.l1
      repeat' first
      | (with_reducible exact ih0 _ _ _ _ _)
      | (with_reducible exact ih1 _ _ _ _ _)
      | (with_reducible exact ih2 _ _ _ _ _)
      | (with_reducible exact ih3 _ _ _ _ _ _)
      | (with_reducible exact ih4 _ _ _ _ _ _)
      | (with_reducible exact cinnabarref01_all.mono _ _ _)
      | (with_reducible exact cinnabarref01_great.mono _ _)
      | (with_reducible exact cinnabarref01_has.mono _ _ _)
      | (with_reducible exact cinnabarref01_long.mono _ _)
      | (with_reducible exact LeO.refl _)
      | (with_reducible exact LeO.none _)
      | (with_reducible refine LeO.ite ?_ ?_)
      | (with_reducible refine LeO.bind ?_ (fun _ => ?_))
      | exact ih0 _ _ _ _ _
      | exact ih1 _ _ _ _ _
      | exact ih2 _ _ _ _ _
      | exact ih3 _ _ _ _ _ _
      | exact ih4 _ _ _ _ _ _
      | exact cinnabarref01_all.mono _ _ _
      | exact cinnabarref01_great.mono _ _
      | exact cinnabarref01_has.mono _ _ _
      | exact cinnabarref01_long.mono _ _
      | exact LeO.none _
      | refine LeO.ite ?_ ?_
      | refine LeO.bind ?_ (fun _ => ?_)
theorem cinnabarref01_Check.mono : ∀ a0 a1 a2 k, LeO (cinnabarref01_Check.f k a0 a1 a2) (cinnabarref01_Check.f (k + 1) a0 a1 a2) := by
  intro a0 a1 a2 k
  obtain ⟨ih0, ih1, ih2, ih3, ih4⟩ := cinnabarref01_Check.mono_l k
  unfold cinnabarref01_Check.f
  repeat' first
      | (with_reducible exact ih0 _ _ _ _ _)
      | (with_reducible exact ih1 _ _ _ _ _)
      | (with_reducible exact ih2 _ _ _ _ _)
      | (with_reducible exact ih3 _ _ _ _ _ _)
      | (with_reducible exact ih4 _ _ _ _ _ _)
      | (with_reducible exact cinnabarref01_all.mono _ _ _)
      | (with_reducible exact cinnabarref01_great.mono _ _)
      | (with_reducible exact cinnabarref01_has.mono _ _ _)
      | (with_reducible exact cinnabarref01_long.mono _ _)
      | (with_reducible exact LeO.refl _)
      | (with_reducible exact LeO.none _)
      | (with_reducible refine LeO.ite ?_ ?_)
      | (with_reducible refine LeO.bind ?_ (fun _ => ?_))
      | exact ih0 _ _ _ _ _
      | exact ih1 _ _ _ _ _
      | exact ih2 _ _ _ _ _
      | exact ih3 _ _ _ _ _ _
      | exact ih4 _ _ _ _ _ _
      | exact cinnabarref01_all.mono _ _ _
      | exact cinnabarref01_great.mono _ _
      | exact cinnabarref01_has.mono _ _ _
      | exact cinnabarref01_long.mono _ _
      | exact LeO.none _
      | refine LeO.ite ?_ ?_
      | refine LeO.bind ?_ (fun _ => ?_)
set_option maxHeartbeats 8000000 in
set_option maxRecDepth 100000 in
theorem cinnabarref01_Check.calls (k : Nat) (a0_0 : Int) (a0_1 : ByteArray) (a0_2 : Int) (r : Int) (w : World) (h : cinnabarref01_Check.f k a0_0 a0_1 a0_2 = some r) :
    Calls Tryz.prog 17 #[.agg #[.int .i64 a0_0, .string a0_1, .int .i64 a0_2]] w fun e w' => e = .returned (.int .i64 r) ∧ Below w.heap.size w w' := by
  have hu35 := Tryz.underlying35
  have HB := Aside0.mk (Below.refl w.heap.size w)
  have H : (if a0_0 = 0 then (cinnabarref01_Check.j3 k a0_1 (a0_1.toList == ([] : List UInt8)) a0_0 a0_1 a0_2) else (if a0_0 = 1 then (if a0_1.toList = ([] : List UInt8) then (cinnabarref01_Check.j3 k a0_1 false a0_0 a0_1 a0_2) else ((cinnabarref01_all.f k a0_1 false).bind fun t144 => (if t144 = true then ((TkRef.plain.f a0_1).bind fun t145 => (if t145 = true then (cinnabarref01_Check.j3 k a0_1 true a0_0 a0_1 a0_2) else (if a0_1.toList = ([33, 46] : List UInt8) then (cinnabarref01_Check.j3 k a0_1 true a0_0 a0_1 a0_2) else ((cinnabarref01_has.f k a0_1 46).bind fun t146 => (cinnabarref01_Check.j3 k a0_1 (!t146) a0_0 a0_1 a0_2))))) else (cinnabarref01_Check.j3 k a0_1 false a0_0 a0_1 a0_2)))) else (if a0_0 = 2 then (if a0_1.toList = ([] : List UInt8) then (cinnabarref01_Check.j0 k a0_1 false a0_0 a0_1 a0_2) else (if 0 < (a0_1.size : Int) then ((cinnabarref01_capital.f (bt a0_1 0)).bind fun t147 => (cinnabarref01_Check.j0 k a0_1 t147 a0_0 a0_1 a0_2)) else (none))) else (if a0_0 = 3 then (cinnabarref01_Check.l1 k a0_1 (a0_1.toList != ([] : List UInt8)) 0 a0_0 a0_1 a0_2) else (if a0_0 = 4 then (if (a0_1.size : Int) = 1 then ((cinnabarref01_all.f k a0_1 true).bind fun t150 => (cinnabarref01_Check.j3 k a0_1 t150 a0_0 a0_1 a0_2)) else (cinnabarref01_Check.j3 k a0_1 false a0_0 a0_1 a0_2)) else (if a0_0 = 5 then ((cinnabarref01_all.f k a0_1 true).bind fun t151 => (cinnabarref01_Check.j3 k a0_1 t151 a0_0 a0_1 a0_2)) else (if a0_0 = 6 then (if a0_1.toList = ([40, 40] : List UInt8) then (cinnabarref01_Check.j3 k a0_1 true a0_0 a0_1 a0_2) else (if (a0_1.size : Int) = 1 then (if 0 < (a0_1.size : Int) then ((cinnabarref01_has.f k (⟨#[40, 41, 91, 93, 123, 125, 44, 124]⟩ : ByteArray) (bt a0_1 0)).bind fun t152 => (cinnabarref01_Check.j3 k a0_1 t152 a0_0 a0_1 a0_2)) else (none)) else (cinnabarref01_Check.j3 k a0_1 false a0_0 a0_1 a0_2))) else (if a0_0 = 7 then (cinnabarref01_Check.j3 k a0_1 (a0_1.toList == ([46] : List UInt8)) a0_0 a0_1 a0_2) else (some 3))))))))) = some r := h
  clear h
  have HC2 := Aside0.mk H
  clear H
  go_enter Tryz.func17, Tryz.ntmps17
  go_upto_block 0 with (first | ((with_reducible refine gate_dst (N := 1) rfl ?_); (try (refine gate_guard (by rfl) ?_; dsimp only)); refine box_event ?hg (N := 1) ?hd (cs := #[.int .i64 a0_0, .string a0_1, .int .i64 a0_2]) (t := 35) ?hr ?_; (case hd => rfl); (case hg => rfl); (case hr => first | (go_simp; done) | (go_simp; rfl)); intro gb143 hg w3 hbox hb; have n0_ := Aside0.mk (below_step (by repeat (first | (with_reducible first | exact HB.out | apply below_alloc | apply pw_below_drewN | apply below_drew1) | exact HB.out)) hb); have n1_ := Aside0.mk (hbox); have n2_ := Aside0.mk ((by rw [hg]; exact (below_size (by repeat (first | (with_reducible first | exact HB.out | apply below_alloc | apply pw_below_drewN | apply below_drew1) | exact HB.out))) : w.heap.size ≤ gb143)); have n3_ := Aside0.mk ((by rw [hg]; exact (below_size (by repeat (first | (with_reducible first | exact HB.out | apply below_alloc | apply pw_below_drewN | apply below_drew1) | exact HB.out))) : w.heap.size ≤ gb143)); clear HB; have HB := n0_; have BK143 := n1_; have GW143 := n2_; have GE143 := n3_; clear n0_ n1_ n2_ n3_; clear hb hbox hg; have hcz4_0 : w3.cell? ⟨gb143, 0, none⟩ = some (.int .i64 a0_0) := (blk_cell BK143.out 0).trans rfl; have hcz4_1 : w3.cell? ⟨gb143, 1, none⟩ = some (.string a0_1) := (blk_cell BK143.out 1).trans rfl; have hcz4_2 : w3.cell? ⟨gb143, 2, none⟩ = some (.int .i64 a0_2) := (blk_cell BK143.out 2).trans rfl; have hfz4_0 := blk_frozen BK143.out 0; have hfz4_1 := blk_frozen BK143.out 1; have hfz4_2 := blk_frozen BK143.out 2))
  (try simp only [Act.put, List.setIfInBounds_toArray, List.set_cons_zero, List.set_cons_succ])
  go_cut [4] (fun v4 wc => ∃ (kq : Nat) (x4_1 : Bool), v4 = .bool x4_1 ∧ Aside0 (cinnabarref01_Check.j3 kq a0_1 x4_1 a0_0 a0_1 a0_2 = some r) ∧ Aside0 (kq ≤ k) ∧ Aside0 (wc.heap[gb143]? = some (.cells #[.int .i64 a0_0, .string a0_1, .int .i64 a0_2] 35 (0, 0))) ∧ Aside0 (Below w.heap.size w wc))
  case first =>
    have H := HC2.out
    clear HC2
    by_cases c5 : a0_0 = 0
    · rw [if_pos c5] at H
      have c5b0 : (a0_0 == 0) = true := beq_iff_eq.mpr c5
      have c5b1 : (a0_0 != 0) = false := bne_eq_false_iff_eq.mpr c5
      clear c5
      (first | rw [c5b0] | (simp only [i64_w, i32_w]; rw [c5b0]) | skip)
      have H' := Aside0.mk H
      clear H
      go_wp2
      go_meet
      case rel => exact ⟨_, ((a0_1.toList == ([] : List UInt8))), (by first | rfl | (simp; done) | (simp [*]; done) | (simp [show ∀ l : List UInt8, (l != []) = !l.isEmpty from fun l => by cases l <;> rfl]; done)), H', ⟨by first | omega | exact Nat.le_refl _⟩, ⟨by (with_reducible repeat (first | refine blk_drewN ?_ _ | refine blk_drew ?_ | refine blk_alloc ?_ _)); exact BK143.out⟩, ⟨by repeat (first | (with_reducible first | exact HB.out | apply below_alloc | apply pw_below_drewN | apply below_drew1 | refine below_set ?_ GE143.out) | exact HB.out)⟩⟩
    · as_aux_lemma =>
        rw [if_neg c5] at H
        have c5b0 : (a0_0 == 0) = false := beq_eq_false_iff_ne.mpr c5
        have c5b1 : (a0_0 != 0) = true := bne_iff_ne.mpr c5
        (first | rw [c5b0] | (simp only [i64_w, i32_w]; rw [c5b0]) | skip)
        by_cases c6 : a0_0 = 1
        · as_aux_lemma =>
            rw [if_pos c6] at H
            have c6b0 : (a0_0 == 1) = true := beq_iff_eq.mpr c6
            have c6b1 : (a0_0 != 1) = false := bne_eq_false_iff_eq.mpr c6
            clear c6
            by_cases c7 : a0_1.toList = ([] : List UInt8)
            · rw [if_pos c7] at H
              have c7b0 : (a0_1.toList == ([] : List UInt8)) = true := beq_iff_eq.mpr c7
              have c7b1 : (a0_1.toList != ([] : List UInt8)) = false := bne_eq_false_iff_eq.mpr c7
              clear c7
              have H' := Aside0.mk H
              clear H
              go_wp2
              go_meet
              case rel => exact ⟨_, (false), (by first | rfl | (simp; done) | (simp [*]; done) | (simp [show ∀ l : List UInt8, (l != []) = !l.isEmpty from fun l => by cases l <;> rfl]; done)), H', ⟨by first | omega | exact Nat.le_refl _⟩, ⟨by (with_reducible repeat (first | refine blk_drewN ?_ _ | refine blk_drew ?_ | refine blk_alloc ?_ _)); exact BK143.out⟩, ⟨by repeat (first | (with_reducible first | exact HB.out | apply below_alloc | apply pw_below_drewN | apply below_drew1 | refine below_set ?_ GE143.out) | exact HB.out)⟩⟩
            · as_aux_lemma =>
                rw [if_neg c7] at H
                have c7b0 : (a0_1.toList == ([] : List UInt8)) = false := beq_eq_false_iff_ne.mpr c7
                have c7b1 : (a0_1.toList != ([] : List UInt8)) = true := bne_iff_ne.mpr c7
                replace H := Option.bind_eq_some_iff.mp H
                obtain ⟨t144, A80, H⟩ := H
                replace H : (if t144 = true then ((TkRef.plain.f a0_1).bind fun t145 => (if t145 = true then (cinnabarref01_Check.j3 k a0_1 true a0_0 a0_1 a0_2) else (if a0_1.toList = ([33, 46] : List UInt8) then (cinnabarref01_Check.j3 k a0_1 true a0_0 a0_1 a0_2) else ((cinnabarref01_has.f k a0_1 46).bind fun t146 => (cinnabarref01_Check.j3 k a0_1 (!t146) a0_0 a0_1 a0_2))))) else (cinnabarref01_Check.j3 k a0_1 false a0_0 a0_1 a0_2)) = some r := H
                have A8 := Aside0.mk A80
                clear A80
                by_cases c9 : t144 = true
                · as_aux_lemma =>
                    subst c9
                    have H1 : ((TkRef.plain.f a0_1).bind fun t145 => (if t145 = true then (cinnabarref01_Check.j3 k a0_1 true a0_0 a0_1 a0_2) else (if a0_1.toList = ([33, 46] : List UInt8) then (cinnabarref01_Check.j3 k a0_1 true a0_0 a0_1 a0_2) else ((cinnabarref01_has.f k a0_1 46).bind fun t146 => (cinnabarref01_Check.j3 k a0_1 (!t146) a0_0 a0_1 a0_2))))) = some r := by rw [if_pos rfl] at H; exact H
                    clear H
                    have H := H1
                    clear H1
                    replace H := Option.bind_eq_some_iff.mp H
                    obtain ⟨t145, A100, H⟩ := H
                    replace H : (if t145 = true then (cinnabarref01_Check.j3 k a0_1 true a0_0 a0_1 a0_2) else (if a0_1.toList = ([33, 46] : List UInt8) then (cinnabarref01_Check.j3 k a0_1 true a0_0 a0_1 a0_2) else ((cinnabarref01_has.f k a0_1 46).bind fun t146 => (cinnabarref01_Check.j3 k a0_1 (!t146) a0_0 a0_1 a0_2)))) = some r := H
                    have A10 := Aside0.mk A100
                    clear A100
                    by_cases c11 : t145 = true
                    · subst c11
                      have H1 : (cinnabarref01_Check.j3 k a0_1 true a0_0 a0_1 a0_2) = some r := by rw [if_pos rfl] at H; exact H
                      clear H
                      have H := H1
                      clear H1
                      have H' := Aside0.mk H
                      clear H
                      go_wp2_with (first | (go_at_call 36; (with_reducible refine (cinnabarref01_all.calls k a0_1 false true _ A8.out).mono ?_); rintro e w' ⟨rfl, ⟨nd, rfl⟩⟩) | (go_at_call 37; (with_reducible refine (TkRef.plain.calls a0_1 true _ A10.out).mono ?_); rintro e w12 ⟨rfl, hb⟩; have n0_ := Aside0.mk (blk_below (g := gb143) (o := .cells #[.int .i64 a0_0, .string a0_1, .int .i64 a0_2] 35 (0, 0)) (by (with_reducible repeat (first | refine blk_drewN ?_ _ | refine blk_drew ?_ | refine blk_alloc ?_ _)); exact BK143.out) hb); have n1_ := Aside0.mk (below_step (by repeat (first | (with_reducible first | exact HB.out | apply below_alloc | apply pw_below_drewN | apply below_drew1 | refine below_set ?_ GE143.out) | exact HB.out)) hb); clear BK143; clear HB; have BK143 := n0_; have HB := n1_; clear n0_ n1_; (try clear hb); (try clear hb2); (try clear hk); (try clear hi)))
                      go_meet
                      case rel => exact ⟨_, (true), (by first | rfl | (simp; done) | (simp [*]; done) | (simp [show ∀ l : List UInt8, (l != []) = !l.isEmpty from fun l => by cases l <;> rfl]; done)), H', ⟨by first | omega | exact Nat.le_refl _⟩, ⟨by (with_reducible repeat (first | refine blk_drewN ?_ _ | refine blk_drew ?_ | refine blk_alloc ?_ _)); exact BK143.out⟩, ⟨by repeat (first | (with_reducible first | exact HB.out | apply below_alloc | apply pw_below_drewN | apply below_drew1 | refine below_set ?_ GE143.out) | exact HB.out)⟩⟩
                    · replace c11 := Bool.eq_false_iff.mpr c11
                      subst c11
                      have H1 : (if a0_1.toList = ([33, 46] : List UInt8) then (cinnabarref01_Check.j3 k a0_1 true a0_0 a0_1 a0_2) else ((cinnabarref01_has.f k a0_1 46).bind fun t146 => (cinnabarref01_Check.j3 k a0_1 (!t146) a0_0 a0_1 a0_2))) = some r := by rw [if_neg (show ¬ (false = true) by decide)] at H; exact H
                      clear H
                      have H := H1
                      clear H1
                      by_cases c13 : a0_1.toList = ([33, 46] : List UInt8)
                      · rw [if_pos c13] at H
                        have c13b0 : (a0_1.toList == ([33, 46] : List UInt8)) = true := beq_iff_eq.mpr c13
                        have c13b1 : (a0_1.toList != ([33, 46] : List UInt8)) = false := bne_eq_false_iff_eq.mpr c13
                        clear c13
                        have H' := Aside0.mk H
                        clear H
                        go_wp2_with (first | (go_at_call 36; (with_reducible refine (cinnabarref01_all.calls k a0_1 false true _ A8.out).mono ?_); rintro e w' ⟨rfl, ⟨nd, rfl⟩⟩) | (go_at_call 37; (with_reducible refine (TkRef.plain.calls a0_1 false _ A10.out).mono ?_); rintro e w14 ⟨rfl, hb⟩; have n0_ := Aside0.mk (blk_below (g := gb143) (o := .cells #[.int .i64 a0_0, .string a0_1, .int .i64 a0_2] 35 (0, 0)) (by (with_reducible repeat (first | refine blk_drewN ?_ _ | refine blk_drew ?_ | refine blk_alloc ?_ _)); exact BK143.out) hb); have n1_ := Aside0.mk (below_step (by repeat (first | (with_reducible first | exact HB.out | apply below_alloc | apply pw_below_drewN | apply below_drew1 | refine below_set ?_ GE143.out) | exact HB.out)) hb); clear BK143; clear HB; have BK143 := n0_; have HB := n1_; clear n0_ n1_; (try clear hb); (try clear hb2); (try clear hk); (try clear hi)))
                        go_meet
                        case rel => exact ⟨_, (true), (by first | rfl | (simp; done) | (simp [*]; done) | (simp [show ∀ l : List UInt8, (l != []) = !l.isEmpty from fun l => by cases l <;> rfl]; done)), H', ⟨by first | omega | exact Nat.le_refl _⟩, ⟨by (with_reducible repeat (first | refine blk_drewN ?_ _ | refine blk_drew ?_ | refine blk_alloc ?_ _)); exact BK143.out⟩, ⟨by repeat (first | (with_reducible first | exact HB.out | apply below_alloc | apply pw_below_drewN | apply below_drew1 | refine below_set ?_ GE143.out) | exact HB.out)⟩⟩
                      · rw [if_neg c13] at H
                        have c13b0 : (a0_1.toList == ([33, 46] : List UInt8)) = false := beq_eq_false_iff_ne.mpr c13
                        have c13b1 : (a0_1.toList != ([33, 46] : List UInt8)) = true := bne_iff_ne.mpr c13
                        replace H := Option.bind_eq_some_iff.mp H
                        obtain ⟨t146, A150, H⟩ := H
                        replace H : (cinnabarref01_Check.j3 k a0_1 (!t146) a0_0 a0_1 a0_2) = some r := H
                        have A15 := Aside0.mk A150
                        clear A150
                        have H' := Aside0.mk H
                        clear H
                        go_wp2_with (first | (go_at_call 36; (with_reducible refine (cinnabarref01_all.calls k a0_1 false true _ A8.out).mono ?_); rintro e w' ⟨rfl, ⟨nd, rfl⟩⟩) | (go_at_call 37; (with_reducible refine (TkRef.plain.calls a0_1 false _ A10.out).mono ?_); rintro e w16 ⟨rfl, hb⟩; have n0_ := Aside0.mk (blk_below (g := gb143) (o := .cells #[.int .i64 a0_0, .string a0_1, .int .i64 a0_2] 35 (0, 0)) (by (with_reducible repeat (first | refine blk_drewN ?_ _ | refine blk_drew ?_ | refine blk_alloc ?_ _)); exact BK143.out) hb); have n1_ := Aside0.mk (below_step (by repeat (first | (with_reducible first | exact HB.out | apply below_alloc | apply pw_below_drewN | apply below_drew1 | refine below_set ?_ GE143.out) | exact HB.out)) hb); clear BK143; clear HB; have BK143 := n0_; have HB := n1_; clear n0_ n1_; (try clear hb); (try clear hb2); (try clear hk); (try clear hi)) | (go_at_call 38; (with_reducible refine (cinnabarref01_has.calls k a0_1 46 t146 _ A15.out).mono ?_); rintro e w' ⟨rfl, ⟨nd, rfl⟩⟩))
                        go_meet
                        case rel => exact ⟨_, (!t146), (by first | rfl | (simp; done) | (simp [*]; done) | (simp [show ∀ l : List UInt8, (l != []) = !l.isEmpty from fun l => by cases l <;> rfl]; done)), H', ⟨by first | omega | exact Nat.le_refl _⟩, ⟨by (with_reducible repeat (first | refine blk_drewN ?_ _ | refine blk_drew ?_ | refine blk_alloc ?_ _)); exact BK143.out⟩, ⟨by repeat (first | (with_reducible first | exact HB.out | apply below_alloc | apply pw_below_drewN | apply below_drew1 | refine below_set ?_ GE143.out) | exact HB.out)⟩⟩
                · replace c9 := Bool.eq_false_iff.mpr c9
                  subst c9
                  have H1 : (cinnabarref01_Check.j3 k a0_1 false a0_0 a0_1 a0_2) = some r := by rw [if_neg (show ¬ (false = true) by decide)] at H; exact H
                  clear H
                  have H := H1
                  clear H1
                  have H' := Aside0.mk H
                  clear H
                  go_wp2_with (first | (go_at_call 36; (with_reducible refine (cinnabarref01_all.calls k a0_1 false false _ A8.out).mono ?_); rintro e w' ⟨rfl, ⟨nd, rfl⟩⟩))
                  go_meet
                  case rel => exact ⟨_, (false), (by first | rfl | (simp; done) | (simp [*]; done) | (simp [show ∀ l : List UInt8, (l != []) = !l.isEmpty from fun l => by cases l <;> rfl]; done)), H', ⟨by first | omega | exact Nat.le_refl _⟩, ⟨by (with_reducible repeat (first | refine blk_drewN ?_ _ | refine blk_drew ?_ | refine blk_alloc ?_ _)); exact BK143.out⟩, ⟨by repeat (first | (with_reducible first | exact HB.out | apply below_alloc | apply pw_below_drewN | apply below_drew1 | refine below_set ?_ GE143.out) | exact HB.out)⟩⟩
        · as_aux_lemma =>
            rw [if_neg c6] at H
            have c6b0 : (a0_0 == 1) = false := beq_eq_false_iff_ne.mpr c6
            have c6b1 : (a0_0 != 1) = true := bne_iff_ne.mpr c6
            by_cases c17 : a0_0 = 2
            · as_aux_lemma =>
                rw [if_pos c17] at H
                have c17b0 : (a0_0 == 2) = true := beq_iff_eq.mpr c17
                have c17b1 : (a0_0 != 2) = false := bne_eq_false_iff_eq.mpr c17
                clear c17
                have HC18 := Aside0.mk H
                clear H
                go_upto_region 10 with (fail)
                go_cut [4] (fun v4 wc => ∃ (kq : Nat) (x4_17 : Bool), v4 = .bool x4_17 ∧ Aside0 (cinnabarref01_Check.j0 kq a0_1 x4_17 a0_0 a0_1 a0_2 = some r) ∧ Aside0 (kq ≤ k) ∧ Aside0 (wc.heap[gb143]? = some (.cells #[.int .i64 a0_0, .string a0_1, .int .i64 a0_2] 35 (0, 0))) ∧ Aside0 (Below w.heap.size w wc))
                case first =>
                  have H := HC18.out
                  clear HC18
                  by_cases c19 : a0_1.toList = ([] : List UInt8)
                  · rw [if_pos c19] at H
                    have c19b0 : (a0_1.toList == ([] : List UInt8)) = true := beq_iff_eq.mpr c19
                    have c19b1 : (a0_1.toList != ([] : List UInt8)) = false := bne_eq_false_iff_eq.mpr c19
                    clear c19
                    (first | rw [c19b0] | (simp only [i64_w, i32_w]; rw [c19b0]) | skip)
                    have H' := Aside0.mk H
                    clear H
                    go_wp2
                    go_meet
                    case rel => exact ⟨_, (false), (by first | rfl | (simp; done) | (simp [*]; done) | (simp [show ∀ l : List UInt8, (l != []) = !l.isEmpty from fun l => by cases l <;> rfl]; done)), H', ⟨by first | omega | exact Nat.le_refl _⟩, ⟨by (with_reducible repeat (first | refine blk_drewN ?_ _ | refine blk_drew ?_ | refine blk_alloc ?_ _)); exact BK143.out⟩, ⟨by repeat (first | (with_reducible first | exact HB.out | apply below_alloc | apply pw_below_drewN | apply below_drew1 | refine below_set ?_ GE143.out) | exact HB.out)⟩⟩
                  · rw [if_neg c19] at H
                    have c19b0 : (a0_1.toList == ([] : List UInt8)) = false := beq_eq_false_iff_ne.mpr c19
                    have c19b1 : (a0_1.toList != ([] : List UInt8)) = true := bne_iff_ne.mpr c19
                    (first | rw [c19b0] | (simp only [i64_w, i32_w]; rw [c19b0]) | skip)
                    by_cases c20 : 0 < (a0_1.size : Int)
                    · rw [if_pos c20] at H
                      have c20b0 : decide (0 < (a0_1.size : Int)) = true := decide_eq_true c20
                      have c20b1 : decide (0 < a0_1.size) = true := decide_eq_true (by omega)
                      clear c20
                      replace H := Option.bind_eq_some_iff.mp H
                      obtain ⟨t147, A220, H⟩ := H
                      replace H : (cinnabarref01_Check.j0 k a0_1 t147 a0_0 a0_1 a0_2) = some r := H
                      have A22 := Aside0.mk A220
                      clear A220
                      have H' := Aside0.mk H
                      clear H
                      have p21 : 0 ≤ (0 : Int) := (by omega)
                      have q21 : 0 < a0_1.size := (by have : (0 : Int) < (a0_1.size : Int) := of_decide_eq_true (by first | (with_reducible assumption) | assumption); omega)
                      have hx21 : ∀ h : 0 < a0_1.size, ((a0_1[0]'h).toNat : Int) = bt a0_1 0 := bt_at a0_1 0
                      clear p21
                      have qi21 : (0 < (a0_1.size : Int)) = True := eq_true (of_decide_eq_true (by first | (with_reducible assumption) | assumption))
                      replace q21 := eq_true q21
                      go_wp2_with (first | (go_at_call 39; (with_reducible refine (cinnabarref01_capital.calls (bt a0_1 0) t147 _ A22.out).mono ?_); rintro e w' ⟨rfl, ⟨nd, rfl⟩⟩))
                      go_meet
                      case rel => exact ⟨_, (t147), (by first | rfl | (simp; done) | (simp [*]; done) | (simp [show ∀ l : List UInt8, (l != []) = !l.isEmpty from fun l => by cases l <;> rfl]; done)), H', ⟨by first | omega | exact Nat.le_refl _⟩, ⟨by (with_reducible repeat (first | refine blk_drewN ?_ _ | refine blk_drew ?_ | refine blk_alloc ?_ _)); exact BK143.out⟩, ⟨by repeat (first | (with_reducible first | exact HB.out | apply below_alloc | apply pw_below_drewN | apply below_drew1 | refine below_set ?_ GE143.out) | exact HB.out)⟩⟩
                    · rw [if_neg c20] at H
                      exact absurd H (by simp)
                case rest =>
                  clear HC18
                  try clear c1
                  try clear c2
                  try clear p2
                  try clear q2
                  try clear hx2
                  try clear qi2
                  try clear c5
                  try clear c5b0
                  try clear c5b1
                  try clear c6
                  try clear c6b0
                  try clear c6b1
                  try clear c7
                  try clear c7b0
                  try clear c7b1
                  try clear c9
                  try clear c11
                  try clear c13
                  try clear c13b0
                  try clear c13b1
                  try clear c17
                  try clear c17b0
                  try clear c17b1
                  try clear c19
                  try clear c19b0
                  try clear c19b1
                  try clear c20
                  try clear c20b0
                  try clear c20b1
                  try clear p21
                  try clear q21
                  try clear hx21
                  try clear qi21
                  try clear hcz4_0
                  try clear hcz4_1
                  try clear hcz4_2
                  try clear hfz4_0
                  try clear hfz4_1
                  try clear hfz4_2
                  try clear p21
                  try clear q21
                  obtain ⟨kq, x4_17, rfl, HA, HJ17, BK143, HB⟩ := hcut
                  cases kq with
                  | zero => exact absurd HA.out (by simp [cinnabarref01_Check.j0])
                  | succ kj17 =>
                    have H := HA.out
                    clear HA
                    simp only [cinnabarref01_Check.j0] at H
                    have H' := Aside0.mk H
                    clear H
                    go_wp2
                    (try simp only [Go.Act.put, List.setIfInBounds_toArray, List.set_cons_succ, List.set_cons_zero])
                    go_loopg [4, 5] kj17 (fun kq v4 v5 w' => ∃ (x4_2 : Bool) (x5_2 : Int), v4 = .bool x4_2 ∧ v5 = .int .i64 x5_2 ∧ Aside0 (cinnabarref01_Check.l0 kq a0_1 x4_2 x5_2 a0_0 a0_1 a0_2 = some r) ∧ Aside0 (kq ≤ kj17) ∧ Aside0 (w'.heap[gb143]? = some (.cells #[.int .i64 a0_0, .string a0_1, .int .i64 a0_2] 35 (0, 0))) ∧ Aside0 (Below w.heap.size w w'))
                    case atStart => exact ⟨(x4_17), (0), (by first | rfl | (simp; done) | (simp [*]; done) | (simp [show ∀ l : List UInt8, (l != []) = !l.isEmpty from fun l => by cases l <;> rfl]; done)), (by first | rfl | (simp; done) | (simp [*]; done) | (simp [show ∀ l : List UInt8, (l != []) = !l.isEmpty from fun l => by cases l <;> rfl]; done)), H', ⟨Nat.le_refl _⟩, ⟨by (with_reducible repeat (first | refine blk_drewN ?_ _ | refine blk_drew ?_ | refine blk_alloc ?_ _)); exact BK143.out⟩, ⟨by repeat (first | (with_reducible first | exact HB.out | apply below_alloc | apply pw_below_drewN | apply below_drew1 | refine below_set ?_ GE143.out) | exact HB.out)⟩⟩
                    case round =>
                      clear H'
                      try clear c1
                      try clear c2
                      try clear p2
                      try clear q2
                      try clear hx2
                      try clear qi2
                      try clear c5
                      try clear c5b0
                      try clear c5b1
                      try clear c6
                      try clear c6b0
                      try clear c6b1
                      try clear c7
                      try clear c7b0
                      try clear c7b1
                      try clear c9
                      try clear c11
                      try clear c13
                      try clear c13b0
                      try clear c13b1
                      try clear c17
                      try clear c17b0
                      try clear c17b1
                      try clear c19
                      try clear c19b0
                      try clear c19b1
                      try clear c20
                      try clear c20b0
                      try clear c20b1
                      try clear p21
                      try clear q21
                      try clear hx21
                      try clear qi21
                      try clear hcz4_0
                      try clear hcz4_1
                      try clear hcz4_2
                      try clear hfz4_0
                      try clear hfz4_1
                      try clear hfz4_2
                      try clear p2
                      try clear p21
                      try clear q2
                      try clear q21
                      obtain ⟨x4_2, x5_2, rfl, rfl, HA, HK2, BK143, HB⟩ := hrel
                      cases gk with
                      | zero => exact absurd HA.out (by simp [cinnabarref01_Check.l0])
                      | succ k2 =>
                        have H := HA.out
                        clear HA
                        simp only [cinnabarref01_Check.l0] at H
                        by_cases c23 : x5_2 < (a0_1.size : Int)
                        · as_aux_lemma =>
                            rw [if_pos c23] at H
                            have c23b0 : decide (x5_2 < (a0_1.size : Int)) = true := decide_eq_true c23
                            clear c23
                            by_cases c24 : x4_2 = true
                            · subst c24
                              have H1 : (if 0 ≤ x5_2 then ((cinnabarref01_word.f (bt a0_1 x5_2)).bind fun t148 => (cinnabarref01_Check.l0 k2 a0_1 t148 (wrap64 (x5_2 + 1)) a0_0 a0_1 a0_2)) else (none)) = some r := by rw [if_pos rfl] at H; exact H
                              clear H
                              have H := H1
                              clear H1
                              by_cases c25 : 0 ≤ x5_2
                              · rw [if_pos c25] at H
                                have c25b0 : decide (0 ≤ x5_2) = true := decide_eq_true c25
                                clear c25
                                replace H := Option.bind_eq_some_iff.mp H
                                obtain ⟨t148, A270, H⟩ := H
                                replace H : (cinnabarref01_Check.l0 k2 a0_1 t148 (wrap64 (x5_2 + 1)) a0_0 a0_1 a0_2) = some r := H
                                have A27 := Aside0.mk A270
                                clear A270
                                have H' := Aside0.mk H
                                clear H
                                have p26 : 0 ≤ (x5_2 : Int) := of_decide_eq_true (by first | (with_reducible assumption) | assumption)
                                have q26 : x5_2 < (a0_1.size : Int) := of_decide_eq_true (by first | (with_reducible assumption) | assumption)
                                have hx26 := bt_at a0_1 x5_2
                                replace p26 := eq_true p26
                                replace q26 := eq_true q26
                                go_wp2_with (first | (go_at_call 40; (with_reducible refine (cinnabarref01_word.calls (bt a0_1 x5_2) t148 _ A27.out).mono ?_); rintro e w' ⟨rfl, ⟨nd, rfl⟩⟩))
                                go_roundg k2
                                case measure => have := HJ17.out; have := HK2.out; omega
                                case rel => exact ⟨(t148), (wrap64 (x5_2 + 1)), (by first | rfl | (simp; done) | (simp [*]; done) | (simp [show ∀ l : List UInt8, (l != []) = !l.isEmpty from fun l => by cases l <;> rfl]; done)), (by first | rfl | (simp; done) | (simp [*]; done) | (simp [show ∀ l : List UInt8, (l != []) = !l.isEmpty from fun l => by cases l <;> rfl]; done)), H', ⟨by have := HJ17.out; have := HK2.out; omega⟩, ⟨by (with_reducible repeat (first | refine blk_drewN ?_ _ | refine blk_drew ?_ | refine blk_alloc ?_ _)); exact BK143.out⟩, ⟨by repeat (first | (with_reducible first | exact HB.out | apply below_alloc | apply pw_below_drewN | apply below_drew1 | refine below_set ?_ GE143.out) | exact HB.out)⟩⟩
                              · rw [if_neg c25] at H
                                exact absurd H (by simp)
                            · replace c24 := Bool.eq_false_iff.mpr c24
                              subst c24
                              have H1 : (cinnabarref01_Check.l0 k2 a0_1 false (wrap64 (x5_2 + 1)) a0_0 a0_1 a0_2) = some r := by rw [if_neg (show ¬ (false = true) by decide)] at H; exact H
                              clear H
                              have H := H1
                              clear H1
                              have H' := Aside0.mk H
                              clear H
                              go_wp2
                              go_roundg k2
                              case measure => have := HJ17.out; have := HK2.out; omega
                              case rel => exact ⟨(false), (wrap64 (x5_2 + 1)), (by first | rfl | (simp; done) | (simp [*]; done) | (simp [show ∀ l : List UInt8, (l != []) = !l.isEmpty from fun l => by cases l <;> rfl]; done)), (by first | rfl | (simp; done) | (simp [*]; done) | (simp [show ∀ l : List UInt8, (l != []) = !l.isEmpty from fun l => by cases l <;> rfl]; done)), H', ⟨by have := HJ17.out; have := HK2.out; omega⟩, ⟨by (with_reducible repeat (first | refine blk_drewN ?_ _ | refine blk_drew ?_ | refine blk_alloc ?_ _)); exact BK143.out⟩, ⟨by repeat (first | (with_reducible first | exact HB.out | apply below_alloc | apply pw_below_drewN | apply below_drew1 | refine below_set ?_ GE143.out) | exact HB.out)⟩⟩
                        · rw [if_neg c23] at H
                          have c23b0 : decide (x5_2 < (a0_1.size : Int)) = false := decide_eq_false c23
                          clear c23
                          have H' := Aside0.mk H
                          clear H
                          go_wp2
                          go_meet
                          case rel => exact ⟨_, (x4_2), (by first | rfl | (simp; done) | (simp [*]; done) | (simp [show ∀ l : List UInt8, (l != []) = !l.isEmpty from fun l => by cases l <;> rfl]; done)), H', ⟨by have := HJ17.out; have := HK2.out; first | omega | exact Nat.le_refl _⟩, ⟨by (with_reducible repeat (first | refine blk_drewN ?_ _ | refine blk_drew ?_ | refine blk_alloc ?_ _)); exact BK143.out⟩, ⟨by repeat (first | (with_reducible first | exact HB.out | apply below_alloc | apply pw_below_drewN | apply below_drew1 | refine below_set ?_ GE143.out) | exact HB.out)⟩⟩
            · as_aux_lemma =>
                rw [if_neg c17] at H
                have c17b0 : (a0_0 == 2) = false := beq_eq_false_iff_ne.mpr c17
                have c17b1 : (a0_0 != 2) = true := bne_iff_ne.mpr c17
                by_cases c28 : a0_0 = 3
                · as_aux_lemma =>
                    rw [if_pos c28] at H
                    have c28b0 : (a0_0 == 3) = true := beq_iff_eq.mpr c28
                    have c28b1 : (a0_0 != 3) = false := bne_eq_false_iff_eq.mpr c28
                    clear c28
                    have H' := Aside0.mk H
                    clear H
                    go_wp2
                    (try simp only [Go.Act.put, List.setIfInBounds_toArray, List.set_cons_succ, List.set_cons_zero])
                    go_loopg [4, 6] k (fun kq v4 v6 w' => ∃ (x4_1 : Bool) (x6_1 : Int), v4 = .bool x4_1 ∧ v6 = .int .i64 x6_1 ∧ Aside0 (cinnabarref01_Check.l1 kq a0_1 x4_1 x6_1 a0_0 a0_1 a0_2 = some r) ∧ Aside0 (kq ≤ k) ∧ Aside0 (w'.heap[gb143]? = some (.cells #[.int .i64 a0_0, .string a0_1, .int .i64 a0_2] 35 (0, 0))) ∧ Aside0 (Below w.heap.size w w'))
                    case atStart => exact ⟨((a0_1.toList != ([] : List UInt8))), (0), (by first | rfl | (simp; done) | (simp [*]; done) | (simp [show ∀ l : List UInt8, (l != []) = !l.isEmpty from fun l => by cases l <;> rfl]; done)), (by first | rfl | (simp; done) | (simp [*]; done) | (simp [show ∀ l : List UInt8, (l != []) = !l.isEmpty from fun l => by cases l <;> rfl]; done)), H', ⟨Nat.le_refl _⟩, ⟨by (with_reducible repeat (first | refine blk_drewN ?_ _ | refine blk_drew ?_ | refine blk_alloc ?_ _)); exact BK143.out⟩, ⟨by repeat (first | (with_reducible first | exact HB.out | apply below_alloc | apply pw_below_drewN | apply below_drew1 | refine below_set ?_ GE143.out) | exact HB.out)⟩⟩
                    case round =>
                      clear H'
                      try clear c1
                      try clear c2
                      try clear p2
                      try clear q2
                      try clear hx2
                      try clear qi2
                      try clear c5
                      try clear c5b0
                      try clear c5b1
                      try clear c6
                      try clear c6b0
                      try clear c6b1
                      try clear p6
                      try clear c7
                      try clear c7b0
                      try clear c7b1
                      try clear c9
                      try clear c11
                      try clear c13
                      try clear c13b0
                      try clear c13b1
                      try clear c17
                      try clear c17b0
                      try clear c17b1
                      try clear c19
                      try clear c19b0
                      try clear c19b1
                      try clear c20
                      try clear c20b0
                      try clear c20b1
                      try clear p21
                      try clear q21
                      try clear hx21
                      try clear qi21
                      try clear c23
                      try clear c23b0
                      try clear c24
                      try clear c25
                      try clear c25b0
                      try clear p26
                      try clear q26
                      try clear hx26
                      try clear c28
                      try clear c28b0
                      try clear c28b1
                      try clear hcz4_0
                      try clear hcz4_1
                      try clear hcz4_2
                      try clear hfz4_0
                      try clear hfz4_1
                      try clear hfz4_2
                      try clear p2
                      try clear p21
                      try clear p26
                      try clear q2
                      try clear q21
                      try clear q26
                      obtain ⟨x4_1, x6_1, rfl, rfl, HA, HK1, BK143, HB⟩ := hrel
                      cases gk with
                      | zero => exact absurd HA.out (by simp [cinnabarref01_Check.l1])
                      | succ k1 =>
                        have H := HA.out
                        clear HA
                        simp only [cinnabarref01_Check.l1] at H
                        by_cases c29 : x6_1 < (a0_1.size : Int)
                        · as_aux_lemma =>
                            rw [if_pos c29] at H
                            have c29b0 : decide (x6_1 < (a0_1.size : Int)) = true := decide_eq_true c29
                            clear c29
                            by_cases c30 : x4_1 = true
                            · subst c30
                              have H1 : (if 0 ≤ x6_1 then ((cinnabarref01_digit.f (bt a0_1 x6_1)).bind fun t149 => (cinnabarref01_Check.l1 k1 a0_1 t149 (wrap64 (x6_1 + 1)) a0_0 a0_1 a0_2)) else (none)) = some r := by rw [if_pos rfl] at H; exact H
                              clear H
                              have H := H1
                              clear H1
                              by_cases c31 : 0 ≤ x6_1
                              · rw [if_pos c31] at H
                                have c31b0 : decide (0 ≤ x6_1) = true := decide_eq_true c31
                                clear c31
                                replace H := Option.bind_eq_some_iff.mp H
                                obtain ⟨t149, A330, H⟩ := H
                                replace H : (cinnabarref01_Check.l1 k1 a0_1 t149 (wrap64 (x6_1 + 1)) a0_0 a0_1 a0_2) = some r := H
                                have A33 := Aside0.mk A330
                                clear A330
                                have H' := Aside0.mk H
                                clear H
                                have p32 : 0 ≤ (x6_1 : Int) := of_decide_eq_true (by first | (with_reducible assumption) | assumption)
                                have q32 : x6_1 < (a0_1.size : Int) := of_decide_eq_true (by first | (with_reducible assumption) | assumption)
                                have hx32 := bt_at a0_1 x6_1
                                replace p32 := eq_true p32
                                replace q32 := eq_true q32
                                go_wp2_with (first | (go_at_call 41; (with_reducible refine (cinnabarref01_digit.calls (bt a0_1 x6_1) t149 _ A33.out).mono ?_); rintro e w' ⟨rfl, ⟨nd, rfl⟩⟩))
                                go_roundg k1
                                case measure => have := HK1.out; omega
                                case rel => exact ⟨(t149), (wrap64 (x6_1 + 1)), (by first | rfl | (simp; done) | (simp [*]; done) | (simp [show ∀ l : List UInt8, (l != []) = !l.isEmpty from fun l => by cases l <;> rfl]; done)), (by first | rfl | (simp; done) | (simp [*]; done) | (simp [show ∀ l : List UInt8, (l != []) = !l.isEmpty from fun l => by cases l <;> rfl]; done)), H', ⟨by have := HK1.out; omega⟩, ⟨by (with_reducible repeat (first | refine blk_drewN ?_ _ | refine blk_drew ?_ | refine blk_alloc ?_ _)); exact BK143.out⟩, ⟨by repeat (first | (with_reducible first | exact HB.out | apply below_alloc | apply pw_below_drewN | apply below_drew1 | refine below_set ?_ GE143.out) | exact HB.out)⟩⟩
                              · rw [if_neg c31] at H
                                exact absurd H (by simp)
                            · replace c30 := Bool.eq_false_iff.mpr c30
                              subst c30
                              have H1 : (cinnabarref01_Check.l1 k1 a0_1 false (wrap64 (x6_1 + 1)) a0_0 a0_1 a0_2) = some r := by rw [if_neg (show ¬ (false = true) by decide)] at H; exact H
                              clear H
                              have H := H1
                              clear H1
                              have H' := Aside0.mk H
                              clear H
                              go_wp2
                              go_roundg k1
                              case measure => have := HK1.out; omega
                              case rel => exact ⟨(false), (wrap64 (x6_1 + 1)), (by first | rfl | (simp; done) | (simp [*]; done) | (simp [show ∀ l : List UInt8, (l != []) = !l.isEmpty from fun l => by cases l <;> rfl]; done)), (by first | rfl | (simp; done) | (simp [*]; done) | (simp [show ∀ l : List UInt8, (l != []) = !l.isEmpty from fun l => by cases l <;> rfl]; done)), H', ⟨by have := HK1.out; omega⟩, ⟨by (with_reducible repeat (first | refine blk_drewN ?_ _ | refine blk_drew ?_ | refine blk_alloc ?_ _)); exact BK143.out⟩, ⟨by repeat (first | (with_reducible first | exact HB.out | apply below_alloc | apply pw_below_drewN | apply below_drew1 | refine below_set ?_ GE143.out) | exact HB.out)⟩⟩
                        · rw [if_neg c29] at H
                          have c29b0 : decide (x6_1 < (a0_1.size : Int)) = false := decide_eq_false c29
                          clear c29
                          have H' := Aside0.mk H
                          clear H
                          go_wp2
                          go_meet
                          case rel => exact ⟨_, (x4_1), (by first | rfl | (simp; done) | (simp [*]; done) | (simp [show ∀ l : List UInt8, (l != []) = !l.isEmpty from fun l => by cases l <;> rfl]; done)), H', ⟨by have := HK1.out; first | omega | exact Nat.le_refl _⟩, ⟨by (with_reducible repeat (first | refine blk_drewN ?_ _ | refine blk_drew ?_ | refine blk_alloc ?_ _)); exact BK143.out⟩, ⟨by repeat (first | (with_reducible first | exact HB.out | apply below_alloc | apply pw_below_drewN | apply below_drew1 | refine below_set ?_ GE143.out) | exact HB.out)⟩⟩
                · as_aux_lemma =>
                    rw [if_neg c28] at H
                    have c28b0 : (a0_0 == 3) = false := beq_eq_false_iff_ne.mpr c28
                    have c28b1 : (a0_0 != 3) = true := bne_iff_ne.mpr c28
                    by_cases c34 : a0_0 = 4
                    · rw [if_pos c34] at H
                      have c34b0 : (a0_0 == 4) = true := beq_iff_eq.mpr c34
                      have c34b1 : (a0_0 != 4) = false := bne_eq_false_iff_eq.mpr c34
                      clear c34
                      by_cases c35 : (a0_1.size : Int) = 1
                      · rw [if_pos c35] at H
                        have c35b0 : ((a0_1.size : Int) == 1) = true := beq_iff_eq.mpr c35
                        have c35b1 : ((a0_1.size : Int) != 1) = false := bne_eq_false_iff_eq.mpr c35
                        clear c35
                        replace H := Option.bind_eq_some_iff.mp H
                        obtain ⟨t150, A360, H⟩ := H
                        replace H : (cinnabarref01_Check.j3 k a0_1 t150 a0_0 a0_1 a0_2) = some r := H
                        have A36 := Aside0.mk A360
                        clear A360
                        have H' := Aside0.mk H
                        clear H
                        go_wp2_with (first | (go_at_call 36; (with_reducible refine (cinnabarref01_all.calls k a0_1 true t150 _ A36.out).mono ?_); rintro e w' ⟨rfl, ⟨nd, rfl⟩⟩))
                        go_meet
                        case rel => exact ⟨_, (t150), (by first | rfl | (simp; done) | (simp [*]; done) | (simp [show ∀ l : List UInt8, (l != []) = !l.isEmpty from fun l => by cases l <;> rfl]; done)), H', ⟨by first | omega | exact Nat.le_refl _⟩, ⟨by (with_reducible repeat (first | refine blk_drewN ?_ _ | refine blk_drew ?_ | refine blk_alloc ?_ _)); exact BK143.out⟩, ⟨by repeat (first | (with_reducible first | exact HB.out | apply below_alloc | apply pw_below_drewN | apply below_drew1 | refine below_set ?_ GE143.out) | exact HB.out)⟩⟩
                      · rw [if_neg c35] at H
                        have c35b0 : ((a0_1.size : Int) == 1) = false := beq_eq_false_iff_ne.mpr c35
                        have c35b1 : ((a0_1.size : Int) != 1) = true := bne_iff_ne.mpr c35
                        have H' := Aside0.mk H
                        clear H
                        go_wp2
                        go_meet
                        case rel => exact ⟨_, (false), (by first | rfl | (simp; done) | (simp [*]; done) | (simp [show ∀ l : List UInt8, (l != []) = !l.isEmpty from fun l => by cases l <;> rfl]; done)), H', ⟨by first | omega | exact Nat.le_refl _⟩, ⟨by (with_reducible repeat (first | refine blk_drewN ?_ _ | refine blk_drew ?_ | refine blk_alloc ?_ _)); exact BK143.out⟩, ⟨by repeat (first | (with_reducible first | exact HB.out | apply below_alloc | apply pw_below_drewN | apply below_drew1 | refine below_set ?_ GE143.out) | exact HB.out)⟩⟩
                    · as_aux_lemma =>
                        rw [if_neg c34] at H
                        have c34b0 : (a0_0 == 4) = false := beq_eq_false_iff_ne.mpr c34
                        have c34b1 : (a0_0 != 4) = true := bne_iff_ne.mpr c34
                        by_cases c37 : a0_0 = 5
                        · rw [if_pos c37] at H
                          have c37b0 : (a0_0 == 5) = true := beq_iff_eq.mpr c37
                          have c37b1 : (a0_0 != 5) = false := bne_eq_false_iff_eq.mpr c37
                          clear c37
                          replace H := Option.bind_eq_some_iff.mp H
                          obtain ⟨t151, A380, H⟩ := H
                          replace H : (cinnabarref01_Check.j3 k a0_1 t151 a0_0 a0_1 a0_2) = some r := H
                          have A38 := Aside0.mk A380
                          clear A380
                          have H' := Aside0.mk H
                          clear H
                          go_wp2_with (first | ((with_reducible refine gate_callee (f := 36) rfl ?_); refine goesL_ (some 87) rfl rfl Tryz.func36 (by kernel_rfl) rfl #[.string a0_1, .bool true] rfl (by (try simp only [List.map_toArray, List.map_cons, List.map_nil]); first | done | rfl | (simp only [List.length_drop, List.length_take]; rfl)) ?_; (with_reducible refine (cinnabarref01_all.calls k a0_1 true t151 _ A38.out).mono ?_); rintro e w' ⟨rfl, ⟨nd, rfl⟩⟩; refine ⟨_, rfl, ?_⟩))
                          go_meet
                          case rel => exact ⟨_, (t151), (by first | rfl | (simp; done) | (simp [*]; done) | (simp [show ∀ l : List UInt8, (l != []) = !l.isEmpty from fun l => by cases l <;> rfl]; done)), H', ⟨by first | omega | exact Nat.le_refl _⟩, ⟨by (with_reducible repeat (first | refine blk_drewN ?_ _ | refine blk_drew ?_ | refine blk_alloc ?_ _)); exact BK143.out⟩, ⟨by repeat (first | (with_reducible first | exact HB.out | apply below_alloc | apply pw_below_drewN | apply below_drew1 | refine below_set ?_ GE143.out) | exact HB.out)⟩⟩
                        · as_aux_lemma =>
                            rw [if_neg c37] at H
                            have c37b0 : (a0_0 == 5) = false := beq_eq_false_iff_ne.mpr c37
                            have c37b1 : (a0_0 != 5) = true := bne_iff_ne.mpr c37
                            by_cases c39 : a0_0 = 6
                            · as_aux_lemma =>
                                rw [if_pos c39] at H
                                have c39b0 : (a0_0 == 6) = true := beq_iff_eq.mpr c39
                                have c39b1 : (a0_0 != 6) = false := bne_eq_false_iff_eq.mpr c39
                                clear c39
                                by_cases c40 : a0_1.toList = ([40, 40] : List UInt8)
                                · rw [if_pos c40] at H
                                  have c40b0 : (a0_1.toList == ([40, 40] : List UInt8)) = true := beq_iff_eq.mpr c40
                                  have c40b1 : (a0_1.toList != ([40, 40] : List UInt8)) = false := bne_eq_false_iff_eq.mpr c40
                                  clear c40
                                  have H' := Aside0.mk H
                                  clear H
                                  go_wp2
                                  go_meet
                                  case rel => exact ⟨_, (true), (by first | rfl | (simp; done) | (simp [*]; done) | (simp [show ∀ l : List UInt8, (l != []) = !l.isEmpty from fun l => by cases l <;> rfl]; done)), H', ⟨by first | omega | exact Nat.le_refl _⟩, ⟨by (with_reducible repeat (first | refine blk_drewN ?_ _ | refine blk_drew ?_ | refine blk_alloc ?_ _)); exact BK143.out⟩, ⟨by repeat (first | (with_reducible first | exact HB.out | apply below_alloc | apply pw_below_drewN | apply below_drew1 | refine below_set ?_ GE143.out) | exact HB.out)⟩⟩
                                · rw [if_neg c40] at H
                                  have c40b0 : (a0_1.toList == ([40, 40] : List UInt8)) = false := beq_eq_false_iff_ne.mpr c40
                                  have c40b1 : (a0_1.toList != ([40, 40] : List UInt8)) = true := bne_iff_ne.mpr c40
                                  by_cases c41 : (a0_1.size : Int) = 1
                                  · rw [if_pos c41] at H
                                    have c41b0 : ((a0_1.size : Int) == 1) = true := beq_iff_eq.mpr c41
                                    have c41b1 : ((a0_1.size : Int) != 1) = false := bne_eq_false_iff_eq.mpr c41
                                    clear c41
                                    by_cases c42 : 0 < (a0_1.size : Int)
                                    · rw [if_pos c42] at H
                                      have c42b0 : decide (0 < (a0_1.size : Int)) = true := decide_eq_true c42
                                      have c42b1 : decide (0 < a0_1.size) = true := decide_eq_true (by omega)
                                      clear c42
                                      replace H := Option.bind_eq_some_iff.mp H
                                      obtain ⟨t152, A440, H⟩ := H
                                      replace H : (cinnabarref01_Check.j3 k a0_1 t152 a0_0 a0_1 a0_2) = some r := H
                                      have A44 := Aside0.mk A440
                                      clear A440
                                      have H' := Aside0.mk H
                                      clear H
                                      have p43 : 0 ≤ (0 : Int) := (by omega)
                                      have q43 : 0 < a0_1.size := (by have : (0 : Int) < (a0_1.size : Int) := of_decide_eq_true (by first | (with_reducible assumption) | assumption); omega)
                                      have hx43 : ∀ h : 0 < a0_1.size, ((a0_1[0]'h).toNat : Int) = bt a0_1 0 := bt_at a0_1 0
                                      clear p43
                                      have qi43 : (0 < (a0_1.size : Int)) = True := eq_true (of_decide_eq_true (by first | (with_reducible assumption) | assumption))
                                      replace q43 := eq_true q43
                                      go_wp2_with (first | (go_at_call 38; (with_reducible refine (cinnabarref01_has.calls k (⟨#[40, 41, 91, 93, 123, 125, 44, 124]⟩ : ByteArray) (bt a0_1 0) t152 _ A44.out).mono ?_); rintro e w' ⟨rfl, ⟨nd, rfl⟩⟩))
                                      go_meet
                                      case rel => exact ⟨_, (t152), (by first | rfl | (simp; done) | (simp [*]; done) | (simp [show ∀ l : List UInt8, (l != []) = !l.isEmpty from fun l => by cases l <;> rfl]; done)), H', ⟨by first | omega | exact Nat.le_refl _⟩, ⟨by (with_reducible repeat (first | refine blk_drewN ?_ _ | refine blk_drew ?_ | refine blk_alloc ?_ _)); exact BK143.out⟩, ⟨by repeat (first | (with_reducible first | exact HB.out | apply below_alloc | apply pw_below_drewN | apply below_drew1 | refine below_set ?_ GE143.out) | exact HB.out)⟩⟩
                                    · rw [if_neg c42] at H
                                      exact absurd H (by simp)
                                  · rw [if_neg c41] at H
                                    have c41b0 : ((a0_1.size : Int) == 1) = false := beq_eq_false_iff_ne.mpr c41
                                    have c41b1 : ((a0_1.size : Int) != 1) = true := bne_iff_ne.mpr c41
                                    have H' := Aside0.mk H
                                    clear H
                                    go_wp2
                                    go_meet
                                    case rel => exact ⟨_, (false), (by first | rfl | (simp; done) | (simp [*]; done) | (simp [show ∀ l : List UInt8, (l != []) = !l.isEmpty from fun l => by cases l <;> rfl]; done)), H', ⟨by first | omega | exact Nat.le_refl _⟩, ⟨by (with_reducible repeat (first | refine blk_drewN ?_ _ | refine blk_drew ?_ | refine blk_alloc ?_ _)); exact BK143.out⟩, ⟨by repeat (first | (with_reducible first | exact HB.out | apply below_alloc | apply pw_below_drewN | apply below_drew1 | refine below_set ?_ GE143.out) | exact HB.out)⟩⟩
                            · rw [if_neg c39] at H
                              have c39b0 : (a0_0 == 6) = false := beq_eq_false_iff_ne.mpr c39
                              have c39b1 : (a0_0 != 6) = true := bne_iff_ne.mpr c39
                              by_cases c45 : a0_0 = 7
                              · rw [if_pos c45] at H
                                have c45b0 : (a0_0 == 7) = true := beq_iff_eq.mpr c45
                                have c45b1 : (a0_0 != 7) = false := bne_eq_false_iff_eq.mpr c45
                                clear c45
                                have H' := Aside0.mk H
                                clear H
                                go_wp2
                                go_meet
                                case rel => exact ⟨_, ((a0_1.toList == ([46] : List UInt8))), (by first | rfl | (simp; done) | (simp [*]; done) | (simp [show ∀ l : List UInt8, (l != []) = !l.isEmpty from fun l => by cases l <;> rfl]; done)), H', ⟨by first | omega | exact Nat.le_refl _⟩, ⟨by (with_reducible repeat (first | refine blk_drewN ?_ _ | refine blk_drew ?_ | refine blk_alloc ?_ _)); exact BK143.out⟩, ⟨by repeat (first | (with_reducible first | exact HB.out | apply below_alloc | apply pw_below_drewN | apply below_drew1 | refine below_set ?_ GE143.out) | exact HB.out)⟩⟩
                              · rw [if_neg c45] at H
                                have c45b0 : (a0_0 == 7) = false := beq_eq_false_iff_ne.mpr c45
                                have c45b1 : (a0_0 != 7) = true := bne_iff_ne.mpr c45
                                obtain rfl := Option.some.inj H
                                go_wp2
                                go_ret
                                exact ⟨by first | rfl | (simp [errW_none, errW_some] <;> rfl) | (simp [*, errW_none, errW_some] <;> rfl), by repeat (first | (with_reducible first | exact HB.out | apply below_alloc | apply pw_below_drewN | apply below_drew1 | refine below_set ?_ GE143.out) | exact HB.out)⟩
  case rest =>
    clear HC2
    try clear c1
    try clear c2
    try clear p2
    try clear q2
    try clear hx2
    try clear qi2
    try clear c3
    try clear p3
    try clear q3
    try clear hx3
    try clear c4
    try clear p4
    try clear q4
    try clear hx4
    try clear qi4
    try clear c5
    try clear c5b0
    try clear c5b1
    try clear c6
    try clear c6b0
    try clear c6b1
    try clear p6
    try clear c7
    try clear c7b0
    try clear c7b1
    try clear c9
    try clear c11
    try clear c13
    try clear c13b0
    try clear c13b1
    try clear c17
    try clear c17b0
    try clear c17b1
    try clear c19
    try clear c19b0
    try clear c19b1
    try clear c20
    try clear c20b0
    try clear c20b1
    try clear p21
    try clear q21
    try clear hx21
    try clear qi21
    try clear c23
    try clear c23b0
    try clear c24
    try clear c25
    try clear c25b0
    try clear p26
    try clear q26
    try clear hx26
    try clear c28
    try clear c28b0
    try clear c28b1
    try clear c29
    try clear c29b0
    try clear c30
    try clear c31
    try clear c31b0
    try clear p32
    try clear q32
    try clear hx32
    try clear c34
    try clear c34b0
    try clear c34b1
    try clear c35
    try clear c35b0
    try clear c35b1
    try clear c36
    try clear c37
    try clear c37b0
    try clear c37b1
    try clear c39
    try clear c39b0
    try clear c39b1
    try clear c40
    try clear c40b0
    try clear c40b1
    try clear c41
    try clear c41b0
    try clear c41b1
    try clear c42
    try clear c42b0
    try clear c42b1
    try clear p43
    try clear q43
    try clear hx43
    try clear qi43
    try clear c45
    try clear c45b0
    try clear c45b1
    try clear hcz4_0
    try clear hcz4_1
    try clear hcz4_2
    try clear hfz4_0
    try clear hfz4_1
    try clear hfz4_2
    try clear p2
    try clear p21
    try clear p26
    try clear p32
    try clear p43
    try clear p6
    try clear q2
    try clear q21
    try clear q26
    try clear q32
    try clear q43
    obtain ⟨kq, x4_1, rfl, HA, HJ1, BK143, HB⟩ := hcut
    cases kq with
    | zero => exact absurd HA.out (by simp [cinnabarref01_Check.j3])
    | succ kj1 =>
      have H := HA.out
      clear HA
      simp only [cinnabarref01_Check.j3] at H
      by_cases c46 : x4_1 = true
      · as_aux_lemma =>
          subst c46
          have H1 : (if a0_0 = 1 then ((cinnabarref01_long.f kj1 a0_1).bind fun t153 => (cinnabarref01_Check.j4 kj1 a0_1 t153 a0_0 a0_1 a0_2)) else (if a0_0 = 2 then ((cinnabarref01_long.f kj1 a0_1).bind fun t154 => (cinnabarref01_Check.j4 kj1 a0_1 t154 a0_0 a0_1 a0_2)) else (cinnabarref01_Check.j4 kj1 a0_1 false a0_0 a0_1 a0_2))) = some r := by rw [if_pos rfl] at H; exact H
          clear H
          have H := H1
          clear H1
          have HC47 := Aside0.mk H
          clear H
          go_upto_region 31 with (fail)
          go_cut [119] (fun v119 wc => ∃ (kq : Nat) (x119_46 : Bool), v119 = .bool x119_46 ∧ Aside0 (cinnabarref01_Check.j4 kq a0_1 x119_46 a0_0 a0_1 a0_2 = some r) ∧ Aside0 (kq ≤ kj1) ∧ Aside0 (wc.heap[gb143]? = some (.cells #[.int .i64 a0_0, .string a0_1, .int .i64 a0_2] 35 (0, 0))) ∧ Aside0 (Below w.heap.size w wc))
          case first =>
            have H := HC47.out
            clear HC47
            by_cases c48 : a0_0 = 1
            · rw [if_pos c48] at H
              have c48b0 : (a0_0 == 1) = true := beq_iff_eq.mpr c48
              have c48b1 : (a0_0 != 1) = false := bne_eq_false_iff_eq.mpr c48
              clear c48
              (first | rw [c48b0] | (simp only [i64_w, i32_w]; rw [c48b0]) | skip)
              replace H := Option.bind_eq_some_iff.mp H
              obtain ⟨t153, A490, H⟩ := H
              replace H : (cinnabarref01_Check.j4 kj1 a0_1 t153 a0_0 a0_1 a0_2) = some r := H
              have A49 := Aside0.mk A490
              clear A490
              have H' := Aside0.mk H
              clear H
              have hcz50_0 : wc.cell? ⟨gb143, 0, none⟩ = some (.int .i64 a0_0) := (blk_cell BK143.out 0).trans rfl
              have hcz50_1 : wc.cell? ⟨gb143, 1, none⟩ = some (.string a0_1) := (blk_cell BK143.out 1).trans rfl
              have hcz50_2 : wc.cell? ⟨gb143, 2, none⟩ = some (.int .i64 a0_2) := (blk_cell BK143.out 2).trans rfl
              have hfz50_0 := blk_frozen BK143.out 0
              have hfz50_1 := blk_frozen BK143.out 1
              have hfz50_2 := blk_frozen BK143.out 2
              go_wp2_with (first | (go_at_call 42; (with_reducible refine (cinnabarref01_long.calls kj1 a0_1 t153 _ A49.out).mono ?_); rintro e w51 ⟨rfl, hb⟩; have n0_ := Aside0.mk (blk_below (g := gb143) (o := .cells #[.int .i64 a0_0, .string a0_1, .int .i64 a0_2] 35 (0, 0)) (by (with_reducible repeat (first | refine blk_drewN ?_ _ | refine blk_drew ?_ | refine blk_alloc ?_ _)); exact BK143.out) hb); have n1_ := Aside0.mk (below_step (by repeat (first | (with_reducible first | exact HB.out | apply below_alloc | apply pw_below_drewN | apply below_drew1 | refine below_set ?_ GE143.out) | exact HB.out)) hb); clear BK143; clear HB; have BK143 := n0_; have HB := n1_; clear n0_ n1_; (try clear hb); (try clear hb2); (try clear hk); (try clear hi)))
              go_meet
              case rel => exact ⟨_, (t153), (by first | rfl | (simp; done) | (simp [*]; done) | (simp [show ∀ l : List UInt8, (l != []) = !l.isEmpty from fun l => by cases l <;> rfl]; done)), H', ⟨by have := HJ1.out; first | omega | exact Nat.le_refl _⟩, ⟨by (with_reducible repeat (first | refine blk_drewN ?_ _ | refine blk_drew ?_ | refine blk_alloc ?_ _)); exact BK143.out⟩, ⟨by repeat (first | (with_reducible first | exact HB.out | apply below_alloc | apply pw_below_drewN | apply below_drew1 | refine below_set ?_ GE143.out) | exact HB.out)⟩⟩
            · rw [if_neg c48] at H
              have c48b0 : (a0_0 == 1) = false := beq_eq_false_iff_ne.mpr c48
              have c48b1 : (a0_0 != 1) = true := bne_iff_ne.mpr c48
              (first | rw [c48b0] | (simp only [i64_w, i32_w]; rw [c48b0]) | skip)
              by_cases c52 : a0_0 = 2
              · rw [if_pos c52] at H
                have c52b0 : (a0_0 == 2) = true := beq_iff_eq.mpr c52
                have c52b1 : (a0_0 != 2) = false := bne_eq_false_iff_eq.mpr c52
                clear c52
                replace H := Option.bind_eq_some_iff.mp H
                obtain ⟨t154, A530, H⟩ := H
                replace H : (cinnabarref01_Check.j4 kj1 a0_1 t154 a0_0 a0_1 a0_2) = some r := H
                have A53 := Aside0.mk A530
                clear A530
                have H' := Aside0.mk H
                clear H
                have hcz54_0 : wc.cell? ⟨gb143, 0, none⟩ = some (.int .i64 a0_0) := (blk_cell BK143.out 0).trans rfl
                have hcz54_1 : wc.cell? ⟨gb143, 1, none⟩ = some (.string a0_1) := (blk_cell BK143.out 1).trans rfl
                have hcz54_2 : wc.cell? ⟨gb143, 2, none⟩ = some (.int .i64 a0_2) := (blk_cell BK143.out 2).trans rfl
                have hfz54_0 := blk_frozen BK143.out 0
                have hfz54_1 := blk_frozen BK143.out 1
                have hfz54_2 := blk_frozen BK143.out 2
                go_wp2_with (first | (go_at_call 42; (with_reducible refine (cinnabarref01_long.calls kj1 a0_1 t154 _ A53.out).mono ?_); rintro e w55 ⟨rfl, hb⟩; have n0_ := Aside0.mk (blk_below (g := gb143) (o := .cells #[.int .i64 a0_0, .string a0_1, .int .i64 a0_2] 35 (0, 0)) (by (with_reducible repeat (first | refine blk_drewN ?_ _ | refine blk_drew ?_ | refine blk_alloc ?_ _)); exact BK143.out) hb); have n1_ := Aside0.mk (below_step (by repeat (first | (with_reducible first | exact HB.out | apply below_alloc | apply pw_below_drewN | apply below_drew1 | refine below_set ?_ GE143.out) | exact HB.out)) hb); clear BK143; clear HB; have BK143 := n0_; have HB := n1_; clear n0_ n1_; (try clear hb); (try clear hb2); (try clear hk); (try clear hi)))
                go_meet
                case rel => exact ⟨_, (t154), (by first | rfl | (simp; done) | (simp [*]; done) | (simp [show ∀ l : List UInt8, (l != []) = !l.isEmpty from fun l => by cases l <;> rfl]; done)), H', ⟨by have := HJ1.out; first | omega | exact Nat.le_refl _⟩, ⟨by (with_reducible repeat (first | refine blk_drewN ?_ _ | refine blk_drew ?_ | refine blk_alloc ?_ _)); exact BK143.out⟩, ⟨by repeat (first | (with_reducible first | exact HB.out | apply below_alloc | apply pw_below_drewN | apply below_drew1 | refine below_set ?_ GE143.out) | exact HB.out)⟩⟩
              · rw [if_neg c52] at H
                have c52b0 : (a0_0 == 2) = false := beq_eq_false_iff_ne.mpr c52
                have c52b1 : (a0_0 != 2) = true := bne_iff_ne.mpr c52
                have H' := Aside0.mk H
                clear H
                have hcz56_0 : wc.cell? ⟨gb143, 0, none⟩ = some (.int .i64 a0_0) := (blk_cell BK143.out 0).trans rfl
                have hcz56_1 : wc.cell? ⟨gb143, 1, none⟩ = some (.string a0_1) := (blk_cell BK143.out 1).trans rfl
                have hcz56_2 : wc.cell? ⟨gb143, 2, none⟩ = some (.int .i64 a0_2) := (blk_cell BK143.out 2).trans rfl
                have hfz56_0 := blk_frozen BK143.out 0
                have hfz56_1 := blk_frozen BK143.out 1
                have hfz56_2 := blk_frozen BK143.out 2
                go_wp2
                go_meet
                case rel => exact ⟨_, (false), (by first | rfl | (simp; done) | (simp [*]; done) | (simp [show ∀ l : List UInt8, (l != []) = !l.isEmpty from fun l => by cases l <;> rfl]; done)), H', ⟨by have := HJ1.out; first | omega | exact Nat.le_refl _⟩, ⟨by (with_reducible repeat (first | refine blk_drewN ?_ _ | refine blk_drew ?_ | refine blk_alloc ?_ _)); exact BK143.out⟩, ⟨by repeat (first | (with_reducible first | exact HB.out | apply below_alloc | apply pw_below_drewN | apply below_drew1 | refine below_set ?_ GE143.out) | exact HB.out)⟩⟩
          case rest =>
            clear HC47
            try clear c1
            try clear c2
            try clear p2
            try clear q2
            try clear hx2
            try clear qi2
            try clear c3
            try clear p3
            try clear q3
            try clear hx3
            try clear c4
            try clear p4
            try clear q4
            try clear hx4
            try clear qi4
            try clear c5
            try clear c5b0
            try clear c5b1
            try clear c6
            try clear c6b0
            try clear c6b1
            try clear p6
            try clear c7
            try clear c7b0
            try clear c7b1
            try clear c9
            try clear c11
            try clear c13
            try clear c13b0
            try clear c13b1
            try clear c17
            try clear c17b0
            try clear c17b1
            try clear c19
            try clear c19b0
            try clear c19b1
            try clear c20
            try clear c20b0
            try clear c20b1
            try clear p21
            try clear q21
            try clear hx21
            try clear qi21
            try clear c23
            try clear c23b0
            try clear c24
            try clear c25
            try clear c25b0
            try clear p26
            try clear q26
            try clear hx26
            try clear c28
            try clear c28b0
            try clear c28b1
            try clear c29
            try clear c29b0
            try clear c30
            try clear c31
            try clear c31b0
            try clear p32
            try clear q32
            try clear hx32
            try clear c34
            try clear c34b0
            try clear c34b1
            try clear c35
            try clear c35b0
            try clear c35b1
            try clear c36
            try clear c37
            try clear c37b0
            try clear c37b1
            try clear c39
            try clear c39b0
            try clear c39b1
            try clear c40
            try clear c40b0
            try clear c40b1
            try clear c41
            try clear c41b0
            try clear c41b1
            try clear c42
            try clear c42b0
            try clear c42b1
            try clear p43
            try clear q43
            try clear hx43
            try clear qi43
            try clear c45
            try clear c45b0
            try clear c45b1
            try clear c46
            try clear c48
            try clear c48b0
            try clear c48b1
            try clear c52
            try clear c52b0
            try clear c52b1
            try clear hcz4_0
            try clear hcz4_1
            try clear hcz4_2
            try clear hcz50_0
            try clear hcz50_1
            try clear hcz50_2
            try clear hcz54_0
            try clear hcz54_1
            try clear hcz54_2
            try clear hcz56_0
            try clear hcz56_1
            try clear hcz56_2
            try clear hfz4_0
            try clear hfz4_1
            try clear hfz4_2
            try clear hfz50_0
            try clear hfz50_1
            try clear hfz50_2
            try clear hfz54_0
            try clear hfz54_1
            try clear hfz54_2
            try clear hfz56_0
            try clear hfz56_1
            try clear hfz56_2
            try clear p2
            try clear p21
            try clear p26
            try clear p3
            try clear p32
            try clear p4
            try clear p43
            try clear p6
            try clear q2
            try clear q21
            try clear q26
            try clear q3
            try clear q32
            try clear q4
            try clear q43
            obtain ⟨kq, x119_46, rfl, HA, HJ46, BK143, HB⟩ := hcut
            cases kq with
            | zero => exact absurd HA.out (by simp [cinnabarref01_Check.j4])
            | succ kj46 =>
              have H := HA.out
              clear HA
              simp only [cinnabarref01_Check.j4] at H
              by_cases c57 : x119_46 = true
              · subst c57
                have H1 : (some 6) = some r := by rw [if_pos rfl] at H; exact H
                clear H
                have H := H1
                clear H1
                obtain rfl := Option.some.inj H
                go_wp2
                go_ret
                exact ⟨by first | rfl | (simp [errW_none, errW_some] <;> rfl) | (simp [*, errW_none, errW_some] <;> rfl), by repeat (first | (with_reducible first | exact HB.out | apply below_alloc | apply pw_below_drewN | apply below_drew1 | refine below_set ?_ GE143.out) | exact HB.out)⟩
              · as_aux_lemma =>
                  replace c57 := Bool.eq_false_iff.mpr c57
                  subst c57
                  have H1 : (if a0_0 = 3 then ((cinnabarref01_great.f kj46 a0_1).bind fun t155 => (if t155 = true then (some 5) else (some 0))) else (some 0)) = some r := by rw [if_neg (show ¬ (false = true) by decide)] at H; exact H
                  clear H
                  have H := H1
                  clear H1
                  by_cases c58 : a0_0 = 3
                  · as_aux_lemma =>
                      rw [if_pos c58] at H
                      have c58b0 : (a0_0 == 3) = true := beq_iff_eq.mpr c58
                      have c58b1 : (a0_0 != 3) = false := bne_eq_false_iff_eq.mpr c58
                      clear c58
                      replace H := Option.bind_eq_some_iff.mp H
                      obtain ⟨t155, A590, H⟩ := H
                      replace H : (if t155 = true then (some 5) else (some 0)) = some r := H
                      have A59 := Aside0.mk A590
                      clear A590
                      by_cases c60 : t155 = true
                      · subst c60
                        have H1 : (some 5) = some r := by rw [if_pos rfl] at H; exact H
                        clear H
                        have H := H1
                        clear H1
                        obtain rfl := Option.some.inj H
                        have hcz61_0 : wc.cell? ⟨gb143, 0, none⟩ = some (.int .i64 a0_0) := (blk_cell BK143.out 0).trans rfl
                        have hcz61_1 : wc.cell? ⟨gb143, 1, none⟩ = some (.string a0_1) := (blk_cell BK143.out 1).trans rfl
                        have hcz61_2 : wc.cell? ⟨gb143, 2, none⟩ = some (.int .i64 a0_2) := (blk_cell BK143.out 2).trans rfl
                        have hfz61_0 := blk_frozen BK143.out 0
                        have hfz61_1 := blk_frozen BK143.out 1
                        have hfz61_2 := blk_frozen BK143.out 2
                        go_wp2_with (first | (go_at_call 43; (with_reducible refine (cinnabarref01_great.calls kj46 a0_1 true _ A59.out).mono ?_); rintro e w' ⟨rfl, ⟨nd, rfl⟩⟩))
                        go_ret
                        exact ⟨by first | rfl | (simp [errW_none, errW_some] <;> rfl) | (simp [*, errW_none, errW_some] <;> rfl), by repeat (first | (with_reducible first | exact HB.out | apply below_alloc | apply pw_below_drewN | apply below_drew1 | refine below_set ?_ GE143.out) | exact HB.out)⟩
                      · replace c60 := Bool.eq_false_iff.mpr c60
                        subst c60
                        have H1 : (some 0) = some r := by rw [if_neg (show ¬ (false = true) by decide)] at H; exact H
                        clear H
                        have H := H1
                        clear H1
                        obtain rfl := Option.some.inj H
                        have hcz62_0 : wc.cell? ⟨gb143, 0, none⟩ = some (.int .i64 a0_0) := (blk_cell BK143.out 0).trans rfl
                        have hcz62_1 : wc.cell? ⟨gb143, 1, none⟩ = some (.string a0_1) := (blk_cell BK143.out 1).trans rfl
                        have hcz62_2 : wc.cell? ⟨gb143, 2, none⟩ = some (.int .i64 a0_2) := (blk_cell BK143.out 2).trans rfl
                        have hfz62_0 := blk_frozen BK143.out 0
                        have hfz62_1 := blk_frozen BK143.out 1
                        have hfz62_2 := blk_frozen BK143.out 2
                        go_wp2_with (first | (go_at_call 43; (with_reducible refine (cinnabarref01_great.calls kj46 a0_1 false _ A59.out).mono ?_); rintro e w' ⟨rfl, ⟨nd, rfl⟩⟩))
                        go_ret
                        exact ⟨by first | rfl | (simp [errW_none, errW_some] <;> rfl) | (simp [*, errW_none, errW_some] <;> rfl), by repeat (first | (with_reducible first | exact HB.out | apply below_alloc | apply pw_below_drewN | apply below_drew1 | refine below_set ?_ GE143.out) | exact HB.out)⟩
                  · rw [if_neg c58] at H
                    have c58b0 : (a0_0 == 3) = false := beq_eq_false_iff_ne.mpr c58
                    have c58b1 : (a0_0 != 3) = true := bne_iff_ne.mpr c58
                    obtain rfl := Option.some.inj H
                    have hcz63_0 : wc.cell? ⟨gb143, 0, none⟩ = some (.int .i64 a0_0) := (blk_cell BK143.out 0).trans rfl
                    have hcz63_1 : wc.cell? ⟨gb143, 1, none⟩ = some (.string a0_1) := (blk_cell BK143.out 1).trans rfl
                    have hcz63_2 : wc.cell? ⟨gb143, 2, none⟩ = some (.int .i64 a0_2) := (blk_cell BK143.out 2).trans rfl
                    have hfz63_0 := blk_frozen BK143.out 0
                    have hfz63_1 := blk_frozen BK143.out 1
                    have hfz63_2 := blk_frozen BK143.out 2
                    go_wp2
                    go_ret
                    exact ⟨by first | rfl | (simp [errW_none, errW_some] <;> rfl) | (simp [*, errW_none, errW_some] <;> rfl), by repeat (first | (with_reducible first | exact HB.out | apply below_alloc | apply pw_below_drewN | apply below_drew1 | refine below_set ?_ GE143.out) | exact HB.out)⟩
      · replace c46 := Bool.eq_false_iff.mpr c46
        subst c46
        have H1 : (some 2) = some r := by rw [if_neg (show ¬ (false = true) by decide)] at H; exact H
        clear H
        have H := H1
        clear H1
        obtain rfl := Option.some.inj H
        go_wp2
        go_ret
        exact ⟨by first | rfl | (simp [errW_none, errW_some] <;> rfl) | (simp [*, errW_none, errW_some] <;> rfl), by repeat (first | (with_reducible first | exact HB.out | apply below_alloc | apply pw_below_drewN | apply below_drew1 | refine below_set ?_ GE143.out) | exact HB.out)⟩
end Go.Proofs.YtgeonilideojnaaGreatDoor.Pr
end
