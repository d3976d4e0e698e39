/- A part of a proof over the package's statements: contracts of functions and plain facts, merged by a program of this session's. -/
import Derived.Deep.AppendLies
import Derived.Deep.RegionLaw
import Derived.Test.YtgeonilideojnaaGreatDoorRG1x1
import Derived.Test.YtgeonilideojnaaGreatDoorRG1x2
import Derived.Test.YtgeonilideojnaaGreatDoorRG1x3
import Derived.Test.YtgeonilideojnaaGreatDoorRG1x4
import Derived.Test.YtgeonilideojnaaGreatDoorRG1x5
import Derived.Test.YtgeonilideojnaaGreatDoorRG1x6
import Derived.Test.YtgeonilideojnaaGreatDoorRG2x1
import Derived.Test.YtgeonilideojnaaGreatDoorRG2x2
import Derived.Test.YtgeonilideojnaaGreatDoorRG2x3
import Derived.Test.YtgeonilideojnaaGreatDoorRG2x4
section
namespace Go.Proofs.YtgeonilideojnaaGreatDoor.Pr
open Go.RowKit Go.Proofs.YtgeonilideojnaaGreatDoorW.PrintWords Go.Proofs.YtgeonilideojnaaGreatDoorW.PrintLast Go.Proofs.YtgeonilideojnaaGreatDoorW.PrintMore
attribute [local go_sem] max2_int min2_int max_two min_two max_three min_three max_four min_four
set_option linter.unusedVariables false
set_option linter.unusedSimpArgs false
def cinnabarref01_Name.l0 : Nat → ByteArray → ByteArray → Int → Option (ByteArray)
  | 0, _, _, _ => none
  | k + 1, x0, x3, x4 => if x4 < (x0.size : Int) then (if 0 ≤ x4 then (if (bt x0 x4) = 39 then (if x3.size + 1 ≤ 9223372036854775807 then (if x4 ≤ (wrap64 (x4 + 1)) then (if (wrap64 (x4 + 1)) ≤ (x0.size : Int) then (if (x3 ++ (⟨#[92]⟩ : ByteArray)).size + (x0.extract (x4 : Int).toNat ((wrap64 (x4 + 1)) : Int).toNat).size ≤ 9223372036854775807 then (cinnabarref01_Name.l0 k x0 ((x3 ++ (⟨#[92]⟩ : ByteArray)) ++ (x0.extract (x4 : Int).toNat ((wrap64 (x4 + 1)) : Int).toNat)) (wrap64 (x4 + 1))) else (none)) else (none)) else (none)) else (none)) else (if (bt x0 x4) = 92 then (if x3.size + 1 ≤ 9223372036854775807 then (if x4 ≤ (wrap64 (x4 + 1)) then (if (wrap64 (x4 + 1)) ≤ (x0.size : Int) then (if (x3 ++ (⟨#[92]⟩ : ByteArray)).size + (x0.extract (x4 : Int).toNat ((wrap64 (x4 + 1)) : Int).toNat).size ≤ 9223372036854775807 then (cinnabarref01_Name.l0 k x0 ((x3 ++ (⟨#[92]⟩ : ByteArray)) ++ (x0.extract (x4 : Int).toNat ((wrap64 (x4 + 1)) : Int).toNat)) (wrap64 (x4 + 1))) else (none)) else (none)) else (none)) else (none)) else (if x4 ≤ (wrap64 (x4 + 1)) then (if (wrap64 (x4 + 1)) ≤ (x0.size : Int) then (if x3.size + (x0.extract (x4 : Int).toNat ((wrap64 (x4 + 1)) : Int).toNat).size ≤ 9223372036854775807 then (cinnabarref01_Name.l0 k x0 (x3 ++ (x0.extract (x4 : Int).toNat ((wrap64 (x4 + 1)) : Int).toNat)) (wrap64 (x4 + 1))) else (none)) else (none)) else (none)))) else (none)) else (if x3.size + 1 ≤ 9223372036854775807 then (some (x3 ++ (⟨#[39]⟩ : ByteArray))) else (none))
def cinnabarref01_Name.f (k : Nat) (a0 : ByteArray) : Option (ByteArray) := (TkRef.plain.f a0).bind fun t157 => (if t157 = true then (some a0) else (cinnabarref01_Name.l0 k a0 (⟨#[39]⟩ : ByteArray) 0))
theorem cinnabarref01_Name.mono_l : ∀ k, (∀ y0 y1 y2, LeO (cinnabarref01_Name.l0 k y0 y1 y2) (cinnabarref01_Name.l0 (k + 1) y0 y1 y2))
  | 0 => fun _ _ _ r h => by simp [cinnabarref01_Name.l0] at h
  | k + 1 => by
    have ih0 := cinnabarref01_Name.mono_l k
    · intro y0 y1 y2
      unfold cinnabarref01_Name.l0
      repeat' first
      | (with_reducible exact ih0 _ _ _)
      | (with_reducible exact LeO.refl _)
      | (with_reducible exact LeO.none _)
      | (with_reducible refine LeO.ite ?_ ?_)
      | (with_reducible refine LeO.bind ?_ (fun _ => ?_))
      | exact ih0 _ _ _
      | exact LeO.none _
      | refine LeO.ite ?_ ?_
      | refine LeO.bind ?_ (fun _ => ?_)
theorem cinnabarref01_Name.mono : ∀ a0 k, LeO (cinnabarref01_Name.f k a0) (cinnabarref01_Name.f (k + 1) a0) := by
  intro a0 k
  have ih0 := cinnabarref01_Name.mono_l k
  unfold cinnabarref01_Name.f
  repeat' first
      | (with_reducible exact ih0 _ _ _)
      | (with_reducible exact LeO.refl _)
      | (with_reducible exact LeO.none _)
      | (with_reducible refine LeO.ite ?_ ?_)
      | (with_reducible refine LeO.bind ?_ (fun _ => ?_))
      | exact ih0 _ _ _
      | exact LeO.none _
      | refine LeO.ite ?_ ?_
      | refine LeO.bind ?_ (fun _ => ?_)
set_option maxHeartbeats 8000000 in
set_option maxRecDepth 100000 in
theorem cinnabarref01_Name.calls (k : Nat) (a0 : ByteArray) (r : ByteArray) (w : World) (h : cinnabarref01_Name.f k a0 = some r) :
    Calls Tryz.prog 19 #[.string a0] w fun e w' => e = .returned (.string r) ∧ Below w.heap.size w w' := by
  have HB := Aside0.mk (Below.refl w.heap.size w)
  have H : ((TkRef.plain.f a0).bind fun t157 => (if t157 = true then (some a0) else (cinnabarref01_Name.l0 k a0 (⟨#[39]⟩ : ByteArray) 0))) = some r := h
  clear h
  replace H := Option.bind_eq_some_iff.mp H
  obtain ⟨t157, A20, H⟩ := H
  replace H : (if t157 = true then (some a0) else (cinnabarref01_Name.l0 k a0 (⟨#[39]⟩ : ByteArray) 0)) = some r := H
  have A2 := Aside0.mk A20
  clear A20
  by_cases c3 : t157 = true
  · subst c3
    have H1 : (some a0) = some r := by rw [if_pos rfl] at H; exact H
    clear H
    have H := H1
    clear H1
    obtain rfl := Option.some.inj H
    go_enter Tryz.func19, Tryz.ntmps19
    go_wp2_with (first | ((with_reducible refine gate_callee (f := 37) rfl ?_); refine goesL_ (some 6) rfl rfl Tryz.func37 (by kernel_rfl) rfl #[.string a0] rfl (by (try simp only [List.map_toArray, List.map_cons, List.map_nil]); first | done | rfl | (simp only [List.length_drop, List.length_take]; rfl)) ?_; (with_reducible refine (TkRef.plain.calls a0 true _ A2.out).mono ?_); rintro e w4 ⟨rfl, hb⟩; refine ⟨_, rfl, ?_⟩; have n0_ := Aside0.mk (below_step (by repeat (first | (with_reducible first | exact HB.out | apply below_alloc | apply pw_below_drewN | apply below_drew1) | exact HB.out)) hb); clear HB; have HB := n0_; clear n0_; (try clear hb); (try clear hb2); (try clear hk); (try clear hi)))
    go_ret
    exact ⟨by first | rfl | (simp [errW_none, errW_some] <;> rfl) | (simp [*, errW_none, errW_some] <;> rfl), by repeat (first | (with_reducible first | exact HB.out | apply below_alloc | apply pw_below_drewN | apply below_drew1) | exact HB.out)⟩
  · replace c3 := Bool.eq_false_iff.mpr c3
    subst c3
    have H1 : (cinnabarref01_Name.l0 k a0 (⟨#[39]⟩ : ByteArray) 0) = some r := by rw [if_neg (show ¬ (false = true) by decide)] at H; exact H
    clear H
    have H := H1
    clear H1
    have H' := Aside0.mk H
    clear H
    go_enter Tryz.func19, Tryz.ntmps19
    go_wp2_with (first | ((with_reducible refine gate_callee (f := 37) rfl ?_); refine goesL_ (some 6) rfl rfl Tryz.func37 (by kernel_rfl) rfl #[.string a0] rfl (by (try simp only [List.map_toArray, List.map_cons, List.map_nil]); first | done | rfl | (simp only [List.length_drop, List.length_take]; rfl)) ?_; (with_reducible refine (TkRef.plain.calls a0 false _ A2.out).mono ?_); rintro e w5 ⟨rfl, hb⟩; refine ⟨_, rfl, ?_⟩; have n0_ := Aside0.mk (below_step (by repeat (first | (with_reducible first | exact HB.out | apply below_alloc | apply pw_below_drewN | apply below_drew1) | exact HB.out)) hb); clear HB; have HB := n0_; clear n0_; (try clear hb); (try clear hb2); (try clear hk); (try clear hi)))
    (try simp only [Go.Act.put, List.setIfInBounds_toArray, List.set_cons_succ, List.set_cons_zero])
    go_loopg [3, 4] k (fun kq v3 v4 w' => ∃ (x3_1 : ByteArray) (x4_1 : Int), v3 = .string x3_1 ∧ v4 = .int .i64 x4_1 ∧ Aside0 (cinnabarref01_Name.l0 kq a0 x3_1 x4_1 = some r) ∧ Aside0 (kq ≤ k) ∧ Aside0 (Below w.heap.size w w'))
    case atStart => exact ⟨((⟨#[39]⟩ : ByteArray)), (0), (by first | rfl | (simp; done) | (simp [*]; done) | (simp [show ∀ l : List UInt8, (l != []) = !l.isEmpty from fun l => by cases l <;> rfl]; done)), (by first | rfl | (simp; done) | (simp [*]; done) | (simp [show ∀ l : List UInt8, (l != []) = !l.isEmpty from fun l => by cases l <;> rfl]; done)), H', ⟨Nat.le_refl _⟩, ⟨by repeat (first | (with_reducible first | exact HB.out | apply below_alloc | apply pw_below_drewN | apply below_drew1) | exact HB.out)⟩⟩
    case round =>
      clear H'
      try clear c1
      try clear p2
      try clear c3
      obtain ⟨x3_1, x4_1, rfl, rfl, HA, HK1, HB⟩ := hrel
      cases gk with
      | zero => exact absurd HA.out (by simp [cinnabarref01_Name.l0])
      | succ k1 =>
        have H := HA.out
        clear HA
        simp only [cinnabarref01_Name.l0] at H
        by_cases c6 : x4_1 < (a0.size : Int)
        · rw [if_pos c6] at H
          have c6b0 : decide (x4_1 < (a0.size : Int)) = true := decide_eq_true c6
          clear c6
          by_cases c7 : 0 ≤ x4_1
          · rw [if_pos c7] at H
            have c7b0 : decide (0 ≤ x4_1) = true := decide_eq_true c7
            clear c7
            by_cases c9 : (bt a0 x4_1) = 39
            · rw [if_pos c9] at H
              have c9b0 : ((bt a0 x4_1) == 39) = true := beq_iff_eq.mpr c9
              have c9b1 : ((bt a0 x4_1) != 39) = false := bne_eq_false_iff_eq.mpr c9
              clear c9
              by_cases c10 : x3_1.size + 1 ≤ 9223372036854775807
              · rw [if_pos c10] at H
                have c10b0 := eq_true c10
                have c10b1 : decide (x3_1.size + 1 ≤ 9223372036854775807) = true := decide_eq_true c10
                try have c10b2 : (9223372036854775807 < x3_1.size + 1) = False := eq_false (Nat.not_lt.2 c10)
                have c11b0 := eq_true (of_decide_eq_true (by first | (with_reducible assumption) | assumption) : 0 ≤ x4_1)
                by_cases c12 : x4_1 ≤ (wrap64 (x4_1 + 1))
                · rw [if_pos c12] at H
                  have c12b0 := eq_true c12
                  have c12b1 : decide (x4_1 ≤ (wrap64 (x4_1 + 1))) = true := decide_eq_true c12
                  by_cases c13 : (wrap64 (x4_1 + 1)) ≤ (a0.size : Int)
                  · rw [if_pos c13] at H
                    have c13b0 := eq_true c13
                    have c13b1 : decide ((wrap64 (x4_1 + 1)) ≤ (a0.size : Int)) = true := decide_eq_true c13
                    by_cases c14 : (x3_1 ++ (⟨#[92]⟩ : ByteArray)).size + (a0.extract (x4_1 : Int).toNat ((wrap64 (x4_1 + 1)) : Int).toNat).size ≤ 9223372036854775807
                    · rw [if_pos c14] at H
                      have c14b0 := eq_true c14
                      have c14b1 : decide ((x3_1 ++ (⟨#[92]⟩ : ByteArray)).size + (a0.extract (x4_1 : Int).toNat ((wrap64 (x4_1 + 1)) : Int).toNat).size ≤ 9223372036854775807) = true := decide_eq_true c14
                      (try (have c14n := c14; simp only [ByteArray.size_append, show (⟨#[92]⟩ : ByteArray).size = 1 from rfl] at c14n; have c14n0 := eq_true c14n; have c14n1 := eq_false (Nat.not_lt.2 c14n)))
                      try have c14b2 : (9223372036854775807 < (x3_1 ++ (⟨#[92]⟩ : ByteArray)).size + (a0.extract (x4_1 : Int).toNat ((wrap64 (x4_1 + 1)) : Int).toNat).size) = False := eq_false (Nat.not_lt.2 c14)
                      have H' := Aside0.mk H
                      clear H
                      have p8 : 0 ≤ (x4_1 : Int) := of_decide_eq_true (by first | (with_reducible assumption) | assumption)
                      have q8 : x4_1 < (a0.size : Int) := of_decide_eq_true (by first | (with_reducible assumption) | assumption)
                      have hx8 := bt_at a0 x4_1
                      replace p8 := eq_true p8
                      replace q8 := eq_true q8
                      go_wp2
                      go_roundg k1
                      case measure => have := HK1.out; omega
                      case rel => exact ⟨((x3_1 ++ (⟨#[92]⟩ : ByteArray)) ++ (a0.extract (x4_1 : Int).toNat ((wrap64 (x4_1 + 1)) : Int).toNat)), (wrap64 (x4_1 + 1)), (by first | rfl | (simp; done) | (simp [*]; done) | (simp [show ∀ l : List UInt8, (l != []) = !l.isEmpty from fun l => by cases l <;> rfl]; done)), (by first | rfl | (simp; done) | (simp [*]; done) | (simp [show ∀ l : List UInt8, (l != []) = !l.isEmpty from fun l => by cases l <;> rfl]; done)), H', ⟨by have := HK1.out; omega⟩, ⟨by repeat (first | (with_reducible first | exact HB.out | apply below_alloc | apply pw_below_drewN | apply below_drew1) | exact HB.out)⟩⟩
                    · rw [if_neg c14] at H
                      exact absurd H (by simp)
                  · rw [if_neg c13] at H
                    exact absurd H (by simp)
                · rw [if_neg c12] at H
                  exact absurd H (by simp)
              · rw [if_neg c10] at H
                exact absurd H (by simp)
            · rw [if_neg c9] at H
              have c9b0 : ((bt a0 x4_1) == 39) = false := beq_eq_false_iff_ne.mpr c9
              have c9b1 : ((bt a0 x4_1) != 39) = true := bne_iff_ne.mpr c9
              by_cases c16 : (bt a0 x4_1) = 92
              · rw [if_pos c16] at H
                have c16b0 : ((bt a0 x4_1) == 92) = true := beq_iff_eq.mpr c16
                have c16b1 : ((bt a0 x4_1) != 92) = false := bne_eq_false_iff_eq.mpr c16
                clear c16
                by_cases c17 : x3_1.size + 1 ≤ 9223372036854775807
                · rw [if_pos c17] at H
                  have c17b0 := eq_true c17
                  have c17b1 : decide (x3_1.size + 1 ≤ 9223372036854775807) = true := decide_eq_true c17
                  try have c17b2 : (9223372036854775807 < x3_1.size + 1) = False := eq_false (Nat.not_lt.2 c17)
                  have c18b0 := eq_true (of_decide_eq_true (by first | (with_reducible assumption) | assumption) : 0 ≤ x4_1)
                  by_cases c19 : x4_1 ≤ (wrap64 (x4_1 + 1))
                  · rw [if_pos c19] at H
                    have c19b0 := eq_true c19
                    have c19b1 : decide (x4_1 ≤ (wrap64 (x4_1 + 1))) = true := decide_eq_true c19
                    by_cases c20 : (wrap64 (x4_1 + 1)) ≤ (a0.size : Int)
                    · rw [if_pos c20] at H
                      have c20b0 := eq_true c20
                      have c20b1 : decide ((wrap64 (x4_1 + 1)) ≤ (a0.size : Int)) = true := decide_eq_true c20
                      by_cases c21 : (x3_1 ++ (⟨#[92]⟩ : ByteArray)).size + (a0.extract (x4_1 : Int).toNat ((wrap64 (x4_1 + 1)) : Int).toNat).size ≤ 9223372036854775807
                      · rw [if_pos c21] at H
                        have c21b0 := eq_true c21
                        have c21b1 : decide ((x3_1 ++ (⟨#[92]⟩ : ByteArray)).size + (a0.extract (x4_1 : Int).toNat ((wrap64 (x4_1 + 1)) : Int).toNat).size ≤ 9223372036854775807) = true := decide_eq_true c21
                        (try (have c21n := c21; simp only [ByteArray.size_append, show (⟨#[92]⟩ : ByteArray).size = 1 from rfl] at c21n; have c21n0 := eq_true c21n; have c21n1 := eq_false (Nat.not_lt.2 c21n)))
                        try have c21b2 : (9223372036854775807 < (x3_1 ++ (⟨#[92]⟩ : ByteArray)).size + (a0.extract (x4_1 : Int).toNat ((wrap64 (x4_1 + 1)) : Int).toNat).size) = False := eq_false (Nat.not_lt.2 c21)
                        have H' := Aside0.mk H
                        clear H
                        have p8 : 0 ≤ (x4_1 : Int) := of_decide_eq_true (by first | (with_reducible assumption) | assumption)
                        have q8 : x4_1 < (a0.size : Int) := of_decide_eq_true (by first | (with_reducible assumption) | assumption)
                        have hx8 := bt_at a0 x4_1
                        replace p8 := eq_true p8
                        replace q8 := eq_true q8
                        have p15 : 0 ≤ (x4_1 : Int) := of_decide_eq_true (by first | (with_reducible assumption) | assumption)
                        have q15 : x4_1 < (a0.size : Int) := of_decide_eq_true (by first | (with_reducible assumption) | assumption)
                        have hx15 := bt_at a0 x4_1
                        replace p15 := eq_true p15
                        replace q15 := eq_true q15
                        go_wp2
                        go_roundg k1
                        case measure => have := HK1.out; omega
                        case rel => exact ⟨((x3_1 ++ (⟨#[92]⟩ : ByteArray)) ++ (a0.extract (x4_1 : Int).toNat ((wrap64 (x4_1 + 1)) : Int).toNat)), (wrap64 (x4_1 + 1)), (by first | rfl | (simp; done) | (simp [*]; done) | (simp [show ∀ l : List UInt8, (l != []) = !l.isEmpty from fun l => by cases l <;> rfl]; done)), (by first | rfl | (simp; done) | (simp [*]; done) | (simp [show ∀ l : List UInt8, (l != []) = !l.isEmpty from fun l => by cases l <;> rfl]; done)), H', ⟨by have := HK1.out; omega⟩, ⟨by repeat (first | (with_reducible first | exact HB.out | apply below_alloc | apply pw_below_drewN | apply below_drew1) | exact HB.out)⟩⟩
                      · rw [if_neg c21] at H
                        exact absurd H (by simp)
                    · rw [if_neg c20] at H
                      exact absurd H (by simp)
                  · rw [if_neg c19] at H
                    exact absurd H (by simp)
                · rw [if_neg c17] at H
                  exact absurd H (by simp)
              · rw [if_neg c16] at H
                have c16b0 : ((bt a0 x4_1) == 92) = false := beq_eq_false_iff_ne.mpr c16
                have c16b1 : ((bt a0 x4_1) != 92) = true := bne_iff_ne.mpr c16
                have c22b0 := eq_true (of_decide_eq_true (by first | (with_reducible assumption) | assumption) : 0 ≤ x4_1)
                by_cases c23 : x4_1 ≤ (wrap64 (x4_1 + 1))
                · rw [if_pos c23] at H
                  have c23b0 := eq_true c23
                  have c23b1 : decide (x4_1 ≤ (wrap64 (x4_1 + 1))) = true := decide_eq_true c23
                  by_cases c24 : (wrap64 (x4_1 + 1)) ≤ (a0.size : Int)
                  · rw [if_pos c24] at H
                    have c24b0 := eq_true c24
                    have c24b1 : decide ((wrap64 (x4_1 + 1)) ≤ (a0.size : Int)) = true := decide_eq_true c24
                    by_cases c25 : x3_1.size + (a0.extract (x4_1 : Int).toNat ((wrap64 (x4_1 + 1)) : Int).toNat).size ≤ 9223372036854775807
                    · rw [if_pos c25] at H
                      have c25b0 := eq_true c25
                      have c25b1 : decide (x3_1.size + (a0.extract (x4_1 : Int).toNat ((wrap64 (x4_1 + 1)) : Int).toNat).size ≤ 9223372036854775807) = true := decide_eq_true c25
                      try have c25b2 : (9223372036854775807 < x3_1.size + (a0.extract (x4_1 : Int).toNat ((wrap64 (x4_1 + 1)) : Int).toNat).size) = False := eq_false (Nat.not_lt.2 c25)
                      have H' := Aside0.mk H
                      clear H
                      have p8 : 0 ≤ (x4_1 : Int) := of_decide_eq_true (by first | (with_reducible assumption) | assumption)
                      have q8 : x4_1 < (a0.size : Int) := of_decide_eq_true (by first | (with_reducible assumption) | assumption)
                      have hx8 := bt_at a0 x4_1
                      replace p8 := eq_true p8
                      replace q8 := eq_true q8
                      have p15 : 0 ≤ (x4_1 : Int) := of_decide_eq_true (by first | (with_reducible assumption) | assumption)
                      have q15 : x4_1 < (a0.size : Int) := of_decide_eq_true (by first | (with_reducible assumption) | assumption)
                      have hx15 := bt_at a0 x4_1
                      replace p15 := eq_true p15
                      replace q15 := eq_true q15
                      go_wp2
                      go_roundg k1
                      case measure => have := HK1.out; omega
                      case rel => exact ⟨(x3_1 ++ (a0.extract (x4_1 : Int).toNat ((wrap64 (x4_1 + 1)) : Int).toNat)), (wrap64 (x4_1 + 1)), (by first | rfl | (simp; done) | (simp [*]; done) | (simp [show ∀ l : List UInt8, (l != []) = !l.isEmpty from fun l => by cases l <;> rfl]; done)), (by first | rfl | (simp; done) | (simp [*]; done) | (simp [show ∀ l : List UInt8, (l != []) = !l.isEmpty from fun l => by cases l <;> rfl]; done)), H', ⟨by have := HK1.out; omega⟩, ⟨by repeat (first | (with_reducible first | exact HB.out | apply below_alloc | apply pw_below_drewN | apply below_drew1) | exact HB.out)⟩⟩
                    · rw [if_neg c25] at H
                      exact absurd H (by simp)
                  · rw [if_neg c24] at H
                    exact absurd H (by simp)
                · rw [if_neg c23] at H
                  exact absurd H (by simp)
          · rw [if_neg c7] at H
            exact absurd H (by simp)
        · rw [if_neg c6] at H
          have c6b0 : decide (x4_1 < (a0.size : Int)) = false := decide_eq_false c6
          clear c6
          by_cases c26 : x3_1.size + 1 ≤ 9223372036854775807
          · rw [if_pos c26] at H
            have c26b0 := eq_true c26
            have c26b1 : decide (x3_1.size + 1 ≤ 9223372036854775807) = true := decide_eq_true c26
            try have c26b2 : (9223372036854775807 < x3_1.size + 1) = False := eq_false (Nat.not_lt.2 c26)
            obtain rfl := Option.some.inj H
            go_wp2
            go_ret
            exact ⟨by first | rfl | (simp [errW_none, errW_some] <;> rfl) | (simp [*, errW_none, errW_some] <;> rfl), by repeat (first | (with_reducible first | exact HB.out | apply below_alloc | apply pw_below_drewN | apply below_drew1) | exact HB.out)⟩
          · rw [if_neg c26] at H
            exact absurd H (by simp)
end Go.Proofs.YtgeonilideojnaaGreatDoor.Pr
end
section
namespace Go.Proofs.YtgeonilideojnaaGreatDoor.Rf
open Go Go.RowKit Tk Go.Proofs.YtgeonilideojnaaGreatDoor.Pr Go.Proofs.YtgeonilideojnaaGreatDoorW.PrintWords
set_option linter.unusedVariables false
set_option linter.unusedSimpArgs false
theorem extract_one {l : Bs} {i : Nat} {c : UInt8} {t : Bs} (h : l.drop i = c :: t) : (B l).extract (i : Int).toNat ((i + 1 : Nat) : Int).toNat = B [c] := by
  simp only [Int.toNat_natCast]
  rw [extract_B]
  unfold cut
  rw [h]
  simp
theorem B_app (a b : Bs) : B a ++ B b = B (a ++ b) := by
  apply ByteArray.ext
  rw [ByteArray.data_append]
  simp [B]
theorem eqN (c d : UInt8) (n : Int) (h : (d.toNat : Int) = n) : ((c.toNat : Int) = n) ↔ c = d := by
  rw [← h]
  exact cast_eq
theorem plain_f (l : Bs) (h : l.length ≤ 65536) : TkRef.plain.f (B l) = some (Tk.plain l) := by
  unfold TkRef.plain.f
  rw [if_pos (by rw [size_B]; exact h)]
  simp [B]
theorem esc39 (c : UInt8) : esc1 [92, 39] c = if c = 39 ∨ c = 92 then [92, c] else [c] := by
  have := u8_all (fun c => decide (esc1 [92, 39] c = if c = 39 ∨ c = 92 then [92, c] else [c])) (by decide +kernel) c
  simpa using this
theorem name_l0 (l : Bs) (hl : l.length ≤ 65536) : ∀ (t : Bs) (i : Nat) (out : Bs), l.drop i = t → out.length + 2 * t.length ≤ 1000000 →
    Ev (fun k => cinnabarref01_Name.l0 k (B l) (B out) (i : Int)) (B (out ++ escapedS [92, 39] t ++ [39]))
  | [], i, out, h, ho => by
    refine Ev.step (f := fun _ => some (B (out ++ [39]))) (fun k => ?_) (by simpa [escapedS] using Ev.now _)
    simp only [cinnabarref01_Name.l0]
    rw [if_neg (nlt_nil h), if_pos (by rw [size_B]; omega), show (⟨#[39]⟩ : ByteArray) = B [39] from rfl, B_app]
  | c :: t, i, out, h, ho => by
    obtain ⟨hi, _, h2⟩ := drop_at h
    have hw := wrap_succ i (by omega)
    have hx := extract_one h
    simp only [List.length_cons] at ho
    have ih := name_l0 l hl t (i + 1) (out ++ esc1 [92, 39] c) h2 (by
      have := esc1_len [92, 39] c
      rw [List.length_append]
      omega)
    rw [escapedS_cons, ← List.append_assoc out]
    refine Ev.step (f := fun k => cinnabarref01_Name.l0 k (B l) (B (out ++ esc1 [92, 39] c)) ((i + 1 : Nat) : Int)) (fun k => ?_) ih
    simp only [cinnabarref01_Name.l0]
    rw [if_pos (lt_cons h), if_pos (nn i), bt_cons h]
    simp only [hw, eqN c 39 39 rfl, eqN c 92 92 rfl, hx, show (⟨#[92]⟩ : ByteArray) = B [92] from rfl, B_app, size_B]
    have h1 : (i : Int) ≤ ((i + 1 : Nat) : Int) := by omega
    have h3 : ((i + 1 : Nat) : Int) ≤ (l.length : Int) := by omega
    rw [esc39]
    by_cases e1 : c = 39
    · simp only [e1, true_or, if_true, List.length_append, List.length_cons, List.length_nil]
      rw [if_pos (by omega), if_pos h1, if_pos h3, if_pos (by omega), List.append_assoc]
      rfl
    · by_cases e2 : c = 92
      · simp only [e2, if_true, List.length_append, List.length_cons, List.length_nil, or_true]
        rw [if_neg (by decide), if_pos (by omega), if_pos h1, if_pos h3, if_pos (by omega), List.append_assoc]
        rfl
      · simp only [e1, e2, if_false, or_self, List.length_append, List.length_cons, List.length_nil]
        rw [if_pos h1, if_pos h3, if_pos (by omega)]
theorem Name_f (l : Bs) (hl : l.length ≤ 65536) : Ev (fun k => cinnabarref01_Name.f k (B l)) (B (nameS l)) := by
  have hn := name_l0 l hl l 0 [39] rfl (by simp; omega)
  refine Ev.congr (f := fun k => if Tk.plain l = true then some (B l) else cinnabarref01_Name.l0 k (B l) (B [39]) 0) (fun k => ?_) ?_
  · unfold cinnabarref01_Name.f
    rw [plain_f l hl]
    rfl
  · unfold nameS
    cases Tk.plain l with
    | true => exact Ev.now _
    | false => simpa using hn
def longRun : Nat → Bs → Bool
  | _, [] => false
  | n, c :: t => if c = 46 then longRun 0 t else decide (40 < n + 1) || longRun (n + 1) t
theorem long_l0 (l : Bs) (hl : l.length ≤ 65536) : ∀ (t : Bs) (i n : Nat), l.drop i = t → n ≤ 40 → Ev (fun k => cinnabarref01_long.l0 k (B l) (n : Int) (i : Int)) (longRun n t)
  | [], i, n, h, hn => Ev.step (f := fun _ => some false) (fun k => by simp only [cinnabarref01_long.l0]; rw [if_neg (nlt_nil h)]) (Ev.now _)
  | c :: t, i, n, h, hn => by
    obtain ⟨hi, _, h2⟩ := drop_at h
    have hw := wrap_succ i (by omega)
    have hwn := wrap_succ n (by omega)
    by_cases e : c = 46
    · have e2 : longRun n (c :: t) = longRun 0 t := by simp [longRun, e]
      rw [e2]
      refine Ev.step (f := fun k => cinnabarref01_long.l0 k (B l) ((0 : Nat) : Int) ((i + 1 : Nat) : Int)) (fun k => ?_) (long_l0 l hl t (i + 1) 0 h2 (by omega))
      simp only [cinnabarref01_long.l0]
      rw [if_pos (lt_cons h), if_pos (nn i), bt_cons h, if_pos ((eqN c 46 46 rfl).2 e), if_neg (by decide), hw]
      rfl
    · by_cases hn2 : 40 < n + 1
      · have e2 : longRun n (c :: t) = true := by simp [longRun, e, hn2]
        rw [e2]
        refine Ev.step (f := fun k => some true) (fun k => ?_) (Ev.now _)
        simp only [cinnabarref01_long.l0]
        rw [if_pos (lt_cons h), if_pos (nn i), bt_cons h, if_neg (fun x => e ((eqN c 46 46 rfl).1 x)), hwn, if_pos (by omega)]
      · have e2 : longRun n (c :: t) = longRun (n + 1) t := by simp [longRun, e, hn2]
        rw [e2]
        refine Ev.step (f := fun k => cinnabarref01_long.l0 k (B l) ((n + 1 : Nat) : Int) ((i + 1 : Nat) : Int)) (fun k => ?_) (long_l0 l hl t (i + 1) (n + 1) h2 (by omega))
        simp only [cinnabarref01_long.l0]
        rw [if_pos (lt_cons h), if_pos (nn i), bt_cons h, if_neg (fun x => e ((eqN c 46 46 rfl).1 x)), hwn, if_neg (by omega), hw]
def longR (l : Bs) : Bool := if Tk.plain l && small (l.headD 0) then longRun 0 l else decide (40 < l.length)
theorem plain_ne {l : Bs} (h : Tk.plain l = true) : l ≠ [] := by
  rintro rfl
  revert h
  decide
theorem long_f (l : Bs) (hl : l.length ≤ 65536) : Ev (fun k => cinnabarref01_long.f k (B l)) (longR l) := by
  have h0 := long_l0 l hl l 0 0 rfl (by omega)
  have hj : ∀ b : Bool, Ev (fun k => cinnabarref01_long.j0 k (B l) b) (if b = true then decide (40 < l.length) else longRun 0 l) := by
    intro b
    refine Ev.step (f := fun k => if b = true then some (decide (((B l).size : Int) > 40)) else cinnabarref01_long.l0 k (B l) 0 0) (fun k => ?_) ?_
    · simp only [cinnabarref01_long.j0]
    · cases b with
      | true =>
        simp only [if_true]
        have : decide (((B l).size : Int) > 40) = decide (40 < l.length) := by
          rw [size_B, Bool.eq_iff_iff]; simp; omega
        rw [this]
        exact Ev.now _
      | false => simpa using h0
  unfold longR
  cases hp : Tk.plain l with
  | false =>
    refine Ev.congr (f := fun k => cinnabarref01_long.j0 k (B l) true) (fun k => ?_) (by simpa using hj true)
    unfold cinnabarref01_long.f
    rw [plain_f l hl, hp]
    rfl
  | true =>
    cases l with
    | nil => exact absurd rfl (plain_ne hp)
    | cons c t =>
      have hb : bt (B (c :: t)) 0 = (c.toNat : Int) := bt_cons (l := c :: t) (i := 0) rfl
      have hq : (0 : Int) < ((B (c :: t)).size : Int) := lt_cons (l := c :: t) (i := 0) rfl
      refine Ev.congr (f := fun k => cinnabarref01_long.j0 k (B (c :: t)) (!small c)) (fun k => ?_) ?_
      · unfold cinnabarref01_long.f
        rw [plain_f _ hl, hp]
        simp only [Option.bind_some, if_true]
        rw [if_pos hq, hb, small_f]
        rfl
      · have := hj (!small c)
        simp only [List.headD_cons, Bool.true_and]
        cases hs : small c <;> rw [hs] at this <;> simpa using this
def greatR : Nat → Bs → Bool
  | _, [] => false
  | n, c :: t => decide ((4611686018427387903 - (c.toNat - 48)) / 10 < n) || greatR (10 * n + (c.toNat - 48)) t
theorem wrap_in (x : Int) (h1 : -9223372036854775808 ≤ x) (h2 : x < 9223372036854775808) : wrap64 x = x := by
  unfold wrap64
  omega
theorem wrap_ten (n d : Nat) (h : 10 * n + d ≤ 4611686018427387903) : wrap64 (wrap64 (10 * (n : Int)) + (d : Int)) = ((10 * n + d : Nat) : Int) := by
  rw [wrap_in (10 * (n : Int)) (by omega) (by omega), wrap_in _ (by omega) (by omega)]
  omega
theorem great_lim (n d : Nat) (h : ¬ (4611686018427387903 - d) / 10 < n) (hd : d ≤ 9) : 10 * n + d ≤ 4611686018427387903 := by omega
theorem great_int (n d : Nat) (hd : d ≤ 9) : ((n : Int) > (4611686018427387903 - (d : Int)) / 10) ↔ (4611686018427387903 - d) / 10 < n := by omega
theorem great_l0 (l : Bs) (hl : l.length ≤ 65536) : ∀ (t : Bs) (i n : Nat), l.drop i = t → n ≤ 4611686018427387903 → t.all digit = true → Ev (fun k => cinnabarref01_great.l0 k (B l) (n : Int) (i : Int)) (greatR n t)
  | [], i, n, h, hn, _ => Ev.step (f := fun _ => some false) (fun k => by simp only [cinnabarref01_great.l0]; rw [if_neg (nlt_nil h)]) (Ev.now _)
  | c :: t, i, n, h, hn, hd => by
    obtain ⟨hi, _, h2⟩ := drop_at h
    have hw := wrap_succ i (by omega)
    simp only [List.all_cons, Bool.and_eq_true] at hd
    obtain ⟨hc, ht⟩ := hd
    have hc2 : 48 ≤ c.toNat ∧ c.toNat ≤ 57 := by simpa [digit] using hc
    have hm : ((c.toNat : Int) - 48) % 256 = ((c.toNat - 48 : Nat) : Int) := by omega
    have hd9 : c.toNat - 48 ≤ 9 := by omega
    have hgi := great_int n (c.toNat - 48) hd9
    generalize hdd : c.toNat - 48 = d at *
    by_cases hg : (4611686018427387903 - d) / 10 < n
    · have e2 : greatR n (c :: t) = true := by simp [greatR, hdd, hg]
      rw [e2]
      refine Ev.step (f := fun k => some true) (fun k => ?_) (Ev.now _)
      simp only [cinnabarref01_great.l0]
      rw [if_pos (lt_cons h), if_pos (nn i), bt_cons h, hm, if_pos (hgi.2 hg)]
    · have e2 : greatR n (c :: t) = greatR (10 * n + d) t := by simp [greatR, hdd, hg]
      have hl2 := great_lim n d hg hd9
      rw [e2]
      refine Ev.step (f := fun k => cinnabarref01_great.l0 k (B l) ((10 * n + d : Nat) : Int) ((i + 1 : Nat) : Int)) (fun k => ?_) (great_l0 l hl t (i + 1) _ h2 hl2 ht)
      simp only [cinnabarref01_great.l0]
      rw [if_pos (lt_cons h), if_pos (nn i), bt_cons h, hm, if_neg (fun x => hg (hgi.1 x)), wrap_ten n d hl2, hw]
theorem great_f (l : Bs) (hl : l.length ≤ 65536) (hd : l.all digit = true) : Ev (fun k => cinnabarref01_great.f k (B l)) (greatR 0 l) := great_l0 l hl l 0 0 rfl (by omega) hd
theorem greatR_val : ∀ (t : Bs) (n : Nat), t.all digit = true → n ≤ 4611686018427387903 → greatR n t = decide (4611686018427387903 < t.foldl (fun n c => n * 10 + (c.toNat - 48)) n)
  | [], n, _, hn => by simp only [greatR, List.foldl_nil]; exact (decide_eq_false (by omega)).symm
  | c :: t, n, hd, hn => by
    simp only [List.all_cons, Bool.and_eq_true] at hd
    obtain ⟨hc, ht⟩ := hd
    have hc2 : 48 ≤ c.toNat ∧ c.toNat ≤ 57 := by simpa [digit] using hc
    have hmono : ∀ (t : Bs) (m : Nat), m ≤ t.foldl (fun n c => n * 10 + (c.toNat - 48)) m := by
      intro t
      induction t with
      | nil => intro m; exact Nat.le_refl _
      | cons d u ih =>
        intro m
        have := ih (m * 10 + (d.toNat - 48))
        simp only [List.foldl_cons]
        omega
    simp only [greatR, List.foldl_cons]
    by_cases hg : (4611686018427387903 - (c.toNat - 48)) / 10 < n
    · have := hmono t (n * 10 + (c.toNat - 48))
      simp only [hg, decide_true, Bool.true_or]
      exact (decide_eq_true (by omega)).symm
    · simp only [hg, decide_false, Bool.false_or]
      rw [Nat.mul_comm 10 n]
      exact greatR_val t _ ht (by omega)
end Go.Proofs.YtgeonilideojnaaGreatDoor.Rf
end
section
namespace Go.Proofs.YtgeonilideojnaaGreatDoor.Rf
open Go Go.RowKit Tk Go.Proofs.YtgeonilideojnaaGreatDoor.Pr Go.Proofs.YtgeonilideojnaaGreatDoorW.PrintWords
set_option linter.unusedVariables false
set_option linter.unusedSimpArgs false
def endR (ok : Bool) (kd : Int) (l : Bs) : Nat := if !ok then 2 else if (kd == 1 || kd == 2) && longR l then 6 else if kd == 3 && greatR 0 l then 5 else 0
theorem j4_f (l : Bs) (b : Bool) (kd at_ : Int) (hl : l.length ≤ 65536) (hd : kd = 3 → l.all digit = true) :
    Ev (fun k => cinnabarref01_Check.j4 k (B l) b kd (B l) at_) ((if b then 6 else if kd == 3 && greatR 0 l then 5 else 0 : Nat) : Int) := by
  cases b with
  | true => exact Ev.step (f := fun _ => some 6) (fun k => by simp only [cinnabarref01_Check.j4]; rfl) (Ev.now _)
  | false =>
    by_cases h3 : kd = 3
    · have hg := great_f l hl (hd h3)
      refine Ev.step (f := fun k => (cinnabarref01_great.f k (B l)).bind fun t => if t = true then some 5 else some 0) (fun k => ?_) (Ev.bind (f := fun _ t => if t = true then some 5 else some 0) hg ?_)
      · simp only [cinnabarref01_Check.j4]
        rw [if_neg (by decide), if_pos h3]
      · cases hgr : greatR 0 l <;> simp [h3] <;> exact Ev.now _
    · refine Ev.step (f := fun _ => some 0) (fun k => ?_) (by simpa [h3] using Ev.now _)
      simp only [cinnabarref01_Check.j4]
      rw [if_neg (by decide), if_neg h3]
theorem j3_f (l : Bs) (ok : Bool) (kd at_ : Int) (hl : l.length ≤ 65536) (hd : ok = true → kd = 3 → l.all digit = true) :
    Ev (fun k => cinnabarref01_Check.j3 k (B l) ok kd (B l) at_) (endR ok kd l : Int) := by
  cases ok with
  | false => exact Ev.step (f := fun _ => some 2) (fun k => by simp only [cinnabarref01_Check.j3]; rfl) (Ev.now _)
  | true =>
    have h4 := fun b => j4_f l b kd at_ hl (hd rfl)
    by_cases h1 : kd = 1
    · have e : (endR true kd l : Int) = ((if longR l then 6 else if kd == 3 && greatR 0 l then 5 else 0 : Nat) : Int) := by simp [endR, h1]
      rw [e]
      refine Ev.step (f := fun k => (cinnabarref01_long.f k (B l)).bind fun t => cinnabarref01_Check.j4 k (B l) t kd (B l) at_) (fun k => ?_) (Ev.bind (f := fun k t => cinnabarref01_Check.j4 k (B l) t kd (B l) at_) (long_f l hl) (h4 _))
      simp only [cinnabarref01_Check.j3, if_true]
      rw [if_pos h1]
    · by_cases h2 : kd = 2
      · have e : (endR true kd l : Int) = ((if longR l then 6 else if kd == 3 && greatR 0 l then 5 else 0 : Nat) : Int) := by simp [endR, h2]
        rw [e]
        refine Ev.step (f := fun k => (cinnabarref01_long.f k (B l)).bind fun t => cinnabarref01_Check.j4 k (B l) t kd (B l) at_) (fun k => ?_) (Ev.bind (f := fun k t => cinnabarref01_Check.j4 k (B l) t kd (B l) at_) (long_f l hl) (h4 _))
        simp only [cinnabarref01_Check.j3, if_true]
        rw [if_neg h1, if_pos h2]
      · have e : (endR true kd l : Int) = ((if false then 6 else if kd == 3 && greatR 0 l then 5 else 0 : Nat) : Int) := by simp [endR, h1, h2]
        rw [e]
        refine Ev.step (f := fun k => cinnabarref01_Check.j4 k (B l) false kd (B l) at_) (fun k => ?_) (h4 false)
        simp only [cinnabarref01_Check.j3, if_true]
        rw [if_neg h1, if_neg h2]
theorem word_l0 (l : Bs) (kd at_ : Int) (hl : l.length ≤ 65536) (h3 : kd ≠ 3) : ∀ (t : Bs) (i : Nat) (ok : Bool), l.drop i = t → Ev (fun k => cinnabarref01_Check.l0 k (B l) ok (i : Int) kd (B l) at_) (endR (ok && t.all letter) kd l : Int)
  | [], i, ok, h => by
    refine Ev.step (f := fun k => cinnabarref01_Check.j3 k (B l) ok kd (B l) at_) (fun k => ?_) (by simpa using j3_f l ok kd at_ hl (fun _ h => absurd h h3))
    simp only [cinnabarref01_Check.l0]
    rw [if_neg (nlt_nil h)]
  | c :: t, i, ok, h => by
    obtain ⟨hi, _, h2⟩ := drop_at h
    have hw := wrap_succ i (by omega)
    cases ok with
    | false =>
      refine Ev.step (f := fun k => cinnabarref01_Check.l0 k (B l) false ((i + 1 : Nat) : Int) kd (B l) at_) (fun k => ?_) (by simpa using word_l0 l kd at_ hl h3 t (i + 1) false h2)
      simp only [cinnabarref01_Check.l0]
      rw [if_pos (lt_cons h), if_neg (by decide), hw]
    | true =>
      refine Ev.step (f := fun k => cinnabarref01_Check.l0 k (B l) (letter c) ((i + 1 : Nat) : Int) kd (B l) at_) (fun k => ?_) (by simpa using word_l0 l kd at_ hl h3 t (i + 1) (letter c) h2)
      simp only [cinnabarref01_Check.l0, if_true]
      rw [if_pos (lt_cons h), if_pos (nn i), bt_cons h, word_f, hw]
      rfl
theorem digit_l1 (l : Bs) (kd at_ : Int) (hl : l.length ≤ 65536) : ∀ (t : Bs) (i : Nat) (ok : Bool), l.drop i = t → (ok = true → (l.take i).all digit = true) → Ev (fun k => cinnabarref01_Check.l1 k (B l) ok (i : Int) kd (B l) at_) (endR (ok && t.all digit) kd l : Int)
  | [], i, ok, h, hp => by
    refine Ev.step (f := fun k => cinnabarref01_Check.j3 k (B l) ok kd (B l) at_) (fun k => ?_) (by simpa using j3_f l ok kd at_ hl (fun ho _ => by have := hp ho; rwa [List.take_of_length_le (drop_nil h)] at this))
    simp only [cinnabarref01_Check.l1]
    rw [if_neg (nlt_nil h)]
  | c :: t, i, ok, h, hp => by
    obtain ⟨hi, h1, h2⟩ := drop_at h
    have hw := wrap_succ i (by omega)
    cases ok with
    | false =>
      refine Ev.step (f := fun k => cinnabarref01_Check.l1 k (B l) false ((i + 1 : Nat) : Int) kd (B l) at_) (fun k => ?_) (by simpa using digit_l1 l kd at_ hl t (i + 1) false h2 (fun h => by cases h))
      simp only [cinnabarref01_Check.l1]
      rw [if_pos (lt_cons h), if_neg (by decide), hw]
    | true =>
      refine Ev.step (f := fun k => cinnabarref01_Check.l1 k (B l) (digit c) ((i + 1 : Nat) : Int) kd (B l) at_) (fun k => ?_) (by simpa using digit_l1 l kd at_ hl t (i + 1) (digit c) h2 (fun hc => by
        rw [List.take_succ_eq_append_getElem hi, List.all_append, hp rfl, h1]
        simp [hc]))
      simp only [cinnabarref01_Check.l1, if_true]
      rw [if_pos (lt_cons h), if_pos (nn i), bt_cons h, digit_f, hw]
      rfl
theorem run_h1 (n L : Nat) : (decide (40 < n + 1) || (decide (40 < n + 1 + L) && decide (0 < L))) = (decide (40 < n + (L + 1)) && decide (0 < L + 1)) := by
  by_cases h1 : 40 < n + 1 <;> by_cases h2 : 40 < n + 1 + L <;> by_cases h3 : 0 < L <;> by_cases h4 : 40 < n + (L + 1) <;> simp only [h1, h2, h3, h4, decide_true, decide_false, Bool.true_and, Bool.and_true, Bool.false_and, Bool.and_false, Bool.or_true, Bool.true_or, Bool.or_false, Bool.false_or] <;> first | rfl | (simp; done) | (exfalso; omega)
theorem run_h0 (n L : Nat) : (decide (40 < 0 + L) && decide (0 < L)) = decide (40 < L) := by
  by_cases h2 : 40 < L <;> by_cases h3 : 0 < L <;> simp [h2, h3] <;> omega
def big (x : Bs) : Bool := decide (40 < x.length)
theorem run_any (l : Bs) : ∀ (n : Nat) (p : Bs) (ps : List Bs), splitDot l = p :: ps → longRun n l = (ps.any big || (decide (40 < n + p.length) && decide (0 < p.length))) := by
  induction l with
  | nil =>
    intro n p ps h
    simp only [splitDot, List.cons.injEq] at h
    obtain ⟨rfl, rfl⟩ := h
    simp [longRun]
  | cons c t ih =>
    intro n p ps h
    obtain ⟨q, qs, h2⟩ := split_ne t
    by_cases e : c = 46
    · have i0 := ih 0 q qs h2
      simp only [splitDot, e, if_true, h2, List.cons.injEq] at h
      obtain ⟨rfl, rfl⟩ := h
      rw [run_h0 0] at i0
      simp only [longRun, e, if_true, i0, List.any_cons]
      rw [Bool.or_comm]
      simp [big]
    · have i1 := ih (n + 1) q qs h2
      simp only [splitDot, e, if_false, h2, List.cons.injEq] at h
      obtain ⟨rfl, rfl⟩ := h
      simp only [longRun, e, if_false, i1]
      rw [List.length_cons, ← run_h1]
      cases qs.any big <;> simp
theorem run_parts (l : Bs) : longRun 0 l = (splitDot l).any (fun x => decide (40 < x.length)) := by
  obtain ⟨p, ps, h⟩ := split_ne l
  rw [run_any l 0 p ps h, h, run_h0 0, Bool.or_comm]
  rfl
theorem perm_letter (c : UInt8) (h : letter c = true) : (permitted c && (false || decide (32 ≤ c.toNat))) = true := by
  have := u8_all (fun c => !letter c || (permitted c && (false || decide (32 ≤ c.toNat)))) (by decide +kernel) c
  simpa [h] using this
theorem perm_sign (c : UInt8) (h : sign c = true) : (permitted c && (false || decide (32 ≤ c.toNat))) = true := by
  have := u8_all (fun c => !sign c || (permitted c && (false || decide (32 ≤ c.toNat)))) (by decide +kernel) c
  simpa [h] using this
theorem rest_printable : ∀ (n : Nat) (t : Bs), t.length ≤ n → restOk t = true → printable t false = true
  | _, [], _, _ => rfl
  | 0, c :: t, h, _ => by simp at h
  | n + 1, c :: t, h, hr => by
    have hn : t.length ≤ n := by simpa using h
    rw [restOk_cons] at hr
    unfold printable
    rw [List.all_cons]
    by_cases hc : c = 46
    · rw [if_pos hc] at hr
      cases t with
      | nil => exact absurd hr (by decide)
      | cons d u =>
        rw [partsOk_cons] at hr
        simp only [Bool.and_eq_true] at hr
        have h1 := rest_printable n u (by simp at hn; omega) hr.2
        have h2 := perm_letter d (small_letter hr.1)
        unfold printable at h1
        rw [List.all_cons, h1, h2, hc]
        decide
    · rw [if_neg hc] at hr
      simp only [Bool.and_eq_true] at hr
      have h1 := rest_printable n t hn hr.2
      unfold printable at h1
      rw [h1, perm_letter c hr.1]
      rfl
theorem parts_printable (l : Bs) (h : partsOk l = true) : printable l false = true ∧ small (l.headD 0) = true ∧ l ≠ [] := by
  cases l with
  | nil => exact absurd h (by decide)
  | cons c t =>
    rw [partsOk_cons] at h
    simp only [Bool.and_eq_true] at h
    refine ⟨?_, h.1, by simp⟩
    have h1 := rest_printable _ t (Nat.le_refl _) h.2
    unfold printable at h1 ⊢
    rw [List.all_cons, h1, perm_letter c (small_letter h.1)]
    rfl
theorem signs_printable (l : Bs) (h : l.all sign = true) : printable l false = true := by
  unfold printable
  rw [List.all_eq_true] at h ⊢
  intro c hc
  exact perm_sign c (h c hc)
theorem plain_signs (l : Bs) (hp : partsOk l = false) (h : Tk.plain l = true) : printable l false = true ∧ small (l.headD 0) = false := by
  unfold Tk.plain at h
  rw [hp] at h
  simp only [Bool.false_eq_true, if_false] at h
  split at h
  · cases h
  · split at h
    · cases h
    · split at h
      · rename_i h1; subst h1; decide
      · split at h
        · rename_i h1; subst h1; decide
        · simp only [Bool.and_eq_true] at h
          refine ⟨signs_printable l h.2, ?_⟩
          cases l with
          | nil => decide
          | cons c t =>
            have hc := List.all_eq_true.1 h.2 c List.mem_cons_self
            cases hs : small c with
            | true => rw [small_not_sign c hs] at hc; cases hc
            | false => simpa using hs
theorem name_check (l : Bs) : endR (decide (l ≠ []) && printable l false && (Tk.plain l || l == [33, 46] || !l.contains 46)) 1 l = Tk.checkName l := by
  unfold endR Tk.checkName
  cases hp : partsOk l with
  | true =>
    obtain ⟨h1, h2, h3⟩ := parts_printable l hp
    have hpl : Tk.plain l = true := by simp [Tk.plain, hp]
    simp only [h1, h3, hpl, ne_eq, not_false_eq_true, decide_true, Bool.true_or, Bool.and_self, Bool.not_true, Bool.false_eq_true, if_false, if_true, longR, h2, run_parts]
    simp
  | false =>
    simp only [Bool.false_eq_true, if_false]
    by_cases h0 : l = []
    · simp [h0]
    · by_cases h46 : l = [46]
      · subst h46; decide
      · have hlong : longR l = decide (40 < l.length) := by
          unfold longR
          cases hpl : Tk.plain l with
          | true => rw [(plain_signs l hp hpl).2]; simp
          | false => simp
        rw [hlong]
        cases hpl : Tk.plain l with
        | true =>
          have hq := (plain_signs l hp hpl).1
          simp [h0, h46, hq, limitS]
        | false =>
          by_cases hx : l = [33, 46]
          · subst hx; decide
          · have hx2 : (l == [33, 46]) = false := by simpa using hx
            cases hpr : printable l false <;> cases hc : l.contains 46 <;> simp [h0, h46, hx, limitS] <;> simp_all
theorem puncts_check (l : Bs) : (if l = [40, 40] then true else if l.length = 1 then ([40, 41, 91, 93, 123, 125, 44, 124] : Bs).contains (l.headD 0) else false) = puncts.contains l := by
  match l with
  | [] => decide
  | [c] =>
    have := u8_all (fun c => (([40, 41, 91, 93, 123, 125, 44, 124] : Bs).contains c) == puncts.contains [c]) (by decide +kernel) c
    simpa using this
  | a :: b :: t =>
    by_cases h : a :: b :: t = [40, 40]
    · rw [if_pos h, h]; decide
    · rw [if_neg h, if_neg (by simp)]
      symm
      rw [Bool.eq_false_iff]
      intro hc
      simp only [puncts, List.contains_iff_mem, List.mem_cons, List.cons.injEq, List.mem_nil_iff, or_false] at hc
      simp at hc h
      exact h hc.1 hc.2.1 hc.2.2
theorem Check_f (kd at_ : Int) (l : Bs) (hl : l.length ≤ 65536) : Ev (fun k => cinnabarref01_Check.f k kd (B l) at_) (checkS kd l : Int) := by
  have hj := fun ok hd => j3_f l ok kd at_ hl hd
  have ht := toList_B l
  have hsz := size_B l
  unfold cinnabarref01_Check.f checkS
  simp only [ht]
  by_cases h0 : kd = 0
  · simp only [if_pos h0]
    have e : endR (l == []) kd l = form (l == []) := by simp only [endR, form, h0]; cases l == [] <;> simp
    rw [← e]
    exact hj _ (fun _ h => by omega)
  · simp only [if_neg h0]
    by_cases h1 : kd = 1
    · subst h1
      rw [if_neg (by decide)]
      simp only [if_true]
      rw [← name_check l]
      by_cases hn : l = []
      · simp only [if_pos hn]
        have e : (decide (l ≠ []) && printable l false && (Tk.plain l || l == [33, 46] || !l.contains 46)) = false := by simp [hn]
        rw [e]
        exact hj false (fun _ h => by omega)
      · simp only [if_neg hn]
        refine Ev.bind (f := fun k t => if t = true then (TkRef.plain.f (B l)).bind fun t109 => (if t109 = true then (cinnabarref01_Check.j3 k (B l) true 1 (B l) at_) else (if l = ([33, 46] : List UInt8) then (cinnabarref01_Check.j3 k (B l) true 1 (B l) at_) else ((cinnabarref01_has.f k (B l) 46).bind fun t110 => (cinnabarref01_Check.j3 k (B l) (!t110) 1 (B l) at_)))) else cinnabarref01_Check.j3 k (B l) false 1 (B l) at_) (all_f l false (by omega)) ?_
        cases hpr : printable l false with
        | false =>
          simp only [Bool.false_eq_true, if_false, Bool.and_false, Bool.false_and]
          exact hj false (fun _ h => by omega)
        | true =>
          simp only [if_true, plain_f l hl, Option.bind_some]
          cases hpl : Tk.plain l with
          | true =>
            simp only [if_true, Bool.true_or, Bool.and_true, hn, ne_eq, not_false_eq_true, decide_true]
            exact hj true (fun _ h => by omega)
          | false =>
            simp only [Bool.false_eq_true, if_false, Bool.false_or, hn, ne_eq, not_false_eq_true, decide_true, Bool.true_and]
            by_cases hx : l = [33, 46]
            · simp only [if_pos hx]
              have e : (l == [33, 46] || !l.contains 46) = true := by simp [hx]
              rw [e]
              exact hj true (fun _ h => by omega)
            · simp only [if_neg hx]
              have e : (l == [33, 46] || !l.contains 46) = !l.contains 46 := by
                have : (l == [33, 46]) = false := by simpa using hx
                rw [this, Bool.false_or]
              rw [e]
              exact Ev.bind (f := fun k t => cinnabarref01_Check.j3 k (B l) (!t) 1 (B l) at_) (has_f l 46 (by omega)) (hj _ (fun _ h => by omega))
    · simp only [if_neg h1]
      by_cases h2 : kd = 2
      · subst h2
        rw [if_neg (by decide)]
        simp only [if_true]
        have e : endR (word capital l) 2 l = if word capital l = true then limitS l.length else 2 := by
          unfold endR
          cases hw : word capital l with
          | false => rfl
          | true =>
            have hlong : longR l = decide (40 < l.length) := by
              unfold longR
              cases l with
              | nil => rw [show Tk.plain [] = false from by decide]; simp
              | cons c t =>
                have hs : small c = false := by
                  have hc : capital c = true := by
                    simp only [word, Bool.and_eq_true] at hw
                    exact hw.1
                  have := u8_all (fun c => !capital c || !small c) (by decide +kernel) c
                  simpa [hc] using this
                simp [hs]
            simp [hlong, limitS]
        rw [← e]
        have hl0 := fun ok => word_l0 l 2 at_ hl (by decide) l 0 ok rfl
        have hj0 : ∀ ok, Ev (fun k => cinnabarref01_Check.j0 k (B l) ok 2 (B l) at_) (endR (ok && l.all letter) 2 l : Int) := fun ok =>
          Ev.step (f := fun k => cinnabarref01_Check.l0 k (B l) ok 0 2 (B l) at_) (fun k => by simp only [cinnabarref01_Check.j0]) (hl0 ok)
        cases l with
        | nil => simpa [word] using hj0 false
        | cons c t =>
          have hb : bt (B (c :: t)) 0 = (c.toNat : Int) := bt_cons (l := c :: t) (i := 0) rfl
          have hq : (0 : Int) < ((B (c :: t)).size : Int) := lt_cons (l := c :: t) (i := 0) rfl
          have hne : ¬ (c :: t = []) := by simp
          simp only [if_neg hne, if_pos hq, hb, capital_f, Option.bind_some]
          have := hj0 (capital c)
          simpa [word] using this
      · simp only [if_neg h2]
        by_cases h3 : kd = 3
        · subst h3
          rw [if_neg (by decide)]
          simp only [if_true]
          have hd := digit_l1 l 3 at_ hl l 0 (l != []) rfl (fun _ => rfl)
          have e : endR ((l != []) && l.all digit) 3 l = checkInt l := by
            unfold endR checkInt
            by_cases hn : l = []
            · simp [hn]
            · cases hda : l.all digit with
              | false => simp [hn]
              | true =>
                have := greatR_val l 0 hda (by omega)
                simp only [hn, bne_iff_ne, ne_eq, not_false_eq_true]
                rw [show (l != []) = true from by simpa using hn, this]
                simp [decVal]
                rfl
          rw [← e]
          exact hd
        · simp only [if_neg h3]
          by_cases h4 : kd = 4
          · subst h4
            rw [if_neg (by decide)]
            simp only [if_true]
            have e : endR (l.length == 1 && printable l true) 4 l = form (l.length == 1 && printable l true) := by
              unfold endR form
              cases (l.length == 1 && printable l true) <;> simp
            rw [← e]
            by_cases h1l : l.length = 1
            · rw [hsz]
              simp only [if_pos (show (l.length : Int) = 1 by omega), h1l, beq_self_eq_true, Bool.true_and]
              exact Ev.bind (f := fun k t => cinnabarref01_Check.j3 k (B l) t 4 (B l) at_) (all_f l true (by omega)) (hj _ (fun _ h => by omega))
            · rw [hsz]
              simp only [if_neg (show ¬ (l.length : Int) = 1 by omega)]
              rw [show (l.length == 1) = false from by simpa using h1l, Bool.false_and]
              exact hj false (fun _ h => by omega)
          · simp only [if_neg h4]
            by_cases h5 : kd = 5
            · subst h5
              rw [if_neg (by decide)]
              simp only [if_true]
              have e : endR (printable l true) 5 l = form (printable l true) := by
                unfold endR form
                cases (printable l true) <;> simp
              rw [← e]
              exact Ev.bind (f := fun k t => cinnabarref01_Check.j3 k (B l) t 5 (B l) at_) (all_f l true (by omega)) (hj _ (fun _ h => by omega))
            · simp only [if_neg h5]
              by_cases h6 : kd = 6
              · subst h6
                rw [if_neg (by decide)]
                simp only [if_true]
                rw [← puncts_check l]
                have e : ∀ b, endR b 6 l = form b := by
                  intro b
                  unfold endR form
                  cases b <;> simp
                rw [← e]
                by_cases hx : l = [40, 40]
                · simp only [if_pos hx]
                  exact hj true (fun _ h => by omega)
                · simp only [if_neg hx]
                  by_cases h1l : l.length = 1
                  · rw [hsz]
                    simp only [if_pos (show (l.length : Int) = 1 by omega), if_pos (show (0 : Int) < (l.length : Int) by omega), if_pos h1l]
                    cases l with
                    | nil => simp at h1l
                    | cons c t =>
                      have hb : bt (B (c :: t)) 0 = (c.toNat : Int) := bt_cons (l := c :: t) (i := 0) rfl
                      rw [hb]
                      exact Ev.bind (f := fun k t1 => cinnabarref01_Check.j3 k (B (c :: t)) t1 6 (B (c :: t)) at_) (has_f [40, 41, 91, 93, 123, 125, 44, 124] c (by decide)) (hj _ (fun _ h => by omega))
                  · rw [hsz]
                    simp only [if_neg (show ¬ (l.length : Int) = 1 by omega), if_neg h1l]
                    exact hj false (fun _ h => by omega)
              · simp only [if_neg h6]
                by_cases h7 : kd = 7
                · subst h7
                  simp only [if_true]
                  have e : endR (l == [46]) 7 l = form (l == [46]) := by
                    unfold endR form
                    cases (l == [46]) <;> simp
                  rw [← e]
                  exact hj _ (fun _ h => by omega)
                · simp only [if_neg h7]
                  exact Ev.now _
end Go.Proofs.YtgeonilideojnaaGreatDoor.Rf
end
section
namespace Go.Proofs.YtgeonilideojnaaGreatDoor.Rs
open Go Go.RowKit Tk Go.Proofs.YtgeonilideojnaaGreatDoor.Pr Go.Proofs.YtgeonilideojnaaGreatDoorW.PrintWords Go.Proofs.YtgeonilideojnaaGreatDoor.Rf
set_option linter.unusedVariables false
set_option linter.unusedSimpArgs false
def RsC (l : Bs) (i : Int) (v : Value) (tx e bad : Int) : Array Value := #[.string (B l), .int .i64 i, v, .int .i64 tx, .int .i64 e, .int .i64 bad]
structure Rs (w : World) (b : Nat) (l : Bs) (i : Int) (v : Value) (acc : List Tok) (tx e bad : Int) : Prop where
  blk : Blk w b 49 (RsC l i v tx e bad)
  own : OwnT w (b + 1) v acc
  ge : 8 ≤ b
section
variable {w w1 : World} {b : Nat} {l : Bs} {i tx e bad : Int} {v : Value} {acc : List Tok}
theorem Rs.c0 (h : Rs w b l i v acc tx e bad) : w.cell? ⟨b, 0, none⟩ = some (.string (B l)) := h.blk.cell 0
theorem Rs.c1 (h : Rs w b l i v acc tx e bad) : w.cell? ⟨b, 1, none⟩ = some (.int .i64 i) := h.blk.cell 1
theorem Rs.c2 (h : Rs w b l i v acc tx e bad) : w.cell? ⟨b, 2, none⟩ = some v := h.blk.cell 2
theorem Rs.c3 (h : Rs w b l i v acc tx e bad) : w.cell? ⟨b, 3, none⟩ = some (.int .i64 tx) := h.blk.cell 3
theorem Rs.c4 (h : Rs w b l i v acc tx e bad) : w.cell? ⟨b, 4, none⟩ = some (.int .i64 e) := h.blk.cell 4
theorem Rs.c5 (h : Rs w b l i v acc tx e bad) : w.cell? ⟨b, 5, none⟩ = some (.int .i64 bad) := h.blk.cell 5
theorem Rs.fr (h : Rs w b l i v acc tx e bad) (k : Nat) : w.frozen? ⟨b, k, none⟩ = false := h.blk.frozen k
theorem Rs.lt (h : Rs w b l i v acc tx e bad) : b < w.heap.size := h.blk.lt
theorem Rs.drewN (h : Rs w b l i v acc tx e bad) (n : Nat) : Rs (w.drewN n) b l i v acc tx e bad := ⟨h.blk, h.own.same (gb_drewN (gb_refl _ _) n), h.ge⟩
theorem Rs.below (h : Rs w b l i v acc tx e bad) (hb : Below w.heap.size w w1) : Rs w1 b l i v acc tx e bad := ⟨h.blk.kept (below_gb hb none), h.own.same (below_gb hb none), h.ge⟩
theorem Rs.set (h : Rs w b l i v acc tx e bad) (k : Nat) (u : Value) {i' tx' e' bad' : Int} (hc : (RsC l i v tx e bad).setIfInBounds k u = RsC l i' v tx' e' bad') : Rs (w.setCell ⟨b, k, none⟩ u) b l i' v acc tx' e' bad' :=
  ⟨hc ▸ h.blk.put k u, h.own.kept (b := b) (gb_set (gb_refl w (some b)) (.inl rfl) u) (by omega), h.ge⟩
theorem below_set' {w w1 : World} {b k : Nat} (h : Below b w w1) (u : Value) : Below b w (w1.setCell ⟨b, k, none⟩ u) := h.setCell (Nat.le_refl _) u
end
section
set_option maxHeartbeats 1000000
set_option maxRecDepth 100000
theorem rat_calls (b : Nat) (l : Bs) (k : Nat) (w : World) (hs : l.length ≤ 65536) (hk : k ≤ 100000) (h0 : w.cell? ⟨b, 0, none⟩ = some (.string (B l))) :
    Calls Tryz.prog 65 #[.pointer (some ⟨b, 0, none⟩), .int .i64 (k : Int)] w fun r w' => r = .returned (.int .u8 ((pk l k).toNat : Int)) ∧ w = w' := by
  have hz := size_B l
  cases hd : l.drop k with
  | nil =>
    have hp := hide (pk_nil hd)
    have hn := drop_nil hd
    clear hd
    go_enter Tryz.func65, Tryz.ntmps65
    go_wp2
    go_ret
    exact ⟨by rw [hp.out]; rfl, rfl⟩
  | cons c t =>
    have hp := hide (pk_cons hd)
    have hb := B_get hd
    obtain ⟨hl, -, -⟩ := drop_at hd
    clear hd
    go_enter Tryz.func65, Tryz.ntmps65
    go_wp2
    go_ret
    exact ⟨by rw [hp.out]; rfl, rfl⟩
theorem rfail_calls (b : Nat) (l : Bs) (i : Int) (v : Value) (acc : List Tok) (tx bad c at_ : Int) (w : World) (h : Rs w b l i v acc tx 0 bad) :
    Calls Tryz.prog 63 #[.pointer (some ⟨b, 0, none⟩), .int .i64 c, .int .i64 at_] w fun r w' => r = .returned (.tuple #[]) ∧ Rs w' b l i v acc tx c at_ ∧ Below b w w' ∧ w.grownBy w' (some b) := by
  have h4 := h.c4
  have h5 := h.c5
  have f4 := h.fr 4
  have f5 := h.fr 5
  have H := hide h
  clear h
  go_enter Tryz.func63, Tryz.ntmps63
  go_wp2
  go_end0
  exact ⟨rfl, (H.out.set 4 (.int .i64 c) (i' := i) (tx' := tx) (e' := c) (bad' := bad) rfl).set 5 _ rfl, below_set' (below_set' (Below.refl _ _) _) _, gb_set (gb_set (gb_refl w (some b)) (p := ⟨b, 4, none⟩) (.inl rfl) _) (p := ⟨b, 5, none⟩) (.inl rfl) _⟩
theorem rCheck_calls (t : Tok) (w : World) (hl : t.text.length ≤ 65536) : Calls Tryz.prog 17 #[.agg #[.int .i64 t.kind, .string (B t.text), .int .i64 t.at_]] w fun e w' => e = .returned (.int .i64 (checkS t.kind t.text : Int)) ∧ Below w.heap.size w w' := by
  obtain ⟨k, hk⟩ := (Check_f t.kind t.at_ t.text hl).rounds
  exact cinnabarref01_Check.calls k _ _ _ _ w hk
theorem tok_info : (Tryz.prog.info? 35).map (fun i => (i.zero, i.size, i.bytes)) = some (some (.agg #[.int .i64 0, .string ⟨#[]⟩, .int .i64 0]), 3, 32) := by kernel_rfl
theorem OwnT.alloc {w : World} {base : Nat} {v : Value} {ts : List Tok} (h : OwnT w base v ts) (o : Obj) : OwnT (w.alloc o) base v ts := h.same (gb_alloc (gb_refl _ _) o)
theorem OwnT.drew {w : World} {base : Nat} {v : Value} {ts : List Tok} (h : OwnT w base v ts) : OwnT w.drew base v ts := h.same (gb_drew (gb_refl _ _))
theorem add_blk {w w1 : World} {b : Nat} {v : Value} {ts : List Tok} {t : TypeId} {cs : Array Value} (h : Blk w b t cs) (hg : w.drew.grownBy w1 v.ownBlock) (ho : OwnT w (b + 1) v ts) : Blk w1 b t cs :=
  Blk.own (w := w.drew) h hg (fun x hx => by have := own_ge ho x hx; omega)
theorem add_end {w w1 w4 : World} {b : Nat} {l : Bs} {i : Nat} {v : Value} {acc : List Tok} {tx e bad : Int} {k : Int} {s : Bs} {j g cap : Nat} (h : Rs w1 b l i v acc tx e bad) (hb : Below b w w1)
    (ho : w4.ownsRow (b + 1) 35 3 (.slice (some ⟨g, 0, none⟩) (acc.length + 1) cap) (acc.length + 1) (tokVals acc ++ [.int .i64 k, .string (B s), .int .i64 (i : Int)]))
    (hg : ((w1.alloc (.cells #[.int .i64 k, .string (B s), .int .i64 (i : Int)] 35)).drew).grownBy w4 v.ownBlock) :
    (∃ v', Rs (((w4.setCell ⟨b, 2, none⟩ (.slice (some ⟨g, 0, none⟩) (acc.length + 1) cap)).setCell ⟨b, 1, none⟩ (.int .i64 (j : Int))).setCell ⟨b, 3, none⟩ (.int .i64 (j : Int))) b l j v' (acc ++ [⟨k, s, i⟩]) j e bad) ∧
      Below b w (((w4.setCell ⟨b, 2, none⟩ (.slice (some ⟨g, 0, none⟩) (acc.length + 1) cap)).setCell ⟨b, 1, none⟩ (.int .i64 (j : Int))).setCell ⟨b, 3, none⟩ (.int .i64 (j : Int))) := by
  have hlt := h.lt
  have ho' : OwnT w4 (b + 1) (.slice (some ⟨g, 0, none⟩) (acc.length + 1) cap) (acc ++ [⟨k, s, i⟩]) := by
    unfold OwnT
    have e1 : tokVals (acc ++ [⟨k, s, i⟩]) = tokVals acc ++ [.int .i64 k, .string (B s), .int .i64 (i : Int)] := by unfold tokVals; simp
    rw [e1, List.length_append]
    exact ho
  have q := add_blk (h.blk.alloc (.cells #[.int .i64 k, .string (B s), .int .i64 (i : Int)] 35)) hg (OwnT.alloc h.own _)
  have hk := own_ge h.own
  refine ⟨⟨_, (((q.put 2 _).put 1 _).put 3 _ : Blk _ b _ (RsC l j _ j e bad)), ?_, h.ge⟩, ?_⟩
  · exact ((ho'.kept (b := b) (gb_set (gb_refl w4 (some b)) (.inl rfl) _) (by omega)).kept (b := b) (gb_set (gb_refl _ (some b)) (.inl rfl) _) (by omega)).kept (b := b) (gb_set (gb_refl _ (some b)) (.inl rfl) _) (by omega)
  · have h1 : Below b w ((w1.alloc (.cells #[.int .i64 k, .string (B s), .int .i64 (i : Int)] 35)).drew) := (hb.alloc (by omega) _).drew
    have h2 : Below b w w4 := h1.grown hg (by show b ≤ (w1.alloc _).heap.size; simp; omega) (fun x hx => by have := hk x hx; omega)
    exact below_set' (below_set' (below_set' h2 _) _) _
def addE (e bad : Int) (t : Tok) : Int × Int := if e = 0 ∧ checkS t.kind t.text ≠ 0 then ((checkS t.kind t.text : Int), t.at_) else (e, bad)
theorem radd_calls (b : Nat) (l : Bs) (i : Nat) (v : Value) (acc : List Tok) (tx e bad : Int) (k : Int) (s : Bs) (j : Nat) (w : World) (hl : s.length ≤ 65536) (ha : acc.length ≤ 65536) (h : Rs w b l i v acc tx e bad) :
    Calls Tryz.prog 70 #[.pointer (some ⟨b, 0, none⟩), .int .i64 k, .string (B s), .int .i64 (j : Int)] w fun r w' => r = .returned (.tuple #[]) ∧
      (∃ v', Rs w' b l j v' (acc ++ [⟨k, s, i⟩]) j (addE e bad ⟨k, s, i⟩).1 (addE e bad ⟨k, s, i⟩).2) ∧ Below b w w' := by
  have hc := fun W => rCheck_calls ⟨k, s, i⟩ W hl
  obtain ⟨r, hr⟩ : ∃ r, r = checkS k s := ⟨_, rfl⟩
  have hA : addE e bad ⟨k, s, i⟩ = if e = 0 ∧ r ≠ 0 then ((r : Int), (i : Int)) else (e, bad) := by rw [hr]; rfl
  have hc : ∀ W, Calls Tryz.prog 17 #[.agg #[.int .i64 k, .string (B s), .int .i64 (i : Int)]] W fun e w' => e = .returned (.int .i64 (r : Int)) ∧ Below W.heap.size W w' := by rw [hr]; exact hc
  replace hc := hide hc
  clear hr
  generalize addE e bad ⟨k, s, i⟩ = A at *
  obtain ⟨A1, A2⟩ := A
  replace hA := hide hA
  have h1 := h.c1
  have hlt := h.lt
  have H := hide h
  clear h
  obtain ⟨i0, hi0, hz0, hz1, hz2⟩ := info_parts tok_info
  have W1 : ∀ w1, Below (w.alloc (.cells #[.int .i64 k, .string (B s), .int .i64 (i : Int)] 35)).heap.size (w.alloc (.cells #[.int .i64 k, .string (B s), .int .i64 (i : Int)] 35)) w1 → Rs w1 b l i v acc tx e bad ∧ Blk w1 w.heap.size 35 #[.int .i64 k, .string (B s), .int .i64 (i : Int)] := by
    intro w1 hb
    exact ⟨(H.out.below ((Below.refl _ _).alloc (Nat.le_refl _) _)).below hb, (Blk.new w _ _).kept (below_gb hb none)⟩
  replace W1 := hide W1
  by_cases hr0 : r = 0
  · subst hr0
    go_enter Tryz.func70, Tryz.ntmps70
    go_wp2_with (go_at_call 17; refine (hc.out _).mono ?_; rintro e w1 ⟨rfl, hb1⟩; have HT := hide (W1.out w1 hb1); have g1 := HT.out.1.c1; have g2 := HT.out.1.c2; have g4 := HT.out.1.c4; have t0 := HT.out.2.cell 0; have t1 := HT.out.2.cell 1; have t2 := HT.out.2.cell 2)
    have a1 := OwnT.alloc HT.out.1.own (.cells #[.int .i64 k, .string (B s), .int .i64 (i : Int)] 35)
    have a2 := HT.out.1.blk.alloc (.cells #[.int .i64 k, .string (B s), .int .i64 (i : Int)] 35)
    have a3 := Blk.new w1 35 #[.int .i64 k, .string (B s), .int .i64 (i : Int)]
    replace a1 := hide a1
    replace a2 := hide a2
    replace a3 := hide a3
    have L0 := HT.out.1.lt
    have L1 := hide HT.out.1.lt
    have hbb := hide (((Below.refl b w).alloc (Nat.le_of_lt hlt) (.cells #[.int .i64 k, .string (B s), .int .i64 (i : Int)] 35)).trans (hb1.mono (by simp; omega)))
    clear hb1
    go_region_law (refine step_append_lies _ rfl (.tmp 39) (.tmp 41) 23 rfl (b + 1) 35 i0 (.agg #[.int .i64 0, .string ⟨#[]⟩, .int .i64 0]) 3 32 Tryz.underlying23 hi0 hz0 hz1 hz2 rfl (by decide) v acc.length (tokVals acc) (by simp [Act.eval, Act.put]) (by exact OwnT.drew a1.out) ⟨w1.heap.size, 0, none⟩ 1 1 [.int .i64 k, .string (B s), .int .i64 (i : Int)] (by simp [Act.eval, Act.put]) rfl (World.news_of_block (by exact a3.out)) (by simp [Value.oneCell']) (by omega) (by unfold maxLen; omega) (by omega) (by have := L1.out; simp; omega) (w1.heap.size + 1) (by simp) ?_; intro g cap w4 ho4 hg4 hd4 hs4; have q0 := add_blk a2.out hg4 a1.out; have q1 : w4.cell? ⟨b, 2, none⟩ = some v := q0.cell 2; have q2 := q0.frozen; have q11 : w4.cell? ⟨b, 1, none⟩ = some (.int .i64 (i : Int)) := q0.cell 1; have q13 : w4.cell? ⟨b, 3, none⟩ = some (.int .i64 tx) := q0.cell 3; have Q0 := hide q0; clear q0)
    all_goals
      go_wp2
      go_end0
      have hA1 := hA.out
      rw [if_neg (by rintro ⟨_, h⟩; exact h rfl)] at hA1
      injection hA1 with e1 e2
      subst e1 e2
      exact ⟨rfl, add_end HT.out.1 hbb.out ho4 hg4⟩
  · have hr1 : ((r : Int) != 0) = true := by simpa using hr0
    by_cases he : e = 0
    · subst he
      go_enter Tryz.func70, Tryz.ntmps70
      go_wp2_with (first | (go_at_call 17; refine (hc.out _).mono ?_; rintro e w1 ⟨rfl, hb1⟩; have HT := hide (W1.out w1 hb1); have g1 := HT.out.1.c1; have g4 := HT.out.1.c4) | (go_at_call 63; refine (rfail_calls b l i v acc tx bad r i _ (by exact HT.out.1)).mono ?_; rintro e w2 ⟨rfl, hR2, hb2, hg2⟩; have HU := hide (And.intro hR2 (HT.out.2.grown hg2 (by simp; omega))); clear g1 g4; have g2 := HU.out.1.c2; have t0 := HU.out.2.cell 0; have t1 := HU.out.2.cell 1; have t2 := HU.out.2.cell 2; clear hR2 hg2))
      have a1 := OwnT.alloc HU.out.1.own (.cells #[.int .i64 k, .string (B s), .int .i64 (i : Int)] 35)
      have a2 := HU.out.1.blk.alloc (.cells #[.int .i64 k, .string (B s), .int .i64 (i : Int)] 35)
      have a3 := Blk.new w2 35 #[.int .i64 k, .string (B s), .int .i64 (i : Int)]
      replace a1 := hide a1
      replace a2 := hide a2
      replace a3 := hide a3
      have L0 := HU.out.1.lt
      have L1 := hide HU.out.1.lt
      have hbb := hide ((((Below.refl b w).alloc (Nat.le_of_lt hlt) (.cells #[.int .i64 k, .string (B s), .int .i64 (i : Int)] 35)).trans (hb1.mono (by simp; omega))).trans hb2)
      clear hb1 hb2
      go_region_law (refine step_append_lies _ rfl (.tmp 39) (.tmp 41) 23 rfl (b + 1) 35 i0 (.agg #[.int .i64 0, .string ⟨#[]⟩, .int .i64 0]) 3 32 Tryz.underlying23 hi0 hz0 hz1 hz2 rfl (by decide) v acc.length (tokVals acc) (by simp [Act.eval, Act.put]) (by exact OwnT.drew a1.out) ⟨w2.heap.size, 0, none⟩ 1 1 [.int .i64 k, .string (B s), .int .i64 (i : Int)] (by simp [Act.eval, Act.put]) rfl (World.news_of_block (by exact a3.out)) (by simp [Value.oneCell']) (by omega) (by unfold maxLen; omega) (by omega) (by have := L1.out; simp; omega) (w2.heap.size + 1) (by simp) ?_; intro g cap w4 ho4 hg4 hd4 hs4; have q0 := add_blk a2.out hg4 a1.out; have q1 : w4.cell? ⟨b, 2, none⟩ = some v := q0.cell 2; have q2 := q0.frozen; have q11 : w4.cell? ⟨b, 1, none⟩ = some (.int .i64 (i : Int)) := q0.cell 1; have q13 : w4.cell? ⟨b, 3, none⟩ = some (.int .i64 tx) := q0.cell 3; have Q0 := hide q0; clear q0)
      all_goals
        go_wp2
        go_end0
        have hA1 := hA.out
        rw [if_pos (by simp [hr0])] at hA1
        injection hA1 with e1 e2
        subst e1 e2
        exact ⟨rfl, add_end HU.out.1 hbb.out ho4 hg4⟩
    · have he1 : (e == 0) = false := by simpa using he
      go_enter Tryz.func70, Tryz.ntmps70
      go_wp2_with (go_at_call 17; refine (hc.out _).mono ?_; rintro e w1 ⟨rfl, hb1⟩; have HT := hide (W1.out w1 hb1); have g1 := HT.out.1.c1; have g2 := HT.out.1.c2; have g4 := HT.out.1.c4; have t0 := HT.out.2.cell 0; have t1 := HT.out.2.cell 1; have t2 := HT.out.2.cell 2)
      have a1 := OwnT.alloc HT.out.1.own (.cells #[.int .i64 k, .string (B s), .int .i64 (i : Int)] 35)
      have a2 := HT.out.1.blk.alloc (.cells #[.int .i64 k, .string (B s), .int .i64 (i : Int)] 35)
      have a3 := Blk.new w1 35 #[.int .i64 k, .string (B s), .int .i64 (i : Int)]
      replace a1 := hide a1
      replace a2 := hide a2
      replace a3 := hide a3
      have L0 := HT.out.1.lt
      have L1 := hide HT.out.1.lt
      have hbb := hide (((Below.refl b w).alloc (Nat.le_of_lt hlt) (.cells #[.int .i64 k, .string (B s), .int .i64 (i : Int)] 35)).trans (hb1.mono (by simp; omega)))
      clear hb1
      go_region_law (refine step_append_lies _ rfl (.tmp 39) (.tmp 41) 23 rfl (b + 1) 35 i0 (.agg #[.int .i64 0, .string ⟨#[]⟩, .int .i64 0]) 3 32 Tryz.underlying23 hi0 hz0 hz1 hz2 rfl (by decide) v acc.length (tokVals acc) (by simp [Act.eval, Act.put]) (by exact OwnT.drew a1.out) ⟨w1.heap.size, 0, none⟩ 1 1 [.int .i64 k, .string (B s), .int .i64 (i : Int)] (by simp [Act.eval, Act.put]) rfl (World.news_of_block (by exact a3.out)) (by simp [Value.oneCell']) (by omega) (by unfold maxLen; omega) (by omega) (by have := L1.out; simp; omega) (w1.heap.size + 1) (by simp) ?_; intro g cap w4 ho4 hg4 hd4 hs4; have q0 := add_blk a2.out hg4 a1.out; have q1 : w4.cell? ⟨b, 2, none⟩ = some v := q0.cell 2; have q2 := q0.frozen; have q11 : w4.cell? ⟨b, 1, none⟩ = some (.int .i64 (i : Int)) := q0.cell 1; have q13 : w4.cell? ⟨b, 3, none⟩ = some (.int .i64 tx) := q0.cell 3; have Q0 := hide q0; clear q0)
      all_goals
        go_wp2
        go_end0
        have hA1 := hA.out
        rw [if_neg (by rintro ⟨h, _⟩; exact he h)] at hA1
        injection hA1 with e1 e2
        subst e1 e2
        exact ⟨rfl, add_end HT.out.1 hbb.out ho4 hg4⟩
end
end Go.Proofs.YtgeonilideojnaaGreatDoor.Rs
end
section
namespace Go.Proofs.YtgeonilideojnaaGreatDoor.Rs
open Go Go.RowKit Tk Go.Proofs.YtgeonilideojnaaGreatDoor.Pr Go.Proofs.YtgeonilideojnaaGreatDoorW.PrintWords Go.Proofs.YtgeonilideojnaaGreatDoor.Rf
set_option linter.unusedVariables false
set_option linter.unusedSimpArgs false
theorem rword_calls (c : UInt8) (w : World) : Calls Tryz.prog 40 #[.int .u8 (c.toNat : Int)] w fun r w' => r = .returned (.bool (letter c)) ∧ ∃ n, w' = w.drewN n := (cinnabarref01_word.calls _ _ _ (word_f c)).mono fun e w' h => ⟨h.1, h.2.out⟩
theorem rdigit_calls (c : UInt8) (w : World) : Calls Tryz.prog 41 #[.int .u8 (c.toNat : Int)] w fun r w' => r = .returned (.bool (digit c)) ∧ ∃ n, w' = w.drewN n := (cinnabarref01_digit.calls _ _ _ (digit_f c)).mono fun e w' h => ⟨h.1, h.2.out⟩
theorem rsmall_calls (c : UInt8) (w : World) : Calls Tryz.prog 67 #[.int .u8 (c.toNat : Int)] w fun r w' => r = .returned (.bool (small c)) ∧ ∃ n, w' = w.drewN n := (cinnabarref01_small.calls _ _ _ (small_f c)).mono fun e w' h => ⟨h.1, h.2.out⟩
theorem rcapital_calls (c : UInt8) (w : World) : Calls Tryz.prog 39 #[.int .u8 (c.toNat : Int)] w fun r w' => r = .returned (.bool (capital c)) ∧ ∃ n, w' = w.drewN n := (cinnabarref01_capital.calls _ _ _ (capital_f c)).mono fun e w' h => ⟨h.1, h.2.out⟩
theorem rByte_calls (c : UInt8) (w : World) : Calls Tryz.prog 62 #[.int .u8 (c.toNat : Int)] w fun r w' => r = .returned (.bool (permitted c)) ∧ ∃ n, w' = w.drewN n := (cinnabarref01_Byte.calls _ _ _ (Byte_f c)).mono fun e w' h => ⟨h.1, h.2.out⟩
theorem rsign_calls (c : UInt8) (w : World) : Calls Tryz.prog 73 #[.int .u8 (c.toNat : Int)] w fun r w' => r = .returned (.bool (sign c)) ∧ ∃ n, w' = w.drewN n := by
  obtain ⟨k, hk⟩ := (sign_f c).rounds
  exact (cinnabarref01_sign.calls k _ _ _ hk).mono fun e w' h => ⟨h.1, h.2.out⟩
theorem rhas_calls (l : Bs) (c : UInt8) (w : World) (hl : l.length ≤ 1000000) : Calls Tryz.prog 38 #[.string (B l), .int .u8 (c.toNat : Int)] w fun r w' => r = .returned (.bool (l.contains c)) ∧ ∃ n, w' = w.drewN n := by
  obtain ⟨k, hk⟩ := (has_f l c hl).rounds
  exact (cinnabarref01_has.calls k _ _ _ _ hk).mono fun e w' h => ⟨h.1, h.2.out⟩
section
set_option maxHeartbeats 1000000
set_option maxRecDepth 100000
theorem rrun_calls (b : Nat) (l : Bs) (i : Nat) (w : World) (hs : l.length ≤ 65536) (hi : i ≤ l.length + 1) (h0 : w.cell? ⟨b, 0, none⟩ = some (.string (B l))) :
    Calls Tryz.prog 69 #[.pointer (some ⟨b, 0, none⟩), .int .i64 (i : Int)] w fun r w' => r = .returned (.int .i64 ((i + spanLen letter (l.drop i) : Nat) : Int)) ∧ ∃ n, w' = w.drewN n := by
  have hz := size_B l
  go_enter Tryz.func69, Tryz.ntmps69
  go_wp2
  go_loopw [1] (fun x wr => ∃ j : Nat, x = .int .i64 (j : Int) ∧ i ≤ j ∧ j ≤ l.length + 1 ∧ spanLen letter (l.drop i) = (j - i) + spanLen letter (l.drop j) ∧ ∃ n, wr = w.drewN n) (fun x wr => l.length + 1 - (intOf x).toNat)
  case atStart => exact ⟨i, rfl, Nat.le_refl _, hi, by omega, 0, rfl⟩
  case round =>
    obtain ⟨j, rfl, hij, hjl, hsp, n, rfl⟩ := hrel
    have Hsp := hide hsp
    clear hsp
    cases hd : l.drop j with
    | nil =>
      have hn := drop_nil hd
      have hp := pk_nil hd
      have Hd := hide hd
      have hlet : letter (pk l j) = false := by rw [hp]; decide
      clear hd hp
      go_wp2_with (first | (go_at_call 65; refine (rat_calls b l j _ hs (by omega) (by exact h0)).mono ?_; rintro e w1 ⟨rfl, rfl⟩) | (go_at_call 40; refine (rword_calls _ _).mono ?_; rintro e w1 ⟨rfl, ⟨n1, rfl⟩⟩))
      go_ret
      have he := span_end Hd.out Hsp.out hij
      rw [he]
      exact ⟨rfl, _, rfl⟩
    | cons c t =>
      have hp := pk_cons hd
      obtain ⟨hl, -, -⟩ := drop_at hd
      have Hd := hide hd
      clear hd
      cases hc : letter c with
      | true =>
        have hlet : letter (pk l j) = true := by rw [hp, hc]
        clear hp
        go_wp2_with (first | (go_at_call 65; refine (rat_calls b l j _ hs (by omega) (by exact h0)).mono ?_; rintro e w1 ⟨rfl, rfl⟩) | (go_at_call 40; refine (rword_calls _ _).mono ?_; rintro e w1 ⟨rfl, ⟨n1, rfl⟩⟩))
        go_roundw
        case rel => exact ⟨j + 1, by go_num, by omega, by omega, span_step Hd.out hc Hsp.out hij, _, rfl⟩
        case measure => simp [intOf]; omega
      | false =>
        have hlet : letter (pk l j) = false := by rw [hp, hc]
        clear hp
        go_wp2_with (first | (go_at_call 65; refine (rat_calls b l j _ hs (by omega) (by exact h0)).mono ?_; rintro e w1 ⟨rfl, rfl⟩) | (go_at_call 40; refine (rword_calls _ _).mono ?_; rintro e w1 ⟨rfl, ⟨n1, rfl⟩⟩))
        go_ret
        have he := span_stop Hd.out hc Hsp.out hij
        rw [he]
        exact ⟨rfl, _, rfl⟩
def calledR (acc : List Tok) (tx i : Int) : Bool := match acc.getLast? with
  | none => false
  | some p => (p.kind == 1 || p.kind == 2) && tx == i
theorem rcalled_calls (b : Nat) (l : Bs) (i : Int) (v : Value) (acc : List Tok) (tx e bad : Int) (w : World) (ha : acc.length ≤ 65536) (h : Rs w b l i v acc tx e bad) :
    Calls Tryz.prog 75 #[.pointer (some ⟨b, 0, none⟩)] w fun r w' => r = .returned (.bool (calledR acc tx i)) ∧ ∃ n, w' = w.drewN n := by
  have h1 := h.c1
  have h2 := h.c2
  have h3 := h.c3
  rcases List.eq_nil_or_concat acc with rfl | ⟨az, p, hp⟩
  · obtain ⟨rfl, -⟩ | ⟨g, cap, rfl, -, -⟩ := h.own.cases
    · clear h
      go_enter Tryz.func75, Tryz.ntmps75
      go_wp2
      go_ret
      exact ⟨rfl, 0, rfl⟩
    · clear h
      go_enter Tryz.func75, Tryz.ntmps75
      go_wp2
      go_ret
      exact ⟨rfl, 0, rfl⟩
  · obtain rfl : acc = az ++ [p] := by simpa using hp
    obtain ⟨g, cap, rfl, -, hc⟩ := h.own.some_cells
    have d3 := hc _ _ (tokVals_kind az p)
    have hR : calledR (az ++ [p]) tx i = ((p.kind == 1 || p.kind == 2) && tx == i) := by unfold calledR; rw [List.getLast?_concat]
    have hR := hide hR
    have hl : az.length ≤ 65536 := by simp at ha; omega
    clear hc h hp ha
    cases k1 : (p.kind == 1) with
    | true =>
      have k1' : (p.kind != 1) = false := by simpa [bne] using k1
      go_enter Tryz.func75, Tryz.ntmps75
      go_wp2
      go_quiet (fail)
      go_wp2
      go_ret
      exact ⟨ret_bool (by rw [hR.out, k1]; rfl), _, rfl⟩
    | false =>
      have k1' : (p.kind != 1) = true := by simp [bne, k1]
      cases k2 : (p.kind == 2) with
      | true =>
        have k2' : (p.kind != 2) = false := by simpa [bne] using k2
        go_enter Tryz.func75, Tryz.ntmps75
        go_wp2
        go_quiet (fail)
        go_wp2
        go_ret
        exact ⟨ret_bool (by rw [hR.out, k1, k2]; rfl), _, rfl⟩
      | false =>
        have k2' : (p.kind != 2) = true := by simp [bne, k2]
        go_enter Tryz.func75, Tryz.ntmps75
        go_wp2
        go_ret
        exact ⟨ret_bool (by rw [hR.out, k1, k2]; rfl), 0, rfl⟩
inductive NR where
  | ok (i : Nat) (acc : List Tok) (tx : Nat)
  | bad (a e : Nat)
def RsPost (w : World) (b : Nat) (l : Bs) : NR → Ending → World → Prop
  | .ok i acc tx, r, w' => r = .returned (.tuple #[]) ∧ (∃ v, Rs w' b l i v acc tx 0 0) ∧ Below b w w'
  | .bad a e, r, w' => r = .returned (.tuple #[]) ∧ (∃ i v acc tx, Rs w' b l i v acc tx e a) ∧ Below b w w'
def clineR : Nat → Bs → Tk.R Unit
  | k, [] => .ok () k
  | k, c :: t => if !permitted c then .bad k 2 else if c = 10 then .ok () k else clineR (k + 1) t
def cblockR (f : Nat) : Nat → UInt8 → Bs → Tk.R Unit
  | k, p, [] => .bad f 12
  | k, p, c :: t => if !permitted c then .bad k 2 else if c = 47 ∧ p = 42 then .ok () (k + 1) else cblockR f (k + 1) c t
def toNR (acc : List Tok) (tx : Nat) : Tk.R Unit → NR
  | .ok _ j => .ok j acc tx
  | .bad a e => .bad a e
theorem below_drewN (b : Nat) (w : World) (n : Nat) : Below b w (w.drewN n) := by
  exact pw_below_drewN (Below.refl b w) n
theorem rline_calls (b : Nat) (l : Bs) (i : Nat) (v : Value) (acc : List Tok) (tx : Nat) (w : World) (t : Bs) (hs : l.length ≤ 65536) (hd : l.drop i = 37 :: t) (h : Rs w b l i v acc tx 0 0) :
    Calls Tryz.prog 66 #[.pointer (some ⟨b, 0, none⟩)] w (RsPost w b l (toNR acc tx (clineR (i + 1) (l.drop (i + 1))))) := by
  have hz := size_B l
  have h0 := h.c0
  have h1 := h.c1
  have f1 := h.fr 1
  have hb := B_get hd
  obtain ⟨hl, -, ht⟩ := drop_at hd
  have H := hide h
  clear h hd
  go_enter Tryz.func66, Tryz.ntmps66
  go_wp2
  go_quiet (fail)
  go_wp2
  go_loopw [3] (fun x wr => ∃ j : Nat, x = .int .i64 (j : Int) ∧ i + 1 ≤ j ∧ j ≤ l.length ∧ clineR (i + 1) (l.drop (i + 1)) = clineR j (l.drop j) ∧ ∃ n, wr = w.drewN n) (fun x wr => l.length - (intOf x).toNat)
  case atStart => exact ⟨i + 1, by go_num, Nat.le_refl _, by omega, rfl, _, rfl⟩
  case round =>
    obtain ⟨j, rfl, hij, hjl, hq, n, rfl⟩ := hrel
    have Hq := hide hq
    clear hq
    have HN : ∀ m, Rs (w.drewN m) b l i v acc tx 0 0 ∧ Below b w (w.drewN m) := fun m => ⟨H.out.drewN m, below_drewN b w m⟩
    have HN := hide HN
    cases hd : l.drop j with
    | nil =>
      have hn := drop_nil hd
      have hR := hide (show clineR (i + 1) (l.drop (i + 1)) = .ok () j by rw [Hq.out, hd]; rfl)
      clear hd
      have hjn := hide (show j = l.length by omega)
      go_wp2
      go_end0
      rw [hR.out, hjn.out]
      exact ⟨rfl, ⟨v, (HN.out _).1.set 1 _ (i' := (l.length : Int)) (tx' := tx) (e' := 0) (bad' := 0) rfl⟩, below_set' (HN.out _).2 _⟩
    | cons c t =>
      have hb1 := B_get hd
      obtain ⟨hl1, -, -⟩ := drop_at hd
      have hlt : decide (j < l.length) = true := by simp; omega
      cases hp : permitted c with
      | false =>
        have hR := hide (show clineR (i + 1) (l.drop (i + 1)) = .bad j 2 by rw [Hq.out, hd]; simp [clineR, hp])
        clear hd
        go_wp2_with (first | (go_at_call 62; refine (rByte_calls c _).mono ?_; rintro e w1 ⟨rfl, ⟨n1, rfl⟩⟩) | (go_at_call 63; refine (rfail_calls b l i v acc tx 0 2 j _ (by exact (HN.out _).1)).mono ?_; rintro e w2 ⟨rfl, hR2, hb2, -⟩; have HB2 := hide (((HN.out _).2).trans hb2); have HR2 := hide hR2; clear hR2 hb2))
        refine bodyPost_ret (results_none rfl _ _ _) rfl ?_
        rw [hR.out]
        exact ⟨rfl, ⟨_, _, _, _, HR2.out⟩, HB2.out⟩
      | true =>
        by_cases h10 : c = 10
        · have hR := hide (show clineR (i + 1) (l.drop (i + 1)) = .ok () j by rw [Hq.out, hd, clineR, if_neg (by simp [hp]), if_pos h10])
          have e10 := is_yes (n := 10) (d := 10) rfl h10
          clear hd h10
          go_wp2_with (go_at_call 62; refine (rByte_calls c _).mono ?_; rintro e w1 ⟨rfl, ⟨n1, rfl⟩⟩)
          refine bodyPost_ret (results_none rfl _ _ _) rfl ?_
          rw [hR.out]
          exact ⟨rfl, ⟨v, (HN.out _).1.set 1 _ (i' := (j : Int)) (tx' := tx) (e' := 0) (bad' := 0) rfl⟩, below_set' (HN.out _).2 _⟩
        · have hR := hide (show clineR (i + 1) (l.drop (i + 1)) = clineR (j + 1) (l.drop (j + 1)) by rw [Hq.out, hd, (drop_at hd).2.2]; simp [clineR, hp, h10])
          have e10 := is_no (n := 10) (d := 10) rfl h10
          clear hd h10
          go_wp2_with (go_at_call 62; refine (rByte_calls c _).mono ?_; rintro e w1 ⟨rfl, ⟨n1, rfl⟩⟩)
          go_roundw
          case rel => exact ⟨j + 1, by go_num, by omega, by omega, hR.out, _, rfl⟩
          case measure => simp [intOf]; omega
set_option maxHeartbeats 4000000
theorem wrap_pred' (j : Nat) (h1 : 1 ≤ j) (h : j ≤ 100000) : IntKind.i64.wrap ((j : Int) - 1) = (j : Int) - 1 := by rw [IntKind.wrap_i64]; omega
theorem rblock_calls (b : Nat) (l : Bs) (i : Nat) (v : Value) (acc : List Tok) (tx : Nat) (w : World) (t : Bs) (hs : l.length ≤ 65536) (hd : l.drop i = 47 :: 42 :: t) (h : Rs w b l i v acc tx 0 0) :
    Calls Tryz.prog 66 #[.pointer (some ⟨b, 0, none⟩)] w (RsPost w b l (toNR acc tx (cblockR i (i + 2) 0 (l.drop (i + 2))))) := by
  have hz := size_B l
  have h0 := h.c0
  have h1 := h.c1
  have f1 := h.fr 1
  have hb := B_get hd
  obtain ⟨hl, -, ht⟩ := drop_at hd
  obtain ⟨hl1, -, ht2⟩ := drop_at ht
  have hb42 := B_get ht
  have H := hide h
  clear h hd
  have HT := hide ht
  clear ht ht2
  go_enter Tryz.func66, Tryz.ntmps66
  go_wp2
  go_quiet (fail)
  go_wp2
  go_loopw [3] (fun x wr => ∃ j : Nat, x = .int .i64 (j : Int) ∧ i + 1 ≤ j ∧ j ≤ l.length ∧ (i + 2 ≤ j → ∃ p : UInt8, cblockR i (i + 2) 0 (l.drop (i + 2)) = cblockR i j p (l.drop j) ∧ (j = i + 2 → p = 0) ∧ (i + 2 < j → ∀ h : j - 1 < (B l).size, (B l)[j - 1]'h = p)) ∧ ∃ n, wr = w.drewN n) (fun x wr => l.length - (intOf x).toNat)
  case atStart => exact ⟨i + 1, by go_num, Nat.le_refl _, by omega, fun h => by omega, _, rfl⟩
  case round =>
    obtain ⟨j, rfl, hij, hjl, hq, n, rfl⟩ := hrel
    have HN : ∀ m, Rs (w.drewN m) b l i v acc tx 0 0 ∧ Below b w (w.drewN m) := fun m => ⟨H.out.drewN m, below_drewN b w m⟩
    have HN := hide HN
    by_cases hj1 : j = i + 1
    · subst hj1
      clear hq hij hjl
      have hp : permitted 42 = true := by decide
      have hb42' : ∀ h : i + 1 < (B l).size, (B l)[i + 1]'h = 42 := hb42
      have ew := wrap_sum i 1 (by omega)
      go_wp2_with (go_at_call 62; refine (rByte_calls 42 _).mono ?_; rintro e w1 ⟨rfl, ⟨n1, rfl⟩⟩)
      go_roundw
      case rel => exact ⟨i + 2, by go_num, by omega, by omega, fun _ => ⟨0, rfl, fun _ => rfl, fun h => by omega⟩, _, rfl⟩
      case measure => simp [intOf]; omega
    · have hij2 : i + 2 ≤ j := by omega
      obtain ⟨p, hq, hp0, hpp⟩ := hq hij2
      have Hq := hide hq
      have Hp0 := hide hp0
      have Hpp := hide hpp
      clear hq hp0 hpp hb hb42
      cases hd : l.drop j with
      | nil =>
        have hn := drop_nil hd
        have hR := hide (show cblockR i (i + 2) 0 (l.drop (i + 2)) = .bad i 12 by rw [Hq.out, hd]; rfl)
        clear hd
        go_wp2_with (go_at_call 63; refine (rfail_calls b l i v acc tx 0 12 i _ (by exact (HN.out _).1)).mono ?_; rintro e w2 ⟨rfl, hR2, hb2, -⟩; have HB2 := hide (((HN.out _).2).trans hb2); have HR2 := hide hR2; have k0 := hR2.c0; have k1 := hR2.c1; have k2 := hR2.fr 1; clear hR2 hb2)
        go_end0
        rw [hR.out]
        exact ⟨rfl, ⟨_, _, _, _, HR2.out.set 1 _ (i' := (l.length : Int)) (tx' := tx) (e' := 12) (bad' := i) rfl⟩, below_set' HB2.out _⟩
      | cons c t =>
        have hb1 := B_get hd
        obtain ⟨hl1, -, -⟩ := drop_at hd
        have hlt : decide (j < l.length) = true := by simp; omega
        cases hp : permitted c with
        | false =>
          have hR := hide (show cblockR i (i + 2) 0 (l.drop (i + 2)) = .bad j 2 by rw [Hq.out, hd]; simp [cblockR, hp])
          clear hd
          go_wp2_with (first | (go_at_call 62; refine (rByte_calls c _).mono ?_; rintro e w1 ⟨rfl, ⟨n1, rfl⟩⟩) | (go_at_call 63; refine (rfail_calls b l i v acc tx 0 2 j _ (by exact (HN.out _).1)).mono ?_; rintro e w2 ⟨rfl, hR2, hb2, -⟩; have HB2 := hide (((HN.out _).2).trans hb2); have HR2 := hide hR2; clear hR2 hb2))
          refine bodyPost_ret (results_none rfl _ _ _) rfl ?_
          rw [hR.out]
          exact ⟨rfl, ⟨_, _, _, _, HR2.out⟩, HB2.out⟩
        | true =>
          have ew := wrap_sum i 2 (by omega)
          have hnext := hide (show ∀ (q : c ≠ 47 ∨ p ≠ 42), cblockR i (i + 2) 0 (l.drop (i + 2)) = cblockR i (j + 1) c (l.drop (j + 1)) from fun q => by
            rw [Hq.out, hd, (drop_at hd).2.2, cblockR, if_neg (by simp [hp]), if_neg (by
              rintro ⟨h1, h2⟩
              rcases q with q | q
              · exact q h1
              · exact q h2)])
          have hstop := hide (show c = 47 ∧ p = 42 → cblockR i (i + 2) 0 (l.drop (i + 2)) = .ok () (j + 1) from fun q => by rw [Hq.out, hd, cblockR, if_neg (by simp [hp]), if_pos q])
          have hget := hide (show ∀ h : (j + 1) - 1 < (B l).size, (B l)[(j + 1) - 1]'h = c from B_get hd)
          clear hd
          by_cases h47 : c = 47
          · have e47 := is_yes (n := 47) (d := 47) rfl h47
            by_cases hj2 : j = i + 2
            · have hp0 := hide (Hp0.out hj2)
              have hlt2 : ¬ i + 2 < j := by omega
              clear hj2 h47
              go_wp2_with (go_at_call 62; refine (rByte_calls c _).mono ?_; rintro e w1 ⟨rfl, ⟨n1, rfl⟩⟩)
              go_roundw
              case rel => exact ⟨j + 1, by go_num, by omega, by omega, fun _ => ⟨c, hnext.out (.inr (by rw [hp0.out]; decide)), fun h => by omega, fun _ => hget.out⟩, _, rfl⟩
              case measure => simp [intOf]; omega
            · have hlt2 : i + 2 < j := by omega
              have hpg := Hpp.out hlt2
              have ep := wrap_pred' j (by omega) (by omega)
              have ep0 : (0 : Int) ≤ (j : Int) - 1 := by omega
              have ep1 : ((j : Int) - 1).toNat = j - 1 := by omega
              by_cases h42 : p = 42
              · have e42 := is_yes (n := 42) (d := 42) rfl h42
                have hR := hide (hstop.out ⟨h47, h42⟩)
                clear h47 h42
                go_wp2_with (go_at_call 62; refine (rByte_calls c _).mono ?_; rintro e w1 ⟨rfl, ⟨n1, rfl⟩⟩)
                refine bodyPost_ret (results_none rfl _ _ _) rfl ?_
                rw [hR.out]
                exact ⟨rfl, ⟨v, (HN.out _).1.set 1 _ (i' := ((j + 1 : Nat) : Int)) (tx' := tx) (e' := 0) (bad' := 0) rfl⟩, below_set' (HN.out _).2 _⟩
              · have e42 := is_no (n := 42) (d := 42) rfl h42
                have hR := hide (hnext.out (.inr h42))
                clear h47 h42
                go_wp2_with (go_at_call 62; refine (rByte_calls c _).mono ?_; rintro e w1 ⟨rfl, ⟨n1, rfl⟩⟩)
                go_roundw
                case rel => exact ⟨j + 1, by go_num, by omega, by omega, fun _ => ⟨c, hR.out, fun h => by omega, fun _ => hget.out⟩, _, rfl⟩
                case measure => simp [intOf]; omega
          · have e47 := is_no (n := 47) (d := 47) rfl h47
            have hR := hide (hnext.out (.inl h47))
            clear h47
            by_cases hj2 : i + 2 < j
            all_goals
              go_wp2_with (go_at_call 62; refine (rByte_calls c _).mono ?_; rintro e w1 ⟨rfl, ⟨n1, rfl⟩⟩)
              go_roundw
              case rel => exact ⟨j + 1, by go_num, by omega, by omega, fun _ => ⟨c, hR.out, fun h => by omega, fun _ => hget.out⟩, _, rfl⟩
              case measure => simp [intOf]; omega
end
end Go.Proofs.YtgeonilideojnaaGreatDoor.Rs
end
