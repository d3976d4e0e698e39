/- A part of a proof over the package's statements: contracts of functions and plain facts, merged by a program of this session's. -/
import Derived.Laws.StructEq
import Derived.Test.YtgeonilideojnaaGreatDoorQG1x1
import Derived.Test.YtgeonilideojnaaGreatDoorQG1x2
import Derived.Test.YtgeonilideojnaaGreatDoorQG1x3
import Derived.Test.YtgeonilideojnaaGreatDoorQG1x4
import Derived.Test.YtgeonilideojnaaGreatDoorQG1x5
import Derived.Test.YtgeonilideojnaaGreatDoorQG1x6
import Derived.Test.YtgeonilideojnaaGreatDoorQG3x1
import Derived.Test.YtgeonilideojnaaGreatDoorQG3x2
import Derived.Test.YtgeonilideojnaaGreatDoorQG3x3
import Derived.Test.YtgeonilideojnaaGreatDoorQG3x4
section
namespace Go.Proofs.YtgeonilideojnaaGreatDoor.Pr
open Go.RowKit Go.Proofs.YtgeonilideojnaaGreatDoorW.PrintWords Go.Proofs.YtgeonilideojnaaGreatDoorW.PrintLast Go.Proofs.YtgeonilideojnaaGreatDoorW.PrintMore
attribute [local go_sem] max2_int min2_int max_two min_two max_three min_three max_four min_four
set_option linter.unusedVariables false
set_option linter.unusedSimpArgs false
def cinnabarref01_Name.l0 : Nat → ByteArray → ByteArray → Int → Option (ByteArray)
  | 0, _, _, _ => none
  | k + 1, x0, x3, x4 => if x4 < (x0.size : Int) then (if 0 ≤ x4 then (if (bt x0 x4) = 39 then (if x3.size + 1 ≤ 9223372036854775807 then (if x4 ≤ (wrap64 (x4 + 1)) then (if (wrap64 (x4 + 1)) ≤ (x0.size : Int) then (if (x3 ++ (⟨#[92]⟩ : ByteArray)).size + (x0.extract (x4 : Int).toNat ((wrap64 (x4 + 1)) : Int).toNat).size ≤ 9223372036854775807 then (cinnabarref01_Name.l0 k x0 ((x3 ++ (⟨#[92]⟩ : ByteArray)) ++ (x0.extract (x4 : Int).toNat ((wrap64 (x4 + 1)) : Int).toNat)) (wrap64 (x4 + 1))) else (none)) else (none)) else (none)) else (none)) else (if (bt x0 x4) = 92 then (if x3.size + 1 ≤ 9223372036854775807 then (if x4 ≤ (wrap64 (x4 + 1)) then (if (wrap64 (x4 + 1)) ≤ (x0.size : Int) then (if (x3 ++ (⟨#[92]⟩ : ByteArray)).size + (x0.extract (x4 : Int).toNat ((wrap64 (x4 + 1)) : Int).toNat).size ≤ 9223372036854775807 then (cinnabarref01_Name.l0 k x0 ((x3 ++ (⟨#[92]⟩ : ByteArray)) ++ (x0.extract (x4 : Int).toNat ((wrap64 (x4 + 1)) : Int).toNat)) (wrap64 (x4 + 1))) else (none)) else (none)) else (none)) else (none)) else (if x4 ≤ (wrap64 (x4 + 1)) then (if (wrap64 (x4 + 1)) ≤ (x0.size : Int) then (if x3.size + (x0.extract (x4 : Int).toNat ((wrap64 (x4 + 1)) : Int).toNat).size ≤ 9223372036854775807 then (cinnabarref01_Name.l0 k x0 (x3 ++ (x0.extract (x4 : Int).toNat ((wrap64 (x4 + 1)) : Int).toNat)) (wrap64 (x4 + 1))) else (none)) else (none)) else (none)))) else (none)) else (if x3.size + 1 ≤ 9223372036854775807 then (some (x3 ++ (⟨#[39]⟩ : ByteArray))) else (none))
def cinnabarref01_Name.f (k : Nat) (a0 : ByteArray) : Option (ByteArray) := (TkRef.plain.f a0).bind fun t157 => (if t157 = true then (some a0) else (cinnabarref01_Name.l0 k a0 (⟨#[39]⟩ : ByteArray) 0))
theorem cinnabarref01_Name.mono_l : ∀ k, (∀ y0 y1 y2, LeO (cinnabarref01_Name.l0 k y0 y1 y2) (cinnabarref01_Name.l0 (k + 1) y0 y1 y2))
  | 0 => fun _ _ _ r h => by simp [cinnabarref01_Name.l0] at h
  | k + 1 => by
    have ih0 := cinnabarref01_Name.mono_l k
    · intro y0 y1 y2
      unfold cinnabarref01_Name.l0
      repeat' first
      | (with_reducible exact ih0 _ _ _)
      | (with_reducible exact LeO.refl _)
      | (with_reducible exact LeO.none _)
      | (with_reducible refine LeO.ite ?_ ?_)
      | (with_reducible refine LeO.bind ?_ (fun _ => ?_))
      | exact ih0 _ _ _
      | exact LeO.none _
      | refine LeO.ite ?_ ?_
      | refine LeO.bind ?_ (fun _ => ?_)
theorem cinnabarref01_Name.mono : ∀ a0 k, LeO (cinnabarref01_Name.f k a0) (cinnabarref01_Name.f (k + 1) a0) := by
  intro a0 k
  have ih0 := cinnabarref01_Name.mono_l k
  unfold cinnabarref01_Name.f
  repeat' first
      | (with_reducible exact ih0 _ _ _)
      | (with_reducible exact LeO.refl _)
      | (with_reducible exact LeO.none _)
      | (with_reducible refine LeO.ite ?_ ?_)
      | (with_reducible refine LeO.bind ?_ (fun _ => ?_))
      | exact ih0 _ _ _
      | exact LeO.none _
      | refine LeO.ite ?_ ?_
      | refine LeO.bind ?_ (fun _ => ?_)
set_option maxHeartbeats 8000000 in
set_option maxRecDepth 100000 in
theorem cinnabarref01_Name.calls (k : Nat) (a0 : ByteArray) (r : ByteArray) (w : World) (h : cinnabarref01_Name.f k a0 = some r) :
    Calls Tryz.prog 19 #[.string a0] w fun e w' => e = .returned (.string r) ∧ Below w.heap.size w w' := by
  have HB := Aside0.mk (Below.refl w.heap.size w)
  have H : ((TkRef.plain.f a0).bind fun t157 => (if t157 = true then (some a0) else (cinnabarref01_Name.l0 k a0 (⟨#[39]⟩ : ByteArray) 0))) = some r := h
  clear h
  replace H := Option.bind_eq_some_iff.mp H
  obtain ⟨t157, A20, H⟩ := H
  replace H : (if t157 = true then (some a0) else (cinnabarref01_Name.l0 k a0 (⟨#[39]⟩ : ByteArray) 0)) = some r := H
  have A2 := Aside0.mk A20
  clear A20
  by_cases c3 : t157 = true
  · subst c3
    have H1 : (some a0) = some r := by rw [if_pos rfl] at H; exact H
    clear H
    have H := H1
    clear H1
    obtain rfl := Option.some.inj H
    go_enter Tryz.func19, Tryz.ntmps19
    go_wp2_with (first | ((with_reducible refine gate_callee (f := 37) rfl ?_); refine goesL_ (some 6) rfl rfl Tryz.func37 (by kernel_rfl) rfl #[.string a0] rfl (by (try simp only [List.map_toArray, List.map_cons, List.map_nil]); first | done | rfl | (simp only [List.length_drop, List.length_take]; rfl)) ?_; (with_reducible refine (TkRef.plain.calls a0 true _ A2.out).mono ?_); rintro e w4 ⟨rfl, hb⟩; refine ⟨_, rfl, ?_⟩; have n0_ := Aside0.mk (below_step (by repeat (first | (with_reducible first | exact HB.out | apply below_alloc | apply pw_below_drewN | apply below_drew1) | exact HB.out)) hb); clear HB; have HB := n0_; clear n0_; (try clear hb); (try clear hb2); (try clear hk); (try clear hi)))
    go_ret
    exact ⟨by first | rfl | (simp [errW_none, errW_some] <;> rfl) | (simp [*, errW_none, errW_some] <;> rfl), by repeat (first | (with_reducible first | exact HB.out | apply below_alloc | apply pw_below_drewN | apply below_drew1) | exact HB.out)⟩
  · replace c3 := Bool.eq_false_iff.mpr c3
    subst c3
    have H1 : (cinnabarref01_Name.l0 k a0 (⟨#[39]⟩ : ByteArray) 0) = some r := by rw [if_neg (show ¬ (false = true) by decide)] at H; exact H
    clear H
    have H := H1
    clear H1
    have H' := Aside0.mk H
    clear H
    go_enter Tryz.func19, Tryz.ntmps19
    go_wp2_with (first | ((with_reducible refine gate_callee (f := 37) rfl ?_); refine goesL_ (some 6) rfl rfl Tryz.func37 (by kernel_rfl) rfl #[.string a0] rfl (by (try simp only [List.map_toArray, List.map_cons, List.map_nil]); first | done | rfl | (simp only [List.length_drop, List.length_take]; rfl)) ?_; (with_reducible refine (TkRef.plain.calls a0 false _ A2.out).mono ?_); rintro e w5 ⟨rfl, hb⟩; refine ⟨_, rfl, ?_⟩; have n0_ := Aside0.mk (below_step (by repeat (first | (with_reducible first | exact HB.out | apply below_alloc | apply pw_below_drewN | apply below_drew1) | exact HB.out)) hb); clear HB; have HB := n0_; clear n0_; (try clear hb); (try clear hb2); (try clear hk); (try clear hi)))
    (try simp only [Go.Act.put, List.setIfInBounds_toArray, List.set_cons_succ, List.set_cons_zero])
    go_loopg [3, 4] k (fun kq v3 v4 w' => ∃ (x3_1 : ByteArray) (x4_1 : Int), v3 = .string x3_1 ∧ v4 = .int .i64 x4_1 ∧ Aside0 (cinnabarref01_Name.l0 kq a0 x3_1 x4_1 = some r) ∧ Aside0 (kq ≤ k) ∧ Aside0 (Below w.heap.size w w'))
    case atStart => exact ⟨((⟨#[39]⟩ : ByteArray)), (0), (by first | rfl | (simp; done) | (simp [*]; done) | (simp [show ∀ l : List UInt8, (l != []) = !l.isEmpty from fun l => by cases l <;> rfl]; done)), (by first | rfl | (simp; done) | (simp [*]; done) | (simp [show ∀ l : List UInt8, (l != []) = !l.isEmpty from fun l => by cases l <;> rfl]; done)), H', ⟨Nat.le_refl _⟩, ⟨by repeat (first | (with_reducible first | exact HB.out | apply below_alloc | apply pw_below_drewN | apply below_drew1) | exact HB.out)⟩⟩
    case round =>
      clear H'
      try clear c1
      try clear p2
      try clear c3
      obtain ⟨x3_1, x4_1, rfl, rfl, HA, HK1, HB⟩ := hrel
      cases gk with
      | zero => exact absurd HA.out (by simp [cinnabarref01_Name.l0])
      | succ k1 =>
        have H := HA.out
        clear HA
        simp only [cinnabarref01_Name.l0] at H
        by_cases c6 : x4_1 < (a0.size : Int)
        · rw [if_pos c6] at H
          have c6b0 : decide (x4_1 < (a0.size : Int)) = true := decide_eq_true c6
          clear c6
          by_cases c7 : 0 ≤ x4_1
          · rw [if_pos c7] at H
            have c7b0 : decide (0 ≤ x4_1) = true := decide_eq_true c7
            clear c7
            by_cases c9 : (bt a0 x4_1) = 39
            · rw [if_pos c9] at H
              have c9b0 : ((bt a0 x4_1) == 39) = true := beq_iff_eq.mpr c9
              have c9b1 : ((bt a0 x4_1) != 39) = false := bne_eq_false_iff_eq.mpr c9
              clear c9
              by_cases c10 : x3_1.size + 1 ≤ 9223372036854775807
              · rw [if_pos c10] at H
                have c10b0 := eq_true c10
                have c10b1 : decide (x3_1.size + 1 ≤ 9223372036854775807) = true := decide_eq_true c10
                try have c10b2 : (9223372036854775807 < x3_1.size + 1) = False := eq_false (Nat.not_lt.2 c10)
                have c11b0 := eq_true (of_decide_eq_true (by first | (with_reducible assumption) | assumption) : 0 ≤ x4_1)
                by_cases c12 : x4_1 ≤ (wrap64 (x4_1 + 1))
                · rw [if_pos c12] at H
                  have c12b0 := eq_true c12
                  have c12b1 : decide (x4_1 ≤ (wrap64 (x4_1 + 1))) = true := decide_eq_true c12
                  by_cases c13 : (wrap64 (x4_1 + 1)) ≤ (a0.size : Int)
                  · rw [if_pos c13] at H
                    have c13b0 := eq_true c13
                    have c13b1 : decide ((wrap64 (x4_1 + 1)) ≤ (a0.size : Int)) = true := decide_eq_true c13
                    by_cases c14 : (x3_1 ++ (⟨#[92]⟩ : ByteArray)).size + (a0.extract (x4_1 : Int).toNat ((wrap64 (x4_1 + 1)) : Int).toNat).size ≤ 9223372036854775807
                    · rw [if_pos c14] at H
                      have c14b0 := eq_true c14
                      have c14b1 : decide ((x3_1 ++ (⟨#[92]⟩ : ByteArray)).size + (a0.extract (x4_1 : Int).toNat ((wrap64 (x4_1 + 1)) : Int).toNat).size ≤ 9223372036854775807) = true := decide_eq_true c14
                      (try (have c14n := c14; simp only [ByteArray.size_append, show (⟨#[92]⟩ : ByteArray).size = 1 from rfl] at c14n; have c14n0 := eq_true c14n; have c14n1 := eq_false (Nat.not_lt.2 c14n)))
                      try have c14b2 : (9223372036854775807 < (x3_1 ++ (⟨#[92]⟩ : ByteArray)).size + (a0.extract (x4_1 : Int).toNat ((wrap64 (x4_1 + 1)) : Int).toNat).size) = False := eq_false (Nat.not_lt.2 c14)
                      have H' := Aside0.mk H
                      clear H
                      have p8 : 0 ≤ (x4_1 : Int) := of_decide_eq_true (by first | (with_reducible assumption) | assumption)
                      have q8 : x4_1 < (a0.size : Int) := of_decide_eq_true (by first | (with_reducible assumption) | assumption)
                      have hx8 := bt_at a0 x4_1
                      replace p8 := eq_true p8
                      replace q8 := eq_true q8
                      go_wp2
                      go_roundg k1
                      case measure => have := HK1.out; omega
                      case rel => exact ⟨((x3_1 ++ (⟨#[92]⟩ : ByteArray)) ++ (a0.extract (x4_1 : Int).toNat ((wrap64 (x4_1 + 1)) : Int).toNat)), (wrap64 (x4_1 + 1)), (by first | rfl | (simp; done) | (simp [*]; done) | (simp [show ∀ l : List UInt8, (l != []) = !l.isEmpty from fun l => by cases l <;> rfl]; done)), (by first | rfl | (simp; done) | (simp [*]; done) | (simp [show ∀ l : List UInt8, (l != []) = !l.isEmpty from fun l => by cases l <;> rfl]; done)), H', ⟨by have := HK1.out; omega⟩, ⟨by repeat (first | (with_reducible first | exact HB.out | apply below_alloc | apply pw_below_drewN | apply below_drew1) | exact HB.out)⟩⟩
                    · rw [if_neg c14] at H
                      exact absurd H (by simp)
                  · rw [if_neg c13] at H
                    exact absurd H (by simp)
                · rw [if_neg c12] at H
                  exact absurd H (by simp)
              · rw [if_neg c10] at H
                exact absurd H (by simp)
            · rw [if_neg c9] at H
              have c9b0 : ((bt a0 x4_1) == 39) = false := beq_eq_false_iff_ne.mpr c9
              have c9b1 : ((bt a0 x4_1) != 39) = true := bne_iff_ne.mpr c9
              by_cases c16 : (bt a0 x4_1) = 92
              · rw [if_pos c16] at H
                have c16b0 : ((bt a0 x4_1) == 92) = true := beq_iff_eq.mpr c16
                have c16b1 : ((bt a0 x4_1) != 92) = false := bne_eq_false_iff_eq.mpr c16
                clear c16
                by_cases c17 : x3_1.size + 1 ≤ 9223372036854775807
                · rw [if_pos c17] at H
                  have c17b0 := eq_true c17
                  have c17b1 : decide (x3_1.size + 1 ≤ 9223372036854775807) = true := decide_eq_true c17
                  try have c17b2 : (9223372036854775807 < x3_1.size + 1) = False := eq_false (Nat.not_lt.2 c17)
                  have c18b0 := eq_true (of_decide_eq_true (by first | (with_reducible assumption) | assumption) : 0 ≤ x4_1)
                  by_cases c19 : x4_1 ≤ (wrap64 (x4_1 + 1))
                  · rw [if_pos c19] at H
                    have c19b0 := eq_true c19
                    have c19b1 : decide (x4_1 ≤ (wrap64 (x4_1 + 1))) = true := decide_eq_true c19
                    by_cases c20 : (wrap64 (x4_1 + 1)) ≤ (a0.size : Int)
                    · rw [if_pos c20] at H
                      have c20b0 := eq_true c20
                      have c20b1 : decide ((wrap64 (x4_1 + 1)) ≤ (a0.size : Int)) = true := decide_eq_true c20
                      by_cases c21 : (x3_1 ++ (⟨#[92]⟩ : ByteArray)).size + (a0.extract (x4_1 : Int).toNat ((wrap64 (x4_1 + 1)) : Int).toNat).size ≤ 9223372036854775807
                      · rw [if_pos c21] at H
                        have c21b0 := eq_true c21
                        have c21b1 : decide ((x3_1 ++ (⟨#[92]⟩ : ByteArray)).size + (a0.extract (x4_1 : Int).toNat ((wrap64 (x4_1 + 1)) : Int).toNat).size ≤ 9223372036854775807) = true := decide_eq_true c21
                        (try (have c21n := c21; simp only [ByteArray.size_append, show (⟨#[92]⟩ : ByteArray).size = 1 from rfl] at c21n; have c21n0 := eq_true c21n; have c21n1 := eq_false (Nat.not_lt.2 c21n)))
                        try have c21b2 : (9223372036854775807 < (x3_1 ++ (⟨#[92]⟩ : ByteArray)).size + (a0.extract (x4_1 : Int).toNat ((wrap64 (x4_1 + 1)) : Int).toNat).size) = False := eq_false (Nat.not_lt.2 c21)
                        have H' := Aside0.mk H
                        clear H
                        have p8 : 0 ≤ (x4_1 : Int) := of_decide_eq_true (by first | (with_reducible assumption) | assumption)
                        have q8 : x4_1 < (a0.size : Int) := of_decide_eq_true (by first | (with_reducible assumption) | assumption)
                        have hx8 := bt_at a0 x4_1
                        replace p8 := eq_true p8
                        replace q8 := eq_true q8
                        have p15 : 0 ≤ (x4_1 : Int) := of_decide_eq_true (by first | (with_reducible assumption) | assumption)
                        have q15 : x4_1 < (a0.size : Int) := of_decide_eq_true (by first | (with_reducible assumption) | assumption)
                        have hx15 := bt_at a0 x4_1
                        replace p15 := eq_true p15
                        replace q15 := eq_true q15
                        go_wp2
                        go_roundg k1
                        case measure => have := HK1.out; omega
                        case rel => exact ⟨((x3_1 ++ (⟨#[92]⟩ : ByteArray)) ++ (a0.extract (x4_1 : Int).toNat ((wrap64 (x4_1 + 1)) : Int).toNat)), (wrap64 (x4_1 + 1)), (by first | rfl | (simp; done) | (simp [*]; done) | (simp [show ∀ l : List UInt8, (l != []) = !l.isEmpty from fun l => by cases l <;> rfl]; done)), (by first | rfl | (simp; done) | (simp [*]; done) | (simp [show ∀ l : List UInt8, (l != []) = !l.isEmpty from fun l => by cases l <;> rfl]; done)), H', ⟨by have := HK1.out; omega⟩, ⟨by repeat (first | (with_reducible first | exact HB.out | apply below_alloc | apply pw_below_drewN | apply below_drew1) | exact HB.out)⟩⟩
                      · rw [if_neg c21] at H
                        exact absurd H (by simp)
                    · rw [if_neg c20] at H
                      exact absurd H (by simp)
                  · rw [if_neg c19] at H
                    exact absurd H (by simp)
                · rw [if_neg c17] at H
                  exact absurd H (by simp)
              · rw [if_neg c16] at H
                have c16b0 : ((bt a0 x4_1) == 92) = false := beq_eq_false_iff_ne.mpr c16
                have c16b1 : ((bt a0 x4_1) != 92) = true := bne_iff_ne.mpr c16
                have c22b0 := eq_true (of_decide_eq_true (by first | (with_reducible assumption) | assumption) : 0 ≤ x4_1)
                by_cases c23 : x4_1 ≤ (wrap64 (x4_1 + 1))
                · rw [if_pos c23] at H
                  have c23b0 := eq_true c23
                  have c23b1 : decide (x4_1 ≤ (wrap64 (x4_1 + 1))) = true := decide_eq_true c23
                  by_cases c24 : (wrap64 (x4_1 + 1)) ≤ (a0.size : Int)
                  · rw [if_pos c24] at H
                    have c24b0 := eq_true c24
                    have c24b1 : decide ((wrap64 (x4_1 + 1)) ≤ (a0.size : Int)) = true := decide_eq_true c24
                    by_cases c25 : x3_1.size + (a0.extract (x4_1 : Int).toNat ((wrap64 (x4_1 + 1)) : Int).toNat).size ≤ 9223372036854775807
                    · rw [if_pos c25] at H
                      have c25b0 := eq_true c25
                      have c25b1 : decide (x3_1.size + (a0.extract (x4_1 : Int).toNat ((wrap64 (x4_1 + 1)) : Int).toNat).size ≤ 9223372036854775807) = true := decide_eq_true c25
                      try have c25b2 : (9223372036854775807 < x3_1.size + (a0.extract (x4_1 : Int).toNat ((wrap64 (x4_1 + 1)) : Int).toNat).size) = False := eq_false (Nat.not_lt.2 c25)
                      have H' := Aside0.mk H
                      clear H
                      have p8 : 0 ≤ (x4_1 : Int) := of_decide_eq_true (by first | (with_reducible assumption) | assumption)
                      have q8 : x4_1 < (a0.size : Int) := of_decide_eq_true (by first | (with_reducible assumption) | assumption)
                      have hx8 := bt_at a0 x4_1
                      replace p8 := eq_true p8
                      replace q8 := eq_true q8
                      have p15 : 0 ≤ (x4_1 : Int) := of_decide_eq_true (by first | (with_reducible assumption) | assumption)
                      have q15 : x4_1 < (a0.size : Int) := of_decide_eq_true (by first | (with_reducible assumption) | assumption)
                      have hx15 := bt_at a0 x4_1
                      replace p15 := eq_true p15
                      replace q15 := eq_true q15
                      go_wp2
                      go_roundg k1
                      case measure => have := HK1.out; omega
                      case rel => exact ⟨(x3_1 ++ (a0.extract (x4_1 : Int).toNat ((wrap64 (x4_1 + 1)) : Int).toNat)), (wrap64 (x4_1 + 1)), (by first | rfl | (simp; done) | (simp [*]; done) | (simp [show ∀ l : List UInt8, (l != []) = !l.isEmpty from fun l => by cases l <;> rfl]; done)), (by first | rfl | (simp; done) | (simp [*]; done) | (simp [show ∀ l : List UInt8, (l != []) = !l.isEmpty from fun l => by cases l <;> rfl]; done)), H', ⟨by have := HK1.out; omega⟩, ⟨by repeat (first | (with_reducible first | exact HB.out | apply below_alloc | apply pw_below_drewN | apply below_drew1) | exact HB.out)⟩⟩
                    · rw [if_neg c25] at H
                      exact absurd H (by simp)
                  · rw [if_neg c24] at H
                    exact absurd H (by simp)
                · rw [if_neg c23] at H
                  exact absurd H (by simp)
          · rw [if_neg c7] at H
            exact absurd H (by simp)
        · rw [if_neg c6] at H
          have c6b0 : decide (x4_1 < (a0.size : Int)) = false := decide_eq_false c6
          clear c6
          by_cases c26 : x3_1.size + 1 ≤ 9223372036854775807
          · rw [if_pos c26] at H
            have c26b0 := eq_true c26
            have c26b1 : decide (x3_1.size + 1 ≤ 9223372036854775807) = true := decide_eq_true c26
            try have c26b2 : (9223372036854775807 < x3_1.size + 1) = False := eq_false (Nat.not_lt.2 c26)
            obtain rfl := Option.some.inj H
            go_wp2
            go_ret
            exact ⟨by first | rfl | (simp [errW_none, errW_some] <;> rfl) | (simp [*, errW_none, errW_some] <;> rfl), by repeat (first | (with_reducible first | exact HB.out | apply below_alloc | apply pw_below_drewN | apply below_drew1) | exact HB.out)⟩
          · rw [if_neg c26] at H
            exact absurd H (by simp)
end Go.Proofs.YtgeonilideojnaaGreatDoor.Pr
end
section
namespace Go.Proofs.YtgeonilideojnaaGreatDoor.Rf
open Go Go.RowKit Tk Go.Proofs.YtgeonilideojnaaGreatDoor.Pr Go.Proofs.YtgeonilideojnaaGreatDoorW.PrintWords
set_option linter.unusedVariables false
set_option linter.unusedSimpArgs false
theorem extract_one {l : Bs} {i : Nat} {c : UInt8} {t : Bs} (h : l.drop i = c :: t) : (B l).extract (i : Int).toNat ((i + 1 : Nat) : Int).toNat = B [c] := by
  simp only [Int.toNat_natCast]
  rw [extract_B]
  unfold cut
  rw [h]
  simp
theorem B_app (a b : Bs) : B a ++ B b = B (a ++ b) := by
  apply ByteArray.ext
  rw [ByteArray.data_append]
  simp [B]
theorem eqN (c d : UInt8) (n : Int) (h : (d.toNat : Int) = n) : ((c.toNat : Int) = n) ↔ c = d := by
  rw [← h]
  exact cast_eq
theorem plain_f (l : Bs) (h : l.length ≤ 65536) : TkRef.plain.f (B l) = some (Tk.plain l) := by
  unfold TkRef.plain.f
  rw [if_pos (by rw [size_B]; exact h)]
  simp [B]
theorem esc39 (c : UInt8) : esc1 [92, 39] c = if c = 39 ∨ c = 92 then [92, c] else [c] := by
  have := u8_all (fun c => decide (esc1 [92, 39] c = if c = 39 ∨ c = 92 then [92, c] else [c])) (by decide +kernel) c
  simpa using this
theorem name_l0 (l : Bs) (hl : l.length ≤ 65536) : ∀ (t : Bs) (i : Nat) (out : Bs), l.drop i = t → out.length + 2 * t.length ≤ 1000000 →
    Ev (fun k => cinnabarref01_Name.l0 k (B l) (B out) (i : Int)) (B (out ++ escapedS [92, 39] t ++ [39]))
  | [], i, out, h, ho => by
    refine Ev.step (f := fun _ => some (B (out ++ [39]))) (fun k => ?_) (by simpa [escapedS] using Ev.now _)
    simp only [cinnabarref01_Name.l0]
    rw [if_neg (nlt_nil h), if_pos (by rw [size_B]; omega), show (⟨#[39]⟩ : ByteArray) = B [39] from rfl, B_app]
  | c :: t, i, out, h, ho => by
    obtain ⟨hi, _, h2⟩ := drop_at h
    have hw := wrap_succ i (by omega)
    have hx := extract_one h
    simp only [List.length_cons] at ho
    have ih := name_l0 l hl t (i + 1) (out ++ esc1 [92, 39] c) h2 (by
      have := esc1_len [92, 39] c
      rw [List.length_append]
      omega)
    rw [escapedS_cons, ← List.append_assoc out]
    refine Ev.step (f := fun k => cinnabarref01_Name.l0 k (B l) (B (out ++ esc1 [92, 39] c)) ((i + 1 : Nat) : Int)) (fun k => ?_) ih
    simp only [cinnabarref01_Name.l0]
    rw [if_pos (lt_cons h), if_pos (nn i), bt_cons h]
    simp only [hw, eqN c 39 39 rfl, eqN c 92 92 rfl, hx, show (⟨#[92]⟩ : ByteArray) = B [92] from rfl, B_app, size_B]
    have h1 : (i : Int) ≤ ((i + 1 : Nat) : Int) := by omega
    have h3 : ((i + 1 : Nat) : Int) ≤ (l.length : Int) := by omega
    rw [esc39]
    by_cases e1 : c = 39
    · simp only [e1, true_or, if_true, List.length_append, List.length_cons, List.length_nil]
      rw [if_pos (by omega), if_pos h1, if_pos h3, if_pos (by omega), List.append_assoc]
      rfl
    · by_cases e2 : c = 92
      · simp only [e2, if_true, List.length_append, List.length_cons, List.length_nil, or_true]
        rw [if_neg (by decide), if_pos (by omega), if_pos h1, if_pos h3, if_pos (by omega), List.append_assoc]
        rfl
      · simp only [e1, e2, if_false, or_self, List.length_append, List.length_cons, List.length_nil]
        rw [if_pos h1, if_pos h3, if_pos (by omega)]
theorem Name_f (l : Bs) (hl : l.length ≤ 65536) : Ev (fun k => cinnabarref01_Name.f k (B l)) (B (nameS l)) := by
  have hn := name_l0 l hl l 0 [39] rfl (by simp; omega)
  refine Ev.congr (f := fun k => if Tk.plain l = true then some (B l) else cinnabarref01_Name.l0 k (B l) (B [39]) 0) (fun k => ?_) ?_
  · unfold cinnabarref01_Name.f
    rw [plain_f l hl]
    rfl
  · unfold nameS
    cases Tk.plain l with
    | true => exact Ev.now _
    | false => simpa using hn
def longRun : Nat → Bs → Bool
  | _, [] => false
  | n, c :: t => if c = 46 then longRun 0 t else decide (40 < n + 1) || longRun (n + 1) t
theorem long_l0 (l : Bs) (hl : l.length ≤ 65536) : ∀ (t : Bs) (i n : Nat), l.drop i = t → n ≤ 40 → Ev (fun k => cinnabarref01_long.l0 k (B l) (n : Int) (i : Int)) (longRun n t)
  | [], i, n, h, hn => Ev.step (f := fun _ => some false) (fun k => by simp only [cinnabarref01_long.l0]; rw [if_neg (nlt_nil h)]) (Ev.now _)
  | c :: t, i, n, h, hn => by
    obtain ⟨hi, _, h2⟩ := drop_at h
    have hw := wrap_succ i (by omega)
    have hwn := wrap_succ n (by omega)
    by_cases e : c = 46
    · have e2 : longRun n (c :: t) = longRun 0 t := by simp [longRun, e]
      rw [e2]
      refine Ev.step (f := fun k => cinnabarref01_long.l0 k (B l) ((0 : Nat) : Int) ((i + 1 : Nat) : Int)) (fun k => ?_) (long_l0 l hl t (i + 1) 0 h2 (by omega))
      simp only [cinnabarref01_long.l0]
      rw [if_pos (lt_cons h), if_pos (nn i), bt_cons h, if_pos ((eqN c 46 46 rfl).2 e), if_neg (by decide), hw]
      rfl
    · by_cases hn2 : 40 < n + 1
      · have e2 : longRun n (c :: t) = true := by simp [longRun, e, hn2]
        rw [e2]
        refine Ev.step (f := fun k => some true) (fun k => ?_) (Ev.now _)
        simp only [cinnabarref01_long.l0]
        rw [if_pos (lt_cons h), if_pos (nn i), bt_cons h, if_neg (fun x => e ((eqN c 46 46 rfl).1 x)), hwn, if_pos (by omega)]
      · have e2 : longRun n (c :: t) = longRun (n + 1) t := by simp [longRun, e, hn2]
        rw [e2]
        refine Ev.step (f := fun k => cinnabarref01_long.l0 k (B l) ((n + 1 : Nat) : Int) ((i + 1 : Nat) : Int)) (fun k => ?_) (long_l0 l hl t (i + 1) (n + 1) h2 (by omega))
        simp only [cinnabarref01_long.l0]
        rw [if_pos (lt_cons h), if_pos (nn i), bt_cons h, if_neg (fun x => e ((eqN c 46 46 rfl).1 x)), hwn, if_neg (by omega), hw]
def longR (l : Bs) : Bool := if Tk.plain l && small (l.headD 0) then longRun 0 l else decide (40 < l.length)
theorem plain_ne {l : Bs} (h : Tk.plain l = true) : l ≠ [] := by
  rintro rfl
  revert h
  decide
theorem long_f (l : Bs) (hl : l.length ≤ 65536) : Ev (fun k => cinnabarref01_long.f k (B l)) (longR l) := by
  have h0 := long_l0 l hl l 0 0 rfl (by omega)
  have hj : ∀ b : Bool, Ev (fun k => cinnabarref01_long.j0 k (B l) b) (if b = true then decide (40 < l.length) else longRun 0 l) := by
    intro b
    refine Ev.step (f := fun k => if b = true then some (decide (((B l).size : Int) > 40)) else cinnabarref01_long.l0 k (B l) 0 0) (fun k => ?_) ?_
    · simp only [cinnabarref01_long.j0]
    · cases b with
      | true =>
        simp only [if_true]
        have : decide (((B l).size : Int) > 40) = decide (40 < l.length) := by
          rw [size_B, Bool.eq_iff_iff]; simp; omega
        rw [this]
        exact Ev.now _
      | false => simpa using h0
  unfold longR
  cases hp : Tk.plain l with
  | false =>
    refine Ev.congr (f := fun k => cinnabarref01_long.j0 k (B l) true) (fun k => ?_) (by simpa using hj true)
    unfold cinnabarref01_long.f
    rw [plain_f l hl, hp]
    rfl
  | true =>
    cases l with
    | nil => exact absurd rfl (plain_ne hp)
    | cons c t =>
      have hb : bt (B (c :: t)) 0 = (c.toNat : Int) := bt_cons (l := c :: t) (i := 0) rfl
      have hq : (0 : Int) < ((B (c :: t)).size : Int) := lt_cons (l := c :: t) (i := 0) rfl
      refine Ev.congr (f := fun k => cinnabarref01_long.j0 k (B (c :: t)) (!small c)) (fun k => ?_) ?_
      · unfold cinnabarref01_long.f
        rw [plain_f _ hl, hp]
        simp only [Option.bind_some, if_true]
        rw [if_pos hq, hb, small_f]
        rfl
      · have := hj (!small c)
        simp only [List.headD_cons, Bool.true_and]
        cases hs : small c <;> rw [hs] at this <;> simpa using this
def greatR : Nat → Bs → Bool
  | _, [] => false
  | n, c :: t => decide ((4611686018427387903 - (c.toNat - 48)) / 10 < n) || greatR (10 * n + (c.toNat - 48)) t
theorem wrap_in (x : Int) (h1 : -9223372036854775808 ≤ x) (h2 : x < 9223372036854775808) : wrap64 x = x := by
  unfold wrap64
  omega
theorem wrap_ten (n d : Nat) (h : 10 * n + d ≤ 4611686018427387903) : wrap64 (wrap64 (10 * (n : Int)) + (d : Int)) = ((10 * n + d : Nat) : Int) := by
  rw [wrap_in (10 * (n : Int)) (by omega) (by omega), wrap_in _ (by omega) (by omega)]
  omega
theorem great_lim (n d : Nat) (h : ¬ (4611686018427387903 - d) / 10 < n) (hd : d ≤ 9) : 10 * n + d ≤ 4611686018427387903 := by omega
theorem great_int (n d : Nat) (hd : d ≤ 9) : ((n : Int) > (4611686018427387903 - (d : Int)) / 10) ↔ (4611686018427387903 - d) / 10 < n := by omega
theorem great_l0 (l : Bs) (hl : l.length ≤ 65536) : ∀ (t : Bs) (i n : Nat), l.drop i = t → n ≤ 4611686018427387903 → t.all digit = true → Ev (fun k => cinnabarref01_great.l0 k (B l) (n : Int) (i : Int)) (greatR n t)
  | [], i, n, h, hn, _ => Ev.step (f := fun _ => some false) (fun k => by simp only [cinnabarref01_great.l0]; rw [if_neg (nlt_nil h)]) (Ev.now _)
  | c :: t, i, n, h, hn, hd => by
    obtain ⟨hi, _, h2⟩ := drop_at h
    have hw := wrap_succ i (by omega)
    simp only [List.all_cons, Bool.and_eq_true] at hd
    obtain ⟨hc, ht⟩ := hd
    have hc2 : 48 ≤ c.toNat ∧ c.toNat ≤ 57 := by simpa [digit] using hc
    have hm : ((c.toNat : Int) - 48) % 256 = ((c.toNat - 48 : Nat) : Int) := by omega
    have hd9 : c.toNat - 48 ≤ 9 := by omega
    have hgi := great_int n (c.toNat - 48) hd9
    generalize hdd : c.toNat - 48 = d at *
    by_cases hg : (4611686018427387903 - d) / 10 < n
    · have e2 : greatR n (c :: t) = true := by simp [greatR, hdd, hg]
      rw [e2]
      refine Ev.step (f := fun k => some true) (fun k => ?_) (Ev.now _)
      simp only [cinnabarref01_great.l0]
      rw [if_pos (lt_cons h), if_pos (nn i), bt_cons h, hm, if_pos (hgi.2 hg)]
    · have e2 : greatR n (c :: t) = greatR (10 * n + d) t := by simp [greatR, hdd, hg]
      have hl2 := great_lim n d hg hd9
      rw [e2]
      refine Ev.step (f := fun k => cinnabarref01_great.l0 k (B l) ((10 * n + d : Nat) : Int) ((i + 1 : Nat) : Int)) (fun k => ?_) (great_l0 l hl t (i + 1) _ h2 hl2 ht)
      simp only [cinnabarref01_great.l0]
      rw [if_pos (lt_cons h), if_pos (nn i), bt_cons h, hm, if_neg (fun x => hg (hgi.1 x)), wrap_ten n d hl2, hw]
theorem great_f (l : Bs) (hl : l.length ≤ 65536) (hd : l.all digit = true) : Ev (fun k => cinnabarref01_great.f k (B l)) (greatR 0 l) := great_l0 l hl l 0 0 rfl (by omega) hd
theorem greatR_val : ∀ (t : Bs) (n : Nat), t.all digit = true → n ≤ 4611686018427387903 → greatR n t = decide (4611686018427387903 < t.foldl (fun n c => n * 10 + (c.toNat - 48)) n)
  | [], n, _, hn => by simp only [greatR, List.foldl_nil]; exact (decide_eq_false (by omega)).symm
  | c :: t, n, hd, hn => by
    simp only [List.all_cons, Bool.and_eq_true] at hd
    obtain ⟨hc, ht⟩ := hd
    have hc2 : 48 ≤ c.toNat ∧ c.toNat ≤ 57 := by simpa [digit] using hc
    have hmono : ∀ (t : Bs) (m : Nat), m ≤ t.foldl (fun n c => n * 10 + (c.toNat - 48)) m := by
      intro t
      induction t with
      | nil => intro m; exact Nat.le_refl _
      | cons d u ih =>
        intro m
        have := ih (m * 10 + (d.toNat - 48))
        simp only [List.foldl_cons]
        omega
    simp only [greatR, List.foldl_cons]
    by_cases hg : (4611686018427387903 - (c.toNat - 48)) / 10 < n
    · have := hmono t (n * 10 + (c.toNat - 48))
      simp only [hg, decide_true, Bool.true_or]
      exact (decide_eq_true (by omega)).symm
    · simp only [hg, decide_false, Bool.false_or]
      rw [Nat.mul_comm 10 n]
      exact greatR_val t _ ht (by omega)
end Go.Proofs.YtgeonilideojnaaGreatDoor.Rf
end
section
namespace Go.Proofs.YtgeonilideojnaaGreatDoor.Rf
open Go Go.RowKit Tk Go.Proofs.YtgeonilideojnaaGreatDoor.Pr Go.Proofs.YtgeonilideojnaaGreatDoorW.PrintWords
set_option linter.unusedVariables false
set_option linter.unusedSimpArgs false
def endR (ok : Bool) (kd : Int) (l : Bs) : Nat := if !ok then 2 else if (kd == 1 || kd == 2) && longR l then 6 else if kd == 3 && greatR 0 l then 5 else 0
theorem j4_f (l : Bs) (b : Bool) (kd at_ : Int) (hl : l.length ≤ 65536) (hd : kd = 3 → l.all digit = true) :
    Ev (fun k => cinnabarref01_Check.j4 k (B l) b kd (B l) at_) ((if b then 6 else if kd == 3 && greatR 0 l then 5 else 0 : Nat) : Int) := by
  cases b with
  | true => exact Ev.step (f := fun _ => some 6) (fun k => by simp only [cinnabarref01_Check.j4]; rfl) (Ev.now _)
  | false =>
    by_cases h3 : kd = 3
    · have hg := great_f l hl (hd h3)
      refine Ev.step (f := fun k => (cinnabarref01_great.f k (B l)).bind fun t => if t = true then some 5 else some 0) (fun k => ?_) (Ev.bind (f := fun _ t => if t = true then some 5 else some 0) hg ?_)
      · simp only [cinnabarref01_Check.j4]
        rw [if_neg (by decide), if_pos h3]
      · cases hgr : greatR 0 l <;> simp [h3] <;> exact Ev.now _
    · refine Ev.step (f := fun _ => some 0) (fun k => ?_) (by simpa [h3] using Ev.now _)
      simp only [cinnabarref01_Check.j4]
      rw [if_neg (by decide), if_neg h3]
theorem j3_f (l : Bs) (ok : Bool) (kd at_ : Int) (hl : l.length ≤ 65536) (hd : ok = true → kd = 3 → l.all digit = true) :
    Ev (fun k => cinnabarref01_Check.j3 k (B l) ok kd (B l) at_) (endR ok kd l : Int) := by
  cases ok with
  | false => exact Ev.step (f := fun _ => some 2) (fun k => by simp only [cinnabarref01_Check.j3]; rfl) (Ev.now _)
  | true =>
    have h4 := fun b => j4_f l b kd at_ hl (hd rfl)
    by_cases h1 : kd = 1
    · have e : (endR true kd l : Int) = ((if longR l then 6 else if kd == 3 && greatR 0 l then 5 else 0 : Nat) : Int) := by simp [endR, h1]
      rw [e]
      refine Ev.step (f := fun k => (cinnabarref01_long.f k (B l)).bind fun t => cinnabarref01_Check.j4 k (B l) t kd (B l) at_) (fun k => ?_) (Ev.bind (f := fun k t => cinnabarref01_Check.j4 k (B l) t kd (B l) at_) (long_f l hl) (h4 _))
      simp only [cinnabarref01_Check.j3, if_true]
      rw [if_pos h1]
    · by_cases h2 : kd = 2
      · have e : (endR true kd l : Int) = ((if longR l then 6 else if kd == 3 && greatR 0 l then 5 else 0 : Nat) : Int) := by simp [endR, h2]
        rw [e]
        refine Ev.step (f := fun k => (cinnabarref01_long.f k (B l)).bind fun t => cinnabarref01_Check.j4 k (B l) t kd (B l) at_) (fun k => ?_) (Ev.bind (f := fun k t => cinnabarref01_Check.j4 k (B l) t kd (B l) at_) (long_f l hl) (h4 _))
        simp only [cinnabarref01_Check.j3, if_true]
        rw [if_neg h1, if_pos h2]
      · have e : (endR true kd l : Int) = ((if false then 6 else if kd == 3 && greatR 0 l then 5 else 0 : Nat) : Int) := by simp [endR, h1, h2]
        rw [e]
        refine Ev.step (f := fun k => cinnabarref01_Check.j4 k (B l) false kd (B l) at_) (fun k => ?_) (h4 false)
        simp only [cinnabarref01_Check.j3, if_true]
        rw [if_neg h1, if_neg h2]
theorem word_l0 (l : Bs) (kd at_ : Int) (hl : l.length ≤ 65536) (h3 : kd ≠ 3) : ∀ (t : Bs) (i : Nat) (ok : Bool), l.drop i = t → Ev (fun k => cinnabarref01_Check.l0 k (B l) ok (i : Int) kd (B l) at_) (endR (ok && t.all letter) kd l : Int)
  | [], i, ok, h => by
    refine Ev.step (f := fun k => cinnabarref01_Check.j3 k (B l) ok kd (B l) at_) (fun k => ?_) (by simpa using j3_f l ok kd at_ hl (fun _ h => absurd h h3))
    simp only [cinnabarref01_Check.l0]
    rw [if_neg (nlt_nil h)]
  | c :: t, i, ok, h => by
    obtain ⟨hi, _, h2⟩ := drop_at h
    have hw := wrap_succ i (by omega)
    cases ok with
    | false =>
      refine Ev.step (f := fun k => cinnabarref01_Check.l0 k (B l) false ((i + 1 : Nat) : Int) kd (B l) at_) (fun k => ?_) (by simpa using word_l0 l kd at_ hl h3 t (i + 1) false h2)
      simp only [cinnabarref01_Check.l0]
      rw [if_pos (lt_cons h), if_neg (by decide), hw]
    | true =>
      refine Ev.step (f := fun k => cinnabarref01_Check.l0 k (B l) (letter c) ((i + 1 : Nat) : Int) kd (B l) at_) (fun k => ?_) (by simpa using word_l0 l kd at_ hl h3 t (i + 1) (letter c) h2)
      simp only [cinnabarref01_Check.l0, if_true]
      rw [if_pos (lt_cons h), if_pos (nn i), bt_cons h, word_f, hw]
      rfl
theorem digit_l1 (l : Bs) (kd at_ : Int) (hl : l.length ≤ 65536) : ∀ (t : Bs) (i : Nat) (ok : Bool), l.drop i = t → (ok = true → (l.take i).all digit = true) → Ev (fun k => cinnabarref01_Check.l1 k (B l) ok (i : Int) kd (B l) at_) (endR (ok && t.all digit) kd l : Int)
  | [], i, ok, h, hp => by
    refine Ev.step (f := fun k => cinnabarref01_Check.j3 k (B l) ok kd (B l) at_) (fun k => ?_) (by simpa using j3_f l ok kd at_ hl (fun ho _ => by have := hp ho; rwa [List.take_of_length_le (drop_nil h)] at this))
    simp only [cinnabarref01_Check.l1]
    rw [if_neg (nlt_nil h)]
  | c :: t, i, ok, h, hp => by
    obtain ⟨hi, h1, h2⟩ := drop_at h
    have hw := wrap_succ i (by omega)
    cases ok with
    | false =>
      refine Ev.step (f := fun k => cinnabarref01_Check.l1 k (B l) false ((i + 1 : Nat) : Int) kd (B l) at_) (fun k => ?_) (by simpa using digit_l1 l kd at_ hl t (i + 1) false h2 (fun h => by cases h))
      simp only [cinnabarref01_Check.l1]
      rw [if_pos (lt_cons h), if_neg (by decide), hw]
    | true =>
      refine Ev.step (f := fun k => cinnabarref01_Check.l1 k (B l) (digit c) ((i + 1 : Nat) : Int) kd (B l) at_) (fun k => ?_) (by simpa using digit_l1 l kd at_ hl t (i + 1) (digit c) h2 (fun hc => by
        rw [List.take_succ_eq_append_getElem hi, List.all_append, hp rfl, h1]
        simp [hc]))
      simp only [cinnabarref01_Check.l1, if_true]
      rw [if_pos (lt_cons h), if_pos (nn i), bt_cons h, digit_f, hw]
      rfl
theorem run_h1 (n L : Nat) : (decide (40 < n + 1) || (decide (40 < n + 1 + L) && decide (0 < L))) = (decide (40 < n + (L + 1)) && decide (0 < L + 1)) := by
  by_cases h1 : 40 < n + 1 <;> by_cases h2 : 40 < n + 1 + L <;> by_cases h3 : 0 < L <;> by_cases h4 : 40 < n + (L + 1) <;> simp only [h1, h2, h3, h4, decide_true, decide_false, Bool.true_and, Bool.and_true, Bool.false_and, Bool.and_false, Bool.or_true, Bool.true_or, Bool.or_false, Bool.false_or] <;> first | rfl | (simp; done) | (exfalso; omega)
theorem run_h0 (n L : Nat) : (decide (40 < 0 + L) && decide (0 < L)) = decide (40 < L) := by
  by_cases h2 : 40 < L <;> by_cases h3 : 0 < L <;> simp [h2, h3] <;> omega
def big (x : Bs) : Bool := decide (40 < x.length)
theorem run_any (l : Bs) : ∀ (n : Nat) (p : Bs) (ps : List Bs), splitDot l = p :: ps → longRun n l = (ps.any big || (decide (40 < n + p.length) && decide (0 < p.length))) := by
  induction l with
  | nil =>
    intro n p ps h
    simp only [splitDot, List.cons.injEq] at h
    obtain ⟨rfl, rfl⟩ := h
    simp [longRun]
  | cons c t ih =>
    intro n p ps h
    obtain ⟨q, qs, h2⟩ := split_ne t
    by_cases e : c = 46
    · have i0 := ih 0 q qs h2
      simp only [splitDot, e, if_true, h2, List.cons.injEq] at h
      obtain ⟨rfl, rfl⟩ := h
      rw [run_h0 0] at i0
      simp only [longRun, e, if_true, i0, List.any_cons]
      rw [Bool.or_comm]
      simp [big]
    · have i1 := ih (n + 1) q qs h2
      simp only [splitDot, e, if_false, h2, List.cons.injEq] at h
      obtain ⟨rfl, rfl⟩ := h
      simp only [longRun, e, if_false, i1]
      rw [List.length_cons, ← run_h1]
      cases qs.any big <;> simp
theorem run_parts (l : Bs) : longRun 0 l = (splitDot l).any (fun x => decide (40 < x.length)) := by
  obtain ⟨p, ps, h⟩ := split_ne l
  rw [run_any l 0 p ps h, h, run_h0 0, Bool.or_comm]
  rfl
theorem perm_letter (c : UInt8) (h : letter c = true) : (permitted c && (false || decide (32 ≤ c.toNat))) = true := by
  have := u8_all (fun c => !letter c || (permitted c && (false || decide (32 ≤ c.toNat)))) (by decide +kernel) c
  simpa [h] using this
theorem perm_sign (c : UInt8) (h : sign c = true) : (permitted c && (false || decide (32 ≤ c.toNat))) = true := by
  have := u8_all (fun c => !sign c || (permitted c && (false || decide (32 ≤ c.toNat)))) (by decide +kernel) c
  simpa [h] using this
theorem rest_printable : ∀ (n : Nat) (t : Bs), t.length ≤ n → restOk t = true → printable t false = true
  | _, [], _, _ => rfl
  | 0, c :: t, h, _ => by simp at h
  | n + 1, c :: t, h, hr => by
    have hn : t.length ≤ n := by simpa using h
    rw [restOk_cons] at hr
    unfold printable
    rw [List.all_cons]
    by_cases hc : c = 46
    · rw [if_pos hc] at hr
      cases t with
      | nil => exact absurd hr (by decide)
      | cons d u =>
        rw [partsOk_cons] at hr
        simp only [Bool.and_eq_true] at hr
        have h1 := rest_printable n u (by simp at hn; omega) hr.2
        have h2 := perm_letter d (small_letter hr.1)
        unfold printable at h1
        rw [List.all_cons, h1, h2, hc]
        decide
    · rw [if_neg hc] at hr
      simp only [Bool.and_eq_true] at hr
      have h1 := rest_printable n t hn hr.2
      unfold printable at h1
      rw [h1, perm_letter c hr.1]
      rfl
theorem parts_printable (l : Bs) (h : partsOk l = true) : printable l false = true ∧ small (l.headD 0) = true ∧ l ≠ [] := by
  cases l with
  | nil => exact absurd h (by decide)
  | cons c t =>
    rw [partsOk_cons] at h
    simp only [Bool.and_eq_true] at h
    refine ⟨?_, h.1, by simp⟩
    have h1 := rest_printable _ t (Nat.le_refl _) h.2
    unfold printable at h1 ⊢
    rw [List.all_cons, h1, perm_letter c (small_letter h.1)]
    rfl
theorem signs_printable (l : Bs) (h : l.all sign = true) : printable l false = true := by
  unfold printable
  rw [List.all_eq_true] at h ⊢
  intro c hc
  exact perm_sign c (h c hc)
theorem plain_signs (l : Bs) (hp : partsOk l = false) (h : Tk.plain l = true) : printable l false = true ∧ small (l.headD 0) = false := by
  unfold Tk.plain at h
  rw [hp] at h
  simp only [Bool.false_eq_true, if_false] at h
  split at h
  · cases h
  · split at h
    · cases h
    · split at h
      · rename_i h1; subst h1; decide
      · split at h
        · rename_i h1; subst h1; decide
        · simp only [Bool.and_eq_true] at h
          refine ⟨signs_printable l h.2, ?_⟩
          cases l with
          | nil => decide
          | cons c t =>
            have hc := List.all_eq_true.1 h.2 c List.mem_cons_self
            cases hs : small c with
            | true => rw [small_not_sign c hs] at hc; cases hc
            | false => simpa using hs
theorem name_check (l : Bs) : endR (decide (l ≠ []) && printable l false && (Tk.plain l || l == [33, 46] || !l.contains 46)) 1 l = Tk.checkName l := by
  unfold endR Tk.checkName
  cases hp : partsOk l with
  | true =>
    obtain ⟨h1, h2, h3⟩ := parts_printable l hp
    have hpl : Tk.plain l = true := by simp [Tk.plain, hp]
    simp only [h1, h3, hpl, ne_eq, not_false_eq_true, decide_true, Bool.true_or, Bool.and_self, Bool.not_true, Bool.false_eq_true, if_false, if_true, longR, h2, run_parts]
    simp
  | false =>
    simp only [Bool.false_eq_true, if_false]
    by_cases h0 : l = []
    · simp [h0]
    · by_cases h46 : l = [46]
      · subst h46; decide
      · have hlong : longR l = decide (40 < l.length) := by
          unfold longR
          cases hpl : Tk.plain l with
          | true => rw [(plain_signs l hp hpl).2]; simp
          | false => simp
        rw [hlong]
        cases hpl : Tk.plain l with
        | true =>
          have hq := (plain_signs l hp hpl).1
          simp [h0, h46, hq, limitS]
        | false =>
          by_cases hx : l = [33, 46]
          · subst hx; decide
          · have hx2 : (l == [33, 46]) = false := by simpa using hx
            cases hpr : printable l false <;> cases hc : l.contains 46 <;> simp [h0, h46, hx, limitS] <;> simp_all
theorem puncts_check (l : Bs) : (if l = [40, 40] then true else if l.length = 1 then ([40, 41, 91, 93, 123, 125, 44, 124] : Bs).contains (l.headD 0) else false) = puncts.contains l := by
  match l with
  | [] => decide
  | [c] =>
    have := u8_all (fun c => (([40, 41, 91, 93, 123, 125, 44, 124] : Bs).contains c) == puncts.contains [c]) (by decide +kernel) c
    simpa using this
  | a :: b :: t =>
    by_cases h : a :: b :: t = [40, 40]
    · rw [if_pos h, h]; decide
    · rw [if_neg h, if_neg (by simp)]
      symm
      rw [Bool.eq_false_iff]
      intro hc
      simp only [puncts, List.contains_iff_mem, List.mem_cons, List.cons.injEq, List.mem_nil_iff, or_false] at hc
      simp at hc h
      exact h hc.1 hc.2.1 hc.2.2
theorem Check_f (kd at_ : Int) (l : Bs) (hl : l.length ≤ 65536) : Ev (fun k => cinnabarref01_Check.f k kd (B l) at_) (checkS kd l : Int) := by
  have hj := fun ok hd => j3_f l ok kd at_ hl hd
  have ht := toList_B l
  have hsz := size_B l
  unfold cinnabarref01_Check.f checkS
  simp only [ht]
  by_cases h0 : kd = 0
  · simp only [if_pos h0]
    have e : endR (l == []) kd l = form (l == []) := by simp only [endR, form, h0]; cases l == [] <;> simp
    rw [← e]
    exact hj _ (fun _ h => by omega)
  · simp only [if_neg h0]
    by_cases h1 : kd = 1
    · subst h1
      rw [if_neg (by decide)]
      simp only [if_true]
      rw [← name_check l]
      by_cases hn : l = []
      · simp only [if_pos hn]
        have e : (decide (l ≠ []) && printable l false && (Tk.plain l || l == [33, 46] || !l.contains 46)) = false := by simp [hn]
        rw [e]
        exact hj false (fun _ h => by omega)
      · simp only [if_neg hn]
        refine Ev.bind (f := fun k t => if t = true then (TkRef.plain.f (B l)).bind fun t109 => (if t109 = true then (cinnabarref01_Check.j3 k (B l) true 1 (B l) at_) else (if l = ([33, 46] : List UInt8) then (cinnabarref01_Check.j3 k (B l) true 1 (B l) at_) else ((cinnabarref01_has.f k (B l) 46).bind fun t110 => (cinnabarref01_Check.j3 k (B l) (!t110) 1 (B l) at_)))) else cinnabarref01_Check.j3 k (B l) false 1 (B l) at_) (all_f l false (by omega)) ?_
        cases hpr : printable l false with
        | false =>
          simp only [Bool.false_eq_true, if_false, Bool.and_false, Bool.false_and]
          exact hj false (fun _ h => by omega)
        | true =>
          simp only [if_true, plain_f l hl, Option.bind_some]
          cases hpl : Tk.plain l with
          | true =>
            simp only [if_true, Bool.true_or, Bool.and_true, hn, ne_eq, not_false_eq_true, decide_true]
            exact hj true (fun _ h => by omega)
          | false =>
            simp only [Bool.false_eq_true, if_false, Bool.false_or, hn, ne_eq, not_false_eq_true, decide_true, Bool.true_and]
            by_cases hx : l = [33, 46]
            · simp only [if_pos hx]
              have e : (l == [33, 46] || !l.contains 46) = true := by simp [hx]
              rw [e]
              exact hj true (fun _ h => by omega)
            · simp only [if_neg hx]
              have e : (l == [33, 46] || !l.contains 46) = !l.contains 46 := by
                have : (l == [33, 46]) = false := by simpa using hx
                rw [this, Bool.false_or]
              rw [e]
              exact Ev.bind (f := fun k t => cinnabarref01_Check.j3 k (B l) (!t) 1 (B l) at_) (has_f l 46 (by omega)) (hj _ (fun _ h => by omega))
    · simp only [if_neg h1]
      by_cases h2 : kd = 2
      · subst h2
        rw [if_neg (by decide)]
        simp only [if_true]
        have e : endR (word capital l) 2 l = if word capital l = true then limitS l.length else 2 := by
          unfold endR
          cases hw : word capital l with
          | false => rfl
          | true =>
            have hlong : longR l = decide (40 < l.length) := by
              unfold longR
              cases l with
              | nil => rw [show Tk.plain [] = false from by decide]; simp
              | cons c t =>
                have hs : small c = false := by
                  have hc : capital c = true := by
                    simp only [word, Bool.and_eq_true] at hw
                    exact hw.1
                  have := u8_all (fun c => !capital c || !small c) (by decide +kernel) c
                  simpa [hc] using this
                simp [hs]
            simp [hlong, limitS]
        rw [← e]
        have hl0 := fun ok => word_l0 l 2 at_ hl (by decide) l 0 ok rfl
        have hj0 : ∀ ok, Ev (fun k => cinnabarref01_Check.j0 k (B l) ok 2 (B l) at_) (endR (ok && l.all letter) 2 l : Int) := fun ok =>
          Ev.step (f := fun k => cinnabarref01_Check.l0 k (B l) ok 0 2 (B l) at_) (fun k => by simp only [cinnabarref01_Check.j0]) (hl0 ok)
        cases l with
        | nil => simpa [word] using hj0 false
        | cons c t =>
          have hb : bt (B (c :: t)) 0 = (c.toNat : Int) := bt_cons (l := c :: t) (i := 0) rfl
          have hq : (0 : Int) < ((B (c :: t)).size : Int) := lt_cons (l := c :: t) (i := 0) rfl
          have hne : ¬ (c :: t = []) := by simp
          simp only [if_neg hne, if_pos hq, hb, capital_f, Option.bind_some]
          have := hj0 (capital c)
          simpa [word] using this
      · simp only [if_neg h2]
        by_cases h3 : kd = 3
        · subst h3
          rw [if_neg (by decide)]
          simp only [if_true]
          have hd := digit_l1 l 3 at_ hl l 0 (l != []) rfl (fun _ => rfl)
          have e : endR ((l != []) && l.all digit) 3 l = checkInt l := by
            unfold endR checkInt
            by_cases hn : l = []
            · simp [hn]
            · cases hda : l.all digit with
              | false => simp [hn]
              | true =>
                have := greatR_val l 0 hda (by omega)
                simp only [hn, bne_iff_ne, ne_eq, not_false_eq_true]
                rw [show (l != []) = true from by simpa using hn, this]
                simp [decVal]
                rfl
          rw [← e]
          exact hd
        · simp only [if_neg h3]
          by_cases h4 : kd = 4
          · subst h4
            rw [if_neg (by decide)]
            simp only [if_true]
            have e : endR (l.length == 1 && printable l true) 4 l = form (l.length == 1 && printable l true) := by
              unfold endR form
              cases (l.length == 1 && printable l true) <;> simp
            rw [← e]
            by_cases h1l : l.length = 1
            · rw [hsz]
              simp only [if_pos (show (l.length : Int) = 1 by omega), h1l, beq_self_eq_true, Bool.true_and]
              exact Ev.bind (f := fun k t => cinnabarref01_Check.j3 k (B l) t 4 (B l) at_) (all_f l true (by omega)) (hj _ (fun _ h => by omega))
            · rw [hsz]
              simp only [if_neg (show ¬ (l.length : Int) = 1 by omega)]
              rw [show (l.length == 1) = false from by simpa using h1l, Bool.false_and]
              exact hj false (fun _ h => by omega)
          · simp only [if_neg h4]
            by_cases h5 : kd = 5
            · subst h5
              rw [if_neg (by decide)]
              simp only [if_true]
              have e : endR (printable l true) 5 l = form (printable l true) := by
                unfold endR form
                cases (printable l true) <;> simp
              rw [← e]
              exact Ev.bind (f := fun k t => cinnabarref01_Check.j3 k (B l) t 5 (B l) at_) (all_f l true (by omega)) (hj _ (fun _ h => by omega))
            · simp only [if_neg h5]
              by_cases h6 : kd = 6
              · subst h6
                rw [if_neg (by decide)]
                simp only [if_true]
                rw [← puncts_check l]
                have e : ∀ b, endR b 6 l = form b := by
                  intro b
                  unfold endR form
                  cases b <;> simp
                rw [← e]
                by_cases hx : l = [40, 40]
                · simp only [if_pos hx]
                  exact hj true (fun _ h => by omega)
                · simp only [if_neg hx]
                  by_cases h1l : l.length = 1
                  · rw [hsz]
                    simp only [if_pos (show (l.length : Int) = 1 by omega), if_pos (show (0 : Int) < (l.length : Int) by omega), if_pos h1l]
                    cases l with
                    | nil => simp at h1l
                    | cons c t =>
                      have hb : bt (B (c :: t)) 0 = (c.toNat : Int) := bt_cons (l := c :: t) (i := 0) rfl
                      rw [hb]
                      exact Ev.bind (f := fun k t1 => cinnabarref01_Check.j3 k (B (c :: t)) t1 6 (B (c :: t)) at_) (has_f [40, 41, 91, 93, 123, 125, 44, 124] c (by decide)) (hj _ (fun _ h => by omega))
                  · rw [hsz]
                    simp only [if_neg (show ¬ (l.length : Int) = 1 by omega), if_neg h1l]
                    exact hj false (fun _ h => by omega)
              · simp only [if_neg h6]
                by_cases h7 : kd = 7
                · subst h7
                  simp only [if_true]
                  have e : endR (l == [46]) 7 l = form (l == [46]) := by
                    unfold endR form
                    cases (l == [46]) <;> simp
                  rw [← e]
                  exact hj _ (fun _ h => by omega)
                · simp only [if_neg h7]
                  exact Ev.now _
end Go.Proofs.YtgeonilideojnaaGreatDoor.Rf
end
