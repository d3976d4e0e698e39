/- A part of a proof over the package's statements: contracts of functions and plain facts, merged by a program of this session's. -/
import Derived.Laws.StructEq
import Derived.Test.YtgeonilideojnaaGreatDoorQG1x1
import Derived.Test.YtgeonilideojnaaGreatDoorQG1x5
import Derived.Test.YtgeonilideojnaaGreatDoorQG1x6
import Derived.Test.YtgeonilideojnaaGreatDoorQG3x1
import Derived.Test.YtgeonilideojnaaGreatDoorQG3x2
import Derived.Test.YtgeonilideojnaaGreatDoorQG3x3
import Derived.Test.YtgeonilideojnaaGreatDoorQG3x4
import Derived.Test.YtgeonilideojnaaGreatDoorQG3x5
import Derived.Test.YtgeonilideojnaaGreatDoorQG8x1
section
namespace Go.Proofs.YtgeonilideojnaaGreatDoor.Pr
open Go.RowKit Go.Proofs.YtgeonilideojnaaGreatDoorW.PrintWords Go.Proofs.YtgeonilideojnaaGreatDoorW.PrintLast Go.Proofs.YtgeonilideojnaaGreatDoorW.PrintMore
attribute [local go_sem] max2_int min2_int max_two min_two max_three min_three max_four min_four
set_option linter.unusedVariables false
set_option linter.unusedSimpArgs false
mutual
def cinnabarref01_Text.j1 : Nat → List (S35) → Int → Option (ByteArray × Int)
  | 0, _, _ => none
  | k + 1, x0, x4 => cinnabarref01_Text.l1 k x0 x4 0
def cinnabarref01_Text.l1 : Nat → List (S35) → Int → Int → Option (ByteArray × Int)
  | 0, _, _, _ => none
  | k + 1, x0, x4, x5 => if x5 < (x0.length : Int) then (cinnabarref01_Text.j3 k x0 x4 x5 (decide (x5 ≤ x4))) else (cinnabarref01_Text.j3 k x0 x4 x5 false)
def cinnabarref01_Text.j3 : Nat → List (S35) → Int → Int → Bool → Option (ByteArray × Int)
  | 0, _, _, _, _ => none
  | k + 1, x0, x4, x5, x33 => if x33 = true then (if 0 ≤ x5 then (if x5 < (x0.length : Int) then ((cinnabarref01_Check.f k ((rd_T35 x0 x5).f0) ((rd_T35 x0 x5).f1) ((rd_T35 x0 x5).f2)).bind fun t173 => (if t173 = 0 then (cinnabarref01_Text.l1 k x0 x4 (wrap64 (x5 + 1))) else (some ((⟨#[]⟩ : ByteArray), t173)))) else (none)) else (none)) else (cinnabarref01_Text.l2 k x0 x4 (⟨#[]⟩ : ByteArray) 0)
def cinnabarref01_Text.l2 : Nat → List (S35) → Int → ByteArray → Int → Option (ByteArray × Int)
  | 0, _, _, _, _ => none
  | k + 1, x0, x4, x7, x8 => if x8 < x4 then (if 0 ≤ x8 then (if x8 < (x0.length : Int) then (if ((rd_T35 x0 x8).f0) = 6 then (cinnabarref01_Text.j5 k x0 x4 x7 x8 (((rd_T35 x0 x8).f1).toList == ([40, 40] : List UInt8))) else (cinnabarref01_Text.j5 k x0 x4 x7 x8 false)) else (none)) else (none)) else (if (x7.size : Int) > 65536 then (some ((⟨#[]⟩ : ByteArray), 6)) else (some (x7, 0)))
def cinnabarref01_Text.j5 : Nat → List (S35) → Int → ByteArray → Int → Bool → Option (ByteArray × Int)
  | 0, _, _, _, _, _ => none
  | k + 1, x0, x4, x7, x8, x9 => if (wrap64 (x8 + 1)) < x4 then (if 0 ≤ (wrap64 (x8 + 1)) then (if (wrap64 (x8 + 1)) < (x0.length : Int) then (if ((rd_T35 x0 (wrap64 (x8 + 1))).f0) = 2 then (if 0 ≤ x8 then (if x8 < (x0.length : Int) then ((cinnabarref01_stated.f ((rd_T35 x0 x8).f0) ((rd_T35 x0 x8).f1) ((rd_T35 x0 x8).f2)).bind fun t178 => (cinnabarref01_Text.j6 k x0 x4 x7 x8 x9 t178)) else (none)) else (none)) else (cinnabarref01_Text.j6 k x0 x4 x7 x8 x9 false)) else (none)) else (none)) else (cinnabarref01_Text.j6 k x0 x4 x7 x8 x9 false)
def cinnabarref01_Text.j6 : Nat → List (S35) → Int → ByteArray → Int → Bool → Bool → Option (ByteArray × Int)
  | 0, _, _, _, _, _, _ => none
  | k + 1, x0, x4, x7, x8, x9, x10 => if x9 = true then (if x8 = 0 then (cinnabarref01_Text.j7 k x0 x4 x7 x8 x9 x10 true) else (if 0 ≤ (wrap64 (x8 - 1)) then (if (wrap64 (x8 - 1)) < (x0.length : Int) then (if ((rd_T35 x0 (wrap64 (x8 - 1))).f0) = 1 then (if x10 = true then (cinnabarref01_Text.j7 k x0 x4 x7 x8 x9 x10 false) else (if 0 ≤ x8 then (if x8 < (x0.length : Int) then (if ((rd_T35 x0 x8).f0) = 1 then (cinnabarref01_Text.j7 k x0 x4 x7 x8 x9 x10 (((rd_T35 x0 x8).f1).toList == ([33, 46] : List UInt8))) else (cinnabarref01_Text.j7 k x0 x4 x7 x8 x9 x10 false)) else (none)) else (none))) else (if ((rd_T35 x0 (wrap64 (x8 - 1))).f0) = 2 then (if x10 = true then (cinnabarref01_Text.j7 k x0 x4 x7 x8 x9 x10 false) else (if 0 ≤ x8 then (if x8 < (x0.length : Int) then (if ((rd_T35 x0 x8).f0) = 1 then (cinnabarref01_Text.j7 k x0 x4 x7 x8 x9 x10 (((rd_T35 x0 x8).f1).toList == ([33, 46] : List UInt8))) else (cinnabarref01_Text.j7 k x0 x4 x7 x8 x9 x10 false)) else (none)) else (none))) else (cinnabarref01_Text.j7 k x0 x4 x7 x8 x9 x10 true))) else (none)) else (none))) else (if x10 = true then (cinnabarref01_Text.j7 k x0 x4 x7 x8 x9 x10 false) else (if 0 ≤ x8 then (if x8 < (x0.length : Int) then (if ((rd_T35 x0 x8).f0) = 1 then (cinnabarref01_Text.j7 k x0 x4 x7 x8 x9 x10 (((rd_T35 x0 x8).f1).toList == ([33, 46] : List UInt8))) else (cinnabarref01_Text.j7 k x0 x4 x7 x8 x9 x10 false)) else (none)) else (none)))
def cinnabarref01_Text.j7 : Nat → List (S35) → Int → ByteArray → Int → Bool → Bool → Bool → Option (ByteArray × Int)
  | 0, _, _, _, _, _, _, _ => none
  | k + 1, x0, x4, x7, x8, x9, x10, x125 => if x125 = true then (some ((⟨#[]⟩ : ByteArray), 2)) else (if x8 > 0 then (if x9 = true then (cinnabarref01_Text.j8 k x0 x4 x7 x8 x10 false) else (if 0 ≤ (wrap64 (x8 - 1)) then (if (wrap64 (x8 - 1)) < (x0.length : Int) then (if ((rd_T35 x0 (wrap64 (x8 - 1))).f0) = 7 then (cinnabarref01_Text.j8 k x0 x4 x7 x8 x10 false) else (if 0 ≤ x8 then (if x8 < (x0.length : Int) then (if ((rd_T35 x0 x8).f0) = 2 then ((cinnabarref01_stated.f ((rd_T35 x0 (wrap64 (x8 - 1))).f0) ((rd_T35 x0 (wrap64 (x8 - 1))).f1) ((rd_T35 x0 (wrap64 (x8 - 1))).f2)).bind fun t190 => (cinnabarref01_Text.j8 k x0 x4 x7 x8 x10 (!t190))) else (cinnabarref01_Text.j8 k x0 x4 x7 x8 x10 (!false))) else (none)) else (none))) else (none)) else (none))) else (cinnabarref01_Text.j8 k x0 x4 x7 x8 x10 false))
def cinnabarref01_Text.j8 : Nat → List (S35) → Int → ByteArray → Int → Bool → Bool → Option (ByteArray × Int)
  | 0, _, _, _, _, _, _ => none
  | k + 1, x0, x4, x7, x8, x10, x157 => if x157 = true then (if x7.size + 1 ≤ 9223372036854775807 then (cinnabarref01_Text.j9 k x0 x4 (x7 ++ (⟨#[32]⟩ : ByteArray)) x8 x10) else (none)) else (cinnabarref01_Text.j9 k x0 x4 x7 x8 x10)
def cinnabarref01_Text.j9 : Nat → List (S35) → Int → ByteArray → Int → Bool → Option (ByteArray × Int)
  | 0, _, _, _, _, _ => none
  | k + 1, x0, x4, x7, x8, x10 => if x10 = true then (if 0 ≤ x8 then (if x8 < (x0.length : Int) then (if x7.size + ((rd_T35 x0 x8).f1).size ≤ 9223372036854775807 then (if ((rd_T35 x0 x8).f0) = 7 then (if (x7 ++ ((rd_T35 x0 x8).f1)).size + 1 ≤ 9223372036854775807 then (cinnabarref01_Text.l2 k x0 x4 ((x7 ++ ((rd_T35 x0 x8).f1)) ++ (⟨#[10]⟩ : ByteArray)) (wrap64 (x8 + 1))) else (none)) else (cinnabarref01_Text.l2 k x0 x4 (x7 ++ ((rd_T35 x0 x8).f1)) (wrap64 (x8 + 1)))) else (none)) else (none)) else (none)) else (if 0 ≤ x8 then (if x8 < (x0.length : Int) then ((cinnabarref01_Written.f k ((rd_T35 x0 x8).f0) ((rd_T35 x0 x8).f1) ((rd_T35 x0 x8).f2)).bind fun t194 => (if x7.size + t194.size ≤ 9223372036854775807 then (if ((rd_T35 x0 x8).f0) = 7 then (if (x7 ++ t194).size + 1 ≤ 9223372036854775807 then (cinnabarref01_Text.l2 k x0 x4 ((x7 ++ t194) ++ (⟨#[10]⟩ : ByteArray)) (wrap64 (x8 + 1))) else (none)) else (cinnabarref01_Text.l2 k x0 x4 (x7 ++ t194) (wrap64 (x8 + 1)))) else (none))) else (none)) else (none))
def cinnabarref01_Text.l0 : Nat → List (S35) → Int → Option (ByteArray × Int)
  | 0, _, _ => none
  | k + 1, x0, x4 => if x4 < (x0.length : Int) then (if 0 ≤ x4 then (if ((rd_T35 x0 x4).f0) = 0 then (cinnabarref01_Text.j1 k x0 x4) else (cinnabarref01_Text.l0 k x0 (wrap64 (x4 + 1)))) else (none)) else (cinnabarref01_Text.j1 k x0 x4)
end
def cinnabarref01_Text.f (k : Nat) (l0 : List (S35)) : Option (ByteArray × Int) := cinnabarref01_Text.l0 k l0 0
theorem cinnabarref01_Text.mono_l : ∀ k, (∀ y0 y1, LeO (cinnabarref01_Text.j1 k y0 y1) (cinnabarref01_Text.j1 (k + 1) y0 y1)) ∧ (∀ y0 y1 y2, LeO (cinnabarref01_Text.l1 k y0 y1 y2) (cinnabarref01_Text.l1 (k + 1) y0 y1 y2)) ∧ (∀ y0 y1 y2 y3, LeO (cinnabarref01_Text.j3 k y0 y1 y2 y3) (cinnabarref01_Text.j3 (k + 1) y0 y1 y2 y3)) ∧ (∀ y0 y1 y2 y3, LeO (cinnabarref01_Text.l2 k y0 y1 y2 y3) (cinnabarref01_Text.l2 (k + 1) y0 y1 y2 y3)) ∧ (∀ y0 y1 y2 y3 y4, LeO (cinnabarref01_Text.j5 k y0 y1 y2 y3 y4) (cinnabarref01_Text.j5 (k + 1) y0 y1 y2 y3 y4)) ∧ (∀ y0 y1 y2 y3 y4 y5, LeO (cinnabarref01_Text.j6 k y0 y1 y2 y3 y4 y5) (cinnabarref01_Text.j6 (k + 1) y0 y1 y2 y3 y4 y5)) ∧ (∀ y0 y1 y2 y3 y4 y5 y6, LeO (cinnabarref01_Text.j7 k y0 y1 y2 y3 y4 y5 y6) (cinnabarref01_Text.j7 (k + 1) y0 y1 y2 y3 y4 y5 y6)) ∧ (∀ y0 y1 y2 y3 y4 y5, LeO (cinnabarref01_Text.j8 k y0 y1 y2 y3 y4 y5) (cinnabarref01_Text.j8 (k + 1) y0 y1 y2 y3 y4 y5)) ∧ (∀ y0 y1 y2 y3 y4, LeO (cinnabarref01_Text.j9 k y0 y1 y2 y3 y4) (cinnabarref01_Text.j9 (k + 1) y0 y1 y2 y3 y4)) ∧ (∀ y0 y1, LeO (cinnabarref01_Text.l0 k y0 y1) (cinnabarref01_Text.l0 (k + 1) y0 y1))
  | 0 => ⟨fun _ _ r h => by simp [cinnabarref01_Text.j1] at h, fun _ _ _ r h => by simp [cinnabarref01_Text.l1] at h, fun _ _ _ _ r h => by simp [cinnabarref01_Text.j3] at h, fun _ _ _ _ r h => by simp [cinnabarref01_Text.l2] at h, fun _ _ _ _ _ r h => by simp [cinnabarref01_Text.j5] at h, fun _ _ _ _ _ _ r h => by simp [cinnabarref01_Text.j6] at h, fun _ _ _ _ _ _ _ r h => by simp [cinnabarref01_Text.j7] at h, fun _ _ _ _ _ _ r h => by simp [cinnabarref01_Text.j8] at h, fun _ _ _ _ _ r h => by simp [cinnabarref01_Text.j9] at h, fun _ _ r h => by simp [cinnabarref01_Text.l0] at h⟩
  | k + 1 => by
    obtain ⟨ih0, ih1, ih2, ih3, ih4, ih5, ih6, ih7, ih8, ih9⟩ := cinnabarref01_Text.mono_l k
    refine ⟨?_, ?_, ?_, ?_, ?_, ?_, ?_, ?_, ?_, ?_⟩
    · intro y0 y1
      unfold cinnabarref01_Text.j1
      repeat' first
      | (with_reducible exact ih0 _ _)
      | (with_reducible exact ih1 _ _ _)
      | (with_reducible exact ih2 _ _ _ _)
      | (with_reducible exact ih3 _ _ _ _)
      | (with_reducible exact ih4 _ _ _ _ _)
      | (with_reducible exact ih5 _ _ _ _ _ _)
      | (with_reducible exact ih6 _ _ _ _ _ _ _)
      | (with_reducible exact ih7 _ _ _ _ _ _)
      | (with_reducible exact ih8 _ _ _ _ _)
      | (with_reducible exact ih9 _ _)
      | (with_reducible exact cinnabarref01_Check.mono _ _ _ _)
      | (with_reducible exact cinnabarref01_Written.mono _ _ _ _)
      | (with_reducible exact LeO.refl _)
      | (with_reducible exact LeO.none _)
      | (with_reducible refine LeO.ite ?_ ?_)
      | (with_reducible refine LeO.bind ?_ (fun _ => ?_))
      | exact ih0 _ _
      | exact ih1 _ _ _
      | exact ih2 _ _ _ _
      | exact ih3 _ _ _ _
      | exact ih4 _ _ _ _ _
      | exact ih5 _ _ _ _ _ _
      | exact ih6 _ _ _ _ _ _ _
      | exact ih7 _ _ _ _ _ _
      | exact ih8 _ _ _ _ _
      | exact ih9 _ _
      | exact cinnabarref01_Check.mono _ _ _ _
      | exact cinnabarref01_Written.mono _ _ _ _
      | exact LeO.none _
      | refine LeO.ite ?_ ?_
      | refine LeO.bind ?_ (fun _ => ?_)
    · intro y0 y1 y2
      unfold cinnabarref01_Text.l1
      repeat' first
      | (with_reducible exact ih0 _ _)
      | (with_reducible exact ih1 _ _ _)
      | (with_reducible exact ih2 _ _ _ _)
      | (with_reducible exact ih3 _ _ _ _)
      | (with_reducible exact ih4 _ _ _ _ _)
      | (with_reducible exact ih5 _ _ _ _ _ _)
      | (with_reducible exact ih6 _ _ _ _ _ _ _)
      | (with_reducible exact ih7 _ _ _ _ _ _)
      | (with_reducible exact ih8 _ _ _ _ _)
      | (with_reducible exact ih9 _ _)
      | (with_reducible exact cinnabarref01_Check.mono _ _ _ _)
      | (with_reducible exact cinnabarref01_Written.mono _ _ _ _)
      | (with_reducible exact LeO.refl _)
      | (with_reducible exact LeO.none _)
      | (with_reducible refine LeO.ite ?_ ?_)
      | (with_reducible refine LeO.bind ?_ (fun _ => ?_))
      | exact ih0 _ _
      | exact ih1 _ _ _
      | exact ih2 _ _ _ _
      | exact ih3 _ _ _ _
      | exact ih4 _ _ _ _ _
      | exact ih5 _ _ _ _ _ _
      | exact ih6 _ _ _ _ _ _ _
      | exact ih7 _ _ _ _ _ _
      | exact ih8 _ _ _ _ _
      | exact ih9 _ _
      | exact cinnabarref01_Check.mono _ _ _ _
      | exact cinnabarref01_Written.mono _ _ _ _
      | exact LeO.none _
      | refine LeO.ite ?_ ?_
      | refine LeO.bind ?_ (fun _ => ?_)
    · intro y0 y1 y2 y3
      unfold cinnabarref01_Text.j3
      repeat' first
      | (with_reducible exact ih0 _ _)
      | (with_reducible exact ih1 _ _ _)
      | (with_reducible exact ih2 _ _ _ _)
      | (with_reducible exact ih3 _ _ _ _)
      | (with_reducible exact ih4 _ _ _ _ _)
      | (with_reducible exact ih5 _ _ _ _ _ _)
      | (with_reducible exact ih6 _ _ _ _ _ _ _)
      | (with_reducible exact ih7 _ _ _ _ _ _)
      | (with_reducible exact ih8 _ _ _ _ _)
      | (with_reducible exact ih9 _ _)
      | (with_reducible exact cinnabarref01_Check.mono _ _ _ _)
      | (with_reducible exact cinnabarref01_Written.mono _ _ _ _)
      | (with_reducible exact LeO.refl _)
      | (with_reducible exact LeO.none _)
      | (with_reducible refine LeO.ite ?_ ?_)
      | (with_reducible refine LeO.bind ?_ (fun _ => ?_))
      | exact ih0 _ _
      | exact ih1 _ _ _
      | exact ih2 _ _ _ _
      | exact ih3 _ _ _ _
      | exact ih4 _ _ _ _ _
      | exact ih5 _ _ _ _ _ _
      | exact ih6 _ _ _ _ _ _ _
      | exact ih7 _ _ _ _ _ _
      | exact ih8 _ _ _ _ _
      | exact ih9 _ _
      | exact cinnabarref01_Check.mono _ _ _ _
      | exact cinnabarref01_Written.mono _ _ _ _
      | exact LeO.none _
      | refine LeO.ite ?_ ?_
      | refine LeO.bind ?_ (fun _ => ?_)
    · intro y0 y1 y2 y3
      unfold cinnabarref01_Text.l2
      repeat' first
      | (with_reducible exact ih0 _ _)
      | (with_reducible exact ih1 _ _ _)
      | (with_reducible exact ih2 _ _ _ _)
      | (with_reducible exact ih3 _ _ _ _)
      | (with_reducible exact ih4 _ _ _ _ _)
      | (with_reducible exact ih5 _ _ _ _ _ _)
      | (with_reducible exact ih6 _ _ _ _ _ _ _)
      | (with_reducible exact ih7 _ _ _ _ _ _)
      | (with_reducible exact ih8 _ _ _ _ _)
      | (with_reducible exact ih9 _ _)
      | (with_reducible exact cinnabarref01_Check.mono _ _ _ _)
      | (with_reducible exact cinnabarref01_Written.mono _ _ _ _)
      | (with_reducible exact LeO.refl _)
      | (with_reducible exact LeO.none _)
      | (with_reducible refine LeO.ite ?_ ?_)
      | (with_reducible refine LeO.bind ?_ (fun _ => ?_))
      | exact ih0 _ _
      | exact ih1 _ _ _
      | exact ih2 _ _ _ _
      | exact ih3 _ _ _ _
      | exact ih4 _ _ _ _ _
      | exact ih5 _ _ _ _ _ _
      | exact ih6 _ _ _ _ _ _ _
      | exact ih7 _ _ _ _ _ _
      | exact ih8 _ _ _ _ _
      | exact ih9 _ _
      | exact cinnabarref01_Check.mono _ _ _ _
      | exact cinnabarref01_Written.mono _ _ _ _
      | exact LeO.none _
      | refine LeO.ite ?_ ?_
      | refine LeO.bind ?_ (fun _ => ?_)
    · intro y0 y1 y2 y3 y4
      unfold cinnabarref01_Text.j5
      repeat' first
      | (with_reducible exact ih0 _ _)
      | (with_reducible exact ih1 _ _ _)
      | (with_reducible exact ih2 _ _ _ _)
      | (with_reducible exact ih3 _ _ _ _)
      | (with_reducible exact ih4 _ _ _ _ _)
      | (with_reducible exact ih5 _ _ _ _ _ _)
      | (with_reducible exact ih6 _ _ _ _ _ _ _)
      | (with_reducible exact ih7 _ _ _ _ _ _)
      | (with_reducible exact ih8 _ _ _ _ _)
      | (with_reducible exact ih9 _ _)
      | (with_reducible exact cinnabarref01_Check.mono _ _ _ _)
      | (with_reducible exact cinnabarref01_Written.mono _ _ _ _)
      | (with_reducible exact LeO.refl _)
      | (with_reducible exact LeO.none _)
      | (with_reducible refine LeO.ite ?_ ?_)
      | (with_reducible refine LeO.bind ?_ (fun _ => ?_))
      | exact ih0 _ _
      | exact ih1 _ _ _
      | exact ih2 _ _ _ _
      | exact ih3 _ _ _ _
      | exact ih4 _ _ _ _ _
      | exact ih5 _ _ _ _ _ _
      | exact ih6 _ _ _ _ _ _ _
      | exact ih7 _ _ _ _ _ _
      | exact ih8 _ _ _ _ _
      | exact ih9 _ _
      | exact cinnabarref01_Check.mono _ _ _ _
      | exact cinnabarref01_Written.mono _ _ _ _
      | exact LeO.none _
      | refine LeO.ite ?_ ?_
      | refine LeO.bind ?_ (fun _ => ?_)
    · intro y0 y1 y2 y3 y4 y5
      unfold cinnabarref01_Text.j6
      repeat' first
      | (with_reducible exact ih0 _ _)
      | (with_reducible exact ih1 _ _ _)
      | (with_reducible exact ih2 _ _ _ _)
      | (with_reducible exact ih3 _ _ _ _)
      | (with_reducible exact ih4 _ _ _ _ _)
      | (with_reducible exact ih5 _ _ _ _ _ _)
      | (with_reducible exact ih6 _ _ _ _ _ _ _)
      | (with_reducible exact ih7 _ _ _ _ _ _)
      | (with_reducible exact ih8 _ _ _ _ _)
      | (with_reducible exact ih9 _ _)
      | (with_reducible exact cinnabarref01_Check.mono _ _ _ _)
      | (with_reducible exact cinnabarref01_Written.mono _ _ _ _)
      | (with_reducible exact LeO.refl _)
      | (with_reducible exact LeO.none _)
      | (with_reducible refine LeO.ite ?_ ?_)
      | (with_reducible refine LeO.bind ?_ (fun _ => ?_))
      | exact ih0 _ _
      | exact ih1 _ _ _
      | exact ih2 _ _ _ _
      | exact ih3 _ _ _ _
      | exact ih4 _ _ _ _ _
      | exact ih5 _ _ _ _ _ _
      | exact ih6 _ _ _ _ _ _ _
      | exact ih7 _ _ _ _ _ _
      | exact ih8 _ _ _ _ _
      | exact ih9 _ _
      | exact cinnabarref01_Check.mono _ _ _ _
      | exact cinnabarref01_Written.mono _ _ _ _
      | exact LeO.none _
      | refine LeO.ite ?_ ?_
      | refine LeO.bind ?_ (fun _ => ?_)
    · intro y0 y1 y2 y3 y4 y5 y6
      unfold cinnabarref01_Text.j7
      repeat' first
      | (with_reducible exact ih0 _ _)
      | (with_reducible exact ih1 _ _ _)
      | (with_reducible exact ih2 _ _ _ _)
      | (with_reducible exact ih3 _ _ _ _)
      | (with_reducible exact ih4 _ _ _ _ _)
      | (with_reducible exact ih5 _ _ _ _ _ _)
      | (with_reducible exact ih6 _ _ _ _ _ _ _)
      | (with_reducible exact ih7 _ _ _ _ _ _)
      | (with_reducible exact ih8 _ _ _ _ _)
      | (with_reducible exact ih9 _ _)
      | (with_reducible exact cinnabarref01_Check.mono _ _ _ _)
      | (with_reducible exact cinnabarref01_Written.mono _ _ _ _)
      | (with_reducible exact LeO.refl _)
      | (with_reducible exact LeO.none _)
      | (with_reducible refine LeO.ite ?_ ?_)
      | (with_reducible refine LeO.bind ?_ (fun _ => ?_))
      | exact ih0 _ _
      | exact ih1 _ _ _
      | exact ih2 _ _ _ _
      | exact ih3 _ _ _ _
      | exact ih4 _ _ _ _ _
      | exact ih5 _ _ _ _ _ _
      | exact ih6 _ _ _ _ _ _ _
      | exact ih7 _ _ _ _ _ _
      | exact ih8 _ _ _ _ _
      | exact ih9 _ _
      | exact cinnabarref01_Check.mono _ _ _ _
      | exact cinnabarref01_Written.mono _ _ _ _
      | exact LeO.none _
      | refine LeO.ite ?_ ?_
      | refine LeO.bind ?_ (fun _ => ?_)
    · intro y0 y1 y2 y3 y4 y5
      unfold cinnabarref01_Text.j8
      repeat' first
      | (with_reducible exact ih0 _ _)
      | (with_reducible exact ih1 _ _ _)
      | (with_reducible exact ih2 _ _ _ _)
      | (with_reducible exact ih3 _ _ _ _)
      | (with_reducible exact ih4 _ _ _ _ _)
      | (with_reducible exact ih5 _ _ _ _ _ _)
      | (with_reducible exact ih6 _ _ _ _ _ _ _)
      | (with_reducible exact ih7 _ _ _ _ _ _)
      | (with_reducible exact ih8 _ _ _ _ _)
      | (with_reducible exact ih9 _ _)
      | (with_reducible exact cinnabarref01_Check.mono _ _ _ _)
      | (with_reducible exact cinnabarref01_Written.mono _ _ _ _)
      | (with_reducible exact LeO.refl _)
      | (with_reducible exact LeO.none _)
      | (with_reducible refine LeO.ite ?_ ?_)
      | (with_reducible refine LeO.bind ?_ (fun _ => ?_))
      | exact ih0 _ _
      | exact ih1 _ _ _
      | exact ih2 _ _ _ _
      | exact ih3 _ _ _ _
      | exact ih4 _ _ _ _ _
      | exact ih5 _ _ _ _ _ _
      | exact ih6 _ _ _ _ _ _ _
      | exact ih7 _ _ _ _ _ _
      | exact ih8 _ _ _ _ _
      | exact ih9 _ _
      | exact cinnabarref01_Check.mono _ _ _ _
      | exact cinnabarref01_Written.mono _ _ _ _
      | exact LeO.none _
      | refine LeO.ite ?_ ?_
      | refine LeO.bind ?_ (fun _ => ?_)
    · intro y0 y1 y2 y3 y4
      unfold cinnabarref01_Text.j9
      repeat' first
      | (with_reducible exact ih0 _ _)
      | (with_reducible exact ih1 _ _ _)
      | (with_reducible exact ih2 _ _ _ _)
      | (with_reducible exact ih3 _ _ _ _)
      | (with_reducible exact ih4 _ _ _ _ _)
      | (with_reducible exact ih5 _ _ _ _ _ _)
      | (with_reducible exact ih6 _ _ _ _ _ _ _)
      | (with_reducible exact ih7 _ _ _ _ _ _)
      | (with_reducible exact ih8 _ _ _ _ _)
      | (with_reducible exact ih9 _ _)
      | (with_reducible exact cinnabarref01_Check.mono _ _ _ _)
      | (with_reducible exact cinnabarref01_Written.mono _ _ _ _)
      | (with_reducible exact LeO.refl _)
      | (with_reducible exact LeO.none _)
      | (with_reducible refine LeO.ite ?_ ?_)
      | (with_reducible refine LeO.bind ?_ (fun _ => ?_))
      | exact ih0 _ _
      | exact ih1 _ _ _
      | exact ih2 _ _ _ _
      | exact ih3 _ _ _ _
      | exact ih4 _ _ _ _ _
      | exact ih5 _ _ _ _ _ _
      | exact ih6 _ _ _ _ _ _ _
      | exact ih7 _ _ _ _ _ _
      | exact ih8 _ _ _ _ _
      | exact ih9 _ _
      | exact cinnabarref01_Check.mono _ _ _ _
      | exact cinnabarref01_Written.mono _ _ _ _
      | exact LeO.none _
      | refine LeO.ite ?_ ?_
      | refine LeO.bind ?_ (fun _ => ?_)
    · intro y0 y1
      unfold cinnabarref01_Text.l0
      repeat' first
      | (with_reducible exact ih0 _ _)
      | (with_reducible exact ih1 _ _ _)
      | (with_reducible exact ih2 _ _ _ _)
      | (with_reducible exact ih3 _ _ _ _)
      | (with_reducible exact ih4 _ _ _ _ _)
      | (with_reducible exact ih5 _ _ _ _ _ _)
      | (with_reducible exact ih6 _ _ _ _ _ _ _)
      | (with_reducible exact ih7 _ _ _ _ _ _)
      | (with_reducible exact ih8 _ _ _ _ _)
      | (with_reducible exact ih9 _ _)
      | (with_reducible exact cinnabarref01_Check.mono _ _ _ _)
      | (with_reducible exact cinnabarref01_Written.mono _ _ _ _)
      | (with_reducible exact LeO.refl _)
      | (with_reducible exact LeO.none _)
      | (with_reducible refine LeO.ite ?_ ?_)
      | (with_reducible refine LeO.bind ?_ (fun _ => ?_))
      | exact ih0 _ _
      | exact ih1 _ _ _
      | exact ih2 _ _ _ _
      | exact ih3 _ _ _ _
      | exact ih4 _ _ _ _ _
      | exact ih5 _ _ _ _ _ _
      | exact ih6 _ _ _ _ _ _ _
      | exact ih7 _ _ _ _ _ _
      | exact ih8 _ _ _ _ _
      | exact ih9 _ _
      | exact cinnabarref01_Check.mono _ _ _ _
      | exact cinnabarref01_Written.mono _ _ _ _
      | exact LeO.none _
      | refine LeO.ite ?_ ?_
      | refine LeO.bind ?_ (fun _ => ?_)
theorem cinnabarref01_Text.mono : ∀ a0 k, LeO (cinnabarref01_Text.f k a0) (cinnabarref01_Text.f (k + 1) a0) := by
  intro a0 k
  obtain ⟨ih0, ih1, ih2, ih3, ih4, ih5, ih6, ih7, ih8, ih9⟩ := cinnabarref01_Text.mono_l k
  unfold cinnabarref01_Text.f
  repeat' first
      | (with_reducible exact ih0 _ _)
      | (with_reducible exact ih1 _ _ _)
      | (with_reducible exact ih2 _ _ _ _)
      | (with_reducible exact ih3 _ _ _ _)
      | (with_reducible exact ih4 _ _ _ _ _)
      | (with_reducible exact ih5 _ _ _ _ _ _)
      | (with_reducible exact ih6 _ _ _ _ _ _ _)
      | (with_reducible exact ih7 _ _ _ _ _ _)
      | (with_reducible exact ih8 _ _ _ _ _)
      | (with_reducible exact ih9 _ _)
      | (with_reducible exact cinnabarref01_Check.mono _ _ _ _)
      | (with_reducible exact cinnabarref01_Written.mono _ _ _ _)
      | (with_reducible exact LeO.refl _)
      | (with_reducible exact LeO.none _)
      | (with_reducible refine LeO.ite ?_ ?_)
      | (with_reducible refine LeO.bind ?_ (fun _ => ?_))
      | exact ih0 _ _
      | exact ih1 _ _ _
      | exact ih2 _ _ _ _
      | exact ih3 _ _ _ _
      | exact ih4 _ _ _ _ _
      | exact ih5 _ _ _ _ _ _
      | exact ih6 _ _ _ _ _ _ _
      | exact ih7 _ _ _ _ _ _
      | exact ih8 _ _ _ _ _
      | exact ih9 _ _
      | exact cinnabarref01_Check.mono _ _ _ _
      | exact cinnabarref01_Written.mono _ _ _ _
      | exact LeO.none _
      | refine LeO.ite ?_ ?_
      | refine LeO.bind ?_ (fun _ => ?_)
set_option maxHeartbeats 8000000 in
set_option maxRecDepth 100000 in
theorem cinnabarref01_Text.calls (k : Nat) (A0 : Option Addr) (c0 : Nat) (l0 : List (S35)) (r1 : ByteArray) (r2 : Int) (w : World) (hr0 : Kd.C k35 w A0 l0.length l0) (hc0 : l0.length ≤ c0) (h : cinnabarref01_Text.f k l0 = some (r1, r2)) :
    Calls Tryz.prog 15 #[.slice A0 l0.length c0] w fun e w' => e = .returned (.tuple #[.string r1, .int .i64 r2]) ∧ Below w.heap.size w w' := by
  have hu35 := Tryz.underlying35
  have HR0 := Aside0.mk hr0
  have HC0 := Aside0.mk hc0
  clear hr0 hc0
  have HB := Aside0.mk (Below.refl w.heap.size w)
  have H : (cinnabarref01_Text.l0 k l0 0) = some (r1, r2) := h
  clear h
  have HC2 := Aside0.mk H
  clear H
  go_enter Tryz.func15, Tryz.ntmps15
  go_upto_block 0 with (fail)
  go_cut [4] (fun v4 wc => ∃ (kq : Nat) (x4_1 : Int), v4 = .int .i64 x4_1 ∧ Aside0 (cinnabarref01_Text.j1 kq l0 x4_1 = some (r1, r2)) ∧ Aside0 (kq ≤ k) ∧ Aside0 (Below w.heap.size w wc))
  case first =>
    have H := HC2.out
    clear HC2
    have H' := Aside0.mk H
    clear H
    go_wp2
    (try simp only [Go.Act.put, List.setIfInBounds_toArray, List.set_cons_succ, List.set_cons_zero])
    go_loopg [4] k (fun kq v4 w' => ∃ (x4_1 : Int), v4 = .int .i64 x4_1 ∧ Aside0 (cinnabarref01_Text.l0 kq l0 x4_1 = some (r1, r2)) ∧ Aside0 (kq ≤ k) ∧ Aside0 (Below w.heap.size w w'))
    case atStart => exact ⟨(0), (by first | rfl | (simp; done) | (simp [*]; done) | (simp [show ∀ l : List UInt8, (l != []) = !l.isEmpty from fun l => by cases l <;> rfl]; done)), H', ⟨Nat.le_refl _⟩, ⟨by repeat (first | (with_reducible first | exact HB.out | apply below_alloc | apply pw_below_drewN | apply below_drew1) | exact HB.out)⟩⟩
    case round =>
      clear H'
      try clear c1
      try clear p2
      obtain ⟨x4_1, rfl, HA, HK1, HB⟩ := hrel
      cases gk with
      | zero => exact absurd HA.out (by simp [cinnabarref01_Text.l0])
      | succ k1 =>
        have H := HA.out
        clear HA
        simp only [cinnabarref01_Text.l0] at H
        by_cases c3 : x4_1 < (l0.length : Int)
        · as_aux_lemma =>
            rw [if_pos c3] at H
            have c3b0 : decide (x4_1 < (l0.length : Int)) = true := decide_eq_true c3
            clear c3
            (first | rw [c3b0] | (simp only [i64_w, i32_w]; rw [c3b0]) | skip)
            by_cases c4 : 0 ≤ x4_1
            · as_aux_lemma =>
                rw [if_pos c4] at H
                have c4b0 : decide (0 ≤ x4_1) = true := decide_eq_true c4
                clear c4
                by_cases c5 : ((rd_T35 l0 x4_1).f0) = 0
                · rw [if_pos c5] at H
                  have c5b0 : (((rd_T35 l0 x4_1).f0) == 0) = true := beq_iff_eq.mpr c5
                  have c5b1 : (((rd_T35 l0 x4_1).f0) != 0) = false := bne_eq_false_iff_eq.mpr c5
                  clear c5
                  have H' := Aside0.mk H
                  clear H
                  have p171 : 0 ≤ (x4_1 : Int) := of_decide_eq_true (by first | (with_reducible assumption) | assumption)
                  have q171 : x4_1 < (l0.length : Int) := of_decide_eq_true (by first | (with_reducible assumption) | assumption)
                  obtain ⟨ad171, e171, hx171_0, hx171_1, hx171_2⟩ := at_T35 HR0.out x4_1 p171 q171
                  cases e171
                  replace hx171_0 := (HB.out.cell (World.block_lt_of_cell? w _ hx171_0)).trans hx171_0
                  replace hx171_1 := (HB.out.cell (World.block_lt_of_cell? w _ hx171_1)).trans hx171_1
                  replace hx171_2 := (HB.out.cell (World.block_lt_of_cell? w _ hx171_2)).trans hx171_2
                  replace p171 := eq_true p171
                  replace q171 := eq_true q171
                  go_wp2
                  go_meet
                  case rel => exact ⟨_, (x4_1), (by first | rfl | (simp; done) | (simp [*]; done) | (simp [show ∀ l : List UInt8, (l != []) = !l.isEmpty from fun l => by cases l <;> rfl]; done)), H', ⟨by have := HK1.out; first | omega | exact Nat.le_refl _⟩, ⟨by repeat (first | (with_reducible first | exact HB.out | apply below_alloc | apply pw_below_drewN | apply below_drew1) | exact HB.out)⟩⟩
                · rw [if_neg c5] at H
                  have c5b0 : (((rd_T35 l0 x4_1).f0) == 0) = false := beq_eq_false_iff_ne.mpr c5
                  have c5b1 : (((rd_T35 l0 x4_1).f0) != 0) = true := bne_iff_ne.mpr c5
                  have H' := Aside0.mk H
                  clear H
                  have p171 : 0 ≤ (x4_1 : Int) := of_decide_eq_true (by first | (with_reducible assumption) | assumption)
                  have q171 : x4_1 < (l0.length : Int) := of_decide_eq_true (by first | (with_reducible assumption) | assumption)
                  obtain ⟨ad171, e171, hx171_0, hx171_1, hx171_2⟩ := at_T35 HR0.out x4_1 p171 q171
                  cases e171
                  replace hx171_0 := (HB.out.cell (World.block_lt_of_cell? w _ hx171_0)).trans hx171_0
                  replace hx171_1 := (HB.out.cell (World.block_lt_of_cell? w _ hx171_1)).trans hx171_1
                  replace hx171_2 := (HB.out.cell (World.block_lt_of_cell? w _ hx171_2)).trans hx171_2
                  replace p171 := eq_true p171
                  replace q171 := eq_true q171
                  go_wp2
                  go_roundg k1
                  case measure => have := HK1.out; omega
                  case rel => exact ⟨(wrap64 (x4_1 + 1)), (by first | rfl | (simp; done) | (simp [*]; done) | (simp [show ∀ l : List UInt8, (l != []) = !l.isEmpty from fun l => by cases l <;> rfl]; done)), H', ⟨by have := HK1.out; omega⟩, ⟨by repeat (first | (with_reducible first | exact HB.out | apply below_alloc | apply pw_below_drewN | apply below_drew1) | exact HB.out)⟩⟩
            · rw [if_neg c4] at H
              exact absurd H (by simp)
        · rw [if_neg c3] at H
          have c3b0 : decide (x4_1 < (l0.length : Int)) = false := decide_eq_false c3
          clear c3
          (first | rw [c3b0] | (simp only [i64_w, i32_w]; rw [c3b0]) | skip)
          have H' := Aside0.mk H
          clear H
          go_wp2
          go_meet
          case rel => exact ⟨_, (x4_1), (by first | rfl | (simp; done) | (simp [*]; done) | (simp [show ∀ l : List UInt8, (l != []) = !l.isEmpty from fun l => by cases l <;> rfl]; done)), H', ⟨by have := HK1.out; first | omega | exact Nat.le_refl _⟩, ⟨by repeat (first | (with_reducible first | exact HB.out | apply below_alloc | apply pw_below_drewN | apply below_drew1) | exact HB.out)⟩⟩
  case rest =>
    clear HC2
    try clear c1
    try clear p1
    try clear q1
    try clear hx1
    try clear p2
    try clear c3
    try clear c3b0
    try clear c4
    try clear c4b0
    try clear c5
    try clear c5b0
    try clear c5b1
    try clear hx171_0
    try clear hx171_1
    try clear hx171_2
    try clear p171
    try clear p2
    try clear q171
    obtain ⟨kq, x4_1, rfl, HA, HJ1, HB⟩ := hcut
    cases kq with
    | zero => exact absurd HA.out (by simp [cinnabarref01_Text.j1])
    | succ kj1 =>
      have H := HA.out
      clear HA
      simp only [cinnabarref01_Text.j1] at H
      have H' := Aside0.mk H
      clear H
      go_wp2
      (try simp only [Go.Act.put, List.setIfInBounds_toArray, List.set_cons_succ, List.set_cons_zero])
      go_loopg [5] kj1 (fun kq v5 w' => ∃ (x5_2 : Int), v5 = .int .i64 x5_2 ∧ Aside0 (cinnabarref01_Text.l1 kq l0 x4_1 x5_2 = some (r1, r2)) ∧ Aside0 (kq ≤ kj1) ∧ Aside0 (Below w.heap.size w w'))
      case atStart => exact ⟨(0), (by first | rfl | (simp; done) | (simp [*]; done) | (simp [show ∀ l : List UInt8, (l != []) = !l.isEmpty from fun l => by cases l <;> rfl]; done)), H', ⟨Nat.le_refl _⟩, ⟨by repeat (first | (with_reducible first | exact HB.out | apply below_alloc | apply pw_below_drewN | apply below_drew1) | exact HB.out)⟩⟩
      case round =>
        clear H'
        try clear c1
        try clear p1
        try clear q1
        try clear hx1
        try clear p2
        try clear c3
        try clear c3b0
        try clear c4
        try clear c4b0
        try clear c5
        try clear c5b0
        try clear c5b1
        try clear hx171_0
        try clear hx171_1
        try clear hx171_2
        try clear p1
        try clear p171
        try clear p2
        try clear q1
        try clear q171
        obtain ⟨x5_2, rfl, HA, HK2, HB⟩ := hrel
        cases gk with
        | zero => exact absurd HA.out (by simp [cinnabarref01_Text.l1])
        | succ k2 =>
          have H := HA.out
          clear HA
          simp only [cinnabarref01_Text.l1] at H
          have HC6 := Aside0.mk H
          clear H
          go_upto_region 5 with (fail)
          go_cut [33] (fun v33 wc => ∃ (kq : Nat) (x33_5 : Bool), v33 = .bool x33_5 ∧ Aside0 (cinnabarref01_Text.j3 kq l0 x4_1 x5_2 x33_5 = some (r1, r2)) ∧ Aside0 (kq ≤ k2) ∧ Aside0 (Below w.heap.size w wc))
          case first =>
            have H := HC6.out
            clear HC6
            by_cases c7 : x5_2 < (l0.length : Int)
            · rw [if_pos c7] at H
              have c7b0 : decide (x5_2 < (l0.length : Int)) = true := decide_eq_true c7
              clear c7
              (first | rw [c7b0] | (simp only [i64_w, i32_w]; rw [c7b0]) | skip)
              have H' := Aside0.mk H
              clear H
              go_wp2
              go_meet
              case rel => exact ⟨_, (decide (x5_2 ≤ x4_1)), (by first | rfl | (simp; done) | (simp [*]; done) | (simp [show ∀ l : List UInt8, (l != []) = !l.isEmpty from fun l => by cases l <;> rfl]; done)), H', ⟨by have := HJ1.out; have := HK2.out; first | omega | exact Nat.le_refl _⟩, ⟨by repeat (first | (with_reducible first | exact HB.out | apply below_alloc | apply pw_below_drewN | apply below_drew1) | exact HB.out)⟩⟩
            · rw [if_neg c7] at H
              have c7b0 : decide (x5_2 < (l0.length : Int)) = false := decide_eq_false c7
              clear c7
              (first | rw [c7b0] | (simp only [i64_w, i32_w]; rw [c7b0]) | skip)
              have H' := Aside0.mk H
              clear H
              go_wp2
              go_meet
              case rel => exact ⟨_, (false), (by first | rfl | (simp; done) | (simp [*]; done) | (simp [show ∀ l : List UInt8, (l != []) = !l.isEmpty from fun l => by cases l <;> rfl]; done)), H', ⟨by have := HJ1.out; have := HK2.out; first | omega | exact Nat.le_refl _⟩, ⟨by repeat (first | (with_reducible first | exact HB.out | apply below_alloc | apply pw_below_drewN | apply below_drew1) | exact HB.out)⟩⟩
          case rest =>
            clear HC6
            try clear c1
            try clear p1
            try clear q1
            try clear hx1
            try clear p2
            try clear c3
            try clear c3b0
            try clear c4
            try clear c4b0
            try clear c5
            try clear c5b0
            try clear c5b1
            try clear p6
            try clear c7
            try clear c7b0
            try clear hx171_0
            try clear hx171_1
            try clear hx171_2
            try clear p1
            try clear p171
            try clear p2
            try clear q1
            try clear q171
            obtain ⟨kq, x33_5, rfl, HA, HJ5, HB⟩ := hcut
            cases kq with
            | zero => exact absurd HA.out (by simp [cinnabarref01_Text.j3])
            | succ kj5 =>
              have H := HA.out
              clear HA
              simp only [cinnabarref01_Text.j3] at H
              by_cases c8 : x33_5 = true
              · as_aux_lemma =>
                  subst c8
                  have H1 : (if 0 ≤ x5_2 then (if x5_2 < (l0.length : Int) then ((cinnabarref01_Check.f kj5 ((rd_T35 l0 x5_2).f0) ((rd_T35 l0 x5_2).f1) ((rd_T35 l0 x5_2).f2)).bind fun t173 => (if t173 = 0 then (cinnabarref01_Text.l1 kj5 l0 x4_1 (wrap64 (x5_2 + 1))) else (some ((⟨#[]⟩ : ByteArray), t173)))) else (none)) else (none)) = some (r1, r2) := by rw [if_pos rfl] at H; exact H
                  clear H
                  have H := H1
                  clear H1
                  by_cases c9 : 0 ≤ x5_2
                  · as_aux_lemma =>
                      rw [if_pos c9] at H
                      have c9b0 : decide (0 ≤ x5_2) = true := decide_eq_true c9
                      clear c9
                      by_cases c10 : x5_2 < (l0.length : Int)
                      · as_aux_lemma =>
                          rw [if_pos c10] at H
                          have c10b0 : decide (x5_2 < (l0.length : Int)) = true := decide_eq_true c10
                          clear c10
                          replace H := Option.bind_eq_some_iff.mp H
                          obtain ⟨t173, A110, H⟩ := H
                          replace H : (if t173 = 0 then (cinnabarref01_Text.l1 kj5 l0 x4_1 (wrap64 (x5_2 + 1))) else (some ((⟨#[]⟩ : ByteArray), t173))) = some (r1, r2) := H
                          have A11 := Aside0.mk A110
                          clear A110
                          by_cases c12 : t173 = 0
                          · rw [if_pos c12] at H
                            have c12b0 : (t173 == 0) = true := beq_iff_eq.mpr c12
                            have c12b1 : (t173 != 0) = false := bne_eq_false_iff_eq.mpr c12
                            clear c12
                            have H' := Aside0.mk H
                            clear H
                            have p172 : 0 ≤ (x5_2 : Int) := of_decide_eq_true (by first | (with_reducible assumption) | assumption)
                            have q172 : x5_2 < (l0.length : Int) := of_decide_eq_true (by first | (with_reducible assumption) | assumption)
                            obtain ⟨ad172, e172, hx172_0, hx172_1, hx172_2⟩ := at_T35 HR0.out x5_2 p172 q172
                            cases e172
                            replace hx172_0 := (HB.out.cell (World.block_lt_of_cell? w _ hx172_0)).trans hx172_0
                            replace hx172_1 := (HB.out.cell (World.block_lt_of_cell? w _ hx172_1)).trans hx172_1
                            replace hx172_2 := (HB.out.cell (World.block_lt_of_cell? w _ hx172_2)).trans hx172_2
                            replace p172 := eq_true p172
                            replace q172 := eq_true q172
                            go_wp2_with (first | ((with_reducible refine gate_callee (f := 17) rfl ?_); refine goesL_ (some 40) rfl rfl Tryz.func17 (by kernel_rfl) rfl #[.agg #[.int .i64 ((rd_T35 l0 x5_2).f0), .string ((rd_T35 l0 x5_2).f1), .int .i64 ((rd_T35 l0 x5_2).f2)]] rfl (by (try simp only [List.map_toArray, List.map_cons, List.map_nil]); first | done | rfl | (simp only [List.length_drop, List.length_take]; rfl)) ?_; (with_reducible refine (cinnabarref01_Check.calls kj5 ((rd_T35 l0 x5_2).f0) ((rd_T35 l0 x5_2).f1) ((rd_T35 l0 x5_2).f2) t173 _ A11.out).mono ?_); rintro e w13 ⟨rfl, hb⟩; refine ⟨_, rfl, ?_⟩; have n0_ := Aside0.mk (below_step (by repeat (first | (with_reducible first | exact HB.out | apply below_alloc | apply pw_below_drewN | apply below_drew1) | exact HB.out)) hb); clear HB; have HB := n0_; clear n0_; (try clear hb); (try clear hb2); (try clear hk); (try clear hi)))
                            go_roundg kj5
                            case measure => have := HJ1.out; have := HK2.out; have := HJ5.out; omega
                            case rel => exact ⟨(wrap64 (x5_2 + 1)), (by first | rfl | (simp; done) | (simp [*]; done) | (simp [show ∀ l : List UInt8, (l != []) = !l.isEmpty from fun l => by cases l <;> rfl]; done)), H', ⟨by have := HJ1.out; have := HK2.out; have := HJ5.out; omega⟩, ⟨by repeat (first | (with_reducible first | exact HB.out | apply below_alloc | apply pw_below_drewN | apply below_drew1) | exact HB.out)⟩⟩
                          · rw [if_neg c12] at H
                            have c12b0 : (t173 == 0) = false := beq_eq_false_iff_ne.mpr c12
                            have c12b1 : (t173 != 0) = true := bne_iff_ne.mpr c12
                            simp only [Option.some.injEq, Prod.mk.injEq] at H
                            obtain ⟨rfl, rfl⟩ := H
                            have p172 : 0 ≤ (x5_2 : Int) := of_decide_eq_true (by first | (with_reducible assumption) | assumption)
                            have q172 : x5_2 < (l0.length : Int) := of_decide_eq_true (by first | (with_reducible assumption) | assumption)
                            obtain ⟨ad172, e172, hx172_0, hx172_1, hx172_2⟩ := at_T35 HR0.out x5_2 p172 q172
                            cases e172
                            replace hx172_0 := (HB.out.cell (World.block_lt_of_cell? w _ hx172_0)).trans hx172_0
                            replace hx172_1 := (HB.out.cell (World.block_lt_of_cell? w _ hx172_1)).trans hx172_1
                            replace hx172_2 := (HB.out.cell (World.block_lt_of_cell? w _ hx172_2)).trans hx172_2
                            replace p172 := eq_true p172
                            replace q172 := eq_true q172
                            go_wp2_with (first | ((with_reducible refine gate_callee (f := 17) rfl ?_); refine goesL_ (some 40) rfl rfl Tryz.func17 (by kernel_rfl) rfl #[.agg #[.int .i64 ((rd_T35 l0 x5_2).f0), .string ((rd_T35 l0 x5_2).f1), .int .i64 ((rd_T35 l0 x5_2).f2)]] rfl (by (try simp only [List.map_toArray, List.map_cons, List.map_nil]); first | done | rfl | (simp only [List.length_drop, List.length_take]; rfl)) ?_; (with_reducible refine (cinnabarref01_Check.calls kj5 ((rd_T35 l0 x5_2).f0) ((rd_T35 l0 x5_2).f1) ((rd_T35 l0 x5_2).f2) t173 _ A11.out).mono ?_); rintro e w14 ⟨rfl, hb⟩; refine ⟨_, rfl, ?_⟩; have n0_ := Aside0.mk (below_step (by repeat (first | (with_reducible first | exact HB.out | apply below_alloc | apply pw_below_drewN | apply below_drew1) | exact HB.out)) hb); clear HB; have HB := n0_; clear n0_; (try clear hb); (try clear hb2); (try clear hk); (try clear hi)))
                            go_ret2
                            exact ⟨by first | rfl | (simp [errW_none, errW_some] <;> rfl) | (simp [*, errW_none, errW_some] <;> rfl), by repeat (first | (with_reducible first | exact HB.out | apply below_alloc | apply pw_below_drewN | apply below_drew1) | exact HB.out)⟩
                      · rw [if_neg c10] at H
                        exact absurd H (by simp)
                  · rw [if_neg c9] at H
                    exact absurd H (by simp)
              · as_aux_lemma =>
                  replace c8 := Bool.eq_false_iff.mpr c8
                  subst c8
                  have H1 : (cinnabarref01_Text.l2 kj5 l0 x4_1 (⟨#[]⟩ : ByteArray) 0) = some (r1, r2) := by rw [if_neg (show ¬ (false = true) by decide)] at H; exact H
                  clear H
                  have H := H1
                  clear H1
                  have H' := Aside0.mk H
                  clear H
                  go_wp2
                  (try simp only [Go.Act.put, List.setIfInBounds_toArray, List.set_cons_succ, List.set_cons_zero])
                  go_loopg [7, 8] kj5 (fun kq v7 v8 w' => ∃ (x7_4 : ByteArray) (x8_4 : Int), v7 = .string x7_4 ∧ v8 = .int .i64 x8_4 ∧ Aside0 (cinnabarref01_Text.l2 kq l0 x4_1 x7_4 x8_4 = some (r1, r2)) ∧ Aside0 (kq ≤ kj5) ∧ Aside0 (Below w.heap.size w w'))
                  case atStart => exact ⟨((⟨#[]⟩ : ByteArray)), (0), (by first | rfl | (simp; done) | (simp [*]; done) | (simp [show ∀ l : List UInt8, (l != []) = !l.isEmpty from fun l => by cases l <;> rfl]; done)), (by first | rfl | (simp; done) | (simp [*]; done) | (simp [show ∀ l : List UInt8, (l != []) = !l.isEmpty from fun l => by cases l <;> rfl]; done)), H', ⟨Nat.le_refl _⟩, ⟨by repeat (first | (with_reducible first | exact HB.out | apply below_alloc | apply pw_below_drewN | apply below_drew1) | exact HB.out)⟩⟩
                  case round =>
                    clear H'
                    try clear c1
                    try clear p1
                    try clear q1
                    try clear hx1
                    try clear p2
                    try clear c3
                    try clear c3b0
                    try clear c4
                    try clear c4b0
                    try clear c5
                    try clear c5b0
                    try clear c5b1
                    try clear p6
                    try clear c7
                    try clear c7b0
                    try clear c8
                    try clear c9
                    try clear c9b0
                    try clear c10
                    try clear c10b0
                    try clear c12
                    try clear c12b0
                    try clear c12b1
                    try clear hx171_0
                    try clear hx171_1
                    try clear hx171_2
                    try clear hx172_0
                    try clear hx172_1
                    try clear hx172_2
                    try clear p1
                    try clear p171
                    try clear p172
                    try clear p2
                    try clear p6
                    try clear q1
                    try clear q171
                    try clear q172
                    obtain ⟨x7_4, x8_4, rfl, rfl, HA, HK4, HB⟩ := hrel
                    cases gk with
                    | zero => exact absurd HA.out (by simp [cinnabarref01_Text.l2])
                    | succ k4 =>
                      have H := HA.out
                      clear HA
                      simp only [cinnabarref01_Text.l2] at H
                      by_cases c15 : x8_4 < x4_1
                      · as_aux_lemma =>
                          rw [if_pos c15] at H
                          have c15b0 : decide (x8_4 < x4_1) = true := decide_eq_true c15
                          clear c15
                          have HC16 := Aside0.mk H
                          clear H
                          go_upto_region 14 with (fail)
                          go_cut [9] (fun v9 wc => ∃ (kq : Nat) (x9_15 : Bool), v9 = .bool x9_15 ∧ Aside0 (cinnabarref01_Text.j5 kq l0 x4_1 x7_4 x8_4 x9_15 = some (r1, r2)) ∧ Aside0 (kq ≤ k4) ∧ Aside0 (Below w.heap.size w wc))
                          case first =>
                            have H := HC16.out
                            clear HC16
                            by_cases c17 : 0 ≤ x8_4
                            · as_aux_lemma =>
                                rw [if_pos c17] at H
                                have c17b0 : decide (0 ≤ x8_4) = true := decide_eq_true c17
                                clear c17
                                (first | rw [c17b0] | (simp only [i64_w, i32_w]; rw [c17b0]) | skip)
                                by_cases c18 : x8_4 < (l0.length : Int)
                                · as_aux_lemma =>
                                    rw [if_pos c18] at H
                                    have c18b0 : decide (x8_4 < (l0.length : Int)) = true := decide_eq_true c18
                                    clear c18
                                    by_cases c19 : ((rd_T35 l0 x8_4).f0) = 6
                                    · rw [if_pos c19] at H
                                      have c19b0 : (((rd_T35 l0 x8_4).f0) == 6) = true := beq_iff_eq.mpr c19
                                      have c19b1 : (((rd_T35 l0 x8_4).f0) != 6) = false := bne_eq_false_iff_eq.mpr c19
                                      clear c19
                                      have H' := Aside0.mk H
                                      clear H
                                      have p174 : 0 ≤ (x8_4 : Int) := of_decide_eq_true (by first | (with_reducible assumption) | assumption)
                                      have q174 : x8_4 < (l0.length : Int) := of_decide_eq_true (by first | (with_reducible assumption) | assumption)
                                      obtain ⟨ad174, e174, hx174_0, hx174_1, hx174_2⟩ := at_T35 HR0.out x8_4 p174 q174
                                      cases e174
                                      replace hx174_0 := (HB.out.cell (World.block_lt_of_cell? w _ hx174_0)).trans hx174_0
                                      replace hx174_1 := (HB.out.cell (World.block_lt_of_cell? w _ hx174_1)).trans hx174_1
                                      replace hx174_2 := (HB.out.cell (World.block_lt_of_cell? w _ hx174_2)).trans hx174_2
                                      replace p174 := eq_true p174
                                      replace q174 := eq_true q174
                                      have p175 : 0 ≤ (x8_4 : Int) := of_decide_eq_true (by first | (with_reducible assumption) | assumption)
                                      have q175 : x8_4 < (l0.length : Int) := of_decide_eq_true (by first | (with_reducible assumption) | assumption)
                                      obtain ⟨ad175, e175, hx175_0, hx175_1, hx175_2⟩ := at_T35 HR0.out x8_4 p175 q175
                                      obtain rfl : ad174 = ad175 := (by injection e175)
                                      replace hx175_0 := (HB.out.cell (World.block_lt_of_cell? w _ hx175_0)).trans hx175_0
                                      replace hx175_1 := (HB.out.cell (World.block_lt_of_cell? w _ hx175_1)).trans hx175_1
                                      replace hx175_2 := (HB.out.cell (World.block_lt_of_cell? w _ hx175_2)).trans hx175_2
                                      replace p175 := eq_true p175
                                      replace q175 := eq_true q175
                                      go_wp2
                                      go_meet
                                      case rel => exact ⟨_, ((((rd_T35 l0 x8_4).f1).toList == ([40, 40] : List UInt8))), (by first | rfl | (simp; done) | (simp [*]; done) | (simp [show ∀ l : List UInt8, (l != []) = !l.isEmpty from fun l => by cases l <;> rfl]; done)), H', ⟨by have := HJ1.out; have := HK2.out; have := HJ5.out; have := HK4.out; first | omega | exact Nat.le_refl _⟩, ⟨by repeat (first | (with_reducible first | exact HB.out | apply below_alloc | apply pw_below_drewN | apply below_drew1) | exact HB.out)⟩⟩
                                    · rw [if_neg c19] at H
                                      have c19b0 : (((rd_T35 l0 x8_4).f0) == 6) = false := beq_eq_false_iff_ne.mpr c19
                                      have c19b1 : (((rd_T35 l0 x8_4).f0) != 6) = true := bne_iff_ne.mpr c19
                                      have H' := Aside0.mk H
                                      clear H
                                      have p174 : 0 ≤ (x8_4 : Int) := of_decide_eq_true (by first | (with_reducible assumption) | assumption)
                                      have q174 : x8_4 < (l0.length : Int) := of_decide_eq_true (by first | (with_reducible assumption) | assumption)
                                      obtain ⟨ad174, e174, hx174_0, hx174_1, hx174_2⟩ := at_T35 HR0.out x8_4 p174 q174
                                      cases e174
                                      replace hx174_0 := (HB.out.cell (World.block_lt_of_cell? w _ hx174_0)).trans hx174_0
                                      replace hx174_1 := (HB.out.cell (World.block_lt_of_cell? w _ hx174_1)).trans hx174_1
                                      replace hx174_2 := (HB.out.cell (World.block_lt_of_cell? w _ hx174_2)).trans hx174_2
                                      replace p174 := eq_true p174
                                      replace q174 := eq_true q174
                                      go_wp2
                                      go_meet
                                      case rel => exact ⟨_, (false), (by first | rfl | (simp; done) | (simp [*]; done) | (simp [show ∀ l : List UInt8, (l != []) = !l.isEmpty from fun l => by cases l <;> rfl]; done)), H', ⟨by have := HJ1.out; have := HK2.out; have := HJ5.out; have := HK4.out; first | omega | exact Nat.le_refl _⟩, ⟨by repeat (first | (with_reducible first | exact HB.out | apply below_alloc | apply pw_below_drewN | apply below_drew1) | exact HB.out)⟩⟩
                                · rw [if_neg c18] at H
                                  exact absurd H (by simp)
                            · rw [if_neg c17] at H
                              exact absurd H (by simp)
                          case rest =>
                            clear HC16
                            try clear c1
                            try clear p1
                            try clear q1
                            try clear hx1
                            try clear p2
                            try clear c3
                            try clear c3b0
                            try clear c4
                            try clear c4b0
                            try clear c5
                            try clear c5b0
                            try clear c5b1
                            try clear p6
                            try clear c7
                            try clear c7b0
                            try clear c8
                            try clear c9
                            try clear c9b0
                            try clear c10
                            try clear c10b0
                            try clear c12
                            try clear c12b0
                            try clear c12b1
                            try clear c15
                            try clear c15b0
                            try clear c17
                            try clear c17b0
                            try clear p17
                            try clear q17
                            try clear hx17
                            try clear c18
                            try clear c18b0
                            try clear c19
                            try clear c19b0
                            try clear c19b1
                            try clear hx171_0
                            try clear hx171_1
                            try clear hx171_2
                            try clear hx172_0
                            try clear hx172_1
                            try clear hx172_2
                            try clear hx174_0
                            try clear hx174_1
                            try clear hx174_2
                            try clear hx175_0
                            try clear hx175_1
                            try clear hx175_2
                            try clear p1
                            try clear p171
                            try clear p172
                            try clear p174
                            try clear p175
                            try clear p2
                            try clear p6
                            try clear q1
                            try clear q171
                            try clear q172
                            try clear q174
                            try clear q175
                            obtain ⟨kq, x9_15, rfl, HA, HJ15, HB⟩ := hcut
                            cases kq with
                            | zero => exact absurd HA.out (by simp [cinnabarref01_Text.j5])
                            | succ kj15 =>
                              have H := HA.out
                              clear HA
                              simp only [cinnabarref01_Text.j5] at H
                              have HC20 := Aside0.mk H
                              clear H
                              go_upto_region 15 with (fail)
                              go_cut [10] (fun v10 wc => ∃ (kq : Nat) (x10_19 : Bool), v10 = .bool x10_19 ∧ Aside0 (cinnabarref01_Text.j6 kq l0 x4_1 x7_4 x8_4 x9_15 x10_19 = some (r1, r2)) ∧ Aside0 (kq ≤ kj15) ∧ Aside0 (Below w.heap.size w wc))
                              case first =>
                                have H := HC20.out
                                clear HC20
                                by_cases c21 : (wrap64 (x8_4 + 1)) < x4_1
                                · as_aux_lemma =>
                                    rw [if_pos c21] at H
                                    have c21b0 : decide ((wrap64 (x8_4 + 1)) < x4_1) = true := decide_eq_true c21
                                    clear c21
                                    (first | rw [c21b0] | (simp only [i64_w, i32_w]; rw [c21b0]) | skip)
                                    obtain ⟨ji22, hji22⟩ : ∃ j_ : Int, (wrap64 (x8_4 + 1)) = j_ := ⟨_, rfl⟩
                                    replace H : (if 0 ≤ (ji22) then (if (ji22) < (l0.length : Int) then (if ((rd_T35 l0 (ji22)).f0) = 2 then (if 0 ≤ x8_4 then (if x8_4 < (l0.length : Int) then ((cinnabarref01_stated.f ((rd_T35 l0 x8_4).f0) ((rd_T35 l0 x8_4).f1) ((rd_T35 l0 x8_4).f2)).bind fun t178 => (cinnabarref01_Text.j6 kj15 l0 x4_1 x7_4 x8_4 x9_15 t178)) else (none)) else (none)) else (cinnabarref01_Text.j6 kj15 l0 x4_1 x7_4 x8_4 x9_15 false)) else (none)) else (none)) = some (r1, r2) := by first | (rw [hji22] at H; exact H) | (simp only [hji22] at H ⊢; exact H)
                                    (try rw [hji22] at c21b0)
                                    have hji22w : (IntKind.i64.wrap (x8_4 + 1)) = ji22 := (i64_w _).trans hji22
                                    by_cases c23 : 0 ≤ (ji22)
                                    · as_aux_lemma =>
                                        rw [if_pos c23] at H
                                        have c23b0 : decide (0 ≤ (ji22)) = true := decide_eq_true c23
                                        clear c23
                                        by_cases c24 : (ji22) < (l0.length : Int)
                                        · as_aux_lemma =>
                                            rw [if_pos c24] at H
                                            have c24b0 : decide ((ji22) < (l0.length : Int)) = true := decide_eq_true c24
                                            clear c24
                                            by_cases c25 : ((rd_T35 l0 (ji22)).f0) = 2
                                            · as_aux_lemma =>
                                                rw [if_pos c25] at H
                                                have c25b0 : (((rd_T35 l0 (ji22)).f0) == 2) = true := beq_iff_eq.mpr c25
                                                have c25b1 : (((rd_T35 l0 (ji22)).f0) != 2) = false := bne_eq_false_iff_eq.mpr c25
                                                clear c25
                                                by_cases c26 : 0 ≤ x8_4
                                                · rw [if_pos c26] at H
                                                  have c26b0 : decide (0 ≤ x8_4) = true := decide_eq_true c26
                                                  clear c26
                                                  by_cases c27 : x8_4 < (l0.length : Int)
                                                  · rw [if_pos c27] at H
                                                    have c27b0 : decide (x8_4 < (l0.length : Int)) = true := decide_eq_true c27
                                                    clear c27
                                                    replace H := Option.bind_eq_some_iff.mp H
                                                    obtain ⟨t178, A280, H⟩ := H
                                                    replace H : (cinnabarref01_Text.j6 kj15 l0 x4_1 x7_4 x8_4 x9_15 t178) = some (r1, r2) := H
                                                    have A28 := Aside0.mk A280
                                                    clear A280
                                                    have H' := Aside0.mk H
                                                    clear H
                                                    have p176 : 0 ≤ ((ji22) : Int) := of_decide_eq_true (by first | (with_reducible assumption) | assumption)
                                                    have q176 : (ji22) < (l0.length : Int) := of_decide_eq_true (by first | (with_reducible assumption) | assumption)
                                                    obtain ⟨ad176, e176, hx176_0, hx176_1, hx176_2⟩ := at_T35 HR0.out (ji22) p176 q176
                                                    cases e176
                                                    replace hx176_0 := (HB.out.cell (World.block_lt_of_cell? w _ hx176_0)).trans hx176_0
                                                    replace hx176_1 := (HB.out.cell (World.block_lt_of_cell? w _ hx176_1)).trans hx176_1
                                                    replace hx176_2 := (HB.out.cell (World.block_lt_of_cell? w _ hx176_2)).trans hx176_2
                                                    replace p176 := eq_true p176
                                                    replace q176 := eq_true q176
                                                    have p177 : 0 ≤ (x8_4 : Int) := of_decide_eq_true (by first | (with_reducible assumption) | assumption)
                                                    have q177 : x8_4 < (l0.length : Int) := of_decide_eq_true (by first | (with_reducible assumption) | assumption)
                                                    obtain ⟨ad177, e177, hx177_0, hx177_1, hx177_2⟩ := at_T35 HR0.out x8_4 p177 q177
                                                    obtain rfl : ad176 = ad177 := (by injection e177)
                                                    replace hx177_0 := (HB.out.cell (World.block_lt_of_cell? w _ hx177_0)).trans hx177_0
                                                    replace hx177_1 := (HB.out.cell (World.block_lt_of_cell? w _ hx177_1)).trans hx177_1
                                                    replace hx177_2 := (HB.out.cell (World.block_lt_of_cell? w _ hx177_2)).trans hx177_2
                                                    replace p177 := eq_true p177
                                                    replace q177 := eq_true q177
                                                    go_wp2_with (first | (go_at_call 33; (with_reducible refine (cinnabarref01_stated.calls ((rd_T35 l0 x8_4).f0) ((rd_T35 l0 x8_4).f1) ((rd_T35 l0 x8_4).f2) t178 _ A28.out).mono ?_); rintro e w29 ⟨rfl, hb⟩; have n0_ := Aside0.mk (below_step (by repeat (first | (with_reducible first | exact HB.out | apply below_alloc | apply pw_below_drewN | apply below_drew1) | exact HB.out)) hb); clear HB; have HB := n0_; clear n0_; (try clear hb); (try clear hb2); (try clear hk); (try clear hi)))
                                                    go_meet
                                                    case rel => exact ⟨_, (t178), (by first | rfl | (simp; done) | (simp [*]; done) | (simp [show ∀ l : List UInt8, (l != []) = !l.isEmpty from fun l => by cases l <;> rfl]; done)), H', ⟨by have := HJ1.out; have := HK2.out; have := HJ5.out; have := HK4.out; have := HJ15.out; first | omega | exact Nat.le_refl _⟩, ⟨by repeat (first | (with_reducible first | exact HB.out | apply below_alloc | apply pw_below_drewN | apply below_drew1) | exact HB.out)⟩⟩
                                                  · rw [if_neg c27] at H
                                                    exact absurd H (by simp)
                                                · rw [if_neg c26] at H
                                                  exact absurd H (by simp)
                                            · rw [if_neg c25] at H
                                              have c25b0 : (((rd_T35 l0 (ji22)).f0) == 2) = false := beq_eq_false_iff_ne.mpr c25
                                              have c25b1 : (((rd_T35 l0 (ji22)).f0) != 2) = true := bne_iff_ne.mpr c25
                                              have H' := Aside0.mk H
                                              clear H
                                              have p176 : 0 ≤ ((ji22) : Int) := of_decide_eq_true (by first | (with_reducible assumption) | assumption)
                                              have q176 : (ji22) < (l0.length : Int) := of_decide_eq_true (by first | (with_reducible assumption) | assumption)
                                              obtain ⟨ad176, e176, hx176_0, hx176_1, hx176_2⟩ := at_T35 HR0.out (ji22) p176 q176
                                              cases e176
                                              replace hx176_0 := (HB.out.cell (World.block_lt_of_cell? w _ hx176_0)).trans hx176_0
                                              replace hx176_1 := (HB.out.cell (World.block_lt_of_cell? w _ hx176_1)).trans hx176_1
                                              replace hx176_2 := (HB.out.cell (World.block_lt_of_cell? w _ hx176_2)).trans hx176_2
                                              replace p176 := eq_true p176
                                              replace q176 := eq_true q176
                                              go_wp2
                                              go_meet
                                              case rel => exact ⟨_, (false), (by first | rfl | (simp; done) | (simp [*]; done) | (simp [show ∀ l : List UInt8, (l != []) = !l.isEmpty from fun l => by cases l <;> rfl]; done)), H', ⟨by have := HJ1.out; have := HK2.out; have := HJ5.out; have := HK4.out; have := HJ15.out; first | omega | exact Nat.le_refl _⟩, ⟨by repeat (first | (with_reducible first | exact HB.out | apply below_alloc | apply pw_below_drewN | apply below_drew1) | exact HB.out)⟩⟩
                                        · rw [if_neg c24] at H
                                          exact absurd H (by simp)
                                    · rw [if_neg c23] at H
                                      exact absurd H (by simp)
                                · rw [if_neg c21] at H
                                  have c21b0 : decide ((wrap64 (x8_4 + 1)) < x4_1) = false := decide_eq_false c21
                                  clear c21
                                  (first | rw [c21b0] | (simp only [i64_w, i32_w]; rw [c21b0]) | skip)
                                  have H' := Aside0.mk H
                                  clear H
                                  go_wp2
                                  go_meet
                                  case rel => exact ⟨_, (false), (by first | rfl | (simp; done) | (simp [*]; done) | (simp [show ∀ l : List UInt8, (l != []) = !l.isEmpty from fun l => by cases l <;> rfl]; done)), H', ⟨by have := HJ1.out; have := HK2.out; have := HJ5.out; have := HK4.out; have := HJ15.out; first | omega | exact Nat.le_refl _⟩, ⟨by repeat (first | (with_reducible first | exact HB.out | apply below_alloc | apply pw_below_drewN | apply below_drew1) | exact HB.out)⟩⟩
                              case rest =>
                                clear HC20
                                try clear c1
                                try clear p1
                                try clear q1
                                try clear hx1
                                try clear c2
                                try clear p2
                                try clear c3
                                try clear c3b0
                                try clear c4
                                try clear c4b0
                                try clear c5
                                try clear c5b0
                                try clear c5b1
                                try clear p6
                                try clear c7
                                try clear c7b0
                                try clear c8
                                try clear c9
                                try clear c9b0
                                try clear c10
                                try clear c10b0
                                try clear c12
                                try clear c12b0
                                try clear c12b1
                                try clear c15
                                try clear c15b0
                                try clear c17
                                try clear c17b0
                                try clear p17
                                try clear q17
                                try clear hx17
                                try clear c18
                                try clear c18b0
                                try clear c19
                                try clear c19b0
                                try clear c19b1
                                try clear c21
                                try clear c21b0
                                try clear c23
                                try clear c23b0
                                try clear c24
                                try clear c24b0
                                try clear c25
                                try clear c25b0
                                try clear c25b1
                                try clear c26
                                try clear c26b0
                                try clear c27
                                try clear c27b0
                                try clear hx171_0
                                try clear hx171_1
                                try clear hx171_2
                                try clear hx172_0
                                try clear hx172_1
                                try clear hx172_2
                                try clear hx174_0
                                try clear hx174_1
                                try clear hx174_2
                                try clear hx175_0
                                try clear hx175_1
                                try clear hx175_2
                                try clear hx176_0
                                try clear hx176_1
                                try clear hx176_2
                                try clear hx177_0
                                try clear hx177_1
                                try clear hx177_2
                                try clear p1
                                try clear p17
                                try clear p171
                                try clear p172
                                try clear p174
                                try clear p175
                                try clear p176
                                try clear p177
                                try clear p2
                                try clear p6
                                try clear q1
                                try clear q17
                                try clear q171
                                try clear q172
                                try clear q174
                                try clear q175
                                try clear q176
                                try clear q177
                                obtain ⟨kq, x10_19, rfl, HA, HJ19, HB⟩ := hcut
                                cases kq with
                                | zero => exact absurd HA.out (by simp [cinnabarref01_Text.j6])
                                | succ kj19 =>
                                  have H := HA.out
                                  clear HA
                                  simp only [cinnabarref01_Text.j6] at H
                                  have HC30 := Aside0.mk H
                                  clear H
                                  go_upto_region 16 with (fail)
                                  go_cut [125] (fun v125 wc => ∃ (kq : Nat) (x125_29 : Bool), v125 = .bool x125_29 ∧ Aside0 (cinnabarref01_Text.j7 kq l0 x4_1 x7_4 x8_4 x9_15 x10_19 x125_29 = some (r1, r2)) ∧ Aside0 (kq ≤ kj19) ∧ Aside0 (Below w.heap.size w wc))
                                  case first =>
                                    have H := HC30.out
                                    clear HC30
                                    by_cases c31 : x9_15 = true
                                    · as_aux_lemma =>
                                        subst c31
                                        have H1 : (if x8_4 = 0 then (cinnabarref01_Text.j7 kj19 l0 x4_1 x7_4 x8_4 true x10_19 true) else (if 0 ≤ (wrap64 (x8_4 - 1)) then (if (wrap64 (x8_4 - 1)) < (l0.length : Int) then (if ((rd_T35 l0 (wrap64 (x8_4 - 1))).f0) = 1 then (if x10_19 = true then (cinnabarref01_Text.j7 kj19 l0 x4_1 x7_4 x8_4 true x10_19 false) else (if 0 ≤ x8_4 then (if x8_4 < (l0.length : Int) then (if ((rd_T35 l0 x8_4).f0) = 1 then (cinnabarref01_Text.j7 kj19 l0 x4_1 x7_4 x8_4 true x10_19 (((rd_T35 l0 x8_4).f1).toList == ([33, 46] : List UInt8))) else (cinnabarref01_Text.j7 kj19 l0 x4_1 x7_4 x8_4 true x10_19 false)) else (none)) else (none))) else (if ((rd_T35 l0 (wrap64 (x8_4 - 1))).f0) = 2 then (if x10_19 = true then (cinnabarref01_Text.j7 kj19 l0 x4_1 x7_4 x8_4 true x10_19 false) else (if 0 ≤ x8_4 then (if x8_4 < (l0.length : Int) then (if ((rd_T35 l0 x8_4).f0) = 1 then (cinnabarref01_Text.j7 kj19 l0 x4_1 x7_4 x8_4 true x10_19 (((rd_T35 l0 x8_4).f1).toList == ([33, 46] : List UInt8))) else (cinnabarref01_Text.j7 kj19 l0 x4_1 x7_4 x8_4 true x10_19 false)) else (none)) else (none))) else (cinnabarref01_Text.j7 kj19 l0 x4_1 x7_4 x8_4 true x10_19 true))) else (none)) else (none))) = some (r1, r2) := by rw [if_pos rfl] at H; exact H
                                        clear H
                                        have H := H1
                                        clear H1
                                        by_cases c32 : x8_4 = 0
                                        · rw [if_pos c32] at H
                                          have c32b0 : (x8_4 == 0) = true := beq_iff_eq.mpr c32
                                          have c32b1 : (x8_4 != 0) = false := bne_eq_false_iff_eq.mpr c32
                                          clear c32
                                          (first | rw [c32b0] | (simp only [i64_w, i32_w]; rw [c32b0]) | skip)
                                          have H' := Aside0.mk H
                                          clear H
                                          go_wp2
                                          go_meet
                                          case rel => exact ⟨_, (true), (by first | rfl | (simp; done) | (simp [*]; done) | (simp [show ∀ l : List UInt8, (l != []) = !l.isEmpty from fun l => by cases l <;> rfl]; done)), H', ⟨by have := HJ1.out; have := HK2.out; have := HJ5.out; have := HK4.out; have := HJ15.out; have := HJ19.out; first | omega | exact Nat.le_refl _⟩, ⟨by repeat (first | (with_reducible first | exact HB.out | apply below_alloc | apply pw_below_drewN | apply below_drew1) | exact HB.out)⟩⟩
                                        · as_aux_lemma =>
                                            rw [if_neg c32] at H
                                            have c32b0 : (x8_4 == 0) = false := beq_eq_false_iff_ne.mpr c32
                                            have c32b1 : (x8_4 != 0) = true := bne_iff_ne.mpr c32
                                            (first | rw [c32b0] | (simp only [i64_w, i32_w]; rw [c32b0]) | skip)
                                            obtain ⟨ji33, hji33⟩ : ∃ j_ : Int, (wrap64 (x8_4 - 1)) = j_ := ⟨_, rfl⟩
                                            replace H : (if 0 ≤ (ji33) then (if (ji33) < (l0.length : Int) then (if ((rd_T35 l0 (ji33)).f0) = 1 then (if x10_19 = true then (cinnabarref01_Text.j7 kj19 l0 x4_1 x7_4 x8_4 true x10_19 false) else (if 0 ≤ x8_4 then (if x8_4 < (l0.length : Int) then (if ((rd_T35 l0 x8_4).f0) = 1 then (cinnabarref01_Text.j7 kj19 l0 x4_1 x7_4 x8_4 true x10_19 (((rd_T35 l0 x8_4).f1).toList == ([33, 46] : List UInt8))) else (cinnabarref01_Text.j7 kj19 l0 x4_1 x7_4 x8_4 true x10_19 false)) else (none)) else (none))) else (if ((rd_T35 l0 (ji33)).f0) = 2 then (if x10_19 = true then (cinnabarref01_Text.j7 kj19 l0 x4_1 x7_4 x8_4 true x10_19 false) else (if 0 ≤ x8_4 then (if x8_4 < (l0.length : Int) then (if ((rd_T35 l0 x8_4).f0) = 1 then (cinnabarref01_Text.j7 kj19 l0 x4_1 x7_4 x8_4 true x10_19 (((rd_T35 l0 x8_4).f1).toList == ([33, 46] : List UInt8))) else (cinnabarref01_Text.j7 kj19 l0 x4_1 x7_4 x8_4 true x10_19 false)) else (none)) else (none))) else (cinnabarref01_Text.j7 kj19 l0 x4_1 x7_4 x8_4 true x10_19 true))) else (none)) else (none)) = some (r1, r2) := by first | (rw [hji33] at H; exact H) | (simp only [hji33] at H ⊢; exact H)
                                            have hji33w : (IntKind.i64.wrap (x8_4 - 1)) = ji33 := (i64_w _).trans hji33
                                            by_cases c34 : 0 ≤ (ji33)
                                            · as_aux_lemma =>
                                                rw [if_pos c34] at H
                                                have c34b0 : decide (0 ≤ (ji33)) = true := decide_eq_true c34
                                                clear c34
                                                by_cases c35 : (ji33) < (l0.length : Int)
                                                · as_aux_lemma =>
                                                    rw [if_pos c35] at H
                                                    have c35b0 : decide ((ji33) < (l0.length : Int)) = true := decide_eq_true c35
                                                    clear c35
                                                    by_cases c36 : ((rd_T35 l0 (ji33)).f0) = 1
                                                    · as_aux_lemma =>
                                                        rw [if_pos c36] at H
                                                        have c36b0 : (((rd_T35 l0 (ji33)).f0) == 1) = true := beq_iff_eq.mpr c36
                                                        have c36b1 : (((rd_T35 l0 (ji33)).f0) != 1) = false := bne_eq_false_iff_eq.mpr c36
                                                        clear c36
                                                        by_cases c37 : x10_19 = true
                                                        · subst c37
                                                          have H1 : (cinnabarref01_Text.j7 kj19 l0 x4_1 x7_4 x8_4 true true false) = some (r1, r2) := by rw [if_pos rfl] at H; exact H
                                                          clear H
                                                          have H := H1
                                                          clear H1
                                                          have H' := Aside0.mk H
                                                          clear H
                                                          have p179 : 0 ≤ ((ji33) : Int) := of_decide_eq_true (by first | (with_reducible assumption) | assumption)
                                                          have q179 : (ji33) < (l0.length : Int) := of_decide_eq_true (by first | (with_reducible assumption) | assumption)
                                                          obtain ⟨ad179, e179, hx179_0, hx179_1, hx179_2⟩ := at_T35 HR0.out (ji33) p179 q179
                                                          cases e179
                                                          replace hx179_0 := (HB.out.cell (World.block_lt_of_cell? w _ hx179_0)).trans hx179_0
                                                          replace hx179_1 := (HB.out.cell (World.block_lt_of_cell? w _ hx179_1)).trans hx179_1
                                                          replace hx179_2 := (HB.out.cell (World.block_lt_of_cell? w _ hx179_2)).trans hx179_2
                                                          replace p179 := eq_true p179
                                                          replace q179 := eq_true q179
                                                          go_wp2
                                                          go_meet
                                                          case rel => exact ⟨_, (false), (by first | rfl | (simp; done) | (simp [*]; done) | (simp [show ∀ l : List UInt8, (l != []) = !l.isEmpty from fun l => by cases l <;> rfl]; done)), H', ⟨by have := HJ1.out; have := HK2.out; have := HJ5.out; have := HK4.out; have := HJ15.out; have := HJ19.out; first | omega | exact Nat.le_refl _⟩, ⟨by repeat (first | (with_reducible first | exact HB.out | apply below_alloc | apply pw_below_drewN | apply below_drew1) | exact HB.out)⟩⟩
                                                        · as_aux_lemma =>
                                                            replace c37 := Bool.eq_false_iff.mpr c37
                                                            subst c37
                                                            have H1 : (if 0 ≤ x8_4 then (if x8_4 < (l0.length : Int) then (if ((rd_T35 l0 x8_4).f0) = 1 then (cinnabarref01_Text.j7 kj19 l0 x4_1 x7_4 x8_4 true false (((rd_T35 l0 x8_4).f1).toList == ([33, 46] : List UInt8))) else (cinnabarref01_Text.j7 kj19 l0 x4_1 x7_4 x8_4 true false false)) else (none)) else (none)) = some (r1, r2) := by rw [if_neg (show ¬ (false = true) by decide)] at H; exact H
                                                            clear H
                                                            have H := H1
                                                            clear H1
                                                            by_cases c38 : 0 ≤ x8_4
                                                            · as_aux_lemma =>
                                                                rw [if_pos c38] at H
                                                                have c38b0 : decide (0 ≤ x8_4) = true := decide_eq_true c38
                                                                clear c38
                                                                by_cases c39 : x8_4 < (l0.length : Int)
                                                                · as_aux_lemma =>
                                                                    rw [if_pos c39] at H
                                                                    have c39b0 : decide (x8_4 < (l0.length : Int)) = true := decide_eq_true c39
                                                                    clear c39
                                                                    by_cases c40 : ((rd_T35 l0 x8_4).f0) = 1
                                                                    · rw [if_pos c40] at H
                                                                      have c40b0 : (((rd_T35 l0 x8_4).f0) == 1) = true := beq_iff_eq.mpr c40
                                                                      have c40b1 : (((rd_T35 l0 x8_4).f0) != 1) = false := bne_eq_false_iff_eq.mpr c40
                                                                      clear c40
                                                                      have H' := Aside0.mk H
                                                                      clear H
                                                                      have p179 : 0 ≤ ((ji33) : Int) := of_decide_eq_true (by first | (with_reducible assumption) | assumption)
                                                                      have q179 : (ji33) < (l0.length : Int) := of_decide_eq_true (by first | (with_reducible assumption) | assumption)
                                                                      obtain ⟨ad179, e179, hx179_0, hx179_1, hx179_2⟩ := at_T35 HR0.out (ji33) p179 q179
                                                                      cases e179
                                                                      replace hx179_0 := (HB.out.cell (World.block_lt_of_cell? w _ hx179_0)).trans hx179_0
                                                                      replace hx179_1 := (HB.out.cell (World.block_lt_of_cell? w _ hx179_1)).trans hx179_1
                                                                      replace hx179_2 := (HB.out.cell (World.block_lt_of_cell? w _ hx179_2)).trans hx179_2
                                                                      replace p179 := eq_true p179
                                                                      replace q179 := eq_true q179
                                                                      have p180 : 0 ≤ (x8_4 : Int) := of_decide_eq_true (by first | (with_reducible assumption) | assumption)
                                                                      have q180 : x8_4 < (l0.length : Int) := of_decide_eq_true (by first | (with_reducible assumption) | assumption)
                                                                      obtain ⟨ad180, e180, hx180_0, hx180_1, hx180_2⟩ := at_T35 HR0.out x8_4 p180 q180
                                                                      obtain rfl : ad179 = ad180 := (by injection e180)
                                                                      replace hx180_0 := (HB.out.cell (World.block_lt_of_cell? w _ hx180_0)).trans hx180_0
                                                                      replace hx180_1 := (HB.out.cell (World.block_lt_of_cell? w _ hx180_1)).trans hx180_1
                                                                      replace hx180_2 := (HB.out.cell (World.block_lt_of_cell? w _ hx180_2)).trans hx180_2
                                                                      replace p180 := eq_true p180
                                                                      replace q180 := eq_true q180
                                                                      have p181 : 0 ≤ (x8_4 : Int) := of_decide_eq_true (by first | (with_reducible assumption) | assumption)
                                                                      have q181 : x8_4 < (l0.length : Int) := of_decide_eq_true (by first | (with_reducible assumption) | assumption)
                                                                      obtain ⟨ad181, e181, hx181_0, hx181_1, hx181_2⟩ := at_T35 HR0.out x8_4 p181 q181
                                                                      obtain rfl : ad179 = ad181 := (by injection e181)
                                                                      replace hx181_0 := (HB.out.cell (World.block_lt_of_cell? w _ hx181_0)).trans hx181_0
                                                                      replace hx181_1 := (HB.out.cell (World.block_lt_of_cell? w _ hx181_1)).trans hx181_1
                                                                      replace hx181_2 := (HB.out.cell (World.block_lt_of_cell? w _ hx181_2)).trans hx181_2
                                                                      replace p181 := eq_true p181
                                                                      replace q181 := eq_true q181
                                                                      go_wp2
                                                                      go_meet
                                                                      case rel => exact ⟨_, ((((rd_T35 l0 x8_4).f1).toList == ([33, 46] : List UInt8))), (by first | rfl | (simp; done) | (simp [*]; done) | (simp [show ∀ l : List UInt8, (l != []) = !l.isEmpty from fun l => by cases l <;> rfl]; done)), H', ⟨by have := HJ1.out; have := HK2.out; have := HJ5.out; have := HK4.out; have := HJ15.out; have := HJ19.out; first | omega | exact Nat.le_refl _⟩, ⟨by repeat (first | (with_reducible first | exact HB.out | apply below_alloc | apply pw_below_drewN | apply below_drew1) | exact HB.out)⟩⟩
                                                                    · rw [if_neg c40] at H
                                                                      have c40b0 : (((rd_T35 l0 x8_4).f0) == 1) = false := beq_eq_false_iff_ne.mpr c40
                                                                      have c40b1 : (((rd_T35 l0 x8_4).f0) != 1) = true := bne_iff_ne.mpr c40
                                                                      have H' := Aside0.mk H
                                                                      clear H
                                                                      have p179 : 0 ≤ ((ji33) : Int) := of_decide_eq_true (by first | (with_reducible assumption) | assumption)
                                                                      have q179 : (ji33) < (l0.length : Int) := of_decide_eq_true (by first | (with_reducible assumption) | assumption)
                                                                      obtain ⟨ad179, e179, hx179_0, hx179_1, hx179_2⟩ := at_T35 HR0.out (ji33) p179 q179
                                                                      cases e179
                                                                      replace hx179_0 := (HB.out.cell (World.block_lt_of_cell? w _ hx179_0)).trans hx179_0
                                                                      replace hx179_1 := (HB.out.cell (World.block_lt_of_cell? w _ hx179_1)).trans hx179_1
                                                                      replace hx179_2 := (HB.out.cell (World.block_lt_of_cell? w _ hx179_2)).trans hx179_2
                                                                      replace p179 := eq_true p179
                                                                      replace q179 := eq_true q179
                                                                      have p180 : 0 ≤ (x8_4 : Int) := of_decide_eq_true (by first | (with_reducible assumption) | assumption)
                                                                      have q180 : x8_4 < (l0.length : Int) := of_decide_eq_true (by first | (with_reducible assumption) | assumption)
                                                                      obtain ⟨ad180, e180, hx180_0, hx180_1, hx180_2⟩ := at_T35 HR0.out x8_4 p180 q180
                                                                      obtain rfl : ad179 = ad180 := (by injection e180)
                                                                      replace hx180_0 := (HB.out.cell (World.block_lt_of_cell? w _ hx180_0)).trans hx180_0
                                                                      replace hx180_1 := (HB.out.cell (World.block_lt_of_cell? w _ hx180_1)).trans hx180_1
                                                                      replace hx180_2 := (HB.out.cell (World.block_lt_of_cell? w _ hx180_2)).trans hx180_2
                                                                      replace p180 := eq_true p180
                                                                      replace q180 := eq_true q180
                                                                      go_wp2
                                                                      go_meet
                                                                      case rel => exact ⟨_, (false), (by first | rfl | (simp; done) | (simp [*]; done) | (simp [show ∀ l : List UInt8, (l != []) = !l.isEmpty from fun l => by cases l <;> rfl]; done)), H', ⟨by have := HJ1.out; have := HK2.out; have := HJ5.out; have := HK4.out; have := HJ15.out; have := HJ19.out; first | omega | exact Nat.le_refl _⟩, ⟨by repeat (first | (with_reducible first | exact HB.out | apply below_alloc | apply pw_below_drewN | apply below_drew1) | exact HB.out)⟩⟩
                                                                · rw [if_neg c39] at H
                                                                  exact absurd H (by simp)
                                                            · rw [if_neg c38] at H
                                                              exact absurd H (by simp)
                                                    · as_aux_lemma =>
                                                        rw [if_neg c36] at H
                                                        have c36b0 : (((rd_T35 l0 (ji33)).f0) == 1) = false := beq_eq_false_iff_ne.mpr c36
                                                        have c36b1 : (((rd_T35 l0 (ji33)).f0) != 1) = true := bne_iff_ne.mpr c36
                                                        by_cases c41 : ((rd_T35 l0 (ji33)).f0) = 2
                                                        · as_aux_lemma =>
                                                            rw [if_pos c41] at H
                                                            have c41b0 : (((rd_T35 l0 (ji33)).f0) == 2) = true := beq_iff_eq.mpr c41
                                                            have c41b1 : (((rd_T35 l0 (ji33)).f0) != 2) = false := bne_eq_false_iff_eq.mpr c41
                                                            clear c41
                                                            by_cases c42 : x10_19 = true
                                                            · subst c42
                                                              have H1 : (cinnabarref01_Text.j7 kj19 l0 x4_1 x7_4 x8_4 true true false) = some (r1, r2) := by rw [if_pos rfl] at H; exact H
                                                              clear H
                                                              have H := H1
                                                              clear H1
                                                              have H' := Aside0.mk H
                                                              clear H
                                                              have p179 : 0 ≤ ((ji33) : Int) := of_decide_eq_true (by first | (with_reducible assumption) | assumption)
                                                              have q179 : (ji33) < (l0.length : Int) := of_decide_eq_true (by first | (with_reducible assumption) | assumption)
                                                              obtain ⟨ad179, e179, hx179_0, hx179_1, hx179_2⟩ := at_T35 HR0.out (ji33) p179 q179
                                                              cases e179
                                                              replace hx179_0 := (HB.out.cell (World.block_lt_of_cell? w _ hx179_0)).trans hx179_0
                                                              replace hx179_1 := (HB.out.cell (World.block_lt_of_cell? w _ hx179_1)).trans hx179_1
                                                              replace hx179_2 := (HB.out.cell (World.block_lt_of_cell? w _ hx179_2)).trans hx179_2
                                                              replace p179 := eq_true p179
                                                              replace q179 := eq_true q179
                                                              have p182 : 0 ≤ ((ji33) : Int) := of_decide_eq_true (by first | (with_reducible assumption) | assumption)
                                                              have q182 : (ji33) < (l0.length : Int) := of_decide_eq_true (by first | (with_reducible assumption) | assumption)
                                                              obtain ⟨ad182, e182, hx182_0, hx182_1, hx182_2⟩ := at_T35 HR0.out (ji33) p182 q182
                                                              obtain rfl : ad179 = ad182 := (by injection e182)
                                                              replace hx182_0 := (HB.out.cell (World.block_lt_of_cell? w _ hx182_0)).trans hx182_0
                                                              replace hx182_1 := (HB.out.cell (World.block_lt_of_cell? w _ hx182_1)).trans hx182_1
                                                              replace hx182_2 := (HB.out.cell (World.block_lt_of_cell? w _ hx182_2)).trans hx182_2
                                                              replace p182 := eq_true p182
                                                              replace q182 := eq_true q182
                                                              go_wp2
                                                              go_meet
                                                              case rel => exact ⟨_, (false), (by first | rfl | (simp; done) | (simp [*]; done) | (simp [show ∀ l : List UInt8, (l != []) = !l.isEmpty from fun l => by cases l <;> rfl]; done)), H', ⟨by have := HJ1.out; have := HK2.out; have := HJ5.out; have := HK4.out; have := HJ15.out; have := HJ19.out; first | omega | exact Nat.le_refl _⟩, ⟨by repeat (first | (with_reducible first | exact HB.out | apply below_alloc | apply pw_below_drewN | apply below_drew1) | exact HB.out)⟩⟩
                                                            · as_aux_lemma =>
                                                                replace c42 := Bool.eq_false_iff.mpr c42
                                                                subst c42
                                                                have H1 : (if 0 ≤ x8_4 then (if x8_4 < (l0.length : Int) then (if ((rd_T35 l0 x8_4).f0) = 1 then (cinnabarref01_Text.j7 kj19 l0 x4_1 x7_4 x8_4 true false (((rd_T35 l0 x8_4).f1).toList == ([33, 46] : List UInt8))) else (cinnabarref01_Text.j7 kj19 l0 x4_1 x7_4 x8_4 true false false)) else (none)) else (none)) = some (r1, r2) := by rw [if_neg (show ¬ (false = true) by decide)] at H; exact H
                                                                clear H
                                                                have H := H1
                                                                clear H1
                                                                by_cases c43 : 0 ≤ x8_4
                                                                · as_aux_lemma =>
                                                                    rw [if_pos c43] at H
                                                                    have c43b0 : decide (0 ≤ x8_4) = true := decide_eq_true c43
                                                                    clear c43
                                                                    by_cases c44 : x8_4 < (l0.length : Int)
                                                                    · as_aux_lemma =>
                                                                        rw [if_pos c44] at H
                                                                        have c44b0 : decide (x8_4 < (l0.length : Int)) = true := decide_eq_true c44
                                                                        clear c44
                                                                        by_cases c45 : ((rd_T35 l0 x8_4).f0) = 1
                                                                        · as_aux_lemma =>
                                                                            rw [if_pos c45] at H
                                                                            have c45b0 : (((rd_T35 l0 x8_4).f0) == 1) = true := beq_iff_eq.mpr c45
                                                                            have c45b1 : (((rd_T35 l0 x8_4).f0) != 1) = false := bne_eq_false_iff_eq.mpr c45
                                                                            clear c45
                                                                            have H' := Aside0.mk H
                                                                            clear H
                                                                            have p179 : 0 ≤ ((ji33) : Int) := of_decide_eq_true (by first | (with_reducible assumption) | assumption)
                                                                            have q179 : (ji33) < (l0.length : Int) := of_decide_eq_true (by first | (with_reducible assumption) | assumption)
                                                                            obtain ⟨ad179, e179, hx179_0, hx179_1, hx179_2⟩ := at_T35 HR0.out (ji33) p179 q179
                                                                            cases e179
                                                                            replace hx179_0 := (HB.out.cell (World.block_lt_of_cell? w _ hx179_0)).trans hx179_0
                                                                            replace hx179_1 := (HB.out.cell (World.block_lt_of_cell? w _ hx179_1)).trans hx179_1
                                                                            replace hx179_2 := (HB.out.cell (World.block_lt_of_cell? w _ hx179_2)).trans hx179_2
                                                                            replace p179 := eq_true p179
                                                                            replace q179 := eq_true q179
                                                                            have p182 : 0 ≤ ((ji33) : Int) := of_decide_eq_true (by first | (with_reducible assumption) | assumption)
                                                                            have q182 : (ji33) < (l0.length : Int) := of_decide_eq_true (by first | (with_reducible assumption) | assumption)
                                                                            obtain ⟨ad182, e182, hx182_0, hx182_1, hx182_2⟩ := at_T35 HR0.out (ji33) p182 q182
                                                                            obtain rfl : ad179 = ad182 := (by injection e182)
                                                                            replace hx182_0 := (HB.out.cell (World.block_lt_of_cell? w _ hx182_0)).trans hx182_0
                                                                            replace hx182_1 := (HB.out.cell (World.block_lt_of_cell? w _ hx182_1)).trans hx182_1
                                                                            replace hx182_2 := (HB.out.cell (World.block_lt_of_cell? w _ hx182_2)).trans hx182_2
                                                                            replace p182 := eq_true p182
                                                                            replace q182 := eq_true q182
                                                                            have p183 : 0 ≤ (x8_4 : Int) := of_decide_eq_true (by first | (with_reducible assumption) | assumption)
                                                                            have q183 : x8_4 < (l0.length : Int) := of_decide_eq_true (by first | (with_reducible assumption) | assumption)
                                                                            obtain ⟨ad183, e183, hx183_0, hx183_1, hx183_2⟩ := at_T35 HR0.out x8_4 p183 q183
                                                                            obtain rfl : ad179 = ad183 := (by injection e183)
                                                                            replace hx183_0 := (HB.out.cell (World.block_lt_of_cell? w _ hx183_0)).trans hx183_0
                                                                            replace hx183_1 := (HB.out.cell (World.block_lt_of_cell? w _ hx183_1)).trans hx183_1
                                                                            replace hx183_2 := (HB.out.cell (World.block_lt_of_cell? w _ hx183_2)).trans hx183_2
                                                                            replace p183 := eq_true p183
                                                                            replace q183 := eq_true q183
                                                                            have p184 : 0 ≤ (x8_4 : Int) := of_decide_eq_true (by first | (with_reducible assumption) | assumption)
                                                                            have q184 : x8_4 < (l0.length : Int) := of_decide_eq_true (by first | (with_reducible assumption) | assumption)
                                                                            obtain ⟨ad184, e184, hx184_0, hx184_1, hx184_2⟩ := at_T35 HR0.out x8_4 p184 q184
                                                                            obtain rfl : ad179 = ad184 := (by injection e184)
                                                                            replace hx184_0 := (HB.out.cell (World.block_lt_of_cell? w _ hx184_0)).trans hx184_0
                                                                            replace hx184_1 := (HB.out.cell (World.block_lt_of_cell? w _ hx184_1)).trans hx184_1
                                                                            replace hx184_2 := (HB.out.cell (World.block_lt_of_cell? w _ hx184_2)).trans hx184_2
                                                                            replace p184 := eq_true p184
                                                                            replace q184 := eq_true q184
                                                                            go_wp2
                                                                            go_meet
                                                                            case rel => exact ⟨_, ((((rd_T35 l0 x8_4).f1).toList == ([33, 46] : List UInt8))), (by first | rfl | (simp; done) | (simp [*]; done) | (simp [show ∀ l : List UInt8, (l != []) = !l.isEmpty from fun l => by cases l <;> rfl]; done)), H', ⟨by have := HJ1.out; have := HK2.out; have := HJ5.out; have := HK4.out; have := HJ15.out; have := HJ19.out; first | omega | exact Nat.le_refl _⟩, ⟨by repeat (first | (with_reducible first | exact HB.out | apply below_alloc | apply pw_below_drewN | apply below_drew1) | exact HB.out)⟩⟩
                                                                        · rw [if_neg c45] at H
                                                                          have c45b0 : (((rd_T35 l0 x8_4).f0) == 1) = false := beq_eq_false_iff_ne.mpr c45
                                                                          have c45b1 : (((rd_T35 l0 x8_4).f0) != 1) = true := bne_iff_ne.mpr c45
                                                                          have H' := Aside0.mk H
                                                                          clear H
                                                                          have p179 : 0 ≤ ((ji33) : Int) := of_decide_eq_true (by first | (with_reducible assumption) | assumption)
                                                                          have q179 : (ji33) < (l0.length : Int) := of_decide_eq_true (by first | (with_reducible assumption) | assumption)
                                                                          obtain ⟨ad179, e179, hx179_0, hx179_1, hx179_2⟩ := at_T35 HR0.out (ji33) p179 q179
                                                                          cases e179
                                                                          replace hx179_0 := (HB.out.cell (World.block_lt_of_cell? w _ hx179_0)).trans hx179_0
                                                                          replace hx179_1 := (HB.out.cell (World.block_lt_of_cell? w _ hx179_1)).trans hx179_1
                                                                          replace hx179_2 := (HB.out.cell (World.block_lt_of_cell? w _ hx179_2)).trans hx179_2
                                                                          replace p179 := eq_true p179
                                                                          replace q179 := eq_true q179
                                                                          have p182 : 0 ≤ ((ji33) : Int) := of_decide_eq_true (by first | (with_reducible assumption) | assumption)
                                                                          have q182 : (ji33) < (l0.length : Int) := of_decide_eq_true (by first | (with_reducible assumption) | assumption)
                                                                          obtain ⟨ad182, e182, hx182_0, hx182_1, hx182_2⟩ := at_T35 HR0.out (ji33) p182 q182
                                                                          obtain rfl : ad179 = ad182 := (by injection e182)
                                                                          replace hx182_0 := (HB.out.cell (World.block_lt_of_cell? w _ hx182_0)).trans hx182_0
                                                                          replace hx182_1 := (HB.out.cell (World.block_lt_of_cell? w _ hx182_1)).trans hx182_1
                                                                          replace hx182_2 := (HB.out.cell (World.block_lt_of_cell? w _ hx182_2)).trans hx182_2
                                                                          replace p182 := eq_true p182
                                                                          replace q182 := eq_true q182
                                                                          have p183 : 0 ≤ (x8_4 : Int) := of_decide_eq_true (by first | (with_reducible assumption) | assumption)
                                                                          have q183 : x8_4 < (l0.length : Int) := of_decide_eq_true (by first | (with_reducible assumption) | assumption)
                                                                          obtain ⟨ad183, e183, hx183_0, hx183_1, hx183_2⟩ := at_T35 HR0.out x8_4 p183 q183
                                                                          obtain rfl : ad179 = ad183 := (by injection e183)
                                                                          replace hx183_0 := (HB.out.cell (World.block_lt_of_cell? w _ hx183_0)).trans hx183_0
                                                                          replace hx183_1 := (HB.out.cell (World.block_lt_of_cell? w _ hx183_1)).trans hx183_1
                                                                          replace hx183_2 := (HB.out.cell (World.block_lt_of_cell? w _ hx183_2)).trans hx183_2
                                                                          replace p183 := eq_true p183
                                                                          replace q183 := eq_true q183
                                                                          go_wp2
                                                                          go_meet
                                                                          case rel => exact ⟨_, (false), (by first | rfl | (simp; done) | (simp [*]; done) | (simp [show ∀ l : List UInt8, (l != []) = !l.isEmpty from fun l => by cases l <;> rfl]; done)), H', ⟨by have := HJ1.out; have := HK2.out; have := HJ5.out; have := HK4.out; have := HJ15.out; have := HJ19.out; first | omega | exact Nat.le_refl _⟩, ⟨by repeat (first | (with_reducible first | exact HB.out | apply below_alloc | apply pw_below_drewN | apply below_drew1) | exact HB.out)⟩⟩
                                                                    · rw [if_neg c44] at H
                                                                      exact absurd H (by simp)
                                                                · rw [if_neg c43] at H
                                                                  exact absurd H (by simp)
                                                        · rw [if_neg c41] at H
                                                          have c41b0 : (((rd_T35 l0 (ji33)).f0) == 2) = false := beq_eq_false_iff_ne.mpr c41
                                                          have c41b1 : (((rd_T35 l0 (ji33)).f0) != 2) = true := bne_iff_ne.mpr c41
                                                          have H' := Aside0.mk H
                                                          clear H
                                                          have p179 : 0 ≤ ((ji33) : Int) := of_decide_eq_true (by first | (with_reducible assumption) | assumption)
                                                          have q179 : (ji33) < (l0.length : Int) := of_decide_eq_true (by first | (with_reducible assumption) | assumption)
                                                          obtain ⟨ad179, e179, hx179_0, hx179_1, hx179_2⟩ := at_T35 HR0.out (ji33) p179 q179
                                                          cases e179
                                                          replace hx179_0 := (HB.out.cell (World.block_lt_of_cell? w _ hx179_0)).trans hx179_0
                                                          replace hx179_1 := (HB.out.cell (World.block_lt_of_cell? w _ hx179_1)).trans hx179_1
                                                          replace hx179_2 := (HB.out.cell (World.block_lt_of_cell? w _ hx179_2)).trans hx179_2
                                                          replace p179 := eq_true p179
                                                          replace q179 := eq_true q179
                                                          have p182 : 0 ≤ ((ji33) : Int) := of_decide_eq_true (by first | (with_reducible assumption) | assumption)
                                                          have q182 : (ji33) < (l0.length : Int) := of_decide_eq_true (by first | (with_reducible assumption) | assumption)
                                                          obtain ⟨ad182, e182, hx182_0, hx182_1, hx182_2⟩ := at_T35 HR0.out (ji33) p182 q182
                                                          obtain rfl : ad179 = ad182 := (by injection e182)
                                                          replace hx182_0 := (HB.out.cell (World.block_lt_of_cell? w _ hx182_0)).trans hx182_0
                                                          replace hx182_1 := (HB.out.cell (World.block_lt_of_cell? w _ hx182_1)).trans hx182_1
                                                          replace hx182_2 := (HB.out.cell (World.block_lt_of_cell? w _ hx182_2)).trans hx182_2
                                                          replace p182 := eq_true p182
                                                          replace q182 := eq_true q182
                                                          go_wp2
                                                          go_meet
                                                          case rel => exact ⟨_, (true), (by first | rfl | (simp; done) | (simp [*]; done) | (simp [show ∀ l : List UInt8, (l != []) = !l.isEmpty from fun l => by cases l <;> rfl]; done)), H', ⟨by have := HJ1.out; have := HK2.out; have := HJ5.out; have := HK4.out; have := HJ15.out; have := HJ19.out; first | omega | exact Nat.le_refl _⟩, ⟨by repeat (first | (with_reducible first | exact HB.out | apply below_alloc | apply pw_below_drewN | apply below_drew1) | exact HB.out)⟩⟩
                                                · rw [if_neg c35] at H
                                                  exact absurd H (by simp)
                                            · rw [if_neg c34] at H
                                              exact absurd H (by simp)
                                    · as_aux_lemma =>
                                        replace c31 := Bool.eq_false_iff.mpr c31
                                        subst c31
                                        have H1 : (if x10_19 = true then (cinnabarref01_Text.j7 kj19 l0 x4_1 x7_4 x8_4 false x10_19 false) else (if 0 ≤ x8_4 then (if x8_4 < (l0.length : Int) then (if ((rd_T35 l0 x8_4).f0) = 1 then (cinnabarref01_Text.j7 kj19 l0 x4_1 x7_4 x8_4 false x10_19 (((rd_T35 l0 x8_4).f1).toList == ([33, 46] : List UInt8))) else (cinnabarref01_Text.j7 kj19 l0 x4_1 x7_4 x8_4 false x10_19 false)) else (none)) else (none))) = some (r1, r2) := by rw [if_neg (show ¬ (false = true) by decide)] at H; exact H
                                        clear H
                                        have H := H1
                                        clear H1
                                        by_cases c46 : x10_19 = true
                                        · subst c46
                                          have H1 : (cinnabarref01_Text.j7 kj19 l0 x4_1 x7_4 x8_4 false true false) = some (r1, r2) := by rw [if_pos rfl] at H; exact H
                                          clear H
                                          have H := H1
                                          clear H1
                                          have H' := Aside0.mk H
                                          clear H
                                          go_wp2
                                          go_meet
                                          case rel => exact ⟨_, (false), (by first | rfl | (simp; done) | (simp [*]; done) | (simp [show ∀ l : List UInt8, (l != []) = !l.isEmpty from fun l => by cases l <;> rfl]; done)), H', ⟨by have := HJ1.out; have := HK2.out; have := HJ5.out; have := HK4.out; have := HJ15.out; have := HJ19.out; first | omega | exact Nat.le_refl _⟩, ⟨by repeat (first | (with_reducible first | exact HB.out | apply below_alloc | apply pw_below_drewN | apply below_drew1) | exact HB.out)⟩⟩
                                        · as_aux_lemma =>
                                            replace c46 := Bool.eq_false_iff.mpr c46
                                            subst c46
                                            have H1 : (if 0 ≤ x8_4 then (if x8_4 < (l0.length : Int) then (if ((rd_T35 l0 x8_4).f0) = 1 then (cinnabarref01_Text.j7 kj19 l0 x4_1 x7_4 x8_4 false false (((rd_T35 l0 x8_4).f1).toList == ([33, 46] : List UInt8))) else (cinnabarref01_Text.j7 kj19 l0 x4_1 x7_4 x8_4 false false false)) else (none)) else (none)) = some (r1, r2) := by rw [if_neg (show ¬ (false = true) by decide)] at H; exact H
                                            clear H
                                            have H := H1
                                            clear H1
                                            by_cases c47 : 0 ≤ x8_4
                                            · as_aux_lemma =>
                                                rw [if_pos c47] at H
                                                have c47b0 : decide (0 ≤ x8_4) = true := decide_eq_true c47
                                                clear c47
                                                by_cases c48 : x8_4 < (l0.length : Int)
                                                · as_aux_lemma =>
                                                    rw [if_pos c48] at H
                                                    have c48b0 : decide (x8_4 < (l0.length : Int)) = true := decide_eq_true c48
                                                    clear c48
                                                    by_cases c49 : ((rd_T35 l0 x8_4).f0) = 1
                                                    · rw [if_pos c49] at H
                                                      have c49b0 : (((rd_T35 l0 x8_4).f0) == 1) = true := beq_iff_eq.mpr c49
                                                      have c49b1 : (((rd_T35 l0 x8_4).f0) != 1) = false := bne_eq_false_iff_eq.mpr c49
                                                      clear c49
                                                      have H' := Aside0.mk H
                                                      clear H
                                                      have p185 : 0 ≤ (x8_4 : Int) := of_decide_eq_true (by first | (with_reducible assumption) | assumption)
                                                      have q185 : x8_4 < (l0.length : Int) := of_decide_eq_true (by first | (with_reducible assumption) | assumption)
                                                      obtain ⟨ad185, e185, hx185_0, hx185_1, hx185_2⟩ := at_T35 HR0.out x8_4 p185 q185
                                                      cases e185
                                                      replace hx185_0 := (HB.out.cell (World.block_lt_of_cell? w _ hx185_0)).trans hx185_0
                                                      replace hx185_1 := (HB.out.cell (World.block_lt_of_cell? w _ hx185_1)).trans hx185_1
                                                      replace hx185_2 := (HB.out.cell (World.block_lt_of_cell? w _ hx185_2)).trans hx185_2
                                                      replace p185 := eq_true p185
                                                      replace q185 := eq_true q185
                                                      have p186 : 0 ≤ (x8_4 : Int) := of_decide_eq_true (by first | (with_reducible assumption) | assumption)
                                                      have q186 : x8_4 < (l0.length : Int) := of_decide_eq_true (by first | (with_reducible assumption) | assumption)
                                                      obtain ⟨ad186, e186, hx186_0, hx186_1, hx186_2⟩ := at_T35 HR0.out x8_4 p186 q186
                                                      obtain rfl : ad185 = ad186 := (by injection e186)
                                                      replace hx186_0 := (HB.out.cell (World.block_lt_of_cell? w _ hx186_0)).trans hx186_0
                                                      replace hx186_1 := (HB.out.cell (World.block_lt_of_cell? w _ hx186_1)).trans hx186_1
                                                      replace hx186_2 := (HB.out.cell (World.block_lt_of_cell? w _ hx186_2)).trans hx186_2
                                                      replace p186 := eq_true p186
                                                      replace q186 := eq_true q186
                                                      go_wp2
                                                      go_meet
                                                      case rel => exact ⟨_, ((((rd_T35 l0 x8_4).f1).toList == ([33, 46] : List UInt8))), (by first | rfl | (simp; done) | (simp [*]; done) | (simp [show ∀ l : List UInt8, (l != []) = !l.isEmpty from fun l => by cases l <;> rfl]; done)), H', ⟨by have := HJ1.out; have := HK2.out; have := HJ5.out; have := HK4.out; have := HJ15.out; have := HJ19.out; first | omega | exact Nat.le_refl _⟩, ⟨by repeat (first | (with_reducible first | exact HB.out | apply below_alloc | apply pw_below_drewN | apply below_drew1) | exact HB.out)⟩⟩
                                                    · rw [if_neg c49] at H
                                                      have c49b0 : (((rd_T35 l0 x8_4).f0) == 1) = false := beq_eq_false_iff_ne.mpr c49
                                                      have c49b1 : (((rd_T35 l0 x8_4).f0) != 1) = true := bne_iff_ne.mpr c49
                                                      have H' := Aside0.mk H
                                                      clear H
                                                      have p185 : 0 ≤ (x8_4 : Int) := of_decide_eq_true (by first | (with_reducible assumption) | assumption)
                                                      have q185 : x8_4 < (l0.length : Int) := of_decide_eq_true (by first | (with_reducible assumption) | assumption)
                                                      obtain ⟨ad185, e185, hx185_0, hx185_1, hx185_2⟩ := at_T35 HR0.out x8_4 p185 q185
                                                      cases e185
                                                      replace hx185_0 := (HB.out.cell (World.block_lt_of_cell? w _ hx185_0)).trans hx185_0
                                                      replace hx185_1 := (HB.out.cell (World.block_lt_of_cell? w _ hx185_1)).trans hx185_1
                                                      replace hx185_2 := (HB.out.cell (World.block_lt_of_cell? w _ hx185_2)).trans hx185_2
                                                      replace p185 := eq_true p185
                                                      replace q185 := eq_true q185
                                                      go_wp2
                                                      go_meet
                                                      case rel => exact ⟨_, (false), (by first | rfl | (simp; done) | (simp [*]; done) | (simp [show ∀ l : List UInt8, (l != []) = !l.isEmpty from fun l => by cases l <;> rfl]; done)), H', ⟨by have := HJ1.out; have := HK2.out; have := HJ5.out; have := HK4.out; have := HJ15.out; have := HJ19.out; first | omega | exact Nat.le_refl _⟩, ⟨by repeat (first | (with_reducible first | exact HB.out | apply below_alloc | apply pw_below_drewN | apply below_drew1) | exact HB.out)⟩⟩
                                                · rw [if_neg c48] at H
                                                  exact absurd H (by simp)
                                            · rw [if_neg c47] at H
                                              exact absurd H (by simp)
                                  case rest =>
                                    clear HC30
                                    try clear c1
                                    try clear p1
                                    try clear q1
                                    try clear hx1
                                    try clear c2
                                    try clear p2
                                    try clear c3
                                    try clear c3b0
                                    try clear c4
                                    try clear c4b0
                                    try clear c5
                                    try clear c5b0
                                    try clear c5b1
                                    try clear p6
                                    try clear c7
                                    try clear c7b0
                                    try clear c8
                                    try clear c9
                                    try clear c9b0
                                    try clear c10
                                    try clear c10b0
                                    try clear c12
                                    try clear c12b0
                                    try clear c12b1
                                    try clear c15
                                    try clear c15b0
                                    try clear c17
                                    try clear c17b0
                                    try clear p17
                                    try clear q17
                                    try clear hx17
                                    try clear c18
                                    try clear c18b0
                                    try clear p18
                                    try clear q18
                                    try clear hx18
                                    try clear c19
                                    try clear c19b0
                                    try clear c19b1
                                    try clear c21
                                    try clear c21b0
                                    try clear c23
                                    try clear c23b0
                                    try clear c24
                                    try clear c24b0
                                    try clear c25
                                    try clear c25b0
                                    try clear c25b1
                                    try clear c26
                                    try clear c26b0
                                    try clear c27
                                    try clear c27b0
                                    try clear c31
                                    try clear c32
                                    try clear c32b0
                                    try clear c32b1
                                    try clear c34
                                    try clear c34b0
                                    try clear c35
                                    try clear c35b0
                                    try clear c36
                                    try clear c36b0
                                    try clear c36b1
                                    try clear c37
                                    try clear c38
                                    try clear c38b0
                                    try clear c39
                                    try clear c39b0
                                    try clear c40
                                    try clear c40b0
                                    try clear c40b1
                                    try clear c41
                                    try clear c41b0
                                    try clear c41b1
                                    try clear c42
                                    try clear c43
                                    try clear c43b0
                                    try clear c44
                                    try clear c44b0
                                    try clear c45
                                    try clear c45b0
                                    try clear c45b1
                                    try clear c46
                                    try clear c47
                                    try clear c47b0
                                    try clear c48
                                    try clear c48b0
                                    try clear c49
                                    try clear c49b0
                                    try clear c49b1
                                    try clear hx171_0
                                    try clear hx171_1
                                    try clear hx171_2
                                    try clear hx172_0
                                    try clear hx172_1
                                    try clear hx172_2
                                    try clear hx174_0
                                    try clear hx174_1
                                    try clear hx174_2
                                    try clear hx175_0
                                    try clear hx175_1
                                    try clear hx175_2
                                    try clear hx176_0
                                    try clear hx176_1
                                    try clear hx176_2
                                    try clear hx177_0
                                    try clear hx177_1
                                    try clear hx177_2
                                    try clear hx179_0
                                    try clear hx179_1
                                    try clear hx179_2
                                    try clear hx180_0
                                    try clear hx180_1
                                    try clear hx180_2
                                    try clear hx181_0
                                    try clear hx181_1
                                    try clear hx181_2
                                    try clear hx182_0
                                    try clear hx182_1
                                    try clear hx182_2
                                    try clear hx183_0
                                    try clear hx183_1
                                    try clear hx183_2
                                    try clear hx184_0
                                    try clear hx184_1
                                    try clear hx184_2
                                    try clear hx185_0
                                    try clear hx185_1
                                    try clear hx185_2
                                    try clear hx186_0
                                    try clear hx186_1
                                    try clear hx186_2
                                    try clear p1
                                    try clear p17
                                    try clear p171
                                    try clear p172
                                    try clear p174
                                    try clear p175
                                    try clear p176
                                    try clear p177
                                    try clear p179
                                    try clear p180
                                    try clear p181
                                    try clear p182
                                    try clear p183
                                    try clear p184
                                    try clear p185
                                    try clear p186
                                    try clear p2
                                    try clear p6
                                    try clear q1
                                    try clear q17
                                    try clear q171
                                    try clear q172
                                    try clear q174
                                    try clear q175
                                    try clear q176
                                    try clear q177
                                    try clear q179
                                    try clear q180
                                    try clear q181
                                    try clear q182
                                    try clear q183
                                    try clear q184
                                    try clear q185
                                    try clear q186
                                    obtain ⟨kq, x125_29, rfl, HA, HJ29, HB⟩ := hcut
                                    cases kq with
                                    | zero => exact absurd HA.out (by simp [cinnabarref01_Text.j7])
                                    | succ kj29 =>
                                      have H := HA.out
                                      clear HA
                                      simp only [cinnabarref01_Text.j7] at H
                                      by_cases c50 : x125_29 = true
                                      · subst c50
                                        have H1 : (some ((⟨#[]⟩ : ByteArray), 2)) = some (r1, r2) := by rw [if_pos rfl] at H; exact H
                                        clear H
                                        have H := H1
                                        clear H1
                                        simp only [Option.some.injEq, Prod.mk.injEq] at H
                                        obtain ⟨rfl, rfl⟩ := H
                                        go_wp2
                                        go_ret2
                                        exact ⟨by first | rfl | (simp [errW_none, errW_some] <;> rfl) | (simp [*, errW_none, errW_some] <;> rfl), by repeat (first | (with_reducible first | exact HB.out | apply below_alloc | apply pw_below_drewN | apply below_drew1) | exact HB.out)⟩
                                      · as_aux_lemma =>
                                          replace c50 := Bool.eq_false_iff.mpr c50
                                          subst c50
                                          have H1 : (if x8_4 > 0 then (if x9_15 = true then (cinnabarref01_Text.j8 kj29 l0 x4_1 x7_4 x8_4 x10_19 false) else (if 0 ≤ (wrap64 (x8_4 - 1)) then (if (wrap64 (x8_4 - 1)) < (l0.length : Int) then (if ((rd_T35 l0 (wrap64 (x8_4 - 1))).f0) = 7 then (cinnabarref01_Text.j8 kj29 l0 x4_1 x7_4 x8_4 x10_19 false) else (if 0 ≤ x8_4 then (if x8_4 < (l0.length : Int) then (if ((rd_T35 l0 x8_4).f0) = 2 then ((cinnabarref01_stated.f ((rd_T35 l0 (wrap64 (x8_4 - 1))).f0) ((rd_T35 l0 (wrap64 (x8_4 - 1))).f1) ((rd_T35 l0 (wrap64 (x8_4 - 1))).f2)).bind fun t190 => (cinnabarref01_Text.j8 kj29 l0 x4_1 x7_4 x8_4 x10_19 (!t190))) else (cinnabarref01_Text.j8 kj29 l0 x4_1 x7_4 x8_4 x10_19 (!false))) else (none)) else (none))) else (none)) else (none))) else (cinnabarref01_Text.j8 kj29 l0 x4_1 x7_4 x8_4 x10_19 false)) = some (r1, r2) := by rw [if_neg (show ¬ (false = true) by decide)] at H; exact H
                                          clear H
                                          have H := H1
                                          clear H1
                                          have HC51 := Aside0.mk H
                                          clear H
                                          go_upto_region 18 with (fail)
                                          go_cut [157] (fun v157 wc => ∃ (kq : Nat) (x157_50 : Bool), v157 = .bool x157_50 ∧ Aside0 (cinnabarref01_Text.j8 kq l0 x4_1 x7_4 x8_4 x10_19 x157_50 = some (r1, r2)) ∧ Aside0 (kq ≤ kj29) ∧ Aside0 (Below w.heap.size w wc))
                                          case first =>
                                            have H := HC51.out
                                            clear HC51
                                            by_cases c52 : x8_4 > 0
                                            · as_aux_lemma =>
                                                rw [if_pos c52] at H
                                                have c52b0 : decide (0 < x8_4) = true := decide_eq_true c52
                                                clear c52
                                                (first | rw [c52b0] | (simp only [i64_w, i32_w]; rw [c52b0]) | skip)
                                                by_cases c53 : x9_15 = true
                                                · subst c53
                                                  have H1 : (cinnabarref01_Text.j8 kj29 l0 x4_1 x7_4 x8_4 x10_19 false) = some (r1, r2) := by rw [if_pos rfl] at H; exact H
                                                  clear H
                                                  have H := H1
                                                  clear H1
                                                  have H' := Aside0.mk H
                                                  clear H
                                                  go_wp2
                                                  go_meet
                                                  case rel => exact ⟨_, (false), (by first | rfl | (simp; done) | (simp [*]; done) | (simp [show ∀ l : List UInt8, (l != []) = !l.isEmpty from fun l => by cases l <;> rfl]; done)), H', ⟨by have := HJ1.out; have := HK2.out; have := HJ5.out; have := HK4.out; have := HJ15.out; have := HJ19.out; have := HJ29.out; first | omega | exact Nat.le_refl _⟩, ⟨by repeat (first | (with_reducible first | exact HB.out | apply below_alloc | apply pw_below_drewN | apply below_drew1) | exact HB.out)⟩⟩
                                                · as_aux_lemma =>
                                                    replace c53 := Bool.eq_false_iff.mpr c53
                                                    subst c53
                                                    have H1 : (if 0 ≤ (wrap64 (x8_4 - 1)) then (if (wrap64 (x8_4 - 1)) < (l0.length : Int) then (if ((rd_T35 l0 (wrap64 (x8_4 - 1))).f0) = 7 then (cinnabarref01_Text.j8 kj29 l0 x4_1 x7_4 x8_4 x10_19 false) else (if 0 ≤ x8_4 then (if x8_4 < (l0.length : Int) then (if ((rd_T35 l0 x8_4).f0) = 2 then ((cinnabarref01_stated.f ((rd_T35 l0 (wrap64 (x8_4 - 1))).f0) ((rd_T35 l0 (wrap64 (x8_4 - 1))).f1) ((rd_T35 l0 (wrap64 (x8_4 - 1))).f2)).bind fun t190 => (cinnabarref01_Text.j8 kj29 l0 x4_1 x7_4 x8_4 x10_19 (!t190))) else (cinnabarref01_Text.j8 kj29 l0 x4_1 x7_4 x8_4 x10_19 (!false))) else (none)) else (none))) else (none)) else (none)) = some (r1, r2) := by rw [if_neg (show ¬ (false = true) by decide)] at H; exact H
                                                    clear H
                                                    have H := H1
                                                    clear H1
                                                    obtain ⟨ji54, hji54⟩ : ∃ j_ : Int, (wrap64 (x8_4 - 1)) = j_ := ⟨_, rfl⟩
                                                    replace H : (if 0 ≤ (ji54) then (if (ji54) < (l0.length : Int) then (if ((rd_T35 l0 (ji54)).f0) = 7 then (cinnabarref01_Text.j8 kj29 l0 x4_1 x7_4 x8_4 x10_19 false) else (if 0 ≤ x8_4 then (if x8_4 < (l0.length : Int) then (if ((rd_T35 l0 x8_4).f0) = 2 then ((cinnabarref01_stated.f ((rd_T35 l0 (ji54)).f0) ((rd_T35 l0 (ji54)).f1) ((rd_T35 l0 (ji54)).f2)).bind fun t190 => (cinnabarref01_Text.j8 kj29 l0 x4_1 x7_4 x8_4 x10_19 (!t190))) else (cinnabarref01_Text.j8 kj29 l0 x4_1 x7_4 x8_4 x10_19 (!false))) else (none)) else (none))) else (none)) else (none)) = some (r1, r2) := by first | (rw [hji54] at H; exact H) | (simp only [hji54] at H ⊢; exact H)
                                                    have hji54w : (IntKind.i64.wrap (x8_4 - 1)) = ji54 := (i64_w _).trans hji54
                                                    by_cases c55 : 0 ≤ (ji54)
                                                    · as_aux_lemma =>
                                                        rw [if_pos c55] at H
                                                        have c55b0 : decide (0 ≤ (ji54)) = true := decide_eq_true c55
                                                        clear c55
                                                        by_cases c56 : (ji54) < (l0.length : Int)
                                                        · as_aux_lemma =>
                                                            rw [if_pos c56] at H
                                                            have c56b0 : decide ((ji54) < (l0.length : Int)) = true := decide_eq_true c56
                                                            clear c56
                                                            by_cases c57 : ((rd_T35 l0 (ji54)).f0) = 7
                                                            · rw [if_pos c57] at H
                                                              have c57b0 : (((rd_T35 l0 (ji54)).f0) == 7) = true := beq_iff_eq.mpr c57
                                                              have c57b1 : (((rd_T35 l0 (ji54)).f0) != 7) = false := bne_eq_false_iff_eq.mpr c57
                                                              clear c57
                                                              have H' := Aside0.mk H
                                                              clear H
                                                              have p187 : 0 ≤ ((ji54) : Int) := of_decide_eq_true (by first | (with_reducible assumption) | assumption)
                                                              have q187 : (ji54) < (l0.length : Int) := of_decide_eq_true (by first | (with_reducible assumption) | assumption)
                                                              obtain ⟨ad187, e187, hx187_0, hx187_1, hx187_2⟩ := at_T35 HR0.out (ji54) p187 q187
                                                              cases e187
                                                              replace hx187_0 := (HB.out.cell (World.block_lt_of_cell? w _ hx187_0)).trans hx187_0
                                                              replace hx187_1 := (HB.out.cell (World.block_lt_of_cell? w _ hx187_1)).trans hx187_1
                                                              replace hx187_2 := (HB.out.cell (World.block_lt_of_cell? w _ hx187_2)).trans hx187_2
                                                              replace p187 := eq_true p187
                                                              replace q187 := eq_true q187
                                                              go_wp2
                                                              go_meet
                                                              case rel => exact ⟨_, (false), (by first | rfl | (simp; done) | (simp [*]; done) | (simp [show ∀ l : List UInt8, (l != []) = !l.isEmpty from fun l => by cases l <;> rfl]; done)), H', ⟨by have := HJ1.out; have := HK2.out; have := HJ5.out; have := HK4.out; have := HJ15.out; have := HJ19.out; have := HJ29.out; first | omega | exact Nat.le_refl _⟩, ⟨by repeat (first | (with_reducible first | exact HB.out | apply below_alloc | apply pw_below_drewN | apply below_drew1) | exact HB.out)⟩⟩
                                                            · as_aux_lemma =>
                                                                rw [if_neg c57] at H
                                                                have c57b0 : (((rd_T35 l0 (ji54)).f0) == 7) = false := beq_eq_false_iff_ne.mpr c57
                                                                have c57b1 : (((rd_T35 l0 (ji54)).f0) != 7) = true := bne_iff_ne.mpr c57
                                                                by_cases c58 : 0 ≤ x8_4
                                                                · as_aux_lemma =>
                                                                    rw [if_pos c58] at H
                                                                    have c58b0 : decide (0 ≤ x8_4) = true := decide_eq_true c58
                                                                    clear c58
                                                                    by_cases c59 : x8_4 < (l0.length : Int)
                                                                    · as_aux_lemma =>
                                                                        rw [if_pos c59] at H
                                                                        have c59b0 : decide (x8_4 < (l0.length : Int)) = true := decide_eq_true c59
                                                                        clear c59
                                                                        by_cases c60 : ((rd_T35 l0 x8_4).f0) = 2
                                                                        · as_aux_lemma =>
                                                                            rw [if_pos c60] at H
                                                                            have c60b0 : (((rd_T35 l0 x8_4).f0) == 2) = true := beq_iff_eq.mpr c60
                                                                            have c60b1 : (((rd_T35 l0 x8_4).f0) != 2) = false := bne_eq_false_iff_eq.mpr c60
                                                                            clear c60
                                                                            replace H := Option.bind_eq_some_iff.mp H
                                                                            obtain ⟨t190, A610, H⟩ := H
                                                                            replace H : (cinnabarref01_Text.j8 kj29 l0 x4_1 x7_4 x8_4 x10_19 (!t190)) = some (r1, r2) := H
                                                                            have A61 := Aside0.mk A610
                                                                            clear A610
                                                                            have H' := Aside0.mk H
                                                                            clear H
                                                                            have p187 : 0 ≤ ((ji54) : Int) := of_decide_eq_true (by first | (with_reducible assumption) | assumption)
                                                                            have q187 : (ji54) < (l0.length : Int) := of_decide_eq_true (by first | (with_reducible assumption) | assumption)
                                                                            obtain ⟨ad187, e187, hx187_0, hx187_1, hx187_2⟩ := at_T35 HR0.out (ji54) p187 q187
                                                                            cases e187
                                                                            replace hx187_0 := (HB.out.cell (World.block_lt_of_cell? w _ hx187_0)).trans hx187_0
                                                                            replace hx187_1 := (HB.out.cell (World.block_lt_of_cell? w _ hx187_1)).trans hx187_1
                                                                            replace hx187_2 := (HB.out.cell (World.block_lt_of_cell? w _ hx187_2)).trans hx187_2
                                                                            replace p187 := eq_true p187
                                                                            replace q187 := eq_true q187
                                                                            have p188 : 0 ≤ (x8_4 : Int) := of_decide_eq_true (by first | (with_reducible assumption) | assumption)
                                                                            have q188 : x8_4 < (l0.length : Int) := of_decide_eq_true (by first | (with_reducible assumption) | assumption)
                                                                            obtain ⟨ad188, e188, hx188_0, hx188_1, hx188_2⟩ := at_T35 HR0.out x8_4 p188 q188
                                                                            obtain rfl : ad187 = ad188 := (by injection e188)
                                                                            replace hx188_0 := (HB.out.cell (World.block_lt_of_cell? w _ hx188_0)).trans hx188_0
                                                                            replace hx188_1 := (HB.out.cell (World.block_lt_of_cell? w _ hx188_1)).trans hx188_1
                                                                            replace hx188_2 := (HB.out.cell (World.block_lt_of_cell? w _ hx188_2)).trans hx188_2
                                                                            replace p188 := eq_true p188
                                                                            replace q188 := eq_true q188
                                                                            have p189 : 0 ≤ ((ji54) : Int) := of_decide_eq_true (by first | (with_reducible assumption) | assumption)
                                                                            have q189 : (ji54) < (l0.length : Int) := of_decide_eq_true (by first | (with_reducible assumption) | assumption)
                                                                            obtain ⟨ad189, e189, hx189_0, hx189_1, hx189_2⟩ := at_T35 HR0.out (ji54) p189 q189
                                                                            obtain rfl : ad187 = ad189 := (by injection e189)
                                                                            replace hx189_0 := (HB.out.cell (World.block_lt_of_cell? w _ hx189_0)).trans hx189_0
                                                                            replace hx189_1 := (HB.out.cell (World.block_lt_of_cell? w _ hx189_1)).trans hx189_1
                                                                            replace hx189_2 := (HB.out.cell (World.block_lt_of_cell? w _ hx189_2)).trans hx189_2
                                                                            replace p189 := eq_true p189
                                                                            replace q189 := eq_true q189
                                                                            go_wp2_with (first | (go_at_call 33; (with_reducible refine (cinnabarref01_stated.calls ((rd_T35 l0 (ji54)).f0) ((rd_T35 l0 (ji54)).f1) ((rd_T35 l0 (ji54)).f2) t190 _ A61.out).mono ?_); rintro e w62 ⟨rfl, hb⟩; have n0_ := Aside0.mk (below_step (by repeat (first | (with_reducible first | exact HB.out | apply below_alloc | apply pw_below_drewN | apply below_drew1) | exact HB.out)) hb); clear HB; have HB := n0_; clear n0_; (try clear hb); (try clear hb2); (try clear hk); (try clear hi)))
                                                                            go_meet
                                                                            case rel => exact ⟨_, (!t190), (by first | rfl | (simp; done) | (simp [*]; done) | (simp [show ∀ l : List UInt8, (l != []) = !l.isEmpty from fun l => by cases l <;> rfl]; done)), H', ⟨by have := HJ1.out; have := HK2.out; have := HJ5.out; have := HK4.out; have := HJ15.out; have := HJ19.out; have := HJ29.out; first | omega | exact Nat.le_refl _⟩, ⟨by repeat (first | (with_reducible first | exact HB.out | apply below_alloc | apply pw_below_drewN | apply below_drew1) | exact HB.out)⟩⟩
                                                                        · rw [if_neg c60] at H
                                                                          have c60b0 : (((rd_T35 l0 x8_4).f0) == 2) = false := beq_eq_false_iff_ne.mpr c60
                                                                          have c60b1 : (((rd_T35 l0 x8_4).f0) != 2) = true := bne_iff_ne.mpr c60
                                                                          have H' := Aside0.mk H
                                                                          clear H
                                                                          have p187 : 0 ≤ ((ji54) : Int) := of_decide_eq_true (by first | (with_reducible assumption) | assumption)
                                                                          have q187 : (ji54) < (l0.length : Int) := of_decide_eq_true (by first | (with_reducible assumption) | assumption)
                                                                          obtain ⟨ad187, e187, hx187_0, hx187_1, hx187_2⟩ := at_T35 HR0.out (ji54) p187 q187
                                                                          cases e187
                                                                          replace hx187_0 := (HB.out.cell (World.block_lt_of_cell? w _ hx187_0)).trans hx187_0
                                                                          replace hx187_1 := (HB.out.cell (World.block_lt_of_cell? w _ hx187_1)).trans hx187_1
                                                                          replace hx187_2 := (HB.out.cell (World.block_lt_of_cell? w _ hx187_2)).trans hx187_2
                                                                          replace p187 := eq_true p187
                                                                          replace q187 := eq_true q187
                                                                          have p188 : 0 ≤ (x8_4 : Int) := of_decide_eq_true (by first | (with_reducible assumption) | assumption)
                                                                          have q188 : x8_4 < (l0.length : Int) := of_decide_eq_true (by first | (with_reducible assumption) | assumption)
                                                                          obtain ⟨ad188, e188, hx188_0, hx188_1, hx188_2⟩ := at_T35 HR0.out x8_4 p188 q188
                                                                          obtain rfl : ad187 = ad188 := (by injection e188)
                                                                          replace hx188_0 := (HB.out.cell (World.block_lt_of_cell? w _ hx188_0)).trans hx188_0
                                                                          replace hx188_1 := (HB.out.cell (World.block_lt_of_cell? w _ hx188_1)).trans hx188_1
                                                                          replace hx188_2 := (HB.out.cell (World.block_lt_of_cell? w _ hx188_2)).trans hx188_2
                                                                          replace p188 := eq_true p188
                                                                          replace q188 := eq_true q188
                                                                          go_wp2
                                                                          go_meet
                                                                          case rel => exact ⟨_, (!false), (by first | rfl | (simp; done) | (simp [*]; done) | (simp [show ∀ l : List UInt8, (l != []) = !l.isEmpty from fun l => by cases l <;> rfl]; done)), H', ⟨by have := HJ1.out; have := HK2.out; have := HJ5.out; have := HK4.out; have := HJ15.out; have := HJ19.out; have := HJ29.out; first | omega | exact Nat.le_refl _⟩, ⟨by repeat (first | (with_reducible first | exact HB.out | apply below_alloc | apply pw_below_drewN | apply below_drew1) | exact HB.out)⟩⟩
                                                                    · rw [if_neg c59] at H
                                                                      exact absurd H (by simp)
                                                                · rw [if_neg c58] at H
                                                                  exact absurd H (by simp)
                                                        · rw [if_neg c56] at H
                                                          exact absurd H (by simp)
                                                    · rw [if_neg c55] at H
                                                      exact absurd H (by simp)
                                            · rw [if_neg c52] at H
                                              have c52b0 : decide (0 < x8_4) = false := decide_eq_false c52
                                              clear c52
                                              (first | rw [c52b0] | (simp only [i64_w, i32_w]; rw [c52b0]) | skip)
                                              have H' := Aside0.mk H
                                              clear H
                                              go_wp2
                                              go_meet
                                              case rel => exact ⟨_, (false), (by first | rfl | (simp; done) | (simp [*]; done) | (simp [show ∀ l : List UInt8, (l != []) = !l.isEmpty from fun l => by cases l <;> rfl]; done)), H', ⟨by have := HJ1.out; have := HK2.out; have := HJ5.out; have := HK4.out; have := HJ15.out; have := HJ19.out; have := HJ29.out; first | omega | exact Nat.le_refl _⟩, ⟨by repeat (first | (with_reducible first | exact HB.out | apply below_alloc | apply pw_below_drewN | apply below_drew1) | exact HB.out)⟩⟩
                                          case rest =>
                                            clear HC51
                                            try clear c1
                                            try clear p1
                                            try clear q1
                                            try clear hx1
                                            try clear c2
                                            try clear p2
                                            try clear c3
                                            try clear c3b0
                                            try clear c4
                                            try clear c4b0
                                            try clear c5
                                            try clear c5b0
                                            try clear c5b1
                                            try clear c6
                                            try clear p6
                                            try clear c7
                                            try clear c7b0
                                            try clear c8
                                            try clear c9
                                            try clear c9b0
                                            try clear c10
                                            try clear c10b0
                                            try clear c12
                                            try clear c12b0
                                            try clear c12b1
                                            try clear c15
                                            try clear c15b0
                                            try clear c17
                                            try clear c17b0
                                            try clear p17
                                            try clear q17
                                            try clear hx17
                                            try clear c18
                                            try clear c18b0
                                            try clear p18
                                            try clear q18
                                            try clear hx18
                                            try clear c19
                                            try clear c19b0
                                            try clear c19b1
                                            try clear c21
                                            try clear c21b0
                                            try clear c23
                                            try clear c23b0
                                            try clear c24
                                            try clear c24b0
                                            try clear c25
                                            try clear c25b0
                                            try clear c25b1
                                            try clear c26
                                            try clear c26b0
                                            try clear c27
                                            try clear c27b0
                                            try clear c31
                                            try clear c32
                                            try clear c32b0
                                            try clear c32b1
                                            try clear c34
                                            try clear c34b0
                                            try clear c35
                                            try clear c35b0
                                            try clear c36
                                            try clear c36b0
                                            try clear c36b1
                                            try clear c37
                                            try clear c38
                                            try clear c38b0
                                            try clear c39
                                            try clear c39b0
                                            try clear c40
                                            try clear c40b0
                                            try clear c40b1
                                            try clear c41
                                            try clear c41b0
                                            try clear c41b1
                                            try clear c42
                                            try clear c43
                                            try clear c43b0
                                            try clear c44
                                            try clear c44b0
                                            try clear c45
                                            try clear c45b0
                                            try clear c45b1
                                            try clear c46
                                            try clear c47
                                            try clear c47b0
                                            try clear c48
                                            try clear c48b0
                                            try clear c49
                                            try clear c49b0
                                            try clear c49b1
                                            try clear c50
                                            try clear c52
                                            try clear c52b0
                                            try clear c53
                                            try clear c55
                                            try clear c55b0
                                            try clear c56
                                            try clear c56b0
                                            try clear c57
                                            try clear c57b0
                                            try clear c57b1
                                            try clear c58
                                            try clear c58b0
                                            try clear c59
                                            try clear c59b0
                                            try clear c60
                                            try clear c60b0
                                            try clear c60b1
                                            try clear hx171_0
                                            try clear hx171_1
                                            try clear hx171_2
                                            try clear hx172_0
                                            try clear hx172_1
                                            try clear hx172_2
                                            try clear hx174_0
                                            try clear hx174_1
                                            try clear hx174_2
                                            try clear hx175_0
                                            try clear hx175_1
                                            try clear hx175_2
                                            try clear hx176_0
                                            try clear hx176_1
                                            try clear hx176_2
                                            try clear hx177_0
                                            try clear hx177_1
                                            try clear hx177_2
                                            try clear hx179_0
                                            try clear hx179_1
                                            try clear hx179_2
                                            try clear hx180_0
                                            try clear hx180_1
                                            try clear hx180_2
                                            try clear hx181_0
                                            try clear hx181_1
                                            try clear hx181_2
                                            try clear hx182_0
                                            try clear hx182_1
                                            try clear hx182_2
                                            try clear hx183_0
                                            try clear hx183_1
                                            try clear hx183_2
                                            try clear hx184_0
                                            try clear hx184_1
                                            try clear hx184_2
                                            try clear hx185_0
                                            try clear hx185_1
                                            try clear hx185_2
                                            try clear hx186_0
                                            try clear hx186_1
                                            try clear hx186_2
                                            try clear hx187_0
                                            try clear hx187_1
                                            try clear hx187_2
                                            try clear hx188_0
                                            try clear hx188_1
                                            try clear hx188_2
                                            try clear hx189_0
                                            try clear hx189_1
                                            try clear hx189_2
                                            try clear p1
                                            try clear p17
                                            try clear p171
                                            try clear p172
                                            try clear p174
                                            try clear p175
                                            try clear p176
                                            try clear p177
                                            try clear p179
                                            try clear p18
                                            try clear p180
                                            try clear p181
                                            try clear p182
                                            try clear p183
                                            try clear p184
                                            try clear p185
                                            try clear p186
                                            try clear p187
                                            try clear p188
                                            try clear p189
                                            try clear p2
                                            try clear p6
                                            try clear q1
                                            try clear q17
                                            try clear q171
                                            try clear q172
                                            try clear q174
                                            try clear q175
                                            try clear q176
                                            try clear q177
                                            try clear q179
                                            try clear q18
                                            try clear q180
                                            try clear q181
                                            try clear q182
                                            try clear q183
                                            try clear q184
                                            try clear q185
                                            try clear q186
                                            try clear q187
                                            try clear q188
                                            try clear q189
                                            obtain ⟨kq, x157_50, rfl, HA, HJ50, HB⟩ := hcut
                                            cases kq with
                                            | zero => exact absurd HA.out (by simp [cinnabarref01_Text.j8])
                                            | succ kj50 =>
                                              have H := HA.out
                                              clear HA
                                              simp only [cinnabarref01_Text.j8] at H
                                              have HC63 := Aside0.mk H
                                              clear H
                                              go_upto_if 157 with (fail)
                                              go_cut [7] (fun v7 wc => ∃ (kq : Nat) (x7_62 : ByteArray), v7 = .string x7_62 ∧ Aside0 (cinnabarref01_Text.j9 kq l0 x4_1 x7_62 x8_4 x10_19 = some (r1, r2)) ∧ Aside0 (kq ≤ kj50) ∧ Aside0 (Below w.heap.size w wc))
                                              case first =>
                                                have H := HC63.out
                                                clear HC63
                                                by_cases c64 : x157_50 = true
                                                · subst c64
                                                  have H1 : (if x7_4.size + 1 ≤ 9223372036854775807 then (cinnabarref01_Text.j9 kj50 l0 x4_1 (x7_4 ++ (⟨#[32]⟩ : ByteArray)) x8_4 x10_19) else (none)) = some (r1, r2) := by rw [if_pos rfl] at H; exact H
                                                  clear H
                                                  have H := H1
                                                  clear H1
                                                  by_cases c65 : x7_4.size + 1 ≤ 9223372036854775807
                                                  · rw [if_pos c65] at H
                                                    have c65b0 := eq_true c65
                                                    have c65b1 : decide (x7_4.size + 1 ≤ 9223372036854775807) = true := decide_eq_true c65
                                                    try have c65b2 : (9223372036854775807 < x7_4.size + 1) = False := eq_false (Nat.not_lt.2 c65)
                                                    have H' := Aside0.mk H
                                                    clear H
                                                    go_wp2
                                                    go_meet
                                                    case rel => exact ⟨_, (x7_4 ++ (⟨#[32]⟩ : ByteArray)), (by first | rfl | (simp; done) | (simp [*]; done) | (simp [show ∀ l : List UInt8, (l != []) = !l.isEmpty from fun l => by cases l <;> rfl]; done)), H', ⟨by have := HJ1.out; have := HK2.out; have := HJ5.out; have := HK4.out; have := HJ15.out; have := HJ19.out; have := HJ29.out; have := HJ50.out; first | omega | exact Nat.le_refl _⟩, ⟨by repeat (first | (with_reducible first | exact HB.out | apply below_alloc | apply pw_below_drewN | apply below_drew1) | exact HB.out)⟩⟩
                                                  · rw [if_neg c65] at H
                                                    exact absurd H (by simp)
                                                · replace c64 := Bool.eq_false_iff.mpr c64
                                                  subst c64
                                                  have H1 : (cinnabarref01_Text.j9 kj50 l0 x4_1 x7_4 x8_4 x10_19) = some (r1, r2) := by rw [if_neg (show ¬ (false = true) by decide)] at H; exact H
                                                  clear H
                                                  have H := H1
                                                  clear H1
                                                  have H' := Aside0.mk H
                                                  clear H
                                                  go_wp2
                                                  go_meet
                                                  case rel => exact ⟨_, (x7_4), (by first | rfl | (simp; done) | (simp [*]; done) | (simp [show ∀ l : List UInt8, (l != []) = !l.isEmpty from fun l => by cases l <;> rfl]; done)), H', ⟨by have := HJ1.out; have := HK2.out; have := HJ5.out; have := HK4.out; have := HJ15.out; have := HJ19.out; have := HJ29.out; have := HJ50.out; first | omega | exact Nat.le_refl _⟩, ⟨by repeat (first | (with_reducible first | exact HB.out | apply below_alloc | apply pw_below_drewN | apply below_drew1) | exact HB.out)⟩⟩
                                              case rest =>
                                                clear HC63
                                                try clear c1
                                                try clear p1
                                                try clear q1
                                                try clear hx1
                                                try clear c2
                                                try clear p2
                                                try clear c3
                                                try clear c3b0
                                                try clear c4
                                                try clear c4b0
                                                try clear c5
                                                try clear c5b0
                                                try clear c5b1
                                                try clear c6
                                                try clear p6
                                                try clear c7
                                                try clear c7b0
                                                try clear c8
                                                try clear c9
                                                try clear c9b0
                                                try clear c10
                                                try clear c10b0
                                                try clear c12
                                                try clear c12b0
                                                try clear c12b1
                                                try clear c15
                                                try clear c15b0
                                                try clear c17
                                                try clear c17b0
                                                try clear p17
                                                try clear q17
                                                try clear hx17
                                                try clear c18
                                                try clear c18b0
                                                try clear p18
                                                try clear q18
                                                try clear hx18
                                                try clear c19
                                                try clear c19b0
                                                try clear c19b1
                                                try clear c21
                                                try clear c21b0
                                                try clear c23
                                                try clear c23b0
                                                try clear c24
                                                try clear c24b0
                                                try clear c25
                                                try clear c25b0
                                                try clear c25b1
                                                try clear c26
                                                try clear c26b0
                                                try clear c27
                                                try clear c27b0
                                                try clear c31
                                                try clear c32
                                                try clear c32b0
                                                try clear c32b1
                                                try clear c34
                                                try clear c34b0
                                                try clear c35
                                                try clear c35b0
                                                try clear c36
                                                try clear c36b0
                                                try clear c36b1
                                                try clear c37
                                                try clear c38
                                                try clear c38b0
                                                try clear c39
                                                try clear c39b0
                                                try clear c40
                                                try clear c40b0
                                                try clear c40b1
                                                try clear c41
                                                try clear c41b0
                                                try clear c41b1
                                                try clear c42
                                                try clear c43
                                                try clear c43b0
                                                try clear c44
                                                try clear c44b0
                                                try clear c45
                                                try clear c45b0
                                                try clear c45b1
                                                try clear c46
                                                try clear c47
                                                try clear c47b0
                                                try clear c48
                                                try clear c48b0
                                                try clear c49
                                                try clear c49b0
                                                try clear c49b1
                                                try clear c50
                                                try clear c52
                                                try clear c52b0
                                                try clear c53
                                                try clear c55
                                                try clear c55b0
                                                try clear c56
                                                try clear c56b0
                                                try clear c57
                                                try clear c57b0
                                                try clear c57b1
                                                try clear c58
                                                try clear c58b0
                                                try clear c59
                                                try clear c59b0
                                                try clear c60
                                                try clear c60b0
                                                try clear c60b1
                                                try clear c64
                                                try clear p64
                                                try clear c65
                                                try clear c65b0
                                                try clear c65b1
                                                try clear c65b2
                                                try clear hx171_0
                                                try clear hx171_1
                                                try clear hx171_2
                                                try clear hx172_0
                                                try clear hx172_1
                                                try clear hx172_2
                                                try clear hx174_0
                                                try clear hx174_1
                                                try clear hx174_2
                                                try clear hx175_0
                                                try clear hx175_1
                                                try clear hx175_2
                                                try clear hx176_0
                                                try clear hx176_1
                                                try clear hx176_2
                                                try clear hx177_0
                                                try clear hx177_1
                                                try clear hx177_2
                                                try clear hx179_0
                                                try clear hx179_1
                                                try clear hx179_2
                                                try clear hx180_0
                                                try clear hx180_1
                                                try clear hx180_2
                                                try clear hx181_0
                                                try clear hx181_1
                                                try clear hx181_2
                                                try clear hx182_0
                                                try clear hx182_1
                                                try clear hx182_2
                                                try clear hx183_0
                                                try clear hx183_1
                                                try clear hx183_2
                                                try clear hx184_0
                                                try clear hx184_1
                                                try clear hx184_2
                                                try clear hx185_0
                                                try clear hx185_1
                                                try clear hx185_2
                                                try clear hx186_0
                                                try clear hx186_1
                                                try clear hx186_2
                                                try clear hx187_0
                                                try clear hx187_1
                                                try clear hx187_2
                                                try clear hx188_0
                                                try clear hx188_1
                                                try clear hx188_2
                                                try clear hx189_0
                                                try clear hx189_1
                                                try clear hx189_2
                                                try clear p1
                                                try clear p17
                                                try clear p171
                                                try clear p172
                                                try clear p174
                                                try clear p175
                                                try clear p176
                                                try clear p177
                                                try clear p179
                                                try clear p18
                                                try clear p180
                                                try clear p181
                                                try clear p182
                                                try clear p183
                                                try clear p184
                                                try clear p185
                                                try clear p186
                                                try clear p187
                                                try clear p188
                                                try clear p189
                                                try clear p2
                                                try clear p6
                                                try clear q1
                                                try clear q17
                                                try clear q171
                                                try clear q172
                                                try clear q174
                                                try clear q175
                                                try clear q176
                                                try clear q177
                                                try clear q179
                                                try clear q18
                                                try clear q180
                                                try clear q181
                                                try clear q182
                                                try clear q183
                                                try clear q184
                                                try clear q185
                                                try clear q186
                                                try clear q187
                                                try clear q188
                                                try clear q189
                                                obtain ⟨kq, x7_62, rfl, HA, HJ62, HB⟩ := hcut
                                                cases kq with
                                                | zero => exact absurd HA.out (by simp [cinnabarref01_Text.j9])
                                                | succ kj62 =>
                                                  have H := HA.out
                                                  clear HA
                                                  simp only [cinnabarref01_Text.j9] at H
                                                  by_cases c66 : x10_19 = true
                                                  · as_aux_lemma =>
                                                      subst c66
                                                      have H1 : (if 0 ≤ x8_4 then (if x8_4 < (l0.length : Int) then (if x7_62.size + ((rd_T35 l0 x8_4).f1).size ≤ 9223372036854775807 then (if ((rd_T35 l0 x8_4).f0) = 7 then (if (x7_62 ++ ((rd_T35 l0 x8_4).f1)).size + 1 ≤ 9223372036854775807 then (cinnabarref01_Text.l2 kj62 l0 x4_1 ((x7_62 ++ ((rd_T35 l0 x8_4).f1)) ++ (⟨#[10]⟩ : ByteArray)) (wrap64 (x8_4 + 1))) else (none)) else (cinnabarref01_Text.l2 kj62 l0 x4_1 (x7_62 ++ ((rd_T35 l0 x8_4).f1)) (wrap64 (x8_4 + 1)))) else (none)) else (none)) else (none)) = some (r1, r2) := by rw [if_pos rfl] at H; exact H
                                                      clear H
                                                      have H := H1
                                                      clear H1
                                                      by_cases c67 : 0 ≤ x8_4
                                                      · as_aux_lemma =>
                                                          rw [if_pos c67] at H
                                                          have c67b0 : decide (0 ≤ x8_4) = true := decide_eq_true c67
                                                          clear c67
                                                          by_cases c68 : x8_4 < (l0.length : Int)
                                                          · as_aux_lemma =>
                                                              rw [if_pos c68] at H
                                                              have c68b0 : decide (x8_4 < (l0.length : Int)) = true := decide_eq_true c68
                                                              clear c68
                                                              by_cases c69 : x7_62.size + ((rd_T35 l0 x8_4).f1).size ≤ 9223372036854775807
                                                              · as_aux_lemma =>
                                                                  rw [if_pos c69] at H
                                                                  have c69b0 := eq_true c69
                                                                  have c69b1 : decide (x7_62.size + ((rd_T35 l0 x8_4).f1).size ≤ 9223372036854775807) = true := decide_eq_true c69
                                                                  try have c69b2 : (9223372036854775807 < x7_62.size + ((rd_T35 l0 x8_4).f1).size) = False := eq_false (Nat.not_lt.2 c69)
                                                                  by_cases c70 : ((rd_T35 l0 x8_4).f0) = 7
                                                                  · rw [if_pos c70] at H
                                                                    have c70b0 : (((rd_T35 l0 x8_4).f0) == 7) = true := beq_iff_eq.mpr c70
                                                                    have c70b1 : (((rd_T35 l0 x8_4).f0) != 7) = false := bne_eq_false_iff_eq.mpr c70
                                                                    clear c70
                                                                    by_cases c71 : (x7_62 ++ ((rd_T35 l0 x8_4).f1)).size + 1 ≤ 9223372036854775807
                                                                    · rw [if_pos c71] at H
                                                                      have c71b0 := eq_true c71
                                                                      have c71b1 : decide ((x7_62 ++ ((rd_T35 l0 x8_4).f1)).size + 1 ≤ 9223372036854775807) = true := decide_eq_true c71
                                                                      (try (have c71n := c71; simp only [ByteArray.size_append] at c71n; have c71n0 := eq_true c71n; have c71n1 := eq_false (Nat.not_lt.2 c71n)))
                                                                      try have c71b2 : (9223372036854775807 < (x7_62 ++ ((rd_T35 l0 x8_4).f1)).size + 1) = False := eq_false (Nat.not_lt.2 c71)
                                                                      have H' := Aside0.mk H
                                                                      clear H
                                                                      have p191 : 0 ≤ (x8_4 : Int) := of_decide_eq_true (by first | (with_reducible assumption) | assumption)
                                                                      have q191 : x8_4 < (l0.length : Int) := of_decide_eq_true (by first | (with_reducible assumption) | assumption)
                                                                      obtain ⟨ad191, e191, hx191_0, hx191_1, hx191_2⟩ := at_T35 HR0.out x8_4 p191 q191
                                                                      cases e191
                                                                      replace hx191_0 := (HB.out.cell (World.block_lt_of_cell? w _ hx191_0)).trans hx191_0
                                                                      replace hx191_1 := (HB.out.cell (World.block_lt_of_cell? w _ hx191_1)).trans hx191_1
                                                                      replace hx191_2 := (HB.out.cell (World.block_lt_of_cell? w _ hx191_2)).trans hx191_2
                                                                      replace p191 := eq_true p191
                                                                      replace q191 := eq_true q191
                                                                      have p192 : 0 ≤ (x8_4 : Int) := of_decide_eq_true (by first | (with_reducible assumption) | assumption)
                                                                      have q192 : x8_4 < (l0.length : Int) := of_decide_eq_true (by first | (with_reducible assumption) | assumption)
                                                                      obtain ⟨ad192, e192, hx192_0, hx192_1, hx192_2⟩ := at_T35 HR0.out x8_4 p192 q192
                                                                      obtain rfl : ad191 = ad192 := (by injection e192)
                                                                      replace hx192_0 := (HB.out.cell (World.block_lt_of_cell? w _ hx192_0)).trans hx192_0
                                                                      replace hx192_1 := (HB.out.cell (World.block_lt_of_cell? w _ hx192_1)).trans hx192_1
                                                                      replace hx192_2 := (HB.out.cell (World.block_lt_of_cell? w _ hx192_2)).trans hx192_2
                                                                      replace p192 := eq_true p192
                                                                      replace q192 := eq_true q192
                                                                      go_wp2
                                                                      go_roundg kj62
                                                                      case measure => have := HJ1.out; have := HK2.out; have := HJ5.out; have := HK4.out; have := HJ15.out; have := HJ19.out; have := HJ29.out; have := HJ50.out; have := HJ62.out; omega
                                                                      case rel => exact ⟨((x7_62 ++ ((rd_T35 l0 x8_4).f1)) ++ (⟨#[10]⟩ : ByteArray)), (wrap64 (x8_4 + 1)), (by first | rfl | (simp; done) | (simp [*]; done) | (simp [show ∀ l : List UInt8, (l != []) = !l.isEmpty from fun l => by cases l <;> rfl]; done)), (by first | rfl | (simp; done) | (simp [*]; done) | (simp [show ∀ l : List UInt8, (l != []) = !l.isEmpty from fun l => by cases l <;> rfl]; done)), H', ⟨by have := HJ1.out; have := HK2.out; have := HJ5.out; have := HK4.out; have := HJ15.out; have := HJ19.out; have := HJ29.out; have := HJ50.out; have := HJ62.out; omega⟩, ⟨by repeat (first | (with_reducible first | exact HB.out | apply below_alloc | apply pw_below_drewN | apply below_drew1) | exact HB.out)⟩⟩
                                                                    · rw [if_neg c71] at H
                                                                      exact absurd H (by simp)
                                                                  · rw [if_neg c70] at H
                                                                    have c70b0 : (((rd_T35 l0 x8_4).f0) == 7) = false := beq_eq_false_iff_ne.mpr c70
                                                                    have c70b1 : (((rd_T35 l0 x8_4).f0) != 7) = true := bne_iff_ne.mpr c70
                                                                    have H' := Aside0.mk H
                                                                    clear H
                                                                    have p191 : 0 ≤ (x8_4 : Int) := of_decide_eq_true (by first | (with_reducible assumption) | assumption)
                                                                    have q191 : x8_4 < (l0.length : Int) := of_decide_eq_true (by first | (with_reducible assumption) | assumption)
                                                                    obtain ⟨ad191, e191, hx191_0, hx191_1, hx191_2⟩ := at_T35 HR0.out x8_4 p191 q191
                                                                    cases e191
                                                                    replace hx191_0 := (HB.out.cell (World.block_lt_of_cell? w _ hx191_0)).trans hx191_0
                                                                    replace hx191_1 := (HB.out.cell (World.block_lt_of_cell? w _ hx191_1)).trans hx191_1
                                                                    replace hx191_2 := (HB.out.cell (World.block_lt_of_cell? w _ hx191_2)).trans hx191_2
                                                                    replace p191 := eq_true p191
                                                                    replace q191 := eq_true q191
                                                                    have p192 : 0 ≤ (x8_4 : Int) := of_decide_eq_true (by first | (with_reducible assumption) | assumption)
                                                                    have q192 : x8_4 < (l0.length : Int) := of_decide_eq_true (by first | (with_reducible assumption) | assumption)
                                                                    obtain ⟨ad192, e192, hx192_0, hx192_1, hx192_2⟩ := at_T35 HR0.out x8_4 p192 q192
                                                                    obtain rfl : ad191 = ad192 := (by injection e192)
                                                                    replace hx192_0 := (HB.out.cell (World.block_lt_of_cell? w _ hx192_0)).trans hx192_0
                                                                    replace hx192_1 := (HB.out.cell (World.block_lt_of_cell? w _ hx192_1)).trans hx192_1
                                                                    replace hx192_2 := (HB.out.cell (World.block_lt_of_cell? w _ hx192_2)).trans hx192_2
                                                                    replace p192 := eq_true p192
                                                                    replace q192 := eq_true q192
                                                                    go_wp2
                                                                    go_roundg kj62
                                                                    case measure => have := HJ1.out; have := HK2.out; have := HJ5.out; have := HK4.out; have := HJ15.out; have := HJ19.out; have := HJ29.out; have := HJ50.out; have := HJ62.out; omega
                                                                    case rel => exact ⟨(x7_62 ++ ((rd_T35 l0 x8_4).f1)), (wrap64 (x8_4 + 1)), (by first | rfl | (simp; done) | (simp [*]; done) | (simp [show ∀ l : List UInt8, (l != []) = !l.isEmpty from fun l => by cases l <;> rfl]; done)), (by first | rfl | (simp; done) | (simp [*]; done) | (simp [show ∀ l : List UInt8, (l != []) = !l.isEmpty from fun l => by cases l <;> rfl]; done)), H', ⟨by have := HJ1.out; have := HK2.out; have := HJ5.out; have := HK4.out; have := HJ15.out; have := HJ19.out; have := HJ29.out; have := HJ50.out; have := HJ62.out; omega⟩, ⟨by repeat (first | (with_reducible first | exact HB.out | apply below_alloc | apply pw_below_drewN | apply below_drew1) | exact HB.out)⟩⟩
                                                              · rw [if_neg c69] at H
                                                                exact absurd H (by simp)
                                                          · rw [if_neg c68] at H
                                                            exact absurd H (by simp)
                                                      · rw [if_neg c67] at H
                                                        exact absurd H (by simp)
                                                  · as_aux_lemma =>
                                                      replace c66 := Bool.eq_false_iff.mpr c66
                                                      subst c66
                                                      have H1 : (if 0 ≤ x8_4 then (if x8_4 < (l0.length : Int) then ((cinnabarref01_Written.f kj62 ((rd_T35 l0 x8_4).f0) ((rd_T35 l0 x8_4).f1) ((rd_T35 l0 x8_4).f2)).bind fun t194 => (if x7_62.size + t194.size ≤ 9223372036854775807 then (if ((rd_T35 l0 x8_4).f0) = 7 then (if (x7_62 ++ t194).size + 1 ≤ 9223372036854775807 then (cinnabarref01_Text.l2 kj62 l0 x4_1 ((x7_62 ++ t194) ++ (⟨#[10]⟩ : ByteArray)) (wrap64 (x8_4 + 1))) else (none)) else (cinnabarref01_Text.l2 kj62 l0 x4_1 (x7_62 ++ t194) (wrap64 (x8_4 + 1)))) else (none))) else (none)) else (none)) = some (r1, r2) := by rw [if_neg (show ¬ (false = true) by decide)] at H; exact H
                                                      clear H
                                                      have H := H1
                                                      clear H1
                                                      by_cases c72 : 0 ≤ x8_4
                                                      · as_aux_lemma =>
                                                          rw [if_pos c72] at H
                                                          have c72b0 : decide (0 ≤ x8_4) = true := decide_eq_true c72
                                                          clear c72
                                                          by_cases c73 : x8_4 < (l0.length : Int)
                                                          · as_aux_lemma =>
                                                              rw [if_pos c73] at H
                                                              have c73b0 : decide (x8_4 < (l0.length : Int)) = true := decide_eq_true c73
                                                              clear c73
                                                              replace H := Option.bind_eq_some_iff.mp H
                                                              obtain ⟨t194, A740, H⟩ := H
                                                              replace H : (if x7_62.size + t194.size ≤ 9223372036854775807 then (if ((rd_T35 l0 x8_4).f0) = 7 then (if (x7_62 ++ t194).size + 1 ≤ 9223372036854775807 then (cinnabarref01_Text.l2 kj62 l0 x4_1 ((x7_62 ++ t194) ++ (⟨#[10]⟩ : ByteArray)) (wrap64 (x8_4 + 1))) else (none)) else (cinnabarref01_Text.l2 kj62 l0 x4_1 (x7_62 ++ t194) (wrap64 (x8_4 + 1)))) else (none)) = some (r1, r2) := H
                                                              have A74 := Aside0.mk A740
                                                              clear A740
                                                              by_cases c75 : x7_62.size + t194.size ≤ 9223372036854775807
                                                              · as_aux_lemma =>
                                                                  rw [if_pos c75] at H
                                                                  have c75b0 := eq_true c75
                                                                  have c75b1 : decide (x7_62.size + t194.size ≤ 9223372036854775807) = true := decide_eq_true c75
                                                                  try have c75b2 : (9223372036854775807 < x7_62.size + t194.size) = False := eq_false (Nat.not_lt.2 c75)
                                                                  by_cases c76 : ((rd_T35 l0 x8_4).f0) = 7
                                                                  · rw [if_pos c76] at H
                                                                    have c76b0 : (((rd_T35 l0 x8_4).f0) == 7) = true := beq_iff_eq.mpr c76
                                                                    have c76b1 : (((rd_T35 l0 x8_4).f0) != 7) = false := bne_eq_false_iff_eq.mpr c76
                                                                    clear c76
                                                                    by_cases c77 : (x7_62 ++ t194).size + 1 ≤ 9223372036854775807
                                                                    · rw [if_pos c77] at H
                                                                      have c77b0 := eq_true c77
                                                                      have c77b1 : decide ((x7_62 ++ t194).size + 1 ≤ 9223372036854775807) = true := decide_eq_true c77
                                                                      (try (have c77n := c77; simp only [ByteArray.size_append] at c77n; have c77n0 := eq_true c77n; have c77n1 := eq_false (Nat.not_lt.2 c77n)))
                                                                      try have c77b2 : (9223372036854775807 < (x7_62 ++ t194).size + 1) = False := eq_false (Nat.not_lt.2 c77)
                                                                      have H' := Aside0.mk H
                                                                      clear H
                                                                      have p193 : 0 ≤ (x8_4 : Int) := of_decide_eq_true (by first | (with_reducible assumption) | assumption)
                                                                      have q193 : x8_4 < (l0.length : Int) := of_decide_eq_true (by first | (with_reducible assumption) | assumption)
                                                                      obtain ⟨ad193, e193, hx193_0, hx193_1, hx193_2⟩ := at_T35 HR0.out x8_4 p193 q193
                                                                      cases e193
                                                                      replace hx193_0 := (HB.out.cell (World.block_lt_of_cell? w _ hx193_0)).trans hx193_0
                                                                      replace hx193_1 := (HB.out.cell (World.block_lt_of_cell? w _ hx193_1)).trans hx193_1
                                                                      replace hx193_2 := (HB.out.cell (World.block_lt_of_cell? w _ hx193_2)).trans hx193_2
                                                                      replace p193 := eq_true p193
                                                                      replace q193 := eq_true q193
                                                                      go_wp2_with (first | ((with_reducible refine gate_callee (f := 34) rfl ?_); refine goesL_ (some 173) rfl rfl Tryz.func34 (by kernel_rfl) rfl #[.agg #[.int .i64 ((rd_T35 l0 x8_4).f0), .string ((rd_T35 l0 x8_4).f1), .int .i64 ((rd_T35 l0 x8_4).f2)]] rfl (by (try simp only [List.map_toArray, List.map_cons, List.map_nil]); first | done | rfl | (simp only [List.length_drop, List.length_take]; rfl)) ?_; (with_reducible refine (cinnabarref01_Written.calls kj62 ((rd_T35 l0 x8_4).f0) ((rd_T35 l0 x8_4).f1) ((rd_T35 l0 x8_4).f2) t194 _ A74.out).mono ?_); rintro e w78 ⟨rfl, hb⟩; refine ⟨_, rfl, ?_⟩; have n0_ := Aside0.mk (below_step (by repeat (first | (with_reducible first | exact HB.out | apply below_alloc | apply pw_below_drewN | apply below_drew1) | exact HB.out)) hb); clear HB; have HB := n0_; clear n0_; (try clear hb); (try clear hb2); (try clear hk); (try clear hi); have p195 : 0 ≤ (x8_4 : Int) := of_decide_eq_true (by first | (with_reducible assumption) | assumption); have q195 : x8_4 < (l0.length : Int) := of_decide_eq_true (by first | (with_reducible assumption) | assumption); obtain ⟨ad195, e195, hx195_0, hx195_1, hx195_2⟩ := at_T35 HR0.out x8_4 p195 q195; obtain rfl : ad193 = ad195 := (by injection e195); replace hx195_0 := (HB.out.cell (World.block_lt_of_cell? w _ hx195_0)).trans hx195_0; replace hx195_1 := (HB.out.cell (World.block_lt_of_cell? w _ hx195_1)).trans hx195_1; replace hx195_2 := (HB.out.cell (World.block_lt_of_cell? w _ hx195_2)).trans hx195_2; replace p195 := eq_true p195; replace q195 := eq_true q195))
                                                                      go_roundg kj62
                                                                      case measure => have := HJ1.out; have := HK2.out; have := HJ5.out; have := HK4.out; have := HJ15.out; have := HJ19.out; have := HJ29.out; have := HJ50.out; have := HJ62.out; omega
                                                                      case rel => exact ⟨((x7_62 ++ t194) ++ (⟨#[10]⟩ : ByteArray)), (wrap64 (x8_4 + 1)), (by first | rfl | (simp; done) | (simp [*]; done) | (simp [show ∀ l : List UInt8, (l != []) = !l.isEmpty from fun l => by cases l <;> rfl]; done)), (by first | rfl | (simp; done) | (simp [*]; done) | (simp [show ∀ l : List UInt8, (l != []) = !l.isEmpty from fun l => by cases l <;> rfl]; done)), H', ⟨by have := HJ1.out; have := HK2.out; have := HJ5.out; have := HK4.out; have := HJ15.out; have := HJ19.out; have := HJ29.out; have := HJ50.out; have := HJ62.out; omega⟩, ⟨by repeat (first | (with_reducible first | exact HB.out | apply below_alloc | apply pw_below_drewN | apply below_drew1) | exact HB.out)⟩⟩
                                                                    · rw [if_neg c77] at H
                                                                      exact absurd H (by simp)
                                                                  · rw [if_neg c76] at H
                                                                    have c76b0 : (((rd_T35 l0 x8_4).f0) == 7) = false := beq_eq_false_iff_ne.mpr c76
                                                                    have c76b1 : (((rd_T35 l0 x8_4).f0) != 7) = true := bne_iff_ne.mpr c76
                                                                    have H' := Aside0.mk H
                                                                    clear H
                                                                    have p193 : 0 ≤ (x8_4 : Int) := of_decide_eq_true (by first | (with_reducible assumption) | assumption)
                                                                    have q193 : x8_4 < (l0.length : Int) := of_decide_eq_true (by first | (with_reducible assumption) | assumption)
                                                                    obtain ⟨ad193, e193, hx193_0, hx193_1, hx193_2⟩ := at_T35 HR0.out x8_4 p193 q193
                                                                    cases e193
                                                                    replace hx193_0 := (HB.out.cell (World.block_lt_of_cell? w _ hx193_0)).trans hx193_0
                                                                    replace hx193_1 := (HB.out.cell (World.block_lt_of_cell? w _ hx193_1)).trans hx193_1
                                                                    replace hx193_2 := (HB.out.cell (World.block_lt_of_cell? w _ hx193_2)).trans hx193_2
                                                                    replace p193 := eq_true p193
                                                                    replace q193 := eq_true q193
                                                                    go_wp2_with (first | ((with_reducible refine gate_callee (f := 34) rfl ?_); refine goesL_ (some 173) rfl rfl Tryz.func34 (by kernel_rfl) rfl #[.agg #[.int .i64 ((rd_T35 l0 x8_4).f0), .string ((rd_T35 l0 x8_4).f1), .int .i64 ((rd_T35 l0 x8_4).f2)]] rfl (by (try simp only [List.map_toArray, List.map_cons, List.map_nil]); first | done | rfl | (simp only [List.length_drop, List.length_take]; rfl)) ?_; (with_reducible refine (cinnabarref01_Written.calls kj62 ((rd_T35 l0 x8_4).f0) ((rd_T35 l0 x8_4).f1) ((rd_T35 l0 x8_4).f2) t194 _ A74.out).mono ?_); rintro e w79 ⟨rfl, hb⟩; refine ⟨_, rfl, ?_⟩; have n0_ := Aside0.mk (below_step (by repeat (first | (with_reducible first | exact HB.out | apply below_alloc | apply pw_below_drewN | apply below_drew1) | exact HB.out)) hb); clear HB; have HB := n0_; clear n0_; (try clear hb); (try clear hb2); (try clear hk); (try clear hi); have p195 : 0 ≤ (x8_4 : Int) := of_decide_eq_true (by first | (with_reducible assumption) | assumption); have q195 : x8_4 < (l0.length : Int) := of_decide_eq_true (by first | (with_reducible assumption) | assumption); obtain ⟨ad195, e195, hx195_0, hx195_1, hx195_2⟩ := at_T35 HR0.out x8_4 p195 q195; obtain rfl : ad193 = ad195 := (by injection e195); replace hx195_0 := (HB.out.cell (World.block_lt_of_cell? w _ hx195_0)).trans hx195_0; replace hx195_1 := (HB.out.cell (World.block_lt_of_cell? w _ hx195_1)).trans hx195_1; replace hx195_2 := (HB.out.cell (World.block_lt_of_cell? w _ hx195_2)).trans hx195_2; replace p195 := eq_true p195; replace q195 := eq_true q195))
                                                                    go_roundg kj62
                                                                    case measure => have := HJ1.out; have := HK2.out; have := HJ5.out; have := HK4.out; have := HJ15.out; have := HJ19.out; have := HJ29.out; have := HJ50.out; have := HJ62.out; omega
                                                                    case rel => exact ⟨(x7_62 ++ t194), (wrap64 (x8_4 + 1)), (by first | rfl | (simp; done) | (simp [*]; done) | (simp [show ∀ l : List UInt8, (l != []) = !l.isEmpty from fun l => by cases l <;> rfl]; done)), (by first | rfl | (simp; done) | (simp [*]; done) | (simp [show ∀ l : List UInt8, (l != []) = !l.isEmpty from fun l => by cases l <;> rfl]; done)), H', ⟨by have := HJ1.out; have := HK2.out; have := HJ5.out; have := HK4.out; have := HJ15.out; have := HJ19.out; have := HJ29.out; have := HJ50.out; have := HJ62.out; omega⟩, ⟨by repeat (first | (with_reducible first | exact HB.out | apply below_alloc | apply pw_below_drewN | apply below_drew1) | exact HB.out)⟩⟩
                                                              · rw [if_neg c75] at H
                                                                exact absurd H (by simp)
                                                          · rw [if_neg c73] at H
                                                            exact absurd H (by simp)
                                                      · rw [if_neg c72] at H
                                                        exact absurd H (by simp)
                      · rw [if_neg c15] at H
                        have c15b0 : decide (x8_4 < x4_1) = false := decide_eq_false c15
                        clear c15
                        by_cases c80 : (x7_4.size : Int) > 65536
                        · rw [if_pos c80] at H
                          have c80b0 : decide (65536 < (x7_4.size : Int)) = true := decide_eq_true c80
                          have c80b1 : decide (65536 < x7_4.size) = true := decide_eq_true (by omega)
                          clear c80
                          simp only [Option.some.injEq, Prod.mk.injEq] at H
                          obtain ⟨rfl, rfl⟩ := H
                          go_wp2
                          go_ret2
                          exact ⟨by first | rfl | (simp [errW_none, errW_some] <;> rfl) | (simp [*, errW_none, errW_some] <;> rfl), by repeat (first | (with_reducible first | exact HB.out | apply below_alloc | apply pw_below_drewN | apply below_drew1) | exact HB.out)⟩
                        · rw [if_neg c80] at H
                          have c80b0 : decide (65536 < (x7_4.size : Int)) = false := decide_eq_false c80
                          have c80b1 : decide (65536 < x7_4.size) = false := decide_eq_false (by omega)
                          clear c80
                          simp only [Option.some.injEq, Prod.mk.injEq] at H
                          obtain ⟨rfl, rfl⟩ := H
                          go_wp2
                          go_ret2
                          exact ⟨by first | rfl | (simp [errW_none, errW_some] <;> rfl) | (simp [*, errW_none, errW_some] <;> rfl), by repeat (first | (with_reducible first | exact HB.out | apply below_alloc | apply pw_below_drewN | apply below_drew1) | exact HB.out)⟩
end Go.Proofs.YtgeonilideojnaaGreatDoor.Pr
end
