/- A part of a proof over the package's statements: contracts of functions and plain facts, merged by a program of this session's. -/
import Derived.Test.YtgeonilideojnaaGreatDoorRG1x1
import Derived.Test.YtgeonilideojnaaGreatDoorRG1x5
import Derived.Test.YtgeonilideojnaaGreatDoorRG2x1
section
namespace Go.Proofs.YtgeonilideojnaaGreatDoor.Pr
open Go.RowKit Go.Proofs.YtgeonilideojnaaGreatDoorW.PrintWords Go.Proofs.YtgeonilideojnaaGreatDoorW.PrintLast Go.Proofs.YtgeonilideojnaaGreatDoorW.PrintMore
attribute [local go_sem] max2_int min2_int max_two min_two max_three min_three max_four min_four
set_option linter.unusedVariables false
set_option linter.unusedSimpArgs false
mutual
def cinnabarref01_scanner_bare.l0 : Nat → ByteArray → Int → List (S35) → Int → Int → Int → Option (ByteArray × Int × Int × Int × Int)
  | 0, _, _, _, _, _, _ => none
  | k + 1, x1000, x1001, x1002, x1003, x1004, x1005 => (cinnabarref01_scanner_at.f x1000 x1001 x1002 x1003 x1004 x1005 x1001).bind fun bt320 => (if bt320.1 = 46 then ((cinnabarref01_scanner_at.f bt320.2.1 bt320.2.2.1 x1002 bt320.2.2.2.1 bt320.2.2.2.2.1 bt320.2.2.2.2.2 (wrap64 (bt320.2.2.1 + 1))).bind fun bt326 => ((cinnabarref01_small.f bt326.1).bind fun t332 => (if t332 = true then ((cinnabarref01_scanner_run.f k bt326.2.1 bt326.2.2.1 x1002 bt326.2.2.2.1 bt326.2.2.2.2.1 bt326.2.2.2.2.2 (wrap64 (bt326.2.2.1 + 1))).bind fun bt333 => (cinnabarref01_scanner_bare.l0 k bt333.2.1 bt333.1 x1002 bt333.2.2.2.1 bt333.2.2.2.2.1 bt333.2.2.2.2.2)) else (some (bt326.2.1, bt326.2.2.1, bt326.2.2.2.1, bt326.2.2.2.2.1, bt326.2.2.2.2.2))))) else (some (bt320.2.1, bt320.2.2.1, bt320.2.2.2.1, bt320.2.2.2.2.1, bt320.2.2.2.2.2)))
def cinnabarref01_scanner_bare.l1 : Nat → ByteArray → Int → List (S35) → Int → Int → Int → Option (ByteArray × Int × Int × Int × Int)
  | 0, _, _, _, _, _, _ => none
  | k + 1, x1000, x1001, x1002, x1003, x1004, x1005 => (cinnabarref01_scanner_at.f x1000 x1001 x1002 x1003 x1004 x1005 x1001).bind fun bt340 => ((cinnabarref01_sign.f k bt340.1).bind fun t346 => (if t346 = true then (cinnabarref01_scanner_bare.l1 k bt340.2.1 (wrap64 (bt340.2.2.1 + 1)) x1002 bt340.2.2.2.1 bt340.2.2.2.2.1 bt340.2.2.2.2.2) else (some (bt340.2.1, bt340.2.2.1, bt340.2.2.2.1, bt340.2.2.2.2.1, bt340.2.2.2.2.2))))
end
def cinnabarref01_scanner_bare.f (k : Nat) (s0_0 : ByteArray) (s0_1 : Int) (s0_2 : List (S35)) (s0_3 : Int) (s0_4 : Int) (s0_5 : Int) : Option (ByteArray × Int × Int × Int × Int) := if 0 < (s0_0.size : Int) then ((cinnabarref01_small.f (bt s0_0 0)).bind fun t313 => (if t313 = true then ((cinnabarref01_scanner_run.f k s0_0 s0_1 s0_2 s0_3 s0_4 s0_5 0).bind fun bt314 => (cinnabarref01_scanner_bare.l0 k bt314.2.1 bt314.1 s0_2 bt314.2.2.2.1 bt314.2.2.2.2.1 bt314.2.2.2.2.2)) else ((cinnabarref01_sign.f k (bt s0_0 0)).bind fun t339 => (if t339 = true then (cinnabarref01_scanner_bare.l1 k s0_0 1 s0_2 s0_3 s0_4 s0_5) else (some (s0_0, 1, s0_3, s0_4, s0_5)))))) else (none)
theorem cinnabarref01_scanner_bare.mono_l : ∀ k, (∀ y0 y1 y2 y3 y4 y5, LeO (cinnabarref01_scanner_bare.l0 k y0 y1 y2 y3 y4 y5) (cinnabarref01_scanner_bare.l0 (k + 1) y0 y1 y2 y3 y4 y5)) ∧ (∀ y0 y1 y2 y3 y4 y5, LeO (cinnabarref01_scanner_bare.l1 k y0 y1 y2 y3 y4 y5) (cinnabarref01_scanner_bare.l1 (k + 1) y0 y1 y2 y3 y4 y5))
  | 0 => ⟨fun _ _ _ _ _ _ r h => by simp [cinnabarref01_scanner_bare.l0] at h, fun _ _ _ _ _ _ r h => by simp [cinnabarref01_scanner_bare.l1] at h⟩
  | k + 1 => by
    obtain ⟨ih0, ih1⟩ := cinnabarref01_scanner_bare.mono_l k
    refine ⟨?_, ?_⟩
    · intro y0 y1 y2 y3 y4 y5
      unfold cinnabarref01_scanner_bare.l0
      repeat' first
      | (with_reducible exact ih0 _ _ _ _ _ _)
      | (with_reducible exact ih1 _ _ _ _ _ _)
      | (with_reducible exact cinnabarref01_scanner_run.mono _ _ _ _ _ _ _ _)
      | (with_reducible exact cinnabarref01_sign.mono _ _)
      | (with_reducible exact LeO.refl _)
      | (with_reducible exact LeO.none _)
      | (with_reducible refine LeO.ite ?_ ?_)
      | (with_reducible refine LeO.bind ?_ (fun _ => ?_))
      | exact ih0 _ _ _ _ _ _
      | exact ih1 _ _ _ _ _ _
      | exact cinnabarref01_scanner_run.mono _ _ _ _ _ _ _ _
      | exact cinnabarref01_sign.mono _ _
      | exact LeO.none _
      | refine LeO.ite ?_ ?_
      | refine LeO.bind ?_ (fun _ => ?_)
    · intro y0 y1 y2 y3 y4 y5
      unfold cinnabarref01_scanner_bare.l1
      repeat' first
      | (with_reducible exact ih0 _ _ _ _ _ _)
      | (with_reducible exact ih1 _ _ _ _ _ _)
      | (with_reducible exact cinnabarref01_scanner_run.mono _ _ _ _ _ _ _ _)
      | (with_reducible exact cinnabarref01_sign.mono _ _)
      | (with_reducible exact LeO.refl _)
      | (with_reducible exact LeO.none _)
      | (with_reducible refine LeO.ite ?_ ?_)
      | (with_reducible refine LeO.bind ?_ (fun _ => ?_))
      | exact ih0 _ _ _ _ _ _
      | exact ih1 _ _ _ _ _ _
      | exact cinnabarref01_scanner_run.mono _ _ _ _ _ _ _ _
      | exact cinnabarref01_sign.mono _ _
      | exact LeO.none _
      | refine LeO.ite ?_ ?_
      | refine LeO.bind ?_ (fun _ => ?_)
theorem cinnabarref01_scanner_bare.mono : ∀ a0 a1 a2 a3 a4 a5 k, LeO (cinnabarref01_scanner_bare.f k a0 a1 a2 a3 a4 a5) (cinnabarref01_scanner_bare.f (k + 1) a0 a1 a2 a3 a4 a5) := by
  intro a0 a1 a2 a3 a4 a5 k
  obtain ⟨ih0, ih1⟩ := cinnabarref01_scanner_bare.mono_l k
  unfold cinnabarref01_scanner_bare.f
  repeat' first
      | (with_reducible exact ih0 _ _ _ _ _ _)
      | (with_reducible exact ih1 _ _ _ _ _ _)
      | (with_reducible exact cinnabarref01_scanner_run.mono _ _ _ _ _ _ _ _)
      | (with_reducible exact cinnabarref01_sign.mono _ _)
      | (with_reducible exact LeO.refl _)
      | (with_reducible exact LeO.none _)
      | (with_reducible refine LeO.ite ?_ ?_)
      | (with_reducible refine LeO.bind ?_ (fun _ => ?_))
      | exact ih0 _ _ _ _ _ _
      | exact ih1 _ _ _ _ _ _
      | exact cinnabarref01_scanner_run.mono _ _ _ _ _ _ _ _
      | exact cinnabarref01_sign.mono _ _
      | exact LeO.none _
      | refine LeO.ite ?_ ?_
      | refine LeO.bind ?_ (fun _ => ?_)
set_option maxHeartbeats 8000000 in
set_option maxRecDepth 100000 in
theorem cinnabarref01_scanner_bare.calls (k : Nat) (g : Nat) (s0_0 : ByteArray) (s0_1 : Int) (s0_2 : List (S35)) (s0_3 : Int) (s0_4 : Int) (s0_5 : Int) (r1 : ByteArray) (r2 : Int) (r3 : Int) (r4 : Int) (r5 : Int) (w0 w : World) (hI : IsS49 w0 w g s0_0 s0_1 s0_2 s0_3 s0_4 s0_5) (hB : Below w0.heap.size w0 w) (h : cinnabarref01_scanner_bare.f k s0_0 s0_1 s0_2 s0_3 s0_4 s0_5 = some (r1, r2, r3, r4, r5)) :
    Calls Tryz.prog 91 #[.pointer (some ⟨g, 0, none⟩)] w fun e w' => e = .returned (.tuple #[]) ∧ IsS49 w0 w' g r1 r2 s0_2 r3 r4 r5 ∧ Below w0.heap.size w0 w' ∧ KeepBut w w' g none := by
  have HI0 := Aside0.mk hI
  have HK := Aside0.mk (KeepBut.refl w g none)
  have HL := Aside0.mk hB.size
  clear hI
  have HW0 := Aside0.mk hB.size
  have HB := Aside0.mk hB
  clear hB
  have H : (if 0 < (s0_0.size : Int) then ((cinnabarref01_small.f (bt s0_0 0)).bind fun t313 => (if t313 = true then ((cinnabarref01_scanner_run.f k s0_0 s0_1 s0_2 s0_3 s0_4 s0_5 0).bind fun bt314 => (cinnabarref01_scanner_bare.l0 k bt314.2.1 bt314.1 s0_2 bt314.2.2.2.1 bt314.2.2.2.2.1 bt314.2.2.2.2.2)) else ((cinnabarref01_sign.f k (bt s0_0 0)).bind fun t339 => (if t339 = true then (cinnabarref01_scanner_bare.l1 k s0_0 1 s0_2 s0_3 s0_4 s0_5) else (some (s0_0, 1, s0_3, s0_4, s0_5)))))) else (none)) = some (r1, r2, r3, r4, r5) := h
  clear h
  by_cases c2 : 0 < (s0_0.size : Int)
  · as_aux_lemma =>
      rw [if_pos c2] at H
      have c2b0 : decide (0 < (s0_0.size : Int)) = true := decide_eq_true c2
      have c2b1 : decide (0 < s0_0.size) = true := decide_eq_true (by omega)
      clear c2
      replace H := Option.bind_eq_some_iff.mp H
      obtain ⟨t313, A40, H⟩ := H
      replace H : (if t313 = true then ((cinnabarref01_scanner_run.f k s0_0 s0_1 s0_2 s0_3 s0_4 s0_5 0).bind fun bt314 => (cinnabarref01_scanner_bare.l0 k bt314.2.1 bt314.1 s0_2 bt314.2.2.2.1 bt314.2.2.2.2.1 bt314.2.2.2.2.2)) else ((cinnabarref01_sign.f k (bt s0_0 0)).bind fun t339 => (if t339 = true then (cinnabarref01_scanner_bare.l1 k s0_0 1 s0_2 s0_3 s0_4 s0_5) else (some (s0_0, 1, s0_3, s0_4, s0_5))))) = some (r1, r2, r3, r4, r5) := H
      have A4 := Aside0.mk A40
      clear A40
      by_cases c5 : t313 = true
      · as_aux_lemma =>
          subst c5
          have H1 : ((cinnabarref01_scanner_run.f k s0_0 s0_1 s0_2 s0_3 s0_4 s0_5 0).bind fun bt314 => (cinnabarref01_scanner_bare.l0 k bt314.2.1 bt314.1 s0_2 bt314.2.2.2.1 bt314.2.2.2.2.1 bt314.2.2.2.2.2)) = some (r1, r2, r3, r4, r5) := by rw [if_pos rfl] at H; exact H
          clear H
          have H := H1
          clear H1
          replace H := Option.bind_eq_some_iff.mp H
          obtain ⟨⟨t314, t315, t316, t317, t318, t319⟩, A60, H⟩ := H
          replace H : (cinnabarref01_scanner_bare.l0 k t315 t314 s0_2 t317 t318 t319) = some (r1, r2, r3, r4, r5) := H
          have A6 := Aside0.mk A60
          clear A60
          have H' := Aside0.mk H
          clear H
          obtain ⟨ASz7_2, cSz7_2, HGz7, hgz7, HSz7_2⟩ := HI0.out
          have hcz7_0 := cellS49_0 HGz7
          have hcz7_1 := cellS49_1 HGz7
          have hcz7_2 := cellS49_2 HGz7
          have hcz7_3 := cellS49_3 HGz7
          have hcz7_4 := cellS49_4 HGz7
          have hcz7_5 := cellS49_5 HGz7
          have hfz7_0 := blk_frozen HGz7 0
          have hfz7_1 := blk_frozen HGz7 1
          have hfz7_3 := blk_frozen HGz7 3
          have hfz7_4 := blk_frozen HGz7 4
          have hfz7_5 := blk_frozen HGz7 5
          clear HGz7 hgz7
          have p3 : 0 ≤ (0 : Int) := (by omega)
          have q3 : 0 < s0_0.size := (by have : (0 : Int) < (s0_0.size : Int) := of_decide_eq_true (by first | (with_reducible assumption) | assumption); omega)
          have hx3 : ∀ h : 0 < s0_0.size, ((s0_0[0]'h).toNat : Int) = bt s0_0 0 := bt_at s0_0 0
          clear p3
          have qi3 : (0 < (s0_0.size : Int)) = True := eq_true (of_decide_eq_true (by first | (with_reducible assumption) | assumption))
          replace q3 := eq_true q3
          go_enter Tryz.func91, Tryz.ntmps91
          go_wp2_with (first | ((with_reducible refine gate_callee (f := 67) rfl ?_); refine goesL_ (some 9) rfl rfl Tryz.func67 (by kernel_rfl) rfl #[.int .u8 (bt s0_0 0)] rfl (by (try simp only [List.map_toArray, List.map_cons, List.map_nil]); first | done | rfl | (simp only [List.length_drop, List.length_take]; rfl)) ?_; (with_reducible refine (cinnabarref01_small.calls (bt s0_0 0) true _ A4.out).mono ?_); rintro e w' ⟨rfl, ⟨nd, rfl⟩⟩; refine ⟨_, rfl, ?_⟩; (try (rw [drewN_self w]; generalize hq_ : World.drewN w _ = w8; have n0_ : Aside0 (IsS49 w0 w8 g s0_0 s0_1 s0_2 s0_3 s0_4 s0_5) := ⟨by rw [← hq_]; exact (by repeat (first | (with_reducible first | exact HI0.out | apply IsS49.alloc | apply IsS49.drewN | apply IsS49.drew | apply IsS49.set_0 | apply IsS49.set_1 | apply IsS49.set_3 | apply IsS49.set_4 | apply IsS49.set_5) | exact HI0.out))⟩; have n1_ : Aside0 (KeepBut w w8 g none) := ⟨by rw [← hq_]; exact (by repeat (first | (with_reducible first | exact HK.out | apply KeepBut.set_ | apply keep_drewN | apply keep_drew | apply keep_alloc) | exact HK.out))⟩; have n2_ : Aside0 (Below w0.heap.size w0 w8) := ⟨by rw [← hq_]; exact (by repeat (first | (with_reducible first | exact HB.out | apply below_alloc | apply pw_below_drewN | apply below_drew1 | refine below_set ?_ (IsS49.ge HI0.out)) | exact HB.out))⟩; clear HI0 HK HB hq_; have HI0 := n0_; have HK := n1_; have HB := n2_; clear n0_ n1_ n2_))) | ((with_reducible refine gate_callee (f := 69) rfl ?_); refine goesL_ (some 12) rfl rfl Tryz.func69 (by kernel_rfl) rfl #[.pointer (some ⟨g, 0, none⟩), .int .i64 0] rfl (by (try simp only [List.map_toArray, List.map_cons, List.map_nil]); first | done | rfl | (simp only [List.length_drop, List.length_take]; rfl)) ?_; (with_reducible refine (cinnabarref01_scanner_run.calls k g s0_0 s0_1 s0_2 s0_3 s0_4 s0_5 0 t314 t315 t316 t317 t318 t319 w0 _ ?side1 ?side2 A6.out).mono ?_); (case side1 => repeat (first | (with_reducible first | exact HI0.out | apply IsS49.alloc | apply IsS49.drewN | apply IsS49.drew | apply IsS49.set_0 | apply IsS49.set_1 | apply IsS49.set_3 | apply IsS49.set_4 | apply IsS49.set_5) | exact HI0.out)); (case side2 => repeat (first | (with_reducible first | exact HB.out | apply below_alloc | apply pw_below_drewN | apply below_drew1 | refine below_set ?_ (IsS49.ge HI0.out)) | exact HB.out)); rintro e w9 ⟨rfl, hi, hb, hk⟩; refine ⟨_, rfl, ?_⟩; have n0_ := Aside0.mk (KeepBut.trans (by repeat (first | (with_reducible first | exact HK.out | apply KeepBut.set_ | apply keep_drewN | apply keep_drew | apply keep_alloc) | exact HK.out)) hk (.inl rfl)); have n1_ := Aside0.mk (hb); have n2_ := Aside0.mk (hi); clear HK; clear HB; clear HI0; have HK := n0_; have HB := n1_; have HI0 := n2_; clear n0_ n1_ n2_; (try clear hb); (try clear hb2); (try clear hk); (try clear hi); obtain ⟨ASz10_2, cSz10_2, HGz10, hgz10, HSz10_2⟩ := HI0.out; have hcz10_0 := cellS49_0 HGz10; have hcz10_1 := cellS49_1 HGz10; have hcz10_2 := cellS49_2 HGz10; have hcz10_3 := cellS49_3 HGz10; have hcz10_4 := cellS49_4 HGz10; have hcz10_5 := cellS49_5 HGz10; have hfz10_0 := blk_frozen HGz10 0; have hfz10_1 := blk_frozen HGz10 1; have hfz10_3 := blk_frozen HGz10 3; have hfz10_4 := blk_frozen HGz10 4; have hfz10_5 := blk_frozen HGz10 5; clear HGz10 hgz10))
          (try simp only [Go.Act.put, List.setIfInBounds_toArray, List.set_cons_succ, List.set_cons_zero])
          go_loopg [] k (fun kq w' => ∃ (x1000_1 : ByteArray) (x1001_1 : Int) (x1003_1 : Int) (x1004_1 : Int) (x1005_1 : Int), Aside0 (cinnabarref01_scanner_bare.l0 kq x1000_1 x1001_1 s0_2 x1003_1 x1004_1 x1005_1 = some (r1, r2, r3, r4, r5)) ∧ Aside0 (kq ≤ k) ∧ Aside0 (IsS49 w0 w' g x1000_1 x1001_1 s0_2 x1003_1 x1004_1 x1005_1) ∧ Aside0 (KeepBut w w' g none) ∧ Aside0 (Below w0.heap.size w0 w'))
          case atStart => exact ⟨(t315), (t314), (t317), (t318), (t319), H', ⟨Nat.le_refl _⟩, ⟨by repeat (first | (with_reducible first | exact HI0.out | apply IsS49.alloc | apply IsS49.drewN | apply IsS49.drew | apply IsS49.set_0 | apply IsS49.set_1 | apply IsS49.set_3 | apply IsS49.set_4 | apply IsS49.set_5) | exact HI0.out)⟩, ⟨by repeat (first | (with_reducible first | exact HK.out | apply KeepBut.set_ | apply keep_drewN | apply keep_drew | apply keep_alloc) | exact HK.out)⟩, ⟨by repeat (first | (with_reducible first | exact HB.out | apply below_alloc | apply pw_below_drewN | apply below_drew1 | refine below_set ?_ (IsS49.ge HI0.out)) | exact HB.out)⟩⟩
          case round =>
            clear H'
            try clear c2
            try clear c2b0
            try clear c2b1
            try clear p2
            try clear p3
            try clear q3
            try clear hx3
            try clear qi3
            try clear c5
            try clear c6
            try clear c9
            try clear hcz10_0
            try clear hcz10_1
            try clear hcz10_2
            try clear hcz10_3
            try clear hcz10_4
            try clear hcz10_5
            try clear hcz7_0
            try clear hcz7_1
            try clear hcz7_2
            try clear hcz7_3
            try clear hcz7_4
            try clear hcz7_5
            try clear hfz10_0
            try clear hfz10_1
            try clear hfz10_3
            try clear hfz10_4
            try clear hfz10_5
            try clear hfz7_0
            try clear hfz7_1
            try clear hfz7_3
            try clear hfz7_4
            try clear hfz7_5
            try clear p3
            try clear q3
            obtain ⟨x1000_1, x1001_1, x1003_1, x1004_1, x1005_1, HA, HK1, HI0, HK, HB⟩ := hrel
            cases gk with
            | zero => exact absurd HA.out (by simp [cinnabarref01_scanner_bare.l0])
            | succ k1 =>
              have H := HA.out
              clear HA
              simp only [cinnabarref01_scanner_bare.l0] at H
              replace H := Option.bind_eq_some_iff.mp H
              obtain ⟨⟨t320, t321, t322, t323, t324, t325⟩, A110, H⟩ := H
              replace H : (if t320 = 46 then ((cinnabarref01_scanner_at.f t321 t322 s0_2 t323 t324 t325 (wrap64 (t322 + 1))).bind fun bt326 => ((cinnabarref01_small.f bt326.1).bind fun t332 => (if t332 = true then ((cinnabarref01_scanner_run.f k1 bt326.2.1 bt326.2.2.1 s0_2 bt326.2.2.2.1 bt326.2.2.2.2.1 bt326.2.2.2.2.2 (wrap64 (bt326.2.2.1 + 1))).bind fun bt333 => (cinnabarref01_scanner_bare.l0 k1 bt333.2.1 bt333.1 s0_2 bt333.2.2.2.1 bt333.2.2.2.2.1 bt333.2.2.2.2.2)) else (some (bt326.2.1, bt326.2.2.1, bt326.2.2.2.1, bt326.2.2.2.2.1, bt326.2.2.2.2.2))))) else (some (t321, t322, t323, t324, t325))) = some (r1, r2, r3, r4, r5) := H
              have A11 := Aside0.mk A110
              clear A110
              by_cases c12 : t320 = 46
              · as_aux_lemma =>
                  rw [if_pos c12] at H
                  have c12b0 : (t320 == 46) = true := beq_iff_eq.mpr c12
                  have c12b1 : (t320 != 46) = false := bne_eq_false_iff_eq.mpr c12
                  clear c12
                  replace H := Option.bind_eq_some_iff.mp H
                  obtain ⟨⟨t326, t327, t328, t329, t330, t331⟩, A130, H⟩ := H
                  replace H : ((cinnabarref01_small.f t326).bind fun t332 => (if t332 = true then ((cinnabarref01_scanner_run.f k1 t327 t328 s0_2 t329 t330 t331 (wrap64 (t328 + 1))).bind fun bt333 => (cinnabarref01_scanner_bare.l0 k1 bt333.2.1 bt333.1 s0_2 bt333.2.2.2.1 bt333.2.2.2.2.1 bt333.2.2.2.2.2)) else (some (t327, t328, t329, t330, t331)))) = some (r1, r2, r3, r4, r5) := H
                  have A13 := Aside0.mk A130
                  clear A130
                  replace H := Option.bind_eq_some_iff.mp H
                  obtain ⟨t332, A140, H⟩ := H
                  replace H : (if t332 = true then ((cinnabarref01_scanner_run.f k1 t327 t328 s0_2 t329 t330 t331 (wrap64 (t328 + 1))).bind fun bt333 => (cinnabarref01_scanner_bare.l0 k1 bt333.2.1 bt333.1 s0_2 bt333.2.2.2.1 bt333.2.2.2.2.1 bt333.2.2.2.2.2)) else (some (t327, t328, t329, t330, t331))) = some (r1, r2, r3, r4, r5) := H
                  have A14 := Aside0.mk A140
                  clear A140
                  by_cases c15 : t332 = true
                  · subst c15
                    have H1 : ((cinnabarref01_scanner_run.f k1 t327 t328 s0_2 t329 t330 t331 (wrap64 (t328 + 1))).bind fun bt333 => (cinnabarref01_scanner_bare.l0 k1 bt333.2.1 bt333.1 s0_2 bt333.2.2.2.1 bt333.2.2.2.2.1 bt333.2.2.2.2.2)) = some (r1, r2, r3, r4, r5) := by rw [if_pos rfl] at H; exact H
                    clear H
                    have H := H1
                    clear H1
                    replace H := Option.bind_eq_some_iff.mp H
                    obtain ⟨⟨t333, t334, t335, t336, t337, t338⟩, A160, H⟩ := H
                    replace H : (cinnabarref01_scanner_bare.l0 k1 t334 t333 s0_2 t336 t337 t338) = some (r1, r2, r3, r4, r5) := H
                    have A16 := Aside0.mk A160
                    clear A160
                    have H' := Aside0.mk H
                    clear H
                    obtain ⟨ASz17_2, cSz17_2, HGz17, hgz17, HSz17_2⟩ := HI0.out
                    have hcz17_0 := cellS49_0 HGz17
                    have hcz17_1 := cellS49_1 HGz17
                    have hcz17_2 := cellS49_2 HGz17
                    have hcz17_3 := cellS49_3 HGz17
                    have hcz17_4 := cellS49_4 HGz17
                    have hcz17_5 := cellS49_5 HGz17
                    have hfz17_0 := blk_frozen HGz17 0
                    have hfz17_1 := blk_frozen HGz17 1
                    have hfz17_3 := blk_frozen HGz17 3
                    have hfz17_4 := blk_frozen HGz17 4
                    have hfz17_5 := blk_frozen HGz17 5
                    clear HGz17 hgz17
                    go_wp2_with (first | ((with_reducible refine gate_callee (f := 65) rfl ?_); refine goesL_ (some 20) rfl rfl Tryz.func65 (by kernel_rfl) rfl #[.pointer (some ⟨g, 0, none⟩), .int .i64 x1001_1] rfl (by (try simp only [List.map_toArray, List.map_cons, List.map_nil]); first | done | rfl | (simp only [List.length_drop, List.length_take]; rfl)) ?_; (with_reducible refine (cinnabarref01_scanner_at.calls g x1000_1 x1001_1 s0_2 x1003_1 x1004_1 x1005_1 x1001_1 t320 t321 t322 t323 t324 t325 w0 _ ?side1 ?side2 A11.out).mono ?_); (case side1 => repeat (first | (with_reducible first | exact HI0.out | apply IsS49.alloc | apply IsS49.drewN | apply IsS49.drew | apply IsS49.set_0 | apply IsS49.set_1 | apply IsS49.set_3 | apply IsS49.set_4 | apply IsS49.set_5) | exact HI0.out)); (case side2 => repeat (first | (with_reducible first | exact HB.out | apply below_alloc | apply pw_below_drewN | apply below_drew1 | refine below_set ?_ (IsS49.ge HI0.out)) | exact HB.out)); rintro e w18 ⟨rfl, hi, hb, hk⟩; refine ⟨_, rfl, ?_⟩; have n0_ := Aside0.mk (KeepBut.trans (by repeat (first | (with_reducible first | exact HK.out | apply KeepBut.set_ | apply keep_drewN | apply keep_drew | apply keep_alloc) | exact HK.out)) hk (.inl rfl)); have n1_ := Aside0.mk (hb); have n2_ := Aside0.mk (hi); clear HK; clear HB; clear HI0; have HK := n0_; have HB := n1_; have HI0 := n2_; clear n0_ n1_ n2_; (try clear hb); (try clear hb2); (try clear hk); (try clear hi); obtain ⟨ASz19_2, cSz19_2, HGz19, hgz19, HSz19_2⟩ := HI0.out; have hcz19_0 := cellS49_0 HGz19; have hcz19_1 := cellS49_1 HGz19; have hcz19_2 := cellS49_2 HGz19; have hcz19_3 := cellS49_3 HGz19; have hcz19_4 := cellS49_4 HGz19; have hcz19_5 := cellS49_5 HGz19; have hfz19_0 := blk_frozen HGz19 0; have hfz19_1 := blk_frozen HGz19 1; have hfz19_3 := blk_frozen HGz19 3; have hfz19_4 := blk_frozen HGz19 4; have hfz19_5 := blk_frozen HGz19 5; clear HGz19 hgz19) | (go_at_call 65; (with_reducible refine (cinnabarref01_scanner_at.calls g t321 t322 s0_2 t323 t324 t325 (wrap64 (t322 + 1)) t326 t327 t328 t329 t330 t331 w0 _ ?side1 ?side2 A13.out).mono ?_); (case side1 => repeat (first | (with_reducible first | exact HI0.out | apply IsS49.alloc | apply IsS49.drewN | apply IsS49.drew | apply IsS49.set_0 | apply IsS49.set_1 | apply IsS49.set_3 | apply IsS49.set_4 | apply IsS49.set_5) | exact HI0.out)); (case side2 => repeat (first | (with_reducible first | exact HB.out | apply below_alloc | apply pw_below_drewN | apply below_drew1 | refine below_set ?_ (IsS49.ge HI0.out)) | exact HB.out)); rintro e w20 ⟨rfl, hi, hb, hk⟩; have n0_ := Aside0.mk (KeepBut.trans (by repeat (first | (with_reducible first | exact HK.out | apply KeepBut.set_ | apply keep_drewN | apply keep_drew | apply keep_alloc) | exact HK.out)) hk (.inl rfl)); have n1_ := Aside0.mk (hb); have n2_ := Aside0.mk (hi); clear HK; clear HB; clear HI0; have HK := n0_; have HB := n1_; have HI0 := n2_; clear n0_ n1_ n2_; (try clear hb); (try clear hb2); (try clear hk); (try clear hi)) | (go_at_call 67; (with_reducible refine (cinnabarref01_small.calls t326 true _ A14.out).mono ?_); rintro e w' ⟨rfl, ⟨nd, rfl⟩⟩; (try (rw [drewN_self w20]; generalize hq_ : World.drewN w20 _ = w20; have n0_ : Aside0 (IsS49 w0 w20 g t327 t328 s0_2 t329 t330 t331) := ⟨by rw [← hq_]; exact (by repeat (first | (with_reducible first | exact HI0.out | apply IsS49.alloc | apply IsS49.drewN | apply IsS49.drew | apply IsS49.set_0 | apply IsS49.set_1 | apply IsS49.set_3 | apply IsS49.set_4 | apply IsS49.set_5) | exact HI0.out))⟩; have n1_ : Aside0 (KeepBut w w20 g none) := ⟨by rw [← hq_]; exact (by repeat (first | (with_reducible first | exact HK.out | apply KeepBut.set_ | apply keep_drewN | apply keep_drew | apply keep_alloc) | exact HK.out))⟩; have n2_ : Aside0 (Below w0.heap.size w0 w20) := ⟨by rw [← hq_]; exact (by repeat (first | (with_reducible first | exact HB.out | apply below_alloc | apply pw_below_drewN | apply below_drew1 | refine below_set ?_ (IsS49.ge HI0.out)) | exact HB.out))⟩; clear HI0 HK HB hq_; have HI0 := n0_; have HK := n1_; have HB := n2_; clear n0_ n1_ n2_)); obtain ⟨ASz21_2, cSz21_2, HGz21, hgz21, HSz21_2⟩ := HI0.out; have hcz21_0 := cellS49_0 HGz21; have hcz21_1 := cellS49_1 HGz21; have hcz21_2 := cellS49_2 HGz21; have hcz21_3 := cellS49_3 HGz21; have hcz21_4 := cellS49_4 HGz21; have hcz21_5 := cellS49_5 HGz21; have hfz21_0 := blk_frozen HGz21 0; have hfz21_1 := blk_frozen HGz21 1; have hfz21_3 := blk_frozen HGz21 3; have hfz21_4 := blk_frozen HGz21 4; have hfz21_5 := blk_frozen HGz21 5; clear HGz21 hgz21) | ((with_reducible refine gate_callee (f := 69) rfl ?_); refine goesL_ (some 39) rfl rfl Tryz.func69 (by kernel_rfl) rfl #[.pointer (some ⟨g, 0, none⟩), .int .i64 (wrap64 (t328 + 1))] rfl (by (try simp only [List.map_toArray, List.map_cons, List.map_nil]); first | done | rfl | (simp only [List.length_drop, List.length_take]; rfl)) ?_; (with_reducible refine (cinnabarref01_scanner_run.calls k1 g t327 t328 s0_2 t329 t330 t331 (wrap64 (t328 + 1)) t333 t334 t335 t336 t337 t338 w0 _ ?side1 ?side2 A16.out).mono ?_); (case side1 => repeat (first | (with_reducible first | exact HI0.out | apply IsS49.alloc | apply IsS49.drewN | apply IsS49.drew | apply IsS49.set_0 | apply IsS49.set_1 | apply IsS49.set_3 | apply IsS49.set_4 | apply IsS49.set_5) | exact HI0.out)); (case side2 => repeat (first | (with_reducible first | exact HB.out | apply below_alloc | apply pw_below_drewN | apply below_drew1 | refine below_set ?_ (IsS49.ge HI0.out)) | exact HB.out)); rintro e w22 ⟨rfl, hi, hb, hk⟩; refine ⟨_, rfl, ?_⟩; have n0_ := Aside0.mk (KeepBut.trans (by repeat (first | (with_reducible first | exact HK.out | apply KeepBut.set_ | apply keep_drewN | apply keep_drew | apply keep_alloc) | exact HK.out)) hk (.inl rfl)); have n1_ := Aside0.mk (hb); have n2_ := Aside0.mk (hi); clear HK; clear HB; clear HI0; have HK := n0_; have HB := n1_; have HI0 := n2_; clear n0_ n1_ n2_; (try clear hb); (try clear hb2); (try clear hk); (try clear hi); obtain ⟨ASz23_2, cSz23_2, HGz23, hgz23, HSz23_2⟩ := HI0.out; have hcz23_0 := cellS49_0 HGz23; have hcz23_1 := cellS49_1 HGz23; have hcz23_2 := cellS49_2 HGz23; have hcz23_3 := cellS49_3 HGz23; have hcz23_4 := cellS49_4 HGz23; have hcz23_5 := cellS49_5 HGz23; have hfz23_0 := blk_frozen HGz23 0; have hfz23_1 := blk_frozen HGz23 1; have hfz23_3 := blk_frozen HGz23 3; have hfz23_4 := blk_frozen HGz23 4; have hfz23_5 := blk_frozen HGz23 5; clear HGz23 hgz23))
                    go_roundg k1
                    case measure => have := HK1.out; omega
                    case rel => exact ⟨(t334), (t333), (t336), (t337), (t338), H', ⟨by have := HK1.out; omega⟩, ⟨by repeat (first | (with_reducible first | exact HI0.out | apply IsS49.alloc | apply IsS49.drewN | apply IsS49.drew | apply IsS49.set_0 | apply IsS49.set_1 | apply IsS49.set_3 | apply IsS49.set_4 | apply IsS49.set_5) | exact HI0.out)⟩, ⟨by repeat (first | (with_reducible first | exact HK.out | apply KeepBut.set_ | apply keep_drewN | apply keep_drew | apply keep_alloc) | exact HK.out)⟩, ⟨by repeat (first | (with_reducible first | exact HB.out | apply below_alloc | apply pw_below_drewN | apply below_drew1 | refine below_set ?_ (IsS49.ge HI0.out)) | exact HB.out)⟩⟩
                  · replace c15 := Bool.eq_false_iff.mpr c15
                    subst c15
                    have H1 : (some (t327, t328, t329, t330, t331)) = some (r1, r2, r3, r4, r5) := by rw [if_neg (show ¬ (false = true) by decide)] at H; exact H
                    clear H
                    have H := H1
                    clear H1
                    simp only [Option.some.injEq, Prod.mk.injEq] at H
                    obtain ⟨rfl, rfl, rfl, rfl, rfl⟩ := H
                    obtain ⟨ASz24_2, cSz24_2, HGz24, hgz24, HSz24_2⟩ := HI0.out
                    have hcz24_0 := cellS49_0 HGz24
                    have hcz24_1 := cellS49_1 HGz24
                    have hcz24_2 := cellS49_2 HGz24
                    have hcz24_3 := cellS49_3 HGz24
                    have hcz24_4 := cellS49_4 HGz24
                    have hcz24_5 := cellS49_5 HGz24
                    have hfz24_0 := blk_frozen HGz24 0
                    have hfz24_1 := blk_frozen HGz24 1
                    have hfz24_3 := blk_frozen HGz24 3
                    have hfz24_4 := blk_frozen HGz24 4
                    have hfz24_5 := blk_frozen HGz24 5
                    clear HGz24 hgz24
                    go_wp2_with (first | ((with_reducible refine gate_callee (f := 65) rfl ?_); refine goesL_ (some 20) rfl rfl Tryz.func65 (by kernel_rfl) rfl #[.pointer (some ⟨g, 0, none⟩), .int .i64 x1001_1] rfl (by (try simp only [List.map_toArray, List.map_cons, List.map_nil]); first | done | rfl | (simp only [List.length_drop, List.length_take]; rfl)) ?_; (with_reducible refine (cinnabarref01_scanner_at.calls g x1000_1 x1001_1 s0_2 x1003_1 x1004_1 x1005_1 x1001_1 t320 t321 t322 t323 t324 t325 w0 _ ?side1 ?side2 A11.out).mono ?_); (case side1 => repeat (first | (with_reducible first | exact HI0.out | apply IsS49.alloc | apply IsS49.drewN | apply IsS49.drew | apply IsS49.set_0 | apply IsS49.set_1 | apply IsS49.set_3 | apply IsS49.set_4 | apply IsS49.set_5) | exact HI0.out)); (case side2 => repeat (first | (with_reducible first | exact HB.out | apply below_alloc | apply pw_below_drewN | apply below_drew1 | refine below_set ?_ (IsS49.ge HI0.out)) | exact HB.out)); rintro e w25 ⟨rfl, hi, hb, hk⟩; refine ⟨_, rfl, ?_⟩; have n0_ := Aside0.mk (KeepBut.trans (by repeat (first | (with_reducible first | exact HK.out | apply KeepBut.set_ | apply keep_drewN | apply keep_drew | apply keep_alloc) | exact HK.out)) hk (.inl rfl)); have n1_ := Aside0.mk (hb); have n2_ := Aside0.mk (hi); clear HK; clear HB; clear HI0; have HK := n0_; have HB := n1_; have HI0 := n2_; clear n0_ n1_ n2_; (try clear hb); (try clear hb2); (try clear hk); (try clear hi); obtain ⟨ASz26_2, cSz26_2, HGz26, hgz26, HSz26_2⟩ := HI0.out; have hcz26_0 := cellS49_0 HGz26; have hcz26_1 := cellS49_1 HGz26; have hcz26_2 := cellS49_2 HGz26; have hcz26_3 := cellS49_3 HGz26; have hcz26_4 := cellS49_4 HGz26; have hcz26_5 := cellS49_5 HGz26; have hfz26_0 := blk_frozen HGz26 0; have hfz26_1 := blk_frozen HGz26 1; have hfz26_3 := blk_frozen HGz26 3; have hfz26_4 := blk_frozen HGz26 4; have hfz26_5 := blk_frozen HGz26 5; clear HGz26 hgz26) | (go_at_call 65; (with_reducible refine (cinnabarref01_scanner_at.calls g t321 t322 s0_2 t323 t324 t325 (wrap64 (t322 + 1)) t326 t327 t328 t329 t330 t331 w0 _ ?side1 ?side2 A13.out).mono ?_); (case side1 => repeat (first | (with_reducible first | exact HI0.out | apply IsS49.alloc | apply IsS49.drewN | apply IsS49.drew | apply IsS49.set_0 | apply IsS49.set_1 | apply IsS49.set_3 | apply IsS49.set_4 | apply IsS49.set_5) | exact HI0.out)); (case side2 => repeat (first | (with_reducible first | exact HB.out | apply below_alloc | apply pw_below_drewN | apply below_drew1 | refine below_set ?_ (IsS49.ge HI0.out)) | exact HB.out)); rintro e w27 ⟨rfl, hi, hb, hk⟩; have n0_ := Aside0.mk (KeepBut.trans (by repeat (first | (with_reducible first | exact HK.out | apply KeepBut.set_ | apply keep_drewN | apply keep_drew | apply keep_alloc) | exact HK.out)) hk (.inl rfl)); have n1_ := Aside0.mk (hb); have n2_ := Aside0.mk (hi); clear HK; clear HB; clear HI0; have HK := n0_; have HB := n1_; have HI0 := n2_; clear n0_ n1_ n2_; (try clear hb); (try clear hb2); (try clear hk); (try clear hi)) | (go_at_call 67; (with_reducible refine (cinnabarref01_small.calls t326 false _ A14.out).mono ?_); rintro e w' ⟨rfl, ⟨nd, rfl⟩⟩))
                    first | go_end0 | ((try simp only [Exit.inBlock, Exit.then]); refine bodyPost_ret (results_none rfl _ _ _) rfl ?_)
                    exact ⟨by first | rfl | (simp [errW_none, errW_some] <;> rfl) | (simp [*, errW_none, errW_some] <;> rfl), by repeat (first | (with_reducible first | exact HI0.out | apply IsS49.alloc | apply IsS49.drewN | apply IsS49.drew | apply IsS49.set_0 | apply IsS49.set_1 | apply IsS49.set_3 | apply IsS49.set_4 | apply IsS49.set_5) | exact HI0.out), by repeat (first | (with_reducible first | exact HB.out | apply below_alloc | apply pw_below_drewN | apply below_drew1 | refine below_set ?_ (IsS49.ge HI0.out)) | exact HB.out), by repeat (first | (with_reducible first | exact HK.out | apply KeepBut.set_ | apply keep_drewN | apply keep_drew | apply keep_alloc) | exact HK.out)⟩
              · rw [if_neg c12] at H
                have c12b0 : (t320 == 46) = false := beq_eq_false_iff_ne.mpr c12
                have c12b1 : (t320 != 46) = true := bne_iff_ne.mpr c12
                simp only [Option.some.injEq, Prod.mk.injEq] at H
                obtain ⟨rfl, rfl, rfl, rfl, rfl⟩ := H
                obtain ⟨ASz28_2, cSz28_2, HGz28, hgz28, HSz28_2⟩ := HI0.out
                have hcz28_0 := cellS49_0 HGz28
                have hcz28_1 := cellS49_1 HGz28
                have hcz28_2 := cellS49_2 HGz28
                have hcz28_3 := cellS49_3 HGz28
                have hcz28_4 := cellS49_4 HGz28
                have hcz28_5 := cellS49_5 HGz28
                have hfz28_0 := blk_frozen HGz28 0
                have hfz28_1 := blk_frozen HGz28 1
                have hfz28_3 := blk_frozen HGz28 3
                have hfz28_4 := blk_frozen HGz28 4
                have hfz28_5 := blk_frozen HGz28 5
                clear HGz28 hgz28
                go_wp2_with (first | ((with_reducible refine gate_callee (f := 65) rfl ?_); refine goesL_ (some 20) rfl rfl Tryz.func65 (by kernel_rfl) rfl #[.pointer (some ⟨g, 0, none⟩), .int .i64 x1001_1] rfl (by (try simp only [List.map_toArray, List.map_cons, List.map_nil]); first | done | rfl | (simp only [List.length_drop, List.length_take]; rfl)) ?_; (with_reducible refine (cinnabarref01_scanner_at.calls g x1000_1 x1001_1 s0_2 x1003_1 x1004_1 x1005_1 x1001_1 t320 t321 t322 t323 t324 t325 w0 _ ?side1 ?side2 A11.out).mono ?_); (case side1 => repeat (first | (with_reducible first | exact HI0.out | apply IsS49.alloc | apply IsS49.drewN | apply IsS49.drew | apply IsS49.set_0 | apply IsS49.set_1 | apply IsS49.set_3 | apply IsS49.set_4 | apply IsS49.set_5) | exact HI0.out)); (case side2 => repeat (first | (with_reducible first | exact HB.out | apply below_alloc | apply pw_below_drewN | apply below_drew1 | refine below_set ?_ (IsS49.ge HI0.out)) | exact HB.out)); rintro e w29 ⟨rfl, hi, hb, hk⟩; refine ⟨_, rfl, ?_⟩; have n0_ := Aside0.mk (KeepBut.trans (by repeat (first | (with_reducible first | exact HK.out | apply KeepBut.set_ | apply keep_drewN | apply keep_drew | apply keep_alloc) | exact HK.out)) hk (.inl rfl)); have n1_ := Aside0.mk (hb); have n2_ := Aside0.mk (hi); clear HK; clear HB; clear HI0; have HK := n0_; have HB := n1_; have HI0 := n2_; clear n0_ n1_ n2_; (try clear hb); (try clear hb2); (try clear hk); (try clear hi)))
                first | go_end0 | ((try simp only [Exit.inBlock, Exit.then]); refine bodyPost_ret (results_none rfl _ _ _) rfl ?_)
                exact ⟨by first | rfl | (simp [errW_none, errW_some] <;> rfl) | (simp [*, errW_none, errW_some] <;> rfl), by repeat (first | (with_reducible first | exact HI0.out | apply IsS49.alloc | apply IsS49.drewN | apply IsS49.drew | apply IsS49.set_0 | apply IsS49.set_1 | apply IsS49.set_3 | apply IsS49.set_4 | apply IsS49.set_5) | exact HI0.out), by repeat (first | (with_reducible first | exact HB.out | apply below_alloc | apply pw_below_drewN | apply below_drew1 | refine below_set ?_ (IsS49.ge HI0.out)) | exact HB.out), by repeat (first | (with_reducible first | exact HK.out | apply KeepBut.set_ | apply keep_drewN | apply keep_drew | apply keep_alloc) | exact HK.out)⟩
      · as_aux_lemma =>
          replace c5 := Bool.eq_false_iff.mpr c5
          subst c5
          have H1 : ((cinnabarref01_sign.f k (bt s0_0 0)).bind fun t339 => (if t339 = true then (cinnabarref01_scanner_bare.l1 k s0_0 1 s0_2 s0_3 s0_4 s0_5) else (some (s0_0, 1, s0_3, s0_4, s0_5)))) = some (r1, r2, r3, r4, r5) := by rw [if_neg (show ¬ (false = true) by decide)] at H; exact H
          clear H
          have H := H1
          clear H1
          replace H := Option.bind_eq_some_iff.mp H
          obtain ⟨t339, A300, H⟩ := H
          replace H : (if t339 = true then (cinnabarref01_scanner_bare.l1 k s0_0 1 s0_2 s0_3 s0_4 s0_5) else (some (s0_0, 1, s0_3, s0_4, s0_5))) = some (r1, r2, r3, r4, r5) := H
          have A30 := Aside0.mk A300
          clear A300
          by_cases c31 : t339 = true
          · as_aux_lemma =>
              subst c31
              have H1 : (cinnabarref01_scanner_bare.l1 k s0_0 1 s0_2 s0_3 s0_4 s0_5) = some (r1, r2, r3, r4, r5) := by rw [if_pos rfl] at H; exact H
              clear H
              have H := H1
              clear H1
              have H' := Aside0.mk H
              clear H
              obtain ⟨ASz32_2, cSz32_2, HGz32, hgz32, HSz32_2⟩ := HI0.out
              have hcz32_0 := cellS49_0 HGz32
              have hcz32_1 := cellS49_1 HGz32
              have hcz32_2 := cellS49_2 HGz32
              have hcz32_3 := cellS49_3 HGz32
              have hcz32_4 := cellS49_4 HGz32
              have hcz32_5 := cellS49_5 HGz32
              have hfz32_0 := blk_frozen HGz32 0
              have hfz32_1 := blk_frozen HGz32 1
              have hfz32_3 := blk_frozen HGz32 3
              have hfz32_4 := blk_frozen HGz32 4
              have hfz32_5 := blk_frozen HGz32 5
              clear HGz32 hgz32
              have p3 : 0 ≤ (0 : Int) := (by omega)
              have q3 : 0 < s0_0.size := (by have : (0 : Int) < (s0_0.size : Int) := of_decide_eq_true (by first | (with_reducible assumption) | assumption); omega)
              have hx3 : ∀ h : 0 < s0_0.size, ((s0_0[0]'h).toNat : Int) = bt s0_0 0 := bt_at s0_0 0
              clear p3
              have qi3 : (0 < (s0_0.size : Int)) = True := eq_true (of_decide_eq_true (by first | (with_reducible assumption) | assumption))
              replace q3 := eq_true q3
              go_enter Tryz.func91, Tryz.ntmps91
              go_wp2_with (first | ((with_reducible refine gate_callee (f := 67) rfl ?_); refine goesL_ (some 9) rfl rfl Tryz.func67 (by kernel_rfl) rfl #[.int .u8 (bt s0_0 0)] rfl (by (try simp only [List.map_toArray, List.map_cons, List.map_nil]); first | done | rfl | (simp only [List.length_drop, List.length_take]; rfl)) ?_; (with_reducible refine (cinnabarref01_small.calls (bt s0_0 0) false _ A4.out).mono ?_); rintro e w' ⟨rfl, ⟨nd, rfl⟩⟩; refine ⟨_, rfl, ?_⟩; (try (rw [drewN_self w]; generalize hq_ : World.drewN w _ = w33; have n0_ : Aside0 (IsS49 w0 w33 g s0_0 s0_1 s0_2 s0_3 s0_4 s0_5) := ⟨by rw [← hq_]; exact (by repeat (first | (with_reducible first | exact HI0.out | apply IsS49.alloc | apply IsS49.drewN | apply IsS49.drew | apply IsS49.set_0 | apply IsS49.set_1 | apply IsS49.set_3 | apply IsS49.set_4 | apply IsS49.set_5) | exact HI0.out))⟩; have n1_ : Aside0 (KeepBut w w33 g none) := ⟨by rw [← hq_]; exact (by repeat (first | (with_reducible first | exact HK.out | apply KeepBut.set_ | apply keep_drewN | apply keep_drew | apply keep_alloc) | exact HK.out))⟩; have n2_ : Aside0 (Below w0.heap.size w0 w33) := ⟨by rw [← hq_]; exact (by repeat (first | (with_reducible first | exact HB.out | apply below_alloc | apply pw_below_drewN | apply below_drew1 | refine below_set ?_ (IsS49.ge HI0.out)) | exact HB.out))⟩; clear HI0 HK HB hq_; have HI0 := n0_; have HK := n1_; have HB := n2_; clear n0_ n1_ n2_)); obtain ⟨ASz34_2, cSz34_2, HGz34, hgz34, HSz34_2⟩ := HI0.out; have hcz34_0 := cellS49_0 HGz34; have hcz34_1 := cellS49_1 HGz34; have hcz34_2 := cellS49_2 HGz34; have hcz34_3 := cellS49_3 HGz34; have hcz34_4 := cellS49_4 HGz34; have hcz34_5 := cellS49_5 HGz34; have hfz34_0 := blk_frozen HGz34 0; have hfz34_1 := blk_frozen HGz34 1; have hfz34_3 := blk_frozen HGz34 3; have hfz34_4 := blk_frozen HGz34 4; have hfz34_5 := blk_frozen HGz34 5; clear HGz34 hgz34) | ((with_reducible refine gate_callee (f := 73) rfl ?_); refine goesL_ (some 46) rfl rfl Tryz.func73 (by kernel_rfl) rfl #[.int .u8 (bt s0_0 0)] rfl (by (try simp only [List.map_toArray, List.map_cons, List.map_nil]); first | done | rfl | (simp only [List.length_drop, List.length_take]; rfl)) ?_; (with_reducible refine (cinnabarref01_sign.calls k (bt s0_0 0) true _ A30.out).mono ?_); rintro e w' ⟨rfl, ⟨nd, rfl⟩⟩; refine ⟨_, rfl, ?_⟩))
              (try simp only [Go.Act.put, List.setIfInBounds_toArray, List.set_cons_succ, List.set_cons_zero])
              go_loopg [] k (fun kq w' => ∃ (x1000_1 : ByteArray) (x1001_1 : Int) (x1003_1 : Int) (x1004_1 : Int) (x1005_1 : Int), Aside0 (cinnabarref01_scanner_bare.l1 kq x1000_1 x1001_1 s0_2 x1003_1 x1004_1 x1005_1 = some (r1, r2, r3, r4, r5)) ∧ Aside0 (kq ≤ k) ∧ Aside0 (IsS49 w0 w' g x1000_1 x1001_1 s0_2 x1003_1 x1004_1 x1005_1) ∧ Aside0 (KeepBut w w' g none) ∧ Aside0 (Below w0.heap.size w0 w'))
              case atStart => exact ⟨(s0_0), (1), (s0_3), (s0_4), (s0_5), H', ⟨Nat.le_refl _⟩, ⟨by repeat (first | (with_reducible first | exact HI0.out | apply IsS49.alloc | apply IsS49.drewN | apply IsS49.drew | apply IsS49.set_0 | apply IsS49.set_1 | apply IsS49.set_3 | apply IsS49.set_4 | apply IsS49.set_5) | exact HI0.out)⟩, ⟨by repeat (first | (with_reducible first | exact HK.out | apply KeepBut.set_ | apply keep_drewN | apply keep_drew | apply keep_alloc) | exact HK.out)⟩, ⟨by repeat (first | (with_reducible first | exact HB.out | apply below_alloc | apply pw_below_drewN | apply below_drew1 | refine below_set ?_ (IsS49.ge HI0.out)) | exact HB.out)⟩⟩
              case round =>
                clear H'
                try clear c1
                try clear c2
                try clear c2b0
                try clear c2b1
                try clear p2
                try clear c3
                try clear p3
                try clear q3
                try clear hx3
                try clear qi3
                try clear c5
                try clear c6
                try clear p6
                try clear c7
                try clear c9
                try clear c12
                try clear c12b0
                try clear c12b1
                try clear c15
                try clear c31
                try clear hcz10_0
                try clear hcz10_1
                try clear hcz10_2
                try clear hcz10_3
                try clear hcz10_4
                try clear hcz10_5
                try clear hcz17_0
                try clear hcz17_1
                try clear hcz17_2
                try clear hcz17_3
                try clear hcz17_4
                try clear hcz17_5
                try clear hcz19_0
                try clear hcz19_1
                try clear hcz19_2
                try clear hcz19_3
                try clear hcz19_4
                try clear hcz19_5
                try clear hcz21_0
                try clear hcz21_1
                try clear hcz21_2
                try clear hcz21_3
                try clear hcz21_4
                try clear hcz21_5
                try clear hcz23_0
                try clear hcz23_1
                try clear hcz23_2
                try clear hcz23_3
                try clear hcz23_4
                try clear hcz23_5
                try clear hcz24_0
                try clear hcz24_1
                try clear hcz24_2
                try clear hcz24_3
                try clear hcz24_4
                try clear hcz24_5
                try clear hcz26_0
                try clear hcz26_1
                try clear hcz26_2
                try clear hcz26_3
                try clear hcz26_4
                try clear hcz26_5
                try clear hcz28_0
                try clear hcz28_1
                try clear hcz28_2
                try clear hcz28_3
                try clear hcz28_4
                try clear hcz28_5
                try clear hcz32_0
                try clear hcz32_1
                try clear hcz32_2
                try clear hcz32_3
                try clear hcz32_4
                try clear hcz32_5
                try clear hcz34_0
                try clear hcz34_1
                try clear hcz34_2
                try clear hcz34_3
                try clear hcz34_4
                try clear hcz34_5
                try clear hcz7_0
                try clear hcz7_1
                try clear hcz7_2
                try clear hcz7_3
                try clear hcz7_4
                try clear hcz7_5
                try clear hfz10_0
                try clear hfz10_1
                try clear hfz10_3
                try clear hfz10_4
                try clear hfz10_5
                try clear hfz17_0
                try clear hfz17_1
                try clear hfz17_3
                try clear hfz17_4
                try clear hfz17_5
                try clear hfz19_0
                try clear hfz19_1
                try clear hfz19_3
                try clear hfz19_4
                try clear hfz19_5
                try clear hfz21_0
                try clear hfz21_1
                try clear hfz21_3
                try clear hfz21_4
                try clear hfz21_5
                try clear hfz23_0
                try clear hfz23_1
                try clear hfz23_3
                try clear hfz23_4
                try clear hfz23_5
                try clear hfz24_0
                try clear hfz24_1
                try clear hfz24_3
                try clear hfz24_4
                try clear hfz24_5
                try clear hfz26_0
                try clear hfz26_1
                try clear hfz26_3
                try clear hfz26_4
                try clear hfz26_5
                try clear hfz28_0
                try clear hfz28_1
                try clear hfz28_3
                try clear hfz28_4
                try clear hfz28_5
                try clear hfz32_0
                try clear hfz32_1
                try clear hfz32_3
                try clear hfz32_4
                try clear hfz32_5
                try clear hfz34_0
                try clear hfz34_1
                try clear hfz34_3
                try clear hfz34_4
                try clear hfz34_5
                try clear hfz7_0
                try clear hfz7_1
                try clear hfz7_3
                try clear hfz7_4
                try clear hfz7_5
                try clear p2
                try clear p3
                try clear q3
                obtain ⟨x1000_1, x1001_1, x1003_1, x1004_1, x1005_1, HA, HK1, HI0, HK, HB⟩ := hrel
                cases gk with
                | zero => exact absurd HA.out (by simp [cinnabarref01_scanner_bare.l1])
                | succ k1 =>
                  have H := HA.out
                  clear HA
                  simp only [cinnabarref01_scanner_bare.l1] at H
                  replace H := Option.bind_eq_some_iff.mp H
                  obtain ⟨⟨t340, t341, t342, t343, t344, t345⟩, A350, H⟩ := H
                  replace H : ((cinnabarref01_sign.f k1 t340).bind fun t346 => (if t346 = true then (cinnabarref01_scanner_bare.l1 k1 t341 (wrap64 (t342 + 1)) s0_2 t343 t344 t345) else (some (t341, t342, t343, t344, t345)))) = some (r1, r2, r3, r4, r5) := H
                  have A35 := Aside0.mk A350
                  clear A350
                  replace H := Option.bind_eq_some_iff.mp H
                  obtain ⟨t346, A360, H⟩ := H
                  replace H : (if t346 = true then (cinnabarref01_scanner_bare.l1 k1 t341 (wrap64 (t342 + 1)) s0_2 t343 t344 t345) else (some (t341, t342, t343, t344, t345))) = some (r1, r2, r3, r4, r5) := H
                  have A36 := Aside0.mk A360
                  clear A360
                  by_cases c37 : t346 = true
                  · subst c37
                    have H1 : (cinnabarref01_scanner_bare.l1 k1 t341 (wrap64 (t342 + 1)) s0_2 t343 t344 t345) = some (r1, r2, r3, r4, r5) := by rw [if_pos rfl] at H; exact H
                    clear H
                    have H := H1
                    clear H1
                    have H' := Aside0.mk H
                    clear H
                    obtain ⟨ASz38_2, cSz38_2, HGz38, hgz38, HSz38_2⟩ := HI0.out
                    have hcz38_0 := cellS49_0 HGz38
                    have hcz38_1 := cellS49_1 HGz38
                    have hcz38_2 := cellS49_2 HGz38
                    have hcz38_3 := cellS49_3 HGz38
                    have hcz38_4 := cellS49_4 HGz38
                    have hcz38_5 := cellS49_5 HGz38
                    have hfz38_0 := blk_frozen HGz38 0
                    have hfz38_1 := blk_frozen HGz38 1
                    have hfz38_3 := blk_frozen HGz38 3
                    have hfz38_4 := blk_frozen HGz38 4
                    have hfz38_5 := blk_frozen HGz38 5
                    clear HGz38 hgz38
                    go_wp2_with (first | ((with_reducible refine gate_callee (f := 65) rfl ?_); refine goesL_ (some 52) rfl rfl Tryz.func65 (by kernel_rfl) rfl #[.pointer (some ⟨g, 0, none⟩), .int .i64 x1001_1] rfl (by (try simp only [List.map_toArray, List.map_cons, List.map_nil]); first | done | rfl | (simp only [List.length_drop, List.length_take]; rfl)) ?_; (with_reducible refine (cinnabarref01_scanner_at.calls g x1000_1 x1001_1 s0_2 x1003_1 x1004_1 x1005_1 x1001_1 t340 t341 t342 t343 t344 t345 w0 _ ?side1 ?side2 A35.out).mono ?_); (case side1 => repeat (first | (with_reducible first | exact HI0.out | apply IsS49.alloc | apply IsS49.drewN | apply IsS49.drew | apply IsS49.set_0 | apply IsS49.set_1 | apply IsS49.set_3 | apply IsS49.set_4 | apply IsS49.set_5) | exact HI0.out)); (case side2 => repeat (first | (with_reducible first | exact HB.out | apply below_alloc | apply pw_below_drewN | apply below_drew1 | refine below_set ?_ (IsS49.ge HI0.out)) | exact HB.out)); rintro e w39 ⟨rfl, hi, hb, hk⟩; refine ⟨_, rfl, ?_⟩; have n0_ := Aside0.mk (KeepBut.trans (by repeat (first | (with_reducible first | exact HK.out | apply KeepBut.set_ | apply keep_drewN | apply keep_drew | apply keep_alloc) | exact HK.out)) hk (.inl rfl)); have n1_ := Aside0.mk (hb); have n2_ := Aside0.mk (hi); clear HK; clear HB; clear HI0; have HK := n0_; have HB := n1_; have HI0 := n2_; clear n0_ n1_ n2_; (try clear hb); (try clear hb2); (try clear hk); (try clear hi)) | ((with_reducible refine gate_callee (f := 73) rfl ?_); refine goesL_ (some 53) rfl rfl Tryz.func73 (by kernel_rfl) rfl #[.int .u8 t340] rfl (by (try simp only [List.map_toArray, List.map_cons, List.map_nil]); first | done | rfl | (simp only [List.length_drop, List.length_take]; rfl)) ?_; (with_reducible refine (cinnabarref01_sign.calls k1 t340 true _ A36.out).mono ?_); rintro e w' ⟨rfl, ⟨nd, rfl⟩⟩; refine ⟨_, rfl, ?_⟩; (try (rw [drewN_self w39]; generalize hq_ : World.drewN w39 _ = w39; have n0_ : Aside0 (IsS49 w0 w39 g t341 t342 s0_2 t343 t344 t345) := ⟨by rw [← hq_]; exact (by repeat (first | (with_reducible first | exact HI0.out | apply IsS49.alloc | apply IsS49.drewN | apply IsS49.drew | apply IsS49.set_0 | apply IsS49.set_1 | apply IsS49.set_3 | apply IsS49.set_4 | apply IsS49.set_5) | exact HI0.out))⟩; have n1_ : Aside0 (KeepBut w w39 g none) := ⟨by rw [← hq_]; exact (by repeat (first | (with_reducible first | exact HK.out | apply KeepBut.set_ | apply keep_drewN | apply keep_drew | apply keep_alloc) | exact HK.out))⟩; have n2_ : Aside0 (Below w0.heap.size w0 w39) := ⟨by rw [← hq_]; exact (by repeat (first | (with_reducible first | exact HB.out | apply below_alloc | apply pw_below_drewN | apply below_drew1 | refine below_set ?_ (IsS49.ge HI0.out)) | exact HB.out))⟩; clear HI0 HK HB hq_; have HI0 := n0_; have HK := n1_; have HB := n2_; clear n0_ n1_ n2_)); obtain ⟨ASz40_2, cSz40_2, HGz40, hgz40, HSz40_2⟩ := HI0.out; have hcz40_0 := cellS49_0 HGz40; have hcz40_1 := cellS49_1 HGz40; have hcz40_2 := cellS49_2 HGz40; have hcz40_3 := cellS49_3 HGz40; have hcz40_4 := cellS49_4 HGz40; have hcz40_5 := cellS49_5 HGz40; have hfz40_0 := blk_frozen HGz40 0; have hfz40_1 := blk_frozen HGz40 1; have hfz40_3 := blk_frozen HGz40 3; have hfz40_4 := blk_frozen HGz40 4; have hfz40_5 := blk_frozen HGz40 5; clear HGz40 hgz40))
                    go_roundg k1
                    case measure => have := HK1.out; omega
                    case rel => exact ⟨(t341), (wrap64 (t342 + 1)), (t343), (t344), (t345), H', ⟨by have := HK1.out; omega⟩, ⟨by repeat (first | (with_reducible first | exact HI0.out | apply IsS49.alloc | apply IsS49.drewN | apply IsS49.drew | apply IsS49.set_0 | apply IsS49.set_1 | apply IsS49.set_3 | apply IsS49.set_4 | apply IsS49.set_5) | exact HI0.out)⟩, ⟨by repeat (first | (with_reducible first | exact HK.out | apply KeepBut.set_ | apply keep_drewN | apply keep_drew | apply keep_alloc) | exact HK.out)⟩, ⟨by repeat (first | (with_reducible first | exact HB.out | apply below_alloc | apply pw_below_drewN | apply below_drew1 | refine below_set ?_ (IsS49.ge HI0.out)) | exact HB.out)⟩⟩
                  · replace c37 := Bool.eq_false_iff.mpr c37
                    subst c37
                    have H1 : (some (t341, t342, t343, t344, t345)) = some (r1, r2, r3, r4, r5) := by rw [if_neg (show ¬ (false = true) by decide)] at H; exact H
                    clear H
                    have H := H1
                    clear H1
                    simp only [Option.some.injEq, Prod.mk.injEq] at H
                    obtain ⟨rfl, rfl, rfl, rfl, rfl⟩ := H
                    obtain ⟨ASz41_2, cSz41_2, HGz41, hgz41, HSz41_2⟩ := HI0.out
                    have hcz41_0 := cellS49_0 HGz41
                    have hcz41_1 := cellS49_1 HGz41
                    have hcz41_2 := cellS49_2 HGz41
                    have hcz41_3 := cellS49_3 HGz41
                    have hcz41_4 := cellS49_4 HGz41
                    have hcz41_5 := cellS49_5 HGz41
                    have hfz41_0 := blk_frozen HGz41 0
                    have hfz41_1 := blk_frozen HGz41 1
                    have hfz41_3 := blk_frozen HGz41 3
                    have hfz41_4 := blk_frozen HGz41 4
                    have hfz41_5 := blk_frozen HGz41 5
                    clear HGz41 hgz41
                    go_wp2_with (first | ((with_reducible refine gate_callee (f := 65) rfl ?_); refine goesL_ (some 52) rfl rfl Tryz.func65 (by kernel_rfl) rfl #[.pointer (some ⟨g, 0, none⟩), .int .i64 x1001_1] rfl (by (try simp only [List.map_toArray, List.map_cons, List.map_nil]); first | done | rfl | (simp only [List.length_drop, List.length_take]; rfl)) ?_; (with_reducible refine (cinnabarref01_scanner_at.calls g x1000_1 x1001_1 s0_2 x1003_1 x1004_1 x1005_1 x1001_1 t340 t341 t342 t343 t344 t345 w0 _ ?side1 ?side2 A35.out).mono ?_); (case side1 => repeat (first | (with_reducible first | exact HI0.out | apply IsS49.alloc | apply IsS49.drewN | apply IsS49.drew | apply IsS49.set_0 | apply IsS49.set_1 | apply IsS49.set_3 | apply IsS49.set_4 | apply IsS49.set_5) | exact HI0.out)); (case side2 => repeat (first | (with_reducible first | exact HB.out | apply below_alloc | apply pw_below_drewN | apply below_drew1 | refine below_set ?_ (IsS49.ge HI0.out)) | exact HB.out)); rintro e w42 ⟨rfl, hi, hb, hk⟩; refine ⟨_, rfl, ?_⟩; have n0_ := Aside0.mk (KeepBut.trans (by repeat (first | (with_reducible first | exact HK.out | apply KeepBut.set_ | apply keep_drewN | apply keep_drew | apply keep_alloc) | exact HK.out)) hk (.inl rfl)); have n1_ := Aside0.mk (hb); have n2_ := Aside0.mk (hi); clear HK; clear HB; clear HI0; have HK := n0_; have HB := n1_; have HI0 := n2_; clear n0_ n1_ n2_; (try clear hb); (try clear hb2); (try clear hk); (try clear hi)) | ((with_reducible refine gate_callee (f := 73) rfl ?_); refine goesL_ (some 53) rfl rfl Tryz.func73 (by kernel_rfl) rfl #[.int .u8 t340] rfl (by (try simp only [List.map_toArray, List.map_cons, List.map_nil]); first | done | rfl | (simp only [List.length_drop, List.length_take]; rfl)) ?_; (with_reducible refine (cinnabarref01_sign.calls k1 t340 false _ A36.out).mono ?_); rintro e w' ⟨rfl, ⟨nd, rfl⟩⟩; refine ⟨_, rfl, ?_⟩))
                    first | go_end0 | ((try simp only [Exit.inBlock, Exit.then]); refine bodyPost_ret (results_none rfl _ _ _) rfl ?_)
                    exact ⟨by first | rfl | (simp [errW_none, errW_some] <;> rfl) | (simp [*, errW_none, errW_some] <;> rfl), by repeat (first | (with_reducible first | exact HI0.out | apply IsS49.alloc | apply IsS49.drewN | apply IsS49.drew | apply IsS49.set_0 | apply IsS49.set_1 | apply IsS49.set_3 | apply IsS49.set_4 | apply IsS49.set_5) | exact HI0.out), by repeat (first | (with_reducible first | exact HB.out | apply below_alloc | apply pw_below_drewN | apply below_drew1 | refine below_set ?_ (IsS49.ge HI0.out)) | exact HB.out), by repeat (first | (with_reducible first | exact HK.out | apply KeepBut.set_ | apply keep_drewN | apply keep_drew | apply keep_alloc) | exact HK.out)⟩
          · replace c31 := Bool.eq_false_iff.mpr c31
            subst c31
            have H1 : (some (s0_0, 1, s0_3, s0_4, s0_5)) = some (r1, r2, r3, r4, r5) := by rw [if_neg (show ¬ (false = true) by decide)] at H; exact H
            clear H
            have H := H1
            clear H1
            simp only [Option.some.injEq, Prod.mk.injEq] at H
            obtain ⟨rfl, rfl, rfl, rfl, rfl⟩ := H
            obtain ⟨ASz43_2, cSz43_2, HGz43, hgz43, HSz43_2⟩ := HI0.out
            have hcz43_0 := cellS49_0 HGz43
            have hcz43_1 := cellS49_1 HGz43
            have hcz43_2 := cellS49_2 HGz43
            have hcz43_3 := cellS49_3 HGz43
            have hcz43_4 := cellS49_4 HGz43
            have hcz43_5 := cellS49_5 HGz43
            have hfz43_0 := blk_frozen HGz43 0
            have hfz43_1 := blk_frozen HGz43 1
            have hfz43_3 := blk_frozen HGz43 3
            have hfz43_4 := blk_frozen HGz43 4
            have hfz43_5 := blk_frozen HGz43 5
            clear HGz43 hgz43
            have p3 : 0 ≤ (0 : Int) := (by omega)
            have q3 : 0 < s0_0.size := (by have : (0 : Int) < (s0_0.size : Int) := of_decide_eq_true (by first | (with_reducible assumption) | assumption); omega)
            have hx3 : ∀ h : 0 < s0_0.size, ((s0_0[0]'h).toNat : Int) = bt s0_0 0 := bt_at s0_0 0
            clear p3
            have qi3 : (0 < (s0_0.size : Int)) = True := eq_true (of_decide_eq_true (by first | (with_reducible assumption) | assumption))
            replace q3 := eq_true q3
            go_enter Tryz.func91, Tryz.ntmps91
            go_wp2_with (first | ((with_reducible refine gate_callee (f := 67) rfl ?_); refine goesL_ (some 9) rfl rfl Tryz.func67 (by kernel_rfl) rfl #[.int .u8 (bt s0_0 0)] rfl (by (try simp only [List.map_toArray, List.map_cons, List.map_nil]); first | done | rfl | (simp only [List.length_drop, List.length_take]; rfl)) ?_; (with_reducible refine (cinnabarref01_small.calls (bt s0_0 0) false _ A4.out).mono ?_); rintro e w' ⟨rfl, ⟨nd, rfl⟩⟩; refine ⟨_, rfl, ?_⟩; (try (rw [drewN_self w]; generalize hq_ : World.drewN w _ = w44; have n0_ : Aside0 (IsS49 w0 w44 g s0_0 s0_1 s0_2 s0_3 s0_4 s0_5) := ⟨by rw [← hq_]; exact (by repeat (first | (with_reducible first | exact HI0.out | apply IsS49.alloc | apply IsS49.drewN | apply IsS49.drew | apply IsS49.set_0 | apply IsS49.set_1 | apply IsS49.set_3 | apply IsS49.set_4 | apply IsS49.set_5) | exact HI0.out))⟩; have n1_ : Aside0 (KeepBut w w44 g none) := ⟨by rw [← hq_]; exact (by repeat (first | (with_reducible first | exact HK.out | apply KeepBut.set_ | apply keep_drewN | apply keep_drew | apply keep_alloc) | exact HK.out))⟩; have n2_ : Aside0 (Below w0.heap.size w0 w44) := ⟨by rw [← hq_]; exact (by repeat (first | (with_reducible first | exact HB.out | apply below_alloc | apply pw_below_drewN | apply below_drew1 | refine below_set ?_ (IsS49.ge HI0.out)) | exact HB.out))⟩; clear HI0 HK HB hq_; have HI0 := n0_; have HK := n1_; have HB := n2_; clear n0_ n1_ n2_)); obtain ⟨ASz45_2, cSz45_2, HGz45, hgz45, HSz45_2⟩ := HI0.out; have hcz45_0 := cellS49_0 HGz45; have hcz45_1 := cellS49_1 HGz45; have hcz45_2 := cellS49_2 HGz45; have hcz45_3 := cellS49_3 HGz45; have hcz45_4 := cellS49_4 HGz45; have hcz45_5 := cellS49_5 HGz45; have hfz45_0 := blk_frozen HGz45 0; have hfz45_1 := blk_frozen HGz45 1; have hfz45_3 := blk_frozen HGz45 3; have hfz45_4 := blk_frozen HGz45 4; have hfz45_5 := blk_frozen HGz45 5; clear HGz45 hgz45) | ((with_reducible refine gate_callee (f := 73) rfl ?_); refine goesL_ (some 46) rfl rfl Tryz.func73 (by kernel_rfl) rfl #[.int .u8 (bt s0_0 0)] rfl (by (try simp only [List.map_toArray, List.map_cons, List.map_nil]); first | done | rfl | (simp only [List.length_drop, List.length_take]; rfl)) ?_; (with_reducible refine (cinnabarref01_sign.calls k (bt s0_0 0) false _ A30.out).mono ?_); rintro e w' ⟨rfl, ⟨nd, rfl⟩⟩; refine ⟨_, rfl, ?_⟩))
            first | go_end0 | ((try simp only [Exit.inBlock, Exit.then]); refine bodyPost_ret (results_none rfl _ _ _) rfl ?_)
            exact ⟨by first | rfl | (simp [errW_none, errW_some] <;> rfl) | (simp [*, errW_none, errW_some] <;> rfl), by repeat (first | (with_reducible first | exact HI0.out | apply IsS49.alloc | apply IsS49.drewN | apply IsS49.drew | apply IsS49.set_0 | apply IsS49.set_1 | apply IsS49.set_3 | apply IsS49.set_4 | apply IsS49.set_5) | exact HI0.out), by repeat (first | (with_reducible first | exact HB.out | apply below_alloc | apply pw_below_drewN | apply below_drew1 | refine below_set ?_ (IsS49.ge HI0.out)) | exact HB.out), by repeat (first | (with_reducible first | exact HK.out | apply KeepBut.set_ | apply keep_drewN | apply keep_drew | apply keep_alloc) | exact HK.out)⟩
  · rw [if_neg c2] at H
    exact absurd H (by simp)
end Go.Proofs.YtgeonilideojnaaGreatDoor.Pr
end
section
namespace Go.Proofs.YtgeonilideojnaaGreatDoor.Pr
open Go.RowKit Go.Proofs.YtgeonilideojnaaGreatDoorW.PrintWords Go.Proofs.YtgeonilideojnaaGreatDoorW.PrintLast Go.Proofs.YtgeonilideojnaaGreatDoorW.PrintMore
attribute [local go_sem] max2_int min2_int max_two min_two max_three min_three max_four min_four
set_option linter.unusedVariables false
set_option linter.unusedSimpArgs false
def cinnabarref01_Byte.f (a0 : Int) : Option (Bool) := if a0 = 9 then (some true) else (if a0 = 10 then (some true) else (if a0 ≥ 32 then (some (decide (a0 ≤ 126))) else (some false)))
set_option maxHeartbeats 8000000 in
set_option maxRecDepth 100000 in
theorem cinnabarref01_Byte.calls (a0 : Int) (r : Bool) (w : World) (h : cinnabarref01_Byte.f a0 = some r) :
    Calls Tryz.prog 62 #[.int .u8 a0] w fun e w' => e = .returned (.bool r) ∧ Drawn0 w w' := by
  have H : (if a0 = 9 then (some true) else (if a0 = 10 then (some true) else (if a0 ≥ 32 then (some (decide (a0 ≤ 126))) else (some false)))) = some r := h
  clear h
  by_cases c2 : a0 = 9
  · rw [if_pos c2] at H
    have c2b0 : (a0 == 9) = true := beq_iff_eq.mpr c2
    have c2b1 : (a0 != 9) = false := bne_eq_false_iff_eq.mpr c2
    clear c2
    obtain rfl := Option.some.inj H
    go_enter Tryz.func62, Tryz.ntmps62
    go_wp2
    go_ret
    exact ⟨by first | rfl | (simp; done) | (simp [*]; done), by repeat (first | exact Drawn0.refl _ | apply Drawn0.step)⟩
  · rw [if_neg c2] at H
    have c2b0 : (a0 == 9) = false := beq_eq_false_iff_ne.mpr c2
    have c2b1 : (a0 != 9) = true := bne_iff_ne.mpr c2
    by_cases c3 : a0 = 10
    · rw [if_pos c3] at H
      have c3b0 : (a0 == 10) = true := beq_iff_eq.mpr c3
      have c3b1 : (a0 != 10) = false := bne_eq_false_iff_eq.mpr c3
      clear c3
      obtain rfl := Option.some.inj H
      go_enter Tryz.func62, Tryz.ntmps62
      go_wp2
      go_ret
      exact ⟨by first | rfl | (simp; done) | (simp [*]; done), by repeat (first | exact Drawn0.refl _ | apply Drawn0.step)⟩
    · rw [if_neg c3] at H
      have c3b0 : (a0 == 10) = false := beq_eq_false_iff_ne.mpr c3
      have c3b1 : (a0 != 10) = true := bne_iff_ne.mpr c3
      by_cases c4 : a0 ≥ 32
      · rw [if_pos c4] at H
        have c4b0 : decide (32 ≤ a0) = true := decide_eq_true c4
        clear c4
        obtain rfl := Option.some.inj H
        go_enter Tryz.func62, Tryz.ntmps62
        go_wp2
        go_ret
        exact ⟨by first | rfl | (simp; done) | (simp [*]; done), by repeat (first | exact Drawn0.refl _ | apply Drawn0.step)⟩
      · rw [if_neg c4] at H
        have c4b0 : decide (32 ≤ a0) = false := decide_eq_false c4
        clear c4
        obtain rfl := Option.some.inj H
        go_enter Tryz.func62, Tryz.ntmps62
        go_wp2
        go_ret
        exact ⟨by first | rfl | (simp; done) | (simp [*]; done), by repeat (first | exact Drawn0.refl _ | apply Drawn0.step)⟩
end Go.Proofs.YtgeonilideojnaaGreatDoor.Pr
end
section
namespace Go.Proofs.YtgeonilideojnaaGreatDoor.Pr
open Go.RowKit Go.Proofs.YtgeonilideojnaaGreatDoorW.PrintWords Go.Proofs.YtgeonilideojnaaGreatDoorW.PrintLast Go.Proofs.YtgeonilideojnaaGreatDoorW.PrintMore
attribute [local go_sem] max2_int min2_int max_two min_two max_three min_three max_four min_four
set_option linter.unusedVariables false
set_option linter.unusedSimpArgs false
def cinnabarref01_all.l0 : Nat → ByteArray → Bool → Int → Option (Bool)
  | 0, _, _, _ => none
  | k + 1, x0, x1, x5 => if x5 < (x0.size : Int) then (if 0 ≤ x5 then ((cinnabarref01_Byte.f (bt x0 x5)).bind fun t137 => (if t137 = true then (if (bt x0 x5) < 32 then (if x1 = true then (cinnabarref01_all.l0 k x0 x1 (wrap64 (x5 + 1))) else (some false)) else (cinnabarref01_all.l0 k x0 x1 (wrap64 (x5 + 1)))) else (some false))) else (none)) else (some true)
def cinnabarref01_all.f (k : Nat) (a0 : ByteArray) (a1 : Bool) : Option (Bool) := cinnabarref01_all.l0 k a0 a1 0
theorem cinnabarref01_all.mono_l : ∀ k, (∀ y0 y1 y2, LeO (cinnabarref01_all.l0 k y0 y1 y2) (cinnabarref01_all.l0 (k + 1) y0 y1 y2))
  | 0 => fun _ _ _ r h => by simp [cinnabarref01_all.l0] at h
  | k + 1 => by
    have ih0 := cinnabarref01_all.mono_l k
    · intro y0 y1 y2
      unfold cinnabarref01_all.l0
      repeat' first
      | (with_reducible exact ih0 _ _ _)
      | (with_reducible exact LeO.refl _)
      | (with_reducible exact LeO.none _)
      | (with_reducible refine LeO.ite ?_ ?_)
      | (with_reducible refine LeO.bind ?_ (fun _ => ?_))
      | exact ih0 _ _ _
      | exact LeO.none _
      | refine LeO.ite ?_ ?_
      | refine LeO.bind ?_ (fun _ => ?_)
theorem cinnabarref01_all.mono : ∀ a0 a1 k, LeO (cinnabarref01_all.f k a0 a1) (cinnabarref01_all.f (k + 1) a0 a1) := by
  intro a0 a1 k
  have ih0 := cinnabarref01_all.mono_l k
  unfold cinnabarref01_all.f
  repeat' first
      | (with_reducible exact ih0 _ _ _)
      | (with_reducible exact LeO.refl _)
      | (with_reducible exact LeO.none _)
      | (with_reducible refine LeO.ite ?_ ?_)
      | (with_reducible refine LeO.bind ?_ (fun _ => ?_))
      | exact ih0 _ _ _
      | exact LeO.none _
      | refine LeO.ite ?_ ?_
      | refine LeO.bind ?_ (fun _ => ?_)
set_option maxHeartbeats 8000000 in
set_option maxRecDepth 100000 in
theorem cinnabarref01_all.calls (k : Nat) (a0 : ByteArray) (a1 : Bool) (r : Bool) (w : World) (h : cinnabarref01_all.f k a0 a1 = some r) :
    Calls Tryz.prog 36 #[.string a0, .bool a1] w fun e w' => e = .returned (.bool r) ∧ Drawn0 w w' := by
  have H : (cinnabarref01_all.l0 k a0 a1 0) = some r := h
  clear h
  have H' := Aside0.mk H
  clear H
  go_enter Tryz.func36, Tryz.ntmps36
  go_wp2
  (try simp only [Go.Act.put, List.setIfInBounds_toArray, List.set_cons_succ, List.set_cons_zero])
  go_loopg [5] k (fun kq v5 w' => ∃ (x5_1 : Int), v5 = .int .i64 x5_1 ∧ Aside0 (cinnabarref01_all.l0 kq a0 a1 x5_1 = some r) ∧ Aside0 (kq ≤ k) ∧ Drawn0 w w')
  case atStart => exact ⟨(0), (by first | rfl | (simp; done) | (simp [*]; done) | (simp [show ∀ l : List UInt8, (l != []) = !l.isEmpty from fun l => by cases l <;> rfl]; done)), H', ⟨Nat.le_refl _⟩, by repeat (first | exact Drawn0.refl _ | apply Drawn0.step)⟩
  case round =>
    clear H'
    try clear p2
    obtain ⟨x5_1, rfl, HA, HK1, ⟨m1, rfl⟩⟩ := hrel
    cases gk with
    | zero => exact absurd HA.out (by simp [cinnabarref01_all.l0])
    | succ k1 =>
      have H := HA.out
      clear HA
      simp only [cinnabarref01_all.l0] at H
      by_cases c3 : x5_1 < (a0.size : Int)
      · rw [if_pos c3] at H
        have c3b0 : decide (x5_1 < (a0.size : Int)) = true := decide_eq_true c3
        clear c3
        by_cases c4 : 0 ≤ x5_1
        · rw [if_pos c4] at H
          have c4b0 : decide (0 ≤ x5_1) = true := decide_eq_true c4
          clear c4
          replace H := Option.bind_eq_some_iff.mp H
          obtain ⟨t137, A60, H⟩ := H
          replace H : (if t137 = true then (if (bt a0 x5_1) < 32 then (if a1 = true then (cinnabarref01_all.l0 k1 a0 a1 (wrap64 (x5_1 + 1))) else (some false)) else (cinnabarref01_all.l0 k1 a0 a1 (wrap64 (x5_1 + 1)))) else (some false)) = some r := H
          have A6 := Aside0.mk A60
          clear A60
          by_cases c7 : t137 = true
          · subst c7
            have H1 : (if (bt a0 x5_1) < 32 then (if a1 = true then (cinnabarref01_all.l0 k1 a0 a1 (wrap64 (x5_1 + 1))) else (some false)) else (cinnabarref01_all.l0 k1 a0 a1 (wrap64 (x5_1 + 1)))) = some r := by rw [if_pos rfl] at H; exact H
            clear H
            have H := H1
            clear H1
            by_cases c9 : (bt a0 x5_1) < 32
            · rw [if_pos c9] at H
              have c9b0 : decide ((bt a0 x5_1) < 32) = true := decide_eq_true c9
              clear c9
              by_cases c10 : a1 = true
              · subst c10
                have H1 : (cinnabarref01_all.l0 k1 a0 true (wrap64 (x5_1 + 1))) = some r := by rw [if_pos rfl] at H; exact H
                clear H
                have H := H1
                clear H1
                have H' := Aside0.mk H
                clear H
                have p5 : 0 ≤ (x5_1 : Int) := of_decide_eq_true (by first | (with_reducible assumption) | assumption)
                have q5 : x5_1 < (a0.size : Int) := of_decide_eq_true (by first | (with_reducible assumption) | assumption)
                have hx5 := bt_at a0 x5_1
                replace p5 := eq_true p5
                replace q5 := eq_true q5
                go_wp2_with (first | ((with_reducible refine gate_callee (f := 62) rfl ?_); refine goesL_ (some 15) rfl rfl Tryz.func62 (by kernel_rfl) rfl #[.int .u8 (bt a0 x5_1)] rfl (by (try simp only [List.map_toArray, List.map_cons, List.map_nil]); first | done | rfl | (simp only [List.length_drop, List.length_take]; rfl)) ?_; (with_reducible refine (cinnabarref01_Byte.calls (bt a0 x5_1) true _ A6.out).mono ?_); rintro e w' ⟨rfl, ⟨nd, rfl⟩⟩; refine ⟨_, rfl, ?_⟩; have p8 : 0 ≤ (x5_1 : Int) := of_decide_eq_true (by first | (with_reducible assumption) | assumption); have q8 : x5_1 < (a0.size : Int) := of_decide_eq_true (by first | (with_reducible assumption) | assumption); have hx8 := bt_at a0 x5_1; replace p8 := eq_true p8; replace q8 := eq_true q8))
                go_roundg k1
                case measure => have := HK1.out; omega
                case rel => exact ⟨(wrap64 (x5_1 + 1)), (by first | rfl | (simp; done) | (simp [*]; done) | (simp [show ∀ l : List UInt8, (l != []) = !l.isEmpty from fun l => by cases l <;> rfl]; done)), H', ⟨by have := HK1.out; omega⟩, by repeat (first | exact Drawn0.refl _ | apply Drawn0.step)⟩
              · replace c10 := Bool.eq_false_iff.mpr c10
                subst c10
                have H1 : (some false) = some r := by rw [if_neg (show ¬ (false = true) by decide)] at H; exact H
                clear H
                have H := H1
                clear H1
                obtain rfl := Option.some.inj H
                have p5 : 0 ≤ (x5_1 : Int) := of_decide_eq_true (by first | (with_reducible assumption) | assumption)
                have q5 : x5_1 < (a0.size : Int) := of_decide_eq_true (by first | (with_reducible assumption) | assumption)
                have hx5 := bt_at a0 x5_1
                replace p5 := eq_true p5
                replace q5 := eq_true q5
                go_wp2_with (first | ((with_reducible refine gate_callee (f := 62) rfl ?_); refine goesL_ (some 15) rfl rfl Tryz.func62 (by kernel_rfl) rfl #[.int .u8 (bt a0 x5_1)] rfl (by (try simp only [List.map_toArray, List.map_cons, List.map_nil]); first | done | rfl | (simp only [List.length_drop, List.length_take]; rfl)) ?_; (with_reducible refine (cinnabarref01_Byte.calls (bt a0 x5_1) true _ A6.out).mono ?_); rintro e w' ⟨rfl, ⟨nd, rfl⟩⟩; refine ⟨_, rfl, ?_⟩; have p8 : 0 ≤ (x5_1 : Int) := of_decide_eq_true (by first | (with_reducible assumption) | assumption); have q8 : x5_1 < (a0.size : Int) := of_decide_eq_true (by first | (with_reducible assumption) | assumption); have hx8 := bt_at a0 x5_1; replace p8 := eq_true p8; replace q8 := eq_true q8))
                go_ret
                exact ⟨by first | rfl | (simp; done) | (simp [*]; done), by repeat (first | exact Drawn0.refl _ | apply Drawn0.step)⟩
            · rw [if_neg c9] at H
              have c9b0 : decide ((bt a0 x5_1) < 32) = false := decide_eq_false c9
              clear c9
              have H' := Aside0.mk H
              clear H
              have p5 : 0 ≤ (x5_1 : Int) := of_decide_eq_true (by first | (with_reducible assumption) | assumption)
              have q5 : x5_1 < (a0.size : Int) := of_decide_eq_true (by first | (with_reducible assumption) | assumption)
              have hx5 := bt_at a0 x5_1
              replace p5 := eq_true p5
              replace q5 := eq_true q5
              go_wp2_with (first | ((with_reducible refine gate_callee (f := 62) rfl ?_); refine goesL_ (some 15) rfl rfl Tryz.func62 (by kernel_rfl) rfl #[.int .u8 (bt a0 x5_1)] rfl (by (try simp only [List.map_toArray, List.map_cons, List.map_nil]); first | done | rfl | (simp only [List.length_drop, List.length_take]; rfl)) ?_; (with_reducible refine (cinnabarref01_Byte.calls (bt a0 x5_1) true _ A6.out).mono ?_); rintro e w' ⟨rfl, ⟨nd, rfl⟩⟩; refine ⟨_, rfl, ?_⟩; have p8 : 0 ≤ (x5_1 : Int) := of_decide_eq_true (by first | (with_reducible assumption) | assumption); have q8 : x5_1 < (a0.size : Int) := of_decide_eq_true (by first | (with_reducible assumption) | assumption); have hx8 := bt_at a0 x5_1; replace p8 := eq_true p8; replace q8 := eq_true q8))
              go_roundg k1
              case measure => have := HK1.out; omega
              case rel => exact ⟨(wrap64 (x5_1 + 1)), (by first | rfl | (simp; done) | (simp [*]; done) | (simp [show ∀ l : List UInt8, (l != []) = !l.isEmpty from fun l => by cases l <;> rfl]; done)), H', ⟨by have := HK1.out; omega⟩, by repeat (first | exact Drawn0.refl _ | apply Drawn0.step)⟩
          · replace c7 := Bool.eq_false_iff.mpr c7
            subst c7
            have H1 : (some false) = some r := by rw [if_neg (show ¬ (false = true) by decide)] at H; exact H
            clear H
            have H := H1
            clear H1
            obtain rfl := Option.some.inj H
            have p5 : 0 ≤ (x5_1 : Int) := of_decide_eq_true (by first | (with_reducible assumption) | assumption)
            have q5 : x5_1 < (a0.size : Int) := of_decide_eq_true (by first | (with_reducible assumption) | assumption)
            have hx5 := bt_at a0 x5_1
            replace p5 := eq_true p5
            replace q5 := eq_true q5
            go_wp2_with (first | ((with_reducible refine gate_callee (f := 62) rfl ?_); refine goesL_ (some 15) rfl rfl Tryz.func62 (by kernel_rfl) rfl #[.int .u8 (bt a0 x5_1)] rfl (by (try simp only [List.map_toArray, List.map_cons, List.map_nil]); first | done | rfl | (simp only [List.length_drop, List.length_take]; rfl)) ?_; (with_reducible refine (cinnabarref01_Byte.calls (bt a0 x5_1) false _ A6.out).mono ?_); rintro e w' ⟨rfl, ⟨nd, rfl⟩⟩; refine ⟨_, rfl, ?_⟩))
            go_ret
            exact ⟨by first | rfl | (simp; done) | (simp [*]; done), by repeat (first | exact Drawn0.refl _ | apply Drawn0.step)⟩
        · rw [if_neg c4] at H
          exact absurd H (by simp)
      · rw [if_neg c3] at H
        have c3b0 : decide (x5_1 < (a0.size : Int)) = false := decide_eq_false c3
        clear c3
        obtain rfl := Option.some.inj H
        go_wp2
        go_ret
        exact ⟨by first | rfl | (simp; done) | (simp [*]; done), by repeat (first | exact Drawn0.refl _ | apply Drawn0.step)⟩
end Go.Proofs.YtgeonilideojnaaGreatDoor.Pr
end
section
namespace Go.Proofs.YtgeonilideojnaaGreatDoor.Pr
open Go.RowKit Go.Proofs.YtgeonilideojnaaGreatDoorW.PrintWords Go.Proofs.YtgeonilideojnaaGreatDoorW.PrintLast Go.Proofs.YtgeonilideojnaaGreatDoorW.PrintMore
attribute [local go_sem] max2_int min2_int max_two min_two max_three min_three max_four min_four
set_option linter.unusedVariables false
set_option linter.unusedSimpArgs false
def cinnabarref01_great.l0 : Nat → ByteArray → Int → Int → Option (Bool)
  | 0, _, _, _ => none
  | k + 1, x0, x3, x4 => if x4 < (x0.size : Int) then (if 0 ≤ x4 then (if x3 > ((4611686018427387903 - (((bt x0 x4) - 48) % 256)) / 10) then (some true) else (cinnabarref01_great.l0 k x0 (wrap64 ((wrap64 (10 * x3)) + (((bt x0 x4) - 48) % 256))) (wrap64 (x4 + 1)))) else (none)) else (some false)
def cinnabarref01_great.f (k : Nat) (a0 : ByteArray) : Option (Bool) := cinnabarref01_great.l0 k a0 0 0
theorem cinnabarref01_great.mono_l : ∀ k, (∀ y0 y1 y2, LeO (cinnabarref01_great.l0 k y0 y1 y2) (cinnabarref01_great.l0 (k + 1) y0 y1 y2))
  | 0 => fun _ _ _ r h => by simp [cinnabarref01_great.l0] at h
  | k + 1 => by
    have ih0 := cinnabarref01_great.mono_l k
    · intro y0 y1 y2
      unfold cinnabarref01_great.l0
      repeat' first
      | (with_reducible exact ih0 _ _ _)
      | (with_reducible exact LeO.refl _)
      | (with_reducible exact LeO.none _)
      | (with_reducible refine LeO.ite ?_ ?_)
      | (with_reducible refine LeO.bind ?_ (fun _ => ?_))
      | exact ih0 _ _ _
      | exact LeO.none _
      | refine LeO.ite ?_ ?_
      | refine LeO.bind ?_ (fun _ => ?_)
theorem cinnabarref01_great.mono : ∀ a0 k, LeO (cinnabarref01_great.f k a0) (cinnabarref01_great.f (k + 1) a0) := by
  intro a0 k
  have ih0 := cinnabarref01_great.mono_l k
  unfold cinnabarref01_great.f
  repeat' first
      | (with_reducible exact ih0 _ _ _)
      | (with_reducible exact LeO.refl _)
      | (with_reducible exact LeO.none _)
      | (with_reducible refine LeO.ite ?_ ?_)
      | (with_reducible refine LeO.bind ?_ (fun _ => ?_))
      | exact ih0 _ _ _
      | exact LeO.none _
      | refine LeO.ite ?_ ?_
      | refine LeO.bind ?_ (fun _ => ?_)
set_option maxHeartbeats 8000000 in
set_option maxRecDepth 100000 in
theorem cinnabarref01_great.calls (k : Nat) (a0 : ByteArray) (r : Bool) (w : World) (h : cinnabarref01_great.f k a0 = some r) :
    Calls Tryz.prog 43 #[.string a0] w fun e w' => e = .returned (.bool r) ∧ Drawn0 w w' := by
  have H : (cinnabarref01_great.l0 k a0 0 0) = some r := h
  clear h
  have H' := Aside0.mk H
  clear H
  go_enter Tryz.func43, Tryz.ntmps43
  go_wp2
  (try simp only [Go.Act.put, List.setIfInBounds_toArray, List.set_cons_succ, List.set_cons_zero])
  go_loopg [3, 4] k (fun kq v3 v4 w' => ∃ (x3_1 : Int) (x4_1 : Int), v3 = .int .i64 x3_1 ∧ v4 = .int .i64 x4_1 ∧ Aside0 (cinnabarref01_great.l0 kq a0 x3_1 x4_1 = some r) ∧ Aside0 (kq ≤ k) ∧ Drawn0 w w')
  case atStart => exact ⟨(0), (0), (by first | rfl | (simp; done) | (simp [*]; done) | (simp [show ∀ l : List UInt8, (l != []) = !l.isEmpty from fun l => by cases l <;> rfl]; done)), (by first | rfl | (simp; done) | (simp [*]; done) | (simp [show ∀ l : List UInt8, (l != []) = !l.isEmpty from fun l => by cases l <;> rfl]; done)), H', ⟨Nat.le_refl _⟩, by repeat (first | exact Drawn0.refl _ | apply Drawn0.step)⟩
  case round =>
    clear H'
    obtain ⟨x3_1, x4_1, rfl, rfl, HA, HK1, ⟨m1, rfl⟩⟩ := hrel
    cases gk with
    | zero => exact absurd HA.out (by simp [cinnabarref01_great.l0])
    | succ k1 =>
      have H := HA.out
      clear HA
      simp only [cinnabarref01_great.l0] at H
      by_cases c2 : x4_1 < (a0.size : Int)
      · rw [if_pos c2] at H
        have c2b0 : decide (x4_1 < (a0.size : Int)) = true := decide_eq_true c2
        clear c2
        by_cases c3 : 0 ≤ x4_1
        · rw [if_pos c3] at H
          have c3b0 : decide (0 ≤ x4_1) = true := decide_eq_true c3
          clear c3
          by_cases c5 : x3_1 > ((4611686018427387903 - (((bt a0 x4_1) - 48) % 256)) / 10)
          · rw [if_pos c5] at H
            have c5b0 : decide (((4611686018427387903 - (((bt a0 x4_1) - 48) % 256)) / 10) < x3_1) = true := decide_eq_true c5
            clear c5
            obtain rfl := Option.some.inj H
            have p4 : 0 ≤ (x4_1 : Int) := of_decide_eq_true (by first | (with_reducible assumption) | assumption)
            have q4 : x4_1 < (a0.size : Int) := of_decide_eq_true (by first | (with_reducible assumption) | assumption)
            have hx4 := bt_at a0 x4_1
            replace p4 := eq_true p4
            replace q4 := eq_true q4
            go_wp2
            go_ret
            exact ⟨by first | rfl | (simp; done) | (simp [*]; done), by repeat (first | exact Drawn0.refl _ | apply Drawn0.step)⟩
          · rw [if_neg c5] at H
            have c5b0 : decide (((4611686018427387903 - (((bt a0 x4_1) - 48) % 256)) / 10) < x3_1) = false := decide_eq_false c5
            clear c5
            have H' := Aside0.mk H
            clear H
            have p4 : 0 ≤ (x4_1 : Int) := of_decide_eq_true (by first | (with_reducible assumption) | assumption)
            have q4 : x4_1 < (a0.size : Int) := of_decide_eq_true (by first | (with_reducible assumption) | assumption)
            have hx4 := bt_at a0 x4_1
            replace p4 := eq_true p4
            replace q4 := eq_true q4
            go_wp2
            go_roundg k1
            case measure => have := HK1.out; omega
            case rel => exact ⟨(wrap64 ((wrap64 (10 * x3_1)) + (((bt a0 x4_1) - 48) % 256))), (wrap64 (x4_1 + 1)), (by first | rfl | (simp; done) | (simp [*]; done) | (simp [show ∀ l : List UInt8, (l != []) = !l.isEmpty from fun l => by cases l <;> rfl]; done)), (by first | rfl | (simp; done) | (simp [*]; done) | (simp [show ∀ l : List UInt8, (l != []) = !l.isEmpty from fun l => by cases l <;> rfl]; done)), H', ⟨by have := HK1.out; omega⟩, by repeat (first | exact Drawn0.refl _ | apply Drawn0.step)⟩
        · rw [if_neg c3] at H
          exact absurd H (by simp)
      · rw [if_neg c2] at H
        have c2b0 : decide (x4_1 < (a0.size : Int)) = false := decide_eq_false c2
        clear c2
        obtain rfl := Option.some.inj H
        go_wp2
        go_ret
        exact ⟨by first | rfl | (simp; done) | (simp [*]; done), by repeat (first | exact Drawn0.refl _ | apply Drawn0.step)⟩
end Go.Proofs.YtgeonilideojnaaGreatDoor.Pr
end
section
namespace Go.Proofs.YtgeonilideojnaaGreatDoor.Rf
open Go Go.RowKit Tk Go.Proofs.YtgeonilideojnaaGreatDoor.Pr Go.Proofs.YtgeonilideojnaaGreatDoorW.PrintWords
set_option linter.unusedVariables false
set_option linter.unusedSimpArgs false
theorem bt_cons {l : Bs} {i : Nat} {c : UInt8} {t : Bs} (h : l.drop i = c :: t) : bt (B l) (i : Int) = (c.toNat : Int) := by
  obtain ⟨hl, h1, _⟩ := drop_at h
  rw [← bt_at (B l) (i : Int) (by simpa [size_B] using hl)]
  have := B_get h (by simpa [size_B] using hl)
  simp only [Int.toNat_natCast]
  rw [this]
theorem lt_cons {l : Bs} {i : Nat} {c : UInt8} {t : Bs} (h : l.drop i = c :: t) : (i : Int) < ((B l).size : Int) := by
  obtain ⟨hl, _, _⟩ := drop_at h
  rw [size_B]
  omega
theorem nlt_nil {l : Bs} {i : Nat} (h : l.drop i = []) : ¬ (i : Int) < ((B l).size : Int) := by
  have := drop_nil h
  rw [size_B]
  omega
theorem wrap_succ (i : Nat) (h : i ≤ 1000000) : wrap64 ((i : Int) + 1) = ((i + 1 : Nat) : Int) := by
  unfold wrap64
  omega
theorem nn (i : Nat) : (0 : Int) ≤ (i : Int) := Int.natCast_nonneg i
theorem cast_eq {c d : UInt8} : (c.toNat : Int) = (d.toNat : Int) ↔ c = d := by
  constructor
  · intro h
    exact UInt8.toNat_inj.1 (by omega)
  · rintro rfl
    rfl
theorem small_f (c : UInt8) : cinnabarref01_small.f (c.toNat : Int) = some (small c) := by
  unfold cinnabarref01_small.f small
  split
  · rename_i h
    congr 1
    rw [Bool.eq_iff_iff]
    simp
    omega
  · congr 1
    rw [Bool.eq_iff_iff]
    simp
    omega
theorem capital_f (c : UInt8) : cinnabarref01_capital.f (c.toNat : Int) = some (capital c) := by
  unfold cinnabarref01_capital.f capital
  repeat' split
  all_goals
    congr 1
    rw [Bool.eq_iff_iff]
    simp
    omega
theorem digit_f (c : UInt8) : cinnabarref01_digit.f (c.toNat : Int) = some (digit c) := by
  unfold cinnabarref01_digit.f digit
  repeat' split
  all_goals
    congr 1
    rw [Bool.eq_iff_iff]
    simp
    omega
theorem word_f (c : UInt8) : cinnabarref01_word.f (c.toNat : Int) = some (letter c) := by
  unfold cinnabarref01_word.f letter
  rw [small_f]
  simp only [Option.bind_some]
  cases small c <;> simp [capital_f, digit_f] <;> cases capital c <;> simp [digit_f]
theorem Byte_f (c : UInt8) : cinnabarref01_Byte.f (c.toNat : Int) = some (permitted c) := by
  unfold cinnabarref01_Byte.f permitted
  repeat' split
  all_goals
    congr 1
    rw [Bool.eq_iff_iff]
    simp
    omega
theorem has_l0 (l : Bs) (c : UInt8) (hl : l.length ≤ 1000000) : ∀ (t : Bs) (i : Nat), l.drop i = t → Ev (fun k => cinnabarref01_has.l0 k (B l) (c.toNat : Int) (i : Int)) (t.contains c)
  | [], i, h => Ev.step (f := fun _ => some false) (fun k => by simp only [cinnabarref01_has.l0]; rw [if_neg (nlt_nil h)]) (Ev.now _)
  | d :: t, i, h => by
    obtain ⟨hi, _, h2⟩ := drop_at h
    by_cases e : d = c
    · refine Ev.step (f := fun _ => some true) (fun k => by simp only [cinnabarref01_has.l0]; rw [if_pos (lt_cons h), if_pos (nn i), if_pos (by rw [bt_cons h, e])]) ?_
      subst e
      simpa using Ev.now true
    · have hc : ((d :: t).contains c) = t.contains c := by
        simp only [List.contains_cons]
        rw [show (c == d) = false from by simpa using fun h => e h.symm]
        simp
      rw [hc]
      exact Ev.step (f := fun k => cinnabarref01_has.l0 k (B l) (c.toNat : Int) ((i + 1 : Nat) : Int)) (fun k => by simp only [cinnabarref01_has.l0]; rw [if_pos (lt_cons h), if_pos (nn i), if_neg (by rw [bt_cons h, cast_eq]; exact e), wrap_succ i (by omega)]) (has_l0 l c hl t (i + 1) h2)
theorem has_f (l : Bs) (c : UInt8) (hl : l.length ≤ 1000000) : Ev (fun k => cinnabarref01_has.f k (B l) (c.toNat : Int)) (l.contains c) := has_l0 l c hl l 0 rfl
theorem sign_f (c : UInt8) : Ev (fun k => cinnabarref01_sign.f k (c.toNat : Int)) (sign c) := by
  have h : Ev (fun k => cinnabarref01_has.f k (B signsL) (c.toNat : Int)) (signsL.contains c) := has_f signsL c (by decide)
  refine Ev.congr (f := fun k => (cinnabarref01_has.f k (B signsL) (c.toNat : Int)).bind fun t => some t) (fun k => rfl) ?_
  exact Ev.bind (f := fun _ t => some t) h (Ev.now _)
theorem at_f (l : Bs) (x1 : Int) (o : List S35) (x3 x4 x5 : Int) (i : Nat) : cinnabarref01_scanner_at.f (B l) x1 o x3 x4 x5 (i : Int) = some (((pk l i).toNat : Int), B l, x1, x3, x4, x5) := by
  unfold cinnabarref01_scanner_at.f
  cases h : l.drop i with
  | nil => rw [if_neg (nlt_nil h), pk_nil h]; rfl
  | cons c t => rw [if_pos (lt_cons h), if_pos (nn i), bt_cons h, pk_cons h]
theorem run_l0 (l : Bs) (x1 : Int) (o : List S35) (x3 x4 x5 : Int) (hl : l.length ≤ 1000000) : ∀ (t : Bs) (i : Nat), l.drop i = t → Ev (fun k => cinnabarref01_scanner_run.l0 k (i : Int) (B l) x1 o x3 x4 x5) (((i + spanLen letter t : Nat) : Int), B l, x1, x3, x4, x5)
  | [], i, h => Ev.step (f := fun _ => some (((i + spanLen letter [] : Nat) : Int), B l, x1, x3, x4, x5)) (fun k => by
      simp only [cinnabarref01_scanner_run.l0]
      rw [at_f, pk_nil h]
      simp only [Option.bind_some, word_f, show letter 0 = false from by decide, Bool.false_eq_true, if_false]
      rfl) (Ev.now _)
  | c :: t, i, h => by
    obtain ⟨hi, _, h2⟩ := drop_at h
    cases hc : letter c with
    | true =>
      have e : i + spanLen letter (c :: t) = (i + 1) + spanLen letter t := by simp [spanLen, hc]; omega
      rw [e]
      refine Ev.step (f := fun k => cinnabarref01_scanner_run.l0 k ((i + 1 : Nat) : Int) (B l) x1 o x3 x4 x5) (fun k => ?_) (run_l0 l x1 o x3 x4 x5 hl t (i + 1) h2)
      simp only [cinnabarref01_scanner_run.l0]
      rw [at_f, pk_cons h]
      simp only [Option.bind_some, word_f, hc, if_true]
      rw [if_pos (lt_cons h), wrap_succ i (by omega)]
    | false =>
      have e : i + spanLen letter (c :: t) = i := by simp [spanLen, hc]
      rw [e]
      refine Ev.step (f := fun k => some (((i : Nat) : Int), B l, x1, x3, x4, x5)) (fun k => ?_) (Ev.now _)
      simp only [cinnabarref01_scanner_run.l0]
      rw [at_f, pk_cons h]
      simp only [Option.bind_some, word_f, hc, Bool.false_eq_true, if_false]
theorem run_f (l : Bs) (x1 : Int) (o : List S35) (x3 x4 x5 : Int) (hl : l.length ≤ 1000000) (i : Nat) : Ev (fun k => cinnabarref01_scanner_run.f k (B l) x1 o x3 x4 x5 (i : Int)) (((i + spanLen letter (l.drop i) : Nat) : Int), B l, x1, x3, x4, x5) :=
  run_l0 l x1 o x3 x4 x5 hl _ i rfl
theorem all_l0 (l : Bs) (ln : Bool) (hl : l.length ≤ 1000000) : ∀ (t : Bs) (i : Nat), l.drop i = t → Ev (fun k => cinnabarref01_all.l0 k (B l) ln (i : Int)) (printable t ln)
  | [], i, h => Ev.step (f := fun _ => some true) (fun k => by simp only [cinnabarref01_all.l0]; rw [if_neg (nlt_nil h)]) (Ev.now _)
  | d :: t, i, h => by
    obtain ⟨hi, _, h2⟩ := drop_at h
    have ih := all_l0 l ln hl t (i + 1) h2
    cases hp : permitted d with
    | false =>
      have e : printable (d :: t) ln = false := by simp [printable, hp]
      rw [e]
      refine Ev.step (f := fun _ => some false) (fun k => ?_) (Ev.now _)
      simp only [cinnabarref01_all.l0]
      rw [if_pos (lt_cons h), if_pos (nn i), bt_cons h, Byte_f, hp]
      simp
    | true =>
      by_cases hb : d.toNat < 32
      · cases ln with
        | true =>
          have e : printable (d :: t) true = printable t true := by simp [printable, hp]
          rw [e]
          refine Ev.step (f := fun k => cinnabarref01_all.l0 k (B l) true ((i + 1 : Nat) : Int)) (fun k => ?_) ih
          simp only [cinnabarref01_all.l0]
          rw [if_pos (lt_cons h), if_pos (nn i), bt_cons h, Byte_f, hp, wrap_succ i (by omega)]
          simp [nn i, lt_cons h]
        | false =>
          have e : printable (d :: t) false = false := by simp [printable, hp]; intro h; omega
          rw [e]
          refine Ev.step (f := fun _ => some false) (fun k => ?_) (Ev.now _)
          simp only [cinnabarref01_all.l0]
          rw [if_pos (lt_cons h), if_pos (nn i), bt_cons h, Byte_f, hp]
          have hb' : (d.toNat : Int) < 32 := by omega
          simp [nn i, lt_cons h, hb']
      · have e : printable (d :: t) ln = printable t ln := by
          have : (32 ≤ d.toNat) := by omega
          simp [printable, hp, this]
        rw [e]
        refine Ev.step (f := fun k => cinnabarref01_all.l0 k (B l) ln ((i + 1 : Nat) : Int)) (fun k => ?_) ih
        simp only [cinnabarref01_all.l0]
        rw [if_pos (lt_cons h), if_pos (nn i), bt_cons h, Byte_f, hp, wrap_succ i (by omega)]
        have hb' : ¬ (d.toNat : Int) < 32 := by omega
        simp [nn i, lt_cons h, hb']
theorem all_f (l : Bs) (ln : Bool) (hl : l.length ≤ 1000000) : Ev (fun k => cinnabarref01_all.f k (B l) ln) (printable l ln) := all_l0 l ln hl l 0 rfl
end Go.Proofs.YtgeonilideojnaaGreatDoor.Rf
end
