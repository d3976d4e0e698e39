/- A part of a proof over the package's statements: contracts of functions and plain facts, merged by a program of this session's. -/
import Derived.Test.YtgeonilideojnaaGreatDoorRG1x1
import Derived.Test.YtgeonilideojnaaGreatDoorRG1x2
import Derived.Test.YtgeonilideojnaaGreatDoorRG1x3
import Derived.Test.YtgeonilideojnaaGreatDoorRG1x4
import Derived.Test.YtgeonilideojnaaGreatDoorRG1x5
import Derived.Test.YtgeonilideojnaaGreatDoorRG1x6
import Derived.Test.YtgeonilideojnaaGreatDoorRG1x7
import Derived.Test.YtgeonilideojnaaGreatDoorRG1x8
section
namespace Go.Proofs.YtgeonilideojnaaGreatDoor.TkC
set_option linter.unusedVariables false
set_option linter.unusedSimpArgs false
open Go Go.RowKit Tk Go.Proofs.YtgeonilideojnaaGreatDoor.Pr Go.Proofs.YtgeonilideojnaaGreatDoorW.PrintWords Go.Proofs.YtgeonilideojnaaGreatDoorW.PrintLast Go.Proofs.YtgeonilideojnaaGreatDoorW.PrintMore
def okB (x : STok) : Bool := (Lit.int .i64 x.f0).wf && decide (x.f1.size ≤ 65536)
theorem okB_ok {x : STok} (h : okB x = true) : okT x := by
  unfold okB at h
  simp only [Bool.and_eq_true, decide_eq_true_eq] at h
  exact h
def Text.f (xs : List STok) : Option (ByteArray × Int) := if xs.length ≤ 65536 ∧ xs.all okB = true then some (B (textS (xs.map toTok)).1, ((textS (xs.map toTok)).2 : Int)) else none
theorem Text.calls (A0 : Option Addr) (c0 : Nat) (l0 : List STok) (r1 : ByteArray) (r2 : Int) (w : World) (hr0 : Kd.C k35 w A0 l0.length l0) (hc0 : l0.length ≤ c0) (hEnv : EnvW w) (h : Text.f l0 = some (r1, r2)) :
    Calls Tryz.prog 14 #[.slice A0 l0.length c0] w fun e w' => e = .returned (.tuple #[.string r1, .int .i64 r2]) ∧ Below w.heap.size w w' := by
  unfold Text.f at h
  split at h
  · rename_i hc
    injection h with h
    injection h with h1 h2
    subst h1 h2
    exact Text_calls A0 c0 l0 w hr0 hc0 hc.1 (fun x hx => okB_ok (List.all_eq_true.1 hc.2 x hx)) hEnv
  · cases h
end Go.Proofs.YtgeonilideojnaaGreatDoor.TkC
end
section
namespace Go.Proofs.YtgeonilideojnaaGreatDoor.Pr
open Go.RowKit Go.Proofs.YtgeonilideojnaaGreatDoorW.PrintWords Go.Proofs.YtgeonilideojnaaGreatDoorW.PrintLast Go.Proofs.YtgeonilideojnaaGreatDoorW.PrintMore
attribute [local go_sem] max2_int min2_int max_two min_two max_three min_three max_four min_four
set_option linter.unusedVariables false
set_option linter.unusedSimpArgs false
def cinnabarlaw01_awake.j0 : Nat → List (S35) → Bool → Option (Bool)
  | 0, _, _ => none
  | k + 1, x1, x37 => if x37 = true then (some false) else ((TkC.Text.f x1).bind fun bt112 => (if bt112.2 = 0 then (if bt112.1.toList = ([112, 40, 32, 88, 32, 41, 32, 58, 45, 32, 33, 46, 88, 32, 61, 32, 48, 39, 97, 32, 46, 10] : List UInt8) then ((tokens_Name.f (⟨#[97, 32, 98]⟩ : ByteArray)).bind fun t114 => (some (t114.toList == ([39, 97, 32, 98, 39] : List UInt8)))) else (some false)) else (some false)))
def cinnabarlaw01_awake.f (k : Nat)  : Option (Bool) := (TkC.Tokens.f (⟨#[112, 40, 88, 41, 32, 58, 45, 32, 33, 46, 88, 32, 61, 32, 48, 39, 97, 46]⟩ : ByteArray)).bind fun bt103 => (if bt103.2.2 = 0 then (if (bt103.1.length : Int) = 11 then (if 1 < (bt103.1.length : Int) then (if ((rd_T35 bt103.1 1).f1).toList = ([40, 40] : List UInt8) then (if 5 < (bt103.1.length : Int) then (if ((rd_T35 bt103.1 5).f1).toList = ([33, 46] : List UInt8) then (if 10 < (bt103.1.length : Int) then (cinnabarlaw01_awake.j0 k bt103.1 (((rd_T35 bt103.1 10).f0) != 0)) else (none)) else (cinnabarlaw01_awake.j0 k bt103.1 true)) else (none)) else (cinnabarlaw01_awake.j0 k bt103.1 true)) else (none)) else (cinnabarlaw01_awake.j0 k bt103.1 true)) else (cinnabarlaw01_awake.j0 k bt103.1 true))
theorem cinnabarlaw01_awake.mono_l : ∀ k, (∀ y0 y1, LeO (cinnabarlaw01_awake.j0 k y0 y1) (cinnabarlaw01_awake.j0 (k + 1) y0 y1))
  | 0 => fun _ _ r h => by simp [cinnabarlaw01_awake.j0] at h
  | k + 1 => by
    have ih0 := cinnabarlaw01_awake.mono_l k
    · intro y0 y1
      unfold cinnabarlaw01_awake.j0
      repeat' first
      | (with_reducible exact ih0 _ _)
      | (with_reducible exact LeO.refl _)
      | (with_reducible exact LeO.none _)
      | (with_reducible refine LeO.ite ?_ ?_)
      | (with_reducible refine LeO.bind ?_ (fun _ => ?_))
      | exact ih0 _ _
      | exact LeO.none _
      | refine LeO.ite ?_ ?_
      | refine LeO.bind ?_ (fun _ => ?_)
theorem cinnabarlaw01_awake.mono : ∀ k, LeO (cinnabarlaw01_awake.f k ) (cinnabarlaw01_awake.f (k + 1) ) := by
  intro  k
  have ih0 := cinnabarlaw01_awake.mono_l k
  unfold cinnabarlaw01_awake.f
  repeat' first
      | (with_reducible exact ih0 _ _)
      | (with_reducible exact LeO.refl _)
      | (with_reducible exact LeO.none _)
      | (with_reducible refine LeO.ite ?_ ?_)
      | (with_reducible refine LeO.bind ?_ (fun _ => ?_))
      | exact ih0 _ _
      | exact LeO.none _
      | refine LeO.ite ?_ ?_
      | refine LeO.bind ?_ (fun _ => ?_)
set_option maxHeartbeats 8000000 in
set_option maxRecDepth 100000 in
theorem cinnabarlaw01_awake.calls (k : Nat)  (r : Bool) (w : World) (hEnv : EnvW w) (h : cinnabarlaw01_awake.f k  = some r) :
    Calls Tryz.prog 9 #[] w fun e w' => e = .returned (.bool r) ∧ Below w.heap.size w w' := by
  have hu26 := Tryz.underlying26
  have HB := Aside0.mk (Below.refl w.heap.size w)
  have H : ((TkC.Tokens.f (⟨#[112, 40, 88, 41, 32, 58, 45, 32, 33, 46, 88, 32, 61, 32, 48, 39, 97, 46]⟩ : ByteArray)).bind fun bt103 => (if bt103.2.2 = 0 then (if (bt103.1.length : Int) = 11 then (if 1 < (bt103.1.length : Int) then (if ((rd_T35 bt103.1 1).f1).toList = ([40, 40] : List UInt8) then (if 5 < (bt103.1.length : Int) then (if ((rd_T35 bt103.1 5).f1).toList = ([33, 46] : List UInt8) then (if 10 < (bt103.1.length : Int) then (cinnabarlaw01_awake.j0 k bt103.1 (((rd_T35 bt103.1 10).f0) != 0)) else (none)) else (cinnabarlaw01_awake.j0 k bt103.1 true)) else (none)) else (cinnabarlaw01_awake.j0 k bt103.1 true)) else (none)) else (cinnabarlaw01_awake.j0 k bt103.1 true)) else (cinnabarlaw01_awake.j0 k bt103.1 true))) = some r := h
  clear h
  replace H := Option.bind_eq_some_iff.mp H
  obtain ⟨⟨t103, t106, t107⟩, A10, H⟩ := H
  replace H : (if t107 = 0 then (if (t103.length : Int) = 11 then (if 1 < (t103.length : Int) then (if ((rd_T35 t103 1).f1).toList = ([40, 40] : List UInt8) then (if 5 < (t103.length : Int) then (if ((rd_T35 t103 5).f1).toList = ([33, 46] : List UInt8) then (if 10 < (t103.length : Int) then (cinnabarlaw01_awake.j0 k t103 (((rd_T35 t103 10).f0) != 0)) else (none)) else (cinnabarlaw01_awake.j0 k t103 true)) else (none)) else (cinnabarlaw01_awake.j0 k t103 true)) else (none)) else (cinnabarlaw01_awake.j0 k t103 true)) else (cinnabarlaw01_awake.j0 k t103 true)) = some r := H
  have A1 := Aside0.mk A10
  clear A10
  have HC2 := Aside0.mk H
  clear H
  go_enter Tryz.func9, Tryz.ntmps9
  go_upto_region 2 with (first | ((with_reducible refine gate_callee (f := 10) rfl ?_); refine goesL_ (some 6) rfl rfl Tryz.func10 (by kernel_rfl) rfl #[.string (⟨#[112, 40, 88, 41, 32, 58, 45, 32, 33, 46, 88, 32, 61, 32, 48, 39, 97, 46]⟩ : ByteArray)] rfl (by (try simp only [List.map_toArray, List.map_cons, List.map_nil]); first | done | rfl | (simp only [List.length_drop, List.length_take]; rfl)) ?_; (with_reducible refine (TkC.Tokens.calls (⟨#[112, 40, 88, 41, 32, 58, 45, 32, 33, 46, 88, 32, 61, 32, 48, 39, 97, 46]⟩ : ByteArray) t103 t106 t107 _ ?side1 A1.out).mono ?_); (case side1 => first | exact hEnv | exact EnvW.below hEnv (by repeat (first | (with_reducible first | exact HB.out | apply below_alloc | apply pw_below_drewN | apply below_drew1) | exact HB.out)) | exact hEnv.drewN _); rintro e w3 ⟨v104, rfl, ho0, hb⟩; refine ⟨_, rfl, ?_⟩; have n0_ := Aside0.mk (Kd.R_lower ho0 (below_size (by repeat (first | (with_reducible first | exact HB.out | apply below_alloc | apply pw_below_drewN | apply below_drew1) | exact HB.out)))); have n1_ := Aside0.mk (below_step (by repeat (first | (with_reducible first | exact HB.out | apply below_alloc | apply pw_below_drewN | apply below_drew1) | exact HB.out)) hb); clear HB; have HO105 := n0_; have HB := n1_; clear n0_ n1_; (try clear hb); (try clear hb2); (try clear hk); (try clear hi); (try clear ho0)) | ((with_reducible refine gate_dst (N := 2) rfl ?_); (try (refine gate_guard (by rfl) ?_; dsimp only)); refine box_event ?hg (N := 2) ?hd (cs := #[.int .i64 0, .int .i64 0]) (t := 26) ?hr ?_; (case hd => rfl); (case hg => rfl); (case hr => first | (go_simp; done) | (go_simp; rfl)); intro gb108 hg w4 hbox hb; have n0_ := Aside0.mk (Kd.R_below (by (with_reducible repeat (first | apply Kd.R_alloc | apply Kd.R_drewN | apply Kd.R_drew)); exact HO105.out) hb); have n1_ := Aside0.mk (below_step (by repeat (first | (with_reducible first | exact HB.out | apply below_alloc | apply pw_below_drewN | apply below_drew1) | exact HB.out)) hb); have n2_ := Aside0.mk (hbox); have n3_ := Aside0.mk ((by rw [hg]; exact (below_size (by repeat (first | (with_reducible first | exact HB.out | apply below_alloc | apply pw_below_drewN | apply below_drew1) | exact HB.out))) : w.heap.size ≤ gb108)); have n4_ := Aside0.mk ((by rw [hg]; exact (below_size (by repeat (first | (with_reducible first | exact HB.out | apply below_alloc | apply pw_below_drewN | apply below_drew1) | exact HB.out))) : w.heap.size ≤ gb108)); clear HO105; clear HB; have HO105 := n0_; have HB := n1_; have BK108 := n2_; have GW108 := n3_; have GE108 := n4_; clear n0_ n1_ n2_ n3_ n4_; clear hb hbox hg; have hcz5_0 : w4.cell? ⟨gb108, 0, none⟩ = some (.int .i64 0) := (blk_cell BK108.out 0).trans rfl; have hcz5_1 : w4.cell? ⟨gb108, 1, none⟩ = some (.int .i64 0) := (blk_cell BK108.out 1).trans rfl; have hfz5_0 := blk_frozen BK108.out 0; have hfz5_1 := blk_frozen BK108.out 1))
  (try simp only [Act.put, List.setIfInBounds_toArray, List.set_cons_zero, List.set_cons_succ])
  go_cut [37] (fun v37 wc => ∃ (kq : Nat) (x37_1 : Bool), v37 = .bool x37_1 ∧ Aside0 (cinnabarlaw01_awake.j0 kq t103 x37_1 = some r) ∧ Aside0 (kq ≤ k) ∧ Aside0 (Kd.R k35 35 wc w.heap.size (fun _ => True) v104 t103) ∧ Aside0 (wc.heap[gb108]? = some (.cells #[.int .i64 t106, .int .i64 t107] 26 (0, 0))) ∧ Aside0 (Below w.heap.size w wc))
  case first =>
    have H := HC2.out
    clear HC2
    by_cases c6 : t107 = 0
    · as_aux_lemma =>
        rw [if_pos c6] at H
        have c6b0 : (t107 == 0) = true := beq_iff_eq.mpr c6
        have c6b1 : (t107 != 0) = false := bne_eq_false_iff_eq.mpr c6
        clear c6
        (first | rw [c6b0] | (simp only [i64_w, i32_w]; rw [c6b0]) | skip)
        by_cases c7 : (t103.length : Int) = 11
        · as_aux_lemma =>
            rw [if_pos c7] at H
            have c7b0 : ((t103.length : Int) == 11) = true := beq_iff_eq.mpr c7
            have c7b1 : ((t103.length : Int) != 11) = false := bne_eq_false_iff_eq.mpr c7
            clear c7
            by_cases c8 : 1 < (t103.length : Int)
            · as_aux_lemma =>
                rw [if_pos c8] at H
                have c8b0 : decide (1 < (t103.length : Int)) = true := decide_eq_true c8
                have c8b1 : decide (1 < t103.length) = true := decide_eq_true (by omega)
                clear c8
                by_cases c9 : ((rd_T35 t103 1).f1).toList = ([40, 40] : List UInt8)
                · as_aux_lemma =>
                    rw [if_pos c9] at H
                    have c9b0 : (((rd_T35 t103 1).f1).toList == ([40, 40] : List UInt8)) = true := beq_iff_eq.mpr c9
                    have c9b1 : (((rd_T35 t103 1).f1).toList != ([40, 40] : List UInt8)) = false := bne_eq_false_iff_eq.mpr c9
                    clear c9
                    by_cases c10 : 5 < (t103.length : Int)
                    · as_aux_lemma =>
                        rw [if_pos c10] at H
                        have c10b0 : decide (5 < (t103.length : Int)) = true := decide_eq_true c10
                        have c10b1 : decide (5 < t103.length) = true := decide_eq_true (by omega)
                        clear c10
                        by_cases c11 : ((rd_T35 t103 5).f1).toList = ([33, 46] : List UInt8)
                        · as_aux_lemma =>
                            rw [if_pos c11] at H
                            have c11b0 : (((rd_T35 t103 5).f1).toList == ([33, 46] : List UInt8)) = true := beq_iff_eq.mpr c11
                            have c11b1 : (((rd_T35 t103 5).f1).toList != ([33, 46] : List UInt8)) = false := bne_eq_false_iff_eq.mpr c11
                            clear c11
                            by_cases c12 : 10 < (t103.length : Int)
                            · as_aux_lemma =>
                                rw [if_pos c12] at H
                                have c12b0 : decide (10 < (t103.length : Int)) = true := decide_eq_true c12
                                have c12b1 : decide (10 < t103.length) = true := decide_eq_true (by omega)
                                clear c12
                                have H' := Aside0.mk H
                                clear H
                                have hcz13_0 : w4.cell? ⟨gb108, 0, none⟩ = some (.int .i64 0) := (blk_cell BK108.out 0).trans rfl
                                have hcz13_1 : w4.cell? ⟨gb108, 1, none⟩ = some (.int .i64 0) := (blk_cell BK108.out 1).trans rfl
                                have hfz13_0 := blk_frozen BK108.out 0
                                have hfz13_1 := blk_frozen BK108.out 1
                                obtain ⟨Ao14, co14, eo14⟩ := Kd.R_slice HO105.out
                                subst eo14
                                have p109 : 0 ≤ (1 : Int) := (by omega)
                                have q109 : 1 < (t103.length : Int) := of_decide_eq_true (by first | (with_reducible assumption) | assumption)
                                obtain ⟨ad109, e109, hx109_0, hx109_1, hx109_2⟩ := at_T35 (Kd.R_reads' HO105.out).2.2 1 p109 q109
                                cases e109
                                (try simp only [show (1 : Int).toNat = 1 from rfl, Nat.reduceMul, Nat.reduceEqDiff, Go.Addr.add, ↓reduceIte] at hx109_0)
                                (try simp only [show (1 : Int).toNat = 1 from rfl, Nat.reduceMul, Nat.reduceEqDiff, Go.Addr.add, ↓reduceIte] at hx109_1)
                                (try simp only [show (1 : Int).toNat = 1 from rfl, Nat.reduceMul, Nat.reduceEqDiff, Go.Addr.add, ↓reduceIte] at hx109_2)
                                have qi109 : (1 < t103.length) = True := eq_true (by omega)
                                (try rw [show ((1 : Int)).toNat = 1 from rfl] at hx109_0)
                                (try rw [show 1 * 3 = 3 from rfl] at hx109_0)
                                (try rw [show ((1 : Int)).toNat = 1 from rfl] at hx109_1)
                                (try rw [show 1 * 3 = 3 from rfl] at hx109_1)
                                (try rw [show ((1 : Int)).toNat = 1 from rfl] at hx109_2)
                                (try rw [show 1 * 3 = 3 from rfl] at hx109_2)
                                have hn109_0 : ad109.block ≠ gb108 := Kd.own_blk (Kd.R_ne HO105.out BK108.out (by decide))
                                have hn109_1 : ad109.block ≠ gb108 := Kd.own_blk (Kd.R_ne HO105.out BK108.out (by decide))
                                replace hx109_0 := (cell_far (p := ⟨gb108, 0, none⟩) (by first | (rw [add_block]; exact hn109_0) | (show (Addr.add _ _).block ≠ _; rw [add_block]; exact hn109_0) | exact hn109_0) (.int .i64 t106)).trans hx109_0
                                replace hx109_1 := (cell_far (p := ⟨gb108, 0, none⟩) (by first | (rw [add_block]; exact hn109_0) | (show (Addr.add _ _).block ≠ _; rw [add_block]; exact hn109_0) | exact hn109_0) (.int .i64 t106)).trans hx109_1
                                replace hx109_2 := (cell_far (p := ⟨gb108, 0, none⟩) (by first | (rw [add_block]; exact hn109_0) | (show (Addr.add _ _).block ≠ _; rw [add_block]; exact hn109_0) | exact hn109_0) (.int .i64 t106)).trans hx109_2
                                replace hx109_0 := (cell_far (p := ⟨gb108, 1, none⟩) (by first | (rw [add_block]; exact hn109_1) | (show (Addr.add _ _).block ≠ _; rw [add_block]; exact hn109_1) | exact hn109_1) (.int .i64 t107)).trans hx109_0
                                replace hx109_1 := (cell_far (p := ⟨gb108, 1, none⟩) (by first | (rw [add_block]; exact hn109_1) | (show (Addr.add _ _).block ≠ _; rw [add_block]; exact hn109_1) | exact hn109_1) (.int .i64 t107)).trans hx109_1
                                replace hx109_2 := (cell_far (p := ⟨gb108, 1, none⟩) (by first | (rw [add_block]; exact hn109_1) | (show (Addr.add _ _).block ≠ _; rw [add_block]; exact hn109_1) | exact hn109_1) (.int .i64 t107)).trans hx109_2
                                clear hn109_0
                                clear hn109_1
                                replace p109 := eq_true p109
                                replace q109 := eq_true q109
                                have p110 : 0 ≤ (5 : Int) := (by omega)
                                have q110 : 5 < (t103.length : Int) := of_decide_eq_true (by first | (with_reducible assumption) | assumption)
                                obtain ⟨ad110, e110, hx110_0, hx110_1, hx110_2⟩ := at_T35 (Kd.R_reads' HO105.out).2.2 5 p110 q110
                                obtain rfl : ad109 = ad110 := (by injection e110)
                                (try simp only [show (5 : Int).toNat = 5 from rfl, Nat.reduceMul, Nat.reduceEqDiff, Go.Addr.add, ↓reduceIte] at hx110_0)
                                (try simp only [show (5 : Int).toNat = 5 from rfl, Nat.reduceMul, Nat.reduceEqDiff, Go.Addr.add, ↓reduceIte] at hx110_1)
                                (try simp only [show (5 : Int).toNat = 5 from rfl, Nat.reduceMul, Nat.reduceEqDiff, Go.Addr.add, ↓reduceIte] at hx110_2)
                                have qi110 : (5 < t103.length) = True := eq_true (by omega)
                                (try rw [show ((5 : Int)).toNat = 5 from rfl] at hx110_0)
                                (try rw [show 5 * 3 = 15 from rfl] at hx110_0)
                                (try rw [show ((5 : Int)).toNat = 5 from rfl] at hx110_1)
                                (try rw [show 5 * 3 = 15 from rfl] at hx110_1)
                                (try rw [show ((5 : Int)).toNat = 5 from rfl] at hx110_2)
                                (try rw [show 5 * 3 = 15 from rfl] at hx110_2)
                                have hn110_0 : ad109.block ≠ gb108 := Kd.own_blk (Kd.R_ne HO105.out BK108.out (by decide))
                                have hn110_1 : ad109.block ≠ gb108 := Kd.own_blk (Kd.R_ne HO105.out BK108.out (by decide))
                                replace hx110_0 := (cell_far (p := ⟨gb108, 0, none⟩) (by first | (rw [add_block]; exact hn110_0) | (show (Addr.add _ _).block ≠ _; rw [add_block]; exact hn110_0) | exact hn110_0) (.int .i64 t106)).trans hx110_0
                                replace hx110_1 := (cell_far (p := ⟨gb108, 0, none⟩) (by first | (rw [add_block]; exact hn110_0) | (show (Addr.add _ _).block ≠ _; rw [add_block]; exact hn110_0) | exact hn110_0) (.int .i64 t106)).trans hx110_1
                                replace hx110_2 := (cell_far (p := ⟨gb108, 0, none⟩) (by first | (rw [add_block]; exact hn110_0) | (show (Addr.add _ _).block ≠ _; rw [add_block]; exact hn110_0) | exact hn110_0) (.int .i64 t106)).trans hx110_2
                                replace hx110_0 := (cell_far (p := ⟨gb108, 1, none⟩) (by first | (rw [add_block]; exact hn110_1) | (show (Addr.add _ _).block ≠ _; rw [add_block]; exact hn110_1) | exact hn110_1) (.int .i64 t107)).trans hx110_0
                                replace hx110_1 := (cell_far (p := ⟨gb108, 1, none⟩) (by first | (rw [add_block]; exact hn110_1) | (show (Addr.add _ _).block ≠ _; rw [add_block]; exact hn110_1) | exact hn110_1) (.int .i64 t107)).trans hx110_1
                                replace hx110_2 := (cell_far (p := ⟨gb108, 1, none⟩) (by first | (rw [add_block]; exact hn110_1) | (show (Addr.add _ _).block ≠ _; rw [add_block]; exact hn110_1) | exact hn110_1) (.int .i64 t107)).trans hx110_2
                                clear hn110_0
                                clear hn110_1
                                replace p110 := eq_true p110
                                replace q110 := eq_true q110
                                have p111 : 0 ≤ (10 : Int) := (by omega)
                                have q111 : 10 < (t103.length : Int) := of_decide_eq_true (by first | (with_reducible assumption) | assumption)
                                obtain ⟨ad111, e111, hx111_0, hx111_1, hx111_2⟩ := at_T35 (Kd.R_reads' HO105.out).2.2 10 p111 q111
                                obtain rfl : ad109 = ad111 := (by injection e111)
                                (try simp only [show (10 : Int).toNat = 10 from rfl, Nat.reduceMul, Nat.reduceEqDiff, Go.Addr.add, ↓reduceIte] at hx111_0)
                                (try simp only [show (10 : Int).toNat = 10 from rfl, Nat.reduceMul, Nat.reduceEqDiff, Go.Addr.add, ↓reduceIte] at hx111_1)
                                (try simp only [show (10 : Int).toNat = 10 from rfl, Nat.reduceMul, Nat.reduceEqDiff, Go.Addr.add, ↓reduceIte] at hx111_2)
                                have qi111 : (10 < t103.length) = True := eq_true (by omega)
                                (try rw [show ((10 : Int)).toNat = 10 from rfl] at hx111_0)
                                (try rw [show 10 * 3 = 30 from rfl] at hx111_0)
                                (try rw [show ((10 : Int)).toNat = 10 from rfl] at hx111_1)
                                (try rw [show 10 * 3 = 30 from rfl] at hx111_1)
                                (try rw [show ((10 : Int)).toNat = 10 from rfl] at hx111_2)
                                (try rw [show 10 * 3 = 30 from rfl] at hx111_2)
                                have hn111_0 : ad109.block ≠ gb108 := Kd.own_blk (Kd.R_ne HO105.out BK108.out (by decide))
                                have hn111_1 : ad109.block ≠ gb108 := Kd.own_blk (Kd.R_ne HO105.out BK108.out (by decide))
                                replace hx111_0 := (cell_far (p := ⟨gb108, 0, none⟩) (by first | (rw [add_block]; exact hn111_0) | (show (Addr.add _ _).block ≠ _; rw [add_block]; exact hn111_0) | exact hn111_0) (.int .i64 t106)).trans hx111_0
                                replace hx111_1 := (cell_far (p := ⟨gb108, 0, none⟩) (by first | (rw [add_block]; exact hn111_0) | (show (Addr.add _ _).block ≠ _; rw [add_block]; exact hn111_0) | exact hn111_0) (.int .i64 t106)).trans hx111_1
                                replace hx111_2 := (cell_far (p := ⟨gb108, 0, none⟩) (by first | (rw [add_block]; exact hn111_0) | (show (Addr.add _ _).block ≠ _; rw [add_block]; exact hn111_0) | exact hn111_0) (.int .i64 t106)).trans hx111_2
                                replace hx111_0 := (cell_far (p := ⟨gb108, 1, none⟩) (by first | (rw [add_block]; exact hn111_1) | (show (Addr.add _ _).block ≠ _; rw [add_block]; exact hn111_1) | exact hn111_1) (.int .i64 t107)).trans hx111_0
                                replace hx111_1 := (cell_far (p := ⟨gb108, 1, none⟩) (by first | (rw [add_block]; exact hn111_1) | (show (Addr.add _ _).block ≠ _; rw [add_block]; exact hn111_1) | exact hn111_1) (.int .i64 t107)).trans hx111_1
                                replace hx111_2 := (cell_far (p := ⟨gb108, 1, none⟩) (by first | (rw [add_block]; exact hn111_1) | (show (Addr.add _ _).block ≠ _; rw [add_block]; exact hn111_1) | exact hn111_1) (.int .i64 t107)).trans hx111_2
                                clear hn111_0
                                clear hn111_1
                                replace p111 := eq_true p111
                                replace q111 := eq_true q111
                                go_wp2
                                go_meet
                                case rel => exact ⟨_, ((((rd_T35 t103 10).f0) != 0)), (by first | rfl | (simp; done) | (simp [*]; done) | (simp [show ∀ l : List UInt8, (l != []) = !l.isEmpty from fun l => by cases l <;> rfl]; done)), H', ⟨by first | omega | exact Nat.le_refl _⟩, ⟨by (with_reducible repeat (first | apply Kd.R_alloc | apply Kd.R_drewN | apply Kd.R_drew)); exact Kd.R_mono (Kd.R_far (p := ⟨gb108, 1, none⟩) (Kd.R_far (p := ⟨gb108, 0, none⟩) (Kd.R_types HO105.out BK108.out (by decide)) (fun _ hk => hk.2) (.int .i64 t106)) (fun _ hk => hk.2) (.int .i64 t107)) (fun _ hk => trivial)⟩, ⟨by (with_reducible repeat (first | refine blk_drewN ?_ _ | refine blk_drew ?_ | refine blk_alloc ?_ _)); refine blk_put (cs := #[.int .i64 t106, .int .i64 0]) ?_ 1 _ rfl; (with_reducible repeat (first | refine blk_drewN ?_ _ | refine blk_drew ?_ | refine blk_alloc ?_ _)); refine blk_put (cs := #[.int .i64 0, .int .i64 0]) ?_ 0 _ rfl; (with_reducible repeat (first | refine blk_drewN ?_ _ | refine blk_drew ?_ | refine blk_alloc ?_ _)); exact BK108.out⟩, ⟨by repeat (first | (with_reducible first | exact HB.out | apply below_alloc | apply pw_below_drewN | apply below_drew1 | refine below_set ?_ GE108.out) | exact HB.out)⟩⟩
                            · rw [if_neg c12] at H
                              exact absurd H (by simp)
                        · as_aux_lemma =>
                            rw [if_neg c11] at H
                            have c11b0 : (((rd_T35 t103 5).f1).toList == ([33, 46] : List UInt8)) = false := beq_eq_false_iff_ne.mpr c11
                            have c11b1 : (((rd_T35 t103 5).f1).toList != ([33, 46] : List UInt8)) = true := bne_iff_ne.mpr c11
                            have H' := Aside0.mk H
                            clear H
                            have hcz15_0 : w4.cell? ⟨gb108, 0, none⟩ = some (.int .i64 0) := (blk_cell BK108.out 0).trans rfl
                            have hcz15_1 : w4.cell? ⟨gb108, 1, none⟩ = some (.int .i64 0) := (blk_cell BK108.out 1).trans rfl
                            have hfz15_0 := blk_frozen BK108.out 0
                            have hfz15_1 := blk_frozen BK108.out 1
                            obtain ⟨Ao16, co16, eo16⟩ := Kd.R_slice HO105.out
                            subst eo16
                            have p109 : 0 ≤ (1 : Int) := (by omega)
                            have q109 : 1 < (t103.length : Int) := of_decide_eq_true (by first | (with_reducible assumption) | assumption)
                            obtain ⟨ad109, e109, hx109_0, hx109_1, hx109_2⟩ := at_T35 (Kd.R_reads' HO105.out).2.2 1 p109 q109
                            cases e109
                            (try simp only [show (1 : Int).toNat = 1 from rfl, Nat.reduceMul, Nat.reduceEqDiff, Go.Addr.add, ↓reduceIte] at hx109_0)
                            (try simp only [show (1 : Int).toNat = 1 from rfl, Nat.reduceMul, Nat.reduceEqDiff, Go.Addr.add, ↓reduceIte] at hx109_1)
                            (try simp only [show (1 : Int).toNat = 1 from rfl, Nat.reduceMul, Nat.reduceEqDiff, Go.Addr.add, ↓reduceIte] at hx109_2)
                            have qi109 : (1 < t103.length) = True := eq_true (by omega)
                            (try rw [show ((1 : Int)).toNat = 1 from rfl] at hx109_0)
                            (try rw [show 1 * 3 = 3 from rfl] at hx109_0)
                            (try rw [show ((1 : Int)).toNat = 1 from rfl] at hx109_1)
                            (try rw [show 1 * 3 = 3 from rfl] at hx109_1)
                            (try rw [show ((1 : Int)).toNat = 1 from rfl] at hx109_2)
                            (try rw [show 1 * 3 = 3 from rfl] at hx109_2)
                            have hn109_0 : ad109.block ≠ gb108 := Kd.own_blk (Kd.R_ne HO105.out BK108.out (by decide))
                            have hn109_1 : ad109.block ≠ gb108 := Kd.own_blk (Kd.R_ne HO105.out BK108.out (by decide))
                            replace hx109_0 := (cell_far (p := ⟨gb108, 0, none⟩) (by first | (rw [add_block]; exact hn109_0) | (show (Addr.add _ _).block ≠ _; rw [add_block]; exact hn109_0) | exact hn109_0) (.int .i64 t106)).trans hx109_0
                            replace hx109_1 := (cell_far (p := ⟨gb108, 0, none⟩) (by first | (rw [add_block]; exact hn109_0) | (show (Addr.add _ _).block ≠ _; rw [add_block]; exact hn109_0) | exact hn109_0) (.int .i64 t106)).trans hx109_1
                            replace hx109_2 := (cell_far (p := ⟨gb108, 0, none⟩) (by first | (rw [add_block]; exact hn109_0) | (show (Addr.add _ _).block ≠ _; rw [add_block]; exact hn109_0) | exact hn109_0) (.int .i64 t106)).trans hx109_2
                            replace hx109_0 := (cell_far (p := ⟨gb108, 1, none⟩) (by first | (rw [add_block]; exact hn109_1) | (show (Addr.add _ _).block ≠ _; rw [add_block]; exact hn109_1) | exact hn109_1) (.int .i64 t107)).trans hx109_0
                            replace hx109_1 := (cell_far (p := ⟨gb108, 1, none⟩) (by first | (rw [add_block]; exact hn109_1) | (show (Addr.add _ _).block ≠ _; rw [add_block]; exact hn109_1) | exact hn109_1) (.int .i64 t107)).trans hx109_1
                            replace hx109_2 := (cell_far (p := ⟨gb108, 1, none⟩) (by first | (rw [add_block]; exact hn109_1) | (show (Addr.add _ _).block ≠ _; rw [add_block]; exact hn109_1) | exact hn109_1) (.int .i64 t107)).trans hx109_2
                            clear hn109_0
                            clear hn109_1
                            replace p109 := eq_true p109
                            replace q109 := eq_true q109
                            have p110 : 0 ≤ (5 : Int) := (by omega)
                            have q110 : 5 < (t103.length : Int) := of_decide_eq_true (by first | (with_reducible assumption) | assumption)
                            obtain ⟨ad110, e110, hx110_0, hx110_1, hx110_2⟩ := at_T35 (Kd.R_reads' HO105.out).2.2 5 p110 q110
                            obtain rfl : ad109 = ad110 := (by injection e110)
                            (try simp only [show (5 : Int).toNat = 5 from rfl, Nat.reduceMul, Nat.reduceEqDiff, Go.Addr.add, ↓reduceIte] at hx110_0)
                            (try simp only [show (5 : Int).toNat = 5 from rfl, Nat.reduceMul, Nat.reduceEqDiff, Go.Addr.add, ↓reduceIte] at hx110_1)
                            (try simp only [show (5 : Int).toNat = 5 from rfl, Nat.reduceMul, Nat.reduceEqDiff, Go.Addr.add, ↓reduceIte] at hx110_2)
                            have qi110 : (5 < t103.length) = True := eq_true (by omega)
                            (try rw [show ((5 : Int)).toNat = 5 from rfl] at hx110_0)
                            (try rw [show 5 * 3 = 15 from rfl] at hx110_0)
                            (try rw [show ((5 : Int)).toNat = 5 from rfl] at hx110_1)
                            (try rw [show 5 * 3 = 15 from rfl] at hx110_1)
                            (try rw [show ((5 : Int)).toNat = 5 from rfl] at hx110_2)
                            (try rw [show 5 * 3 = 15 from rfl] at hx110_2)
                            have hn110_0 : ad109.block ≠ gb108 := Kd.own_blk (Kd.R_ne HO105.out BK108.out (by decide))
                            have hn110_1 : ad109.block ≠ gb108 := Kd.own_blk (Kd.R_ne HO105.out BK108.out (by decide))
                            replace hx110_0 := (cell_far (p := ⟨gb108, 0, none⟩) (by first | (rw [add_block]; exact hn110_0) | (show (Addr.add _ _).block ≠ _; rw [add_block]; exact hn110_0) | exact hn110_0) (.int .i64 t106)).trans hx110_0
                            replace hx110_1 := (cell_far (p := ⟨gb108, 0, none⟩) (by first | (rw [add_block]; exact hn110_0) | (show (Addr.add _ _).block ≠ _; rw [add_block]; exact hn110_0) | exact hn110_0) (.int .i64 t106)).trans hx110_1
                            replace hx110_2 := (cell_far (p := ⟨gb108, 0, none⟩) (by first | (rw [add_block]; exact hn110_0) | (show (Addr.add _ _).block ≠ _; rw [add_block]; exact hn110_0) | exact hn110_0) (.int .i64 t106)).trans hx110_2
                            replace hx110_0 := (cell_far (p := ⟨gb108, 1, none⟩) (by first | (rw [add_block]; exact hn110_1) | (show (Addr.add _ _).block ≠ _; rw [add_block]; exact hn110_1) | exact hn110_1) (.int .i64 t107)).trans hx110_0
                            replace hx110_1 := (cell_far (p := ⟨gb108, 1, none⟩) (by first | (rw [add_block]; exact hn110_1) | (show (Addr.add _ _).block ≠ _; rw [add_block]; exact hn110_1) | exact hn110_1) (.int .i64 t107)).trans hx110_1
                            replace hx110_2 := (cell_far (p := ⟨gb108, 1, none⟩) (by first | (rw [add_block]; exact hn110_1) | (show (Addr.add _ _).block ≠ _; rw [add_block]; exact hn110_1) | exact hn110_1) (.int .i64 t107)).trans hx110_2
                            clear hn110_0
                            clear hn110_1
                            replace p110 := eq_true p110
                            replace q110 := eq_true q110
                            go_wp2
                            go_meet
                            case rel => exact ⟨_, (true), (by first | rfl | (simp; done) | (simp [*]; done) | (simp [show ∀ l : List UInt8, (l != []) = !l.isEmpty from fun l => by cases l <;> rfl]; done)), H', ⟨by first | omega | exact Nat.le_refl _⟩, ⟨by (with_reducible repeat (first | apply Kd.R_alloc | apply Kd.R_drewN | apply Kd.R_drew)); exact Kd.R_mono (Kd.R_far (p := ⟨gb108, 1, none⟩) (Kd.R_far (p := ⟨gb108, 0, none⟩) (Kd.R_types HO105.out BK108.out (by decide)) (fun _ hk => hk.2) (.int .i64 t106)) (fun _ hk => hk.2) (.int .i64 t107)) (fun _ hk => trivial)⟩, ⟨by (with_reducible repeat (first | refine blk_drewN ?_ _ | refine blk_drew ?_ | refine blk_alloc ?_ _)); refine blk_put (cs := #[.int .i64 t106, .int .i64 0]) ?_ 1 _ rfl; (with_reducible repeat (first | refine blk_drewN ?_ _ | refine blk_drew ?_ | refine blk_alloc ?_ _)); refine blk_put (cs := #[.int .i64 0, .int .i64 0]) ?_ 0 _ rfl; (with_reducible repeat (first | refine blk_drewN ?_ _ | refine blk_drew ?_ | refine blk_alloc ?_ _)); exact BK108.out⟩, ⟨by repeat (first | (with_reducible first | exact HB.out | apply below_alloc | apply pw_below_drewN | apply below_drew1 | refine below_set ?_ GE108.out) | exact HB.out)⟩⟩
                    · rw [if_neg c10] at H
                      exact absurd H (by simp)
                · as_aux_lemma =>
                    rw [if_neg c9] at H
                    have c9b0 : (((rd_T35 t103 1).f1).toList == ([40, 40] : List UInt8)) = false := beq_eq_false_iff_ne.mpr c9
                    have c9b1 : (((rd_T35 t103 1).f1).toList != ([40, 40] : List UInt8)) = true := bne_iff_ne.mpr c9
                    have H' := Aside0.mk H
                    clear H
                    have hcz17_0 : w4.cell? ⟨gb108, 0, none⟩ = some (.int .i64 0) := (blk_cell BK108.out 0).trans rfl
                    have hcz17_1 : w4.cell? ⟨gb108, 1, none⟩ = some (.int .i64 0) := (blk_cell BK108.out 1).trans rfl
                    have hfz17_0 := blk_frozen BK108.out 0
                    have hfz17_1 := blk_frozen BK108.out 1
                    obtain ⟨Ao18, co18, eo18⟩ := Kd.R_slice HO105.out
                    subst eo18
                    have p109 : 0 ≤ (1 : Int) := (by omega)
                    have q109 : 1 < (t103.length : Int) := of_decide_eq_true (by first | (with_reducible assumption) | assumption)
                    obtain ⟨ad109, e109, hx109_0, hx109_1, hx109_2⟩ := at_T35 (Kd.R_reads' HO105.out).2.2 1 p109 q109
                    cases e109
                    (try simp only [show (1 : Int).toNat = 1 from rfl, Nat.reduceMul, Nat.reduceEqDiff, Go.Addr.add, ↓reduceIte] at hx109_0)
                    (try simp only [show (1 : Int).toNat = 1 from rfl, Nat.reduceMul, Nat.reduceEqDiff, Go.Addr.add, ↓reduceIte] at hx109_1)
                    (try simp only [show (1 : Int).toNat = 1 from rfl, Nat.reduceMul, Nat.reduceEqDiff, Go.Addr.add, ↓reduceIte] at hx109_2)
                    have qi109 : (1 < t103.length) = True := eq_true (by omega)
                    (try rw [show ((1 : Int)).toNat = 1 from rfl] at hx109_0)
                    (try rw [show 1 * 3 = 3 from rfl] at hx109_0)
                    (try rw [show ((1 : Int)).toNat = 1 from rfl] at hx109_1)
                    (try rw [show 1 * 3 = 3 from rfl] at hx109_1)
                    (try rw [show ((1 : Int)).toNat = 1 from rfl] at hx109_2)
                    (try rw [show 1 * 3 = 3 from rfl] at hx109_2)
                    have hn109_0 : ad109.block ≠ gb108 := Kd.own_blk (Kd.R_ne HO105.out BK108.out (by decide))
                    have hn109_1 : ad109.block ≠ gb108 := Kd.own_blk (Kd.R_ne HO105.out BK108.out (by decide))
                    replace hx109_0 := (cell_far (p := ⟨gb108, 0, none⟩) (by first | (rw [add_block]; exact hn109_0) | (show (Addr.add _ _).block ≠ _; rw [add_block]; exact hn109_0) | exact hn109_0) (.int .i64 t106)).trans hx109_0
                    replace hx109_1 := (cell_far (p := ⟨gb108, 0, none⟩) (by first | (rw [add_block]; exact hn109_0) | (show (Addr.add _ _).block ≠ _; rw [add_block]; exact hn109_0) | exact hn109_0) (.int .i64 t106)).trans hx109_1
                    replace hx109_2 := (cell_far (p := ⟨gb108, 0, none⟩) (by first | (rw [add_block]; exact hn109_0) | (show (Addr.add _ _).block ≠ _; rw [add_block]; exact hn109_0) | exact hn109_0) (.int .i64 t106)).trans hx109_2
                    replace hx109_0 := (cell_far (p := ⟨gb108, 1, none⟩) (by first | (rw [add_block]; exact hn109_1) | (show (Addr.add _ _).block ≠ _; rw [add_block]; exact hn109_1) | exact hn109_1) (.int .i64 t107)).trans hx109_0
                    replace hx109_1 := (cell_far (p := ⟨gb108, 1, none⟩) (by first | (rw [add_block]; exact hn109_1) | (show (Addr.add _ _).block ≠ _; rw [add_block]; exact hn109_1) | exact hn109_1) (.int .i64 t107)).trans hx109_1
                    replace hx109_2 := (cell_far (p := ⟨gb108, 1, none⟩) (by first | (rw [add_block]; exact hn109_1) | (show (Addr.add _ _).block ≠ _; rw [add_block]; exact hn109_1) | exact hn109_1) (.int .i64 t107)).trans hx109_2
                    clear hn109_0
                    clear hn109_1
                    replace p109 := eq_true p109
                    replace q109 := eq_true q109
                    go_wp2
                    go_meet
                    case rel => exact ⟨_, (true), (by first | rfl | (simp; done) | (simp [*]; done) | (simp [show ∀ l : List UInt8, (l != []) = !l.isEmpty from fun l => by cases l <;> rfl]; done)), H', ⟨by first | omega | exact Nat.le_refl _⟩, ⟨by (with_reducible repeat (first | apply Kd.R_alloc | apply Kd.R_drewN | apply Kd.R_drew)); exact Kd.R_mono (Kd.R_far (p := ⟨gb108, 1, none⟩) (Kd.R_far (p := ⟨gb108, 0, none⟩) (Kd.R_types HO105.out BK108.out (by decide)) (fun _ hk => hk.2) (.int .i64 t106)) (fun _ hk => hk.2) (.int .i64 t107)) (fun _ hk => trivial)⟩, ⟨by (with_reducible repeat (first | refine blk_drewN ?_ _ | refine blk_drew ?_ | refine blk_alloc ?_ _)); refine blk_put (cs := #[.int .i64 t106, .int .i64 0]) ?_ 1 _ rfl; (with_reducible repeat (first | refine blk_drewN ?_ _ | refine blk_drew ?_ | refine blk_alloc ?_ _)); refine blk_put (cs := #[.int .i64 0, .int .i64 0]) ?_ 0 _ rfl; (with_reducible repeat (first | refine blk_drewN ?_ _ | refine blk_drew ?_ | refine blk_alloc ?_ _)); exact BK108.out⟩, ⟨by repeat (first | (with_reducible first | exact HB.out | apply below_alloc | apply pw_below_drewN | apply below_drew1 | refine below_set ?_ GE108.out) | exact HB.out)⟩⟩
            · rw [if_neg c8] at H
              exact absurd H (by simp)
        · rw [if_neg c7] at H
          have c7b0 : ((t103.length : Int) == 11) = false := beq_eq_false_iff_ne.mpr c7
          have c7b1 : ((t103.length : Int) != 11) = true := bne_iff_ne.mpr c7
          have H' := Aside0.mk H
          clear H
          have hcz19_0 : w4.cell? ⟨gb108, 0, none⟩ = some (.int .i64 0) := (blk_cell BK108.out 0).trans rfl
          have hcz19_1 : w4.cell? ⟨gb108, 1, none⟩ = some (.int .i64 0) := (blk_cell BK108.out 1).trans rfl
          have hfz19_0 := blk_frozen BK108.out 0
          have hfz19_1 := blk_frozen BK108.out 1
          obtain ⟨Ao20, co20, eo20⟩ := Kd.R_slice HO105.out
          subst eo20
          go_wp2
          go_meet
          case rel => exact ⟨_, (true), (by first | rfl | (simp; done) | (simp [*]; done) | (simp [show ∀ l : List UInt8, (l != []) = !l.isEmpty from fun l => by cases l <;> rfl]; done)), H', ⟨by first | omega | exact Nat.le_refl _⟩, ⟨by (with_reducible repeat (first | apply Kd.R_alloc | apply Kd.R_drewN | apply Kd.R_drew)); exact Kd.R_mono (Kd.R_far (p := ⟨gb108, 1, none⟩) (Kd.R_far (p := ⟨gb108, 0, none⟩) (Kd.R_types HO105.out BK108.out (by decide)) (fun _ hk => hk.2) (.int .i64 t106)) (fun _ hk => hk.2) (.int .i64 t107)) (fun _ hk => trivial)⟩, ⟨by (with_reducible repeat (first | refine blk_drewN ?_ _ | refine blk_drew ?_ | refine blk_alloc ?_ _)); refine blk_put (cs := #[.int .i64 t106, .int .i64 0]) ?_ 1 _ rfl; (with_reducible repeat (first | refine blk_drewN ?_ _ | refine blk_drew ?_ | refine blk_alloc ?_ _)); refine blk_put (cs := #[.int .i64 0, .int .i64 0]) ?_ 0 _ rfl; (with_reducible repeat (first | refine blk_drewN ?_ _ | refine blk_drew ?_ | refine blk_alloc ?_ _)); exact BK108.out⟩, ⟨by repeat (first | (with_reducible first | exact HB.out | apply below_alloc | apply pw_below_drewN | apply below_drew1 | refine below_set ?_ GE108.out) | exact HB.out)⟩⟩
    · rw [if_neg c6] at H
      have c6b0 : (t107 == 0) = false := beq_eq_false_iff_ne.mpr c6
      have c6b1 : (t107 != 0) = true := bne_iff_ne.mpr c6
      (first | rw [c6b0] | (simp only [i64_w, i32_w]; rw [c6b0]) | skip)
      have H' := Aside0.mk H
      clear H
      have hcz21_0 : w4.cell? ⟨gb108, 0, none⟩ = some (.int .i64 0) := (blk_cell BK108.out 0).trans rfl
      have hcz21_1 : w4.cell? ⟨gb108, 1, none⟩ = some (.int .i64 0) := (blk_cell BK108.out 1).trans rfl
      have hfz21_0 := blk_frozen BK108.out 0
      have hfz21_1 := blk_frozen BK108.out 1
      go_wp2
      go_meet
      case rel => exact ⟨_, (true), (by first | rfl | (simp; done) | (simp [*]; done) | (simp [show ∀ l : List UInt8, (l != []) = !l.isEmpty from fun l => by cases l <;> rfl]; done)), H', ⟨by first | omega | exact Nat.le_refl _⟩, ⟨by (with_reducible repeat (first | apply Kd.R_alloc | apply Kd.R_drewN | apply Kd.R_drew)); exact Kd.R_mono (Kd.R_far (p := ⟨gb108, 1, none⟩) (Kd.R_far (p := ⟨gb108, 0, none⟩) (Kd.R_types HO105.out BK108.out (by decide)) (fun _ hk => hk.2) (.int .i64 t106)) (fun _ hk => hk.2) (.int .i64 t107)) (fun _ hk => trivial)⟩, ⟨by (with_reducible repeat (first | refine blk_drewN ?_ _ | refine blk_drew ?_ | refine blk_alloc ?_ _)); refine blk_put (cs := #[.int .i64 t106, .int .i64 0]) ?_ 1 _ rfl; (with_reducible repeat (first | refine blk_drewN ?_ _ | refine blk_drew ?_ | refine blk_alloc ?_ _)); refine blk_put (cs := #[.int .i64 0, .int .i64 0]) ?_ 0 _ rfl; (with_reducible repeat (first | refine blk_drewN ?_ _ | refine blk_drew ?_ | refine blk_alloc ?_ _)); exact BK108.out⟩, ⟨by repeat (first | (with_reducible first | exact HB.out | apply below_alloc | apply pw_below_drewN | apply below_drew1 | refine below_set ?_ GE108.out) | exact HB.out)⟩⟩
  case rest =>
    clear HC2
    try clear c1
    try clear p1
    try clear q1
    try clear hx1
    try clear qi1
    try clear p2
    try clear c6
    try clear c6b0
    try clear c6b1
    try clear c7
    try clear c7b0
    try clear c7b1
    try clear c8
    try clear c8b0
    try clear c8b1
    try clear c9
    try clear c9b0
    try clear c9b1
    try clear c10
    try clear c10b0
    try clear c10b1
    try clear p10
    try clear q10
    try clear hx10
    try clear qi10
    try clear c11
    try clear c11b0
    try clear c11b1
    try clear p11
    try clear q11
    try clear hx11
    try clear qi11
    try clear c12
    try clear c12b0
    try clear c12b1
    try clear hcz13_0
    try clear hcz13_1
    try clear hcz15_0
    try clear hcz15_1
    try clear hcz17_0
    try clear hcz17_1
    try clear hcz19_0
    try clear hcz19_1
    try clear hcz21_0
    try clear hcz21_1
    try clear hcz5_0
    try clear hcz5_1
    try clear hfz13_0
    try clear hfz13_1
    try clear hfz15_0
    try clear hfz15_1
    try clear hfz17_0
    try clear hfz17_1
    try clear hfz19_0
    try clear hfz19_1
    try clear hfz21_0
    try clear hfz21_1
    try clear hfz5_0
    try clear hfz5_1
    try clear hx109_0
    try clear hx109_1
    try clear hx109_2
    try clear hx110_0
    try clear hx110_1
    try clear hx110_2
    try clear hx111_0
    try clear hx111_1
    try clear hx111_2
    try clear p109
    try clear p110
    try clear p111
    try clear q109
    try clear q110
    try clear q111
    obtain ⟨kq, x37_1, rfl, HA, HJ1, HO_1, BK108, HB⟩ := hcut
    cases kq with
    | zero => exact absurd HA.out (by simp [cinnabarlaw01_awake.j0])
    | succ kj1 =>
      have H := HA.out
      clear HA
      simp only [cinnabarlaw01_awake.j0] at H
      by_cases c22 : x37_1 = true
      · subst c22
        have H1 : (some false) = some r := by rw [if_pos rfl] at H; exact H
        clear H
        have H := H1
        clear H1
        obtain rfl := Option.some.inj H
        go_wp2
        go_ret
        exact ⟨by first | rfl | (simp [errW_none, errW_some] <;> rfl) | (simp [*, errW_none, errW_some] <;> rfl), by repeat (first | (with_reducible first | exact HB.out | apply below_alloc | apply pw_below_drewN | apply below_drew1 | refine below_set ?_ GE108.out) | exact HB.out)⟩
      · as_aux_lemma =>
          replace c22 := Bool.eq_false_iff.mpr c22
          subst c22
          have H1 : ((TkC.Text.f t103).bind fun bt112 => (if bt112.2 = 0 then (if bt112.1.toList = ([112, 40, 32, 88, 32, 41, 32, 58, 45, 32, 33, 46, 88, 32, 61, 32, 48, 39, 97, 32, 46, 10] : List UInt8) then ((tokens_Name.f (⟨#[97, 32, 98]⟩ : ByteArray)).bind fun t114 => (some (t114.toList == ([39, 97, 32, 98, 39] : List UInt8)))) else (some false)) else (some false))) = some r := by rw [if_neg (show ¬ (false = true) by decide)] at H; exact H
          clear H
          have H := H1
          clear H1
          replace H := Option.bind_eq_some_iff.mp H
          obtain ⟨⟨t112, t113⟩, A230, H⟩ := H
          replace H : (if t113 = 0 then (if t112.toList = ([112, 40, 32, 88, 32, 41, 32, 58, 45, 32, 33, 46, 88, 32, 61, 32, 48, 39, 97, 32, 46, 10] : List UInt8) then ((tokens_Name.f (⟨#[97, 32, 98]⟩ : ByteArray)).bind fun t114 => (some (t114.toList == ([39, 97, 32, 98, 39] : List UInt8)))) else (some false)) else (some false)) = some r := H
          have A23 := Aside0.mk A230
          clear A230
          by_cases c24 : t113 = 0
          · rw [if_pos c24] at H
            have c24b0 : (t113 == 0) = true := beq_iff_eq.mpr c24
            have c24b1 : (t113 != 0) = false := bne_eq_false_iff_eq.mpr c24
            clear c24
            by_cases c25 : t112.toList = ([112, 40, 32, 88, 32, 41, 32, 58, 45, 32, 33, 46, 88, 32, 61, 32, 48, 39, 97, 32, 46, 10] : List UInt8)
            · rw [if_pos c25] at H
              have c25b0 : (t112.toList == ([112, 40, 32, 88, 32, 41, 32, 58, 45, 32, 33, 46, 88, 32, 61, 32, 48, 39, 97, 32, 46, 10] : List UInt8)) = true := beq_iff_eq.mpr c25
              have c25b1 : (t112.toList != ([112, 40, 32, 88, 32, 41, 32, 58, 45, 32, 33, 46, 88, 32, 61, 32, 48, 39, 97, 32, 46, 10] : List UInt8)) = false := bne_eq_false_iff_eq.mpr c25
              clear c25
              replace H := Option.bind_eq_some_iff.mp H
              obtain ⟨t114, A260, H⟩ := H
              replace H : (some (t114.toList == ([39, 97, 32, 98, 39] : List UInt8))) = some r := H
              have A26 := Aside0.mk A260
              clear A260
              obtain rfl := Option.some.inj H
              obtain ⟨Ao27, co27, eo27⟩ := Kd.R_slice HO_1.out
              subst eo27
              go_wp2_with (first | ((with_reducible refine gate_callee (f := 14) rfl ?_); refine goesL_ (some 40) rfl rfl Tryz.func14 (by kernel_rfl) rfl #[.slice Ao27 t103.length co27] rfl (by (try simp only [List.map_toArray, List.map_cons, List.map_nil]); first | done | rfl | (simp only [List.length_drop, List.length_take]; rfl)) ?_; (with_reducible refine (TkC.Text.calls _ _ t103 t112 t113 _ ?side1 ?side2 ?side3 A23.out).mono ?_); (case side1 => repeat (first | exact (Kd.R_reads' HO_1.out).2.2 | (with_reducible refine Kd.C_alloc ?_ _) | (with_reducible refine Kd.C_drewN ?_ _) | (with_reducible refine Kd.C_drew ?_))); (case side2 => exact (Kd.R_reads' HO_1.out).2.1); (case side3 => first | exact hEnv | exact EnvW.below hEnv (by repeat (first | (with_reducible first | exact HB.out | apply below_alloc | apply pw_below_drewN | apply below_drew1 | refine below_set ?_ GE108.out) | exact HB.out)) | exact hEnv.drewN _); rintro e w28 ⟨rfl, hb⟩; refine ⟨_, rfl, ?_⟩; have n0_ := Aside0.mk (Kd.R_below (by (with_reducible repeat (first | apply Kd.R_alloc | apply Kd.R_drewN | apply Kd.R_drew)); exact HO_1.out) hb); have n1_ := Aside0.mk (blk_below (g := gb108) (o := .cells #[.int .i64 t106, .int .i64 t107] 26 (0, 0)) (by (with_reducible repeat (first | refine blk_drewN ?_ _ | refine blk_drew ?_ | refine blk_alloc ?_ _)); exact BK108.out) hb); have n2_ := Aside0.mk (below_step (by repeat (first | (with_reducible first | exact HB.out | apply below_alloc | apply pw_below_drewN | apply below_drew1 | refine below_set ?_ GE108.out) | exact HB.out)) hb); clear HO_1; clear BK108; clear HB; have HO_1 := n0_; have BK108 := n1_; have HB := n2_; clear n0_ n1_ n2_; (try clear hb); (try clear hb2); (try clear hk); (try clear hi)) | (go_at_call 18; (with_reducible refine (tokens_Name.calls (⟨#[97, 32, 98]⟩ : ByteArray) t114 _ ?side1 A26.out).mono ?_); (case side1 => first | exact hEnv | exact EnvW.below hEnv (by repeat (first | (with_reducible first | exact HB.out | apply below_alloc | apply pw_below_drewN | apply below_drew1 | refine below_set ?_ GE108.out) | exact HB.out)) | exact hEnv.drewN _); rintro e w29 ⟨rfl, hb⟩; have n0_ := Aside0.mk (Kd.R_below (by (with_reducible repeat (first | apply Kd.R_alloc | apply Kd.R_drewN | apply Kd.R_drew)); exact HO_1.out) hb); have n1_ := Aside0.mk (blk_below (g := gb108) (o := .cells #[.int .i64 t106, .int .i64 t107] 26 (0, 0)) (by (with_reducible repeat (first | refine blk_drewN ?_ _ | refine blk_drew ?_ | refine blk_alloc ?_ _)); exact BK108.out) hb); have n2_ := Aside0.mk (below_step (by repeat (first | (with_reducible first | exact HB.out | apply below_alloc | apply pw_below_drewN | apply below_drew1 | refine below_set ?_ GE108.out) | exact HB.out)) hb); clear HO_1; clear BK108; clear HB; have HO_1 := n0_; have BK108 := n1_; have HB := n2_; clear n0_ n1_ n2_; (try clear hb); (try clear hb2); (try clear hk); (try clear hi)))
              go_ret
              exact ⟨by first | rfl | (simp [errW_none, errW_some] <;> rfl) | (simp [*, errW_none, errW_some] <;> rfl), by repeat (first | (with_reducible first | exact HB.out | apply below_alloc | apply pw_below_drewN | apply below_drew1 | refine below_set ?_ GE108.out) | exact HB.out)⟩
            · rw [if_neg c25] at H
              have c25b0 : (t112.toList == ([112, 40, 32, 88, 32, 41, 32, 58, 45, 32, 33, 46, 88, 32, 61, 32, 48, 39, 97, 32, 46, 10] : List UInt8)) = false := beq_eq_false_iff_ne.mpr c25
              have c25b1 : (t112.toList != ([112, 40, 32, 88, 32, 41, 32, 58, 45, 32, 33, 46, 88, 32, 61, 32, 48, 39, 97, 32, 46, 10] : List UInt8)) = true := bne_iff_ne.mpr c25
              obtain rfl := Option.some.inj H
              obtain ⟨Ao30, co30, eo30⟩ := Kd.R_slice HO_1.out
              subst eo30
              go_wp2_with (first | ((with_reducible refine gate_callee (f := 14) rfl ?_); refine goesL_ (some 40) rfl rfl Tryz.func14 (by kernel_rfl) rfl #[.slice Ao30 t103.length co30] rfl (by (try simp only [List.map_toArray, List.map_cons, List.map_nil]); first | done | rfl | (simp only [List.length_drop, List.length_take]; rfl)) ?_; (with_reducible refine (TkC.Text.calls _ _ t103 t112 t113 _ ?side1 ?side2 ?side3 A23.out).mono ?_); (case side1 => repeat (first | exact (Kd.R_reads' HO_1.out).2.2 | (with_reducible refine Kd.C_alloc ?_ _) | (with_reducible refine Kd.C_drewN ?_ _) | (with_reducible refine Kd.C_drew ?_))); (case side2 => exact (Kd.R_reads' HO_1.out).2.1); (case side3 => first | exact hEnv | exact EnvW.below hEnv (by repeat (first | (with_reducible first | exact HB.out | apply below_alloc | apply pw_below_drewN | apply below_drew1 | refine below_set ?_ GE108.out) | exact HB.out)) | exact hEnv.drewN _); rintro e w31 ⟨rfl, hb⟩; refine ⟨_, rfl, ?_⟩; have n0_ := Aside0.mk (Kd.R_below (by (with_reducible repeat (first | apply Kd.R_alloc | apply Kd.R_drewN | apply Kd.R_drew)); exact HO_1.out) hb); have n1_ := Aside0.mk (blk_below (g := gb108) (o := .cells #[.int .i64 t106, .int .i64 t107] 26 (0, 0)) (by (with_reducible repeat (first | refine blk_drewN ?_ _ | refine blk_drew ?_ | refine blk_alloc ?_ _)); exact BK108.out) hb); have n2_ := Aside0.mk (below_step (by repeat (first | (with_reducible first | exact HB.out | apply below_alloc | apply pw_below_drewN | apply below_drew1 | refine below_set ?_ GE108.out) | exact HB.out)) hb); clear HO_1; clear BK108; clear HB; have HO_1 := n0_; have BK108 := n1_; have HB := n2_; clear n0_ n1_ n2_; (try clear hb); (try clear hb2); (try clear hk); (try clear hi)))
              go_ret
              exact ⟨by first | rfl | (simp [errW_none, errW_some] <;> rfl) | (simp [*, errW_none, errW_some] <;> rfl), by repeat (first | (with_reducible first | exact HB.out | apply below_alloc | apply pw_below_drewN | apply below_drew1 | refine below_set ?_ GE108.out) | exact HB.out)⟩
          · rw [if_neg c24] at H
            have c24b0 : (t113 == 0) = false := beq_eq_false_iff_ne.mpr c24
            have c24b1 : (t113 != 0) = true := bne_iff_ne.mpr c24
            obtain rfl := Option.some.inj H
            obtain ⟨Ao32, co32, eo32⟩ := Kd.R_slice HO_1.out
            subst eo32
            go_wp2_with (first | ((with_reducible refine gate_callee (f := 14) rfl ?_); refine goesL_ (some 40) rfl rfl Tryz.func14 (by kernel_rfl) rfl #[.slice Ao32 t103.length co32] rfl (by (try simp only [List.map_toArray, List.map_cons, List.map_nil]); first | done | rfl | (simp only [List.length_drop, List.length_take]; rfl)) ?_; (with_reducible refine (TkC.Text.calls _ _ t103 t112 t113 _ ?side1 ?side2 ?side3 A23.out).mono ?_); (case side1 => repeat (first | exact (Kd.R_reads' HO_1.out).2.2 | (with_reducible refine Kd.C_alloc ?_ _) | (with_reducible refine Kd.C_drewN ?_ _) | (with_reducible refine Kd.C_drew ?_))); (case side2 => exact (Kd.R_reads' HO_1.out).2.1); (case side3 => first | exact hEnv | exact EnvW.below hEnv (by repeat (first | (with_reducible first | exact HB.out | apply below_alloc | apply pw_below_drewN | apply below_drew1 | refine below_set ?_ GE108.out) | exact HB.out)) | exact hEnv.drewN _); rintro e w33 ⟨rfl, hb⟩; refine ⟨_, rfl, ?_⟩; have n0_ := Aside0.mk (Kd.R_below (by (with_reducible repeat (first | apply Kd.R_alloc | apply Kd.R_drewN | apply Kd.R_drew)); exact HO_1.out) hb); have n1_ := Aside0.mk (blk_below (g := gb108) (o := .cells #[.int .i64 t106, .int .i64 t107] 26 (0, 0)) (by (with_reducible repeat (first | refine blk_drewN ?_ _ | refine blk_drew ?_ | refine blk_alloc ?_ _)); exact BK108.out) hb); have n2_ := Aside0.mk (below_step (by repeat (first | (with_reducible first | exact HB.out | apply below_alloc | apply pw_below_drewN | apply below_drew1 | refine below_set ?_ GE108.out) | exact HB.out)) hb); clear HO_1; clear BK108; clear HB; have HO_1 := n0_; have BK108 := n1_; have HB := n2_; clear n0_ n1_ n2_; (try clear hb); (try clear hb2); (try clear hk); (try clear hi)))
            go_ret
            exact ⟨by first | rfl | (simp [errW_none, errW_some] <;> rfl) | (simp [*, errW_none, errW_some] <;> rfl), by repeat (first | (with_reducible first | exact HB.out | apply below_alloc | apply pw_below_drewN | apply below_drew1 | refine below_set ?_ GE108.out) | exact HB.out)⟩
end Go.Proofs.YtgeonilideojnaaGreatDoor.Pr
end
section
namespace Go.Proofs.YtgeonilideojnaaGreatDoor.Lw
open Go Go.RowKit Tk Go.Proofs.YtgeonilideojnaaGreatDoor.Pr Go.Proofs.YtgeonilideojnaaGreatDoorW.PrintWords
set_option linter.unusedVariables false
set_option linter.unusedSimpArgs false
set_option maxRecDepth 100000
def exText : Bs := [112, 40, 88, 41, 32, 58, 45, 32, 33, 46, 88, 32, 61, 32, 48, 39, 97, 46]
def exToks : List Tok := [⟨1, [112], 0⟩, ⟨6, [40, 40], 1⟩, ⟨2, [88], 2⟩, ⟨6, [41], 3⟩, ⟨1, [58, 45], 5⟩, ⟨1, [33, 46], 8⟩, ⟨2, [88], 10⟩, ⟨1, [61], 12⟩, ⟨4, [97], 14⟩, ⟨7, [46], 17⟩, ⟨0, [], 18⟩]
theorem ex_tokens : tokensS exText = .toks exToks := by rfl
theorem ex_text : textS exToks = ([112, 40, 32, 88, 32, 41, 32, 58, 45, 32, 33, 46, 88, 32, 61, 32, 48, 39, 97, 32, 46, 10], 0) := by rfl
theorem ex_name : nameS [97, 32, 98] = [39, 97, 32, 98, 39] := by rfl
theorem ex_Tokens : TkC.Tokens.f (B exText) = some (exToks.map TkC.ofTok, 0, 0) := by
  unfold TkC.Tokens.f
  rw [if_pos (by decide), B_data, ex_tokens]
theorem map_back (ts : List Tok) : (ts.map TkC.ofTok).map toTok = ts := by
  rw [List.map_map]
  have : toTok ∘ TkC.ofTok = id := by funext t; rfl
  rw [this, List.map_id]
theorem ex_Text : TkC.Text.f (exToks.map TkC.ofTok) = some (B [112, 40, 32, 88, 32, 41, 32, 58, 45, 32, 33, 46, 88, 32, 61, 32, 48, 39, 97, 32, 46, 10], 0) := by
  unfold TkC.Text.f
  rw [if_pos (by decide), map_back, ex_text]
  rfl
theorem awake_f : Ev (fun k => cinnabarlaw01_awake.f k) true := by
  refine Ev.congr (f := fun k => cinnabarlaw01_awake.j0 k (exToks.map TkC.ofTok) false) (fun k => ?_) ?_
  · unfold cinnabarlaw01_awake.f
    rw [show (⟨#[112, 40, 88, 41, 32, 58, 45, 32, 33, 46, 88, 32, 61, 32, 48, 39, 97, 46]⟩ : ByteArray) = B exText from rfl, ex_Tokens]
    simp only [Option.bind_some, if_true]
    rw [if_pos (by decide), if_pos (by decide), if_pos (by rw [toList_data]; rfl), if_pos (by decide), if_pos (by rw [toList_data]; rfl), if_pos (by decide)]
    rfl
  · refine Ev.step (f := fun k => some true) (fun k => ?_) (Ev.now _)
    simp only [cinnabarlaw01_awake.j0]
    rw [if_neg (by decide), ex_Text]
    simp only [Option.bind_some, if_true]
    rw [if_pos (by rw [toList_B]), Name_f _ (by decide)]
    simp only [Option.bind_some]
    rw [ex_name, toList_B]
    rfl
end Go.Proofs.YtgeonilideojnaaGreatDoor.Lw
end
section
namespace Go.Proofs.YtgeonilideojnaaGreatDoor.Tk
open Go Go.RowKit
set_option linter.unusedVariables false
set_option linter.unusedSimpArgs false
theorem skipR_code : ∀ (n m f i : Nat) (s : Bs) (a e : Nat), s.length ≤ n → skipR m f i s = .bad a e → e ≠ 0
  | n, m, f, i, [], a, e, hn, h => by
    simp only [skipR] at h
    split at h
    · injection h with _ h2; omega
    · cases h
  | n, m, f, i, [c], a, e, hn, h => by
    simp only [skipR] at h
    repeat' split at h
    all_goals first | (cases h; done) | (injection h with _ h2; omega)
  | 0, m, f, i, c :: d :: t, a, e, hn, h => by simp at hn
  | n + 1, m, f, i, c :: d :: t, a, e, hn, h => by
    simp at hn
    have ih := fun m f i s hs => skipR_code n m f i s a e hs
    rw [skipR] at h
    repeat' split at h
    all_goals first | (cases h; done) | (injection h with _ h2; omega) | (exact ih _ _ _ _ (by simp; omega) h) | (exact ih _ _ _ _ (by omega) h)
theorem quotedR_more (mk : UInt8) (es : Bs) (f : Nat) : ∀ (n i : Nat) (s acc : Bs), s.length ≤ n →
    (∀ r j, quotedR mk es f i s acc = .ok r j → r.length + i ≤ acc.length + j) ∧ (∀ a e, quotedR mk es f i s acc = .bad a e → e ≠ 0) := by
  intro n
  induction n with
  | zero =>
    intro i s acc hn
    match s, hn with
    | [], _ =>
      refine ⟨fun r j h => ?_, fun a e h => ?_⟩
      · rw [quotedR_nil] at h; cases h
      · rw [quotedR_nil] at h; injection h with _ h2; omega
  | succ n ih =>
    intro i s acc hn
    match s, hn with
    | [], _ =>
      refine ⟨fun r j h => ?_, fun a e h => ?_⟩
      · rw [quotedR_nil] at h; cases h
      · rw [quotedR_nil] at h; injection h with _ h2; omega
    | c :: t, hn =>
      simp at hn
      rw [quotedR_cons]
      split
      · exact ⟨fun r j h => (by cases h), fun a e h => by injection h with _ h2; omega⟩
      · split
        · exact ⟨fun r j h => (by injection h with h1 h2; subst h1 h2; omega), fun a e h => by cases h⟩
        · split
          · exact ⟨fun r j h => (by cases h), fun a e h => by injection h with _ h2; omega⟩
          · split
            · match t, hn with
              | [], _ => exact ⟨fun r j h => (by cases h), fun a e h => by injection h with _ h2; omega⟩
              | d :: u, hn =>
                simp only
                split
                · exact ⟨fun r j h => (by cases h), fun a e h => by injection h with _ h2; omega⟩
                · split
                  · have := ih (i + 2) u (acc ++ [unesc d]) (by simp at hn; omega)
                    refine ⟨fun r j h => ?_, this.2⟩
                    have := this.1 r j h
                    simp at this
                    omega
                  · exact ⟨fun r j h => (by cases h), fun a e h => by injection h with _ h2; omega⟩
            · have := ih (i + 1) t (acc ++ [c]) hn
              refine ⟨fun r j h => ?_, this.2⟩
              have := this.1 r j h
              simp at this
              omega
theorem charS_more (l : Bs) (i : Nat) : (∀ r j, charS l i = .ok r j → r.length = 1 ∧ i + 3 ≤ j) ∧ (∀ a e, charS l i = .bad a e → e ≠ 0) := by
  unfold charS
  repeat' split
  all_goals exact ⟨fun r j h => (by first | (cases h; done) | (injection h with h1 h2; subst h1 h2; exact ⟨rfl, by omega⟩)), fun a e h => by first | (cases h; done) | (injection h with _ h2; omega)⟩
theorem cut_len (l : Bs) (i j : Nat) : (cut l i j).length ≤ l.length := by
  unfold cut; simp; omega
theorem tokenRaw_text {l : Bs} {i : Nat} {c : UInt8} {t : Bs} (hd : l.drop i = c :: t) {k : Tok} {m : Nat} (h : tokenRaw l i c = .ok k m) : k.text.length ≤ l.length ∧ 1 ≤ k.kind ∧ k.kind ≤ 7 := by
  obtain ⟨hl, -, -⟩ := drop_at hd
  have hc1 := cut_len l i
  unfold tokenRaw at h
  split at h
  · injection h with h1 h2; subst h1; exact ⟨hc1 _, by simp, by simp⟩
  · split at h
    · injection h with h1 h2; subst h1; exact ⟨hc1 _, by simp, by simp⟩
    · split at h
      · split at h
        · rename_i s j hq
          injection h with h1 h2
          subst h1
          have h3 := (charS_more l i).1 _ _ hq
          exact ⟨by simp only; omega, by simp, by simp⟩
        · cases h
      · split at h
        · injection h with h1 h2; subst h1; exact ⟨hc1 _, by simp, by simp⟩
        · split at h
          · split at h
            · rename_i s j hq
              injection h with h1 h2
              subst h1
              have h3 := (quotedR_more 34 [110, 116, 92, 34] i (l.drop (i + 1)).length (i + 1) (l.drop (i + 1)) [] (Nat.le_refl _)).1 _ _ hq
              have h4 := quotedR_bound _ _ _ _ _ _ _ _ _ (Nat.le_refl _) hq
              rw [List.length_drop] at h4
              simp at h3
              exact ⟨by simp only; omega, by simp, by simp⟩
            · cases h
          · split at h
            · split at h
              · rename_i s j hq
                split at h
                · cases h
                · injection h with h1 h2
                  subst h1
                  have h3 := (quotedR_more 39 [92, 39] i (l.drop (i + 1)).length (i + 1) (l.drop (i + 1)) [] (Nat.le_refl _)).1 _ _ hq
                  have h4 := quotedR_bound _ _ _ _ _ _ _ _ _ (Nat.le_refl _) hq
                  rw [List.length_drop] at h4
                  simp at h3
                  exact ⟨by simp only; omega, by simp, by simp⟩
              · cases h
            · split at h
              · injection h with h1 h2; subst h1; exact ⟨by simp; omega, by simp, by simp⟩
              · split at h
                · simp only at h
                  split at h
                  · split at h
                    · injection h with h1 h2; subst h1; exact ⟨by simp; omega, by simp, by simp⟩
                    · split at h
                      · cases h
                      · injection h with h1 h2; subst h1; exact ⟨by simp; omega, by simp, by simp⟩
                  · injection h with h1 h2; subst h1; exact ⟨hc1 _, by simp, by simp⟩
                · cases h
theorem tokenRaw_code {l : Bs} {i : Nat} {c : UInt8} {a e : Nat} (h : tokenRaw l i c = .bad a e) : e ≠ 0 := by
  unfold tokenRaw at h
  split at h
  · cases h
  · split at h
    · cases h
    · split at h
      · split at h
        · cases h
        · rename_i a0 e0 hq
          injection h with h1 h2
          subst h2
          exact (charS_more l i).2 _ _ hq
      · split at h
        · cases h
        · split at h
          · split at h
            · cases h
            · rename_i a0 e0 hq
              injection h with h1 h2
              subst h2
              exact (quotedR_more 34 [110, 116, 92, 34] i (l.drop (i + 1)).length (i + 1) (l.drop (i + 1)) [] (Nat.le_refl _)).2 _ _ hq
          · split at h
            · split at h
              · split at h
                · injection h with _ h2; omega
                · cases h
              · rename_i a0 e0 hq
                injection h with h1 h2
                subst h2
                exact (quotedR_more 39 [92, 39] i (l.drop (i + 1)).length (i + 1) (l.drop (i + 1)) [] (Nat.le_refl _)).2 _ _ hq
            · split at h
              · cases h
              · split at h
                · simp only at h
                  split at h
                  · split at h
                    · cases h
                    · split at h
                      · injection h with _ h2; omega
                      · cases h
                  · cases h
                · injection h with _ h2; omega
theorem tokenS_more (l : Bs) (i : Nat) : (∀ k m, tokenS l i = .ok k m → k.text.length ≤ l.length ∧ 0 ≤ k.kind ∧ k.kind ≤ 7) ∧ (∀ a e, tokenS l i = .bad a e → e ≠ 0) := by
  cases hd : l.drop i with
  | nil =>
    have e1 : tokenS l i = .ok ⟨0, [], i⟩ i := by unfold tokenS; rw [hd]
    rw [e1]
    exact ⟨fun k m h => (by injection h with h1 h2; subst h1; exact ⟨Nat.zero_le _, by simp, by simp⟩), fun a e h => by cases h⟩
  | cons c t =>
    rw [tokenS_cons hd]
    have hr := And.intro (fun k m (h : tokenRaw l i c = .ok k m) => tokenRaw_text hd h) (fun a e (h : tokenRaw l i c = .bad a e) => tokenRaw_code h)
    cases hq : tokenRaw l i c with
    | bad a e => exact ⟨fun k m h => (by cases h), fun a' e' h => by injection h with h1 h2; subst h2; exact hr.2 _ _ hq⟩
    | ok k m =>
      have := hr.1 _ _ hq
      unfold fin
      simp only
      split
      · exact ⟨fun k' m' h => (by injection h with h1 h2; subst h1; exact ⟨this.1, by omega, this.2.2⟩), fun a e h => by cases h⟩
      · rename_i hn
        exact ⟨fun k' m' h => (by (cases h)), fun a e h => by injection h with h1 h2; subst h2; exact hn⟩
structure AccOk (l : Bs) (acc : List Tok) (i : Nat) : Prop where
  each : ∀ t ∈ acc, t.kind ≠ 0 ∧ checkS t.kind t.text = 0 ∧ 0 ≤ t.at_ ∧ t.at_ < i ∧ t.text.length ≤ l.length + 2 ∧ 0 ≤ t.kind ∧ t.kind ≤ 7
  sorted : acc.Pairwise fun a b => a.at_ < b.at_
theorem called_same (acc : List Tok) (i : Nat) (t : Tok) : (called acc i t).kind = t.kind ∧ (called acc i t).at_ = t.at_ ∧ ((called acc i t).text = t.text ∨ (t.kind = 6 ∧ (called acc i t).text = [40, 40])) := by
  unfold called
  split
  · exact ⟨rfl, rfl, .inl rfl⟩
  · split
    · rename_i h
      exact ⟨rfl, rfl, .inr ⟨h.1, rfl⟩⟩
    · exact ⟨rfl, rfl, .inl rfl⟩
def ResOk (l : Bs) : Res → Prop
  | .fault _ e => e ≠ 0
  | .toks ts => ∃ body, ts = body ++ [⟨0, [], l.length⟩] ∧ AccOk l body l.length
theorem loop_inv (l : Bs) : ∀ (k i : Nat) (acc : List Tok), i ≤ l.length → l.length + 1 ≤ i + k → AccOk l acc i → ResOk l (loopS l k i acc)
  | 0, i, acc, hi, hk, _ => by omega
  | k + 1, i, acc, hi, hk, ha => by
    unfold loopS
    cases hs : skipS l i with
    | bad a e => exact skipR_code _ _ _ _ _ _ _ (Nat.le_refl _) hs
    | ok u j =>
      have hj := skipS_bound hi hs
      simp only
      cases ht : tokenS l j with
      | bad a e => exact (tokenS_more l j).2 _ _ ht
      | ok t m =>
        have hb := tokenS_bound hj.2 ht
        have hm := (tokenS_more l j).1 _ _ ht
        have hc := called_same acc i t
        simp only
        by_cases h0 : t.kind = 0
        · rw [if_pos h0]
          have hjl : l.length ≤ j := hb.2.2.2.2.1.1 h0
          have e1 : t = ⟨0, [], l.length⟩ := by
            have e2 := ht
            rw [show tokenS l j = .ok ⟨0, [], j⟩ j by unfold tokenS; rw [List.drop_eq_nil_of_le hjl]] at e2
            injection e2 with e2 _
            rw [← e2, show j = l.length by omega]
          have e2 : called acc i t = t := by
            rcases hc.2.2 with h | h
            · have h1 := hc.1
              have h2 := hc.2.1
              cases hcc : called acc i t
              rw [hcc] at h h1 h2
              simp only at h h1 h2
              subst h h1 h2
              rfl
            · omega
          refine ⟨acc, by rw [e2, e1], ⟨fun t ht => ?_, ha.sorted⟩⟩
          have := ha.each t ht
          exact ⟨this.1, this.2.1, this.2.2.1, by omega, this.2.2.2.2⟩
        · rw [if_neg h0]
          have hjm := hb.2.1 h0
          refine loop_inv l k m _ hb.1 (by omega) ⟨fun x hx => ?_, ?_⟩
          · rcases List.mem_append.1 hx with hx | hx
            · have := ha.each x hx
              exact ⟨this.1, this.2.1, this.2.2.1, by omega, this.2.2.2.2⟩
            · rw [List.mem_singleton.1 hx]
              refine ⟨by rw [hc.1]; exact h0, ?_, by rw [hc.2.1, hb.2.2.2.1]; omega, by rw [hc.2.1, hb.2.2.2.1]; omega, ?_, by rw [hc.1]; exact hm.2.1, by rw [hc.1]; exact hm.2.2⟩
              · rcases hc.2.2 with h | h
                · rw [hc.1, h]; exact hb.2.2.2.2.2
                · rw [hc.1, h.1, h.2]; decide
              · rcases hc.2.2 with h | h
                · rw [h]; omega
                · rw [h.2]; simp
          · rw [List.pairwise_append]
            refine ⟨ha.sorted, by simp, fun a h1 b h2 => ?_⟩
            rw [List.mem_singleton.1 h2, hc.2.1, hb.2.2.2.1]
            have := (ha.each a h1).2.2.2.1
            omega
theorem tokens_inv (l : Bs) : ResOk l (tokensS l) := by
  unfold tokensS
  split
  · show (6 : Nat) ≠ 0
    decide
  · exact loop_inv l _ 0 [] (Nat.zero_le _) (by omega) ⟨by simp, List.Pairwise.nil⟩
end Go.Proofs.YtgeonilideojnaaGreatDoor.Tk
end
section
namespace Go.Proofs.YtgeonilideojnaaGreatDoor.Pr
open Go.RowKit Go.Proofs.YtgeonilideojnaaGreatDoorW.PrintWords Go.Proofs.YtgeonilideojnaaGreatDoorW.PrintLast Go.Proofs.YtgeonilideojnaaGreatDoorW.PrintMore
attribute [local go_sem] max2_int min2_int max_two min_two max_three min_three max_four min_four
set_option linter.unusedVariables false
set_option linter.unusedSimpArgs false
end Go.Proofs.YtgeonilideojnaaGreatDoor.Pr
end
section
namespace Go.Proofs.YtgeonilideojnaaGreatDoor.Lw
open Go Go.RowKit Tk Go.Proofs.YtgeonilideojnaaGreatDoor.Pr Go.Proofs.YtgeonilideojnaaGreatDoorW.PrintWords
set_option linter.unusedVariables false
set_option linter.unusedSimpArgs false
theorem awake_oneR {f : Nat → Option Bool} (h : ∀ k, f (k + 1) = (cinnabarlaw01_awake.f k).bind fun t => some t) : Ev f true :=
  Ev.step h (Ev.bind (f := fun _ t => some t) awake_f (Ev.now _))
theorem kind_wf {k : Int} (h0 : 0 ≤ k) (h7 : k ≤ 7) : (Lit.int .i64 k).wf = true := by
  simp only [Lit.wf, IntKind.min, IntKind.max, IntKind.signed, IntKind.bits, Bool.and_eq_true, decide_eq_true_eq, if_true]
  omega
structure Toks (l : Bs) (ts : List Tk.Tok) : Prop where
  ok : ∀ t ∈ ts, (Lit.int .i64 t.kind).wf = true ∧ checkS t.kind t.text = 0 ∧ t.text.length ≤ l.length + 2
  sorted : ts.Pairwise fun a b => a.at_ < b.at_
  ends : ∀ i (h : i < ts.length), ts[i].kind = 0 ↔ i + 1 = ts.length
  last : ∃ h : ts.length - 1 < ts.length, ts[ts.length - 1].at_ = l.length
theorem toks_of {l : Bs} {ts : List Tk.Tok} (h : ResOk l (.toks ts)) : Toks l ts := by
  obtain ⟨body, rfl, ha⟩ := h
  refine ⟨fun t ht => ?_, ?_, fun i hi => ?_, ?_⟩
  · rcases List.mem_append.1 ht with ht | ht
    · have := ha.each t ht
      exact ⟨kind_wf this.2.2.2.2.2.1 this.2.2.2.2.2.2, this.2.1, this.2.2.2.2.1⟩
    · rw [List.mem_singleton.1 ht]
      exact ⟨kind_wf (Int.le_refl 0) (by show (0 : Int) ≤ 7; decide), rfl, Nat.zero_le _⟩
  · rw [List.pairwise_append]
    refine ⟨ha.sorted, by simp, fun a h1 b h2 => ?_⟩
    rw [List.mem_singleton.1 h2]
    exact (ha.each a h1).2.2.2.1
  · rw [List.length_append, List.length_singleton]
    rcases Nat.lt_or_ge i body.length with hb | hb
    · rw [List.getElem_append_left hb]
      have := (ha.each _ (List.getElem_mem hb)).1
      exact ⟨fun h => absurd h this, fun h => by omega⟩
    · have : i = body.length := by simp at hi; omega
      subst this
      simp
  · simp
theorem wrap_pred (n : Nat) (h1 : 1 ≤ n) (h : n ≤ 1000000) : wrap64 ((n : Int) - 1) = ((n - 1 : Nat) : Int) := by
  unfold wrap64
  omega
theorem toks_len {l : Bs} {ts : List Tk.Tok} (h : Toks l ts) (h0 : ∀ t ∈ ts, 0 ≤ t.at_) : ts.length ≤ l.length + 1 := by
  obtain ⟨hp, hlast⟩ := h.last
  have : ∀ i (hi : i < ts.length), (i : Int) ≤ ts[i].at_ := by
    intro i
    induction i with
    | zero => intro hi; exact h0 _ (List.getElem_mem hi)
    | succ i ih =>
      intro hi
      have h1 := ih (by omega)
      have h2 := List.pairwise_iff_getElem.1 h.sorted i (i + 1) (by omega) hi (by omega)
      omega
  have := this _ hp
  omega
theorem toks_pos {l : Bs} {ts : List Tk.Tok} (h : ResOk l (.toks ts)) : ∀ t ∈ ts, 0 ≤ t.at_ := by
  obtain ⟨body, rfl, ha⟩ := h
  intro t ht
  rcases List.mem_append.1 ht with ht | ht
  · exact (ha.each t ht).2.2.1
  · rw [List.mem_singleton.1 ht]
    show (0 : Int) ≤ (l.length : Int)
    omega
end Go.Proofs.YtgeonilideojnaaGreatDoor.Lw
end
section
namespace Go.Proofs.YtgeonilideojnaaGreatDoor.Pr
open Go.RowKit Go.Proofs.YtgeonilideojnaaGreatDoorW.PrintWords Go.Proofs.YtgeonilideojnaaGreatDoorW.PrintLast Go.Proofs.YtgeonilideojnaaGreatDoorW.PrintMore
attribute [local go_sem] max2_int min2_int max_two min_two max_three min_three max_four min_four
set_option linter.unusedVariables false
set_option linter.unusedSimpArgs false
def cinnabarlaw01_long.l0 : Nat → List (S35) → Int → Int → Option (Bool)
  | 0, _, _, _ => none
  | k + 1, x0, x3, x4 => if x4 < (x0.length : Int) then (if 0 ≤ x4 then (if (wrap64 (x3 + (((rd_T35 x0 x4).f1).size : Int))) > 2000 then (some true) else (if x4 > 300 then (some true) else (cinnabarlaw01_long.l0 k x0 (wrap64 (x3 + (((rd_T35 x0 x4).f1).size : Int))) (wrap64 (x4 + 1))))) else (none)) else (some false)
def cinnabarlaw01_long.f (k : Nat) (l0 : List (S35)) : Option (Bool) := cinnabarlaw01_long.l0 k l0 0 0
theorem cinnabarlaw01_long.mono_l : ∀ k, (∀ y0 y1 y2, LeO (cinnabarlaw01_long.l0 k y0 y1 y2) (cinnabarlaw01_long.l0 (k + 1) y0 y1 y2))
  | 0 => fun _ _ _ r h => by simp [cinnabarlaw01_long.l0] at h
  | k + 1 => by
    have ih0 := cinnabarlaw01_long.mono_l k
    · intro y0 y1 y2
      unfold cinnabarlaw01_long.l0
      repeat' first
      | (with_reducible exact ih0 _ _ _)
      | (with_reducible exact LeO.refl _)
      | (with_reducible exact LeO.none _)
      | (with_reducible refine LeO.ite ?_ ?_)
      | (with_reducible refine LeO.bind ?_ (fun _ => ?_))
      | exact ih0 _ _ _
      | exact LeO.none _
      | refine LeO.ite ?_ ?_
      | refine LeO.bind ?_ (fun _ => ?_)
theorem cinnabarlaw01_long.mono : ∀ a0 k, LeO (cinnabarlaw01_long.f k a0) (cinnabarlaw01_long.f (k + 1) a0) := by
  intro a0 k
  have ih0 := cinnabarlaw01_long.mono_l k
  unfold cinnabarlaw01_long.f
  repeat' first
      | (with_reducible exact ih0 _ _ _)
      | (with_reducible exact LeO.refl _)
      | (with_reducible exact LeO.none _)
      | (with_reducible refine LeO.ite ?_ ?_)
      | (with_reducible refine LeO.bind ?_ (fun _ => ?_))
      | exact ih0 _ _ _
      | exact LeO.none _
      | refine LeO.ite ?_ ?_
      | refine LeO.bind ?_ (fun _ => ?_)
set_option maxHeartbeats 8000000 in
set_option maxRecDepth 100000 in
theorem cinnabarlaw01_long.calls (k : Nat) (A0 : Option Addr) (c0 : Nat) (l0 : List (S35)) (r : Bool) (w : World) (hr0 : Kd.C k35 w A0 l0.length l0) (hc0 : l0.length ≤ c0) (h : cinnabarlaw01_long.f k l0 = some r) :
    Calls Tryz.prog 13 #[.slice A0 l0.length c0] w fun e w' => e = .returned (.bool r) ∧ Drawn0 w w' := by
  have HR0 := Aside0.mk hr0
  have HC0 := Aside0.mk hc0
  clear hr0 hc0
  have H : (cinnabarlaw01_long.l0 k l0 0 0) = some r := h
  clear h
  have H' := Aside0.mk H
  clear H
  go_enter Tryz.func13, Tryz.ntmps13
  go_wp2
  (try simp only [Go.Act.put, List.setIfInBounds_toArray, List.set_cons_succ, List.set_cons_zero])
  go_loopg [3, 4] k (fun kq v3 v4 w' => ∃ (x3_1 : Int) (x4_1 : Int), v3 = .int .i64 x3_1 ∧ v4 = .int .i64 x4_1 ∧ Aside0 (cinnabarlaw01_long.l0 kq l0 x3_1 x4_1 = some r) ∧ Aside0 (kq ≤ k) ∧ Drawn0 w w')
  case atStart => exact ⟨(0), (0), (by first | rfl | (simp; done) | (simp [*]; done) | (simp [show ∀ l : List UInt8, (l != []) = !l.isEmpty from fun l => by cases l <;> rfl]; done)), (by first | rfl | (simp; done) | (simp [*]; done) | (simp [show ∀ l : List UInt8, (l != []) = !l.isEmpty from fun l => by cases l <;> rfl]; done)), H', ⟨Nat.le_refl _⟩, by repeat (first | exact Drawn0.refl _ | apply Drawn0.step)⟩
  case round =>
    clear H'
    try clear c1
    obtain ⟨x3_1, x4_1, rfl, rfl, HA, HK1, ⟨m1, rfl⟩⟩ := hrel
    cases gk with
    | zero => exact absurd HA.out (by simp [cinnabarlaw01_long.l0])
    | succ k1 =>
      have H := HA.out
      clear HA
      simp only [cinnabarlaw01_long.l0] at H
      by_cases c2 : x4_1 < (l0.length : Int)
      · rw [if_pos c2] at H
        have c2b0 : decide (x4_1 < (l0.length : Int)) = true := decide_eq_true c2
        clear c2
        by_cases c3 : 0 ≤ x4_1
        · rw [if_pos c3] at H
          have c3b0 : decide (0 ≤ x4_1) = true := decide_eq_true c3
          clear c3
          by_cases c4 : (wrap64 (x3_1 + (((rd_T35 l0 x4_1).f1).size : Int))) > 2000
          · rw [if_pos c4] at H
            have c4b0 : decide (2000 < (wrap64 (x3_1 + (((rd_T35 l0 x4_1).f1).size : Int)))) = true := decide_eq_true c4
            clear c4
            obtain rfl := Option.some.inj H
            have p136 : 0 ≤ (x4_1 : Int) := of_decide_eq_true (by first | (with_reducible assumption) | assumption)
            have q136 : x4_1 < (l0.length : Int) := of_decide_eq_true (by first | (with_reducible assumption) | assumption)
            obtain ⟨ad136, e136, hx136_0, hx136_1, hx136_2⟩ := at_T35 HR0.out x4_1 p136 q136
            cases e136
            replace p136 := eq_true p136
            replace q136 := eq_true q136
            go_wp2
            go_ret
            exact ⟨by first | rfl | (simp; done) | (simp [*]; done), by repeat (first | exact Drawn0.refl _ | apply Drawn0.step)⟩
          · rw [if_neg c4] at H
            have c4b0 : decide (2000 < (wrap64 (x3_1 + (((rd_T35 l0 x4_1).f1).size : Int)))) = false := decide_eq_false c4
            clear c4
            by_cases c5 : x4_1 > 300
            · rw [if_pos c5] at H
              have c5b0 : decide (300 < x4_1) = true := decide_eq_true c5
              clear c5
              obtain rfl := Option.some.inj H
              have p136 : 0 ≤ (x4_1 : Int) := of_decide_eq_true (by first | (with_reducible assumption) | assumption)
              have q136 : x4_1 < (l0.length : Int) := of_decide_eq_true (by first | (with_reducible assumption) | assumption)
              obtain ⟨ad136, e136, hx136_0, hx136_1, hx136_2⟩ := at_T35 HR0.out x4_1 p136 q136
              cases e136
              replace p136 := eq_true p136
              replace q136 := eq_true q136
              go_wp2
              go_ret
              exact ⟨by first | rfl | (simp; done) | (simp [*]; done), by repeat (first | exact Drawn0.refl _ | apply Drawn0.step)⟩
            · rw [if_neg c5] at H
              have c5b0 : decide (300 < x4_1) = false := decide_eq_false c5
              clear c5
              have H' := Aside0.mk H
              clear H
              have p136 : 0 ≤ (x4_1 : Int) := of_decide_eq_true (by first | (with_reducible assumption) | assumption)
              have q136 : x4_1 < (l0.length : Int) := of_decide_eq_true (by first | (with_reducible assumption) | assumption)
              obtain ⟨ad136, e136, hx136_0, hx136_1, hx136_2⟩ := at_T35 HR0.out x4_1 p136 q136
              cases e136
              replace p136 := eq_true p136
              replace q136 := eq_true q136
              go_wp2
              go_roundg k1
              case measure => have := HK1.out; omega
              case rel => exact ⟨(wrap64 (x3_1 + (((rd_T35 l0 x4_1).f1).size : Int))), (wrap64 (x4_1 + 1)), (by first | rfl | (simp; done) | (simp [*]; done) | (simp [show ∀ l : List UInt8, (l != []) = !l.isEmpty from fun l => by cases l <;> rfl]; done)), (by first | rfl | (simp; done) | (simp [*]; done) | (simp [show ∀ l : List UInt8, (l != []) = !l.isEmpty from fun l => by cases l <;> rfl]; done)), H', ⟨by have := HK1.out; omega⟩, by repeat (first | exact Drawn0.refl _ | apply Drawn0.step)⟩
        · rw [if_neg c3] at H
          exact absurd H (by simp)
      · rw [if_neg c2] at H
        have c2b0 : decide (x4_1 < (l0.length : Int)) = false := decide_eq_false c2
        clear c2
        obtain rfl := Option.some.inj H
        go_wp2
        go_ret
        exact ⟨by first | rfl | (simp; done) | (simp [*]; done), by repeat (first | exact Drawn0.refl _ | apply Drawn0.step)⟩
end Go.Proofs.YtgeonilideojnaaGreatDoor.Pr
end
section
namespace Go.Proofs.YtgeonilideojnaaGreatDoor.Lw
open Go Go.RowKit Tk Go.Proofs.YtgeonilideojnaaGreatDoor.Pr Go.Proofs.YtgeonilideojnaaGreatDoorW.PrintWords
set_option linter.unusedVariables false
set_option linter.unusedSimpArgs false
theorem awake_some {f : Nat → Option Bool} (h : ∀ k, f k = (cinnabarlaw01_awake.f k).bind fun t => some t) : Ev f true :=
  Ev.congr h (Ev.bind (f := fun _ t => some t) awake_f (Ev.now _))
def Fit (xs : List STok) : Prop := xs.length ≤ 140737488351232 ∧ ∀ x ∈ xs, (Lit.int .i64 x.f0).wf = true ∧ (Lit.int .i64 x.f2).wf = true ∧ x.f1.size ≤ 140737488351232
def Small (xs : List STok) : Prop := xs.length ≤ 301 ∧ ∀ x ∈ xs, x.f1.size ≤ 2000
theorem wrap_add {a b : Nat} (h : a ≤ 2000) (hb : b ≤ 140737488351232) : wrap64 ((a : Int) + (b : Int)) = ((a + b : Nat) : Int) := by
  unfold wrap64
  omega
theorem long_loop (xs : List STok) (hf : Fit xs) : ∀ (d i s : Nat), 302 - i = d → i ≤ xs.length → i ≤ 301 → s ≤ 2000 → (∀ x ∈ xs.take i, x.f1.size ≤ 2000) → ∃ b, Ev (fun k => cinnabarlaw01_long.l0 k xs (s : Int) (i : Int)) b ∧ (b = false → Small xs) := by
  intro d
  induction d with
  | zero => intro i s hd hi h1; omega
  | succ d ih =>
    intro i s hd hi h1 hs hx
    by_cases hlt : i < xs.length
    · have hrd : rd_T35 xs (i : Int) = xs[i] := by
        unfold rd_T35
        simp [List.getElem?_eq_getElem hlt]
      have hz := (hf.2 xs[i] (List.getElem_mem hlt)).2.2
      have w1 := hide (wrap_add hs hz)
      have w2 := hide (wrap_nat i (by omega))
      by_cases h2 : s + xs[i].f1.size > 2000
      · refine ⟨true, Ev.step (f := fun k => some true) (fun k => ?_) (Ev.now _), fun h => by cases h⟩
        simp only [cinnabarlaw01_long.l0, hrd, w1.out]
        rw [if_pos (by omega), if_pos (by omega), if_pos (by omega)]
      · by_cases h3 : i > 300
        · refine ⟨true, Ev.step (f := fun k => some true) (fun k => ?_) (Ev.now _), fun h => by cases h⟩
          simp only [cinnabarlaw01_long.l0, hrd, w1.out]
          rw [if_pos (by omega), if_pos (by omega), if_neg (by omega), if_pos (by omega)]
        · obtain ⟨b, he, hb⟩ := ih (i + 1) (s + xs[i].f1.size) (by omega) (by omega) (by omega) (by omega) (by
            intro x hm
            rw [List.take_succ_eq_append_getElem hlt] at hm
            rcases List.mem_append.1 hm with hm | hm
            · exact hx x hm
            · rw [List.mem_singleton.1 hm]; omega)
          refine ⟨b, Ev.step (f := fun k => cinnabarlaw01_long.l0 k xs ((s + xs[i].f1.size : Nat) : Int) ((i + 1 : Nat) : Int)) (fun k => ?_) he, hb⟩
          simp only [cinnabarlaw01_long.l0, hrd, w1.out, w2.out]
          rw [if_pos (by omega), if_pos (by omega), if_neg (by omega), if_neg (by omega)]
    · refine ⟨false, Ev.step (f := fun k => some false) (fun k => ?_) (Ev.now _), fun _ => ⟨by omega, fun x hm => hx x ?_⟩⟩
      · simp only [cinnabarlaw01_long.l0]
        rw [if_neg (by omega)]
      · rw [List.take_of_length_le (by omega)]
        exact hm
theorem long_f (xs : List STok) (hf : Fit xs) : ∃ b, Ev (fun k => cinnabarlaw01_long.f k xs) b ∧ (b = false → Small xs) := by
  obtain ⟨b, h1, h2⟩ := long_loop xs hf _ 0 0 rfl (Nat.zero_le _) (by omega) (by omega) (by simp)
  exact ⟨b, Ev.congr (fun k => rfl) h1, h2⟩
end Go.Proofs.YtgeonilideojnaaGreatDoor.Lw
end
