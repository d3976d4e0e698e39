/- A part of a proof over the package's statements: contracts of functions and plain facts, merged by a program of this session's. -/
import Derived.Test.YtgeonilideojnaaGreatDoorRG1x1
import Derived.Test.YtgeonilideojnaaGreatDoorRG1x2
import Derived.Test.YtgeonilideojnaaGreatDoorRG1x3
import Derived.Test.YtgeonilideojnaaGreatDoorRG1x4
import Derived.Test.YtgeonilideojnaaGreatDoorRG1x5
import Derived.Test.YtgeonilideojnaaGreatDoorRG1x6
import Derived.Test.YtgeonilideojnaaGreatDoorRG1x7
section
namespace Go.Proofs.YtgeonilideojnaaGreatDoor.Tk
open Go Go.RowKit Go.Proofs.YtgeonilideojnaaGreatDoor.Pr Go.Proofs.YtgeonilideojnaaGreatDoorW.PrintWords Go.Proofs.YtgeonilideojnaaGreatDoorW.PrintLast Go.Proofs.YtgeonilideojnaaGreatDoorW.PrintMore
set_option linter.unusedVariables false
set_option linter.unusedSimpArgs false
section
set_option maxHeartbeats 8000000
set_option maxRecDepth 100000
theorem ne_zero_int {r : Nat} (h : ¬ r = 0) : ((r : Int) != 0) = true := by simp; omega
theorem C_addr {w : World} {A : Option Addr} {xs : List STok} (h : Kd.C k35 w A xs.length xs) (k : Nat) (hk : k < xs.length) : ∃ ad, A = some ad := by
  obtain ⟨ad, e, _⟩ := at_T35 h (k : Int) (by omega) (by omega)
  exact ⟨ad, e⟩
theorem C_cells {w W : World} {ad : Addr} {xs : List STok} (h : Kd.C k35 w (some ad) xs.length xs) (hb : Below w.heap.size w W) (k : Nat) (hk : k < xs.length) (y : STok) (hy : xs.getD k zT = y) :
    W.cell? (ad.add (k * 3)) = some (.int .i64 y.f0) ∧ W.cell? ⟨(ad.add (k * 3)).block, (ad.add (k * 3)).off + 1, none⟩ = some (.string y.f1) ∧ W.cell? ⟨(ad.add (k * 3)).block, (ad.add (k * 3)).off + 2, none⟩ = some (.int .i64 y.f2) := by
  obtain ⟨ad', e, c0, c1, c2⟩ := at_T35 (Kd.C_below h hb) (k : Int) (by omega) (by omega)
  cases e
  have hx : rd_T35 xs (k : Int) = y := by simpa [rd_T35, zT] using hy
  simp only [Int.toNat_natCast, hx] at c0 c1 c2
  exact ⟨c0, c1, c2⟩
theorem text_first (A : Option Addr) (c r : Nat) (xs : List STok) (w : World) (hC : Kd.C k35 w A xs.length xs) (hc : xs.length ≤ c) (hn : xs.length ≤ 65536) (hok : ∀ x ∈ xs, okT x) (hE : EnvW w)
    (h0 : firstS (xs.map toTok) = r) (hr : ((r : Int) != 0) = true) (hend : endAt xs = xs.length) :
    Calls Tryz.prog 14 #[.slice A xs.length c] w fun e w' => e = .returned (.tuple #[.string (B []), .int .i64 (r : Int)]) ∧ Below w.heap.size w w' := by
  obtain ⟨kf, hkf⟩ := (first_f xs (by omega) hok).rounds
  rw [h0] at hkf
  replace hkf := hide hkf
  replace hC := hide hC
  have hid : idxEnd xs = -1 := by unfold idxEnd; rw [if_neg (by omega)]
  have hidx := IdxTok_calls A c xs w hC.out hn
  rw [hid] at hidx
  replace hidx := hide hidx
  clear hid h0 hend hok
  go_enter Tryz.func14, Tryz.ntmps14
  go_wp2_with (first | (go_at_call 24; refine hidx.out.mono ?_; rintro e w1 ⟨rfl, hb1⟩; have HB1 := hide hb1; clear hb1) | (go_at_call 26; refine (tokens_first.calls kf A c xs r _ (by exact Kd.C_below hC.out HB1.out) hc (by exact hE.below HB1.out) hkf.out).mono ?_; rintro e w2 ⟨rfl, hb2⟩; have HB2 := hide (HB1.out.trans (hb2.mono HB1.out.size)); clear hb2))
  go_ret2
  exact ⟨rfl, HB2.out⟩
theorem text_wrong (ad : Addr) (c r f : Nat) (xs zs : List STok) (y : STok) (e : Nat) (w : World) (hC : Kd.C k35 w (some ad) xs.length xs) (hc : xs.length ≤ c) (hn : xs.length ≤ 65536) (hok : ∀ x ∈ xs, okT x) (hE : EnvW w)
    (he : endAt xs = e) (hlt : e < xs.length) (hy : xs.getD e zT = y) (hz : zs = xs.take (e + 1)) (hck : TkC.Check.f y.f0 y.f1 y.f2 = some (r : Int)) (hr : ((r : Int) != 0) = true) (hf : firstS (zs.map toTok) = f) :
    Calls Tryz.prog 14 #[.slice (some ad) xs.length c] w fun e w' => e = .returned (.tuple #[.string (B []), .int .i64 (f : Int)]) ∧ Below w.heap.size w w' := by
  have hzl : zs.length = e + 1 := by rw [hz, List.length_take]; omega
  have hzok : ∀ x ∈ zs, okT x := fun x hx => hok x (by rw [hz] at hx; exact List.mem_of_mem_take hx)
  obtain ⟨kf, hkf⟩ := (first_f zs (by omega) hzok).rounds
  rw [hf] at hkf
  replace hkf := hide hkf
  have hCz := C_take hC (e + 1) (by omega)
  rw [← hz, hzl] at hCz
  have hid : idxEnd xs = (e : Int) := by unfold idxEnd; rw [if_pos (by omega), he]
  have hidx := IdxTok_calls (some ad) c xs w hC hn
  rw [hid] at hidx
  replace hidx := hide hidx
  have hcells := hide (fun W (hb : Below w.heap.size w W) => C_cells hC hb e hlt y hy)
  replace hC := hide hC
  have hfc := hide (fun W (hb : Below w.heap.size w W) => by have := tokens_first.calls kf (some ad) c zs f W (by rw [hzl]; exact Kd.C_below hCz hb) (by omega) (hE.below hb) hkf.out; rwa [hzl] at this)
  replace hck := hide hck
  clear hid hf hok hzok hz he hy hCz hzl hkf
  go_enter Tryz.func14, Tryz.ntmps14
  go_wp2_with (first | (go_at_call 24; refine hidx.out.mono ?_; rintro e w1 ⟨rfl, hb1⟩; have HB1 := hide hb1; clear hb1; obtain ⟨q0, q1, q2⟩ := hcells.out _ HB1.out) | (go_at_call 16; refine (TkC.Check.calls y.f0 y.f1 y.f2 r _ (by exact hE.below HB1.out) hck.out).mono ?_; rintro e w3 ⟨rfl, hb3⟩; have HB3 := hide (HB1.out.trans (hb3.mono HB1.out.size)); clear hb3) | (go_at_call 26; refine (hfc.out _ HB3.out).mono ?_; rintro e w2 ⟨rfl, hb2⟩; have HB2 := hide (HB3.out.trans (hb2.mono HB3.out.size)); clear hb2))
  go_ret2
  exact ⟨rfl, HB2.out⟩
theorem text_end_first (ad : Addr) (c f : Nat) (xs ys : List STok) (y : STok) (w : World) (hC : Kd.C k35 w (some ad) xs.length xs) (hc : xs.length ≤ c) (hn : xs.length ≤ 65536) (hok : ∀ x ∈ xs, okT x) (hE : EnvW w)
    (hyl : ys.length = endAt xs) (hlt : ys.length < xs.length) (hy : xs.getD ys.length zT = y) (hz : ys = xs.take ys.length) (hck : TkC.Check.f y.f0 y.f1 y.f2 = some 0) (hf : firstS (ys.map toTok) = f) (hfr : ((f : Int) != 0) = true) :
    Calls Tryz.prog 14 #[.slice (some ad) xs.length c] w fun e w' => e = .returned (.tuple #[.string (B []), .int .i64 (f : Int)]) ∧ Below w.heap.size w w' := by
  have hzok : ∀ x ∈ ys, okT x := fun x hx => hok x (by rw [hz] at hx; exact List.mem_of_mem_take hx)
  obtain ⟨kf, hkf⟩ := (first_f ys (by omega) hzok).rounds
  rw [hf] at hkf
  replace hkf := hide hkf
  have hCz := C_take hC ys.length (by omega)
  rw [← hz] at hCz
  have hid : idxEnd xs = (ys.length : Int) := by unfold idxEnd; rw [if_pos (by omega), hyl]
  have hidx := IdxTok_calls (some ad) c xs w hC hn
  rw [hid] at hidx
  replace hidx := hide hidx
  have hcells := hide (fun W (hb : Below w.heap.size w W) => C_cells hC hb ys.length hlt y hy)
  replace hC := hide hC
  replace hCz := hide hCz
  replace hck := hide hck
  have hcy : ys.length ≤ c := by omega
  clear hid hf hok hzok hz hyl hy
  go_enter Tryz.func14, Tryz.ntmps14
  go_wp2_with (first | (go_at_call 24; refine hidx.out.mono ?_; rintro e w1 ⟨rfl, hb1⟩; have HB1 := hide hb1; clear hb1; obtain ⟨q0, q1, q2⟩ := hcells.out _ HB1.out) | (go_at_call 16; refine (TkC.Check.calls y.f0 y.f1 y.f2 0 _ (by exact hE.below HB1.out) hck.out).mono ?_; rintro e w3 ⟨rfl, hb3⟩; have HB3 := hide (HB1.out.trans (hb3.mono HB1.out.size)); clear hb3) | (go_at_call 26; refine (tokens_first.calls kf (some ad) c ys f _ (by exact Kd.C_below hCz.out HB3.out) hcy (by exact hE.below HB3.out) hkf.out).mono ?_; rintro e w2 ⟨rfl, hb2⟩; have HB2 := hide (HB3.out.trans (hb2.mono HB3.out.size)); clear hb2))
  go_ret2
  exact ⟨rfl, HB2.out⟩
theorem text_end_loop (ad0 : Addr) (c : Nat) (xs ys : List STok) (y0 : STok) (R : Option Bs) (w : World) (hCx : Kd.C k35 w (some ad0) xs.length xs) (hcx : xs.length ≤ c) (hnx : xs.length ≤ 65536) (hokx : ∀ x ∈ xs, okT x) (h6 : ∀ x ∈ ys, x.f0 = 6 → x.f1.size ≠ 0) (hE : EnvW w)
    (hyl0 : ys.length = endAt xs) (hlt0 : ys.length < xs.length) (hy0 : xs.getD ys.length zT = y0) (hz : ys = xs.take ys.length) (hck : TkC.Check.f y0.f0 y0.f1 y0.f2 = some 0) (hf : firstS (ys.map toTok) = 0) (hR : textR none (ys.map toTok) [] = R) :
    Calls Tryz.prog 14 #[.slice (some ad0) xs.length c] w fun e w' => e = .returned (.tuple #[.string (B (txOut R).1), .int .i64 ((txOut R).2 : Int)]) ∧ Below w.heap.size w w' := by
  have hok : ∀ x ∈ ys, okT x := fun x hx => hokx x (by rw [hz] at hx; exact List.mem_of_mem_take hx)
  obtain ⟨kf, hkf⟩ := (first_f ys (by omega) hok).rounds
  rw [hf] at hkf
  replace hkf := hide hkf
  have hC := C_take hCx ys.length (by omega)
  rw [← hz] at hC
  have hid : idxEnd xs = (ys.length : Int) := by unfold idxEnd; rw [if_pos (by omega), hyl0]
  have hidx := IdxTok_calls (some ad0) c xs w hCx hnx
  rw [hid] at hidx
  replace hidx := hide hidx
  have hcells := hide (fun W (hb : Below w.heap.size w W) => C_cells hCx hb ys.length hlt0 y0 hy0)
  replace hCx := hide hCx
  replace hC := hide hC
  replace hck := hide hck
  have hc : ys.length ≤ c := by omega
  have hn : ys.length ≤ 65536 := by omega
  replace hR := hide hR
  replace hok := hide hok
  replace h6 := hide h6
  clear hid hf hokx hz hyl0 hy0
  go_enter Tryz.func14, Tryz.ntmps14
  go_wp2_with (first | (go_at_call 24; refine hidx.out.mono ?_; rintro e w1 ⟨rfl, hb1⟩; have HB1 := hide hb1; clear hb1; obtain ⟨q0, q1, q2⟩ := hcells.out _ HB1.out) | (go_at_call 16; refine (TkC.Check.calls y0.f0 y0.f1 y0.f2 0 _ (by exact hE.below HB1.out) hck.out).mono ?_; rintro e w3 ⟨rfl, hb3⟩; have HB3 := hide (HB1.out.trans (hb3.mono HB1.out.size)); clear hb3) | (go_at_call 26; refine (tokens_first.calls kf (some ad0) c ys 0 _ (by exact Kd.C_below hC.out HB3.out) hc (by exact hE.below HB3.out) hkf.out).mono ?_; rintro e w2 ⟨rfl, hb2⟩; have HB2 := hide (HB3.out.trans (hb2.mono HB3.out.size)); clear hb2))
  generalize hbb : w2.heap.size = b
  refine code_forget (fun W => TxSt w W b []) (by
    subst hbb
    have e1 : (w2.alloc (.cells #[.pointer none, .slice none 0 0] 55)).heap.size = w2.heap.size + 1 := Array.size_push ..
    exact ⟨⟨_, _, .inl rfl, Blk.new w2 _ _, OwnB.nil _ _, by omega⟩, HB2.out.alloc HB2.out.size _, HB2.out.size, by omega⟩) ?_
  clear q0 q1 q2 HB1 HB2 HB3 hidx hkf hcells hck hCx
  obtain ⟨A, hA⟩ : ∃ A, A = some ad0 := ⟨_, rfl⟩
  rw [← hA] at hC ⊢
  clear hA
  intro W HS
  replace HS := hide HS
  go_loopw [38] (fun v wr => ∃ (k : Nat) (out : Bs), k ≤ ys.length ∧ v = .int .i64 (k : Int) ∧ TxSt w wr b out ∧ out.length ≤ k * 200000 ∧ Hid (textR (prevT ys k) ((ys.drop k).map toTok) out = R)) (fun v _ => ys.length - (intOf v).toNat)
  case atStart => exact ⟨0, [], Nat.zero_le _, rfl, HS.out, by simp, by rw [← hR.out]; exact hide rfl⟩
  case round =>
    clear HS
    obtain ⟨k, out, hk, rfl, HS, hol, hinv⟩ := hrel
    replace HS := hide HS
    by_cases hlt : k < ys.length
    · obtain ⟨wo, rfl⟩ : ∃ wo : World, wo = wr := ⟨_, rfl⟩
      have hCo := hide (Kd.C_below hC.out HS.out.g)
      obtain ⟨ad, rfl, c0, c1, c2⟩ := at_T35 hCo.out (k : Int) (by omega) (by omega)
      have hx : rd_T35 ys (k : Int) = ys.getD k zT := by simp [rd_T35, zT]
      simp only [Int.toNat_natCast, hx] at c0 c1 c2
      clear hx
      obtain ⟨y, hy⟩ : ∃ y, y = ys.getD k zT := ⟨_, rfl⟩
      rw [← hy] at c0 c1 c2
      have hym : y ∈ ys := by rw [hy, List.getD_eq_getElem?_getD, List.getElem?_eq_getElem hlt]; exact List.getElem_mem hlt
      have hyok := hide (hok.out y hym)
      have hwr := hide (written_f y (hok.out y hym) (h6.out y hym))
      clear hym
      have hst := hide (text_step ys k hlt y hy out)
      replace hy := hide hy
      go_upto_region 14 with fail
      refine code_forget (fun W => TxSt w W b out ∧ Blk W wo.heap.size 35 (tokX y)) (by exact ⟨HS.out.kept (World.grownBy_alloc _ _ none), Blk.new _ _ _⟩) ?_
      clear c0 c1 c2 hCo HS
      generalize hT : wo.heap.size = T
      intro W1 H1
      replace H1 := hide H1
      have hCo := hide (Kd.C_below hC.out H1.out.1.g)
      go_cut [10] (fun s10 wx => s10 = .bool (foB ys k) ∧ TxSt w wx b out ∧ Blk wx T 35 (tokX y))
      case first =>
        by_cases k0 : 0 < k
        · obtain ⟨ad', e', p0, p1, p2⟩ := at_T35 hCo.out ((k : Int) - 1) (by omega) (by omega)
          cases e'
          have hx : rd_T35 ys ((k : Int) - 1) = ys.getD (k - 1) zT := by unfold rd_T35; rw [show ((k : Int) - 1).toNat = k - 1 by omega]
          have e3 : ((k : Int) - 1).toNat = k - 1 := by omega
          rw [hx, e3] at p0 p1 p2
          have hf := hide (show foB ys k = ((ys.getD (k - 1) zT).f0 == 1 || (ys.getD (k - 1) zT).f0 == 2) by simp [foB, k0])
          generalize ys.getD (k - 1) zT = q at p0 p1 p2 hf
          clear hx
          have hk0 : (0 : Int) < (k : Int) := by omega
          go_wp2
          all_goals
            go_meet
            case rel => exact ⟨congrArg Value.bool (by first | (rw [hf.out]; done) | (rw [hf.out]; simp [*])), H1.out.1, H1.out.2⟩
        · have hf := hide (show foB ys k = false by simp [foB, k0])
          have hk0 : ¬ (0 : Int) < (k : Int) := by omega
          go_wp2
          go_meet
          case rel => exact ⟨congrArg Value.bool (by rw [hf.out]), H1.out.1, H1.out.2⟩
      case rest =>
        obtain ⟨rfl, HS, HT⟩ := hcut
        clear H1 hCo
        have H1 := hide (And.intro HS HT)
        clear HS HT
        have hCo := hide (Kd.C_below hC.out H1.out.1.g)
        generalize hfo : foB ys k = fo at hst ⊢
        replace hfo := hide hfo
        go_upto_region 15 with fail
        go_cut [11] (fun s11 wx => s11 = .bool (vaB ys k) ∧ TxSt w wx b out ∧ Blk wx T 35 (tokX y))
        case first =>
          by_cases k0 : k + 1 < ys.length
          · obtain ⟨ad', e', p0, p1, p2⟩ := at_T35 hCo.out ((k : Int) + 1) (by omega) (by omega)
            cases e'
            have e3 : ((k : Int) + 1).toNat = k + 1 := by omega
            have hx : rd_T35 ys ((k : Int) + 1) = ys.getD (k + 1) zT := by unfold rd_T35; rw [e3]
            rw [hx, e3] at p0 p1 p2
            have hf := hide (show vaB ys k = ((ys.getD (k + 1) zT).f0 == 2) by simp [vaB, k0])
            generalize ys.getD (k + 1) zT = q at p0 p1 p2 hf
            clear hx
            have hk0 : (k : Int) + 1 < (ys.length : Int) := by omega
            go_wp2
            all_goals
              go_meet
              case rel => exact ⟨congrArg Value.bool (by rw [hf.out]), H1.out.1, H1.out.2⟩
          · have hf := hide (show vaB ys k = false by simp [vaB, k0])
            have hk0 : ¬ (k : Int) + 1 < (ys.length : Int) := by omega
            go_wp2
            go_meet
            case rel => exact ⟨congrArg Value.bool (by rw [hf.out]), H1.out.1, H1.out.2⟩
        case rest =>
          obtain ⟨rfl, HS, HT⟩ := hcut
          clear H1 hCo
          have t0 : wc.cell? ⟨T, 0, none⟩ = some (.int .i64 y.f0) := HT.cell 0
          have t1 : wc.cell? ⟨T, 1, none⟩ = some (.string y.f1) := HT.cell 1
          have t2 : wc.cell? ⟨T, 2, none⟩ = some (.int .i64 y.f2) := HT.cell 2
          have H1 := hide (And.intro HS HT)
          clear HS HT
          generalize hva : vaB ys k = va at hst ⊢
          replace hva := hide hva
          go_upto_region 16 with fail
          go_cut [10, 11, 102] (fun s10 s11 s wx => s10 = .bool fo ∧ s11 = .bool va ∧ s = .bool (badB fo va y) ∧ TxSt w wx b out ∧ Blk wx T 35 (tokX y))
          case first =>
            go_wp2
            all_goals
              go_meet
              case rel => exact ⟨by simp [*], by simp [*], congrArg Value.bool (by unfold badB; simp [*]), H1.out.1, H1.out.2⟩
          case rest =>
            obtain ⟨rfl, rfl, rfl, HS, HT⟩ := hcut
            clear H1 t0 t1 t2
            have t0 : wc.cell? ⟨T, 0, none⟩ = some (.int .i64 y.f0) := HT.cell 0
            have t1 : wc.cell? ⟨T, 1, none⟩ = some (.string y.f1) := HT.cell 1
            have t2 : wc.cell? ⟨T, 2, none⟩ = some (.int .i64 y.f2) := HT.cell 2
            have H1 := hide (And.intro HS HT)
            clear HS HT
            cases hbad : badB fo va y with
            | true =>
              have hR2 := hide (show R = none by rw [← hinv.out, hst.out, hbad]; rfl)
              go_wp2
              go_ret2
              exact ⟨by rw [hR2.out]; rfl, H1.out.1.g⟩
            | false =>
              have hR2 := hide (show textR (prevT ys (k + 1)) ((ys.drop (k + 1)).map toTok) (out ++ piece (gapB ys k y) (rawB va y) y) = R by rw [← hinv.out, hst.out, hbad]; simp)
              clear hbad hst hinv
              go_upto_region 18 with fail
              obtain ⟨gap, hgap⟩ : ∃ g, g = gapB ys k y := ⟨_, rfl⟩
              rw [← hgap] at hR2
              replace hgap := hide hgap
              have hCo := hide (Kd.C_below hC.out H1.out.1.g)
              go_cut [11, 138] (fun s11 s wx => s11 = .bool va ∧ s = .bool gap ∧ TxSt w wx b out ∧ Blk wx T 35 (tokX y))
              case first =>
                by_cases k0 : 0 < k
                · obtain ⟨ad', e', p0, p1, p2⟩ := at_T35 hCo.out ((k : Int) - 1) (by omega) (by omega)
                  cases e'
                  have hx : rd_T35 ys ((k : Int) - 1) = ys.getD (k - 1) zT := by unfold rd_T35; rw [show ((k : Int) - 1).toNat = k - 1 by omega]
                  have e3 : ((k : Int) - 1).toNat = k - 1 := by omega
                  rw [hx, e3] at p0 p1 p2
                  have hf := hide (show gapB ys k y = ((ys.getD (k - 1) zT).f0 != 7 && !(y.f0 == 6 && y.f1.toList == [40, 40]) && !(y.f0 == 2 && stateS (toTok (ys.getD (k - 1) zT)))) by simp [gapB, k0])
                  generalize ys.getD (k - 1) zT = q at p0 p1 p2 hf
                  clear hx
                  have hk0 : (0 : Int) < (k : Int) := by omega
                  obtain ⟨sq, hsq⟩ : ∃ s, s = stateS (toTok q) := ⟨_, rfl⟩
                  have hsf := state_f q
                  rw [← hsq] at hf hsf
                  replace hsf := hide hsf
                  clear hsq
                  go_wp2_with (first | (go_at_call 27; refine (tokens_state.calls q.f0 q.f1 q.f2 _ _ hsf.out).mono ?_; rintro e w5 ⟨rfl, hb5⟩; have H5 := hide (And.intro (H1.out.1.below hb5) (H1.out.2.kept (below_gb hb5 none)))))
                  all_goals
                    go_meet
                    case rel => exact ⟨by simp [*], congrArg Value.bool (by rw [hgap.out, hf.out];  cases a6 : (y.f0 == 6) <;> cases a40 : (y.f1.toList == [40, 40]) <;> cases a2 : (y.f0 == 2) <;> cases sq <;> simp_all), by first | exact H5.out.1 | exact H1.out.1, by first | exact H5.out.2 | exact H1.out.2⟩
                · have hf := hide (show gapB ys k y = false by simp [gapB, k0])
                  have hk0 : ¬ (0 : Int) < (k : Int) := by omega
                  go_wp2
                  go_meet
                  case rel => exact ⟨by simp [*], congrArg Value.bool (by rw [hgap.out, hf.out]), H1.out.1, H1.out.2⟩
              case rest =>
                obtain ⟨rfl, rfl, HS, HT⟩ := hcut
                clear H1 hCo t0 t1 t2
                have H1 := hide (And.intro HS HT)
                clear HS HT
                have hsz := H1.out.1.sz
                go_upto_if 138 with fail
                go_cut [11] (fun s11 wx => s11 = .bool va ∧ TxSt w wx b (out ++ (if gap then [32] else [])) ∧ Blk wx T 35 (tokX y))
                case first =>
                  cases hg : gap with
                  | true =>
                    go_wp2_with (first | (go_at_call 28; refine (writeByte_own2 b (b + 1) out 32 _ (by exact H1.out.1.bld) (by omega) hsz).mono ?_; rintro e w5 ⟨rfl, hb5, hk5, ho5, ht5, hp5, hs5, hke5⟩; have H5 := hide (And.intro (H1.out.1.step hb5 hk5 ho5 ht5 hp5 hs5) (hke5 _ _ _ H1.out.2 (H1.out.1.ne H1.out.2 (by decide)) (by decide)))))
                    go_meet
                    case rel => exact ⟨rfl, by rw [hg]; exact H5.out.1, H5.out.2⟩
                  | false =>
                    go_wp2
                    go_meet
                    case rel => exact ⟨rfl, by rw [hg]; simpa using H1.out.1, H1.out.2⟩
                case rest =>
                  obtain ⟨rfl, HS, HT⟩ := hcut
                  clear H1 hsz
                  have t0 : wc.cell? ⟨T, 0, none⟩ = some (.int .i64 y.f0) := HT.cell 0
                  have t1 : wc.cell? ⟨T, 1, none⟩ = some (.string y.f1) := HT.cell 1
                  have t2 : wc.cell? ⟨T, 2, none⟩ = some (.int .i64 y.f2) := HT.cell 2
                  have H1 := hide (And.intro HS HT)
                  clear HS HT
                  obtain ⟨sy, hsy⟩ : ∃ s, s = stateS (toTok y) := ⟨_, rfl⟩
                  have hsf := state_f y
                  rw [← hsy] at hsf
                  replace hsf := hide hsf
                  have hraw := hide (show rawB va y = (sy && va) by rw [hsy]; rfl)
                  clear hsy
                  go_upto_region 20 with fail
                  go_cut [11, 144] (fun s11 s wx => s11 = .bool va ∧ s = .bool (sy && va) ∧ TxSt w wx b (out ++ (if gap then [32] else [])) ∧ Blk wx T 35 (tokX y))
                  case first =>
                    go_wp2_with (first | (go_at_call 27; refine (tokens_state.calls y.f0 y.f1 y.f2 _ _ hsf.out).mono ?_; rintro e w5 ⟨rfl, hb5⟩; have H5 := hide (And.intro (H1.out.1.below hb5) (H1.out.2.kept (below_gb hb5 none)))))
                    all_goals
                      go_meet
                      case rel => exact ⟨by simp [*], congrArg Value.bool (by simp [*]), H5.out.1, H5.out.2⟩
                  case rest =>
                    obtain ⟨rfl, rfl, HS, HT⟩ := hcut
                    clear H1 t0 t1 t2
                    have t0 : wc.cell? ⟨T, 0, none⟩ = some (.int .i64 y.f0) := HT.cell 0
                    have t1 : wc.cell? ⟨T, 1, none⟩ = some (.string y.f1) := HT.cell 1
                    have t2 : wc.cell? ⟨T, 2, none⟩ = some (.int .i64 y.f2) := HT.cell 2
                    have H1 := hide (And.intro HS HT)
                    clear HS HT
                    have hsz := H1.out.1.sz
                    have hgl : (out ++ (if gap then ([32] : Bs) else [])).length ≤ out.length + 1 := by cases gap <;> simp
                    have hyl : y.f1.data.toList.length ≤ 65536 := hyok.out.2
                    have hwl := written_len y.f0 y.f1.data.toList
                    have hfin := hide (show textR (prevT ys (k + 1)) ((ys.drop (k + 1)).map toTok) ((out ++ (if gap then [32] else [])) ++ (if (sy && va) then y.f1.data.toList else writtenS y.f0 y.f1.data.toList) ++ (if y.f0 == 7 then [10] else [])) = R by rw [← hR2.out, ← hraw.out]; unfold piece; simp only [List.append_assoc])
                    have hol2 : ((out ++ (if gap then [32] else [])) ++ (if (sy && va) then y.f1.data.toList else writtenS y.f0 y.f1.data.toList) ++ (if y.f0 == 7 then ([10] : Bs) else [])).length ≤ (k + 1) * 200000 := by
                      cases gap <;> cases (sy && va) <;> cases (y.f0 == 7) <;> simp only [Bool.false_eq_true, if_true, if_false, List.length_append, List.length_cons, List.length_nil] <;> omega
                    generalize (out ++ (if gap then ([32] : Bs) else [])) = o1 at H1 hgl hfin hol2 ⊢
                    clear hR2 hraw hgap
                    have hB1 : B y.f1.data.toList = y.f1 := B_of _
                    have hws : ∀ W W2, Calls Tryz.prog 29 #[.pointer (some ⟨b, 0, none⟩), .string (B y.f1.data.toList)] W W2 → Calls Tryz.prog 29 #[.pointer (some ⟨b, 0, none⟩), .string y.f1] W W2 := by intro W W2 h; rwa [B_of] at h
                    replace hws := hide hws
                    clear hB1
                    go_upto_if 144 with fail
                    go_cut [11] (fun s11 wx => s11 = .bool va ∧ TxSt w wx b (o1 ++ (if (sy && va) then y.f1.data.toList else writtenS y.f0 y.f1.data.toList)) ∧ Blk wx T 35 (tokX y))
                    case first =>
                      cases hg : (sy && va) with
                      | true =>
                        go_wp2_with (first | (go_at_call 29; refine (hws.out _ _ (writeString_own2 b (b + 1) o1 y.f1.data.toList _ (by exact H1.out.1.bld) (by omega) hsz)).mono ?_; rintro e w5 ⟨rfl, hb5, hk5, ho5, ht5, hp5, hs5, hke5⟩; have H5 := hide (And.intro (H1.out.1.step hb5 hk5 ho5 ht5 hp5 hs5) (hke5 _ _ _ H1.out.2 (H1.out.1.ne H1.out.2 (by decide)) (by decide)))))
                        go_meet
                        case rel => exact ⟨rfl, by rw [hg]; exact H5.out.1, H5.out.2⟩
                      | false =>
                        go_wp2_with (first | (go_at_call 30; refine (tokens_written.calls y.f0 y.f1 y.f2 _ _ (by exact hE.below H1.out.1.g) hwr.out).mono ?_; rintro e w4 ⟨rfl, hb4⟩; have H4 := hide (And.intro (H1.out.1.below hb4) (H1.out.2.kept (below_gb hb4 none))); have hsz4 := H4.out.1.sz) | (go_at_call 29; refine (writeString_own2 b (b + 1) o1 (writtenS y.f0 y.f1.data.toList) _ (by exact H4.out.1.bld) (by omega) hsz4).mono ?_; rintro e w5 ⟨rfl, hb5, hk5, ho5, ht5, hp5, hs5, hke5⟩; have H5 := hide (And.intro (H4.out.1.step hb5 hk5 ho5 ht5 hp5 hs5) (hke5 _ _ _ H4.out.2 (H4.out.1.ne H4.out.2 (by decide)) (by decide)))))
                        go_meet
                        case rel => exact ⟨rfl, by rw [hg]; exact H5.out.1, H5.out.2⟩
                    case rest =>
                      obtain ⟨rfl, HS, HT⟩ := hcut
                      clear H1 hsz t0 t1 t2
                      have t0 : wc.cell? ⟨T, 0, none⟩ = some (.int .i64 y.f0) := HT.cell 0
                      have hsz := HS.sz
                      have H1 := hide (And.intro HS HT)
                      clear HS HT
                      have hol3 : (o1 ++ (if (sy && va) then y.f1.data.toList else writtenS y.f0 y.f1.data.toList)).length ≤ o1.length + 200000 := by
                        cases (sy && va) <;> simp only [Bool.false_eq_true, if_true, if_false, List.length_append] <;> omega
                      have hol4 : o1.length ≤ 65537 * 200000 := by omega
                      generalize (o1 ++ (if (sy && va) then y.f1.data.toList else writtenS y.f0 y.f1.data.toList)) = o2 at H1 hfin hol2 hol3 ⊢
                      cases h7 : (y.f0 == 7) with
                      | true =>
                        rw [h7] at hfin hol2
                        go_wp2_with (first | (go_at_call 28; refine (writeByte_own2 b (b + 1) o2 10 _ (by exact H1.out.1.bld) (by omega) hsz).mono ?_; rintro e w5 ⟨rfl, hb5, hk5, ho5, ht5, hp5, hs5, hke5⟩; have H5 := hide (H1.out.1.step hb5 hk5 ho5 ht5 hp5 hs5)))
                        go_roundw
                        case rel => exact ⟨k + 1, _, by omega, by go_num, H5.out, by simpa using hol2, by simpa using hfin⟩
                        case measure => simp [intOf]; omega
                      | false =>
                        rw [h7] at hfin hol2
                        go_wp2
                        go_roundw
                        case rel => exact ⟨k + 1, _, by omega, by go_num, H1.out.1, by simpa using hol2, by simpa using hfin⟩
                        case measure => simp [intOf]; omega
    · have hkk : k = ys.length := by omega
      subst hkk
      have hR2 := hide (show some out = R by rw [← hinv.out]; simp [textR])
      have hsz := HS.out.sz
      go_wp2_with (first | (go_at_call 31; refine (len_own b (b + 1) out _ (by exact HS.out.bld)).mono ?_; rintro e w5 ⟨rfl, rfl⟩) | (go_at_call 32; refine (string_own b (b + 1) out _ (by exact HS.out.bld)).mono ?_; rintro e w6 ⟨rfl, hb6⟩))
      · go_ret2
        have : 65536 < out.length := by omega
        exact ⟨by rw [← hR2.out]; simp [txOut, this]; rfl, HS.out.g⟩
      · go_ret2
        have : ¬ 65536 < out.length := by omega
        exact ⟨by rw [← hR2.out]; simp [txOut, this], HS.out.g.trans (hb6.mono HS.out.hb)⟩
theorem Text_calls (A : Option Addr) (c : Nat) (xs : List STok) (w : World) (hC : Kd.C k35 w A xs.length xs) (hc : xs.length ≤ c) (hn : xs.length ≤ 65536) (hok : ∀ x ∈ xs, okT x) (hE : EnvW w) :
    Calls Tryz.prog 14 #[.slice A xs.length c] w fun e w' => e = .returned (.tuple #[.string (B (textS (xs.map toTok)).1), .int .i64 ((textS (xs.map toTok)).2 : Int)]) ∧ Below w.heap.size w w' := by
  have hle := endAt_le xs
  have hbt := before_take xs
  have hec := endCheck_at xs
  have h6 : ∀ l : List STok, firstS (l.map toTok) = 0 → ∀ x ∈ l, x.f0 = 6 → x.f1.size ≠ 0 := by
    intro l hl x hx hk hs
    have := firstS_all _ hl (toTok x) (List.mem_map_of_mem hx)
    have hk2 : (toTok x).kind = 6 := hk
    rw [hk2] at this
    exact check6_ne this (List.eq_nil_of_length_eq_zero hs)
  have hT : textS (xs.map toTok) = if firstS ((xs.take (endAt xs)).map toTok) ≠ 0 then ([], firstS ((xs.take (endAt xs)).map toTok)) else if endCheck (xs.map toTok) ≠ 0 then ([], endCheck (xs.map toTok)) else txOut (textR none ((xs.take (endAt xs)).map toTok) []) := by
    unfold textS
    rw [hbt]
    cases textR none ((xs.take (endAt xs)).map toTok) [] <;> rfl
  by_cases hlt : endAt xs < xs.length
  · rw [dif_pos hlt] at hec
    obtain ⟨ad, rfl⟩ := C_addr hC _ hlt
    have hg : xs.getD (endAt xs) zT = xs[endAt xs] := by simp [List.getD_eq_getElem?_getD, List.getElem?_eq_getElem hlt]
    have hck := Check_f xs[endAt xs] (hok _ (List.getElem_mem hlt))
    have hft := first_take xs hlt
    by_cases hr : endCheck (xs.map toTok) = 0
    · rw [← hec, hr] at hck
      have hyl : (xs.take (endAt xs)).length = endAt xs := by rw [List.length_take]; omega
      by_cases hf : firstS ((xs.take (endAt xs)).map toTok) = 0
      · rw [hT, if_neg (by simpa using hf), if_neg (by simpa using hr)]
        exact text_end_loop ad c xs (xs.take (endAt xs)) xs[endAt xs] _ w hC hc hn hok (h6 _ hf) hE hyl (by omega) (by rw [hyl]; exact hg) (by rw [hyl]) hck hf rfl
      · rw [hT, if_pos hf]
        exact text_end_first ad c _ xs (xs.take (endAt xs)) xs[endAt xs] w hC hc hn hok hE hyl (by omega) (by rw [hyl]; exact hg) (by rw [hyl]) hck rfl (ne_zero_int hf)
    · have hr2 : ((endCheck (xs.map toTok) : Int) != 0) = true := ne_zero_int hr
      rw [← hec] at hck hft
      have hw := text_wrong ad c (endCheck (xs.map toTok)) _ xs _ xs[endAt xs] (endAt xs) w hC hc hn hok hE rfl hlt hg rfl hck hr2 rfl
      rw [hft] at hw
      rw [hT]
      by_cases hf : firstS ((xs.take (endAt xs)).map toTok) = 0
      · rw [if_neg (by simpa using hf), if_pos hr]
        rw [if_neg (by simpa using hf)] at hw
        exact hw
      · rw [if_pos hf]
        rw [if_pos hf] at hw
        exact hw
  · have he : endAt xs = xs.length := by omega
    rw [dif_neg hlt] at hec
    have ht : xs.take (endAt xs) = xs := by rw [he, List.take_length]
    rw [ht] at hT
    by_cases hf : firstS (xs.map toTok) = 0
    · rw [hT, if_neg (by simpa using hf), if_neg (by simpa using hec)]
      exact text_loop A c xs _ w hC hc hn hok (h6 _ hf) hE rfl hf he
    · rw [hT, if_pos hf]
      exact text_first A c _ xs w hC hc hn hok hE rfl (ne_zero_int hf) he
end
end Go.Proofs.YtgeonilideojnaaGreatDoor.Tk
end
