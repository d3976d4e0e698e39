/- A part of a proof over the package's statements: contracts of functions and plain facts, merged by a program of this session's. -/
import Derived.Test.YtgeonilideojnaaGreatDoorRG1x1
import Derived.Test.YtgeonilideojnaaGreatDoorRG1x2
import Derived.Test.YtgeonilideojnaaGreatDoorRG1x3
import Derived.Test.YtgeonilideojnaaGreatDoorRG1x4
import Derived.Test.YtgeonilideojnaaGreatDoorRG1x5
import Derived.Test.YtgeonilideojnaaGreatDoorRG1x6
import Derived.Test.YtgeonilideojnaaGreatDoorRG1x9
import Derived.Test.YtgeonilideojnaaGreatDoorRG2x1
import Derived.Test.YtgeonilideojnaaGreatDoorRG1x10
import Derived.Test.YtgeonilideojnaaGreatDoorRG2x2
import Derived.Test.YtgeonilideojnaaGreatDoorRG2x3
import Derived.Test.YtgeonilideojnaaGreatDoorRG2x4
import Derived.Test.YtgeonilideojnaaGreatDoorRG2x5
import Derived.Test.YtgeonilideojnaaGreatDoorRG2x6
section
namespace Go.Proofs.YtgeonilideojnaaGreatDoor.Rs
open Go Go.RowKit Tk Go.Proofs.YtgeonilideojnaaGreatDoor.Pr Go.Proofs.YtgeonilideojnaaGreatDoorW.PrintWords Go.Proofs.YtgeonilideojnaaGreatDoor.Rf
set_option linter.unusedVariables false
set_option linter.unusedSimpArgs false
theorem RsPost.base {w W w' : World} {b : Nat} {l : Bs} {r : NR} {e : Ending} (hb : Below b w W) (h : RsPost W b l r e w') : RsPost w b l r e w' := by
  cases r with
  | ok i acc tx => exact ⟨h.1, h.2.1, hb.trans h.2.2⟩
  | bad a c => exact ⟨h.1, h.2.1, hb.trans h.2.2⟩
theorem post_ret {w W : World} {b : Nat} {l : Bs} {r : NR} {f : FuncId} {args : Array Value} (hb : Below b w W) (h : Calls Tryz.prog f args W (RsPost W b l r)) : Calls Tryz.prog f args W fun e w' => e = .returned (.tuple #[]) ∧ RsPost w b l r e w' :=
  h.mono fun e w' hp => ⟨hp.ret, hp.base hb⟩
section
set_option maxHeartbeats 4000000
set_option maxRecDepth 100000
theorem rnumber_char (b : Nat) (l : Bs) (i : Nat) (v : Value) (acc : List Tok) (tx : Nat) (w : World) (c : UInt8) (t : Bs) (hs : l.length ≤ 65536) (ha : acc.length ≤ 65536) (hd : l.drop i = c :: t) (h48 : c = 48) (h39 : pk l (i + 1) = 39) (h : Rs w b l i v acc tx 0 0) :
    Calls Tryz.prog 71 #[.pointer (some ⟨b, 0, none⟩)] w (RsPost w b l (charNR acc i (charS l i))) := by
  have hz := size_B l
  have h0 := h.c0
  have h1 := h.c1
  have hb := B_get hd
  obtain ⟨hl, -, -⟩ := drop_at hd
  have hm := hide (fun m => post_ret (below_drewN b w m) (rcharacter_calls b l i v acc tx (w.drewN m) hs (by omega) ha (h.drewN m)))
  have ew := wrap_sum i 1 (by omega)
  have e0 : (0 : Int) ≤ (i : Int) + 1 := by omega
  have e1 : ((i : Int) + 1).toNat = i + 1 := by omega
  have e48 := is_yes (n := 48) (d := 48) rfl h48
  have ep := is_yes (n := 39) (d := 39) rfl h39
  clear h hd h48 h39
  go_enter Tryz.func71, Tryz.ntmps71
  go_wp2_with fail
  go_quiet ((go_at_call 65; refine Calls.quiet_of_same ((rat_any b l _ _ hs (by omega) (by omega) (by exact h0)).mono fun _ _ h => ⟨h.1, h.2.symm⟩)))
  go_wp2_with (go_at_call 100; refine (hm.out _).mono ?_; rintro e w3 ⟨rfl, hp⟩; have hp := hide hp)
  go_end0
  exact hp.out
theorem rnext_form (b : Nat) (l : Bs) (i : Nat) (v : Value) (acc : List Tok) (tx : Nat) (w : World) (c : UInt8) (t : Bs) (hs : l.length ≤ 65536) (hd : l.drop i = c :: t) (ha : acc.length ≤ 65536) (h : Rs w b l i v acc tx 0 0) (fp : permitted c = false) :
    Calls Tryz.prog 23 #[.pointer (some ⟨b, 0, none⟩)] w (RsPost w b l (.bad i 2)) := by
  have hz := size_B l
  have h0 := h.c0
  have h1 := h.c1
  have r1 := h.fr 1
  have hb := B_get hd
  obtain ⟨hl, -, -⟩ := drop_at hd
  obtain ⟨R, hR⟩ : ∃ R, R = RsPost w b l (.bad i 2) := ⟨_, rfl⟩
  rw [← hR]
  have HN : ∀ m, Rs (w.drewN m) b l i v acc tx 0 0 ∧ Below b w (w.drewN m) := fun m => ⟨h.drewN m, below_drewN b w m⟩
  have hm := hide (fun m => fail_ret 2 i hR (HN m).1 (HN m).2)
  replace hR := hide hR
  replace HN := hide HN
  clear h hd
  go_enter Tryz.func23, Tryz.ntmps23
  go_wp2
  go_quiet (fail)
  go_wp2_with (first | (go_at_call 62; refine (rByte_calls _ _).mono ?_; rintro e w1 ⟨rfl, ⟨n1, rfl⟩⟩) | (go_at_call 64; refine (rblank_calls _ _).mono ?_; rintro e w1 ⟨rfl, rfl⟩) | (go_at_call 65; refine (rat_any b l _ _ hs (by omega) (by omega) (by exact h0)).mono ?_; rintro e w1 ⟨rfl, rfl⟩) | (go_at_call 67; refine (rsmall_calls _ _).mono ?_; rintro e w1 ⟨rfl, ⟨n1, rfl⟩⟩) | (go_at_call 39; refine (rcapital_calls _ _).mono ?_; rintro e w1 ⟨rfl, ⟨n1, rfl⟩⟩) | (go_at_call 41; refine (rdigit_calls _ _).mono ?_; rintro e w1 ⟨rfl, ⟨n1, rfl⟩⟩) | (go_at_call 73; refine (rsign_calls _ _).mono ?_; rintro e w1 ⟨rfl, ⟨n1, rfl⟩⟩) | (go_at_call 63; refine (hm.out _).mono ?_; rintro e w3 ⟨rfl, hp⟩; have hp := hide hp))
  go_end0
  exact hp.out
theorem rnext_blank (b : Nat) (l : Bs) (i : Nat) (v : Value) (acc : List Tok) (tx : Nat) (w : World) (c : UInt8) (t : Bs) (hs : l.length ≤ 65536) (hd : l.drop i = c :: t) (ha : acc.length ≤ 65536) (h : Rs w b l i v acc tx 0 0) (fp : permitted c = true) (fb : Tk.blank c = true) :
    Calls Tryz.prog 23 #[.pointer (some ⟨b, 0, none⟩)] w (RsPost w b l (.ok (i + 1) acc tx)) := by
  have hz := size_B l
  have h0 := h.c0
  have h1 := h.c1
  have r1 := h.fr 1
  have hb := B_get hd
  obtain ⟨hl, -, -⟩ := drop_at hd
  obtain ⟨R, hR⟩ : ∃ R, R = RsPost w b l (.ok (i + 1) acc tx) := ⟨_, rfl⟩
  rw [← hR]
  have HN : ∀ m, Rs (w.drewN m) b l i v acc tx 0 0 ∧ Below b w (w.drewN m) := fun m => ⟨h.drewN m, below_drewN b w m⟩
  replace hR := hide hR
  replace HN := hide HN
  clear h hd
  go_enter Tryz.func23, Tryz.ntmps23
  go_wp2
  go_quiet (fail)
  go_wp2_with (first | (go_at_call 62; refine (rByte_calls _ _).mono ?_; rintro e w1 ⟨rfl, ⟨n1, rfl⟩⟩) | (go_at_call 64; refine (rblank_calls _ _).mono ?_; rintro e w1 ⟨rfl, rfl⟩) | (go_at_call 65; refine (rat_any b l _ _ hs (by omega) (by omega) (by exact h0)).mono ?_; rintro e w1 ⟨rfl, rfl⟩) | (go_at_call 67; refine (rsmall_calls _ _).mono ?_; rintro e w1 ⟨rfl, ⟨n1, rfl⟩⟩) | (go_at_call 39; refine (rcapital_calls _ _).mono ?_; rintro e w1 ⟨rfl, ⟨n1, rfl⟩⟩) | (go_at_call 41; refine (rdigit_calls _ _).mono ?_; rintro e w1 ⟨rfl, ⟨n1, rfl⟩⟩) | (go_at_call 73; refine (rsign_calls _ _).mono ?_; rintro e w1 ⟨rfl, ⟨n1, rfl⟩⟩))
  go_end0
  rw [hR.out]
  exact ⟨rfl, ⟨v, (HN.out _).1.set 1 _ (i' := ((i + 1 : Nat) : Int)) (tx' := tx) (e' := 0) (bad' := 0) rfl⟩, below_set' (HN.out _).2 _⟩
theorem rnext_line (b : Nat) (l : Bs) (i : Nat) (v : Value) (acc : List Tok) (tx : Nat) (w : World) (c : UInt8) (t : Bs) (hs : l.length ≤ 65536) (hd : l.drop i = c :: t) (ha : acc.length ≤ 65536) (h : Rs w b l i v acc tx 0 0) (hd' : l.drop i = 37 :: t) (fp : permitted c = true) (fb : Tk.blank c = false) (f37 : ((c.toNat : Int) == 37) = true) :
    Calls Tryz.prog 23 #[.pointer (some ⟨b, 0, none⟩)] w (RsPost w b l (toNR acc tx (clineR (i + 1) (l.drop (i + 1))))) := by
  have hz := size_B l
  have h0 := h.c0
  have h1 := h.c1
  have r1 := h.fr 1
  have hb := B_get hd
  obtain ⟨hl, -, -⟩ := drop_at hd
  obtain ⟨R, hR⟩ : ∃ R, R = RsPost w b l (toNR acc tx (clineR (i + 1) (l.drop (i + 1)))) := ⟨_, rfl⟩
  rw [← hR]
  have HN : ∀ m, Rs (w.drewN m) b l i v acc tx 0 0 ∧ Below b w (w.drewN m) := fun m => ⟨h.drewN m, below_drewN b w m⟩
  have hm := hide (fun m => show Calls Tryz.prog 66 #[.pointer (some ⟨b, 0, none⟩)] (w.drewN m) (fun e w' => e = .returned (.tuple #[]) ∧ R e w') from (by rw [hR]; exact post_ret (HN m).2 (rline_calls b l i v acc tx _ t hs hd' (HN m).1)))
  replace hR := hide hR
  replace HN := hide HN
  clear h hd
  go_enter Tryz.func23, Tryz.ntmps23
  go_wp2
  go_quiet (fail)
  go_wp2_with (first | (go_at_call 62; refine (rByte_calls _ _).mono ?_; rintro e w1 ⟨rfl, ⟨n1, rfl⟩⟩) | (go_at_call 64; refine (rblank_calls _ _).mono ?_; rintro e w1 ⟨rfl, rfl⟩) | (go_at_call 65; refine (rat_any b l _ _ hs (by omega) (by omega) (by exact h0)).mono ?_; rintro e w1 ⟨rfl, rfl⟩) | (go_at_call 67; refine (rsmall_calls _ _).mono ?_; rintro e w1 ⟨rfl, ⟨n1, rfl⟩⟩) | (go_at_call 39; refine (rcapital_calls _ _).mono ?_; rintro e w1 ⟨rfl, ⟨n1, rfl⟩⟩) | (go_at_call 41; refine (rdigit_calls _ _).mono ?_; rintro e w1 ⟨rfl, ⟨n1, rfl⟩⟩) | (go_at_call 73; refine (rsign_calls _ _).mono ?_; rintro e w1 ⟨rfl, ⟨n1, rfl⟩⟩) | (go_at_call 66; refine (hm.out _).mono ?_; rintro e w3 ⟨rfl, hp⟩; have hp := hide hp))
  go_end0
  exact hp.out
theorem rnext_block (b : Nat) (l : Bs) (i : Nat) (v : Value) (acc : List Tok) (tx : Nat) (w : World) (c : UInt8) (t : Bs) (hs : l.length ≤ 65536) (hd : l.drop i = c :: t) (ha : acc.length ≤ 65536) (h : Rs w b l i v acc tx 0 0) (t' : Bs) (hd' : l.drop i = 47 :: 42 :: t') (fp : permitted c = true) (fb : Tk.blank c = false) (f37 : ((c.toNat : Int) == 37) = false) (f47 : ((c.toNat : Int) == 47) = true) (f42 : (((pk l (i + 1)).toNat : Int) == 42) = true) :
    Calls Tryz.prog 23 #[.pointer (some ⟨b, 0, none⟩)] w (RsPost w b l (toNR acc tx (cblockR i (i + 2) 0 (l.drop (i + 2))))) := by
  have hz := size_B l
  have h0 := h.c0
  have h1 := h.c1
  have r1 := h.fr 1
  have hb := B_get hd
  obtain ⟨hl, -, -⟩ := drop_at hd
  obtain ⟨R, hR⟩ : ∃ R, R = RsPost w b l (toNR acc tx (cblockR i (i + 2) 0 (l.drop (i + 2)))) := ⟨_, rfl⟩
  rw [← hR]
  have HN : ∀ m, Rs (w.drewN m) b l i v acc tx 0 0 ∧ Below b w (w.drewN m) := fun m => ⟨h.drewN m, below_drewN b w m⟩
  have hm := hide (fun m => show Calls Tryz.prog 66 #[.pointer (some ⟨b, 0, none⟩)] (w.drewN m) (fun e w' => e = .returned (.tuple #[]) ∧ R e w') from (by rw [hR]; exact post_ret (HN m).2 (rblock_calls b l i v acc tx _ t' hs hd' (HN m).1)))
  replace hR := hide hR
  replace HN := hide HN
  clear h hd
  go_enter Tryz.func23, Tryz.ntmps23
  go_wp2
  go_quiet (fail)
  go_wp2_with (first | (go_at_call 62; refine (rByte_calls _ _).mono ?_; rintro e w1 ⟨rfl, ⟨n1, rfl⟩⟩) | (go_at_call 64; refine (rblank_calls _ _).mono ?_; rintro e w1 ⟨rfl, rfl⟩) | (go_at_call 65; refine (rat_any b l _ _ hs (by omega) (by omega) (by exact h0)).mono ?_; rintro e w1 ⟨rfl, rfl⟩) | (go_at_call 67; refine (rsmall_calls _ _).mono ?_; rintro e w1 ⟨rfl, ⟨n1, rfl⟩⟩) | (go_at_call 39; refine (rcapital_calls _ _).mono ?_; rintro e w1 ⟨rfl, ⟨n1, rfl⟩⟩) | (go_at_call 41; refine (rdigit_calls _ _).mono ?_; rintro e w1 ⟨rfl, ⟨n1, rfl⟩⟩) | (go_at_call 73; refine (rsign_calls _ _).mono ?_; rintro e w1 ⟨rfl, ⟨n1, rfl⟩⟩) | (go_at_call 66; refine (hm.out _).mono ?_; rintro e w3 ⟨rfl, hp⟩; have hp := hide hp))
  go_end0
  exact hp.out
theorem rnext_name (b : Nat) (l : Bs) (i : Nat) (v : Value) (acc : List Tok) (tx : Nat) (w : World) (c : UInt8) (t : Bs) (hs : l.length ≤ 65536) (hd : l.drop i = c :: t) (ha : acc.length ≤ 65536) (h : Rs w b l i v acc tx 0 0) (fp : permitted c = true) (fb : Tk.blank c = false) (f37 : ((c.toNat : Int) == 37) = false) (f47 : ((c.toNat : Int) == 47) = false) (fs : small c = true) :
    Calls Tryz.prog 23 #[.pointer (some ⟨b, 0, none⟩)] w (RsPost w b l (addNR acc i 1 (cut l i (i + nameLen (l.drop i))) (i + nameLen (l.drop i)))) := by
  have hz := size_B l
  have h0 := h.c0
  have h1 := h.c1
  have r1 := h.fr 1
  have hb := B_get hd
  obtain ⟨hl, -, -⟩ := drop_at hd
  obtain ⟨R, hR⟩ : ∃ R, R = RsPost w b l (addNR acc i 1 (cut l i (i + nameLen (l.drop i))) (i + nameLen (l.drop i))) := ⟨_, rfl⟩
  rw [← hR]
  have HN : ∀ m, Rs (w.drewN m) b l i v acc tx 0 0 ∧ Below b w (w.drewN m) := fun m => ⟨h.drewN m, below_drewN b w m⟩
  have hm := hide (fun m => show Calls Tryz.prog 68 #[.pointer (some ⟨b, 0, none⟩)] (w.drewN m) (fun e w' => e = .returned (.tuple #[]) ∧ R e w') from (by rw [hR]; exact post_ret (HN m).2 (rname_calls b l i v acc tx _ hs (by omega) ha (HN m).1)))
  replace hR := hide hR
  replace HN := hide HN
  clear h hd
  go_enter Tryz.func23, Tryz.ntmps23
  go_wp2
  go_quiet (fail)
  go_wp2_with (first | (go_at_call 62; refine (rByte_calls _ _).mono ?_; rintro e w1 ⟨rfl, ⟨n1, rfl⟩⟩) | (go_at_call 64; refine (rblank_calls _ _).mono ?_; rintro e w1 ⟨rfl, rfl⟩) | (go_at_call 65; refine (rat_any b l _ _ hs (by omega) (by omega) (by exact h0)).mono ?_; rintro e w1 ⟨rfl, rfl⟩) | (go_at_call 67; refine (rsmall_calls _ _).mono ?_; rintro e w1 ⟨rfl, ⟨n1, rfl⟩⟩) | (go_at_call 39; refine (rcapital_calls _ _).mono ?_; rintro e w1 ⟨rfl, ⟨n1, rfl⟩⟩) | (go_at_call 41; refine (rdigit_calls _ _).mono ?_; rintro e w1 ⟨rfl, ⟨n1, rfl⟩⟩) | (go_at_call 73; refine (rsign_calls _ _).mono ?_; rintro e w1 ⟨rfl, ⟨n1, rfl⟩⟩) | (go_at_call 68; refine (hm.out _).mono ?_; rintro e w3 ⟨rfl, hp⟩; have hp := hide hp))
  go_end0
  exact hp.out
theorem rnext_var (b : Nat) (l : Bs) (i : Nat) (v : Value) (acc : List Tok) (tx : Nat) (w : World) (c : UInt8) (t : Bs) (hs : l.length ≤ 65536) (hd : l.drop i = c :: t) (ha : acc.length ≤ 65536) (h : Rs w b l i v acc tx 0 0) (j : Nat) (hj : j = i + spanLen letter (l.drop i)) (hij : i ≤ j) (hjl : j ≤ l.length) (fp : permitted c = true) (fb : Tk.blank c = false) (f37 : ((c.toNat : Int) == 37) = false) (f47 : ((c.toNat : Int) == 47) = false) (fs : small c = false) (fu : capital c = true) :
    Calls Tryz.prog 23 #[.pointer (some ⟨b, 0, none⟩)] w (RsPost w b l (addNR acc i 2 (cut l i j) j)) := by
  have hz := size_B l
  have h0 := h.c0
  have h1 := h.c1
  have r1 := h.fr 1
  have hb := B_get hd
  obtain ⟨hl, -, -⟩ := drop_at hd
  obtain ⟨R, hR⟩ : ∃ R, R = RsPost w b l (addNR acc i 2 (cut l i j) j) := ⟨_, rfl⟩
  rw [← hR]
  have HN : ∀ m, Rs (w.drewN m) b l i v acc tx 0 0 ∧ Below b w (w.drewN m) := fun m => ⟨h.drewN m, below_drewN b w m⟩
  have hm := hide (fun m => add_ret (k := 2) hR rfl (l.length) hs (by omega) ha (HN m).1 (HN m).2)
  have hrun := hide (fun w1 h1 => hj ▸ rrun_calls b l i w1 hs (by omega) h1)
  replace hR := hide hR
  replace HN := hide HN
  clear h hd hj
  go_enter Tryz.func23, Tryz.ntmps23
  go_wp2
  go_quiet (fail)
  go_wp2_with (first | (go_at_call 62; refine (rByte_calls _ _).mono ?_; rintro e w1 ⟨rfl, ⟨n1, rfl⟩⟩) | (go_at_call 64; refine (rblank_calls _ _).mono ?_; rintro e w1 ⟨rfl, rfl⟩) | (go_at_call 65; refine (rat_any b l _ _ hs (by omega) (by omega) (by exact h0)).mono ?_; rintro e w1 ⟨rfl, rfl⟩) | (go_at_call 67; refine (rsmall_calls _ _).mono ?_; rintro e w1 ⟨rfl, ⟨n1, rfl⟩⟩) | (go_at_call 39; refine (rcapital_calls _ _).mono ?_; rintro e w1 ⟨rfl, ⟨n1, rfl⟩⟩) | (go_at_call 41; refine (rdigit_calls _ _).mono ?_; rintro e w1 ⟨rfl, ⟨n1, rfl⟩⟩) | (go_at_call 73; refine (rsign_calls _ _).mono ?_; rintro e w1 ⟨rfl, ⟨n1, rfl⟩⟩) | (go_at_call 69; refine (hrun.out _ (by exact h0)).mono ?_; rintro e w1 ⟨rfl, ⟨n2, rfl⟩⟩))
  refine tail_drew 12 (by kernel_rfl) (by kernel_rfl) ?_
  simp only [List.take_succ_cons, List.take_zero, List.drop_succ_cons, List.drop_zero]
  repeat still_step
  refine wpStill_nil ?_
  go_wp2_with (go_at_call 70; refine (hm.out _).mono ?_; rintro e w3 ⟨rfl, hp⟩; have hp := hide hp)
  go_end0
  exact hp.out
theorem rnext_int (b : Nat) (l : Bs) (i : Nat) (v : Value) (acc : List Tok) (tx : Nat) (w : World) (c : UInt8) (t : Bs) (hs : l.length ≤ 65536) (hd : l.drop i = c :: t) (ha : acc.length ≤ 65536) (h : Rs w b l i v acc tx 0 0) (hch : ¬ (c = 48 ∧ pk l (i + 1) = 39)) (fp : permitted c = true) (fb : Tk.blank c = false) (f37 : ((c.toNat : Int) == 37) = false) (f47 : ((c.toNat : Int) == 47) = false) (fs : small c = false) (fu : capital c = false) (fd : digit c = true) :
    Calls Tryz.prog 23 #[.pointer (some ⟨b, 0, none⟩)] w (RsPost w b l (addNR acc i 3 (cut l i (i + spanLen digit (l.drop i))) (i + spanLen digit (l.drop i)))) := by
  have hz := size_B l
  have h0 := h.c0
  have h1 := h.c1
  have r1 := h.fr 1
  have hb := B_get hd
  obtain ⟨hl, -, -⟩ := drop_at hd
  obtain ⟨R, hR⟩ : ∃ R, R = RsPost w b l (addNR acc i 3 (cut l i (i + spanLen digit (l.drop i))) (i + spanLen digit (l.drop i))) := ⟨_, rfl⟩
  rw [← hR]
  have HN : ∀ m, Rs (w.drewN m) b l i v acc tx 0 0 ∧ Below b w (w.drewN m) := fun m => ⟨h.drewN m, below_drewN b w m⟩
  have hm := hide (fun m => show Calls Tryz.prog 71 #[.pointer (some ⟨b, 0, none⟩)] (w.drewN m) (fun e w' => e = .returned (.tuple #[]) ∧ R e w') from (by rw [hR]; exact post_ret (HN m).2 (rnumber_int b l i v acc tx _ c t hs ha hd hch (HN m).1)))
  replace hR := hide hR
  replace HN := hide HN
  clear h hd hch
  go_enter Tryz.func23, Tryz.ntmps23
  go_wp2
  go_quiet (fail)
  go_wp2_with (first | (go_at_call 62; refine (rByte_calls _ _).mono ?_; rintro e w1 ⟨rfl, ⟨n1, rfl⟩⟩) | (go_at_call 64; refine (rblank_calls _ _).mono ?_; rintro e w1 ⟨rfl, rfl⟩) | (go_at_call 65; refine (rat_any b l _ _ hs (by omega) (by omega) (by exact h0)).mono ?_; rintro e w1 ⟨rfl, rfl⟩) | (go_at_call 67; refine (rsmall_calls _ _).mono ?_; rintro e w1 ⟨rfl, ⟨n1, rfl⟩⟩) | (go_at_call 39; refine (rcapital_calls _ _).mono ?_; rintro e w1 ⟨rfl, ⟨n1, rfl⟩⟩) | (go_at_call 41; refine (rdigit_calls _ _).mono ?_; rintro e w1 ⟨rfl, ⟨n1, rfl⟩⟩) | (go_at_call 73; refine (rsign_calls _ _).mono ?_; rintro e w1 ⟨rfl, ⟨n1, rfl⟩⟩) | (go_at_call 71; refine (hm.out _).mono ?_; rintro e w3 ⟨rfl, hp⟩; have hp := hide hp))
  go_end0
  exact hp.out
theorem rnext_char (b : Nat) (l : Bs) (i : Nat) (v : Value) (acc : List Tok) (tx : Nat) (w : World) (c : UInt8) (t : Bs) (hs : l.length ≤ 65536) (hd : l.drop i = c :: t) (ha : acc.length ≤ 65536) (h : Rs w b l i v acc tx 0 0) (hch : c = 48 ∧ pk l (i + 1) = 39) (fp : permitted c = true) (fb : Tk.blank c = false) (f37 : ((c.toNat : Int) == 37) = false) (f47 : ((c.toNat : Int) == 47) = false) (fs : small c = false) (fu : capital c = false) (fd : digit c = true) :
    Calls Tryz.prog 23 #[.pointer (some ⟨b, 0, none⟩)] w (RsPost w b l (charNR acc i (charS l i))) := by
  have hz := size_B l
  have h0 := h.c0
  have h1 := h.c1
  have r1 := h.fr 1
  have hb := B_get hd
  obtain ⟨hl, -, -⟩ := drop_at hd
  obtain ⟨R, hR⟩ : ∃ R, R = RsPost w b l (charNR acc i (charS l i)) := ⟨_, rfl⟩
  rw [← hR]
  have HN : ∀ m, Rs (w.drewN m) b l i v acc tx 0 0 ∧ Below b w (w.drewN m) := fun m => ⟨h.drewN m, below_drewN b w m⟩
  have hm := hide (fun m => show Calls Tryz.prog 71 #[.pointer (some ⟨b, 0, none⟩)] (w.drewN m) (fun e w' => e = .returned (.tuple #[]) ∧ R e w') from (by rw [hR]; exact post_ret (HN m).2 (rnumber_char b l i v acc tx _ c t hs ha hd hch.1 hch.2 (HN m).1)))
  replace hR := hide hR
  replace HN := hide HN
  clear h hd hch
  go_enter Tryz.func23, Tryz.ntmps23
  go_wp2
  go_quiet (fail)
  go_wp2_with (first | (go_at_call 62; refine (rByte_calls _ _).mono ?_; rintro e w1 ⟨rfl, ⟨n1, rfl⟩⟩) | (go_at_call 64; refine (rblank_calls _ _).mono ?_; rintro e w1 ⟨rfl, rfl⟩) | (go_at_call 65; refine (rat_any b l _ _ hs (by omega) (by omega) (by exact h0)).mono ?_; rintro e w1 ⟨rfl, rfl⟩) | (go_at_call 67; refine (rsmall_calls _ _).mono ?_; rintro e w1 ⟨rfl, ⟨n1, rfl⟩⟩) | (go_at_call 39; refine (rcapital_calls _ _).mono ?_; rintro e w1 ⟨rfl, ⟨n1, rfl⟩⟩) | (go_at_call 41; refine (rdigit_calls _ _).mono ?_; rintro e w1 ⟨rfl, ⟨n1, rfl⟩⟩) | (go_at_call 73; refine (rsign_calls _ _).mono ?_; rintro e w1 ⟨rfl, ⟨n1, rfl⟩⟩) | (go_at_call 71; refine (hm.out _).mono ?_; rintro e w3 ⟨rfl, hp⟩; have hp := hide hp))
  go_end0
  exact hp.out
theorem rnext_quoted39 (b : Nat) (l : Bs) (i : Nat) (v : Value) (acc : List Tok) (tx : Nat) (w : World) (c : UInt8) (t : Bs) (hs : l.length ≤ 65536) (hd : l.drop i = c :: t) (ha : acc.length ≤ 65536) (h : Rs w b l i v acc tx 0 0) (hq : c = 34 ∨ c = 39) (fp : permitted c = true) (fb : Tk.blank c = false) (f37 : ((c.toNat : Int) == 37) = false) (f47 : ((c.toNat : Int) == 47) = false) (fs : small c = false) (fu : capital c = false) (fd : digit c = false) (f39 : ((c.toNat : Int) == 39) = true) :
    Calls Tryz.prog 23 #[.pointer (some ⟨b, 0, none⟩)] w (RsPost w b l (quotedNR c acc i (quotedS c (escOf c) l i))) := by
  have hz := size_B l
  have h0 := h.c0
  have h1 := h.c1
  have r1 := h.fr 1
  have hb := B_get hd
  obtain ⟨hl, -, -⟩ := drop_at hd
  obtain ⟨R, hR⟩ : ∃ R, R = RsPost w b l (quotedNR c acc i (quotedS c (escOf c) l i)) := ⟨_, rfl⟩
  rw [← hR]
  have HN : ∀ m, Rs (w.drewN m) b l i v acc tx 0 0 ∧ Below b w (w.drewN m) := fun m => ⟨h.drewN m, below_drewN b w m⟩
  have hm := hide (fun m => show Calls Tryz.prog 72 #[.pointer (some ⟨b, 0, none⟩)] (w.drewN m) (fun e w' => e = .returned (.tuple #[]) ∧ R e w') from (by rw [hR]; exact post_ret (HN m).2 (rquoted_calls b l i v acc tx _ c t hs hd hq ha (HN m).1)))
  replace hR := hide hR
  replace HN := hide HN
  clear h hd hq
  go_enter Tryz.func23, Tryz.ntmps23
  go_wp2
  go_quiet (fail)
  go_wp2_with (first | (go_at_call 62; refine (rByte_calls _ _).mono ?_; rintro e w1 ⟨rfl, ⟨n1, rfl⟩⟩) | (go_at_call 64; refine (rblank_calls _ _).mono ?_; rintro e w1 ⟨rfl, rfl⟩) | (go_at_call 65; refine (rat_any b l _ _ hs (by omega) (by omega) (by exact h0)).mono ?_; rintro e w1 ⟨rfl, rfl⟩) | (go_at_call 67; refine (rsmall_calls _ _).mono ?_; rintro e w1 ⟨rfl, ⟨n1, rfl⟩⟩) | (go_at_call 39; refine (rcapital_calls _ _).mono ?_; rintro e w1 ⟨rfl, ⟨n1, rfl⟩⟩) | (go_at_call 41; refine (rdigit_calls _ _).mono ?_; rintro e w1 ⟨rfl, ⟨n1, rfl⟩⟩) | (go_at_call 73; refine (rsign_calls _ _).mono ?_; rintro e w1 ⟨rfl, ⟨n1, rfl⟩⟩) | (go_at_call 72; refine (hm.out _).mono ?_; rintro e w3 ⟨rfl, hp⟩; have hp := hide hp))
  go_end0
  exact hp.out
theorem rnext_quoted34 (b : Nat) (l : Bs) (i : Nat) (v : Value) (acc : List Tok) (tx : Nat) (w : World) (c : UInt8) (t : Bs) (hs : l.length ≤ 65536) (hd : l.drop i = c :: t) (ha : acc.length ≤ 65536) (h : Rs w b l i v acc tx 0 0) (hq : c = 34 ∨ c = 39) (fp : permitted c = true) (fb : Tk.blank c = false) (f37 : ((c.toNat : Int) == 37) = false) (f47 : ((c.toNat : Int) == 47) = false) (fs : small c = false) (fu : capital c = false) (fd : digit c = false) (f39 : ((c.toNat : Int) == 39) = false) (f34 : ((c.toNat : Int) == 34) = true) :
    Calls Tryz.prog 23 #[.pointer (some ⟨b, 0, none⟩)] w (RsPost w b l (quotedNR c acc i (quotedS c (escOf c) l i))) := by
  have hz := size_B l
  have h0 := h.c0
  have h1 := h.c1
  have r1 := h.fr 1
  have hb := B_get hd
  obtain ⟨hl, -, -⟩ := drop_at hd
  obtain ⟨R, hR⟩ : ∃ R, R = RsPost w b l (quotedNR c acc i (quotedS c (escOf c) l i)) := ⟨_, rfl⟩
  rw [← hR]
  have HN : ∀ m, Rs (w.drewN m) b l i v acc tx 0 0 ∧ Below b w (w.drewN m) := fun m => ⟨h.drewN m, below_drewN b w m⟩
  have hm := hide (fun m => show Calls Tryz.prog 72 #[.pointer (some ⟨b, 0, none⟩)] (w.drewN m) (fun e w' => e = .returned (.tuple #[]) ∧ R e w') from (by rw [hR]; exact post_ret (HN m).2 (rquoted_calls b l i v acc tx _ c t hs hd hq ha (HN m).1)))
  replace hR := hide hR
  replace HN := hide HN
  clear h hd hq
  go_enter Tryz.func23, Tryz.ntmps23
  go_wp2
  go_quiet (fail)
  go_wp2_with (first | (go_at_call 62; refine (rByte_calls _ _).mono ?_; rintro e w1 ⟨rfl, ⟨n1, rfl⟩⟩) | (go_at_call 64; refine (rblank_calls _ _).mono ?_; rintro e w1 ⟨rfl, rfl⟩) | (go_at_call 65; refine (rat_any b l _ _ hs (by omega) (by omega) (by exact h0)).mono ?_; rintro e w1 ⟨rfl, rfl⟩) | (go_at_call 67; refine (rsmall_calls _ _).mono ?_; rintro e w1 ⟨rfl, ⟨n1, rfl⟩⟩) | (go_at_call 39; refine (rcapital_calls _ _).mono ?_; rintro e w1 ⟨rfl, ⟨n1, rfl⟩⟩) | (go_at_call 41; refine (rdigit_calls _ _).mono ?_; rintro e w1 ⟨rfl, ⟨n1, rfl⟩⟩) | (go_at_call 73; refine (rsign_calls _ _).mono ?_; rintro e w1 ⟨rfl, ⟨n1, rfl⟩⟩) | (go_at_call 72; refine (hm.out _).mono ?_; rintro e w3 ⟨rfl, hp⟩; have hp := hide hp))
  go_end0
  exact hp.out
theorem rnext_semi (b : Nat) (l : Bs) (i : Nat) (v : Value) (acc : List Tok) (tx : Nat) (w : World) (c : UInt8) (t : Bs) (hs : l.length ≤ 65536) (hd : l.drop i = c :: t) (ha : acc.length ≤ 65536) (h : Rs w b l i v acc tx 0 0) (fp : permitted c = true) (fb : Tk.blank c = false) (f37 : ((c.toNat : Int) == 37) = false) (f47 : ((c.toNat : Int) == 47) = false) (fs : small c = false) (fu : capital c = false) (fd : digit c = false) (f39 : ((c.toNat : Int) == 39) = false) (f34 : ((c.toNat : Int) == 34) = false) (f59 : ((c.toNat : Int) == 59) = true) :
    Calls Tryz.prog 23 #[.pointer (some ⟨b, 0, none⟩)] w (RsPost w b l (addNR acc i 1 [59] (i + 1))) := by
  have hz := size_B l
  have h0 := h.c0
  have h1 := h.c1
  have r1 := h.fr 1
  have hb := B_get hd
  obtain ⟨hl, -, -⟩ := drop_at hd
  obtain ⟨R, hR⟩ : ∃ R, R = RsPost w b l (addNR acc i 1 [59] (i + 1)) := ⟨_, rfl⟩
  rw [← hR]
  have HN : ∀ m, Rs (w.drewN m) b l i v acc tx 0 0 ∧ Below b w (w.drewN m) := fun m => ⟨h.drewN m, below_drewN b w m⟩
  have hm := hide (fun m => add_one 1 [59] (i + 1) hR (by decide) ha (HN m).1 (HN m).2)
  replace hR := hide hR
  replace HN := hide HN
  clear h hd
  go_enter Tryz.func23, Tryz.ntmps23
  go_wp2
  go_quiet (fail)
  go_wp2_with (first | (go_at_call 62; refine (rByte_calls _ _).mono ?_; rintro e w1 ⟨rfl, ⟨n1, rfl⟩⟩) | (go_at_call 64; refine (rblank_calls _ _).mono ?_; rintro e w1 ⟨rfl, rfl⟩) | (go_at_call 65; refine (rat_any b l _ _ hs (by omega) (by omega) (by exact h0)).mono ?_; rintro e w1 ⟨rfl, rfl⟩) | (go_at_call 67; refine (rsmall_calls _ _).mono ?_; rintro e w1 ⟨rfl, ⟨n1, rfl⟩⟩) | (go_at_call 39; refine (rcapital_calls _ _).mono ?_; rintro e w1 ⟨rfl, ⟨n1, rfl⟩⟩) | (go_at_call 41; refine (rdigit_calls _ _).mono ?_; rintro e w1 ⟨rfl, ⟨n1, rfl⟩⟩) | (go_at_call 73; refine (rsign_calls _ _).mono ?_; rintro e w1 ⟨rfl, ⟨n1, rfl⟩⟩) | (go_at_call 70; refine (hm.out _).mono ?_; rintro e w3 ⟨rfl, hp⟩; have hp := hide hp))
  go_end0
  exact hp.out
theorem rnext_bang46 (b : Nat) (l : Bs) (i : Nat) (v : Value) (acc : List Tok) (tx : Nat) (w : World) (c : UInt8) (t : Bs) (hs : l.length ≤ 65536) (hd : l.drop i = c :: t) (ha : acc.length ≤ 65536) (h : Rs w b l i v acc tx 0 0) (j : Nat) (hj : j = i + 2) (hij : i ≤ j) (hjl : j ≤ l.length) (fp : permitted c = true) (fb : Tk.blank c = false) (f37 : ((c.toNat : Int) == 37) = false) (f47 : ((c.toNat : Int) == 47) = false) (fs : small c = false) (fu : capital c = false) (fd : digit c = false) (f39 : ((c.toNat : Int) == 39) = false) (f34 : ((c.toNat : Int) == 34) = false) (f59 : ((c.toNat : Int) == 59) = false) (f33 : ((c.toNat : Int) == 33) = true) (f46 : (((pk l (i + 1)).toNat : Int) == 46) = true) (fq : capital (pk l (i + 2)) = true) :
    Calls Tryz.prog 23 #[.pointer (some ⟨b, 0, none⟩)] w (RsPost w b l (addNR acc i 1 (cut l i j) j)) := by
  have hz := size_B l
  have h0 := h.c0
  have h1 := h.c1
  have r1 := h.fr 1
  have hb := B_get hd
  obtain ⟨hl, -, -⟩ := drop_at hd
  obtain ⟨R, hR⟩ : ∃ R, R = RsPost w b l (addNR acc i 1 (cut l i j) j) := ⟨_, rfl⟩
  rw [← hR]
  have HN : ∀ m, Rs (w.drewN m) b l i v acc tx 0 0 ∧ Below b w (w.drewN m) := fun m => ⟨h.drewN m, below_drewN b w m⟩
  have hm := hide (fun m => add_ret (k := 1) hR rfl (l.length) hs (by omega) ha (HN m).1 (HN m).2)
  replace hj := hide hj
  replace hR := hide hR
  replace HN := hide HN
  clear h hd
  go_enter Tryz.func23, Tryz.ntmps23
  go_wp2
  go_quiet (fail)
  go_wp2_with (first | (go_at_call 62; refine (rByte_calls _ _).mono ?_; rintro e w1 ⟨rfl, ⟨n1, rfl⟩⟩) | (go_at_call 64; refine (rblank_calls _ _).mono ?_; rintro e w1 ⟨rfl, rfl⟩) | (go_at_call 65; refine (rat_any b l _ _ hs (by omega) (by omega) (by exact h0)).mono ?_; rintro e w1 ⟨rfl, rfl⟩) | (go_at_call 67; refine (rsmall_calls _ _).mono ?_; rintro e w1 ⟨rfl, ⟨n1, rfl⟩⟩) | (go_at_call 39; refine (rcapital_calls _ _).mono ?_; rintro e w1 ⟨rfl, ⟨n1, rfl⟩⟩) | (go_at_call 41; refine (rdigit_calls _ _).mono ?_; rintro e w1 ⟨rfl, ⟨n1, rfl⟩⟩) | (go_at_call 73; refine (rsign_calls _ _).mono ?_; rintro e w1 ⟨rfl, ⟨n1, rfl⟩⟩))
  rw [show (i : Int) + 1 + 1 = (j : Int) by have := hj.out; omega]
  refine tail_drew 12 (by kernel_rfl) (by kernel_rfl) ?_
  simp only [List.take_succ_cons, List.take_zero, List.drop_succ_cons, List.drop_zero]
  repeat still_step
  refine wpStill_nil ?_
  go_wp2_with (go_at_call 70; refine (hm.out _).mono ?_; rintro e w3 ⟨rfl, hp⟩; have hp := hide hp)
  go_end0
  exact hp.out
theorem rnext_bang46n (b : Nat) (l : Bs) (i : Nat) (v : Value) (acc : List Tok) (tx : Nat) (w : World) (c : UInt8) (t : Bs) (hs : l.length ≤ 65536) (hd : l.drop i = c :: t) (ha : acc.length ≤ 65536) (h : Rs w b l i v acc tx 0 0) (j : Nat) (hj : j = i + 1) (hij : i ≤ j) (hjl : j ≤ l.length) (fp : permitted c = true) (fb : Tk.blank c = false) (f37 : ((c.toNat : Int) == 37) = false) (f47 : ((c.toNat : Int) == 47) = false) (fs : small c = false) (fu : capital c = false) (fd : digit c = false) (f39 : ((c.toNat : Int) == 39) = false) (f34 : ((c.toNat : Int) == 34) = false) (f59 : ((c.toNat : Int) == 59) = false) (f33 : ((c.toNat : Int) == 33) = true) (f46 : (((pk l (i + 1)).toNat : Int) == 46) = true) (fq : capital (pk l (i + 2)) = false) :
    Calls Tryz.prog 23 #[.pointer (some ⟨b, 0, none⟩)] w (RsPost w b l (addNR acc i 1 (cut l i j) j)) := by
  have hz := size_B l
  have h0 := h.c0
  have h1 := h.c1
  have r1 := h.fr 1
  have hb := B_get hd
  obtain ⟨hl, -, -⟩ := drop_at hd
  obtain ⟨R, hR⟩ : ∃ R, R = RsPost w b l (addNR acc i 1 (cut l i j) j) := ⟨_, rfl⟩
  rw [← hR]
  have HN : ∀ m, Rs (w.drewN m) b l i v acc tx 0 0 ∧ Below b w (w.drewN m) := fun m => ⟨h.drewN m, below_drewN b w m⟩
  have hm := hide (fun m => add_ret (k := 1) hR rfl (l.length) hs (by omega) ha (HN m).1 (HN m).2)
  replace hj := hide hj
  replace hR := hide hR
  replace HN := hide HN
  clear h hd
  go_enter Tryz.func23, Tryz.ntmps23
  go_wp2
  go_quiet (fail)
  go_wp2_with (first | (go_at_call 62; refine (rByte_calls _ _).mono ?_; rintro e w1 ⟨rfl, ⟨n1, rfl⟩⟩) | (go_at_call 64; refine (rblank_calls _ _).mono ?_; rintro e w1 ⟨rfl, rfl⟩) | (go_at_call 65; refine (rat_any b l _ _ hs (by omega) (by omega) (by exact h0)).mono ?_; rintro e w1 ⟨rfl, rfl⟩) | (go_at_call 67; refine (rsmall_calls _ _).mono ?_; rintro e w1 ⟨rfl, ⟨n1, rfl⟩⟩) | (go_at_call 39; refine (rcapital_calls _ _).mono ?_; rintro e w1 ⟨rfl, ⟨n1, rfl⟩⟩) | (go_at_call 41; refine (rdigit_calls _ _).mono ?_; rintro e w1 ⟨rfl, ⟨n1, rfl⟩⟩) | (go_at_call 73; refine (rsign_calls _ _).mono ?_; rintro e w1 ⟨rfl, ⟨n1, rfl⟩⟩))
  rw [show (i : Int) + 1 = (j : Int) by have := hj.out; omega]
  refine tail_drew 12 (by kernel_rfl) (by kernel_rfl) ?_
  simp only [List.take_succ_cons, List.take_zero, List.drop_succ_cons, List.drop_zero]
  repeat still_step
  refine wpStill_nil ?_
  go_wp2_with (go_at_call 70; refine (hm.out _).mono ?_; rintro e w3 ⟨rfl, hp⟩; have hp := hide hp)
  go_end0
  exact hp.out
theorem rnext_bang58 (b : Nat) (l : Bs) (i : Nat) (v : Value) (acc : List Tok) (tx : Nat) (w : World) (c : UInt8) (t : Bs) (hs : l.length ≤ 65536) (hd : l.drop i = c :: t) (ha : acc.length ≤ 65536) (h : Rs w b l i v acc tx 0 0) (j : Nat) (hj : j = i + 2) (hij : i ≤ j) (hjl : j ≤ l.length) (fp : permitted c = true) (fb : Tk.blank c = false) (f37 : ((c.toNat : Int) == 37) = false) (f47 : ((c.toNat : Int) == 47) = false) (fs : small c = false) (fu : capital c = false) (fd : digit c = false) (f39 : ((c.toNat : Int) == 39) = false) (f34 : ((c.toNat : Int) == 34) = false) (f59 : ((c.toNat : Int) == 59) = false) (f33 : ((c.toNat : Int) == 33) = true) (f46 : (((pk l (i + 1)).toNat : Int) == 46) = false) (f58 : (((pk l (i + 1)).toNat : Int) == 58) = true) (fq : capital (pk l (i + 2)) = true) :
    Calls Tryz.prog 23 #[.pointer (some ⟨b, 0, none⟩)] w (RsPost w b l (addNR acc i 1 (cut l i j) j)) := by
  have hz := size_B l
  have h0 := h.c0
  have h1 := h.c1
  have r1 := h.fr 1
  have hb := B_get hd
  obtain ⟨hl, -, -⟩ := drop_at hd
  obtain ⟨R, hR⟩ : ∃ R, R = RsPost w b l (addNR acc i 1 (cut l i j) j) := ⟨_, rfl⟩
  rw [← hR]
  have HN : ∀ m, Rs (w.drewN m) b l i v acc tx 0 0 ∧ Below b w (w.drewN m) := fun m => ⟨h.drewN m, below_drewN b w m⟩
  have hm := hide (fun m => add_ret (k := 1) hR rfl (l.length) hs (by omega) ha (HN m).1 (HN m).2)
  replace hj := hide hj
  replace hR := hide hR
  replace HN := hide HN
  clear h hd
  go_enter Tryz.func23, Tryz.ntmps23
  go_wp2
  go_quiet (fail)
  go_wp2_with (first | (go_at_call 62; refine (rByte_calls _ _).mono ?_; rintro e w1 ⟨rfl, ⟨n1, rfl⟩⟩) | (go_at_call 64; refine (rblank_calls _ _).mono ?_; rintro e w1 ⟨rfl, rfl⟩) | (go_at_call 65; refine (rat_any b l _ _ hs (by omega) (by omega) (by exact h0)).mono ?_; rintro e w1 ⟨rfl, rfl⟩) | (go_at_call 67; refine (rsmall_calls _ _).mono ?_; rintro e w1 ⟨rfl, ⟨n1, rfl⟩⟩) | (go_at_call 39; refine (rcapital_calls _ _).mono ?_; rintro e w1 ⟨rfl, ⟨n1, rfl⟩⟩) | (go_at_call 41; refine (rdigit_calls _ _).mono ?_; rintro e w1 ⟨rfl, ⟨n1, rfl⟩⟩) | (go_at_call 73; refine (rsign_calls _ _).mono ?_; rintro e w1 ⟨rfl, ⟨n1, rfl⟩⟩))
  rw [show (i : Int) + 1 + 1 = (j : Int) by have := hj.out; omega]
  refine tail_drew 12 (by kernel_rfl) (by kernel_rfl) ?_
  simp only [List.take_succ_cons, List.take_zero, List.drop_succ_cons, List.drop_zero]
  repeat still_step
  refine wpStill_nil ?_
  go_wp2_with (go_at_call 70; refine (hm.out _).mono ?_; rintro e w3 ⟨rfl, hp⟩; have hp := hide hp)
  go_end0
  exact hp.out
theorem rnext_bang58n (b : Nat) (l : Bs) (i : Nat) (v : Value) (acc : List Tok) (tx : Nat) (w : World) (c : UInt8) (t : Bs) (hs : l.length ≤ 65536) (hd : l.drop i = c :: t) (ha : acc.length ≤ 65536) (h : Rs w b l i v acc tx 0 0) (j : Nat) (hj : j = i + 1) (hij : i ≤ j) (hjl : j ≤ l.length) (fp : permitted c = true) (fb : Tk.blank c = false) (f37 : ((c.toNat : Int) == 37) = false) (f47 : ((c.toNat : Int) == 47) = false) (fs : small c = false) (fu : capital c = false) (fd : digit c = false) (f39 : ((c.toNat : Int) == 39) = false) (f34 : ((c.toNat : Int) == 34) = false) (f59 : ((c.toNat : Int) == 59) = false) (f33 : ((c.toNat : Int) == 33) = true) (f46 : (((pk l (i + 1)).toNat : Int) == 46) = false) (f58 : (((pk l (i + 1)).toNat : Int) == 58) = true) (fq : capital (pk l (i + 2)) = false) :
    Calls Tryz.prog 23 #[.pointer (some ⟨b, 0, none⟩)] w (RsPost w b l (addNR acc i 1 (cut l i j) j)) := by
  have hz := size_B l
  have h0 := h.c0
  have h1 := h.c1
  have r1 := h.fr 1
  have hb := B_get hd
  obtain ⟨hl, -, -⟩ := drop_at hd
  obtain ⟨R, hR⟩ : ∃ R, R = RsPost w b l (addNR acc i 1 (cut l i j) j) := ⟨_, rfl⟩
  rw [← hR]
  have HN : ∀ m, Rs (w.drewN m) b l i v acc tx 0 0 ∧ Below b w (w.drewN m) := fun m => ⟨h.drewN m, below_drewN b w m⟩
  have hm := hide (fun m => add_ret (k := 1) hR rfl (l.length) hs (by omega) ha (HN m).1 (HN m).2)
  replace hj := hide hj
  replace hR := hide hR
  replace HN := hide HN
  clear h hd
  go_enter Tryz.func23, Tryz.ntmps23
  go_wp2
  go_quiet (fail)
  go_wp2_with (first | (go_at_call 62; refine (rByte_calls _ _).mono ?_; rintro e w1 ⟨rfl, ⟨n1, rfl⟩⟩) | (go_at_call 64; refine (rblank_calls _ _).mono ?_; rintro e w1 ⟨rfl, rfl⟩) | (go_at_call 65; refine (rat_any b l _ _ hs (by omega) (by omega) (by exact h0)).mono ?_; rintro e w1 ⟨rfl, rfl⟩) | (go_at_call 67; refine (rsmall_calls _ _).mono ?_; rintro e w1 ⟨rfl, ⟨n1, rfl⟩⟩) | (go_at_call 39; refine (rcapital_calls _ _).mono ?_; rintro e w1 ⟨rfl, ⟨n1, rfl⟩⟩) | (go_at_call 41; refine (rdigit_calls _ _).mono ?_; rintro e w1 ⟨rfl, ⟨n1, rfl⟩⟩) | (go_at_call 73; refine (rsign_calls _ _).mono ?_; rintro e w1 ⟨rfl, ⟨n1, rfl⟩⟩))
  rw [show (i : Int) + 1 = (j : Int) by have := hj.out; omega]
  refine tail_drew 12 (by kernel_rfl) (by kernel_rfl) ?_
  simp only [List.take_succ_cons, List.take_zero, List.drop_succ_cons, List.drop_zero]
  repeat still_step
  refine wpStill_nil ?_
  go_wp2_with (go_at_call 70; refine (hm.out _).mono ?_; rintro e w3 ⟨rfl, hp⟩; have hp := hide hp)
  go_end0
  exact hp.out
theorem rnext_bang (b : Nat) (l : Bs) (i : Nat) (v : Value) (acc : List Tok) (tx : Nat) (w : World) (c : UInt8) (t : Bs) (hs : l.length ≤ 65536) (hd : l.drop i = c :: t) (ha : acc.length ≤ 65536) (h : Rs w b l i v acc tx 0 0) (j : Nat) (hj : j = i + 1) (hij : i ≤ j) (hjl : j ≤ l.length) (fp : permitted c = true) (fb : Tk.blank c = false) (f37 : ((c.toNat : Int) == 37) = false) (f47 : ((c.toNat : Int) == 47) = false) (fs : small c = false) (fu : capital c = false) (fd : digit c = false) (f39 : ((c.toNat : Int) == 39) = false) (f34 : ((c.toNat : Int) == 34) = false) (f59 : ((c.toNat : Int) == 59) = false) (f33 : ((c.toNat : Int) == 33) = true) (f46 : (((pk l (i + 1)).toNat : Int) == 46) = false) (f58 : (((pk l (i + 1)).toNat : Int) == 58) = false) :
    Calls Tryz.prog 23 #[.pointer (some ⟨b, 0, none⟩)] w (RsPost w b l (addNR acc i 1 (cut l i j) j)) := by
  have hz := size_B l
  have h0 := h.c0
  have h1 := h.c1
  have r1 := h.fr 1
  have hb := B_get hd
  obtain ⟨hl, -, -⟩ := drop_at hd
  obtain ⟨R, hR⟩ : ∃ R, R = RsPost w b l (addNR acc i 1 (cut l i j) j) := ⟨_, rfl⟩
  rw [← hR]
  have HN : ∀ m, Rs (w.drewN m) b l i v acc tx 0 0 ∧ Below b w (w.drewN m) := fun m => ⟨h.drewN m, below_drewN b w m⟩
  have hm := hide (fun m => add_ret (k := 1) hR rfl (l.length) hs (by omega) ha (HN m).1 (HN m).2)
  replace hj := hide hj
  replace hR := hide hR
  replace HN := hide HN
  clear h hd
  go_enter Tryz.func23, Tryz.ntmps23
  go_wp2
  go_quiet (fail)
  go_wp2_with (first | (go_at_call 62; refine (rByte_calls _ _).mono ?_; rintro e w1 ⟨rfl, ⟨n1, rfl⟩⟩) | (go_at_call 64; refine (rblank_calls _ _).mono ?_; rintro e w1 ⟨rfl, rfl⟩) | (go_at_call 65; refine (rat_any b l _ _ hs (by omega) (by omega) (by exact h0)).mono ?_; rintro e w1 ⟨rfl, rfl⟩) | (go_at_call 67; refine (rsmall_calls _ _).mono ?_; rintro e w1 ⟨rfl, ⟨n1, rfl⟩⟩) | (go_at_call 39; refine (rcapital_calls _ _).mono ?_; rintro e w1 ⟨rfl, ⟨n1, rfl⟩⟩) | (go_at_call 41; refine (rdigit_calls _ _).mono ?_; rintro e w1 ⟨rfl, ⟨n1, rfl⟩⟩) | (go_at_call 73; refine (rsign_calls _ _).mono ?_; rintro e w1 ⟨rfl, ⟨n1, rfl⟩⟩))
  rw [show (i : Int) + 1 = (j : Int) by have := hj.out; omega]
  refine tail_drew 12 (by kernel_rfl) (by kernel_rfl) ?_
  simp only [List.take_succ_cons, List.take_zero, List.drop_succ_cons, List.drop_zero]
  repeat still_step
  refine wpStill_nil ?_
  go_wp2_with (go_at_call 70; refine (hm.out _).mono ?_; rintro e w3 ⟨rfl, hp⟩; have hp := hide hp)
  go_end0
  exact hp.out
theorem rnext_sign (b : Nat) (l : Bs) (i : Nat) (v : Value) (acc : List Tok) (tx : Nat) (w : World) (c : UInt8) (t : Bs) (hs : l.length ≤ 65536) (hd : l.drop i = c :: t) (ha : acc.length ≤ 65536) (h : Rs w b l i v acc tx 0 0) (fp : permitted c = true) (fb : Tk.blank c = false) (f37 : ((c.toNat : Int) == 37) = false) (f47 : ((c.toNat : Int) == 47) = false) (fs : small c = false) (fu : capital c = false) (fd : digit c = false) (f39 : ((c.toNat : Int) == 39) = false) (f34 : ((c.toNat : Int) == 34) = false) (f59 : ((c.toNat : Int) == 59) = false) (f33 : ((c.toNat : Int) == 33) = false) (fg : sign c = true) :
    Calls Tryz.prog 23 #[.pointer (some ⟨b, 0, none⟩)] w (RsPost w b l (signsNR l acc i (i + spanLen sign (l.drop i)))) := by
  have hz := size_B l
  have h0 := h.c0
  have h1 := h.c1
  have r1 := h.fr 1
  have hb := B_get hd
  obtain ⟨hl, -, -⟩ := drop_at hd
  obtain ⟨R, hR⟩ : ∃ R, R = RsPost w b l (signsNR l acc i (i + spanLen sign (l.drop i))) := ⟨_, rfl⟩
  rw [← hR]
  have HN : ∀ m, Rs (w.drewN m) b l i v acc tx 0 0 ∧ Below b w (w.drewN m) := fun m => ⟨h.drewN m, below_drewN b w m⟩
  have hm := hide (fun m => show Calls Tryz.prog 74 #[.pointer (some ⟨b, 0, none⟩)] (w.drewN m) (fun e w' => e = .returned (.tuple #[]) ∧ R e w') from (by rw [hR]; exact post_ret (HN m).2 (rsigns_calls b l i v acc tx _ hs (by omega) ha (HN m).1)))
  replace hR := hide hR
  replace HN := hide HN
  clear h hd
  go_enter Tryz.func23, Tryz.ntmps23
  go_wp2
  go_quiet (fail)
  go_wp2_with (first | (go_at_call 62; refine (rByte_calls _ _).mono ?_; rintro e w1 ⟨rfl, ⟨n1, rfl⟩⟩) | (go_at_call 64; refine (rblank_calls _ _).mono ?_; rintro e w1 ⟨rfl, rfl⟩) | (go_at_call 65; refine (rat_any b l _ _ hs (by omega) (by omega) (by exact h0)).mono ?_; rintro e w1 ⟨rfl, rfl⟩) | (go_at_call 67; refine (rsmall_calls _ _).mono ?_; rintro e w1 ⟨rfl, ⟨n1, rfl⟩⟩) | (go_at_call 39; refine (rcapital_calls _ _).mono ?_; rintro e w1 ⟨rfl, ⟨n1, rfl⟩⟩) | (go_at_call 41; refine (rdigit_calls _ _).mono ?_; rintro e w1 ⟨rfl, ⟨n1, rfl⟩⟩) | (go_at_call 73; refine (rsign_calls _ _).mono ?_; rintro e w1 ⟨rfl, ⟨n1, rfl⟩⟩) | (go_at_call 74; refine (hm.out _).mono ?_; rintro e w3 ⟨rfl, hp⟩; have hp := hide hp))
  go_end0
  exact hp.out
theorem rnext_slash (b : Nat) (l : Bs) (i : Nat) (v : Value) (acc : List Tok) (tx : Nat) (w : World) (c : UInt8) (t : Bs) (hs : l.length ≤ 65536) (hd : l.drop i = c :: t) (ha : acc.length ≤ 65536) (h : Rs w b l i v acc tx 0 0) (fp : permitted c = true) (fb : Tk.blank c = false) (f37 : ((c.toNat : Int) == 37) = false) (f47 : ((c.toNat : Int) == 47) = true) (f42 : (((pk l (i + 1)).toNat : Int) == 42) = false) (fs : small c = false) (fu : capital c = false) (fd : digit c = false) (f39 : ((c.toNat : Int) == 39) = false) (f34 : ((c.toNat : Int) == 34) = false) (f59 : ((c.toNat : Int) == 59) = false) (f33 : ((c.toNat : Int) == 33) = false) (fg : sign c = true) :
    Calls Tryz.prog 23 #[.pointer (some ⟨b, 0, none⟩)] w (RsPost w b l (signsNR l acc i (i + spanLen sign (l.drop i)))) := by
  have hz := size_B l
  have h0 := h.c0
  have h1 := h.c1
  have r1 := h.fr 1
  have hb := B_get hd
  obtain ⟨hl, -, -⟩ := drop_at hd
  obtain ⟨R, hR⟩ : ∃ R, R = RsPost w b l (signsNR l acc i (i + spanLen sign (l.drop i))) := ⟨_, rfl⟩
  rw [← hR]
  have HN : ∀ m, Rs (w.drewN m) b l i v acc tx 0 0 ∧ Below b w (w.drewN m) := fun m => ⟨h.drewN m, below_drewN b w m⟩
  have hm := hide (fun m => show Calls Tryz.prog 74 #[.pointer (some ⟨b, 0, none⟩)] (w.drewN m) (fun e w' => e = .returned (.tuple #[]) ∧ R e w') from (by rw [hR]; exact post_ret (HN m).2 (rsigns_calls b l i v acc tx _ hs (by omega) ha (HN m).1)))
  replace hR := hide hR
  replace HN := hide HN
  clear h hd
  go_enter Tryz.func23, Tryz.ntmps23
  go_wp2
  go_quiet (fail)
  go_wp2_with (first | (go_at_call 62; refine (rByte_calls _ _).mono ?_; rintro e w1 ⟨rfl, ⟨n1, rfl⟩⟩) | (go_at_call 64; refine (rblank_calls _ _).mono ?_; rintro e w1 ⟨rfl, rfl⟩) | (go_at_call 65; refine (rat_any b l _ _ hs (by omega) (by omega) (by exact h0)).mono ?_; rintro e w1 ⟨rfl, rfl⟩) | (go_at_call 67; refine (rsmall_calls _ _).mono ?_; rintro e w1 ⟨rfl, ⟨n1, rfl⟩⟩) | (go_at_call 39; refine (rcapital_calls _ _).mono ?_; rintro e w1 ⟨rfl, ⟨n1, rfl⟩⟩) | (go_at_call 41; refine (rdigit_calls _ _).mono ?_; rintro e w1 ⟨rfl, ⟨n1, rfl⟩⟩) | (go_at_call 73; refine (rsign_calls _ _).mono ?_; rintro e w1 ⟨rfl, ⟨n1, rfl⟩⟩) | (go_at_call 74; refine (hm.out _).mono ?_; rintro e w3 ⟨rfl, hp⟩; have hp := hide hp))
  go_end0
  exact hp.out
theorem rnext_call (b : Nat) (l : Bs) (i : Nat) (v : Value) (acc : List Tok) (tx : Nat) (w : World) (c : UInt8) (t : Bs) (hs : l.length ≤ 65536) (hd : l.drop i = c :: t) (ha : acc.length ≤ 65536) (h : Rs w b l i v acc tx 0 0) (fp : permitted c = true) (fb : Tk.blank c = false) (f37 : ((c.toNat : Int) == 37) = false) (f47 : ((c.toNat : Int) == 47) = false) (fs : small c = false) (fu : capital c = false) (fd : digit c = false) (f39 : ((c.toNat : Int) == 39) = false) (f34 : ((c.toNat : Int) == 34) = false) (f59 : ((c.toNat : Int) == 59) = false) (f33 : ((c.toNat : Int) == 33) = false) (fg : sign c = false) (f40 : ((c.toNat : Int) == 40) = true) (fc : calledR acc tx i = true) :
    Calls Tryz.prog 23 #[.pointer (some ⟨b, 0, none⟩)] w (RsPost w b l (addNR acc i 6 [40, 40] (i + 1))) := by
  have hz := size_B l
  have h0 := h.c0
  have h1 := h.c1
  have r1 := h.fr 1
  have hb := B_get hd
  obtain ⟨hl, -, -⟩ := drop_at hd
  obtain ⟨R, hR⟩ : ∃ R, R = RsPost w b l (addNR acc i 6 [40, 40] (i + 1)) := ⟨_, rfl⟩
  rw [← hR]
  have HN : ∀ m, Rs (w.drewN m) b l i v acc tx 0 0 ∧ Below b w (w.drewN m) := fun m => ⟨h.drewN m, below_drewN b w m⟩
  have hm := hide (fun m => add_one 6 [40, 40] (i + 1) hR (by decide) ha (HN m).1 (HN m).2)
  have hcl := hide (fun m => rcalled_calls b l i v acc tx 0 0 (w.drewN m) ha (HN m).1)
  replace hR := hide hR
  replace HN := hide HN
  clear h hd
  go_enter Tryz.func23, Tryz.ntmps23
  go_wp2
  go_quiet (fail)
  go_wp2_with (first | (go_at_call 62; refine (rByte_calls _ _).mono ?_; rintro e w1 ⟨rfl, ⟨n1, rfl⟩⟩) | (go_at_call 64; refine (rblank_calls _ _).mono ?_; rintro e w1 ⟨rfl, rfl⟩) | (go_at_call 65; refine (rat_any b l _ _ hs (by omega) (by omega) (by exact h0)).mono ?_; rintro e w1 ⟨rfl, rfl⟩) | (go_at_call 67; refine (rsmall_calls _ _).mono ?_; rintro e w1 ⟨rfl, ⟨n1, rfl⟩⟩) | (go_at_call 39; refine (rcapital_calls _ _).mono ?_; rintro e w1 ⟨rfl, ⟨n1, rfl⟩⟩) | (go_at_call 41; refine (rdigit_calls _ _).mono ?_; rintro e w1 ⟨rfl, ⟨n1, rfl⟩⟩) | (go_at_call 73; refine (rsign_calls _ _).mono ?_; rintro e w1 ⟨rfl, ⟨n1, rfl⟩⟩) | (go_at_call 75; refine (hcl.out _).mono ?_; rintro e w1 ⟨rfl, ⟨n1, rfl⟩⟩) | (go_at_call 70; refine (hm.out _).mono ?_; rintro e w3 ⟨rfl, hp⟩; have hp := hide hp))
  go_end0
  exact hp.out
theorem rnext_open (b : Nat) (l : Bs) (i : Nat) (v : Value) (acc : List Tok) (tx : Nat) (w : World) (c : UInt8) (t : Bs) (hs : l.length ≤ 65536) (hd : l.drop i = c :: t) (ha : acc.length ≤ 65536) (h : Rs w b l i v acc tx 0 0) (j : Nat) (hj : j = i + 1) (fp : permitted c = true) (fb : Tk.blank c = false) (f37 : ((c.toNat : Int) == 37) = false) (f47 : ((c.toNat : Int) == 47) = false) (fs : small c = false) (fu : capital c = false) (fd : digit c = false) (f39 : ((c.toNat : Int) == 39) = false) (f34 : ((c.toNat : Int) == 34) = false) (f59 : ((c.toNat : Int) == 59) = false) (f33 : ((c.toNat : Int) == 33) = false) (fg : sign c = false) (f40 : ((c.toNat : Int) == 40) = true) (fc : calledR acc tx i = false) (fh : ([40, 41, 91, 93, 123, 125, 44, 124] : Bs).contains c = true) :
    Calls Tryz.prog 23 #[.pointer (some ⟨b, 0, none⟩)] w (RsPost w b l (addNR acc i 6 [c] j)) := by
  have hz := size_B l
  have h0 := h.c0
  have h1 := h.c1
  have r1 := h.fr 1
  have hb := B_get hd
  obtain ⟨hl, -, -⟩ := drop_at hd
  obtain ⟨R, hR⟩ : ∃ R, R = RsPost w b l (addNR acc i 6 [c] j) := ⟨_, rfl⟩
  rw [← hR]
  have HN : ∀ m, Rs (w.drewN m) b l i v acc tx 0 0 ∧ Below b w (w.drewN m) := fun m => ⟨h.drewN m, below_drewN b w m⟩
  have hcut : cut l i j = [c] := by unfold cut; rw [hd, hj, show i + 1 - i = 1 by omega]; rfl
  rw [← hcut] at hR
  have ew1 : IntKind.i64.wrap ((i : Int) + 1) = (j : Int) := by rw [IntKind.wrap_i64]; omega
  have hij : i ≤ j := by omega
  have hjl : j ≤ l.length := by omega
  have hm := hide (fun m => add_ret (k := 6) hR rfl (l.length) hs (by omega) ha (HN m).1 (HN m).2)
  clear hj
  have hcl := hide (fun m => rcalled_calls b l i v acc tx 0 0 (w.drewN m) ha (HN m).1)
  have hhas := hide (rhas_as [40, 41, 91, 93, 123, 125, 44, 124] c _ (by decide) fh)
  clear fh
  replace hR := hide hR
  replace HN := hide HN
  clear h hd
  go_enter Tryz.func23, Tryz.ntmps23
  go_wp2
  go_quiet (fail)
  go_wp2_with (first | (go_at_call 62; refine (rByte_calls _ _).mono ?_; rintro e w1 ⟨rfl, ⟨n1, rfl⟩⟩) | (go_at_call 64; refine (rblank_calls _ _).mono ?_; rintro e w1 ⟨rfl, rfl⟩) | (go_at_call 65; refine (rat_any b l _ _ hs (by omega) (by omega) (by exact h0)).mono ?_; rintro e w1 ⟨rfl, rfl⟩) | (go_at_call 67; refine (rsmall_calls _ _).mono ?_; rintro e w1 ⟨rfl, ⟨n1, rfl⟩⟩) | (go_at_call 39; refine (rcapital_calls _ _).mono ?_; rintro e w1 ⟨rfl, ⟨n1, rfl⟩⟩) | (go_at_call 41; refine (rdigit_calls _ _).mono ?_; rintro e w1 ⟨rfl, ⟨n1, rfl⟩⟩) | (go_at_call 73; refine (rsign_calls _ _).mono ?_; rintro e w1 ⟨rfl, ⟨n1, rfl⟩⟩) | (go_at_call 75; refine (hcl.out _).mono ?_; rintro e w1 ⟨rfl, ⟨n1, rfl⟩⟩) | (go_at_call 38; refine (hhas.out _).mono ?_; rintro e w1 ⟨rfl, ⟨n1, rfl⟩⟩))
  refine tail_drew 20 (by kernel_rfl) (by kernel_rfl) ?_
  simp only [List.take_succ_cons, List.take_zero, List.drop_succ_cons, List.drop_zero]
  repeat still_step
  refine wpStill_nil ?_
  go_wp2_with (go_at_call 70; refine (hm.out _).mono ?_; rintro e w3 ⟨rfl, hp⟩; have hp := hide hp)
  go_end0
  exact hp.out
theorem rnext_punct (b : Nat) (l : Bs) (i : Nat) (v : Value) (acc : List Tok) (tx : Nat) (w : World) (c : UInt8) (t : Bs) (hs : l.length ≤ 65536) (hd : l.drop i = c :: t) (ha : acc.length ≤ 65536) (h : Rs w b l i v acc tx 0 0) (j : Nat) (hj : j = i + 1) (fp : permitted c = true) (fb : Tk.blank c = false) (f37 : ((c.toNat : Int) == 37) = false) (f47 : ((c.toNat : Int) == 47) = false) (fs : small c = false) (fu : capital c = false) (fd : digit c = false) (f39 : ((c.toNat : Int) == 39) = false) (f34 : ((c.toNat : Int) == 34) = false) (f59 : ((c.toNat : Int) == 59) = false) (f33 : ((c.toNat : Int) == 33) = false) (fg : sign c = false) (f40 : ((c.toNat : Int) == 40) = false) (fh : ([40, 41, 91, 93, 123, 125, 44, 124] : Bs).contains c = true) :
    Calls Tryz.prog 23 #[.pointer (some ⟨b, 0, none⟩)] w (RsPost w b l (addNR acc i 6 [c] j)) := by
  have hz := size_B l
  have h0 := h.c0
  have h1 := h.c1
  have r1 := h.fr 1
  have hb := B_get hd
  obtain ⟨hl, -, -⟩ := drop_at hd
  obtain ⟨R, hR⟩ : ∃ R, R = RsPost w b l (addNR acc i 6 [c] j) := ⟨_, rfl⟩
  rw [← hR]
  have HN : ∀ m, Rs (w.drewN m) b l i v acc tx 0 0 ∧ Below b w (w.drewN m) := fun m => ⟨h.drewN m, below_drewN b w m⟩
  have hcut : cut l i j = [c] := by unfold cut; rw [hd, hj, show i + 1 - i = 1 by omega]; rfl
  rw [← hcut] at hR
  have ew1 : IntKind.i64.wrap ((i : Int) + 1) = (j : Int) := by rw [IntKind.wrap_i64]; omega
  have hij : i ≤ j := by omega
  have hjl : j ≤ l.length := by omega
  have hm := hide (fun m => add_ret (k := 6) hR rfl (l.length) hs (by omega) ha (HN m).1 (HN m).2)
  clear hj
  have hhas := hide (rhas_as [40, 41, 91, 93, 123, 125, 44, 124] c _ (by decide) fh)
  clear fh
  replace hR := hide hR
  replace HN := hide HN
  clear h hd
  go_enter Tryz.func23, Tryz.ntmps23
  go_wp2
  go_quiet (fail)
  go_wp2_with (first | (go_at_call 62; refine (rByte_calls _ _).mono ?_; rintro e w1 ⟨rfl, ⟨n1, rfl⟩⟩) | (go_at_call 64; refine (rblank_calls _ _).mono ?_; rintro e w1 ⟨rfl, rfl⟩) | (go_at_call 65; refine (rat_any b l _ _ hs (by omega) (by omega) (by exact h0)).mono ?_; rintro e w1 ⟨rfl, rfl⟩) | (go_at_call 67; refine (rsmall_calls _ _).mono ?_; rintro e w1 ⟨rfl, ⟨n1, rfl⟩⟩) | (go_at_call 39; refine (rcapital_calls _ _).mono ?_; rintro e w1 ⟨rfl, ⟨n1, rfl⟩⟩) | (go_at_call 41; refine (rdigit_calls _ _).mono ?_; rintro e w1 ⟨rfl, ⟨n1, rfl⟩⟩) | (go_at_call 73; refine (rsign_calls _ _).mono ?_; rintro e w1 ⟨rfl, ⟨n1, rfl⟩⟩) | (go_at_call 38; refine (hhas.out _).mono ?_; rintro e w1 ⟨rfl, ⟨n1, rfl⟩⟩))
  refine tail_drew 20 (by kernel_rfl) (by kernel_rfl) ?_
  simp only [List.take_succ_cons, List.take_zero, List.drop_succ_cons, List.drop_zero]
  repeat still_step
  refine wpStill_nil ?_
  go_wp2_with (go_at_call 70; refine (hm.out _).mono ?_; rintro e w3 ⟨rfl, hp⟩; have hp := hide hp)
  go_end0
  exact hp.out
theorem rnext_none (b : Nat) (l : Bs) (i : Nat) (v : Value) (acc : List Tok) (tx : Nat) (w : World) (c : UInt8) (t : Bs) (hs : l.length ≤ 65536) (hd : l.drop i = c :: t) (ha : acc.length ≤ 65536) (h : Rs w b l i v acc tx 0 0) (fp : permitted c = true) (fb : Tk.blank c = false) (f37 : ((c.toNat : Int) == 37) = false) (f47 : ((c.toNat : Int) == 47) = false) (fs : small c = false) (fu : capital c = false) (fd : digit c = false) (f39 : ((c.toNat : Int) == 39) = false) (f34 : ((c.toNat : Int) == 34) = false) (f59 : ((c.toNat : Int) == 59) = false) (f33 : ((c.toNat : Int) == 33) = false) (fg : sign c = false) (f40 : ((c.toNat : Int) == 40) = false) (fh : ([40, 41, 91, 93, 123, 125, 44, 124] : Bs).contains c = false) :
    Calls Tryz.prog 23 #[.pointer (some ⟨b, 0, none⟩)] w (RsPost w b l (.bad i 2)) := by
  have hz := size_B l
  have h0 := h.c0
  have h1 := h.c1
  have r1 := h.fr 1
  have hb := B_get hd
  obtain ⟨hl, -, -⟩ := drop_at hd
  obtain ⟨R, hR⟩ : ∃ R, R = RsPost w b l (.bad i 2) := ⟨_, rfl⟩
  rw [← hR]
  have HN : ∀ m, Rs (w.drewN m) b l i v acc tx 0 0 ∧ Below b w (w.drewN m) := fun m => ⟨h.drewN m, below_drewN b w m⟩
  have hm := hide (fun m => fail_ret 2 i hR (HN m).1 (HN m).2)
  have hhas := hide (rhas_as [40, 41, 91, 93, 123, 125, 44, 124] c _ (by decide) fh)
  clear fh
  replace hR := hide hR
  replace HN := hide HN
  clear h hd
  go_enter Tryz.func23, Tryz.ntmps23
  go_wp2
  go_quiet (fail)
  go_wp2_with (first | (go_at_call 62; refine (rByte_calls _ _).mono ?_; rintro e w1 ⟨rfl, ⟨n1, rfl⟩⟩) | (go_at_call 64; refine (rblank_calls _ _).mono ?_; rintro e w1 ⟨rfl, rfl⟩) | (go_at_call 65; refine (rat_any b l _ _ hs (by omega) (by omega) (by exact h0)).mono ?_; rintro e w1 ⟨rfl, rfl⟩) | (go_at_call 67; refine (rsmall_calls _ _).mono ?_; rintro e w1 ⟨rfl, ⟨n1, rfl⟩⟩) | (go_at_call 39; refine (rcapital_calls _ _).mono ?_; rintro e w1 ⟨rfl, ⟨n1, rfl⟩⟩) | (go_at_call 41; refine (rdigit_calls _ _).mono ?_; rintro e w1 ⟨rfl, ⟨n1, rfl⟩⟩) | (go_at_call 73; refine (rsign_calls _ _).mono ?_; rintro e w1 ⟨rfl, ⟨n1, rfl⟩⟩) | (go_at_call 38; refine (hhas.out _).mono ?_; rintro e w1 ⟨rfl, ⟨n1, rfl⟩⟩) | (go_at_call 63; refine (hm.out _).mono ?_; rintro e w3 ⟨rfl, hp⟩; have hp := hide hp))
  go_end0
  exact hp.out
end
end Go.Proofs.YtgeonilideojnaaGreatDoor.Rs
end
section
namespace Go.Proofs.YtgeonilideojnaaGreatDoor.Rs
open Go Go.RowKit Tk Go.Proofs.YtgeonilideojnaaGreatDoor.Pr Go.Proofs.YtgeonilideojnaaGreatDoorW.PrintWords Go.Proofs.YtgeonilideojnaaGreatDoor.Rf
set_option linter.unusedVariables false
set_option linter.unusedSimpArgs false
def tokNR (acc : List Tok) (tx i : Nat) : Tk.R Tok → NR
  | .bad a e => .bad a e
  | .ok t m => addNR acc i t.kind (if t.kind = 6 ∧ t.text = [40] ∧ calledR acc tx i = true then [40, 40] else t.text) m
def nextNR (l : Bs) (acc : List Tok) (tx i : Nat) (c : UInt8) : NR :=
  if !permitted c then .bad i 2
  else if Tk.blank c then .ok (i + 1) acc tx
  else if c = 37 then toNR acc tx (clineR (i + 1) (l.drop (i + 1)))
  else if c = 47 ∧ pk l (i + 1) = 42 then toNR acc tx (cblockR i (i + 2) 0 (l.drop (i + 2)))
  else tokNR acc tx i (tokenRaw l i c)
theorem tokNR_ok {acc : List Tok} {tx i : Nat} {k : Int} {s : Bs} {a : Int} {m : Nat} (h : k ≠ 6) : tokNR acc tx i (.ok ⟨k, s, a⟩ m) = addNR acc i k s m := by
  unfold tokNR
  simp only
  rw [if_neg (fun e => h e.1)]
theorem quotedNR_tok {l : Bs} {acc : List Tok} {tx i : Nat} {q : UInt8} (hq : q = 34 ∨ q = 39) : tokNR acc tx i (tokenRaw l i q) = quotedNR q acc i (quotedS q (escOf q) l i) := by
  rcases hq with rfl | rfl
  · unfold tokenRaw
    rw [if_neg (by decide), if_neg (by decide), if_neg (by simp), if_neg (by decide), if_pos rfl]
    show tokNR acc tx i (match quotedS 34 [110, 116, 92, 34] l i with | .ok s j => .ok ⟨5, s, i⟩ j | .bad a e => .bad a e) = quotedNR 34 acc i (quotedS 34 [110, 116, 92, 34] l i)
    cases quotedS 34 [110, 116, 92, 34] l i with
    | bad a e => rfl
    | ok s j =>
      simp only
      rw [tokNR_ok (by decide)]
      rfl
  · unfold tokenRaw
    rw [if_neg (by decide), if_neg (by decide), if_neg (by simp), if_neg (by decide), if_neg (by decide), if_pos rfl]
    show tokNR acc tx i (match quotedS 39 [92, 39] l i with | .ok s j => if s = [] || s.contains 46 then .bad i 11 else .ok ⟨1, s, i⟩ j | .bad a e => .bad a e) = quotedNR 39 acc i (quotedS 39 [92, 39] l i)
    cases quotedS 39 [92, 39] l i with
    | bad a e => rfl
    | ok s j =>
      simp only [quotedNR, if_true]
      split
      · rfl
      · rw [tokNR_ok (by decide)]
theorem charNR_tok {l : Bs} {acc : List Tok} {tx i : Nat} (hp : pk l (i + 1) = 39) : tokNR acc tx i (tokenRaw l i 48) = charNR acc i (charS l i) := by
  unfold tokenRaw
  rw [if_neg (by decide), if_neg (by decide), if_pos (by simp [hp])]
  cases charS l i with
  | bad a e => rfl
  | ok s j =>
    simp only
    rw [tokNR_ok (by decide)]
    rfl
section
variable {b : Nat} {l : Bs} {i : Nat} {v : Value} {acc : List Tok} {tx : Nat} {w : World} {c : UInt8} {t : Bs}
theorem rnext_calls (hs : l.length ≤ 65536) (hd : l.drop i = c :: t) (ha : acc.length ≤ 65536) (h : Rs w b l i v acc tx 0 0) :
    Calls Tryz.prog 23 #[.pointer (some ⟨b, 0, none⟩)] w (RsPost w b l (nextNR l acc tx i c)) := by
  obtain ⟨hl, -, ht⟩ := drop_at hd
  unfold nextNR
  cases fp : permitted c with
  | false => exact rnext_form b l i v acc tx w c t hs hd ha h fp
  | true =>
  rw [if_neg (by simp)]
  cases fb : Tk.blank c with
  | true => exact rnext_blank b l i v acc tx w c t hs hd ha h fp fb
  | false =>
  rw [if_neg (by simp)]
  by_cases h37 : c = 37
  · rw [if_pos h37]
    exact rnext_line b l i v acc tx w c t hs hd ha h (h37 ▸ hd) fp fb (is_yes (d := 37) rfl h37)
  have f37 : ((c.toNat : Int) == 37) = false := is_no (d := 37) rfl h37
  rw [if_neg h37]
  by_cases h47 : c = 47 ∧ pk l (i + 1) = 42
  · rw [if_pos h47]
    have h2l : i + 1 < l.length := pk_lt (p := fun x => x == 42) (l := l) (i := i + 1) rfl (by simp [h47.2])
    have ht' : t = 42 :: l.drop (i + 2) := by
      have e : l.drop (i + 1) = l[i + 1] :: l.drop (i + 2) := List.drop_eq_getElem_cons h2l
      have e2 : l[i + 1] = 42 := by
        have := pk_cons e
        rw [← this, h47.2]
      rw [← ht, e, e2]
    refine rnext_block b l i v acc tx w c t hs hd ha h (l.drop (i + 2)) ?_ fp fb f37 (is_yes (d := 47) rfl h47.1) (is_yes (d := 42) rfl h47.2)
    rw [hd, h47.1, ← ht']
  rw [if_neg h47]
  cases fs : small c with
  | true =>
    have e := Bk.small_facts fs
    have : tokNR acc tx i (tokenRaw l i c) = addNR acc i 1 (cut l i (i + nameLen (l.drop i))) (i + nameLen (l.drop i)) := by
      unfold tokenRaw
      rw [if_pos fs, tokNR_ok (by decide)]
    rw [this]
    exact rnext_name b l i v acc tx w c t hs hd ha h fp fb f37 (is_no (d := 47) rfl e.2.2) fs
  | false =>
  cases fu : capital c with
  | true =>
    have e := Bk.capital_facts fu
    have : tokNR acc tx i (tokenRaw l i c) = addNR acc i 2 (cut l i (i + spanLen letter (l.drop i))) (i + spanLen letter (l.drop i)) := by
      unfold tokenRaw
      rw [if_neg (by simp [fs]), if_pos fu, tokNR_ok (by decide)]
    rw [this]
    have hsl := Tk.spanLen_le letter l i
    exact rnext_var b l i v acc tx w c t hs hd ha h _ rfl (by omega) (by omega) fp fb f37 (is_no (d := 47) rfl e.2.2.2) fs fu
  | false =>
  cases fd : digit c with
  | true =>
    have e := Bk.digit_facts fd
    have f47 : ((c.toNat : Int) == 47) = false := is_no (d := 47) rfl e.2.2.2.2.1
    by_cases hch : c = 48 ∧ pk l (i + 1) = 39
    · have : tokNR acc tx i (tokenRaw l i c) = charNR acc i (charS l i) := by rw [hch.1]; exact charNR_tok hch.2
      rw [this]
      exact rnext_char b l i v acc tx w c t hs hd ha h hch fp fb f37 f47 fs fu fd
    · have : tokNR acc tx i (tokenRaw l i c) = addNR acc i 3 (cut l i (i + spanLen digit (l.drop i))) (i + spanLen digit (l.drop i)) := by
        unfold tokenRaw
        rw [if_neg (by simp [fs]), if_neg (by simp [fu]), if_neg (by simpa using hch), if_pos fd, tokNR_ok (by decide)]
      rw [this]
      exact rnext_int b l i v acc tx w c t hs hd ha h hch fp fb f37 f47 fs fu fd
  | false =>
  have hch : ¬ (c = 48 ∧ pk l (i + 1) = 39) := by
    rintro ⟨rfl, _⟩
    revert fd
    decide
  by_cases h39 : c = 39
  · rw [quotedNR_tok (.inr h39)]
    exact rnext_quoted39 b l i v acc tx w c t hs hd ha h (.inr h39) fp fb f37 (is_no (d := 47) rfl (by rw [h39]; decide)) fs fu fd (is_yes (d := 39) rfl h39)
  have f39 : ((c.toNat : Int) == 39) = false := is_no (d := 39) rfl h39
  by_cases h34 : c = 34
  · rw [quotedNR_tok (.inl h34)]
    exact rnext_quoted34 b l i v acc tx w c t hs hd ha h (.inl h34) fp fb f37 (is_no (d := 47) rfl (by rw [h34]; decide)) fs fu fd f39 (is_yes (d := 34) rfl h34)
  have f34 : ((c.toNat : Int) == 34) = false := is_no (d := 34) rfl h34
  have raw : tokenRaw l i c = if ([40, 41, 91, 93, 123, 125, 44, 124] : Bs).contains c then .ok ⟨6, [c], i⟩ (i + 1) else if c = 59 || c = 33 || sign c then
      (if cut l i (namedEnd l i c) = [46] then (match l.drop (namedEnd l i c) with
        | [] => .ok ⟨7, [46], i⟩ (namedEnd l i c)
        | d :: _ => if !Tk.blank d && d ≠ 37 then .bad i 11 else .ok ⟨7, [46], i⟩ (namedEnd l i c))
      else .ok ⟨1, cut l i (namedEnd l i c), i⟩ (namedEnd l i c)) else .bad i 2 := by
    conv => lhs; unfold tokenRaw
    rw [if_neg (by simp [fs]), if_neg (by simp [fu]), if_neg (by simpa using hch), if_neg (by simp [fd]), if_neg h34, if_neg h39]
    rfl
  by_cases h59 : c = 59
  · subst h59
    have hcut : cut l i (i + 1) = [59] := by unfold cut; rw [hd, show i + 1 - i = 1 by omega]; rfl
    have : tokNR acc tx i (tokenRaw l i 59) = addNR acc i 1 [59] (i + 1) := by
      rw [raw, if_neg (by decide), if_pos (by decide)]
      unfold namedEnd
      simp only [show ¬ ((59 : UInt8) = 33) by decide, decide_false, Bool.false_and, Bool.false_eq_true, if_false, ne_eq, not_true, decide_true, hcut]
      rw [if_neg (by decide), tokNR_ok (by decide)]
    rw [this]
    exact rnext_semi b l i v acc tx w 59 t hs hd ha h fp fb f37 (by decide) fs fu fd f39 f34 (by decide)
  have f59 : ((c.toNat : Int) == 59) = false := is_no (d := 59) rfl h59
  by_cases h33 : c = 33
  · subst h33
    have key : ∀ k, namedEnd l i 33 = i + k → (k = 1 ∨ k = 2) → tokNR acc tx i (tokenRaw l i 33) = addNR acc i 1 (cut l i (i + k)) (i + k) := by
      intro k hk hk2
      rw [raw, if_neg (by decide), if_pos (by decide), hk, if_neg, tokNR_ok (by decide)]
      obtain ⟨u, hu⟩ := Tk.cut_head hd (j := i + k) (by omega)
      rw [hu]
      intro e
      injection e with e _
      revert e
      decide
    have n33 : ∀ x : UInt8, x = 33 → True := fun _ _ => trivial
    have hne : namedEnd l i 33 = if ((pk l (i + 1) == 46 || pk l (i + 1) == 58) && capital (pk l (i + 2))) = true then i + 2 else i + 1 := by
      unfold namedEnd
      simp
    have len2 : capital (pk l (i + 2)) = true → i + 2 ≤ l.length := fun hc => Nat.le_of_lt (pk_lt (p := capital) (l := l) (i := i + 2) rfl hc)
    cases fq : capital (pk l (i + 2)) with
    | true =>
      by_cases h46 : pk l (i + 1) = 46
      · rw [key 2 (by rw [hne, fq, h46]; rfl) (.inr rfl)]
        exact rnext_bang46 b l i v acc tx w 33 t hs hd ha h _ rfl (by omega) (len2 fq) fp fb f37 (by decide) fs fu fd f39 f34 f59 (by decide) (is_yes (d := 46) rfl h46) fq
      by_cases h58 : pk l (i + 1) = 58
      · rw [key 2 (by rw [hne, fq, h58]; rfl) (.inr rfl)]
        exact rnext_bang58 b l i v acc tx w 33 t hs hd ha h _ rfl (by omega) (len2 fq) fp fb f37 (by decide) fs fu fd f39 f34 f59 (by decide) (is_no (d := 46) rfl h46) (is_yes (d := 58) rfl h58) fq
      · rw [key 1 (by rw [hne]; simp [h46, h58]) (.inl rfl)]
        exact rnext_bang b l i v acc tx w 33 t hs hd ha h _ rfl (by omega) (by omega) fp fb f37 (by decide) fs fu fd f39 f34 f59 (by decide) (is_no (d := 46) rfl h46) (is_no (d := 58) rfl h58)
    | false =>
      rw [key 1 (by rw [hne, fq]; simp) (.inl rfl)]
      by_cases h46 : pk l (i + 1) = 46
      · exact rnext_bang46n b l i v acc tx w 33 t hs hd ha h _ rfl (by omega) (by omega) fp fb f37 (by decide) fs fu fd f39 f34 f59 (by decide) (is_yes (d := 46) rfl h46) fq
      by_cases h58 : pk l (i + 1) = 58
      · exact rnext_bang58n b l i v acc tx w 33 t hs hd ha h _ rfl (by omega) (by omega) fp fb f37 (by decide) fs fu fd f39 f34 f59 (by decide) (is_no (d := 46) rfl h46) (is_yes (d := 58) rfl h58) fq
      · exact rnext_bang b l i v acc tx w 33 t hs hd ha h _ rfl (by omega) (by omega) fp fb f37 (by decide) fs fu fd f39 f34 f59 (by decide) (is_no (d := 46) rfl h46) (is_no (d := 58) rfl h58)
  have f33 : ((c.toNat : Int) == 33) = false := is_no (d := 33) rfl h33
  cases fg : sign c with
  | true =>
    have e := Bk.sign_facts fg
    have hne : namedEnd l i c = i + spanLen sign (l.drop i) := by
      unfold namedEnd
      rw [if_neg (by simp [h33]), if_pos (by simp [h59, h33]), hd, ht]
      simp only [spanLen, fg, if_true]
      omega
    have : tokNR acc tx i (tokenRaw l i c) = signsNR l acc i (i + spanLen sign (l.drop i)) := by
      rw [raw, if_neg (by rw [e.2.2.2.2.2.2.2.2.2.2]; decide), if_pos (by simp [fg]), hne]
      unfold signsNR
      by_cases hq : cut l i (i + spanLen sign (l.drop i)) = [46]
      · rw [if_pos hq, if_pos hq]
        cases l.drop (i + spanLen sign (l.drop i)) with
        | nil => exact tokNR_ok (by decide)
        | cons d u =>
          simp only
          by_cases hx : (!Tk.blank d && decide (d ≠ 37)) = true
          · rw [if_pos hx, if_pos hx]
            rfl
          · rw [if_neg hx, if_neg hx]
            exact tokNR_ok (by decide)
      · rw [if_neg hq, if_neg hq]
        exact tokNR_ok (by decide)
    rw [this]
    by_cases hc47 : c = 47
    · have hn42 : pk l (i + 1) ≠ 42 := fun e => h47 ⟨hc47, e⟩
      exact rnext_slash b l i v acc tx w c t hs hd ha h fp fb f37 (is_yes (d := 47) rfl hc47) (is_no (d := 42) rfl hn42) fs fu fd f39 f34 f59 f33 fg
    · exact rnext_sign b l i v acc tx w c t hs hd ha h fp fb f37 (is_no (d := 47) rfl hc47) fs fu fd f39 f34 f59 f33 fg
  | false =>
  have hc47 : c ≠ 47 := by
    rintro rfl
    revert fg
    decide
  have f47 : ((c.toNat : Int) == 47) = false := is_no (d := 47) rfl hc47
  cases fh : ([40, 41, 91, 93, 123, 125, 44, 124] : Bs).contains c with
  | true =>
    by_cases h40 : c = 40
    · have f40 : ((c.toNat : Int) == 40) = true := is_yes (d := 40) rfl h40
      cases fc : calledR acc tx i with
      | true =>
        have : tokNR acc tx i (tokenRaw l i c) = addNR acc i 6 [40, 40] (i + 1) := by
          rw [raw, if_pos fh]
          unfold tokNR
          simp only
          rw [if_pos ⟨trivial, by rw [h40], fc⟩]
        rw [this]
        exact rnext_call b l i v acc tx w c t hs hd ha h fp fb f37 f47 fs fu fd f39 f34 f59 f33 fg f40 fc
      | false =>
        have : tokNR acc tx i (tokenRaw l i c) = addNR acc i 6 [c] (i + 1) := by
          rw [raw, if_pos fh]
          unfold tokNR
          simp only
          rw [if_neg (by rw [fc]; simp)]
        rw [this]
        exact rnext_open b l i v acc tx w c t hs hd ha h _ rfl fp fb f37 f47 fs fu fd f39 f34 f59 f33 fg f40 fc fh
    · have : tokNR acc tx i (tokenRaw l i c) = addNR acc i 6 [c] (i + 1) := by
        rw [raw, if_pos fh]
        unfold tokNR
        simp only
        rw [if_neg (by simp [h40])]
      rw [this]
      exact rnext_punct b l i v acc tx w c t hs hd ha h _ rfl fp fb f37 f47 fs fu fd f39 f34 f59 f33 fg (is_no (d := 40) rfl h40) fh
  | false =>
    have h40 : c ≠ 40 := by
      rintro rfl
      revert fh
      decide
    have : tokNR acc tx i (tokenRaw l i c) = .bad i 2 := by
      rw [raw, if_neg (by rw [fh]; decide), if_neg (by simp [h59, h33, fg])]
      rfl
    rw [this]
    exact rnext_none b l i v acc tx w c t hs hd ha h fp fb f37 f47 fs fu fd f39 f34 f59 f33 fg (is_no (d := 40) rfl h40) fh
end
end Go.Proofs.YtgeonilideojnaaGreatDoor.Rs
end
section
namespace Go.Proofs.YtgeonilideojnaaGreatDoor.Rs
open Tk
set_option linter.unusedVariables false
set_option linter.unusedSimpArgs false
def midS (l : Bs) (k p : Nat) (acc : List Tok) (tx : Nat) : Res :=
  match skipR 0 0 p (l.drop p) with
  | .bad a e => .fault a e
  | .ok _ j => match tokenS l j with
    | .bad a e => .fault a e
    | .ok t m => if t.kind = 0 then .toks (acc ++ [called acc tx t]) else loopS l k m (acc ++ [called acc tx t])
theorem loop_mid (l : Bs) (k i : Nat) (acc : List Tok) : loopS l (k + 1) i acc = midS l k i acc i := by
  conv => lhs; unfold loopS
  rfl
theorem mid_same {l : Bs} {k p p' tx : Nat} {acc : List Tok} (h : skipR 0 0 p (l.drop p) = skipR 0 0 p' (l.drop p')) : midS l k p acc tx = midS l k p' acc tx := by
  unfold midS
  rw [h]
theorem mid_bad {l : Bs} {k p tx a e : Nat} {acc : List Tok} (h : skipR 0 0 p (l.drop p) = .bad a e) : midS l k p acc tx = .fault a e := by
  unfold midS
  rw [h]
theorem raw_form {l : Bs} {p : Nat} {c : UInt8} (h : permitted c = false) : tokenRaw l p c = .bad p 2 := by
  have hs : small c = false := by
    cases hs : small c with
    | false => rfl
    | true =>
      exfalso
      simp [small, permitted] at hs h
      omega
  have hu : capital c = false := by
    cases hs : capital c with
    | false => rfl
    | true =>
      exfalso
      simp [capital, permitted] at hs h
      omega
  have hd : digit c = false := by
    cases hs : digit c with
    | false => rfl
    | true =>
      exfalso
      simp [digit, permitted] at hs h
      omega
  have ne : ∀ d : UInt8, permitted d = true → c ≠ d := by
    rintro d hd rfl
    rw [h] at hd
    cases hd
  have hg : sign c = false := by
    cases hs : sign c with
    | false => rfl
    | true =>
      exfalso
      unfold sign signsL at hs
      simp only [List.contains_cons, List.contains_nil, Bool.or_false, Bool.or_eq_true, beq_iff_eq] at hs
      rcases hs with rfl | rfl | rfl | rfl | rfl | rfl | rfl | rfl | rfl | rfl | rfl | rfl | rfl | rfl | rfl | rfl | rfl <;> exact absurd h (by decide)
  have hp : ([40, 41, 91, 93, 123, 125, 44, 124] : Bs).contains c = false := by
    cases hs : ([40, 41, 91, 93, 123, 125, 44, 124] : Bs).contains c with
    | false => rfl
    | true =>
      exfalso
      simp only [List.contains_cons, List.contains_nil, Bool.or_false, Bool.or_eq_true, beq_iff_eq] at hs
      rcases hs with rfl | rfl | rfl | rfl | rfl | rfl | rfl | rfl <;> exact absurd h (by decide)
  unfold tokenRaw
  rw [if_neg (by simp [hs]), if_neg (by simp [hu]), if_neg (by simp [ne 48 (by decide)]), if_neg (by simp [hd]), if_neg (ne 34 (by decide)), if_neg (ne 39 (by decide)), if_neg (by rw [hp]; decide), if_neg (by simp [ne 59 (by decide), ne 33 (by decide), hg])]
theorem line_skip {l : Bs} : ∀ (t : Bs) (k : Nat), l.drop k = t → (∀ a e, clineR k t = .bad a e → skipR 1 0 k t = .bad a e) ∧ (∀ u j, clineR k t = .ok u j → skipR 1 0 k t = skipR 0 0 j (l.drop j) ∧ k ≤ j ∧ j ≤ k + t.length)
  | [], k, hd => by
    refine ⟨fun a e h => (by cases h), fun u j h => ?_⟩
    injection h with _ h
    subst h
    rw [hd]
    exact ⟨by simp [skipR], Nat.le_refl _, Nat.le_refl _⟩
  | c :: t, k, hd => by
    obtain ⟨hl, -, ht⟩ := drop_at hd
    have ih := line_skip t (k + 1) ht
    unfold clineR
    rw [skip1_cons]
    by_cases hp : permitted c = true
    · rw [if_neg (by simp [hp])]
      by_cases h10 : c = 10
      · rw [if_pos h10, if_pos h10]
        refine ⟨fun a e h => (by cases h), fun u j h => ?_⟩
        injection h with _ h
        subst h
        rw [hd, h10]
        exact ⟨by rw [skip0_cons _ _ _ _ (Bk.pre_ne (by decide)), if_pos (by decide)], Nat.le_refl _, Nat.le_add_right _ _⟩
      · rw [if_neg h10, if_neg h10, if_pos hp]
        refine ⟨fun a e h => ih.1 a e h, fun u j h => ?_⟩
        have := ih.2 u j h
        exact ⟨this.1, by omega, by simp; omega⟩
    · have hp' : permitted c = false := by simpa using hp
      rw [if_pos (by simp [hp']), if_neg (by rintro rfl; exact hp (by decide)), if_neg hp]
      exact ⟨fun a e h => h, fun u j h => by cases h⟩
theorem block_skip {l : Bs} {f : Nat} : ∀ (n : Nat) (t : Bs) (k : Nat) (p : UInt8), t.length ≤ n → l.drop k = t → (p = 42 → ∀ t', t ≠ 47 :: t') →
    (∀ a e, cblockR f k p t = .bad a e → skipR 2 f k t = .bad a e) ∧ (∀ u j, cblockR f k p t = .ok u j → skipR 2 f k t = skipR 0 0 j (l.drop j) ∧ k ≤ j ∧ j ≤ k + t.length) := by
  intro n
  induction n with
  | zero =>
    intro t k p hn hd hp
    obtain rfl : t = [] := List.eq_nil_of_length_eq_zero (by omega)
    exact ⟨fun a e h => by rw [skip2_nil]; exact h, fun u j h => by cases h⟩
  | succ n ih =>
    intro t k p hn hd hp
    match t, hn, hd, hp with
    | [], _, _, _ => exact ⟨fun a e h => by rw [skip2_nil]; exact h, fun u j h => by cases h⟩
    | c :: t, hn, hd, hp =>
      obtain ⟨hl, -, ht⟩ := drop_at hd
      simp at hn
      have h47 : ¬ (c = 47 ∧ p = 42) := fun h => hp h.2 t (by rw [h.1])
      rw [show cblockR f k p (c :: t) = if !permitted c then .bad k 2 else if c = 47 ∧ p = 42 then .ok () (k + 1) else cblockR f (k + 1) c t from rfl, if_neg h47]
      by_cases hx : ([42, 47] : Bs).isPrefixOf (c :: t) = true
      · match t, hx, hn, ht with
        | [], hx, _, _ => simp [List.isPrefixOf] at hx
        | d :: t2, hx, hn, ht =>
          simp [List.isPrefixOf] at hx
          obtain ⟨rfl, rfl⟩ := hx
          obtain ⟨hl2, -, ht2⟩ := drop_at ht
          rw [skip2_pre, if_neg (by decide)]
          rw [show cblockR f (k + 1) 42 (47 :: t2) = .ok () (k + 2) from rfl]
          refine ⟨fun a e h => (by cases h), fun u j h => ?_⟩
          injection h with _ h
          subst h
          rw [show l.drop (k + 2) = t2 from ht2]
          exact ⟨rfl, by omega, by simp⟩
      · rw [skip2_cons _ _ _ _ (eq_false_of_ne_true hx)]
        by_cases hp' : permitted c = true
        · rw [if_neg (by simp [hp']), if_pos hp']
          have := ih t (k + 1) c hn ht (fun h42 t' e => by
            subst h42 e
            simp [List.isPrefixOf] at hx)
          refine ⟨this.1, fun u j h => ?_⟩
          have h2 := this.2 u j h
          exact ⟨h2.1, by omega, by simp; omega⟩
        · rw [if_pos (by simpa using hp'), if_neg hp']
          exact ⟨fun a e h => h, fun u j h => by cases h⟩
theorem cblock_code {f : Nat} : ∀ (t : Bs) (k : Nat) (p : UInt8) (a e : Nat), cblockR f k p t = .bad a e → e ≠ 0
  | [], k, p, a, e, h => by
    injection h with _ h
    omega
  | c :: t, k, p, a, e, h => by
    unfold cblockR at h
    split at h
    · injection h with _ h; omega
    · split at h
      · cases h
      · exact cblock_code t _ _ a e h
theorem cline_code : ∀ (t : Bs) (k a e : Nat), clineR k t = .bad a e → e ≠ 0
  | [], k, a, e, h => by cases h
  | c :: t, k, a, e, h => by
    unfold clineR at h
    split at h
    · injection h with _ h; omega
    · split at h
      · cases h
      · exact cline_code t _ a e h
theorem called_text (acc : List Tok) (tx : Nat) (t : Tok) (p : Nat) (hp : t.at_ = p) : called acc tx t = ⟨t.kind, if t.kind = 6 ∧ t.text = [40] ∧ calledR acc tx p = true then [40, 40] else t.text, p⟩ := by
  obtain ⟨k, s, a⟩ := t
  simp only at hp
  subst hp
  unfold called calledR
  cases acc.getLast? with
  | none => simp
  | some q =>
    simp only
    by_cases h : k = 6 ∧ s = [40] ∧ (tx : Int) = (p : Int) ∧ (q.kind = 1 ∨ q.kind = 2)
    · rw [if_pos h, if_pos ⟨h.1, h.2.1, by simp [h.2.2.1]; exact h.2.2.2⟩]
    · rw [if_neg h, if_neg]
      rintro ⟨h1, h2, h3⟩
      simp at h3
      exact h ⟨h1, h2, by omega, h3.1⟩
theorem mid_step {l : Bs} {k p tx : Nat} {acc : List Tok} {c : UInt8} {t : Bs} (hd : l.drop p = c :: t) (hk : l.length ≤ p + k) :
    match nextNR l acc tx p c with
    | .bad a e => midS l k p acc tx = .fault a e ∧ e ≠ 0
    | .ok p' acc' tx' => p < p' ∧ p' ≤ l.length ∧ acc'.length ≤ acc.length + 1 ∧ ∃ k', l.length ≤ p' + k' ∧ midS l k p acc tx = midS l k' p' acc' tx' := by
  obtain ⟨hl, -, ht⟩ := drop_at hd
  have hlen : (l.drop p).length = l.length - p := List.length_drop
  have htl : t.length = l.length - (p + 1) := by rw [← ht]; simp
  have start : ∀ (h1 : Tk.blank c = false) (h2 : c ≠ 37) (h3 : ¬ (c = 47 ∧ pk l (p + 1) = 42)), skipR 0 0 p (l.drop p) = .ok () p := by
    intro h1 h2 h3
    rw [hd, skip0_cons, if_neg (by simp [h1]), if_neg h2]
    cases hx : ([47, 42] : Bs).isPrefixOf (c :: t) with
    | false => rfl
    | true =>
      exfalso
      match t, hx, ht with
      | [], hx, _ => simp [List.isPrefixOf] at hx
      | d :: u, hx, ht =>
        simp [List.isPrefixOf] at hx
        exact h3 ⟨hx.1.symm, by rw [pk_cons ht, hx.2]⟩
  unfold nextNR
  cases hp : permitted c with
  | false =>
    simp only [Bool.not_false, if_true]
    refine ⟨?_, by omega⟩
    have hb : Tk.blank c = false := by
      cases hb : Tk.blank c with
      | false => rfl
      | true =>
        exfalso
        simp [Tk.blank, permitted] at hb hp
        omega
    have s := start hb (by rintro rfl; revert hp; decide) (by rintro ⟨rfl, _⟩; revert hp; decide)
    unfold midS
    rw [s]
    simp only
    rw [Tk.tokenS_cons hd, raw_form hp]
    rfl
  | true =>
  rw [if_neg (by simp)]
  cases hb : Tk.blank c with
  | true =>
    simp only [if_true]
    refine ⟨by omega, by omega, by omega, k, by omega, mid_same ?_⟩
    rw [hd, skip0_cons, if_pos hb, ht]
    cases hx : ([47, 42] : Bs).isPrefixOf (c :: t) with
    | false => rfl
    | true =>
      exfalso
      match t, hx with
      | [], hx => simp [List.isPrefixOf] at hx
      | d :: u, hx =>
        simp [List.isPrefixOf] at hx
        rw [← hx.1] at hb
        revert hb
        decide
  | false =>
  rw [if_neg (by simp)]
  by_cases h37 : c = 37
  · rw [if_pos h37]
    have hs : skipR 0 0 p (l.drop p) = skipR 1 0 (p + 1) (l.drop (p + 1)) := by
      rw [hd, h37, skip0_cons _ _ _ _ (Bk.pre_ne (by decide)), if_neg (by decide), if_pos rfl, ht]
    have hls := line_skip (l.drop (p + 1)) (p + 1) rfl
    cases hq : clineR (p + 1) (l.drop (p + 1)) with
    | bad a e =>
      exact ⟨mid_bad (by rw [hs]; exact hls.1 a e hq), cline_code _ _ _ _ hq⟩
    | ok u j =>
      have h2 := hls.2 u j hq
      rw [ht] at h2
      refine ⟨by omega, by omega, by omega, k, by omega, mid_same ?_⟩
      rw [hs, ht]
      exact h2.1
  rw [if_neg h37]
  by_cases h47 : c = 47 ∧ pk l (p + 1) = 42
  · rw [if_pos h47]
    have h2l : p + 1 < l.length := pk_lt (p := fun x => x == 42) (l := l) (i := p + 1) rfl (by simp [h47.2])
    have ht' : t = 42 :: l.drop (p + 2) := by
      have e : l.drop (p + 1) = l[p + 1] :: l.drop (p + 2) := List.drop_eq_getElem_cons h2l
      have e2 : l[p + 1] = 42 := by
        have := pk_cons e
        rw [← this, h47.2]
      rw [← ht, e, e2]
    have hs : skipR 0 0 p (l.drop p) = skipR 2 p (p + 2) (l.drop (p + 2)) := by
      rw [hd, h47.1, ht', skip0_pre]
    have hls := block_skip (l := l) (f := p) _ (l.drop (p + 2)) (p + 2) 0 (Nat.le_refl _) rfl (fun e => absurd e (by decide))
    cases hq : cblockR p (p + 2) 0 (l.drop (p + 2)) with
    | bad a e => exact ⟨mid_bad (by rw [hs]; exact hls.1 a e hq), cblock_code _ _ _ _ _ hq⟩
    | ok u j =>
      have h2 := hls.2 u j hq
      rw [List.length_drop] at h2
      refine ⟨by omega, by omega, by omega, k, by omega, mid_same ?_⟩
      rw [hs]
      exact h2.1
  rw [if_neg h47]
  have s := start hb h37 h47
  have hm : midS l k p acc tx = (match tokenS l p with
    | .bad a e => .fault a e
    | .ok t m => if t.kind = 0 then .toks (acc ++ [called acc tx t]) else loopS l k m (acc ++ [called acc tx t])) := by
    unfold midS
    rw [s]
  rw [hm, Tk.tokenS_cons hd]
  cases hr : tokenRaw l p c with
  | bad a e => exact ⟨rfl, Tk.tokenRaw_code hr⟩
  | ok t0 m =>
    have hb2 := Tk.tokenRaw_bound hd hr
    have hct := called_text acc tx t0 p hb2.2.2.2
    unfold Tk.fin tokNR addNR
    simp only
    have hck : checkS t0.kind (if t0.kind = 6 ∧ t0.text = [40] ∧ calledR acc tx p = true then [40, 40] else t0.text) = checkS t0.kind t0.text := by
      split
      · rename_i h
        rw [h.1, h.2.1]
        rfl
      · rfl
    rw [hck]
    by_cases hc : checkS t0.kind t0.text = 0
    · rw [if_pos hc, if_pos hc]
      simp only
      obtain ⟨k1, rfl⟩ : ∃ k1, k = k1 + 1 := ⟨k - 1, by omega⟩
      refine ⟨hb2.1, hb2.2.1, by simp, k1, by omega, ?_⟩
      rw [if_neg hb2.2.2.1, hct, loop_mid]
    · rw [if_neg hc, if_neg hc]
      exact ⟨rfl, hc⟩
theorem mid_end {l : Bs} {k p tx : Nat} {acc : List Tok} (hd : l.drop p = []) (hp : p ≤ l.length) : midS l k p acc tx = .toks (acc ++ [⟨0, [], l.length⟩]) := by
  have hl := drop_nil hd
  have e : p = l.length := by omega
  unfold midS
  rw [hd, skip0_nil]
  simp only
  have h2 : tokenS l p = .ok ⟨0, [], p⟩ p := by unfold tokenS; rw [hd]
  rw [h2]
  simp only [if_true]
  have h3 : called acc tx ⟨0, [], p⟩ = ⟨0, [], p⟩ := by
    unfold called
    split
    · rfl
    · simp
  rw [h3, e]
end Go.Proofs.YtgeonilideojnaaGreatDoor.Rs
end
section
namespace Go.Proofs.YtgeonilideojnaaGreatDoor.Rs
open Go Go.RowKit Tk Go.Proofs.YtgeonilideojnaaGreatDoor.Pr Go.Proofs.YtgeonilideojnaaGreatDoorW.PrintWords Go.Proofs.YtgeonilideojnaaGreatDoor.Rf
set_option linter.unusedVariables false
set_option linter.unusedSimpArgs false
theorem rTokens_results (tmps : Array Value) (W : World) (F : Nat) (v x y : Value) (h2 : tmps.getD 2 undef = v) (h3 : tmps.getD 3 undef = .pointer (some ⟨F, 0, none⟩)) (bf : Blk W F 26 #[x, y]) :
    (results Tryz.f11 tmps).run Tryz.prog W = .ok (.tuple #[v, .agg #[x, y]]) W := by
  have h2' : tmps[2]?.getD undef = v := by simpa using h2
  have h3' : tmps[3]?.getD undef = .pointer (some ⟨F, 0, none⟩) := by simpa using h3
  have hf : (loadVar 26 ⟨F, 0, none⟩).run Tryz.prog W = .ok (.agg #[x, y]) W := run_loadVar_row W F 26 26 #[x, y] (0, 0) _ bf Tryz.underlying26 rfl (by kernel_rfl)
  simp [results, Tryz.results11, h2', h3', asAddr, hf, Sem.run_bind, Result.andThen]
def errOf (w : World) (b : Nat) : Int := match w.cell? ⟨b, 4, none⟩ with
  | some v => intOf v
  | none => 0
def restOf (l : Bs) (w : World) (b : Nat) : Nat := if errOf w b = 0 then l.length + 1 - atOf w b else 0
theorem Rs.rest {w : World} {b : Nat} {l : Bs} {p : Nat} {v : Value} {acc : List Tok} {tx e bad : Int} (h : Rs w b l p v acc tx e bad) : restOf l w b = if e = 0 then l.length + 1 - p else 0 := by
  have h1 : atOf w b = p := by unfold atOf; rw [h.c1]; rfl
  have h2 : errOf w b = e := by unfold errOf; rw [h.c4]; rfl
  unfold restOf
  rw [h1, h2]
theorem Rs.rest' {w : World} {b : Nat} {l : Bs} {p : Int} {v : Value} {acc : List Tok} {tx e bad : Int} (h : Rs w b l p v acc tx e bad) (he : e ≠ 0) : restOf l w b = 0 := by
  have h2 : errOf w b = e := by unfold errOf; rw [h.c4]; rfl
  unfold restOf
  rw [h2, if_neg he]
def RtRel (w wr : World) (F b : Nat) (l : Bs) (T : Res) : Prop :=
  Blk wr F 26 #[.int .i64 0, .int .i64 0] ∧ Below w.heap.size w wr ∧
  ((∃ (p : Nat) (v : Value) (acc : List Tok) (tx k : Nat), Rs wr b l p v acc tx 0 0 ∧ p ≤ l.length ∧ l.length ≤ p + k ∧ acc.length ≤ p ∧ Hid (T = midS l k p acc tx)) ∨
   (∃ (p : Int) (v : Value) (acc : List Tok) (tx : Int) (a e : Nat), Rs wr b l p v acc tx e a ∧ e ≠ 0 ∧ Hid (T = .fault a e)))
theorem RtRel.next {w W W' : World} {F b : Nat} {l : Bs} {T : Res} {p k tx : Nat} {acc : List Tok} {c : UInt8} {t : Bs} {r : Ending} (hF : F < b) (hwF : w.heap.size ≤ F) (hbf : Blk W F 26 #[.int .i64 0, .int .i64 0]) (hB : Below w.heap.size w W) (hd : l.drop p = c :: t) (hk : l.length ≤ p + k) (ha : acc.length ≤ p)
    (hT : T = midS l k p acc tx) (hat : restOf l W b = l.length + 1 - p) (hp : RsPost W b l (nextNR l acc tx p c) r W') : RtRel w W' F b l T ∧ restOf l W' b < restOf l W b := by
  obtain ⟨hl, -, -⟩ := drop_at hd
  have hm := mid_step (tx := tx) (acc := acc) hd hk
  have hb2 : Below b W W' := by
    revert hp
    cases nextNR l acc tx p c with
    | ok i' acc' tx' => exact fun hp => hp.2.2
    | bad a e => exact fun hp => hp.2.2
  have h1 : Blk W' F 26 #[.int .i64 0, .int .i64 0] := (hb2.block F hF).trans hbf
  have h2 : Below w.heap.size w W' := hB.trans (hb2.mono (by omega))
  revert hp hm
  cases nextNR l acc tx p c with
  | ok i' acc' tx' =>
    rintro ⟨-, ⟨v', hR⟩, -⟩ ⟨hlt, hle, hal, k', hk', hmid⟩
    refine ⟨⟨h1, h2, .inl ⟨i', v', acc', tx', k', hR, hle, hk', by omega, by unfold Hid; rw [hT, hmid]⟩⟩, ?_⟩
    rw [hat, hR.rest, if_pos rfl]
    omega
  | bad a e =>
    rintro ⟨-, ⟨i', v', acc', tx', hR⟩, -⟩ ⟨hmid, he⟩
    refine ⟨⟨h1, h2, .inr ⟨i', v', acc', tx', a, e, hR, he, by unfold Hid; rw [hT, hmid]⟩⟩, ?_⟩
    rw [hat, hR.rest' (by omega)]
    omega
theorem OwnT.lower {w : World} {base base' : Nat} {v : Value} {ts : List Tok} (h : OwnT w base v ts) (hb : base' ≤ base) : OwnT w base' v ts := by
  obtain ⟨h1, h2⟩ := h
  refine ⟨h1, ?_⟩
  rcases h2 with h2 | ⟨g, cap, cur, e, hb2, h3⟩
  · exact .inl h2
  · exact .inr ⟨g, cap, cur, e, by omega, h3⟩
theorem rt_after {w wr w4 : World} {F b : Nat} {v : Value} {acc : List Tok} {cs : Array Value} {t : TypeId} (hF : F < b) (hbf : Blk wr F t cs) (hB : Below w.heap.size w wr) (ho : OwnT wr (b + 1) v acc) (hg : wr.grownBy w4 v.ownBlock) (hwF : w.heap.size ≤ F) :
    Blk w4 F t cs ∧ Below w.heap.size w w4 :=
  ⟨hbf.own hg (fun x hx => by have := own_ge ho x hx; omega), hB.grown hg hB.size (fun x hx => by have := own_ge ho x hx; omega)⟩
section
set_option maxHeartbeats 4000000
set_option maxRecDepth 100000
theorem rTokens_le (l : Bs) (w : World) (hs : l.length ≤ 65536) (hsz : 8 ≤ w.heap.size) : Calls Tryz.prog 11 #[.string (B l)] w fun e w' => TokPost w e w' (tokensS l) := by
  have hz := size_B l
  have hle : decide (65536 < l.length) = false := by simp; omega
  have hT0 : Hid (tokensS l = midS l l.length 0 [] 0) := by
    unfold Hid tokensS
    rw [if_neg (by omega), loop_mid]
  generalize tokensS l = T at hT0 ⊢
  have HI : RtRel w ((w.alloc (.cells #[.int .i64 0, .int .i64 0] 26)).alloc (.cells (RsC l 0 (.slice none 0 0) 0 0 0) 49)) w.heap.size (w.heap.size + 1) l T := by
    have e1 : (w.alloc (.cells #[.int .i64 0, .int .i64 0] 26)).heap.size = w.heap.size + 1 := by simp
    refine ⟨(Blk.new w _ _).alloc _, ((Below.refl _ _).alloc (Nat.le_refl _) _).alloc (by simp) _, .inl ⟨0, _, [], 0, l.length, ⟨?_, OwnT.nil _ _, by omega⟩, Nat.zero_le _, by omega, Nat.zero_le _, hT0⟩⟩
    have := Blk.new (w.alloc (.cells #[.int .i64 0, .int .i64 0] 26)) 49 (RsC l 0 (.slice none 0 0) 0 0 0)
    rw [e1] at this
    exact this
  replace HI := hide HI
  clear hT0
  go_enter Tryz.func11, Tryz.ntmps11
  go_wp2_with fail
  refine code_forget (fun W => RtRel w W w.heap.size (w.heap.size + 1) l T) HI.out ?_
  generalize hF : w.heap.size = F
  generalize hb : F + 1 = b
  clear HI hle
  intro W HS
  replace HS := hide HS
  go_loopw [] (fun wr => RtRel w wr F b l T) (fun wr => restOf l wr b)
  case atStart => exact HS.out
  case round =>
    clear HS
    have HR := hide hrel
    clear hrel
    obtain ⟨hbf, hB, h | h⟩ := HR.out
    · obtain ⟨p, v, acc, tx, k, hR, hpl, hk, hal, hT⟩ := h
      have h1 := hR.c1
      have h4 := hR.c4
      have h2 := hR.c2
      have hrest := hR.rest
      rw [if_pos rfl] at hrest
      have Hrest := hide hrest
      clear hrest
      have hbf' := hide hbf
      have hB' := hide hB
      have hR' := hide hR
      have hblt := hR.lt
      cases hd : l.drop p with
      | nil =>
        have hn := drop_nil hd
        have hTe := hide (show T = .toks (acc ++ [⟨0, [], l.length⟩]) by rw [hT.out, mid_end hd hpl])
        clear hd hbf hB hR HR
        have hFb : F < b := by omega
        have hwF : w.heap.size ≤ F := by omega
        have after : ∀ w4 : World, wr.grownBy w4 v.ownBlock → Blk w4 F 26 #[.int .i64 0, .int .i64 0] ∧ Below w.heap.size w w4 := fun w4 hg4 => rt_after hFb hbf'.out hB'.out hR'.out.own hg4 hwF
        replace after := hide after
        go_wp2_with (at_builtin; refine append_tok rfl _ _ rfl (b + 1) v acc ⟨0, [], l.length⟩ wr.heap.size rfl rfl rfl hR'.out.own ?_ ?_ ?_; (have := hblt; omega); (omega); intro v4 w4 ho4 hg4 hk4; have HA := hide (after.out w4 hg4); have q0 := HA.out.1.cell 0; have q1 := HA.out.1.cell 1; have q2 := HA.out.1.frozen; have HO := hide ho4; clear ho4 hg4 hk4)
        rw [hTe.out]
        refine bodyPost_ret (rTokens_results _ _ F v4 (.int .i64 0) (.int .i64 0) rfl rfl ((HA.out.1.put 0 _).put 1 _)) rfl ⟨v4, rfl, ?_, ?_⟩
        · exact below_gb ((HA.out.2.setCell hwF _).setCell hwF _) none
        · exact OwnT.lower (base := b + 1) (own_kept (own_kept HO.out (b := F) (gb_set (gb_refl _ (some F)) (p := ⟨F, 0, none⟩) (.inl rfl) _) (by omega)) (b := F) (gb_set (gb_refl _ (some F)) (p := ⟨F, 1, none⟩) (.inl rfl) _) (by omega)) (by omega)
      | cons c t =>
        obtain ⟨hl, -, -⟩ := drop_at hd
        have hlt : decide (p < l.length) = true := by simpa using hl
        have hc := hide (rnext_calls (w := wr) hs hd (by omega) hR)
        have hd' := hide hd
        clear hd hbf hB hR HR
        go_wp2_with (go_at_call 23; refine (hc.out).mono ?_; intro e w1 hp; obtain rfl := hp.ret; have HP := hide hp; clear hp)
        have := RtRel.next (by omega) (by omega) hbf'.out hB'.out hd'.out hk hal hT.out Hrest.out HP.out
        exact ⟨this.1, this.2⟩
    · obtain ⟨p, v, acc, tx, a, e, hR, he, hT⟩ := h
      have h1 := hR.c1
      have h4 := hR.c4
      have h5 := hR.c5
      have f0 := hbf.cell 0
      have f1 := hbf.cell 1
      have f2 := hbf.frozen
      have n1 : F ≠ b := by omega
      have n2 : b ≠ F := by omega
      have hwF : w.heap.size ≤ F := by omega
      have he0 : ((e : Int) == 0) = false := by simpa using he
      have he1 : ((e : Int) != 0) = true := by simpa using he
      have hbf' := hide hbf
      have hB' := hide hB
      clear hbf hB hR he HR
      by_cases hpl : p < (l.length : Int)
      all_goals
        go_wp2_with fail
        go_region
        all_goals
          go_wp2_with fail
          rw [hT.out]
          refine bodyPost_ret (rTokens_results _ _ F (.slice none 0 0) (.int .i64 (a : Int)) (.int .i64 (e : Int)) rfl rfl (((hbf'.out.put 0 _).put 1 _).drewN 1)) rfl ⟨rfl, ?_⟩
          exact below_gb (((hB'.out.setCell hwF _).setCell hwF _).drew) none
end
end Go.Proofs.YtgeonilideojnaaGreatDoor.Rs
end
section
namespace Go.Proofs.YtgeonilideojnaaGreatDoor.TkRef
set_option linter.unusedVariables false
set_option linter.unusedSimpArgs false
open Go Go.RowKit Tk Go.Proofs.YtgeonilideojnaaGreatDoor.Pr Go.Proofs.YtgeonilideojnaaGreatDoorW.PrintWords Go.Proofs.YtgeonilideojnaaGreatDoorW.PrintLast Go.Proofs.YtgeonilideojnaaGreatDoorW.PrintMore
def Tokens.f (s : ByteArray) : Option (List S35 × Int × Int) :=
  if s.size ≤ 65536 then (match tokensS s.data.toList with
    | .fault i c => some ([], (i : Int), (c : Int))
    | .toks ts => some (ts.map TkC.ofTok, 0, 0)) else none
theorem Tokens.calls (s : ByteArray) (r0 : List S35) (r1 r2 : Int) (w : World) (hEnv : EnvW w) (h : Tokens.f s = some (r0, r1, r2)) :
    Calls Tryz.prog 11 #[.string s] w fun e w' => ∃ v : Value, e = .returned (.tuple #[v, .agg #[.int .i64 r1, .int .i64 r2]]) ∧ Kd.R k35 35 w' w.heap.size (fun _ => True) v r0 ∧ Below w.heap.size w w' := by
  unfold Tokens.f at h
  split at h
  · rename_i hc
    have hT := Rs.rTokens_le s.data.toList w hc hEnv.2
    rw [B_of] at hT
    refine hT.mono fun e w' hp => ?_
    cases hq : tokensS s.data.toList with
    | fault i c =>
      rw [hq] at h hp
      injection h with h
      injection h with h1 h2
      injection h2 with h2 h3
      subst h1 h2 h3
      exact ⟨_, hp.1, Kd.R_nil _ _ _ _ _, gb_below hp.2⟩
    | toks ts =>
      rw [hq] at h hp
      injection h with h
      injection h with h1 h2
      injection h2 with h2 h3
      subst h1 h2 h3
      obtain ⟨v, he, hg, ho⟩ := hp
      exact ⟨v, he, TkC.own_R ho, gb_below hg⟩
  · cases h
end Go.Proofs.YtgeonilideojnaaGreatDoor.TkRef
end
