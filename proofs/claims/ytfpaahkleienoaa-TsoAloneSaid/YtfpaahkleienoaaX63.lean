/-
  What a move of the program does, over any memory.
-/
import Derived.Test.YtfpaahkleienoaaX62
import Derived.Test.YtfpaahkleienoaaX18
namespace Go.Proofs.Ytfpaahkleienoaa
open Go.RowKit
set_option linter.unusedSimpArgs false
set_option linter.unusedVariables false


theorem qset_pc {l tl : List ThQ} {n : Nat} {p q : Int} {r : Value} (h : n < l.length) (e : tl = l.set n ⟨p, r⟩) : tl.set n { nth tl n with pc := q } = l.set n ⟨q, r⟩ := by
  subst e
  rw [nth_set, if_pos ⟨rfl, h⟩, List.set_set]
theorem qset_0 {l : List ThQ} {n : Nat} {q : Int} {r : Value} (hr : (nth l n).rv = r) : l.set n { nth l n with pc := q } = l.set n ⟨q, r⟩ := by
  subst hr; rfl
theorem qset_n {l : List ThQ} {n : Nat} {r : Value} (hr : (nth l n).rv = r) (hn : n < l.length) : l = l.set n ⟨(nth l n).pc, r⟩ := by
  subst hr
  refine ext_nth _ _ (by simp) fun i hi => ?_
  rw [nth_set]
  split
  · rename_i hh; rw [← hh.1]
  · rfl
theorem list_set_nth {α : Type} [Inhabited α] (l : List α) (n : Nat) : l.set n (nth l n) = l := by
  rcases Nat.lt_or_ge n l.length with h | h
  · rw [nth_lt l n h]; exact List.set_getElem_self h
  · exact List.set_eq_of_length_le h
theorem swap_eq {M : MemS} {wd what pc : Int} {n : Nat} {regs prints : List Int} {fell : Bool} {words words' owner owner' : Ls Int} {q q' : M.σ} (h : SwapP M wd what words owner q words' owner' q') :
    M.qs q' = (M.qs q).set n (nth (M.qs q) n) ∧ (⟨pc, regs, nth (M.qs q) n, words'.l, owner'.l, prints, fell⟩ : TS) = ⟨pc, regs, nth (M.qs q) n, words.l.set wd.toNat what, owner.l, prints, fell⟩ := by
  obtain ⟨h1, h2, h3⟩ := h
  rw [h1, h2, h3, list_set_nth]
  exact ⟨rfl, rfl⟩
section
variable {m : Int} {n : Nat} {i : Ins} {x : TS}
theorem pexec_18c (h : i.op = 18) (h1 : ¬ nth x.owner i.a.toNat ≠ n) (h2 : x.holds i.a = false) : execT m n i x = x.store m ⟨true, i.a, 0⟩ := by
  have h1' : nth x.owner i.a.toNat = n := Decidable.not_not.1 h1
  simp [execT, h, h1', h2]
theorem pexec_18f (h : i.op = 18) (h1 : nth x.owner i.a.toNat ≠ n ∨ x.holds i.a = true) : execT m n i x = { x with fell := true } := by
  by_cases h2 : nth x.owner i.a.toNat ≠ n
  · exact execT_18a h h2
  · have h3 := h1.resolve_left h2
    have h1' : nth x.owner i.a.toNat = n := Decidable.not_not.1 h2
    simp [execT, h, h1', h3]
theorem pexec_no (h : ¬ i.op = 8 ∧ ¬ i.op = 9 ∧ ¬ i.op = 10 ∧ ¬ i.op = 11 ∧ ¬ i.op = 13 ∧ ¬ i.op = 17 ∧ ¬ i.op = 18) (h2 : ¬ i.op = 1 ∧ ¬ i.op = 2 ∧ ¬ i.op = 3 ∧ ¬ i.op = 4 ∧ ¬ i.op = 5 ∧ ¬ i.op = 6 ∧ ¬ i.op = 7 ∧ ¬ i.op = 14 ∧ ¬ i.op = 15 ∧ ¬ i.op = 16) : execT m n i x = x :=
  execT_no (by omega)
theorem hab_of {owner : List Int} {nw : Nat} (h : ableL owner nw i = true) : ((i.op = 9 ∨ i.op = 11 ∨ i.op = 18) → nw < 3) ∧ (i.op = 13 → nw = 0) ∧ True := by
  unfold ableL at h
  refine ⟨fun e => ?_, fun e => ?_, trivial⟩
  · rw [if_pos e] at h; exact of_decide_eq_true h
  · rw [if_neg (by omega), if_pos (by omega)] at h; exact of_decide_eq_true h
theorem pdoT_k {c : List Ins} {k : Nat} (hk : 0 < k) : doT m n c k x = { x.done (nth x.wait (k - 1)) with wait := x.wait.eraseIdx (k - 1) } := by unfold doT; rw [if_pos hk]
theorem able_of {c : List Ins} {k : Nat} (h : mvOK m c x k = true) (hk : k = 0) : x.pc < (c.length : Int) ∧ ableL x.owner x.wait.length (nextIns c x.pc) = true := by
  unfold mvOK at h
  rw [if_pos hk] at h
  unfold ableV at h
  rw [Bool.and_eq_true] at h
  exact ⟨of_decide_eq_true h.1, h.2⟩
end
/-- What an order of words and locks, or a move, leaves of a thread's resources. -/
def MPost (K : Nat → Prop) (W : World) (ST TH INT PL PT : Nat) (M : MemS) (g gp n : Nat) (pc : List Value) (thr : Ls ThQ) (q : M.σ) (y : TS) (code : Ls (Ls Ins)) (w' : World) : Prop :=
  ∃ (regs' words' owner' prints' : Ls Int) (q' : M.σ) (wt : List Wt) (pc' : Int) (fell' : Bool), M.qs q' = (M.qs q).set n wt ∧ (⟨pc', regs'.l, wt, words'.l, owner'.l, prints'.l, fell'⟩ : TS) = y ∧
    Sh K W w' [.blk g ST [.iface M.T (.pointer (some M.u)), .pointer (some ⟨gp, 0, none⟩), thr.v, prints'.v, .bool fell'], .rblk gp PT pc, .own TH (⟨thr.v, thr.l.set n ⟨pc', regs'.v⟩⟩ : Ls ThQ), .own INT regs', .own INT prints', .blk M.g0 PL [words'.v, owner'.v], .own INT words', .own INT owner', M.X q', .at_ code]

set_option maxRecDepth 100000 in
set_option maxHeartbeats 2000000 in
theorem pis_c (K : Nat → Prop) (M : MemS) (g gc : Nat) (n : Int) (words owner : Ls Int) (q : M.σ) (pp tv pv : Value) (fell : Bool) (W : World) (hM : MemI Try.prog 205 3 M) (hS : Sh K W W [.blk gc 192 [.pointer (some ⟨g, 0, none⟩)], .blk g 197 [.iface M.T (.pointer (some M.u)), pp, tv, pv, .bool fell], .blk M.g0 205 [words.v, owner.v], .own 3 words, .own 3 owner, M.X q]) :
    Rets Try.prog 161 [.int .i64 n, .pointer (some ⟨gc, 0, none⟩)] W (fun v w' => v = .bool (decide (0 ≤ n ∧ n < (words.l.length : Int))) ∧ Sh K W w' [.blk gc 192 [.pointer (some ⟨g, 0, none⟩)], .blk g 197 [.iface M.T (.pointer (some M.u)), pp, tv, pv, .bool (fell || !decide (0 ≤ n ∧ n < (words.l.length : Int)))], .blk M.g0 205 [words.v, owner.v], .own 3 words, .own 3 owner, M.X q]) := by
 refine x_enter (N := 32) Try.func161 rfl Try.ntmps161 (Nat.le_of_ble_eq_true rfl) fun a1 hf1 => ?_
 have h1 : St 32 K W a1 W [(0, .int .i64 n), (1, .pointer (some ⟨gc, 0, none⟩))] [.blk gc 192 [.pointer (some ⟨g, 0, none⟩)], .blk g 197 [.iface M.T (.pointer (some M.u)), pp, tv, pv, .bool fell], .blk M.g0 205 [words.v, owner.v], .own 3 words, .own 3 owner, M.X q] := ⟨hf1.sub ⟨rfl, rfl, trivial⟩, hS⟩
 clear hf1
 refine wp_seq_k fun K2 hK2 => wp_region_lit <| wms 1 h1 rfl fun a3 h3 => wpList_nil <| hK2 _ _ <| wp_seq_k fun K4 hK4 => wp_region_lit <| wms 1 h3 rfl fun a5 h5 => wv h5 (r_geqI (p := n) (q := 0) rfl rfl rfl) rfl rfl fun a6 h6 => wms 1 h6 rfl fun a7 h7 => ?_; clear h1 h3 h5 h6
 rcases Bool.eq_false_or_eq_true (decide (0 ≤ n)) with hb8 | hb8
 ·have hp8 : 0 ≤ n := of_decide_eq_true hb8
  refine wl_val h7 (r_move rfl rfl) (wanted_yes h7.fr rfl rfl rfl rfl hb8) rfl rfl fun a9 h9 => wl_val h9 (r_ldb (i := 0) ti_192 rfl rfl rfl rfl) (wanted_yes h9.fr rfl rfl rfl rfl hb8) rfl rfl fun a10 h10 => wl_val h10 (r_nil rfl rfl) (wanted_yes h10.fr rfl rfl rfl rfl hb8) rfl rfl fun a11 h11 => wl_val h11 (r_fieldB (r := 0) fl_197_0 rfl rfl rfl) (wanted_yes h11.fr rfl rfl rfl rfl hb8) rfl rfl fun a12 h12 => wl_val h12 (r_ldb (i := 1) ti_129 rfl rfl rfl rfl) (wanted_yes h12.fr rfl rfl rfl rfl hb8) rfl rfl fun a13 h13 => wl_ex (x_inv2 h13 rfl rfl rfl rfl rfl (hM.base _ words owner q ⟨h13.sh.blk 2 rfl, h13.sh.own 3 rfl, h13.sh.own 4 rfl, h13.sh.ok _ (List.mem_of_getElem? (i := 5) rfl)⟩)) (wanted_yes h13.fr rfl rfl rfl rfl hb8) ?_; clear h7 h9 h10 h11 h12
  rintro a14 w14 ⟨_, ⟨rfl, hs14⟩, hf14⟩
  have h14 : St 32 K W a14 w14 _ _ := ⟨hf14, h13.sh.call0 hs14⟩
  clear hf14 hs14
  clear h13
  refine wl_val h14 (r_nil rfl rfl) (wanted_yes h14.fr rfl rfl rfl rfl hb8) rfl rfl fun a15 h15 => wl_val h15 (r_fieldB (r := 0) fl_205_0 rfl rfl rfl) (wanted_yes h15.fr rfl rfl rfl rfl hb8) rfl rfl fun a16 h16 => wl_val h16 (r_ldb (i := 2) ti_23 rfl rfl rfl rfl) (wanted_yes h16.fr rfl rfl rfl rfl hb8) rfl rfl fun a17 h17 => ?_; clear h14 h15 h16
  have hl18 : words.l.length ≤ 140737488355328 := (h17.sh.own 3 rfl).len
  refine wl_val h17 (r_len (s := words) (n := words.l.length) sl_23 rfl rfl (fun w h => (h.own 3 rfl)) rfl) (wanted_yes h17.fr rfl rfl rfl rfl hb8) rfl rfl fun a19 h19 => wl_val h19 (r_lssI (p := n) (q := ((words.l.length : Nat) : Int)) rfl rfl rfl) (wanted_yes h19.fr rfl rfl rfl rfl hb8) rfl rfl fun a20 h20 => wv h20 (r_pickT rfl rfl hb8 rfl) rfl rfl fun a21 h21 => wms 1 h21 rfl fun a22 h22 => wpList_nil <| hK4 _ _ <| wp_seq_k fun K23 hK23 => x_tail 11 [] (by kernel_rfl) (by kernel_rfl) h22 fun Z24 hZ24 => ?_; clear h17 h19 h20 h21
  have hq24 := h22.fr
  refine wq_val hq24 (r_ldb (i := 0) ti_192 rfl rfl rfl rfl) (wanted_none rfl _) rfl rfl fun a25 hq25 => wq_val hq25 (r_ldb (i := 0) ti_192 rfl rfl rfl rfl) (wanted_none rfl _) rfl rfl fun a26 hq26 => wq_val hq26 (r_nil rfl rfl) (wanted_none rfl _) rfl rfl fun a27 hq27 => wq_val hq27 (r_fieldB (r := 4) fl_197_4 rfl rfl rfl) (wanted_none rfl _) rfl rfl fun a28 hq28 => wq_val hq28 (r_ldb (i := 1) ti_4 rfl rfl rfl rfl) (wanted_none rfl _) rfl rfl fun a29 hq29 => wq_val hq29 (r_move rfl rfl) (wanted_none rfl _) rfl rfl fun a30 hq30 => ?_; clear hq24 hq25 hq26 hq27 hq28 hq29
  rcases Bool.eq_false_or_eq_true fell with hb31 | hb31
  ·skip
   refine wq_skip hq30 (wanted_no hq30 rfl rfl rfl rfl hb31) rfl rfl fun a32 hq32 => wq_skip hq32 (wanted_no hq32 rfl rfl rfl rfl hb31) rfl rfl fun a33 hq33 => wq_val hq33 (r_pickT rfl rfl hb31 rfl) (wanted_none rfl _) rfl rfl fun a34 hq34 => wq_val hq34 (r_nil rfl rfl) (wanted_none rfl _) rfl rfl fun a35 hq35 => wq_val hq35 (r_fieldB (r := 4) fl_197_4 rfl rfl rfl) (wanted_none rfl _) rfl rfl fun a36 hq36 => wpQuiet_nil (hZ24 _ fun w37 hw37 => ?_); clear hq30 hq32 hq33 hq34 hq35
   have h37 : St 32 K W a36 w37 _ _ := ⟨hq36, hw37⟩
   clear hq36 hw37 h22
   refine wl_ex (x_stb (i := 1) (vs := [.bool true]) (cs' := [.iface M.T (.pointer (some M.u)), pp, tv, pv, .bool true]) h37 ti_4 rfl rfl rfl rfl rfl rfl rfl (allOne_cons rfl allOne_nil) (Nat.le_of_ble_eq_true rfl) rfl) (wanted_none rfl _) ?_
   rintro a38 w38 h38
   clear h37
   refine wpList_nil <| hK23 _ _ ?_
   have h39 : St 32 K W a38 w38 [(4, .bool (decide (n < ((words.l.length : Nat) : Int))))] [.blk gc 192 [.pointer (some ⟨g, 0, none⟩)], .blk g 197 [.iface M.T (.pointer (some M.u)), pp, tv, pv, .bool true], .blk M.g0 205 [words.v, owner.v], .own 3 words, .own 3 owner, M.X q] := h38.nrm ⟨rfl, trivial⟩ [0, 1, 2, 3, 4, 5] (by decide) ⟨rfl, rfl, rfl, rfl, rfl, rfl, trivial⟩
   clear h38
   refine wp_seq_k fun K40 hK40 => wp_region_lit <| wms 2 h39 rfl fun a41 h41 => wpList_nil <| hK40 _ _ <| wp_ret ?_; clear h39
   try simp only [Exit.then, Exit.inBlock]
   refine x_ret1 (fn := Try.f161) (t := 3) rfl h41 rfl ?_
   have e9 : decide (n < ((words.l.length : Nat) : Int)) = decide (0 ≤ n ∧ n < (words.l.length : Int)) := by first | exact (decide_eq_true (by omega)).symm | exact (decide_eq_false (by omega)).symm | exact decide_eq_decide.2 ⟨fun h9 => by omega, fun h9 => by omega⟩
   have e7 : (true) = (fell || !decide (0 ≤ n ∧ n < (words.l.length : Int))) := by rw [← e9]; first | (rw [show fell = true by assumption]; rfl) | (rw [show fell = false by assumption]; rfl) | (rw [show fell = false by assumption]; simp; omega)
   have e8 := (h41.sh.sel (L' := [.blk gc 192 [.pointer (some ⟨g, 0, none⟩)], .blk g 197 [.iface M.T (.pointer (some M.u)), pp, tv, pv, .bool true], .blk M.g0 205 [words.v, owner.v], .own 3 words, .own 3 owner, M.X q]) [0, 1, 2, 3, 4, 5] (by decide) ⟨rfl, rfl, rfl, rfl, rfl, rfl, trivial⟩)
   rw [e7] at e8
   exact ⟨by rw [e9], e8⟩
  refine wq_val hq30 (r_move rfl rfl) (wanted_yes hq30 rfl rfl rfl rfl hb31) rfl rfl fun a43 hq43 => wq_val hq43 (r_not rfl rfl) (wanted_yes hq43 rfl rfl rfl rfl hb31) rfl rfl fun a45 hq45 => wq_val hq45 (r_pickF rfl rfl hb31 rfl) (wanted_none rfl _) rfl rfl fun a46 hq46 => wq_val hq46 (r_nil rfl rfl) (wanted_none rfl _) rfl rfl fun a47 hq47 => wq_val hq47 (r_fieldB (r := 4) fl_197_4 rfl rfl rfl) (wanted_none rfl _) rfl rfl fun a48 hq48 => wpQuiet_nil (hZ24 _ fun w49 hw49 => ?_); clear hq30 hq43 hq45 hq46 hq47
  have h49 : St 32 K W a48 w49 _ _ := ⟨hq48, hw49⟩
  clear hq48 hw49 h22
  refine wl_ex (x_stb (i := 1) (vs := [.bool (!(decide (n < ((words.l.length : Nat) : Int))))]) (cs' := [.iface M.T (.pointer (some M.u)), pp, tv, pv, .bool (!(decide (n < ((words.l.length : Nat) : Int))))]) h49 ti_4 rfl rfl rfl rfl rfl rfl rfl (allOne_cons rfl allOne_nil) (Nat.le_of_ble_eq_true rfl) rfl) (wanted_none rfl _) ?_
  rintro a50 w50 h50
  clear h49
  refine wpList_nil <| hK23 _ _ ?_
  have h51 : St 32 K W a50 w50 [(4, .bool (decide (n < ((words.l.length : Nat) : Int))))] [.blk gc 192 [.pointer (some ⟨g, 0, none⟩)], .blk g 197 [.iface M.T (.pointer (some M.u)), pp, tv, pv, .bool (!(decide (n < ((words.l.length : Nat) : Int))))], .blk M.g0 205 [words.v, owner.v], .own 3 words, .own 3 owner, M.X q] := h50.nrm ⟨rfl, trivial⟩ [0, 1, 2, 3, 4, 5] (by decide) ⟨rfl, rfl, rfl, rfl, rfl, rfl, trivial⟩
  clear h50
  refine wp_seq_k fun K52 hK52 => wp_region_lit <| wms 2 h51 rfl fun a53 h53 => wpList_nil <| hK52 _ _ <| wp_ret ?_; clear h51
  try simp only [Exit.then, Exit.inBlock]
  refine x_ret1 (fn := Try.f161) (t := 3) rfl h53 rfl ?_
  have e9 : decide (n < ((words.l.length : Nat) : Int)) = decide (0 ≤ n ∧ n < (words.l.length : Int)) := by first | exact (decide_eq_true (by omega)).symm | exact (decide_eq_false (by omega)).symm | exact decide_eq_decide.2 ⟨fun h9 => by omega, fun h9 => by omega⟩
  have e7 : (!(decide (n < ((words.l.length : Nat) : Int)))) = (fell || !decide (0 ≤ n ∧ n < (words.l.length : Int))) := by rw [← e9]; first | (rw [show fell = true by assumption]; rfl) | (rw [show fell = false by assumption]; rfl) | (rw [show fell = false by assumption]; simp; omega)
  have e8 := (h53.sh.sel (L' := [.blk gc 192 [.pointer (some ⟨g, 0, none⟩)], .blk g 197 [.iface M.T (.pointer (some M.u)), pp, tv, pv, .bool (!(decide (n < ((words.l.length : Nat) : Int))))], .blk M.g0 205 [words.v, owner.v], .own 3 words, .own 3 owner, M.X q]) [0, 1, 2, 3, 4, 5] (by decide) ⟨rfl, rfl, rfl, rfl, rfl, rfl, trivial⟩)
  rw [e7] at e8
  exact ⟨by rw [e9], e8⟩
 have hp8 : ¬ (0 ≤ n) := of_decide_eq_false hb8
 refine wl_skip h7 (wanted_no h7.fr rfl rfl rfl rfl hb8) rfl rfl fun a54 h54 => wl_skip h54 (wanted_no h54.fr rfl rfl rfl rfl hb8) rfl rfl fun a55 h55 => wl_skip h55 (wanted_no h55.fr rfl rfl rfl rfl hb8) rfl rfl fun a56 h56 => wl_skip h56 (wanted_no h56.fr rfl rfl rfl rfl hb8) rfl rfl fun a57 h57 => wl_skip h57 (wanted_no h57.fr rfl rfl rfl rfl hb8) rfl rfl fun a58 h58 => wl_skip h58 (wanted_no h58.fr rfl rfl rfl rfl hb8) rfl rfl fun a59 h59 => wl_skip h59 (wanted_no h59.fr rfl rfl rfl rfl hb8) rfl rfl fun a60 h60 => wl_skip h60 (wanted_no h60.fr rfl rfl rfl rfl hb8) rfl rfl fun a61 h61 => wl_skip h61 (wanted_no h61.fr rfl rfl rfl rfl hb8) rfl rfl fun a62 h62 => wl_skip h62 (wanted_no h62.fr rfl rfl rfl rfl hb8) rfl rfl fun a63 h63 => wl_skip h63 (wanted_no h63.fr rfl rfl rfl rfl hb8) rfl rfl fun a64 h64 => wv h64 (r_pickF rfl rfl hb8 rfl) rfl rfl fun a65 h65 => wms 1 h65 rfl fun a66 h66 => wpList_nil ?_; clear h7 h54 h55 h56 h57 h58 h59 h60 h61 h62 h63 h64 h65
 refine hK4 _ _ <| wp_seq_k fun K67 hK67 => x_tail 11 [] (by kernel_rfl) (by kernel_rfl) h66 fun Z68 hZ68 => ?_
 have hq68 := h66.fr
 refine wq_val hq68 (r_ldb (i := 0) ti_192 rfl rfl rfl rfl) (wanted_none rfl _) rfl rfl fun a69 hq69 => wq_val hq69 (r_ldb (i := 0) ti_192 rfl rfl rfl rfl) (wanted_none rfl _) rfl rfl fun a70 hq70 => wq_val hq70 (r_nil rfl rfl) (wanted_none rfl _) rfl rfl fun a71 hq71 => wq_val hq71 (r_fieldB (r := 4) fl_197_4 rfl rfl rfl) (wanted_none rfl _) rfl rfl fun a72 hq72 => wq_val hq72 (r_ldb (i := 1) ti_4 rfl rfl rfl rfl) (wanted_none rfl _) rfl rfl fun a73 hq73 => wq_val hq73 (r_move rfl rfl) (wanted_none rfl _) rfl rfl fun a74 hq74 => ?_; clear hq68 hq69 hq70 hq71 hq72 hq73
 rcases Bool.eq_false_or_eq_true fell with hb75 | hb75
 ·skip
  refine wq_skip hq74 (wanted_no hq74 rfl rfl rfl rfl hb75) rfl rfl fun a76 hq76 => wq_skip hq76 (wanted_no hq76 rfl rfl rfl rfl hb75) rfl rfl fun a77 hq77 => wq_val hq77 (r_pickT rfl rfl hb75 rfl) (wanted_none rfl _) rfl rfl fun a78 hq78 => wq_val hq78 (r_nil rfl rfl) (wanted_none rfl _) rfl rfl fun a79 hq79 => wq_val hq79 (r_fieldB (r := 4) fl_197_4 rfl rfl rfl) (wanted_none rfl _) rfl rfl fun a80 hq80 => wpQuiet_nil (hZ68 _ fun w81 hw81 => ?_); clear hq74 hq76 hq77 hq78 hq79
  have h81 : St 32 K W a80 w81 _ _ := ⟨hq80, hw81⟩
  clear hq80 hw81 h66
  refine wl_ex (x_stb (i := 1) (vs := [.bool true]) (cs' := [.iface M.T (.pointer (some M.u)), pp, tv, pv, .bool true]) h81 ti_4 rfl rfl rfl rfl rfl rfl rfl (allOne_cons rfl allOne_nil) (Nat.le_of_ble_eq_true rfl) rfl) (wanted_none rfl _) ?_
  rintro a82 w82 h82
  clear h81
  refine wpList_nil <| hK67 _ _ ?_
  have h83 : St 32 K W a82 w82 [(4, .bool false)] [.blk gc 192 [.pointer (some ⟨g, 0, none⟩)], .blk g 197 [.iface M.T (.pointer (some M.u)), pp, tv, pv, .bool true], .blk M.g0 205 [words.v, owner.v], .own 3 words, .own 3 owner, M.X q] := h82.nrm ⟨rfl, trivial⟩ [0, 1, 2, 3, 4, 5] (by decide) ⟨rfl, rfl, rfl, rfl, rfl, rfl, trivial⟩
  clear h82
  refine wp_seq_k fun K84 hK84 => wp_region_lit <| wms 2 h83 rfl fun a85 h85 => wpList_nil <| hK84 _ _ <| wp_ret ?_; clear h83
  try simp only [Exit.then, Exit.inBlock]
  refine x_ret1 (fn := Try.f161) (t := 3) rfl h85 rfl ?_
  have e9 : false = decide (0 ≤ n ∧ n < (words.l.length : Int)) := by first | exact (decide_eq_true (by omega)).symm | exact (decide_eq_false (by omega)).symm | exact decide_eq_decide.2 ⟨fun h9 => by omega, fun h9 => by omega⟩
  have e7 : (true) = (fell || !decide (0 ≤ n ∧ n < (words.l.length : Int))) := by rw [← e9]; first | (rw [show fell = true by assumption]; rfl) | (rw [show fell = false by assumption]; rfl) | (rw [show fell = false by assumption]; simp; omega)
  have e8 := (h85.sh.sel (L' := [.blk gc 192 [.pointer (some ⟨g, 0, none⟩)], .blk g 197 [.iface M.T (.pointer (some M.u)), pp, tv, pv, .bool true], .blk M.g0 205 [words.v, owner.v], .own 3 words, .own 3 owner, M.X q]) [0, 1, 2, 3, 4, 5] (by decide) ⟨rfl, rfl, rfl, rfl, rfl, rfl, trivial⟩)
  rw [e7] at e8
  exact ⟨by rw [e9], e8⟩
 refine wq_val hq74 (r_move rfl rfl) (wanted_yes hq74 rfl rfl rfl rfl hb75) rfl rfl fun a87 hq87 => wq_val hq87 (r_not rfl rfl) (wanted_yes hq87 rfl rfl rfl rfl hb75) rfl rfl fun a89 hq89 => wq_val hq89 (r_pickF rfl rfl hb75 rfl) (wanted_none rfl _) rfl rfl fun a90 hq90 => wq_val hq90 (r_nil rfl rfl) (wanted_none rfl _) rfl rfl fun a91 hq91 => wq_val hq91 (r_fieldB (r := 4) fl_197_4 rfl rfl rfl) (wanted_none rfl _) rfl rfl fun a92 hq92 => wpQuiet_nil (hZ68 _ fun w93 hw93 => ?_); clear hq74 hq87 hq89 hq90 hq91
 have h93 : St 32 K W a92 w93 _ _ := ⟨hq92, hw93⟩
 clear hq92 hw93 h66
 refine wl_ex (x_stb (i := 1) (vs := [.bool true]) (cs' := [.iface M.T (.pointer (some M.u)), pp, tv, pv, .bool true]) h93 ti_4 rfl rfl rfl rfl rfl rfl rfl (allOne_cons rfl allOne_nil) (Nat.le_of_ble_eq_true rfl) rfl) (wanted_none rfl _) ?_
 rintro a94 w94 h94
 clear h93
 refine wpList_nil <| hK67 _ _ ?_
 have h95 : St 32 K W a94 w94 [(4, .bool false)] [.blk gc 192 [.pointer (some ⟨g, 0, none⟩)], .blk g 197 [.iface M.T (.pointer (some M.u)), pp, tv, pv, .bool true], .blk M.g0 205 [words.v, owner.v], .own 3 words, .own 3 owner, M.X q] := h94.nrm ⟨rfl, trivial⟩ [0, 1, 2, 3, 4, 5] (by decide) ⟨rfl, rfl, rfl, rfl, rfl, rfl, trivial⟩
 clear h94
 refine wp_seq_k fun K96 hK96 => wp_region_lit <| wms 2 h95 rfl fun a97 h97 => wpList_nil <| hK96 _ _ <| wp_ret ?_; clear h95
 try simp only [Exit.then, Exit.inBlock]
 refine x_ret1 (fn := Try.f161) (t := 3) rfl h97 rfl ?_
 have e9 : false = decide (0 ≤ n ∧ n < (words.l.length : Int)) := by first | exact (decide_eq_true (by omega)).symm | exact (decide_eq_false (by omega)).symm | exact decide_eq_decide.2 ⟨fun h9 => by omega, fun h9 => by omega⟩
 have e7 : (true) = (fell || !decide (0 ≤ n ∧ n < (words.l.length : Int))) := by rw [← e9]; first | (rw [show fell = true by assumption]; rfl) | (rw [show fell = false by assumption]; rfl) | (rw [show fell = false by assumption]; simp; omega)
 have e8 := (h97.sh.sel (L' := [.blk gc 192 [.pointer (some ⟨g, 0, none⟩)], .blk g 197 [.iface M.T (.pointer (some M.u)), pp, tv, pv, .bool true], .blk M.g0 205 [words.v, owner.v], .own 3 words, .own 3 owner, M.X q]) [0, 1, 2, 3, 4, 5] (by decide) ⟨rfl, rfl, rfl, rfl, rfl, rfl, trivial⟩)
 rw [e7] at e8
 exact ⟨by rw [e9], e8⟩

set_option maxRecDepth 100000 in
set_option maxHeartbeats 20000000 in
theorem pmem_c (K : Nat → Prop) (M : MemS) (g gp : Nat) (code : Ls (Ls Ins)) (thr : Ls ThQ) (regs prints words owner : Ls Int) (q : M.σ) (pw : Value) (locks nregs : Int) (fell : Bool) (n : Nat) (ins : Ins) (W : World) (hM : MemI Try.prog 205 3 M) (hS : Sh K W W [.blk g 197 [.iface M.T (.pointer (some M.u)), .pointer (some ⟨gp, 0, none⟩), thr.v, prints.v, .bool fell], .rblk gp 25 [code.v, pw, .int .i64 locks, .int .i64 nregs], .own 234 thr, .own 3 regs, .own 3 prints, .blk M.g0 205 [words.v, owner.v], .own 3 words, .own 3 owner, M.X q, .at_ code]) (ht : n < thr.l.length) (htn : n ≤ 1000) (hrv : (nth thr.l n).rv = regs.v) (hqn : n < (M.qs q).length) (hwl : (nth (M.qs q) n).length ≤ 3) (hwh0 : ∀ x ∈ nth (M.qs q) n, x.lock = true → x.what = 0) (hge : ∀ v ∈ owner.l, -1 ≤ v) (hR : InsR regs.l.length words.l.length owner.l.length ins) (hno : ¬ ins.op = 1 ∧ ¬ ins.op = 2 ∧ ¬ ins.op = 3 ∧ ¬ ins.op = 4 ∧ ¬ ins.op = 5 ∧ ¬ ins.op = 6 ∧ ¬ ins.op = 7 ∧ ¬ ins.op = 14 ∧ ¬ ins.op = 15 ∧ ¬ ins.op = 16) (hab : ((ins.op = 9 ∨ ins.op = 11 ∨ ins.op = 18) → (nth (M.qs q) n).length < 3) ∧ (ins.op = 13 → (nth (M.qs q) n).length = 0) ∧ True) :
    Rets Try.prog 153 [.pointer (some ⟨g, 0, none⟩), .int .i64 ((n : Nat) : Int), .agg #[.int .i64 ins.op, .int .i64 ins.a, .int .i64 ins.b, .int .i64 ins.c]] W (fun v w' => v = .tuple #[] ∧ MPost K W 197 234 3 205 25 M g gp n [code.v, pw, .int .i64 locks, .int .i64 nregs] thr q (execT M.m n ins (⟨(nth thr.l n).pc, regs.l, nth (M.qs q) n, words.l, owner.l, prints.l, fell⟩ : TS)) code w') := by
 refine x_enter (N := 193) Try.func153 rfl Try.ntmps153 (Nat.le_of_ble_eq_true rfl) fun a1 hf1 => ?_
 have h1 : St 193 K W a1 W [(0, .pointer (some ⟨g, 0, none⟩)), (1, .int .i64 ((n : Nat) : Int)), (2, .agg #[.int .i64 ins.op, .int .i64 ins.a, .int .i64 ins.b, .int .i64 ins.c])] [.blk g 197 [.iface M.T (.pointer (some M.u)), .pointer (some ⟨gp, 0, none⟩), thr.v, prints.v, .bool fell], .rblk gp 25 [code.v, pw, .int .i64 locks, .int .i64 nregs], .own 234 thr, .own 3 regs, .own 3 prints, .blk M.g0 205 [words.v, owner.v], .own 3 words, .own 3 owner, M.X q, .at_ code] := ⟨hf1.sub ⟨rfl, rfl, rfl, trivial⟩, hS⟩
 clear hf1
 refine wp_seq_k fun K2 hK2 => wp_region_lit <| wl_ex (x_box (cs := [.pointer (some ⟨g, 0, none⟩)]) h1 rfl rfl rfl rfl rfl) (wanted_none rfl _) ?_
 rintro a3 w3 ⟨b3, h3⟩; clear h1
 refine wl_ex (x_box (cs := [.int .i64 ins.op, .int .i64 ins.a, .int .i64 ins.b, .int .i64 ins.c]) h3 rfl rfl rfl rfl rfl) (wanted_none rfl _) ?_
 rintro a4 w4 ⟨b4, h4⟩; clear h3
 refine wpList_nil <| hK2 _ _ <| wp_seq_k fun K5 hK5 => wp_region_lit <| wv h4 (r_ldb (i := 1) ti_192 rfl rfl rfl rfl) rfl rfl fun a6 h6 => wv h6 (r_nil rfl rfl) rfl rfl fun a7 h7 => wv h7 (r_fieldB (r := 2) fl_197_2 rfl rfl rfl) rfl rfl fun a8 h8 => wv h8 (r_ldb (i := 2) ti_195 rfl rfl rfl rfl) rfl rfl fun a9 h9 => wms 1 h9 rfl fun a10 h10 => ?_; clear h4 h6 h7 h8 h9
 have hl11 : thr.l.length ≤ 140737488355328 := (h10.sh.own 4 rfl).len
 refine wv h10 (r_ixN (s := thr) (q := n) sl_195 ti_234 rfl rfl rfl (fun w h => (h.own 4 rfl)) (show n < thr.l.length from (by omega))) rfl rfl fun a12 h12 => wv h12 (r_fieldE (r := 1) fl_234_1 rfl rfl rfl) rfl rfl fun a13 h13 => wv h13 (Rn.same (r_lde (s := thr) (i := n) (v := ((nth thr.l n).rv)) ti_23 rfl rfl rfl (fun w h => (h.own 4 rfl)) (show n < thr.l.length from (by omega)) (Nat.le_of_ble_eq_true rfl) rfl) hrv) rfl rfl fun a14 h14 => wms 1 h14 rfl fun a15 h15 => wpList_nil <| hK5 _ _ <| wp_seq_k fun K16 hK16 => wp_region_lit <| wv h15 (r_makeFunc rfl rfl rfl) rfl rfl fun a17 h17 => wms 1 h17 rfl fun a18 h18 => wpList_nil <| hK16 _ _ <| wp_seq_k fun K19 hK19 => wp_region_lit ?_; clear h10 h12 h13 h14 h15 h17
 refine wv h18 (r_fieldB (r := 0) fl_32_0 rfl rfl rfl) rfl rfl fun a20 h20 => wv h20 (r_ldb (i := 0) ti_3 rfl rfl rfl rfl) rfl rfl fun a21 h21 => wpList_nil <| hK19 _ _ <| wp_block <| wp_seq_k fun K22 hK22 => wp_region_lit <| wv h21 (r_eqlI (p := ins.op) (q := 8) rfl rfl rfl) rfl rfl fun a23 h23 => wms 1 h23 rfl fun a24 h24 => wpList_nil <| hK22 _ _ <| x_cond h24 rfl (fun hb25 => ?_) (fun hb25 => ?_); clear h18 h20 h21 h23
 ·have hp25 : ins.op = 8 := of_decide_eq_true hb25
  have q9 := hR.o8 (by omega)
  refine x_tail 12 [] (by kernel_rfl) (by kernel_rfl) h24 fun Z26 hZ26 => ?_
  have hq26 := h24.fr
  refine wq_val hq26 (r_move rfl rfl) (wanted_none rfl _) rfl rfl fun a27 hq27 => wq_val hq27 (r_fieldB (r := 1) fl_32_1 rfl rfl rfl) (wanted_none rfl _) rfl rfl fun a28 hq28 => wq_val hq28 (r_ldb (i := 0) ti_3 rfl rfl rfl rfl) (wanted_none rfl _) rfl rfl fun a29 hq29 => wq_val hq29 (r_ldb (i := 1) ti_192 rfl rfl rfl rfl) (wanted_none rfl _) rfl rfl fun a30 hq30 => wq_val hq30 (r_nil rfl rfl) (wanted_none rfl _) rfl rfl fun a31 hq31 => wq_val hq31 (r_fieldB (r := 0) fl_197_0 rfl rfl rfl) (wanted_none rfl _) rfl rfl fun a32 hq32 => wq_val hq32 (r_ldb (i := 2) ti_129 rfl rfl rfl rfl) (wanted_none rfl _) rfl rfl fun a33 hq33 => wq_val hq33 (r_move rfl rfl) (wanted_none rfl _) rfl rfl fun a34 hq34 => wq_val hq34 (r_fieldB (r := 2) fl_32_2 rfl rfl rfl) (wanted_none rfl _) rfl rfl fun a35 hq35 => wq_val hq35 (r_ldb (i := 0) ti_3 rfl rfl rfl rfl) (wanted_none rfl _) rfl rfl fun a36 hq36 => wq_inv hq36 rfl rfl rfl (wanted_none rfl _) rfl rfl (fun w h => (hM.load _ words owner q n ins.b ⟨h.blk 7 rfl, h.own 8 rfl, h.own 9 rfl, h.ok _ (List.mem_of_getElem? (i := 10) rfl)⟩ hqn hwl (by omega))) fun a37 hq37 => ?_; clear hq26 hq27 hq28 hq29 hq30 hq31 hq32 hq33 hq34 hq35 hq36
  have hl38 : regs.l.length ≤ 140737488355328 := (h24.sh.own 5 rfl).len
  refine wq_val hq37 (r_ixI (s := regs) (q := ins.a) sl_23 ti_3 rfl rfl rfl (fun w h => (h.own 5 rfl)) (show 0 ≤ ins.a ∧ ins.a < regs.l.length from (by omega))) (wanted_none rfl _) rfl rfl fun a39 hq39 => wpQuiet_nil (hZ26 _ fun w40 hw40 => ?_); clear hq37
  have h40 : St 193 K W a39 w40 _ _ := ⟨hq39, hw40⟩
  clear hq39 hw40 h24
  refine wl_ex (x_ste (r := 5) (i := ins.a.toNat) (j := 0) (x' := (findsL (nth (M.qs q) n) words.l ins.b : Int)) h40 ti_3 rfl rfl rfl rfl rfl (show ins.a.toNat < regs.l.length from (by omega)) (Nat.le_of_ble_eq_true rfl) rfl rfl rfl (by intro q hq; obtain rfl : q = 0 := (by omega); rfl) (fun w h => Flat.inner _ _) (fun b hb => (Flat.on _ _ hb).elim)) (wanted_none rfl _) ?_
  rintro a41 w41 h41
  clear h40
  refine wpList_nil ?_
  try simp only [Exit.then, Exit.inBlock, if_true]
  refine x_end0 (fn := Try.f153) rfl h41 ?_
  have hz := (h41.sh.sel (L' := [.blk g 197 [.iface M.T (.pointer (some M.u)), .pointer (some ⟨gp, 0, none⟩), thr.v, prints.v, .bool fell], .rblk gp 25 [code.v, pw, .int .i64 locks, .int .i64 nregs], .own 234 thr, .own 3 (⟨regs.v, regs.l.set ins.a.toNat (findsL (nth (M.qs q) n) words.l ins.b)⟩ : Ls Int), .own 3 prints, .blk M.g0 205 [words.v, owner.v], .own 3 words, .own 3 owner, M.X q, .at_ code]) [2, 3, 4, 5, 6, 7, 8, 9, 10, 11] (by decide) ⟨rfl, rfl, rfl, rfl, rfl, rfl, rfl, rfl, rfl, rfl, trivial⟩)
  refine ⟨rfl, ⟨regs.v, regs.l.set ins.a.toNat (findsL (nth (M.qs q) n) words.l ins.b)⟩, ⟨words.v, words.l⟩, ⟨owner.v, owner.l⟩, ⟨prints.v, prints.l⟩, q, (nth (M.qs q) n), (nth thr.l n).pc, fell, (list_set_nth _ _).symm, ?_, ?_⟩
  · (refine Eq.trans ?_ (execT_8 (by assumption)).symm; rfl)
  · rw [← qset_n hrv ht]; exact hz
 have hp25 : ¬ (ins.op = 8) := of_decide_eq_false hb25
 refine wp_seq_k fun K42 hK42 => wp_region_lit <| wv h24 (r_eqlI (p := ins.op) (q := 9) rfl rfl rfl) rfl rfl fun a43 h43 => wms 1 h43 rfl fun a44 h44 => wpList_nil <| hK42 _ _ <| x_cond h44 rfl (fun hb45 => ?_) (fun hb45 => ?_); clear h24 h43
 ·have hp45 : ins.op = 9 := of_decide_eq_true hb45
  have q9 := hR.o9 (by omega)
  have hw0 := hab.1 (by omega)
  refine x_tail 14 [] (by kernel_rfl) (by kernel_rfl) h44 fun Z46 hZ46 => ?_
  have hq46 := h44.fr
  refine wq_val hq46 (r_ldb (i := 1) ti_192 rfl rfl rfl rfl) (wanted_none rfl _) rfl rfl fun a47 hq47 => wq_val hq47 (r_nil rfl rfl) (wanted_none rfl _) rfl rfl fun a48 hq48 => wq_val hq48 (r_fieldB (r := 0) fl_197_0 rfl rfl rfl) (wanted_none rfl _) rfl rfl fun a49 hq49 => wq_val hq49 (r_ldb (i := 2) ti_129 rfl rfl rfl rfl) (wanted_none rfl _) rfl rfl fun a50 hq50 => wq_val hq50 (r_move rfl rfl) (wanted_none rfl _) rfl rfl fun a51 hq51 => wq_val hq51 (r_fieldB (r := 1) fl_32_1 rfl rfl rfl) (wanted_none rfl _) rfl rfl fun a52 hq52 => wq_val hq52 (r_ldb (i := 0) ti_3 rfl rfl rfl rfl) (wanted_none rfl _) rfl rfl fun a53 hq53 => wq_val hq53 (r_move rfl rfl) (wanted_none rfl _) rfl rfl fun a54 hq54 => wq_val hq54 (r_fieldB (r := 2) fl_32_2 rfl rfl rfl) (wanted_none rfl _) rfl rfl fun a55 hq55 => wq_val hq55 (r_ldb (i := 0) ti_3 rfl rfl rfl rfl) (wanted_none rfl _) rfl rfl fun a56 hq56 => ?_; clear hq46 hq47 hq48 hq49 hq50 hq51 hq52 hq53 hq54 hq55
  have hl57 : regs.l.length ≤ 140737488355328 := (h44.sh.own 5 rfl).len
  refine wq_val hq56 (r_ixI (s := regs) (q := ins.b) sl_23 ti_3 rfl rfl rfl (fun w h => (h.own 5 rfl)) (show 0 ≤ ins.b ∧ ins.b < regs.l.length from (by omega))) (wanted_none rfl _) rfl rfl fun a58 hq58 => wq_val hq58 (r_lde (s := regs) (i := ins.b.toNat) (v := .int .i64 (nth regs.l ins.b.toNat)) ti_3 rfl rfl rfl (fun w h => (h.own 5 rfl)) (show ins.b.toNat < regs.l.length from (by omega)) (Nat.le_of_ble_eq_true rfl) rfl) (wanted_none rfl _) rfl rfl fun a59 hq59 => wq_val hq59 (r_nilckI rfl rfl) (wanted_none rfl _) rfl rfl fun a60 hq60 => wq_val hq60 (r_move rfl rfl) (wanted_none rfl _) rfl rfl fun a61 hq61 => wpQuiet_nil (hZ46 _ fun w62 hw62 => ?_); clear hq56 hq58 hq59 hq60
  have h62 : St 193 K W a61 w62 _ _ := ⟨hq61, hw62⟩
  clear hq61 hw62 h44
  have h63 := h62.sel (L' := [.blk M.g0 205 [words.v, owner.v], .own 3 words, .own 3 owner, M.X q, .blk b4 32 [.int .i64 ins.op, .int .i64 ins.a, .int .i64 ins.b, .int .i64 ins.c], .blk b3 192 [.pointer (some ⟨g, 0, none⟩)], .blk g 197 [.iface M.T (.pointer (some M.u)), .pointer (some ⟨gp, 0, none⟩), thr.v, prints.v, .bool fell], .rblk gp 25 [code.v, pw, .int .i64 locks, .int .i64 nregs], .own 234 thr, .own 3 regs, .own 3 prints, .at_ code]) [7, 8, 9, 10, 0, 1, 2, 3, 4, 5, 6, 11] (by decide) ⟨rfl, rfl, rfl, rfl, rfl, rfl, rfl, rfl, rfl, rfl, rfl, rfl, trivial⟩
  have hp64 := h63.sh.passL (Lp := [.blk M.g0 205 [words.v, owner.v], .own 3 words, .own 3 owner, M.X q])
  refine wl_ex (x_inv2 h63 rfl rfl rfl rfl rfl (hM.store _ _ words owner q n ins.a (nth regs.l ins.b.toNat) hp64 hqn (by omega) (by omega))) (wanted_none rfl _) ?_
  rintro a65 w65 ⟨_, ⟨rfl, words65, owner65, q65, hst65, hs65⟩, hf65⟩
  change Sh _ _ _ [.blk M.g0 205 [words65.v, owner65.v], .own 3 words65, .own 3 owner65, M.X q65] at hs65
  have h65 : St 193 K W a65 w65 _ [.blk M.g0 205 [words65.v, owner65.v], .own 3 words65, .own 3 owner65, M.X q65, .blk b4 32 [.int .i64 ins.op, .int .i64 ins.a, .int .i64 ins.b, .int .i64 ins.c], .blk b3 192 [.pointer (some ⟨g, 0, none⟩)], .blk g 197 [.iface M.T (.pointer (some M.u)), .pointer (some ⟨gp, 0, none⟩), thr.v, prints.v, .bool fell], .rblk gp 25 [code.v, pw, .int .i64 locks, .int .i64 nregs], .own 234 thr, .own 3 regs, .own 3 prints, .at_ code] := ⟨hf65, h63.sh.backL (Lp := [.blk M.g0 205 [words.v, owner.v], .own 3 words, .own 3 owner, M.X q]) hs65 (by intro A hA b hb; simp only [List.mem_cons, List.not_mem_nil, or_false] at hA; rcases hA with rfl | rfl | rfl | rfl <;> first | exact (hb : False).elim | exact Flat.noRd hb | exact .inl ⟨_, List.mem_cons_self .., .inr hb⟩ | exact rdX hM hb | exact .inl ⟨_, by simp, .inr hb⟩)⟩
  clear hf65 hs65
  clear h63
  refine wpList_nil ?_
  try simp only [Exit.then, Exit.inBlock, if_true]
  refine x_end0 (fn := Try.f153) rfl h65 ?_
  have hz := (h65.sh.sel (L' := [.blk g 197 [.iface M.T (.pointer (some M.u)), .pointer (some ⟨gp, 0, none⟩), thr.v, prints.v, .bool fell], .rblk gp 25 [code.v, pw, .int .i64 locks, .int .i64 nregs], .own 234 thr, .own 3 regs, .own 3 prints, .blk M.g0 205 [words65.v, owner65.v], .own 3 words65, .own 3 owner65, M.X q65, .at_ code]) [6, 7, 8, 9, 10, 0, 1, 2, 3, 11] (by decide) ⟨rfl, rfl, rfl, rfl, rfl, rfl, rfl, rfl, rfl, rfl, trivial⟩)
  obtain ⟨wt, hwt1, hwt2⟩ := hst65
  refine ⟨rfl, ⟨regs.v, regs.l⟩, ⟨words65.v, words65.l⟩, ⟨owner65.v, owner65.l⟩, ⟨prints.v, prints.l⟩, q65, wt, (nth thr.l n).pc, fell, hwt1, ?_, ?_⟩
  · exact Eq.trans (hwt2 _ _ _ _) (execT_9 (by assumption)).symm
  · rw [← qset_n hrv ht]; exact hz
 have hp45 : ¬ (ins.op = 9) := of_decide_eq_false hb45
 refine wp_seq_k fun K66 hK66 => wp_region_lit <| wv h44 (r_eqlI (p := ins.op) (q := 10) rfl rfl rfl) rfl rfl fun a67 h67 => wms 1 h67 rfl fun a68 h68 => wpList_nil <| hK66 _ _ <| x_cond h68 rfl (fun hb69 => ?_) (fun hb69 => ?_); clear h44 h67
 ·have hp69 : ins.op = 10 := of_decide_eq_true hb69
  have q9 := hR.o10 (by omega)
  refine wp_seq_k fun K70 hK70 => wp_region_lit <| wms 2 h68 rfl fun a71 h71 => wv h71 (r_fieldB (r := 2) fl_32_2 rfl rfl rfl) rfl rfl fun a72 h72 => wv h72 (r_ldb (i := 0) ti_3 rfl rfl rfl rfl) rfl rfl fun a73 h73 => ?_; clear h68 h71 h72
  have hl74 : regs.l.length ≤ 140737488355328 := (h73.sh.own 5 rfl).len
  refine wv h73 (r_ixI (s := regs) (q := ins.b) sl_23 ti_3 rfl rfl rfl (fun w h => (h.own 5 rfl)) (show 0 ≤ ins.b ∧ ins.b < regs.l.length from (by omega))) rfl rfl fun a75 h75 => wv h75 (r_lde (s := regs) (i := ins.b.toNat) (v := .int .i64 (nth regs.l ins.b.toNat)) ti_3 rfl rfl rfl (fun w h => (h.own 5 rfl)) (show ins.b.toNat < regs.l.length from (by omega)) (Nat.le_of_ble_eq_true rfl) rfl) rfl rfl fun a76 h76 => ?_; clear h73 h75
  have h77 := h76.sel (L' := [.blk b3 192 [.pointer (some ⟨g, 0, none⟩)], .blk g 197 [.iface M.T (.pointer (some M.u)), .pointer (some ⟨gp, 0, none⟩), thr.v, prints.v, .bool fell], .blk M.g0 205 [words.v, owner.v], .own 3 words, .own 3 owner, M.X q, .blk b4 32 [.int .i64 ins.op, .int .i64 ins.a, .int .i64 ins.b, .int .i64 ins.c], .rblk gp 25 [code.v, pw, .int .i64 locks, .int .i64 nregs], .own 234 thr, .own 3 regs, .own 3 prints, .at_ code]) [1, 2, 7, 8, 9, 10, 0, 3, 4, 5, 6, 11] (by decide) ⟨rfl, rfl, rfl, rfl, rfl, rfl, rfl, rfl, rfl, rfl, rfl, rfl, trivial⟩
  have hp78 := h77.sh.passL (Lp := [.blk b3 192 [.pointer (some ⟨g, 0, none⟩)], .blk g 197 [.iface M.T (.pointer (some M.u)), .pointer (some ⟨gp, 0, none⟩), thr.v, prints.v, .bool fell], .blk M.g0 205 [words.v, owner.v], .own 3 words, .own 3 owner, M.X q])
  refine wl_ex (x_call h77 bd_161 rfl rfl rfl rfl rfl (pis_c _ M g b3 (nth regs.l ins.b.toNat) words owner q _ _ _ _ _ hM hp78)) (wanted_none rfl _) ?_
  rintro a79 w79 ⟨_, ⟨rfl, hs79⟩, hf79⟩
  have h79 : St 193 K W a79 w79 _ [.blk b3 192 [.pointer (some ⟨g, 0, none⟩)], .blk g 197 [.iface M.T (.pointer (some M.u)), .pointer (some ⟨gp, 0, none⟩), thr.v, prints.v, .bool (fell || !decide (0 ≤ nth regs.l ins.b.toNat ∧ nth regs.l ins.b.toNat < (words.l.length : Int)))], .blk M.g0 205 [words.v, owner.v], .own 3 words, .own 3 owner, M.X q, .blk b4 32 [.int .i64 ins.op, .int .i64 ins.a, .int .i64 ins.b, .int .i64 ins.c], .rblk gp 25 [code.v, pw, .int .i64 locks, .int .i64 nregs], .own 234 thr, .own 3 regs, .own 3 prints, .at_ code] := ⟨hf79, h77.sh.backL (Lp := [.blk b3 192 [.pointer (some ⟨g, 0, none⟩)], .blk g 197 [.iface M.T (.pointer (some M.u)), .pointer (some ⟨gp, 0, none⟩), thr.v, prints.v, .bool fell], .blk M.g0 205 [words.v, owner.v], .own 3 words, .own 3 owner, M.X q]) hs79 (by intro A hA b hb; simp only [List.mem_cons, List.not_mem_nil, or_false] at hA; rcases hA with rfl | rfl | rfl | rfl | rfl | rfl <;> first | exact (hb : False).elim | exact Flat.noRd hb | exact .inl ⟨_, List.mem_cons_self .., .inr hb⟩ | exact rdX hM hb | exact .inl ⟨_, by simp, .inr hb⟩)⟩
  clear hf79 hs79
  clear h77
  refine wpList_nil <| hK70 _ _ ?_
  have h80 : St 193 K W a79 w79 [(1, .int .i64 ((n : Nat) : Int)), (3, .pointer (some ⟨b3, 0, none⟩)), (5, .pointer (some ⟨b4, 0, none⟩)), (6, regs.v), (59, .bool (decide (0 ≤ nth regs.l ins.b.toNat ∧ nth regs.l ins.b.toNat < (words.l.length : Int))))] [.blk b3 192 [.pointer (some ⟨g, 0, none⟩)], .blk g 197 [.iface M.T (.pointer (some M.u)), .pointer (some ⟨gp, 0, none⟩), thr.v, prints.v, .bool (fell || !decide (0 ≤ nth regs.l ins.b.toNat ∧ nth regs.l ins.b.toNat < (words.l.length : Int)))], .blk M.g0 205 [words.v, owner.v], .own 3 words, .own 3 owner, M.X q, .blk b4 32 [.int .i64 ins.op, .int .i64 ins.a, .int .i64 ins.b, .int .i64 ins.c], .rblk gp 25 [code.v, pw, .int .i64 locks, .int .i64 nregs], .own 234 thr, .own 3 regs, .own 3 prints, .at_ code] := h79.nrm ⟨rfl, rfl, rfl, rfl, rfl, trivial⟩ [0, 1, 2, 3, 4, 5, 6, 7, 8, 9, 10, 11] (by decide) ⟨rfl, rfl, rfl, rfl, rfl, rfl, rfl, rfl, rfl, rfl, rfl, rfl, trivial⟩
  clear h79
  refine x_cond h80 rfl (fun hb81 => ?_) (fun hb81 => ?_)
  ·have hp81 : 0 ≤ nth regs.l ins.b.toNat ∧ nth regs.l ins.b.toNat < (words.l.length : Int) := of_decide_eq_true hb81
   refine x_tail 17 [] (by kernel_rfl) (by kernel_rfl) h80 fun Z82 hZ82 => ?_
   have hq82 := h80.fr
   refine wq_val hq82 (r_move rfl rfl) (wanted_none rfl _) rfl rfl fun a83 hq83 => wq_val hq83 (r_fieldB (r := 1) fl_32_1 rfl rfl rfl) (wanted_none rfl _) rfl rfl fun a84 hq84 => wq_val hq84 (r_ldb (i := 6) ti_3 rfl rfl rfl rfl) (wanted_none rfl _) rfl rfl fun a85 hq85 => wq_val hq85 (r_ldb (i := 0) ti_192 rfl rfl rfl rfl) (wanted_none rfl _) rfl rfl fun a86 hq86 => wq_val hq86 (r_nil rfl rfl) (wanted_none rfl _) rfl rfl fun a87 hq87 => wq_val hq87 (r_fieldB (r := 0) fl_197_0 rfl rfl rfl) (wanted_none rfl _) rfl rfl fun a88 hq88 => wq_val hq88 (r_ldb (i := 1) ti_129 rfl rfl rfl rfl) (wanted_none rfl _) rfl rfl fun a89 hq89 => wq_val hq89 (r_move rfl rfl) (wanted_none rfl _) rfl rfl fun a90 hq90 => wq_val hq90 (r_move rfl rfl) (wanted_none rfl _) rfl rfl fun a91 hq91 => wq_val hq91 (r_fieldB (r := 2) fl_32_2 rfl rfl rfl) (wanted_none rfl _) rfl rfl fun a92 hq92 => wq_val hq92 (r_ldb (i := 6) ti_3 rfl rfl rfl rfl) (wanted_none rfl _) rfl rfl fun a93 hq93 => wq_val hq93 (r_ixI (s := regs) (q := ins.b) sl_23 ti_3 rfl rfl rfl (fun w h => (h.own 9 rfl)) (show 0 ≤ ins.b ∧ ins.b < regs.l.length from (by omega))) (wanted_none rfl _) rfl rfl fun a94 hq94 => wq_val hq94 (r_lde (s := regs) (i := ins.b.toNat) (v := .int .i64 (nth regs.l ins.b.toNat)) ti_3 rfl rfl rfl (fun w h => (h.own 9 rfl)) (show ins.b.toNat < regs.l.length from (by omega)) (Nat.le_of_ble_eq_true rfl) rfl) (wanted_none rfl _) rfl rfl fun a95 hq95 => wq_val hq95 (r_nilckI rfl rfl) (wanted_none rfl _) rfl rfl fun a96 hq96 => ?_; clear hq82 hq83 hq84 hq85 hq86 hq87 hq88 hq89 hq90 hq91 hq92 hq93 hq94 hq95
   refine wq_val hq96 (r_move rfl rfl) (wanted_none rfl _) rfl rfl fun a97 hq97 => wq_inv hq97 rfl rfl rfl (wanted_none rfl _) rfl rfl (fun w h => (hM.load _ words owner q n (nth regs.l ins.b.toNat) ⟨h.blk 2 rfl, h.own 3 rfl, h.own 4 rfl, h.ok _ (List.mem_of_getElem? (i := 5) rfl)⟩ hqn hwl (by omega))) fun a98 hq98 => wq_val hq98 (r_ixI (s := regs) (q := ins.a) sl_23 ti_3 rfl rfl rfl (fun w h => (h.own 9 rfl)) (show 0 ≤ ins.a ∧ ins.a < regs.l.length from (by omega))) (wanted_none rfl _) rfl rfl fun a99 hq99 => wpQuiet_nil (hZ82 _ fun w100 hw100 => ?_); clear hq96 hq97 hq98
   have h100 : St 193 K W a99 w100 _ _ := ⟨hq99, hw100⟩
   clear hq99 hw100 h80
   refine wl_ex (x_ste (r := 9) (i := ins.a.toNat) (j := 0) (x' := (findsL (nth (M.qs q) n) words.l (nth regs.l ins.b.toNat) : Int)) h100 ti_3 rfl rfl rfl rfl rfl (show ins.a.toNat < regs.l.length from (by omega)) (Nat.le_of_ble_eq_true rfl) rfl rfl rfl (by intro q hq; obtain rfl : q = 0 := (by omega); rfl) (fun w h => Flat.inner _ _) (fun b hb => (Flat.on _ _ hb).elim)) (wanted_none rfl _) ?_
   rintro a101 w101 h101
   clear h100
   refine wpList_nil ?_
   try simp only [Exit.then, Exit.inBlock, if_true]
   refine x_end0 (fn := Try.f153) rfl h101 ?_
   have hf9 : (fell || !decide (0 ≤ nth regs.l ins.b.toNat ∧ nth regs.l ins.b.toNat < (words.l.length : Int))) = fell := or_f hb81
   have hz := (h101.sh.sel (L' := [.blk g 197 [.iface M.T (.pointer (some M.u)), .pointer (some ⟨gp, 0, none⟩), thr.v, prints.v, .bool (fell || !decide (0 ≤ nth regs.l ins.b.toNat ∧ nth regs.l ins.b.toNat < (words.l.length : Int)))], .rblk gp 25 [code.v, pw, .int .i64 locks, .int .i64 nregs], .own 234 thr, .own 3 (⟨regs.v, regs.l.set ins.a.toNat (findsL (nth (M.qs q) n) words.l (nth regs.l ins.b.toNat))⟩ : Ls Int), .own 3 prints, .blk M.g0 205 [words.v, owner.v], .own 3 words, .own 3 owner, M.X q, .at_ code]) [1, 7, 8, 9, 10, 2, 3, 4, 5, 11] (by decide) ⟨rfl, rfl, rfl, rfl, rfl, rfl, rfl, rfl, rfl, rfl, trivial⟩)
   rw [hf9] at hz
   refine ⟨rfl, ⟨regs.v, regs.l.set ins.a.toNat (findsL (nth (M.qs q) n) words.l (nth regs.l ins.b.toNat))⟩, ⟨words.v, words.l⟩, ⟨owner.v, owner.l⟩, ⟨prints.v, prints.l⟩, q, (nth (M.qs q) n), (nth thr.l n).pc, fell, (list_set_nth _ _).symm, ?_, ?_⟩
   · first | (refine Eq.trans ?_ (execT_10t (by assumption) (by assumption)).symm; rfl) | (refine Eq.trans ?_ (execT_10f (by assumption) (by assumption)).symm; rfl)
   · rw [← qset_n hrv ht]; exact hz
  have hp81 : ¬ (0 ≤ nth regs.l ins.b.toNat ∧ nth regs.l ins.b.toNat < (words.l.length : Int)) := of_decide_eq_false hb81
  refine wp_skip ?_
  try simp only [Exit.then, Exit.inBlock, if_true]
  refine x_end0 (fn := Try.f153) rfl h80 ?_
  have hf9 : (fell || !decide (0 ≤ nth regs.l ins.b.toNat ∧ nth regs.l ins.b.toNat < (words.l.length : Int))) = true := or_t hb81
  have hz := (h80.sh.sel (L' := [.blk g 197 [.iface M.T (.pointer (some M.u)), .pointer (some ⟨gp, 0, none⟩), thr.v, prints.v, .bool (fell || !decide (0 ≤ nth regs.l ins.b.toNat ∧ nth regs.l ins.b.toNat < (words.l.length : Int)))], .rblk gp 25 [code.v, pw, .int .i64 locks, .int .i64 nregs], .own 234 thr, .own 3 regs, .own 3 prints, .blk M.g0 205 [words.v, owner.v], .own 3 words, .own 3 owner, M.X q, .at_ code]) [1, 7, 8, 9, 10, 2, 3, 4, 5, 11] (by decide) ⟨rfl, rfl, rfl, rfl, rfl, rfl, rfl, rfl, rfl, rfl, trivial⟩)
  rw [hf9] at hz
  refine ⟨rfl, ⟨regs.v, regs.l⟩, ⟨words.v, words.l⟩, ⟨owner.v, owner.l⟩, ⟨prints.v, prints.l⟩, q, (nth (M.qs q) n), (nth thr.l n).pc, true, (list_set_nth _ _).symm, ?_, ?_⟩
  · first | (refine Eq.trans ?_ (execT_10t (by assumption) (by assumption)).symm; rfl) | (refine Eq.trans ?_ (execT_10f (by assumption) (by assumption)).symm; rfl)
  · rw [← qset_n hrv ht]; exact hz
 have hp69 : ¬ (ins.op = 10) := of_decide_eq_false hb69
 refine wp_seq_k fun K102 hK102 => wp_region_lit <| wv h68 (r_eqlI (p := ins.op) (q := 11) rfl rfl rfl) rfl rfl fun a103 h103 => wms 1 h103 rfl fun a104 h104 => wpList_nil <| hK102 _ _ <| x_cond h104 rfl (fun hb105 => ?_) (fun hb105 => ?_); clear h68 h103
 ·have hp105 : ins.op = 11 := of_decide_eq_true hb105
  have q9 := hR.o10 (by omega)
  have hw0 := hab.1 (by omega)
  refine wp_seq_k fun K106 hK106 => wp_region_lit <| wms 2 h104 rfl fun a107 h107 => wv h107 (r_fieldB (r := 1) fl_32_1 rfl rfl rfl) rfl rfl fun a108 h108 => wv h108 (r_ldb (i := 0) ti_3 rfl rfl rfl rfl) rfl rfl fun a109 h109 => ?_; clear h104 h107 h108
  have hl110 : regs.l.length ≤ 140737488355328 := (h109.sh.own 5 rfl).len
  refine wv h109 (r_ixI (s := regs) (q := ins.a) sl_23 ti_3 rfl rfl rfl (fun w h => (h.own 5 rfl)) (show 0 ≤ ins.a ∧ ins.a < regs.l.length from (by omega))) rfl rfl fun a111 h111 => wv h111 (r_lde (s := regs) (i := ins.a.toNat) (v := .int .i64 (nth regs.l ins.a.toNat)) ti_3 rfl rfl rfl (fun w h => (h.own 5 rfl)) (show ins.a.toNat < regs.l.length from (by omega)) (Nat.le_of_ble_eq_true rfl) rfl) rfl rfl fun a112 h112 => ?_; clear h109 h111
  have h113 := h112.sel (L' := [.blk b3 192 [.pointer (some ⟨g, 0, none⟩)], .blk g 197 [.iface M.T (.pointer (some M.u)), .pointer (some ⟨gp, 0, none⟩), thr.v, prints.v, .bool fell], .blk M.g0 205 [words.v, owner.v], .own 3 words, .own 3 owner, M.X q, .blk b4 32 [.int .i64 ins.op, .int .i64 ins.a, .int .i64 ins.b, .int .i64 ins.c], .rblk gp 25 [code.v, pw, .int .i64 locks, .int .i64 nregs], .own 234 thr, .own 3 regs, .own 3 prints, .at_ code]) [1, 2, 7, 8, 9, 10, 0, 3, 4, 5, 6, 11] (by decide) ⟨rfl, rfl, rfl, rfl, rfl, rfl, rfl, rfl, rfl, rfl, rfl, rfl, trivial⟩
  have hp114 := h113.sh.passL (Lp := [.blk b3 192 [.pointer (some ⟨g, 0, none⟩)], .blk g 197 [.iface M.T (.pointer (some M.u)), .pointer (some ⟨gp, 0, none⟩), thr.v, prints.v, .bool fell], .blk M.g0 205 [words.v, owner.v], .own 3 words, .own 3 owner, M.X q])
  refine wl_ex (x_call h113 bd_161 rfl rfl rfl rfl rfl (pis_c _ M g b3 (nth regs.l ins.a.toNat) words owner q _ _ _ _ _ hM hp114)) (wanted_none rfl _) ?_
  rintro a115 w115 ⟨_, ⟨rfl, hs115⟩, hf115⟩
  have h115 : St 193 K W a115 w115 _ [.blk b3 192 [.pointer (some ⟨g, 0, none⟩)], .blk g 197 [.iface M.T (.pointer (some M.u)), .pointer (some ⟨gp, 0, none⟩), thr.v, prints.v, .bool (fell || !decide (0 ≤ nth regs.l ins.a.toNat ∧ nth regs.l ins.a.toNat < (words.l.length : Int)))], .blk M.g0 205 [words.v, owner.v], .own 3 words, .own 3 owner, M.X q, .blk b4 32 [.int .i64 ins.op, .int .i64 ins.a, .int .i64 ins.b, .int .i64 ins.c], .rblk gp 25 [code.v, pw, .int .i64 locks, .int .i64 nregs], .own 234 thr, .own 3 regs, .own 3 prints, .at_ code] := ⟨hf115, h113.sh.backL (Lp := [.blk b3 192 [.pointer (some ⟨g, 0, none⟩)], .blk g 197 [.iface M.T (.pointer (some M.u)), .pointer (some ⟨gp, 0, none⟩), thr.v, prints.v, .bool fell], .blk M.g0 205 [words.v, owner.v], .own 3 words, .own 3 owner, M.X q]) hs115 (by intro A hA b hb; simp only [List.mem_cons, List.not_mem_nil, or_false] at hA; rcases hA with rfl | rfl | rfl | rfl | rfl | rfl <;> first | exact (hb : False).elim | exact Flat.noRd hb | exact .inl ⟨_, List.mem_cons_self .., .inr hb⟩ | exact rdX hM hb | exact .inl ⟨_, by simp, .inr hb⟩)⟩
  clear hf115 hs115
  clear h113
  refine wpList_nil <| hK106 _ _ ?_
  have h116 : St 193 K W a115 w115 [(1, .int .i64 ((n : Nat) : Int)), (3, .pointer (some ⟨b3, 0, none⟩)), (5, .pointer (some ⟨b4, 0, none⟩)), (6, regs.v), (85, .bool (decide (0 ≤ nth regs.l ins.a.toNat ∧ nth regs.l ins.a.toNat < (words.l.length : Int))))] [.blk b3 192 [.pointer (some ⟨g, 0, none⟩)], .blk g 197 [.iface M.T (.pointer (some M.u)), .pointer (some ⟨gp, 0, none⟩), thr.v, prints.v, .bool (fell || !decide (0 ≤ nth regs.l ins.a.toNat ∧ nth regs.l ins.a.toNat < (words.l.length : Int)))], .blk M.g0 205 [words.v, owner.v], .own 3 words, .own 3 owner, M.X q, .blk b4 32 [.int .i64 ins.op, .int .i64 ins.a, .int .i64 ins.b, .int .i64 ins.c], .rblk gp 25 [code.v, pw, .int .i64 locks, .int .i64 nregs], .own 234 thr, .own 3 regs, .own 3 prints, .at_ code] := h115.nrm ⟨rfl, rfl, rfl, rfl, rfl, trivial⟩ [0, 1, 2, 3, 4, 5, 6, 7, 8, 9, 10, 11] (by decide) ⟨rfl, rfl, rfl, rfl, rfl, rfl, rfl, rfl, rfl, rfl, rfl, rfl, trivial⟩
  clear h115
  refine x_cond h116 rfl (fun hb117 => ?_) (fun hb117 => ?_)
  ·have hp117 : 0 ≤ nth regs.l ins.a.toNat ∧ nth regs.l ins.a.toNat < (words.l.length : Int) := of_decide_eq_true hb117
   refine x_tail 17 [] (by kernel_rfl) (by kernel_rfl) h116 fun Z118 hZ118 => ?_
   have hq118 := h116.fr
   refine wq_val hq118 (r_ldb (i := 0) ti_192 rfl rfl rfl rfl) (wanted_none rfl _) rfl rfl fun a119 hq119 => wq_val hq119 (r_nil rfl rfl) (wanted_none rfl _) rfl rfl fun a120 hq120 => wq_val hq120 (r_fieldB (r := 0) fl_197_0 rfl rfl rfl) (wanted_none rfl _) rfl rfl fun a121 hq121 => wq_val hq121 (r_ldb (i := 1) ti_129 rfl rfl rfl rfl) (wanted_none rfl _) rfl rfl fun a122 hq122 => wq_val hq122 (r_move rfl rfl) (wanted_none rfl _) rfl rfl fun a123 hq123 => wq_val hq123 (r_move rfl rfl) (wanted_none rfl _) rfl rfl fun a124 hq124 => wq_val hq124 (r_fieldB (r := 1) fl_32_1 rfl rfl rfl) (wanted_none rfl _) rfl rfl fun a125 hq125 => wq_val hq125 (r_ldb (i := 6) ti_3 rfl rfl rfl rfl) (wanted_none rfl _) rfl rfl fun a126 hq126 => wq_val hq126 (r_ixI (s := regs) (q := ins.a) sl_23 ti_3 rfl rfl rfl (fun w h => (h.own 9 rfl)) (show 0 ≤ ins.a ∧ ins.a < regs.l.length from (by omega))) (wanted_none rfl _) rfl rfl fun a127 hq127 => wq_val hq127 (r_lde (s := regs) (i := ins.a.toNat) (v := .int .i64 (nth regs.l ins.a.toNat)) ti_3 rfl rfl rfl (fun w h => (h.own 9 rfl)) (show ins.a.toNat < regs.l.length from (by omega)) (Nat.le_of_ble_eq_true rfl) rfl) (wanted_none rfl _) rfl rfl fun a128 hq128 => wq_val hq128 (r_move rfl rfl) (wanted_none rfl _) rfl rfl fun a129 hq129 => wq_val hq129 (r_fieldB (r := 2) fl_32_2 rfl rfl rfl) (wanted_none rfl _) rfl rfl fun a130 hq130 => wq_val hq130 (r_ldb (i := 6) ti_3 rfl rfl rfl rfl) (wanted_none rfl _) rfl rfl fun a131 hq131 => wq_val hq131 (r_ixI (s := regs) (q := ins.b) sl_23 ti_3 rfl rfl rfl (fun w h => (h.own 9 rfl)) (show 0 ≤ ins.b ∧ ins.b < regs.l.length from (by omega))) (wanted_none rfl _) rfl rfl fun a132 hq132 => ?_; clear hq118 hq119 hq120 hq121 hq122 hq123 hq124 hq125 hq126 hq127 hq128 hq129 hq130 hq131
   refine wq_val hq132 (r_lde (s := regs) (i := ins.b.toNat) (v := .int .i64 (nth regs.l ins.b.toNat)) ti_3 rfl rfl rfl (fun w h => (h.own 9 rfl)) (show ins.b.toNat < regs.l.length from (by omega)) (Nat.le_of_ble_eq_true rfl) rfl) (wanted_none rfl _) rfl rfl fun a133 hq133 => wq_val hq133 (r_nilckI rfl rfl) (wanted_none rfl _) rfl rfl fun a134 hq134 => wq_val hq134 (r_move rfl rfl) (wanted_none rfl _) rfl rfl fun a135 hq135 => wpQuiet_nil (hZ118 _ fun w136 hw136 => ?_); clear hq132 hq133 hq134
   have h136 : St 193 K W a135 w136 _ _ := ⟨hq135, hw136⟩
   clear hq135 hw136 h116
   have h137 := h136.sel (L' := [.blk M.g0 205 [words.v, owner.v], .own 3 words, .own 3 owner, M.X q, .blk b3 192 [.pointer (some ⟨g, 0, none⟩)], .blk g 197 [.iface M.T (.pointer (some M.u)), .pointer (some ⟨gp, 0, none⟩), thr.v, prints.v, .bool (fell || !decide (0 ≤ nth regs.l ins.a.toNat ∧ nth regs.l ins.a.toNat < (words.l.length : Int)))], .blk b4 32 [.int .i64 ins.op, .int .i64 ins.a, .int .i64 ins.b, .int .i64 ins.c], .rblk gp 25 [code.v, pw, .int .i64 locks, .int .i64 nregs], .own 234 thr, .own 3 regs, .own 3 prints, .at_ code]) [2, 3, 4, 5, 0, 1, 6, 7, 8, 9, 10, 11] (by decide) ⟨rfl, rfl, rfl, rfl, rfl, rfl, rfl, rfl, rfl, rfl, rfl, rfl, trivial⟩
   have hp138 := h137.sh.passL (Lp := [.blk M.g0 205 [words.v, owner.v], .own 3 words, .own 3 owner, M.X q])
   refine wl_ex (x_inv2 h137 rfl rfl rfl rfl rfl (hM.store _ _ words owner q n (nth regs.l ins.a.toNat) (nth regs.l ins.b.toNat) hp138 hqn (by omega) (by omega))) (wanted_none rfl _) ?_
   rintro a139 w139 ⟨_, ⟨rfl, words139, owner139, q139, hst139, hs139⟩, hf139⟩
   change Sh _ _ _ [.blk M.g0 205 [words139.v, owner139.v], .own 3 words139, .own 3 owner139, M.X q139] at hs139
   have h139 : St 193 K W a139 w139 _ [.blk M.g0 205 [words139.v, owner139.v], .own 3 words139, .own 3 owner139, M.X q139, .blk b3 192 [.pointer (some ⟨g, 0, none⟩)], .blk g 197 [.iface M.T (.pointer (some M.u)), .pointer (some ⟨gp, 0, none⟩), thr.v, prints.v, .bool (fell || !decide (0 ≤ nth regs.l ins.a.toNat ∧ nth regs.l ins.a.toNat < (words.l.length : Int)))], .blk b4 32 [.int .i64 ins.op, .int .i64 ins.a, .int .i64 ins.b, .int .i64 ins.c], .rblk gp 25 [code.v, pw, .int .i64 locks, .int .i64 nregs], .own 234 thr, .own 3 regs, .own 3 prints, .at_ code] := ⟨hf139, h137.sh.backL (Lp := [.blk M.g0 205 [words.v, owner.v], .own 3 words, .own 3 owner, M.X q]) hs139 (by intro A hA b hb; simp only [List.mem_cons, List.not_mem_nil, or_false] at hA; rcases hA with rfl | rfl | rfl | rfl <;> first | exact (hb : False).elim | exact Flat.noRd hb | exact .inl ⟨_, List.mem_cons_self .., .inr hb⟩ | exact rdX hM hb | exact .inl ⟨_, by simp, .inr hb⟩)⟩
   clear hf139 hs139
   clear h137
   refine wpList_nil ?_
   try simp only [Exit.then, Exit.inBlock, if_true]
   refine x_end0 (fn := Try.f153) rfl h139 ?_
   have hf9 : (fell || !decide (0 ≤ nth regs.l ins.a.toNat ∧ nth regs.l ins.a.toNat < (words.l.length : Int))) = fell := or_f hb117
   have hz := (h139.sh.sel (L' := [.blk g 197 [.iface M.T (.pointer (some M.u)), .pointer (some ⟨gp, 0, none⟩), thr.v, prints.v, .bool (fell || !decide (0 ≤ nth regs.l ins.a.toNat ∧ nth regs.l ins.a.toNat < (words.l.length : Int)))], .rblk gp 25 [code.v, pw, .int .i64 locks, .int .i64 nregs], .own 234 thr, .own 3 regs, .own 3 prints, .blk M.g0 205 [words139.v, owner139.v], .own 3 words139, .own 3 owner139, M.X q139, .at_ code]) [5, 7, 8, 9, 10, 0, 1, 2, 3, 11] (by decide) ⟨rfl, rfl, rfl, rfl, rfl, rfl, rfl, rfl, rfl, rfl, trivial⟩)
   rw [hf9] at hz
   obtain ⟨wt, hwt1, hwt2⟩ := hst139
   refine ⟨rfl, ⟨regs.v, regs.l⟩, ⟨words139.v, words139.l⟩, ⟨owner139.v, owner139.l⟩, ⟨prints.v, prints.l⟩, q139, wt, (nth thr.l n).pc, fell, hwt1, ?_, ?_⟩
   · exact Eq.trans (hwt2 _ _ _ _) (execT_11t (by assumption) (by assumption)).symm
   · rw [← qset_n hrv ht]; exact hz
  have hp117 : ¬ (0 ≤ nth regs.l ins.a.toNat ∧ nth regs.l ins.a.toNat < (words.l.length : Int)) := of_decide_eq_false hb117
  refine wp_skip ?_
  try simp only [Exit.then, Exit.inBlock, if_true]
  refine x_end0 (fn := Try.f153) rfl h116 ?_
  have hf9 : (fell || !decide (0 ≤ nth regs.l ins.a.toNat ∧ nth regs.l ins.a.toNat < (words.l.length : Int))) = true := or_t hb117
  have hz := (h116.sh.sel (L' := [.blk g 197 [.iface M.T (.pointer (some M.u)), .pointer (some ⟨gp, 0, none⟩), thr.v, prints.v, .bool (fell || !decide (0 ≤ nth regs.l ins.a.toNat ∧ nth regs.l ins.a.toNat < (words.l.length : Int)))], .rblk gp 25 [code.v, pw, .int .i64 locks, .int .i64 nregs], .own 234 thr, .own 3 regs, .own 3 prints, .blk M.g0 205 [words.v, owner.v], .own 3 words, .own 3 owner, M.X q, .at_ code]) [1, 7, 8, 9, 10, 2, 3, 4, 5, 11] (by decide) ⟨rfl, rfl, rfl, rfl, rfl, rfl, rfl, rfl, rfl, rfl, trivial⟩)
  rw [hf9] at hz
  refine ⟨rfl, ⟨regs.v, regs.l⟩, ⟨words.v, words.l⟩, ⟨owner.v, owner.l⟩, ⟨prints.v, prints.l⟩, q, (nth (M.qs q) n), (nth thr.l n).pc, true, (list_set_nth _ _).symm, ?_, ?_⟩
  · (refine Eq.trans ?_ (execT_11f (by assumption) (by assumption)).symm; rfl)
  · rw [← qset_n hrv ht]; exact hz
 have hp105 : ¬ (ins.op = 11) := of_decide_eq_false hb105
 refine wp_seq_k fun K140 hK140 => wp_region_lit <| wv h104 (r_eqlI (p := ins.op) (q := 13) rfl rfl rfl) rfl rfl fun a141 h141 => wms 1 h141 rfl fun a142 h142 => wpList_nil <| hK140 _ _ <| x_cond h142 rfl (fun hb143 => ?_) (fun hb143 => ?_); clear h104 h141
 ·have hp143 : ins.op = 13 := of_decide_eq_true hb143
  have q9 := hR.o13 (by omega)
  have hw0 := hab.2.1 (by assumption)
  have hfl : findsL (nth (M.qs q) n) words.l ins.a = nth words.l ins.a.toNat := findsL_none (fun j hj => absurd hj (by omega))
  refine wp_seq_k fun K144 hK144 => x_quiet (by kernel_rfl) (by kernel_rfl) h142 fun Z145 hZ145 => ?_
  have hq145 := h142.fr
  refine wq_val hq145 (r_ldb (i := 1) ti_192 rfl rfl rfl rfl) (wanted_none rfl _) rfl rfl fun a146 hq146 => wq_val hq146 (r_nil rfl rfl) (wanted_none rfl _) rfl rfl fun a147 hq147 => wq_val hq147 (r_fieldB (r := 0) fl_197_0 rfl rfl rfl) (wanted_none rfl _) rfl rfl fun a148 hq148 => wq_val hq148 (r_ldb (i := 2) ti_129 rfl rfl rfl rfl) (wanted_none rfl _) rfl rfl fun a149 hq149 => wq_val hq149 (r_move rfl rfl) (wanted_none rfl _) rfl rfl fun a150 hq150 => wq_val hq150 (r_fieldB (r := 1) fl_32_1 rfl rfl rfl) (wanted_none rfl _) rfl rfl fun a151 hq151 => wq_val hq151 (r_ldb (i := 0) ti_3 rfl rfl rfl rfl) (wanted_none rfl _) rfl rfl fun a152 hq152 => wq_inv hq152 rfl rfl rfl (wanted_none rfl _) rfl rfl (fun w h => (hM.load _ words owner q n ins.a ⟨h.blk 7 rfl, h.own 8 rfl, h.own 9 rfl, h.ok _ (List.mem_of_getElem? (i := 10) rfl)⟩ hqn hwl (by omega))) fun a153 hq153 => wq_val hq153 (r_move rfl rfl) (wanted_none rfl _) rfl rfl fun a154 hq154 => wq_val hq154 (r_fieldB (r := 2) fl_32_2 rfl rfl rfl) (wanted_none rfl _) rfl rfl fun a155 hq155 => wq_val hq155 (r_ldb (i := 0) ti_3 rfl rfl rfl rfl) (wanted_none rfl _) rfl rfl fun a156 hq156 => ?_; clear hq145 hq146 hq147 hq148 hq149 hq150 hq151 hq152 hq153 hq154 hq155
  have hl157 : regs.l.length ≤ 140737488355328 := (h142.sh.own 5 rfl).len
  refine wq_val hq156 (r_ixI (s := regs) (q := ins.b) sl_23 ti_3 rfl rfl rfl (fun w h => (h.own 5 rfl)) (show 0 ≤ ins.b ∧ ins.b < regs.l.length from (by omega))) (wanted_none rfl _) rfl rfl fun a158 hq158 => wq_val hq158 (r_lde (s := regs) (i := ins.b.toNat) (v := .int .i64 (nth regs.l ins.b.toNat)) ti_3 rfl rfl rfl (fun w h => (h.own 5 rfl)) (show ins.b.toNat < regs.l.length from (by omega)) (Nat.le_of_ble_eq_true rfl) rfl) (wanted_none rfl _) rfl rfl fun a159 hq159 => wq_val hq159 (r_eqlI (p := findsL (nth (M.qs q) n) words.l ins.a) (q := nth regs.l ins.b.toNat) rfl rfl rfl) (wanted_none rfl _) rfl rfl fun a160 hq160 => wq_val hq160 (r_assign rfl rfl) (wanted_none rfl _) rfl rfl fun a161 hq161 => wpQuiet_nil (hZ145 _ fun w162 hw162 => ?_); clear hq156 hq158 hq159 hq160
  have h162 : St 193 K W a161 w162 _ _ := ⟨hq161, hw162⟩
  clear hq161 hw162 h142
  refine hK144 _ _ ?_
  have h163 : St 193 K W a161 w162 [(1, .int .i64 ((n : Nat) : Int)), (3, .pointer (some ⟨b3, 0, none⟩)), (5, .pointer (some ⟨b4, 0, none⟩)), (6, regs.v), (8, .bool (decide (findsL (nth (M.qs q) n) words.l ins.a = nth regs.l ins.b.toNat)))] [.blk b4 32 [.int .i64 ins.op, .int .i64 ins.a, .int .i64 ins.b, .int .i64 ins.c], .blk b3 192 [.pointer (some ⟨g, 0, none⟩)], .blk g 197 [.iface M.T (.pointer (some M.u)), .pointer (some ⟨gp, 0, none⟩), thr.v, prints.v, .bool fell], .rblk gp 25 [code.v, pw, .int .i64 locks, .int .i64 nregs], .own 234 thr, .own 3 regs, .own 3 prints, .blk M.g0 205 [words.v, owner.v], .own 3 words, .own 3 owner, M.X q, .at_ code] := h162.nrm ⟨rfl, rfl, rfl, rfl, rfl, trivial⟩ [0, 1, 2, 3, 4, 5, 6, 7, 8, 9, 10, 11] (by decide) ⟨rfl, rfl, rfl, rfl, rfl, rfl, rfl, rfl, rfl, rfl, rfl, rfl, trivial⟩
  clear h162
  refine wp_seq_k fun K164 hK164 => wp_seq_k fun K165 hK165 => wp_region_lit <| wms 1 h163 rfl fun a166 h166 => wpList_nil <| hK165 _ _ <| x_cond h166 rfl (fun hb167 => ?_) (fun hb167 => ?_); clear h163
  ·have hp167 : findsL (nth (M.qs q) n) words.l ins.a = nth regs.l ins.b.toNat := of_decide_eq_true hb167
   refine x_tail 14 [] (by kernel_rfl) (by kernel_rfl) h166 fun Z168 hZ168 => ?_
   have hq168 := h166.fr
   refine wq_val hq168 (r_ldb (i := 1) ti_192 rfl rfl rfl rfl) (wanted_none rfl _) rfl rfl fun a169 hq169 => wq_val hq169 (r_nil rfl rfl) (wanted_none rfl _) rfl rfl fun a170 hq170 => wq_val hq170 (r_fieldB (r := 0) fl_197_0 rfl rfl rfl) (wanted_none rfl _) rfl rfl fun a171 hq171 => wq_val hq171 (r_ldb (i := 2) ti_129 rfl rfl rfl rfl) (wanted_none rfl _) rfl rfl fun a172 hq172 => wq_val hq172 (r_move rfl rfl) (wanted_none rfl _) rfl rfl fun a173 hq173 => wq_val hq173 (r_fieldB (r := 1) fl_32_1 rfl rfl rfl) (wanted_none rfl _) rfl rfl fun a174 hq174 => wq_val hq174 (r_ldb (i := 0) ti_3 rfl rfl rfl rfl) (wanted_none rfl _) rfl rfl fun a175 hq175 => wq_val hq175 (r_move rfl rfl) (wanted_none rfl _) rfl rfl fun a176 hq176 => wq_val hq176 (r_fieldB (r := 3) fl_32_3 rfl rfl rfl) (wanted_none rfl _) rfl rfl fun a177 hq177 => wq_val hq177 (r_ldb (i := 0) ti_3 rfl rfl rfl rfl) (wanted_none rfl _) rfl rfl fun a178 hq178 => wq_val hq178 (r_ixI (s := regs) (q := ins.c) sl_23 ti_3 rfl rfl rfl (fun w h => (h.own 5 rfl)) (show 0 ≤ ins.c ∧ ins.c < regs.l.length from (by omega))) (wanted_none rfl _) rfl rfl fun a179 hq179 => wq_val hq179 (r_lde (s := regs) (i := ins.c.toNat) (v := .int .i64 (nth regs.l ins.c.toNat)) ti_3 rfl rfl rfl (fun w h => (h.own 5 rfl)) (show ins.c.toNat < regs.l.length from (by omega)) (Nat.le_of_ble_eq_true rfl) rfl) (wanted_none rfl _) rfl rfl fun a180 hq180 => wq_val hq180 (r_nilckI rfl rfl) (wanted_none rfl _) rfl rfl fun a181 hq181 => wq_val hq181 (r_move rfl rfl) (wanted_none rfl _) rfl rfl fun a182 hq182 => ?_; clear hq168 hq169 hq170 hq171 hq172 hq173 hq174 hq175 hq176 hq177 hq178 hq179 hq180 hq181
   refine wpQuiet_nil (hZ168 _ fun w183 hw183 => ?_)
   have h183 : St 193 K W a182 w183 _ _ := ⟨hq182, hw183⟩
   clear hq182 hw183 h166
   have h184 := h183.sel (L' := [.blk M.g0 205 [words.v, owner.v], .own 3 words, .own 3 owner, M.X q, .blk b4 32 [.int .i64 ins.op, .int .i64 ins.a, .int .i64 ins.b, .int .i64 ins.c], .blk b3 192 [.pointer (some ⟨g, 0, none⟩)], .blk g 197 [.iface M.T (.pointer (some M.u)), .pointer (some ⟨gp, 0, none⟩), thr.v, prints.v, .bool fell], .rblk gp 25 [code.v, pw, .int .i64 locks, .int .i64 nregs], .own 234 thr, .own 3 regs, .own 3 prints, .at_ code]) [7, 8, 9, 10, 0, 1, 2, 3, 4, 5, 6, 11] (by decide) ⟨rfl, rfl, rfl, rfl, rfl, rfl, rfl, rfl, rfl, rfl, rfl, rfl, trivial⟩
   have hp185 := h184.sh.passL (Lp := [.blk M.g0 205 [words.v, owner.v], .own 3 words, .own 3 owner, M.X q])
   refine wl_ex (x_inv2 h184 rfl rfl rfl rfl rfl (hM.swap _ _ words owner q n ins.a (nth regs.l ins.c.toNat) hp185 (by omega))) (wanted_none rfl _) ?_
   rintro a186 w186 ⟨_, ⟨rfl, words186, owner186, q186, hst186, hs186⟩, hf186⟩
   change Sh _ _ _ [.blk M.g0 205 [words186.v, owner186.v], .own 3 words186, .own 3 owner186, M.X q186] at hs186
   have h186 : St 193 K W a186 w186 _ [.blk M.g0 205 [words186.v, owner186.v], .own 3 words186, .own 3 owner186, M.X q186, .blk b4 32 [.int .i64 ins.op, .int .i64 ins.a, .int .i64 ins.b, .int .i64 ins.c], .blk b3 192 [.pointer (some ⟨g, 0, none⟩)], .blk g 197 [.iface M.T (.pointer (some M.u)), .pointer (some ⟨gp, 0, none⟩), thr.v, prints.v, .bool fell], .rblk gp 25 [code.v, pw, .int .i64 locks, .int .i64 nregs], .own 234 thr, .own 3 regs, .own 3 prints, .at_ code] := ⟨hf186, h184.sh.backL (Lp := [.blk M.g0 205 [words.v, owner.v], .own 3 words, .own 3 owner, M.X q]) hs186 (by intro A hA b hb; simp only [List.mem_cons, List.not_mem_nil, or_false] at hA; rcases hA with rfl | rfl | rfl | rfl <;> first | exact (hb : False).elim | exact Flat.noRd hb | exact .inl ⟨_, List.mem_cons_self .., .inr hb⟩ | exact rdX hM hb | exact .inl ⟨_, by simp, .inr hb⟩)⟩
   clear hf186 hs186
   clear h184
   refine wpList_nil <| hK164 _ _ <| x_tail 6 [] (by kernel_rfl) (by kernel_rfl) h186 fun Z187 hZ187 => ?_
   have hq187 := h186.fr
   refine wq_val hq187 (r_move rfl rfl) (wanted_none rfl _) rfl rfl fun a188 hq188 => wq_val hq188 (r_fieldB (r := 2) fl_32_2 rfl rfl rfl) (wanted_none rfl _) rfl rfl fun a189 hq189 => wq_val hq189 (r_ldb (i := 4) ti_3 rfl rfl rfl rfl) (wanted_none rfl _) rfl rfl fun a190 hq190 => wq_val hq190 (r_move rfl rfl) (wanted_none rfl _) rfl rfl fun a191 hq191 => wq_call hq191 bd_152 rfl rfl rfl (wanted_none rfl _) rfl rfl (fun w h => (pbit_t hb167 _)) fun a192 hq192 => wq_val hq192 (r_ixI (s := regs) (q := ins.b) sl_23 ti_3 rfl rfl rfl (fun w h => (h.own 9 rfl)) (show 0 ≤ ins.b ∧ ins.b < regs.l.length from (by omega))) (wanted_none rfl _) rfl rfl fun a193 hq193 => wpQuiet_nil (hZ187 _ fun w194 hw194 => ?_); clear hq187 hq188 hq189 hq190 hq191 hq192
   have h194 : St 193 K W a193 w194 _ _ := ⟨hq193, hw194⟩
   clear hq193 hw194 h186
   refine wl_ex (x_ste (r := 9) (i := ins.b.toNat) (j := 0) (x' := (1 : Int)) h194 ti_3 rfl rfl rfl rfl rfl (show ins.b.toNat < regs.l.length from (by omega)) (Nat.le_of_ble_eq_true rfl) rfl rfl rfl (by intro q hq; obtain rfl : q = 0 := (by omega); rfl) (fun w h => Flat.inner _ _) (fun b hb => (Flat.on _ _ hb).elim)) (wanted_none rfl _) ?_
   rintro a195 w195 h195
   clear h194
   refine wpList_nil ?_
   try simp only [Exit.then, Exit.inBlock, if_true]
   refine x_end0 (fn := Try.f153) rfl h195 ?_
   have hz := (h195.sh.sel (L' := [.blk g 197 [.iface M.T (.pointer (some M.u)), .pointer (some ⟨gp, 0, none⟩), thr.v, prints.v, .bool fell], .rblk gp 25 [code.v, pw, .int .i64 locks, .int .i64 nregs], .own 234 thr, .own 3 (⟨regs.v, regs.l.set ins.b.toNat 1⟩ : Ls Int), .own 3 prints, .blk M.g0 205 [words186.v, owner186.v], .own 3 words186, .own 3 owner186, M.X q186, .at_ code]) [6, 7, 8, 9, 10, 0, 1, 2, 3, 11] (by decide) ⟨rfl, rfl, rfl, rfl, rfl, rfl, rfl, rfl, rfl, rfl, trivial⟩)
   obtain ⟨hw1, hw2⟩ := swap_eq (n := n) (pc := (nth thr.l n).pc) (regs := regs.l.set ins.b.toNat 1) (prints := prints.l) (fell := fell) hst186
   refine ⟨rfl, ⟨regs.v, regs.l.set ins.b.toNat 1⟩, ⟨words186.v, words186.l⟩, ⟨owner186.v, owner186.l⟩, ⟨prints.v, prints.l⟩, q186, (nth (M.qs q) n), (nth thr.l n).pc, fell, hw1, ?_, ?_⟩
   · (refine Eq.trans hw2 (execT_13t (x := (⟨(nth thr.l n).pc, regs.l, nth (M.qs q) n, words.l, owner.l, prints.l, fell⟩ : TS)) (by assumption) (hfl.symm.trans (by assumption))).symm)
   · rw [← qset_n hrv ht]; exact hz
  have hp167 : ¬ (findsL (nth (M.qs q) n) words.l ins.a = nth regs.l ins.b.toNat) := of_decide_eq_false hb167
  refine wp_skip <| hK164 _ _ <| x_tail 6 [] (by kernel_rfl) (by kernel_rfl) h166 fun Z196 hZ196 => ?_
  have hq196 := h166.fr
  refine wq_val hq196 (r_move rfl rfl) (wanted_none rfl _) rfl rfl fun a197 hq197 => wq_val hq197 (r_fieldB (r := 2) fl_32_2 rfl rfl rfl) (wanted_none rfl _) rfl rfl fun a198 hq198 => wq_val hq198 (r_ldb (i := 0) ti_3 rfl rfl rfl rfl) (wanted_none rfl _) rfl rfl fun a199 hq199 => wq_val hq199 (r_move rfl rfl) (wanted_none rfl _) rfl rfl fun a200 hq200 => wq_call hq200 bd_152 rfl rfl rfl (wanted_none rfl _) rfl rfl (fun w h => (pbit_f hb167 _)) fun a201 hq201 => wq_val hq201 (r_ixI (s := regs) (q := ins.b) sl_23 ti_3 rfl rfl rfl (fun w h => (h.own 5 rfl)) (show 0 ≤ ins.b ∧ ins.b < regs.l.length from (by omega))) (wanted_none rfl _) rfl rfl fun a202 hq202 => wpQuiet_nil (hZ196 _ fun w203 hw203 => ?_); clear hq196 hq197 hq198 hq199 hq200 hq201
  have h203 : St 193 K W a202 w203 _ _ := ⟨hq202, hw203⟩
  clear hq202 hw203 h166
  refine wl_ex (x_ste (r := 5) (i := ins.b.toNat) (j := 0) (x' := (0 : Int)) h203 ti_3 rfl rfl rfl rfl rfl (show ins.b.toNat < regs.l.length from (by omega)) (Nat.le_of_ble_eq_true rfl) rfl rfl rfl (by intro q hq; obtain rfl : q = 0 := (by omega); rfl) (fun w h => Flat.inner _ _) (fun b hb => (Flat.on _ _ hb).elim)) (wanted_none rfl _) ?_
  rintro a204 w204 h204
  clear h203
  refine wpList_nil ?_
  try simp only [Exit.then, Exit.inBlock, if_true]
  refine x_end0 (fn := Try.f153) rfl h204 ?_
  have hz := (h204.sh.sel (L' := [.blk g 197 [.iface M.T (.pointer (some M.u)), .pointer (some ⟨gp, 0, none⟩), thr.v, prints.v, .bool fell], .rblk gp 25 [code.v, pw, .int .i64 locks, .int .i64 nregs], .own 234 thr, .own 3 (⟨regs.v, regs.l.set ins.b.toNat 0⟩ : Ls Int), .own 3 prints, .blk M.g0 205 [words.v, owner.v], .own 3 words, .own 3 owner, M.X q, .at_ code]) [2, 3, 4, 5, 6, 7, 8, 9, 10, 11] (by decide) ⟨rfl, rfl, rfl, rfl, rfl, rfl, rfl, rfl, rfl, rfl, trivial⟩)
  refine ⟨rfl, ⟨regs.v, regs.l.set ins.b.toNat 0⟩, ⟨words.v, words.l⟩, ⟨owner.v, owner.l⟩, ⟨prints.v, prints.l⟩, q, (nth (M.qs q) n), (nth thr.l n).pc, fell, (list_set_nth _ _).symm, ?_, ?_⟩
  · (refine Eq.trans ?_ (execT_13f (by assumption) (fun h9 => absurd (hfl.trans h9) (by assumption))).symm; rfl)
  · rw [← qset_n hrv ht]; exact hz
 have hp143 : ¬ (ins.op = 13) := of_decide_eq_false hb143
 refine wp_seq_k fun K205 hK205 => wp_region_lit <| wv h142 (r_eqlI (p := ins.op) (q := 17) rfl rfl rfl) rfl rfl fun a206 h206 => wms 1 h206 rfl fun a207 h207 => wpList_nil <| hK205 _ _ ?_; clear h142 h206
 have h208 : St 193 K W a207 w4 [(1, .int .i64 ((n : Nat) : Int)), (3, .pointer (some ⟨b3, 0, none⟩)), (5, .pointer (some ⟨b4, 0, none⟩)), (19, .int .i64 ins.op), (142, .bool (decide (ins.op = 17)))] [.blk b4 32 [.int .i64 ins.op, .int .i64 ins.a, .int .i64 ins.b, .int .i64 ins.c], .blk b3 192 [.pointer (some ⟨g, 0, none⟩)], .blk g 197 [.iface M.T (.pointer (some M.u)), .pointer (some ⟨gp, 0, none⟩), thr.v, prints.v, .bool fell], .rblk gp 25 [code.v, pw, .int .i64 locks, .int .i64 nregs], .own 234 thr, .own 3 regs, .own 3 prints, .blk M.g0 205 [words.v, owner.v], .own 3 words, .own 3 owner, M.X q, .at_ code] := h207.nrm ⟨rfl, rfl, rfl, rfl, rfl, trivial⟩ [0, 1, 2, 3, 4, 5, 6, 7, 8, 9, 10, 11] (by decide) ⟨rfl, rfl, rfl, rfl, rfl, rfl, rfl, rfl, rfl, rfl, rfl, rfl, trivial⟩
 clear h207
 refine x_cond h208 rfl (fun hb209 => ?_) (fun hb209 => ?_)
 ·have hp209 : ins.op = 17 := of_decide_eq_true hb209
  have q9 := hR.o17 (by omega)
  refine x_tail 12 [] (by kernel_rfl) (by kernel_rfl) h208 fun Z210 hZ210 => ?_
  have hq210 := h208.fr
  refine wq_val hq210 (r_ldb (i := 1) ti_192 rfl rfl rfl rfl) (wanted_none rfl _) rfl rfl fun a211 hq211 => wq_val hq211 (r_nil rfl rfl) (wanted_none rfl _) rfl rfl fun a212 hq212 => wq_val hq212 (r_fieldB (r := 0) fl_197_0 rfl rfl rfl) (wanted_none rfl _) rfl rfl fun a213 hq213 => wq_val hq213 (r_ldb (i := 2) ti_129 rfl rfl rfl rfl) (wanted_none rfl _) rfl rfl fun a214 hq214 => wq_inv hq214 rfl rfl rfl (wanted_none rfl _) rfl rfl (fun w h => (hM.base _ words owner q ⟨h.blk 7 rfl, h.own 8 rfl, h.own 9 rfl, h.ok _ (List.mem_of_getElem? (i := 10) rfl)⟩)) fun a215 hq215 => wq_val hq215 (r_nil rfl rfl) (wanted_none rfl _) rfl rfl fun a216 hq216 => wq_val hq216 (r_fieldB (r := 1) fl_205_1 rfl rfl rfl) (wanted_none rfl _) rfl rfl fun a217 hq217 => wq_val hq217 (r_ldb (i := 7) ti_23 rfl rfl rfl rfl) (wanted_none rfl _) rfl rfl fun a218 hq218 => wq_val hq218 (r_fieldB (r := 1) fl_32_1 rfl rfl rfl) (wanted_none rfl _) rfl rfl fun a219 hq219 => wq_val hq219 (r_ldb (i := 0) ti_3 rfl rfl rfl rfl) (wanted_none rfl _) rfl rfl fun a220 hq220 => wq_val hq220 (r_move rfl rfl) (wanted_none rfl _) rfl rfl fun a221 hq221 => ?_; clear hq210 hq211 hq212 hq213 hq214 hq215 hq216 hq217 hq218 hq219 hq220
  have hl222 : owner.l.length ≤ 140737488355328 := (h208.sh.own 9 rfl).len
  refine wq_val hq221 (r_ixI (s := owner) (q := ins.a) sl_23 ti_3 rfl rfl rfl (fun w h => (h.own 9 rfl)) (show 0 ≤ ins.a ∧ ins.a < owner.l.length from (by omega))) (wanted_none rfl _) rfl rfl fun a223 hq223 => wpQuiet_nil (hZ210 _ fun w224 hw224 => ?_); clear hq221
  have h224 : St 193 K W a223 w224 _ _ := ⟨hq223, hw224⟩
  clear hq223 hw224 h208
  refine wl_ex (x_ste (r := 9) (i := ins.a.toNat) (j := 0) (x' := (((n : Nat) : Int) : Int)) h224 ti_3 rfl rfl rfl rfl rfl (show ins.a.toNat < owner.l.length from (by omega)) (Nat.le_of_ble_eq_true rfl) rfl rfl rfl (by intro q hq; obtain rfl : q = 0 := (by omega); rfl) (fun w h => Flat.inner _ _) (fun b hb => (Flat.on _ _ hb).elim)) (wanted_none rfl _) ?_
  rintro a225 w225 h225
  clear h224
  refine wpList_nil ?_
  try simp only [Exit.then, Exit.inBlock, if_true]
  refine x_end0 (fn := Try.f153) rfl h225 ?_
  have hz := (h225.sh.sel (L' := [.blk g 197 [.iface M.T (.pointer (some M.u)), .pointer (some ⟨gp, 0, none⟩), thr.v, prints.v, .bool fell], .rblk gp 25 [code.v, pw, .int .i64 locks, .int .i64 nregs], .own 234 thr, .own 3 regs, .own 3 prints, .blk M.g0 205 [words.v, owner.v], .own 3 words, .own 3 (⟨owner.v, owner.l.set ins.a.toNat ((n : Nat) : Int)⟩ : Ls Int), M.X q, .at_ code]) [2, 3, 4, 5, 6, 7, 8, 9, 10, 11] (by decide) ⟨rfl, rfl, rfl, rfl, rfl, rfl, rfl, rfl, rfl, rfl, trivial⟩)
  refine ⟨rfl, ⟨regs.v, regs.l⟩, ⟨words.v, words.l⟩, ⟨owner.v, owner.l.set ins.a.toNat ((n : Nat) : Int)⟩, ⟨prints.v, prints.l⟩, q, (nth (M.qs q) n), (nth thr.l n).pc, fell, (list_set_nth _ _).symm, ?_, ?_⟩
  · (refine Eq.trans ?_ (execT_17 (by assumption)).symm; rfl)
  · rw [← qset_n hrv ht]; exact hz
 have hp209 : ¬ (ins.op = 17) := of_decide_eq_false hb209
 refine wp_seq_k fun K226 hK226 => wp_region_lit <| wv h208 (r_eqlI (p := ins.op) (q := 18) rfl rfl rfl) rfl rfl fun a227 h227 => wms 1 h227 rfl fun a228 h228 => wpList_nil <| hK226 _ _ <| x_cond h228 rfl (fun hb229 => ?_) (fun hb229 => ?_); clear h208 h227
 ·have hp229 : ins.op = 18 := of_decide_eq_true hb229
  have q9 := hR.o17 (by omega)
  have hw0 := hab.1 (by omega)
  refine wp_seq_k fun K230 hK230 => wp_seq_k fun K231 hK231 => x_quiet (by kernel_rfl) (by kernel_rfl) h228 fun Z232 hZ232 => ?_
  have hq232 := h228.fr
  refine wq_val hq232 (r_ldb (i := 1) ti_192 rfl rfl rfl rfl) (wanted_none rfl _) rfl rfl fun a233 hq233 => wq_val hq233 (r_nil rfl rfl) (wanted_none rfl _) rfl rfl fun a234 hq234 => wq_val hq234 (r_fieldB (r := 0) fl_197_0 rfl rfl rfl) (wanted_none rfl _) rfl rfl fun a235 hq235 => wq_val hq235 (r_ldb (i := 2) ti_129 rfl rfl rfl rfl) (wanted_none rfl _) rfl rfl fun a236 hq236 => wq_inv hq236 rfl rfl rfl (wanted_none rfl _) rfl rfl (fun w h => (hM.base _ words owner q ⟨h.blk 7 rfl, h.own 8 rfl, h.own 9 rfl, h.ok _ (List.mem_of_getElem? (i := 10) rfl)⟩)) fun a237 hq237 => wq_val hq237 (r_nil rfl rfl) (wanted_none rfl _) rfl rfl fun a238 hq238 => wq_val hq238 (r_fieldB (r := 1) fl_205_1 rfl rfl rfl) (wanted_none rfl _) rfl rfl fun a239 hq239 => wq_val hq239 (r_ldb (i := 7) ti_23 rfl rfl rfl rfl) (wanted_none rfl _) rfl rfl fun a240 hq240 => wq_val hq240 (r_fieldB (r := 1) fl_32_1 rfl rfl rfl) (wanted_none rfl _) rfl rfl fun a241 hq241 => wq_val hq241 (r_ldb (i := 0) ti_3 rfl rfl rfl rfl) (wanted_none rfl _) rfl rfl fun a242 hq242 => ?_; clear hq232 hq233 hq234 hq235 hq236 hq237 hq238 hq239 hq240 hq241
  have hl243 : owner.l.length ≤ 140737488355328 := (h228.sh.own 9 rfl).len
  refine wq_val hq242 (r_ixI (s := owner) (q := ins.a) sl_23 ti_3 rfl rfl rfl (fun w h => (h.own 9 rfl)) (show 0 ≤ ins.a ∧ ins.a < owner.l.length from (by omega))) (wanted_none rfl _) rfl rfl fun a244 hq244 => wq_val hq244 (r_lde (s := owner) (i := ins.a.toNat) (v := .int .i64 (nth owner.l ins.a.toNat)) ti_3 rfl rfl rfl (fun w h => (h.own 9 rfl)) (show ins.a.toNat < owner.l.length from (by omega)) (Nat.le_of_ble_eq_true rfl) rfl) (wanted_none rfl _) rfl rfl fun a245 hq245 => wq_val hq245 (r_move rfl rfl) (wanted_none rfl _) rfl rfl fun a246 hq246 => wq_val hq246 (r_neqI (p := nth owner.l ins.a.toNat) (q := ((n : Nat) : Int)) rfl rfl rfl) (wanted_none rfl _) rfl rfl fun a247 hq247 => wq_val hq247 (r_move rfl rfl) (wanted_none rfl _) rfl rfl fun a248 hq248 => ?_; clear hq242 hq244 hq245 hq246 hq247
  rcases Bool.eq_false_or_eq_true (decide (nth owner.l ins.a.toNat ≠ ((n : Nat) : Int))) with hb249 | hb249
  ·have hp249 : nth owner.l ins.a.toNat ≠ ((n : Nat) : Int) := of_decide_eq_true hb249
   refine wq_skip hq248 (wanted_no hq248 rfl rfl rfl rfl hb249) rfl rfl fun a250 hq250 => wq_skip hq250 (wanted_no hq250 rfl rfl rfl rfl hb249) rfl rfl fun a251 hq251 => wq_skip hq251 (wanted_no hq251 rfl rfl rfl rfl hb249) rfl rfl fun a252 hq252 => wq_skip hq252 (wanted_no hq252 rfl rfl rfl rfl hb249) rfl rfl fun a253 hq253 => wq_skip hq253 (wanted_no hq253 rfl rfl rfl rfl hb249) rfl rfl fun a254 hq254 => wq_skip hq254 (wanted_no hq254 rfl rfl rfl rfl hb249) rfl rfl fun a255 hq255 => wq_skip hq255 (wanted_no hq255 rfl rfl rfl rfl hb249) rfl rfl fun a256 hq256 => wq_skip hq256 (wanted_no hq256 rfl rfl rfl rfl hb249) rfl rfl fun a257 hq257 => wq_val hq257 (r_pickT rfl rfl hb249 rfl) (wanted_none rfl _) rfl rfl fun a258 hq258 => wpQuiet_nil (hZ232 _ fun w259 hw259 => ?_); clear hq248 hq250 hq251 hq252 hq253 hq254 hq255 hq256 hq257
   have h259 : St 193 K W a258 w259 _ _ := ⟨hq258, hw259⟩
   clear hq258 hw259 h228
   refine hK231 _ _ ?_
   have h260 : St 193 K W a258 w259 [(1, .int .i64 ((n : Nat) : Int)), (3, .pointer (some ⟨b3, 0, none⟩)), (5, .pointer (some ⟨b4, 0, none⟩)), (181, .bool true)] [.blk b4 32 [.int .i64 ins.op, .int .i64 ins.a, .int .i64 ins.b, .int .i64 ins.c], .blk b3 192 [.pointer (some ⟨g, 0, none⟩)], .blk g 197 [.iface M.T (.pointer (some M.u)), .pointer (some ⟨gp, 0, none⟩), thr.v, prints.v, .bool fell], .rblk gp 25 [code.v, pw, .int .i64 locks, .int .i64 nregs], .own 234 thr, .own 3 regs, .own 3 prints, .blk M.g0 205 [words.v, owner.v], .own 3 words, .own 3 owner, M.X q, .at_ code] := h259.nrm ⟨rfl, rfl, rfl, rfl, trivial⟩ [0, 1, 2, 3, 4, 5, 6, 7, 8, 9, 10, 11] (by decide) ⟨rfl, rfl, rfl, rfl, rfl, rfl, rfl, rfl, rfl, rfl, rfl, rfl, trivial⟩
   clear h259
   refine x_condT h260 rfl rfl <| wp_seq_k fun K261 hK261 => wp_region_lit <| wv h260 (r_ldb (i := 1) ti_192 rfl rfl rfl rfl) rfl rfl fun a262 h262 => wv h262 (r_nil rfl rfl) rfl rfl fun a263 h263 => wv h263 (r_fieldB (r := 4) fl_197_4 rfl rfl rfl) rfl rfl fun a264 h264 => wl_ex (x_stb (i := 2) (vs := [.bool true]) (cs' := [.iface M.T (.pointer (some M.u)), .pointer (some ⟨gp, 0, none⟩), thr.v, prints.v, .bool true]) h264 ti_4 rfl rfl rfl rfl rfl rfl rfl (allOne_cons rfl allOne_nil) (Nat.le_of_ble_eq_true rfl) rfl) (wanted_none rfl _) ?_; clear h260 h262 h263
   rintro a265 w265 h265
   clear h264
   refine wpList_nil <| hK261 _ _ <| wp_ret ?_
   try simp only [Exit.then, Exit.inBlock]
   refine x_ret0 (fn := Try.f153) rfl h265 ?_
   have hz := (h265.sh.sel (L' := [.blk g 197 [.iface M.T (.pointer (some M.u)), .pointer (some ⟨gp, 0, none⟩), thr.v, prints.v, .bool true], .rblk gp 25 [code.v, pw, .int .i64 locks, .int .i64 nregs], .own 234 thr, .own 3 regs, .own 3 prints, .blk M.g0 205 [words.v, owner.v], .own 3 words, .own 3 owner, M.X q, .at_ code]) [2, 3, 4, 5, 6, 7, 8, 9, 10, 11] (by decide) ⟨rfl, rfl, rfl, rfl, rfl, rfl, rfl, rfl, rfl, rfl, trivial⟩)
   refine ⟨rfl, ⟨regs.v, regs.l⟩, ⟨words.v, words.l⟩, ⟨owner.v, owner.l⟩, ⟨prints.v, prints.l⟩, q, (nth (M.qs q) n), (nth thr.l n).pc, true, (list_set_nth _ _).symm, ?_, ?_⟩
   · (refine Eq.trans ?_ (pexec_18f (by assumption) (by first | exact .inl (by omega) | exact .inr (by assumption))).symm; rfl)
   · rw [← qset_n hrv ht]; exact hz
  have hp249 : ¬ (nth owner.l ins.a.toNat ≠ ((n : Nat) : Int)) := of_decide_eq_false hb249
  refine wq_val hq248 (r_ldb (i := 1) ti_192 rfl rfl rfl rfl) (wanted_yes hq248 rfl rfl rfl rfl hb249) rfl rfl fun a267 hq267 => wq_val hq267 (r_nil rfl rfl) (wanted_yes hq267 rfl rfl rfl rfl hb249) rfl rfl fun a269 hq269 => wq_val hq269 (r_fieldB (r := 0) fl_197_0 rfl rfl rfl) (wanted_yes hq269 rfl rfl rfl rfl hb249) rfl rfl fun a271 hq271 => wq_val hq271 (r_ldb (i := 2) ti_129 rfl rfl rfl rfl) (wanted_yes hq271 rfl rfl rfl rfl hb249) rfl rfl fun a273 hq273 => wq_val hq273 (r_move rfl rfl) (wanted_yes hq273 rfl rfl rfl rfl hb249) rfl rfl fun a275 hq275 => wq_val hq275 (r_fieldB (r := 1) fl_32_1 rfl rfl rfl) (wanted_yes hq275 rfl rfl rfl rfl hb249) rfl rfl fun a277 hq277 => wq_val hq277 (r_ldb (i := 0) ti_3 rfl rfl rfl rfl) (wanted_yes hq277 rfl rfl rfl rfl hb249) rfl rfl fun a279 hq279 => wq_inv hq279 rfl rfl rfl (wanted_yes hq279 rfl rfl rfl rfl hb249) rfl rfl (fun w h => (hM.freeing _ words owner q n ins.a ⟨h.blk 7 rfl, h.own 8 rfl, h.own 9 rfl, h.ok _ (List.mem_of_getElem? (i := 10) rfl)⟩ hqn hwl hwh0)) fun a281 hq281 => wq_val hq281 (r_pickF rfl rfl hb249 rfl) (wanted_none rfl _) rfl rfl fun a282 hq282 => wpQuiet_nil (hZ232 _ fun w283 hw283 => ?_); clear hq248 hq267 hq269 hq271 hq273 hq275 hq277 hq279 hq281
  have h283 : St 193 K W a282 w283 _ _ := ⟨hq282, hw283⟩
  clear hq282 hw283 h228
  refine hK231 _ _ ?_
  have h284 : St 193 K W a282 w283 [(1, .int .i64 ((n : Nat) : Int)), (3, .pointer (some ⟨b3, 0, none⟩)), (5, .pointer (some ⟨b4, 0, none⟩)), (181, .bool ((nth (M.qs q) n).any fun x => x.lock && decide (x.wh = ins.a)))] [.blk b4 32 [.int .i64 ins.op, .int .i64 ins.a, .int .i64 ins.b, .int .i64 ins.c], .blk b3 192 [.pointer (some ⟨g, 0, none⟩)], .blk g 197 [.iface M.T (.pointer (some M.u)), .pointer (some ⟨gp, 0, none⟩), thr.v, prints.v, .bool fell], .rblk gp 25 [code.v, pw, .int .i64 locks, .int .i64 nregs], .own 234 thr, .own 3 regs, .own 3 prints, .blk M.g0 205 [words.v, owner.v], .own 3 words, .own 3 owner, M.X q, .at_ code] := h283.nrm ⟨rfl, rfl, rfl, rfl, trivial⟩ [0, 1, 2, 3, 4, 5, 6, 7, 8, 9, 10, 11] (by decide) ⟨rfl, rfl, rfl, rfl, rfl, rfl, rfl, rfl, rfl, rfl, rfl, rfl, trivial⟩
  clear h283
  refine x_cond h284 rfl (fun hb285 => ?_) (fun hb285 => ?_)
  ·skip
   refine wp_seq_k fun K286 hK286 => wp_region_lit <| wv h284 (r_ldb (i := 1) ti_192 rfl rfl rfl rfl) rfl rfl fun a287 h287 => wv h287 (r_nil rfl rfl) rfl rfl fun a288 h288 => wv h288 (r_fieldB (r := 4) fl_197_4 rfl rfl rfl) rfl rfl fun a289 h289 => wl_ex (x_stb (i := 2) (vs := [.bool true]) (cs' := [.iface M.T (.pointer (some M.u)), .pointer (some ⟨gp, 0, none⟩), thr.v, prints.v, .bool true]) h289 ti_4 rfl rfl rfl rfl rfl rfl rfl (allOne_cons rfl allOne_nil) (Nat.le_of_ble_eq_true rfl) rfl) (wanted_none rfl _) ?_; clear h284 h287 h288
   rintro a290 w290 h290
   clear h289
   refine wpList_nil <| hK286 _ _ <| wp_ret ?_
   try simp only [Exit.then, Exit.inBlock]
   refine x_ret0 (fn := Try.f153) rfl h290 ?_
   have hz := (h290.sh.sel (L' := [.blk g 197 [.iface M.T (.pointer (some M.u)), .pointer (some ⟨gp, 0, none⟩), thr.v, prints.v, .bool true], .rblk gp 25 [code.v, pw, .int .i64 locks, .int .i64 nregs], .own 234 thr, .own 3 regs, .own 3 prints, .blk M.g0 205 [words.v, owner.v], .own 3 words, .own 3 owner, M.X q, .at_ code]) [2, 3, 4, 5, 6, 7, 8, 9, 10, 11] (by decide) ⟨rfl, rfl, rfl, rfl, rfl, rfl, rfl, rfl, rfl, rfl, trivial⟩)
   refine ⟨rfl, ⟨regs.v, regs.l⟩, ⟨words.v, words.l⟩, ⟨owner.v, owner.l⟩, ⟨prints.v, prints.l⟩, q, (nth (M.qs q) n), (nth thr.l n).pc, true, (list_set_nth _ _).symm, ?_, ?_⟩
   · (refine Eq.trans ?_ (pexec_18f (by assumption) (by first | exact .inl (by omega) | exact .inr (by assumption))).symm; rfl)
   · rw [← qset_n hrv ht]; exact hz
  refine wp_skip <| hK230 _ _ <| x_tail 7 [] (by kernel_rfl) (by kernel_rfl) h284 fun Z291 hZ291 => ?_
  have hq291 := h284.fr
  refine wq_val hq291 (r_ldb (i := 1) ti_192 rfl rfl rfl rfl) (wanted_none rfl _) rfl rfl fun a292 hq292 => wq_val hq292 (r_nil rfl rfl) (wanted_none rfl _) rfl rfl fun a293 hq293 => wq_val hq293 (r_fieldB (r := 0) fl_197_0 rfl rfl rfl) (wanted_none rfl _) rfl rfl fun a294 hq294 => wq_val hq294 (r_ldb (i := 2) ti_129 rfl rfl rfl rfl) (wanted_none rfl _) rfl rfl fun a295 hq295 => wq_val hq295 (r_move rfl rfl) (wanted_none rfl _) rfl rfl fun a296 hq296 => wq_val hq296 (r_fieldB (r := 1) fl_32_1 rfl rfl rfl) (wanted_none rfl _) rfl rfl fun a297 hq297 => wq_val hq297 (r_ldb (i := 0) ti_3 rfl rfl rfl rfl) (wanted_none rfl _) rfl rfl fun a298 hq298 => wpQuiet_nil (hZ291 _ fun w299 hw299 => ?_); clear hq291 hq292 hq293 hq294 hq295 hq296 hq297
  have h299 : St 193 K W a298 w299 _ _ := ⟨hq298, hw299⟩
  clear hq298 hw299 h284
  have h300 := h299.sel (L' := [.blk M.g0 205 [words.v, owner.v], .own 3 words, .own 3 owner, M.X q, .blk b4 32 [.int .i64 ins.op, .int .i64 ins.a, .int .i64 ins.b, .int .i64 ins.c], .blk b3 192 [.pointer (some ⟨g, 0, none⟩)], .blk g 197 [.iface M.T (.pointer (some M.u)), .pointer (some ⟨gp, 0, none⟩), thr.v, prints.v, .bool fell], .rblk gp 25 [code.v, pw, .int .i64 locks, .int .i64 nregs], .own 234 thr, .own 3 regs, .own 3 prints, .at_ code]) [7, 8, 9, 10, 0, 1, 2, 3, 4, 5, 6, 11] (by decide) ⟨rfl, rfl, rfl, rfl, rfl, rfl, rfl, rfl, rfl, rfl, rfl, rfl, trivial⟩
  have hp301 := h300.sh.passL (Lp := [.blk M.g0 205 [words.v, owner.v], .own 3 words, .own 3 owner, M.X q])
  refine wl_ex (x_inv2 h300 rfl rfl rfl rfl rfl (hM.free _ _ words owner q n ins.a hp301 hqn (by omega) (by omega))) (wanted_none rfl _) ?_
  rintro a302 w302 ⟨_, ⟨rfl, words302, owner302, q302, hst302, hs302⟩, hf302⟩
  change Sh _ _ _ [.blk M.g0 205 [words302.v, owner302.v], .own 3 words302, .own 3 owner302, M.X q302] at hs302
  have h302 : St 193 K W a302 w302 _ [.blk M.g0 205 [words302.v, owner302.v], .own 3 words302, .own 3 owner302, M.X q302, .blk b4 32 [.int .i64 ins.op, .int .i64 ins.a, .int .i64 ins.b, .int .i64 ins.c], .blk b3 192 [.pointer (some ⟨g, 0, none⟩)], .blk g 197 [.iface M.T (.pointer (some M.u)), .pointer (some ⟨gp, 0, none⟩), thr.v, prints.v, .bool fell], .rblk gp 25 [code.v, pw, .int .i64 locks, .int .i64 nregs], .own 234 thr, .own 3 regs, .own 3 prints, .at_ code] := ⟨hf302, h300.sh.backL (Lp := [.blk M.g0 205 [words.v, owner.v], .own 3 words, .own 3 owner, M.X q]) hs302 (by intro A hA b hb; simp only [List.mem_cons, List.not_mem_nil, or_false] at hA; rcases hA with rfl | rfl | rfl | rfl <;> first | exact (hb : False).elim | exact Flat.noRd hb | exact .inl ⟨_, List.mem_cons_self .., .inr hb⟩ | exact rdX hM hb | exact .inl ⟨_, by simp, .inr hb⟩)⟩
  clear hf302 hs302
  clear h300
  refine wpList_nil ?_
  try simp only [Exit.then, Exit.inBlock, if_true]
  refine x_end0 (fn := Try.f153) rfl h302 ?_
  have hz := (h302.sh.sel (L' := [.blk g 197 [.iface M.T (.pointer (some M.u)), .pointer (some ⟨gp, 0, none⟩), thr.v, prints.v, .bool fell], .rblk gp 25 [code.v, pw, .int .i64 locks, .int .i64 nregs], .own 234 thr, .own 3 regs, .own 3 prints, .blk M.g0 205 [words302.v, owner302.v], .own 3 words302, .own 3 owner302, M.X q302, .at_ code]) [6, 7, 8, 9, 10, 0, 1, 2, 3, 11] (by decide) ⟨rfl, rfl, rfl, rfl, rfl, rfl, rfl, rfl, rfl, rfl, trivial⟩)
  obtain ⟨wt, hwt1, hwt2⟩ := hst302
  refine ⟨rfl, ⟨regs.v, regs.l⟩, ⟨words302.v, words302.l⟩, ⟨owner302.v, owner302.l⟩, ⟨prints.v, prints.l⟩, q302, wt, (nth thr.l n).pc, fell, hwt1, ?_, ?_⟩
  · exact Eq.trans (hwt2 _ _ _ _) (pexec_18c (by assumption) (by omega) (by assumption)).symm
  · rw [← qset_n hrv ht]; exact hz
 have hp229 : ¬ (ins.op = 18) := of_decide_eq_false hb229
 refine wp_skip ?_
 try simp only [Exit.then, Exit.inBlock, if_true]
 refine x_end0 (fn := Try.f153) rfl h228 ?_
 have hz := (h228.sh.sel (L' := [.blk g 197 [.iface M.T (.pointer (some M.u)), .pointer (some ⟨gp, 0, none⟩), thr.v, prints.v, .bool fell], .rblk gp 25 [code.v, pw, .int .i64 locks, .int .i64 nregs], .own 234 thr, .own 3 regs, .own 3 prints, .blk M.g0 205 [words.v, owner.v], .own 3 words, .own 3 owner, M.X q, .at_ code]) [2, 3, 4, 5, 6, 7, 8, 9, 10, 11] (by decide) ⟨rfl, rfl, rfl, rfl, rfl, rfl, rfl, rfl, rfl, rfl, trivial⟩)
 refine ⟨rfl, ⟨regs.v, regs.l⟩, ⟨words.v, words.l⟩, ⟨owner.v, owner.l⟩, ⟨prints.v, prints.l⟩, q, (nth (M.qs q) n), (nth thr.l n).pc, fell, (list_set_nth _ _).symm, ?_, ?_⟩
 · (refine Eq.trans ?_ (pexec_no (by omega) (by omega)).symm; rfl)
 · rw [← qset_n hrv ht]; exact hz

set_option maxRecDepth 100000 in
set_option maxHeartbeats 20000000 in
theorem pdo_c (K : Nat → Prop) (M : MemS) (g gp : Nat) (code : Ls (Ls Ins)) (thr : Ls ThQ) (regs prints words owner : Ls Int) (q : M.σ) (pw : Value) (locks nregs : Int) (fell : Bool) (n : Nat) (k : Nat) (W : World) (hM : MemI Try.prog 205 3 M) (hS : Sh K W W [.blk g 197 [.iface M.T (.pointer (some M.u)), .pointer (some ⟨gp, 0, none⟩), thr.v, prints.v, .bool fell], .rblk gp 25 [code.v, pw, .int .i64 locks, .int .i64 nregs], .own 234 thr, .own 3 regs, .own 3 prints, .blk M.g0 205 [words.v, owner.v], .own 3 words, .own 3 owner, M.X q, .at_ code]) (ht : n < thr.l.length) (htn : n ≤ 1000) (hrv : (nth thr.l n).rv = regs.v) (hqn : n < (M.qs q).length) (hwl : (nth (M.qs q) n).length ≤ 3) (hwh0 : ∀ x ∈ nth (M.qs q) n, x.lock = true → x.what = 0) (hge : ∀ v ∈ owner.l, -1 ≤ v) (htc : n < code.l.length) (hpcr : 0 ≤ (nth thr.l n).pc ∧ (nth thr.l n).pc ≤ (nth code.l n).l.length) (hpcl : (nth code.l n).l.length ≤ 1000000) (hmk : mvOK M.m (nth code.l n).l (⟨(nth thr.l n).pc, regs.l, nth (M.qs q) n, words.l, owner.l, prints.l, fell⟩ : TS) k = true) (hpl : prints.l.length ≤ 100000000) (hwt : ∀ j, j < (nth (M.qs q) n).length → WtOk (nth (nth (M.qs q) n) j) words owner) (hio : k = 0 → InsR regs.l.length words.l.length owner.l.length (nextIns (nth code.l n).l (nth thr.l n).pc)) :
    Rets Try.prog 124 [.pointer (some ⟨g, 0, none⟩), .agg #[.int .i64 ((n : Nat) : Int), .int .i64 (((k : Nat) : Int) - 1)]] W (fun v w' => v = .tuple #[] ∧ MPost K W 197 234 3 205 25 M g gp n [code.v, pw, .int .i64 locks, .int .i64 nregs] thr q (doT M.m n (nth code.l n).l k (⟨(nth thr.l n).pc, regs.l, nth (M.qs q) n, words.l, owner.l, prints.l, fell⟩ : TS)) code w') := by
 refine x_enter (N := 196) Try.func124 rfl Try.ntmps124 (Nat.le_of_ble_eq_true rfl) fun a1 hf1 => ?_
 have h1 : St 196 K W a1 W [(0, .pointer (some ⟨g, 0, none⟩)), (1, .agg #[.int .i64 ((n : Nat) : Int), .int .i64 (((k : Nat) : Int) - 1)])] [.blk g 197 [.iface M.T (.pointer (some M.u)), .pointer (some ⟨gp, 0, none⟩), thr.v, prints.v, .bool fell], .rblk gp 25 [code.v, pw, .int .i64 locks, .int .i64 nregs], .own 234 thr, .own 3 regs, .own 3 prints, .blk M.g0 205 [words.v, owner.v], .own 3 words, .own 3 owner, M.X q, .at_ code] := ⟨hf1.sub ⟨rfl, rfl, trivial⟩, hS⟩
 clear hf1
 refine wp_seq_k fun K2 hK2 => wp_region_lit <| wl_ex (x_box (cs := [.int .i64 ((n : Nat) : Int), .int .i64 (((k : Nat) : Int) - 1)]) h1 rfl rfl rfl rfl rfl) (wanted_none rfl _) ?_
 rintro a3 w3 ⟨b3, h3⟩; clear h1
 refine wpList_nil <| hK2 _ _ <| wp_seq_k fun K4 hK4 => x_quiet (by kernel_rfl) (by kernel_rfl) h3 fun Z5 hZ5 => ?_
 have hq5 := h3.fr
 refine wq_val hq5 (r_move rfl rfl) (wanted_none rfl _) rfl rfl fun a6 hq6 => wq_val hq6 (r_nil rfl rfl) (wanted_none rfl _) rfl rfl fun a7 hq7 => wq_val hq7 (r_fieldB (r := 2) fl_197_2 rfl rfl rfl) (wanted_none rfl _) rfl rfl fun a8 hq8 => wq_val hq8 (r_ldb (i := 1) ti_195 rfl rfl rfl rfl) (wanted_none rfl _) rfl rfl fun a9 hq9 => wq_val hq9 (r_fieldB (r := 0) fl_203_0 rfl rfl rfl) (wanted_none rfl _) rfl rfl fun a10 hq10 => wq_val hq10 (r_ldb (i := 0) ti_3 rfl rfl rfl rfl) (wanted_none rfl _) rfl rfl fun a11 hq11 => ?_; clear hq5 hq6 hq7 hq8 hq9 hq10
 have hl12 : thr.l.length ≤ 140737488355328 := (h3.sh.own 3 rfl).len
 refine wq_val hq11 (r_ixN (s := thr) (q := n) sl_195 ti_234 rfl rfl rfl (fun w h => (h.own 3 rfl)) (show n < thr.l.length from (by omega))) (wanted_none rfl _) rfl rfl fun a13 hq13 => wq_val hq13 (r_assign rfl rfl) (wanted_none rfl _) rfl rfl fun a14 hq14 => wpQuiet_nil (hZ5 _ fun w15 hw15 => ?_); clear hq11 hq13
 have h15 : St 196 K W a14 w15 _ _ := ⟨hq14, hw15⟩
 clear hq14 hw15 h3
 refine hK4 _ _ <| wp_seq_k fun K16 hK16 => wp_seq_k fun K17 hK17 => wp_region_lit <| wv h15 (r_fieldB (r := 1) fl_203_1 rfl rfl rfl) rfl rfl fun a18 h18 => wv h18 (r_ldb (i := 0) ti_3 rfl rfl rfl rfl) rfl rfl fun a19 h19 => wv h19 (r_geqI (p := ((k : Nat) : Int) - 1) (q := 0) rfl rfl rfl) rfl rfl fun a20 h20 => wpList_nil <| hK17 _ _ <| x_cond h20 rfl (fun hb21 => ?_) (fun hb21 => ?_); clear h15 h18 h19
 ·have hp21 : 0 ≤ ((k : Nat) : Int) - 1 := of_decide_eq_true hb21
  have hkw : k - 1 < (nth (M.qs q) n).length := by rcases mvOK_k hmk with ⟨h9, _⟩ | ⟨h9, h8, _⟩; omega; (change k ≤ (nth (M.qs q) n).length at h8; omega)
  refine wp_seq_k fun K22 hK22 => x_tail 8 [] (by kernel_rfl) (by kernel_rfl) h20 fun Z23 hZ23 => ?_
  have hq23 := h20.fr
  refine wq_val hq23 (r_move rfl rfl) (wanted_none rfl _) rfl rfl fun a24 hq24 => wq_val hq24 (r_nil rfl rfl) (wanted_none rfl _) rfl rfl fun a25 hq25 => wq_val hq25 (r_fieldB (r := 0) fl_197_0 rfl rfl rfl) (wanted_none rfl _) rfl rfl fun a26 hq26 => wq_val hq26 (r_ldb (i := 1) ti_129 rfl rfl rfl rfl) (wanted_none rfl _) rfl rfl fun a27 hq27 => wq_val hq27 (r_fieldB (r := 0) fl_203_0 rfl rfl rfl) (wanted_none rfl _) rfl rfl fun a28 hq28 => wq_val hq28 (r_ldb (i := 0) ti_3 rfl rfl rfl rfl) (wanted_none rfl _) rfl rfl fun a29 hq29 => wq_val hq29 (r_fieldB (r := 1) fl_203_1 rfl rfl rfl) (wanted_none rfl _) rfl rfl fun a30 hq30 => wq_val hq30 (r_ldb (i := 0) ti_3 rfl rfl rfl rfl) (wanted_none rfl _) rfl rfl fun a31 hq31 => wpQuiet_nil (hZ23 _ fun w32 hw32 => ?_); clear hq23 hq24 hq25 hq26 hq27 hq28 hq29 hq30
  have h32 : St 196 K W a31 w32 _ _ := ⟨hq31, hw32⟩
  clear hq31 hw32 h20
  have h33 := h32.same (d := 25) (v' := .int .i64 ((k - 1 : Nat) : Int)) rfl (by rw [show ((k : Nat) : Int) - 1 = ((k - 1 : Nat) : Int) from by omega])
  clear h32
  have h34 := h33.sel (L' := [.blk M.g0 205 [words.v, owner.v], .own 3 words, .own 3 owner, M.X q, .blk b3 203 [.int .i64 ((n : Nat) : Int), .int .i64 (((k : Nat) : Int) - 1)], .blk g 197 [.iface M.T (.pointer (some M.u)), .pointer (some ⟨gp, 0, none⟩), thr.v, prints.v, .bool fell], .rblk gp 25 [code.v, pw, .int .i64 locks, .int .i64 nregs], .own 234 thr, .own 3 regs, .own 3 prints, .at_ code]) [6, 7, 8, 9, 0, 1, 2, 3, 4, 5, 10] (by decide) ⟨rfl, rfl, rfl, rfl, rfl, rfl, rfl, rfl, rfl, rfl, rfl, trivial⟩
  have hp35 := h34.sh.passL (Lp := [.blk M.g0 205 [words.v, owner.v], .own 3 words, .own 3 owner, M.X q])
  refine wl_ex (x_inv2 h34 rfl rfl rfl rfl rfl (hM.flush _ _ words owner q n (k - 1) hp35 hqn hwl hkw hwt)) (wanted_none rfl _) ?_
  rintro a36 w36 ⟨_, ⟨rfl, words36, owner36, q36, hst36, hs36⟩, hf36⟩
  change Sh _ _ _ [.blk M.g0 205 [words36.v, owner36.v], .own 3 words36, .own 3 owner36, M.X q36] at hs36
  have h36 : St 196 K W a36 w36 _ [.blk M.g0 205 [words36.v, owner36.v], .own 3 words36, .own 3 owner36, M.X q36, .blk b3 203 [.int .i64 ((n : Nat) : Int), .int .i64 (((k : Nat) : Int) - 1)], .blk g 197 [.iface M.T (.pointer (some M.u)), .pointer (some ⟨gp, 0, none⟩), thr.v, prints.v, .bool fell], .rblk gp 25 [code.v, pw, .int .i64 locks, .int .i64 nregs], .own 234 thr, .own 3 regs, .own 3 prints, .at_ code] := ⟨hf36, h34.sh.backL (Lp := [.blk M.g0 205 [words.v, owner.v], .own 3 words, .own 3 owner, M.X q]) hs36 (by intro A hA b hb; simp only [List.mem_cons, List.not_mem_nil, or_false] at hA; rcases hA with rfl | rfl | rfl | rfl <;> first | exact (hb : False).elim | exact Flat.noRd hb | exact .inl ⟨_, List.mem_cons_self .., .inr hb⟩ | exact rdX hM hb | exact .inl ⟨_, by simp, .inr hb⟩)⟩
  clear hf36 hs36
  clear h34
  refine wpList_nil <| hK22 _ _ ?_
  have h37 : St 196 K W a36 w36 [] [.blk M.g0 205 [words36.v, owner36.v], .own 3 words36, .own 3 owner36, M.X q36, .blk b3 203 [.int .i64 ((n : Nat) : Int), .int .i64 (((k : Nat) : Int) - 1)], .blk g 197 [.iface M.T (.pointer (some M.u)), .pointer (some ⟨gp, 0, none⟩), thr.v, prints.v, .bool fell], .rblk gp 25 [code.v, pw, .int .i64 locks, .int .i64 nregs], .own 234 thr, .own 3 regs, .own 3 prints, .at_ code] := h36.nrm trivial [0, 1, 2, 3, 4, 5, 6, 7, 8, 9, 10] (by decide) ⟨rfl, rfl, rfl, rfl, rfl, rfl, rfl, rfl, rfl, rfl, rfl, trivial⟩
  clear h36
  refine wp_ret ?_
  try simp only [Exit.then, Exit.inBlock]
  refine x_ret0 (fn := Try.f124) rfl h37 ?_
  have hz := (h37.sh.sel (L' := [.blk g 197 [.iface M.T (.pointer (some M.u)), .pointer (some ⟨gp, 0, none⟩), thr.v, prints.v, .bool fell], .rblk gp 25 [code.v, pw, .int .i64 locks, .int .i64 nregs], .own 234 thr, .own 3 regs, .own 3 prints, .blk M.g0 205 [words36.v, owner36.v], .own 3 words36, .own 3 owner36, M.X q36, .at_ code]) [5, 6, 7, 8, 9, 0, 1, 2, 3, 10] (by decide) ⟨rfl, rfl, rfl, rfl, rfl, rfl, rfl, rfl, rfl, rfl, trivial⟩)
  obtain ⟨wt, hwt1, hwt2⟩ := hst36
  refine ⟨rfl, ⟨regs.v, regs.l⟩, ⟨words36.v, words36.l⟩, ⟨owner36.v, owner36.l⟩, ⟨prints.v, prints.l⟩, q36, wt, (nth thr.l n).pc, fell, hwt1, ?_, ?_⟩
  · exact (hwt2 _ _ _ _).trans (pdoT_k (by omega)).symm
  · rw [← qset_n hrv ht]; exact hz
 have hp21 : ¬ (0 ≤ ((k : Nat) : Int) - 1) := of_decide_eq_false hb21
 refine wp_skip <| hK16 _ _ <| wp_seq_k fun K38 hK38 => wp_region_lit <| wms 1 h20 rfl fun a39 h39 => wv h39 (r_fieldB (r := 0) fl_203_0 rfl rfl rfl) rfl rfl fun a40 h40 => wv h40 (r_ldb (i := 0) ti_3 rfl rfl rfl rfl) rfl rfl fun a41 h41 => wl_ex (x_call h41 bd_151 rfl rfl rfl rfl rfl (pnext_c M g gp code thr words owner q _ _ _ _ _ n _ hM (h41.sh.blk 1 rfl) (h41.sh.rblk 2 rfl) (h41.sh.at 10 rfl) (h41.sh.own 3 rfl) ⟨h41.sh.blk 6 rfl, h41.sh.own 7 rfl, h41.sh.own 8 rfl, h41.sh.ok _ (List.mem_of_getElem? (i := 9) rfl)⟩ (by omega) (by omega) (by omega))) (wanted_none rfl _) ?_; clear h20 h39 h40
 rintro a42 w42 ⟨_, ⟨hv42, hs42⟩, hf42⟩
 obtain ⟨ins, hins⟩ : ∃ i, i = nextIns (nth code.l n).l (nth thr.l n).pc := ⟨_, rfl⟩
 rw [← hins] at hv42
 subst hv42
 have h42 : St 196 K W a42 w42 _ _ := ⟨hf42, h41.sh.call0 hs42⟩
 clear hf42 hs42
 clear h41
 refine wms 1 h42 rfl fun a43 h43 => wv h43 (r_extract rfl rfl rfl) rfl rfl fun a44 h44 => wv h44 (r_extract rfl rfl rfl) rfl rfl fun a45 h45 => wl_ex (x_alloc h45 ti_32 rfl rfl rfl) (wanted_none rfl _) ?_; clear h42 h43 h44
 rintro a46 w46 ⟨b46, h46⟩; clear h45
 refine wl_ex (x_stb (i := 0) (vs := [.int .i64 ins.op, .int .i64 ins.a, .int .i64 ins.b, .int .i64 ins.c]) (cs' := [.int .i64 ins.op, .int .i64 ins.a, .int .i64 ins.b, .int .i64 ins.c]) h46 ti_32 rfl rfl rfl rfl rfl rfl rfl (allOne_cons rfl (allOne_cons rfl (allOne_cons rfl (allOne_cons rfl allOne_nil)))) (Nat.le_of_ble_eq_true rfl) rfl) (wanted_none rfl _) ?_
 rintro a47 w47 h47
 clear h46
 refine wms 1 h47 rfl fun a48 h48 => wpList_nil <| hK38 _ _ ?_; clear h47
 have hR := hio (by omega)
 rw [← hins] at hR
 have hab9 := able_of hmk (by omega)
 change (nth thr.l n).pc < _ ∧ ableL owner.l (nth (M.qs q) n).length (nextIns (nth code.l n).l (nth thr.l n).pc) = true at hab9
 rw [← hins] at hab9
 have hab := hab_of hab9.2
 refine wp_seq_k fun K49 hK49 => wp_region_lit <| wms 1 h48 rfl fun a50 h50 => wv h50 (r_nil rfl rfl) rfl rfl fun a51 h51 => wv h51 (r_fieldE (r := 0) fl_234_0 rfl rfl rfl) rfl rfl fun a52 h52 => wv h52 (r_lde (s := thr) (i := n) (v := .int .i64 ((nth thr.l n).pc)) ti_3 rfl rfl rfl (fun w h => (h.own 4 rfl)) (show n < thr.l.length from (by omega)) (Nat.le_of_ble_eq_true rfl) rfl) rfl rfl fun a53 h53 => wv h53 (r_addI (p := (nth thr.l n).pc) (q := 1) rfl rfl rfl (show -9223372036854775808 ≤ ((nth thr.l n).pc) + 1 ∧ ((nth thr.l n).pc) + 1 < 9223372036854775808 from (by omega))) rfl rfl fun a54 h54 => wv h54 (r_nil rfl rfl) rfl rfl fun a55 h55 => wv h55 (r_fieldE (r := 0) fl_234_0 rfl rfl rfl) rfl rfl fun a56 h56 => wl_ex (x_ste (r := 4) (i := n) (j := 0) (x' := ({ nth thr.l n with pc := ((nth thr.l n).pc) + 1 } : ThQ)) h56 ti_3 rfl rfl rfl rfl rfl (show n < thr.l.length from (by omega)) (Nat.le_of_ble_eq_true rfl) rfl rfl rfl (by intro q hq; rcases q with _ | _ | q <;> first | rfl | omega) (fun w h => Flat.inner _ _) (fun b hb => (Flat.on _ _ hb).elim)) (wanted_none rfl _) ?_; clear h48 h50 h51 h52 h53 h54 h55
 rintro a57 w57 h57
 clear h56
 refine wpList_nil <| hK49 _ _ ?_
 have h58 : St 196 K W a57 w57 [(0, .pointer (some ⟨g, 0, none⟩)), (3, .pointer (some ⟨b3, 0, none⟩)), (4, .pointer (some (padr thr.v 2 n 0))), (5, .pointer (some ⟨b46, 0, none⟩))] [.blk b46 32 [.int .i64 ins.op, .int .i64 ins.a, .int .i64 ins.b, .int .i64 ins.c], .blk b3 203 [.int .i64 ((n : Nat) : Int), .int .i64 (((k : Nat) : Int) - 1)], .blk g 197 [.iface M.T (.pointer (some M.u)), .pointer (some ⟨gp, 0, none⟩), thr.v, prints.v, .bool fell], .rblk gp 25 [code.v, pw, .int .i64 locks, .int .i64 nregs], .own 234 (⟨thr.v, thr.l.set n ({ nth thr.l n with pc := ((nth thr.l n).pc) + 1 })⟩ : Ls ThQ), .own 3 regs, .own 3 prints, .blk M.g0 205 [words.v, owner.v], .own 3 words, .own 3 owner, M.X q, .at_ code] := h57.nrm ⟨rfl, rfl, rfl, rfl, trivial⟩ [0, 1, 2, 3, 4, 5, 6, 7, 8, 9, 10, 11] (by decide) ⟨rfl, rfl, rfl, rfl, rfl, rfl, rfl, rfl, rfl, rfl, rfl, rfl, trivial⟩
 clear h57
 obtain ⟨tl, htl⟩ : ∃ tl, tl = thr.l.set n ({ nth thr.l n with pc := ((nth thr.l n).pc) + 1 }) := ⟨_, rfl⟩
 have h589 := h58.relist (i := 4) (l' := tl) rfl htl.symm
 clear h58
 rw [qset_0 hrv] at htl
 have htll : tl.length = thr.l.length := by rw [htl, List.length_set]
 have hrv2 : (nth tl n).rv = regs.v := by rw [htl, nth_set, if_pos ⟨rfl, ht⟩]
 have hpc2 : (nth tl n).pc = (nth thr.l n).pc + 1 := by rw [htl, nth_set, if_pos ⟨rfl, ht⟩]
 refine wp_seq_k fun K59 hK59 => wp_region_lit <| wms 1 h589 rfl fun a60 h60 => wv h60 (r_nil rfl rfl) rfl rfl fun a61 h61 => wv h61 (r_fieldE (r := 1) fl_234_1 rfl rfl rfl) rfl rfl fun a62 h62 => wv h62 (Rn.same (r_lde (s := (⟨thr.v, tl⟩ : Ls ThQ)) (i := n) (v := ((nth tl n).rv)) ti_23 rfl rfl rfl (fun w h => (h.own 4 rfl)) (show n < tl.length from (by omega)) (Nat.le_of_ble_eq_true rfl) rfl) hrv2) rfl rfl fun a63 h63 => wms 1 h63 rfl fun a64 h64 => wpList_nil <| hK59 _ _ <| wp_seq_k fun K65 hK65 => wp_region_lit <| wv h64 (r_fieldB (r := 0) fl_32_0 rfl rfl rfl) rfl rfl fun a66 h66 => wv h66 (r_ldb (i := 0) ti_3 rfl rfl rfl rfl) rfl rfl fun a67 h67 => wpList_nil ?_; clear h589 h60 h61 h62 h63 h64 h66
 refine hK65 _ _ <| wp_block <| wp_seq_k fun K68 hK68 => wp_region_lit <| wv h67 (r_eqlI (p := ins.op) (q := 1) rfl rfl rfl) rfl rfl fun a69 h69 => wms 1 h69 rfl fun a70 h70 => wpList_nil <| hK68 _ _ <| x_cond h70 rfl (fun hb71 => ?_) (fun hb71 => ?_); clear h67 h69
 ·have hp71 : ins.op = 1 := of_decide_eq_true hb71
  have q9 := hR.o1 (by omega)
  refine wp_region_lit <| wms 1 h70 rfl fun a72 h72 => wv h72 (r_fieldB (r := 1) fl_32_1 rfl rfl rfl) rfl rfl fun a73 h73 => wv h73 (r_ldb (i := 0) ti_3 rfl rfl rfl rfl) rfl rfl fun a74 h74 => wv h74 (r_fieldB (r := 2) fl_32_2 rfl rfl rfl) rfl rfl fun a75 h75 => wv h75 (r_ldb (i := 0) ti_3 rfl rfl rfl rfl) rfl rfl fun a76 h76 => ?_; clear h70 h72 h73 h74 h75
  have hl77 : regs.l.length ≤ 140737488355328 := (h76.sh.own 5 rfl).len
  refine wv h76 (r_ixI (s := regs) (q := ins.a) sl_23 ti_3 rfl rfl rfl (fun w h => (h.own 5 rfl)) (show 0 ≤ ins.a ∧ ins.a < regs.l.length from (by omega))) rfl rfl fun a78 h78 => wl_ex (x_ste (r := 5) (i := ins.a.toNat) (j := 0) (x' := (ins.b : Int)) h78 ti_3 rfl rfl rfl rfl rfl (show ins.a.toNat < regs.l.length from (by omega)) (Nat.le_of_ble_eq_true rfl) rfl rfl rfl (by intro q hq; obtain rfl : q = 0 := (by omega); rfl) (fun w h => Flat.inner _ _) (fun b hb => (Flat.on _ _ hb).elim)) (wanted_none rfl _) ?_; clear h76
  rintro a79 w79 h79
  clear h78
  refine wpList_nil ?_
  try simp only [Exit.then, Exit.inBlock, if_true]
  refine x_end0 (fn := Try.f124) rfl h79 ?_
  have hz := (h79.sh.sel (L' := [.blk g 197 [.iface M.T (.pointer (some M.u)), .pointer (some ⟨gp, 0, none⟩), thr.v, prints.v, .bool fell], .rblk gp 25 [code.v, pw, .int .i64 locks, .int .i64 nregs], .own 234 (⟨thr.v, tl⟩ : Ls ThQ), .own 3 (⟨regs.v, regs.l.set ins.a.toNat ins.b⟩ : Ls Int), .own 3 prints, .blk M.g0 205 [words.v, owner.v], .own 3 words, .own 3 owner, M.X q, .at_ code]) [2, 3, 4, 5, 6, 7, 8, 9, 10, 11] (by decide) ⟨rfl, rfl, rfl, rfl, rfl, rfl, rfl, rfl, rfl, rfl, trivial⟩)
  refine ⟨rfl, ⟨regs.v, regs.l.set ins.a.toNat ins.b⟩, ⟨words.v, words.l⟩, ⟨owner.v, owner.l⟩, ⟨prints.v, prints.l⟩, q, nth (M.qs q) n, (nth thr.l n).pc + 1, fell, (list_set_nth _ _).symm, ?_, ?_⟩
  · refine Eq.trans ?_ (doT_0 (by omega)).symm; show _ = execT M.m n (nextIns (nth code.l n).l (nth thr.l n).pc) _; rw [← hins]; (refine Eq.trans ?_ (execT_1 (by assumption)).symm; rfl)
  · rw [htl] at hz; exact hz
 have hp71 : ¬ (ins.op = 1) := of_decide_eq_false hb71
 refine wp_seq_k fun K80 hK80 => wp_region_lit <| wv h70 (r_eqlI (p := ins.op) (q := 2) rfl rfl rfl) rfl rfl fun a81 h81 => wms 1 h81 rfl fun a82 h82 => wpList_nil <| hK80 _ _ <| x_cond h82 rfl (fun hb83 => ?_) (fun hb83 => ?_); clear h70 h81
 ·have hp83 : ins.op = 2 := of_decide_eq_true hb83
  have q9 := hR.o2 (by omega)
  refine x_tail 9 [] (by kernel_rfl) (by kernel_rfl) h82 fun Z84 hZ84 => ?_
  have hq84 := h82.fr
  refine wq_val hq84 (r_move rfl rfl) (wanted_none rfl _) rfl rfl fun a85 hq85 => wq_val hq85 (r_fieldB (r := 1) fl_32_1 rfl rfl rfl) (wanted_none rfl _) rfl rfl fun a86 hq86 => wq_val hq86 (r_ldb (i := 0) ti_3 rfl rfl rfl rfl) (wanted_none rfl _) rfl rfl fun a87 hq87 => wq_val hq87 (r_move rfl rfl) (wanted_none rfl _) rfl rfl fun a88 hq88 => wq_val hq88 (r_fieldB (r := 2) fl_32_2 rfl rfl rfl) (wanted_none rfl _) rfl rfl fun a89 hq89 => wq_val hq89 (r_ldb (i := 0) ti_3 rfl rfl rfl rfl) (wanted_none rfl _) rfl rfl fun a90 hq90 => ?_; clear hq84 hq85 hq86 hq87 hq88 hq89
  have hl91 : regs.l.length ≤ 140737488355328 := (h82.sh.own 5 rfl).len
  refine wq_val hq90 (r_ixI (s := regs) (q := ins.b) sl_23 ti_3 rfl rfl rfl (fun w h => (h.own 5 rfl)) (show 0 ≤ ins.b ∧ ins.b < regs.l.length from (by omega))) (wanted_none rfl _) rfl rfl fun a92 hq92 => wq_val hq92 (r_lde (s := regs) (i := ins.b.toNat) (v := .int .i64 (nth regs.l ins.b.toNat)) ti_3 rfl rfl rfl (fun w h => (h.own 5 rfl)) (show ins.b.toNat < regs.l.length from (by omega)) (Nat.le_of_ble_eq_true rfl) rfl) (wanted_none rfl _) rfl rfl fun a93 hq93 => wq_val hq93 (r_ixI (s := regs) (q := ins.a) sl_23 ti_3 rfl rfl rfl (fun w h => (h.own 5 rfl)) (show 0 ≤ ins.a ∧ ins.a < regs.l.length from (by omega))) (wanted_none rfl _) rfl rfl fun a94 hq94 => wpQuiet_nil (hZ84 _ fun w95 hw95 => ?_); clear hq90 hq92 hq93
  have h95 : St 196 K W a94 w95 _ _ := ⟨hq94, hw95⟩
  clear hq94 hw95 h82
  refine wl_ex (x_ste (r := 5) (i := ins.a.toNat) (j := 0) (x' := (nth regs.l ins.b.toNat : Int)) h95 ti_3 rfl rfl rfl rfl rfl (show ins.a.toNat < regs.l.length from (by omega)) (Nat.le_of_ble_eq_true rfl) rfl rfl rfl (by intro q hq; obtain rfl : q = 0 := (by omega); rfl) (fun w h => Flat.inner _ _) (fun b hb => (Flat.on _ _ hb).elim)) (wanted_none rfl _) ?_
  rintro a96 w96 h96
  clear h95
  refine wpList_nil ?_
  try simp only [Exit.then, Exit.inBlock, if_true]
  refine x_end0 (fn := Try.f124) rfl h96 ?_
  have hz := (h96.sh.sel (L' := [.blk g 197 [.iface M.T (.pointer (some M.u)), .pointer (some ⟨gp, 0, none⟩), thr.v, prints.v, .bool fell], .rblk gp 25 [code.v, pw, .int .i64 locks, .int .i64 nregs], .own 234 (⟨thr.v, tl⟩ : Ls ThQ), .own 3 (⟨regs.v, regs.l.set ins.a.toNat (nth regs.l ins.b.toNat)⟩ : Ls Int), .own 3 prints, .blk M.g0 205 [words.v, owner.v], .own 3 words, .own 3 owner, M.X q, .at_ code]) [2, 3, 4, 5, 6, 7, 8, 9, 10, 11] (by decide) ⟨rfl, rfl, rfl, rfl, rfl, rfl, rfl, rfl, rfl, rfl, trivial⟩)
  refine ⟨rfl, ⟨regs.v, regs.l.set ins.a.toNat (nth regs.l ins.b.toNat)⟩, ⟨words.v, words.l⟩, ⟨owner.v, owner.l⟩, ⟨prints.v, prints.l⟩, q, nth (M.qs q) n, (nth thr.l n).pc + 1, fell, (list_set_nth _ _).symm, ?_, ?_⟩
  · refine Eq.trans ?_ (doT_0 (by omega)).symm; show _ = execT M.m n (nextIns (nth code.l n).l (nth thr.l n).pc) _; rw [← hins]; (refine Eq.trans ?_ (execT_2 (by assumption)).symm; rfl)
  · rw [htl] at hz; exact hz
 have hp83 : ¬ (ins.op = 2) := of_decide_eq_false hb83
 refine wp_seq_k fun K97 hK97 => wp_region_lit <| wv h82 (r_eqlI (p := ins.op) (q := 3) rfl rfl rfl) rfl rfl fun a98 h98 => wms 1 h98 rfl fun a99 h99 => wpList_nil <| hK97 _ _ <| x_cond h99 rfl (fun hb100 => ?_) (fun hb100 => ?_); clear h82 h98
 ·have hp100 : ins.op = 3 := of_decide_eq_true hb100
  have q9 := hR.o3 (by omega)
  refine x_tail 15 [] (by kernel_rfl) (by kernel_rfl) h99 fun Z101 hZ101 => ?_
  have hq101 := h99.fr
  refine wq_val hq101 (r_move rfl rfl) (wanted_none rfl _) rfl rfl fun a102 hq102 => wq_val hq102 (r_fieldB (r := 1) fl_32_1 rfl rfl rfl) (wanted_none rfl _) rfl rfl fun a103 hq103 => wq_val hq103 (r_ldb (i := 0) ti_3 rfl rfl rfl rfl) (wanted_none rfl _) rfl rfl fun a104 hq104 => wq_val hq104 (r_move rfl rfl) (wanted_none rfl _) rfl rfl fun a105 hq105 => wq_val hq105 (r_fieldB (r := 2) fl_32_2 rfl rfl rfl) (wanted_none rfl _) rfl rfl fun a106 hq106 => wq_val hq106 (r_ldb (i := 0) ti_3 rfl rfl rfl rfl) (wanted_none rfl _) rfl rfl fun a107 hq107 => ?_; clear hq101 hq102 hq103 hq104 hq105 hq106
  have hl108 : regs.l.length ≤ 140737488355328 := (h99.sh.own 5 rfl).len
  refine wq_val hq107 (r_ixI (s := regs) (q := ins.b) sl_23 ti_3 rfl rfl rfl (fun w h => (h.own 5 rfl)) (show 0 ≤ ins.b ∧ ins.b < regs.l.length from (by omega))) (wanted_none rfl _) rfl rfl fun a109 hq109 => wq_val hq109 (r_lde (s := regs) (i := ins.b.toNat) (v := .int .i64 (nth regs.l ins.b.toNat)) ti_3 rfl rfl rfl (fun w h => (h.own 5 rfl)) (show ins.b.toNat < regs.l.length from (by omega)) (Nat.le_of_ble_eq_true rfl) rfl) (wanted_none rfl _) rfl rfl fun a110 hq110 => wq_val hq110 (r_move rfl rfl) (wanted_none rfl _) rfl rfl fun a111 hq111 => wq_val hq111 (r_fieldB (r := 3) fl_32_3 rfl rfl rfl) (wanted_none rfl _) rfl rfl fun a112 hq112 => wq_val hq112 (r_ldb (i := 0) ti_3 rfl rfl rfl rfl) (wanted_none rfl _) rfl rfl fun a113 hq113 => wq_val hq113 (r_ixI (s := regs) (q := ins.c) sl_23 ti_3 rfl rfl rfl (fun w h => (h.own 5 rfl)) (show 0 ≤ ins.c ∧ ins.c < regs.l.length from (by omega))) (wanted_none rfl _) rfl rfl fun a114 hq114 => wq_val hq114 (r_lde (s := regs) (i := ins.c.toNat) (v := .int .i64 (nth regs.l ins.c.toNat)) ti_3 rfl rfl rfl (fun w h => (h.own 5 rfl)) (show ins.c.toNat < regs.l.length from (by omega)) (Nat.le_of_ble_eq_true rfl) rfl) (wanted_none rfl _) rfl rfl fun a115 hq115 => wq_val hq115 (r_addW (p := nth regs.l ins.b.toNat) (q := nth regs.l ins.c.toNat) rfl rfl rfl) (wanted_none rfl _) rfl rfl fun a116 hq116 => wq_val hq116 (r_ixI (s := regs) (q := ins.a) sl_23 ti_3 rfl rfl rfl (fun w h => (h.own 5 rfl)) (show 0 ≤ ins.a ∧ ins.a < regs.l.length from (by omega))) (wanted_none rfl _) rfl rfl fun a117 hq117 => wpQuiet_nil (hZ101 _ fun w118 hw118 => ?_); clear hq107 hq109 hq110 hq111 hq112 hq113 hq114 hq115 hq116
  have h118 : St 196 K W a117 w118 _ _ := ⟨hq117, hw118⟩
  clear hq117 hw118 h99
  refine wl_ex (x_ste (r := 5) (i := ins.a.toNat) (j := 0) (x' := (wrap64 ((nth regs.l ins.b.toNat) + (nth regs.l ins.c.toNat)) : Int)) h118 ti_3 rfl rfl rfl rfl rfl (show ins.a.toNat < regs.l.length from (by omega)) (Nat.le_of_ble_eq_true rfl) rfl rfl rfl (by intro q hq; obtain rfl : q = 0 := (by omega); rfl) (fun w h => Flat.inner _ _) (fun b hb => (Flat.on _ _ hb).elim)) (wanted_none rfl _) ?_
  rintro a119 w119 h119
  clear h118
  refine wpList_nil ?_
  try simp only [Exit.then, Exit.inBlock, if_true]
  refine x_end0 (fn := Try.f124) rfl h119 ?_
  have hz := (h119.sh.sel (L' := [.blk g 197 [.iface M.T (.pointer (some M.u)), .pointer (some ⟨gp, 0, none⟩), thr.v, prints.v, .bool fell], .rblk gp 25 [code.v, pw, .int .i64 locks, .int .i64 nregs], .own 234 (⟨thr.v, tl⟩ : Ls ThQ), .own 3 (⟨regs.v, regs.l.set ins.a.toNat (wrap64 ((nth regs.l ins.b.toNat) + (nth regs.l ins.c.toNat)))⟩ : Ls Int), .own 3 prints, .blk M.g0 205 [words.v, owner.v], .own 3 words, .own 3 owner, M.X q, .at_ code]) [2, 3, 4, 5, 6, 7, 8, 9, 10, 11] (by decide) ⟨rfl, rfl, rfl, rfl, rfl, rfl, rfl, rfl, rfl, rfl, trivial⟩)
  refine ⟨rfl, ⟨regs.v, regs.l.set ins.a.toNat (wrap64 ((nth regs.l ins.b.toNat) + (nth regs.l ins.c.toNat)))⟩, ⟨words.v, words.l⟩, ⟨owner.v, owner.l⟩, ⟨prints.v, prints.l⟩, q, nth (M.qs q) n, (nth thr.l n).pc + 1, fell, (list_set_nth _ _).symm, ?_, ?_⟩
  · refine Eq.trans ?_ (doT_0 (by omega)).symm; show _ = execT M.m n (nextIns (nth code.l n).l (nth thr.l n).pc) _; rw [← hins]; (refine Eq.trans ?_ (execT_3 (by assumption)).symm; rfl)
  · rw [htl] at hz; exact hz
 have hp100 : ¬ (ins.op = 3) := of_decide_eq_false hb100
 refine wp_seq_k fun K120 hK120 => wp_region_lit <| wv h99 (r_eqlI (p := ins.op) (q := 4) rfl rfl rfl) rfl rfl fun a121 h121 => wms 1 h121 rfl fun a122 h122 => wpList_nil <| hK120 _ _ <| x_cond h122 rfl (fun hb123 => ?_) (fun hb123 => ?_); clear h99 h121
 ·have hp123 : ins.op = 4 := of_decide_eq_true hb123
  have q9 := hR.o3 (by omega)
  refine x_tail 15 [] (by kernel_rfl) (by kernel_rfl) h122 fun Z124 hZ124 => ?_
  have hq124 := h122.fr
  refine wq_val hq124 (r_move rfl rfl) (wanted_none rfl _) rfl rfl fun a125 hq125 => wq_val hq125 (r_fieldB (r := 1) fl_32_1 rfl rfl rfl) (wanted_none rfl _) rfl rfl fun a126 hq126 => wq_val hq126 (r_ldb (i := 0) ti_3 rfl rfl rfl rfl) (wanted_none rfl _) rfl rfl fun a127 hq127 => wq_val hq127 (r_move rfl rfl) (wanted_none rfl _) rfl rfl fun a128 hq128 => wq_val hq128 (r_fieldB (r := 2) fl_32_2 rfl rfl rfl) (wanted_none rfl _) rfl rfl fun a129 hq129 => wq_val hq129 (r_ldb (i := 0) ti_3 rfl rfl rfl rfl) (wanted_none rfl _) rfl rfl fun a130 hq130 => ?_; clear hq124 hq125 hq126 hq127 hq128 hq129
  have hl131 : regs.l.length ≤ 140737488355328 := (h122.sh.own 5 rfl).len
  refine wq_val hq130 (r_ixI (s := regs) (q := ins.b) sl_23 ti_3 rfl rfl rfl (fun w h => (h.own 5 rfl)) (show 0 ≤ ins.b ∧ ins.b < regs.l.length from (by omega))) (wanted_none rfl _) rfl rfl fun a132 hq132 => wq_val hq132 (r_lde (s := regs) (i := ins.b.toNat) (v := .int .i64 (nth regs.l ins.b.toNat)) ti_3 rfl rfl rfl (fun w h => (h.own 5 rfl)) (show ins.b.toNat < regs.l.length from (by omega)) (Nat.le_of_ble_eq_true rfl) rfl) (wanted_none rfl _) rfl rfl fun a133 hq133 => wq_val hq133 (r_move rfl rfl) (wanted_none rfl _) rfl rfl fun a134 hq134 => wq_val hq134 (r_fieldB (r := 3) fl_32_3 rfl rfl rfl) (wanted_none rfl _) rfl rfl fun a135 hq135 => wq_val hq135 (r_ldb (i := 0) ti_3 rfl rfl rfl rfl) (wanted_none rfl _) rfl rfl fun a136 hq136 => wq_val hq136 (r_ixI (s := regs) (q := ins.c) sl_23 ti_3 rfl rfl rfl (fun w h => (h.own 5 rfl)) (show 0 ≤ ins.c ∧ ins.c < regs.l.length from (by omega))) (wanted_none rfl _) rfl rfl fun a137 hq137 => wq_val hq137 (r_lde (s := regs) (i := ins.c.toNat) (v := .int .i64 (nth regs.l ins.c.toNat)) ti_3 rfl rfl rfl (fun w h => (h.own 5 rfl)) (show ins.c.toNat < regs.l.length from (by omega)) (Nat.le_of_ble_eq_true rfl) rfl) (wanted_none rfl _) rfl rfl fun a138 hq138 => wq_val hq138 (r_subW (p := nth regs.l ins.b.toNat) (q := nth regs.l ins.c.toNat) rfl rfl rfl) (wanted_none rfl _) rfl rfl fun a139 hq139 => wq_val hq139 (r_ixI (s := regs) (q := ins.a) sl_23 ti_3 rfl rfl rfl (fun w h => (h.own 5 rfl)) (show 0 ≤ ins.a ∧ ins.a < regs.l.length from (by omega))) (wanted_none rfl _) rfl rfl fun a140 hq140 => wpQuiet_nil (hZ124 _ fun w141 hw141 => ?_); clear hq130 hq132 hq133 hq134 hq135 hq136 hq137 hq138 hq139
  have h141 : St 196 K W a140 w141 _ _ := ⟨hq140, hw141⟩
  clear hq140 hw141 h122
  refine wl_ex (x_ste (r := 5) (i := ins.a.toNat) (j := 0) (x' := (wrap64 ((nth regs.l ins.b.toNat) - (nth regs.l ins.c.toNat)) : Int)) h141 ti_3 rfl rfl rfl rfl rfl (show ins.a.toNat < regs.l.length from (by omega)) (Nat.le_of_ble_eq_true rfl) rfl rfl rfl (by intro q hq; obtain rfl : q = 0 := (by omega); rfl) (fun w h => Flat.inner _ _) (fun b hb => (Flat.on _ _ hb).elim)) (wanted_none rfl _) ?_
  rintro a142 w142 h142
  clear h141
  refine wpList_nil ?_
  try simp only [Exit.then, Exit.inBlock, if_true]
  refine x_end0 (fn := Try.f124) rfl h142 ?_
  have hz := (h142.sh.sel (L' := [.blk g 197 [.iface M.T (.pointer (some M.u)), .pointer (some ⟨gp, 0, none⟩), thr.v, prints.v, .bool fell], .rblk gp 25 [code.v, pw, .int .i64 locks, .int .i64 nregs], .own 234 (⟨thr.v, tl⟩ : Ls ThQ), .own 3 (⟨regs.v, regs.l.set ins.a.toNat (wrap64 ((nth regs.l ins.b.toNat) - (nth regs.l ins.c.toNat)))⟩ : Ls Int), .own 3 prints, .blk M.g0 205 [words.v, owner.v], .own 3 words, .own 3 owner, M.X q, .at_ code]) [2, 3, 4, 5, 6, 7, 8, 9, 10, 11] (by decide) ⟨rfl, rfl, rfl, rfl, rfl, rfl, rfl, rfl, rfl, rfl, trivial⟩)
  refine ⟨rfl, ⟨regs.v, regs.l.set ins.a.toNat (wrap64 ((nth regs.l ins.b.toNat) - (nth regs.l ins.c.toNat)))⟩, ⟨words.v, words.l⟩, ⟨owner.v, owner.l⟩, ⟨prints.v, prints.l⟩, q, nth (M.qs q) n, (nth thr.l n).pc + 1, fell, (list_set_nth _ _).symm, ?_, ?_⟩
  · refine Eq.trans ?_ (doT_0 (by omega)).symm; show _ = execT M.m n (nextIns (nth code.l n).l (nth thr.l n).pc) _; rw [← hins]; (refine Eq.trans ?_ (execT_4 (by assumption)).symm; rfl)
  · rw [htl] at hz; exact hz
 have hp123 : ¬ (ins.op = 4) := of_decide_eq_false hb123
 refine wp_seq_k fun K143 hK143 => wp_region_lit <| wv h122 (r_eqlI (p := ins.op) (q := 5) rfl rfl rfl) rfl rfl fun a144 h144 => wms 1 h144 rfl fun a145 h145 => wpList_nil <| hK143 _ _ <| x_cond h145 rfl (fun hb146 => ?_) (fun hb146 => ?_); clear h122 h144
 ·have hp146 : ins.op = 5 := of_decide_eq_true hb146
  have q9 := hR.o3 (by omega)
  refine x_tail 15 [] (by kernel_rfl) (by kernel_rfl) h145 fun Z147 hZ147 => ?_
  have hq147 := h145.fr
  refine wq_val hq147 (r_move rfl rfl) (wanted_none rfl _) rfl rfl fun a148 hq148 => wq_val hq148 (r_fieldB (r := 1) fl_32_1 rfl rfl rfl) (wanted_none rfl _) rfl rfl fun a149 hq149 => wq_val hq149 (r_ldb (i := 0) ti_3 rfl rfl rfl rfl) (wanted_none rfl _) rfl rfl fun a150 hq150 => wq_val hq150 (r_move rfl rfl) (wanted_none rfl _) rfl rfl fun a151 hq151 => wq_val hq151 (r_fieldB (r := 2) fl_32_2 rfl rfl rfl) (wanted_none rfl _) rfl rfl fun a152 hq152 => wq_val hq152 (r_ldb (i := 0) ti_3 rfl rfl rfl rfl) (wanted_none rfl _) rfl rfl fun a153 hq153 => ?_; clear hq147 hq148 hq149 hq150 hq151 hq152
  have hl154 : regs.l.length ≤ 140737488355328 := (h145.sh.own 5 rfl).len
  refine wq_val hq153 (r_ixI (s := regs) (q := ins.b) sl_23 ti_3 rfl rfl rfl (fun w h => (h.own 5 rfl)) (show 0 ≤ ins.b ∧ ins.b < regs.l.length from (by omega))) (wanted_none rfl _) rfl rfl fun a155 hq155 => wq_val hq155 (r_lde (s := regs) (i := ins.b.toNat) (v := .int .i64 (nth regs.l ins.b.toNat)) ti_3 rfl rfl rfl (fun w h => (h.own 5 rfl)) (show ins.b.toNat < regs.l.length from (by omega)) (Nat.le_of_ble_eq_true rfl) rfl) (wanted_none rfl _) rfl rfl fun a156 hq156 => wq_val hq156 (r_move rfl rfl) (wanted_none rfl _) rfl rfl fun a157 hq157 => wq_val hq157 (r_fieldB (r := 3) fl_32_3 rfl rfl rfl) (wanted_none rfl _) rfl rfl fun a158 hq158 => wq_val hq158 (r_ldb (i := 0) ti_3 rfl rfl rfl rfl) (wanted_none rfl _) rfl rfl fun a159 hq159 => wq_val hq159 (r_ixI (s := regs) (q := ins.c) sl_23 ti_3 rfl rfl rfl (fun w h => (h.own 5 rfl)) (show 0 ≤ ins.c ∧ ins.c < regs.l.length from (by omega))) (wanted_none rfl _) rfl rfl fun a160 hq160 => wq_val hq160 (r_lde (s := regs) (i := ins.c.toNat) (v := .int .i64 (nth regs.l ins.c.toNat)) ti_3 rfl rfl rfl (fun w h => (h.own 5 rfl)) (show ins.c.toNat < regs.l.length from (by omega)) (Nat.le_of_ble_eq_true rfl) rfl) (wanted_none rfl _) rfl rfl fun a161 hq161 => wq_val hq161 (r_mulW (p := nth regs.l ins.b.toNat) (q := nth regs.l ins.c.toNat) rfl rfl rfl) (wanted_none rfl _) rfl rfl fun a162 hq162 => wq_val hq162 (r_ixI (s := regs) (q := ins.a) sl_23 ti_3 rfl rfl rfl (fun w h => (h.own 5 rfl)) (show 0 ≤ ins.a ∧ ins.a < regs.l.length from (by omega))) (wanted_none rfl _) rfl rfl fun a163 hq163 => wpQuiet_nil (hZ147 _ fun w164 hw164 => ?_); clear hq153 hq155 hq156 hq157 hq158 hq159 hq160 hq161 hq162
  have h164 : St 196 K W a163 w164 _ _ := ⟨hq163, hw164⟩
  clear hq163 hw164 h145
  refine wl_ex (x_ste (r := 5) (i := ins.a.toNat) (j := 0) (x' := (wrap64 ((nth regs.l ins.b.toNat) * (nth regs.l ins.c.toNat)) : Int)) h164 ti_3 rfl rfl rfl rfl rfl (show ins.a.toNat < regs.l.length from (by omega)) (Nat.le_of_ble_eq_true rfl) rfl rfl rfl (by intro q hq; obtain rfl : q = 0 := (by omega); rfl) (fun w h => Flat.inner _ _) (fun b hb => (Flat.on _ _ hb).elim)) (wanted_none rfl _) ?_
  rintro a165 w165 h165
  clear h164
  refine wpList_nil ?_
  try simp only [Exit.then, Exit.inBlock, if_true]
  refine x_end0 (fn := Try.f124) rfl h165 ?_
  have hz := (h165.sh.sel (L' := [.blk g 197 [.iface M.T (.pointer (some M.u)), .pointer (some ⟨gp, 0, none⟩), thr.v, prints.v, .bool fell], .rblk gp 25 [code.v, pw, .int .i64 locks, .int .i64 nregs], .own 234 (⟨thr.v, tl⟩ : Ls ThQ), .own 3 (⟨regs.v, regs.l.set ins.a.toNat (wrap64 ((nth regs.l ins.b.toNat) * (nth regs.l ins.c.toNat)))⟩ : Ls Int), .own 3 prints, .blk M.g0 205 [words.v, owner.v], .own 3 words, .own 3 owner, M.X q, .at_ code]) [2, 3, 4, 5, 6, 7, 8, 9, 10, 11] (by decide) ⟨rfl, rfl, rfl, rfl, rfl, rfl, rfl, rfl, rfl, rfl, trivial⟩)
  refine ⟨rfl, ⟨regs.v, regs.l.set ins.a.toNat (wrap64 ((nth regs.l ins.b.toNat) * (nth regs.l ins.c.toNat)))⟩, ⟨words.v, words.l⟩, ⟨owner.v, owner.l⟩, ⟨prints.v, prints.l⟩, q, nth (M.qs q) n, (nth thr.l n).pc + 1, fell, (list_set_nth _ _).symm, ?_, ?_⟩
  · refine Eq.trans ?_ (doT_0 (by omega)).symm; show _ = execT M.m n (nextIns (nth code.l n).l (nth thr.l n).pc) _; rw [← hins]; (refine Eq.trans ?_ (execT_5 (by assumption)).symm; rfl)
  · rw [htl] at hz; exact hz
 have hp146 : ¬ (ins.op = 5) := of_decide_eq_false hb146
 refine wp_seq_k fun K166 hK166 => wp_region_lit <| wv h145 (r_eqlI (p := ins.op) (q := 6) rfl rfl rfl) rfl rfl fun a167 h167 => wms 1 h167 rfl fun a168 h168 => wpList_nil <| hK166 _ _ <| x_cond h168 rfl (fun hb169 => ?_) (fun hb169 => ?_); clear h145 h167
 ·have hp169 : ins.op = 6 := of_decide_eq_true hb169
  have q9 := hR.o3 (by omega)
  refine x_tail 16 [] (by kernel_rfl) (by kernel_rfl) h168 fun Z170 hZ170 => ?_
  have hq170 := h168.fr
  refine wq_val hq170 (r_move rfl rfl) (wanted_none rfl _) rfl rfl fun a171 hq171 => wq_val hq171 (r_fieldB (r := 1) fl_32_1 rfl rfl rfl) (wanted_none rfl _) rfl rfl fun a172 hq172 => wq_val hq172 (r_ldb (i := 0) ti_3 rfl rfl rfl rfl) (wanted_none rfl _) rfl rfl fun a173 hq173 => wq_val hq173 (r_move rfl rfl) (wanted_none rfl _) rfl rfl fun a174 hq174 => wq_val hq174 (r_fieldB (r := 2) fl_32_2 rfl rfl rfl) (wanted_none rfl _) rfl rfl fun a175 hq175 => wq_val hq175 (r_ldb (i := 0) ti_3 rfl rfl rfl rfl) (wanted_none rfl _) rfl rfl fun a176 hq176 => ?_; clear hq170 hq171 hq172 hq173 hq174 hq175
  have hl177 : regs.l.length ≤ 140737488355328 := (h168.sh.own 5 rfl).len
  refine wq_val hq176 (r_ixI (s := regs) (q := ins.b) sl_23 ti_3 rfl rfl rfl (fun w h => (h.own 5 rfl)) (show 0 ≤ ins.b ∧ ins.b < regs.l.length from (by omega))) (wanted_none rfl _) rfl rfl fun a178 hq178 => wq_val hq178 (r_lde (s := regs) (i := ins.b.toNat) (v := .int .i64 (nth regs.l ins.b.toNat)) ti_3 rfl rfl rfl (fun w h => (h.own 5 rfl)) (show ins.b.toNat < regs.l.length from (by omega)) (Nat.le_of_ble_eq_true rfl) rfl) (wanted_none rfl _) rfl rfl fun a179 hq179 => wq_val hq179 (r_move rfl rfl) (wanted_none rfl _) rfl rfl fun a180 hq180 => wq_val hq180 (r_fieldB (r := 3) fl_32_3 rfl rfl rfl) (wanted_none rfl _) rfl rfl fun a181 hq181 => wq_val hq181 (r_ldb (i := 0) ti_3 rfl rfl rfl rfl) (wanted_none rfl _) rfl rfl fun a182 hq182 => wq_val hq182 (r_ixI (s := regs) (q := ins.c) sl_23 ti_3 rfl rfl rfl (fun w h => (h.own 5 rfl)) (show 0 ≤ ins.c ∧ ins.c < regs.l.length from (by omega))) (wanted_none rfl _) rfl rfl fun a183 hq183 => wq_val hq183 (r_lde (s := regs) (i := ins.c.toNat) (v := .int .i64 (nth regs.l ins.c.toNat)) ti_3 rfl rfl rfl (fun w h => (h.own 5 rfl)) (show ins.c.toNat < regs.l.length from (by omega)) (Nat.le_of_ble_eq_true rfl) rfl) (wanted_none rfl _) rfl rfl fun a184 hq184 => wq_val hq184 (r_lssI (p := nth regs.l ins.b.toNat) (q := nth regs.l ins.c.toNat) rfl rfl rfl) (wanted_none rfl _) rfl rfl fun a185 hq185 => wq_call hq185 bd_152 rfl rfl rfl (wanted_none rfl _) rfl rfl (fun w h => (pbit_c (decide (nth regs.l ins.b.toNat < nth regs.l ins.c.toNat)) _)) fun a186 hq186 => wq_val hq186 (r_ixI (s := regs) (q := ins.a) sl_23 ti_3 rfl rfl rfl (fun w h => (h.own 5 rfl)) (show 0 ≤ ins.a ∧ ins.a < regs.l.length from (by omega))) (wanted_none rfl _) rfl rfl fun a187 hq187 => wpQuiet_nil (hZ170 _ fun w188 hw188 => ?_); clear hq176 hq178 hq179 hq180 hq181 hq182 hq183 hq184 hq185 hq186
  have h188 : St 196 K W a187 w188 _ _ := ⟨hq187, hw188⟩
  clear hq187 hw188 h168
  refine wl_ex (x_ste (r := 5) (i := ins.a.toNat) (j := 0) (x' := (bit (decide (nth regs.l ins.b.toNat < nth regs.l ins.c.toNat)) : Int)) h188 ti_3 rfl rfl rfl rfl rfl (show ins.a.toNat < regs.l.length from (by omega)) (Nat.le_of_ble_eq_true rfl) rfl rfl rfl (by intro q hq; obtain rfl : q = 0 := (by omega); rfl) (fun w h => Flat.inner _ _) (fun b hb => (Flat.on _ _ hb).elim)) (wanted_none rfl _) ?_
  rintro a189 w189 h189
  clear h188
  refine wpList_nil ?_
  try simp only [Exit.then, Exit.inBlock, if_true]
  refine x_end0 (fn := Try.f124) rfl h189 ?_
  have hz := (h189.sh.sel (L' := [.blk g 197 [.iface M.T (.pointer (some M.u)), .pointer (some ⟨gp, 0, none⟩), thr.v, prints.v, .bool fell], .rblk gp 25 [code.v, pw, .int .i64 locks, .int .i64 nregs], .own 234 (⟨thr.v, tl⟩ : Ls ThQ), .own 3 (⟨regs.v, regs.l.set ins.a.toNat (bit (decide (nth regs.l ins.b.toNat < nth regs.l ins.c.toNat)))⟩ : Ls Int), .own 3 prints, .blk M.g0 205 [words.v, owner.v], .own 3 words, .own 3 owner, M.X q, .at_ code]) [2, 3, 4, 5, 6, 7, 8, 9, 10, 11] (by decide) ⟨rfl, rfl, rfl, rfl, rfl, rfl, rfl, rfl, rfl, rfl, trivial⟩)
  refine ⟨rfl, ⟨regs.v, regs.l.set ins.a.toNat (bit (decide (nth regs.l ins.b.toNat < nth regs.l ins.c.toNat)))⟩, ⟨words.v, words.l⟩, ⟨owner.v, owner.l⟩, ⟨prints.v, prints.l⟩, q, nth (M.qs q) n, (nth thr.l n).pc + 1, fell, (list_set_nth _ _).symm, ?_, ?_⟩
  · refine Eq.trans ?_ (doT_0 (by omega)).symm; show _ = execT M.m n (nextIns (nth code.l n).l (nth thr.l n).pc) _; rw [← hins]; (refine Eq.trans ?_ (execT_6 (by assumption)).symm; rfl)
  · rw [htl] at hz; exact hz
 have hp169 : ¬ (ins.op = 6) := of_decide_eq_false hb169
 refine wp_seq_k fun K190 hK190 => wp_region_lit <| wv h168 (r_eqlI (p := ins.op) (q := 7) rfl rfl rfl) rfl rfl fun a191 h191 => wms 1 h191 rfl fun a192 h192 => wpList_nil <| hK190 _ _ <| x_cond h192 rfl (fun hb193 => ?_) (fun hb193 => ?_); clear h168 h191
 ·have hp193 : ins.op = 7 := of_decide_eq_true hb193
  have q9 := hR.o3 (by omega)
  refine x_tail 16 [] (by kernel_rfl) (by kernel_rfl) h192 fun Z194 hZ194 => ?_
  have hq194 := h192.fr
  refine wq_val hq194 (r_move rfl rfl) (wanted_none rfl _) rfl rfl fun a195 hq195 => wq_val hq195 (r_fieldB (r := 1) fl_32_1 rfl rfl rfl) (wanted_none rfl _) rfl rfl fun a196 hq196 => wq_val hq196 (r_ldb (i := 0) ti_3 rfl rfl rfl rfl) (wanted_none rfl _) rfl rfl fun a197 hq197 => wq_val hq197 (r_move rfl rfl) (wanted_none rfl _) rfl rfl fun a198 hq198 => wq_val hq198 (r_fieldB (r := 2) fl_32_2 rfl rfl rfl) (wanted_none rfl _) rfl rfl fun a199 hq199 => wq_val hq199 (r_ldb (i := 0) ti_3 rfl rfl rfl rfl) (wanted_none rfl _) rfl rfl fun a200 hq200 => ?_; clear hq194 hq195 hq196 hq197 hq198 hq199
  have hl201 : regs.l.length ≤ 140737488355328 := (h192.sh.own 5 rfl).len
  refine wq_val hq200 (r_ixI (s := regs) (q := ins.b) sl_23 ti_3 rfl rfl rfl (fun w h => (h.own 5 rfl)) (show 0 ≤ ins.b ∧ ins.b < regs.l.length from (by omega))) (wanted_none rfl _) rfl rfl fun a202 hq202 => wq_val hq202 (r_lde (s := regs) (i := ins.b.toNat) (v := .int .i64 (nth regs.l ins.b.toNat)) ti_3 rfl rfl rfl (fun w h => (h.own 5 rfl)) (show ins.b.toNat < regs.l.length from (by omega)) (Nat.le_of_ble_eq_true rfl) rfl) (wanted_none rfl _) rfl rfl fun a203 hq203 => wq_val hq203 (r_move rfl rfl) (wanted_none rfl _) rfl rfl fun a204 hq204 => wq_val hq204 (r_fieldB (r := 3) fl_32_3 rfl rfl rfl) (wanted_none rfl _) rfl rfl fun a205 hq205 => wq_val hq205 (r_ldb (i := 0) ti_3 rfl rfl rfl rfl) (wanted_none rfl _) rfl rfl fun a206 hq206 => wq_val hq206 (r_ixI (s := regs) (q := ins.c) sl_23 ti_3 rfl rfl rfl (fun w h => (h.own 5 rfl)) (show 0 ≤ ins.c ∧ ins.c < regs.l.length from (by omega))) (wanted_none rfl _) rfl rfl fun a207 hq207 => wq_val hq207 (r_lde (s := regs) (i := ins.c.toNat) (v := .int .i64 (nth regs.l ins.c.toNat)) ti_3 rfl rfl rfl (fun w h => (h.own 5 rfl)) (show ins.c.toNat < regs.l.length from (by omega)) (Nat.le_of_ble_eq_true rfl) rfl) (wanted_none rfl _) rfl rfl fun a208 hq208 => wq_val hq208 (r_eqlI (p := nth regs.l ins.b.toNat) (q := nth regs.l ins.c.toNat) rfl rfl rfl) (wanted_none rfl _) rfl rfl fun a209 hq209 => wq_call hq209 bd_152 rfl rfl rfl (wanted_none rfl _) rfl rfl (fun w h => (pbit_c (decide (nth regs.l ins.b.toNat = nth regs.l ins.c.toNat)) _)) fun a210 hq210 => wq_val hq210 (r_ixI (s := regs) (q := ins.a) sl_23 ti_3 rfl rfl rfl (fun w h => (h.own 5 rfl)) (show 0 ≤ ins.a ∧ ins.a < regs.l.length from (by omega))) (wanted_none rfl _) rfl rfl fun a211 hq211 => wpQuiet_nil (hZ194 _ fun w212 hw212 => ?_); clear hq200 hq202 hq203 hq204 hq205 hq206 hq207 hq208 hq209 hq210
  have h212 : St 196 K W a211 w212 _ _ := ⟨hq211, hw212⟩
  clear hq211 hw212 h192
  refine wl_ex (x_ste (r := 5) (i := ins.a.toNat) (j := 0) (x' := (bit (decide (nth regs.l ins.b.toNat = nth regs.l ins.c.toNat)) : Int)) h212 ti_3 rfl rfl rfl rfl rfl (show ins.a.toNat < regs.l.length from (by omega)) (Nat.le_of_ble_eq_true rfl) rfl rfl rfl (by intro q hq; obtain rfl : q = 0 := (by omega); rfl) (fun w h => Flat.inner _ _) (fun b hb => (Flat.on _ _ hb).elim)) (wanted_none rfl _) ?_
  rintro a213 w213 h213
  clear h212
  refine wpList_nil ?_
  try simp only [Exit.then, Exit.inBlock, if_true]
  refine x_end0 (fn := Try.f124) rfl h213 ?_
  have hz := (h213.sh.sel (L' := [.blk g 197 [.iface M.T (.pointer (some M.u)), .pointer (some ⟨gp, 0, none⟩), thr.v, prints.v, .bool fell], .rblk gp 25 [code.v, pw, .int .i64 locks, .int .i64 nregs], .own 234 (⟨thr.v, tl⟩ : Ls ThQ), .own 3 (⟨regs.v, regs.l.set ins.a.toNat (bit (decide (nth regs.l ins.b.toNat = nth regs.l ins.c.toNat)))⟩ : Ls Int), .own 3 prints, .blk M.g0 205 [words.v, owner.v], .own 3 words, .own 3 owner, M.X q, .at_ code]) [2, 3, 4, 5, 6, 7, 8, 9, 10, 11] (by decide) ⟨rfl, rfl, rfl, rfl, rfl, rfl, rfl, rfl, rfl, rfl, trivial⟩)
  refine ⟨rfl, ⟨regs.v, regs.l.set ins.a.toNat (bit (decide (nth regs.l ins.b.toNat = nth regs.l ins.c.toNat)))⟩, ⟨words.v, words.l⟩, ⟨owner.v, owner.l⟩, ⟨prints.v, prints.l⟩, q, nth (M.qs q) n, (nth thr.l n).pc + 1, fell, (list_set_nth _ _).symm, ?_, ?_⟩
  · refine Eq.trans ?_ (doT_0 (by omega)).symm; show _ = execT M.m n (nextIns (nth code.l n).l (nth thr.l n).pc) _; rw [← hins]; (refine Eq.trans ?_ (execT_7 (by assumption)).symm; rfl)
  · rw [htl] at hz; exact hz
 have hp193 : ¬ (ins.op = 7) := of_decide_eq_false hb193
 refine wp_seq_k fun K214 hK214 => wp_region_lit <| wv h192 (r_eqlI (p := ins.op) (q := 14) rfl rfl rfl) rfl rfl fun a215 h215 => wms 1 h215 rfl fun a216 h216 => wpList_nil <| hK214 _ _ <| x_cond h216 rfl (fun hb217 => ?_) (fun hb217 => ?_); clear h192 h215
 ·have hp217 : ins.op = 14 := of_decide_eq_true hb217
  refine wp_region_lit <| wms 1 h216 rfl fun a218 h218 => wv h218 (r_fieldB (r := 1) fl_32_1 rfl rfl rfl) rfl rfl fun a219 h219 => wv h219 (r_ldb (i := 0) ti_3 rfl rfl rfl rfl) rfl rfl fun a220 h220 => wv h220 (r_nil rfl rfl) rfl rfl fun a221 h221 => wv h221 (r_fieldE (r := 0) fl_234_0 rfl rfl rfl) rfl rfl fun a222 h222 => wl_ex (x_ste (s := (⟨thr.v, tl⟩ : Ls ThQ)) (r := 4) (i := n) (j := 0) (x' := ({ nth tl n with pc := ins.a } : ThQ)) h222 ti_3 rfl rfl rfl rfl rfl (show n < tl.length from (by omega)) (Nat.le_of_ble_eq_true rfl) rfl rfl rfl (by intro q hq; rcases q with _ | _ | q <;> first | rfl | omega) (fun w h => Flat.inner _ _) (fun b hb => (Flat.on _ _ hb).elim)) (wanted_none rfl _) ?_; clear h216 h218 h219 h220 h221
  rintro a223 w223 h223
  clear h222
  refine wpList_nil ?_
  try simp only [Exit.then, Exit.inBlock, if_true]
  refine x_end0 (fn := Try.f124) rfl h223 ?_
  have hz := (h223.sh.sel (L' := [.blk g 197 [.iface M.T (.pointer (some M.u)), .pointer (some ⟨gp, 0, none⟩), thr.v, prints.v, .bool fell], .rblk gp 25 [code.v, pw, .int .i64 locks, .int .i64 nregs], .own 234 (⟨thr.v, tl.set n ({ nth tl n with pc := ins.a })⟩ : Ls ThQ), .own 3 regs, .own 3 prints, .blk M.g0 205 [words.v, owner.v], .own 3 words, .own 3 owner, M.X q, .at_ code]) [2, 3, 4, 5, 6, 7, 8, 9, 10, 11] (by decide) ⟨rfl, rfl, rfl, rfl, rfl, rfl, rfl, rfl, rfl, rfl, trivial⟩)
  refine ⟨rfl, ⟨regs.v, regs.l⟩, ⟨words.v, words.l⟩, ⟨owner.v, owner.l⟩, ⟨prints.v, prints.l⟩, q, nth (M.qs q) n, ins.a, fell, (list_set_nth _ _).symm, ?_, ?_⟩
  · refine Eq.trans ?_ (doT_0 (by omega)).symm; show _ = execT M.m n (nextIns (nth code.l n).l (nth thr.l n).pc) _; rw [← hins]; (refine Eq.trans ?_ (execT_14 (by assumption)).symm; rfl)
  · rw [qset_pc ht htl] at hz; exact hz
 have hp217 : ¬ (ins.op = 14) := of_decide_eq_false hb217
 refine wp_seq_k fun K224 hK224 => wp_region_lit <| wv h216 (r_eqlI (p := ins.op) (q := 15) rfl rfl rfl) rfl rfl fun a225 h225 => wms 1 h225 rfl fun a226 h226 => wpList_nil <| hK224 _ _ <| x_cond h226 rfl (fun hb227 => ?_) (fun hb227 => ?_); clear h216 h225
 ·have hp227 : ins.op = 15 := of_decide_eq_true hb227
  have q9 := hR.o15 (by omega)
  refine wp_seq_k fun K228 hK228 => wp_region_lit <| wms 1 h226 rfl fun a229 h229 => wv h229 (r_fieldB (r := 1) fl_32_1 rfl rfl rfl) rfl rfl fun a230 h230 => wv h230 (r_ldb (i := 0) ti_3 rfl rfl rfl rfl) rfl rfl fun a231 h231 => ?_; clear h226 h229 h230
  have hl232 : regs.l.length ≤ 140737488355328 := (h231.sh.own 5 rfl).len
  refine wv h231 (r_ixI (s := regs) (q := ins.a) sl_23 ti_3 rfl rfl rfl (fun w h => (h.own 5 rfl)) (show 0 ≤ ins.a ∧ ins.a < regs.l.length from (by omega))) rfl rfl fun a233 h233 => wv h233 (r_lde (s := regs) (i := ins.a.toNat) (v := .int .i64 (nth regs.l ins.a.toNat)) ti_3 rfl rfl rfl (fun w h => (h.own 5 rfl)) (show ins.a.toNat < regs.l.length from (by omega)) (Nat.le_of_ble_eq_true rfl) rfl) rfl rfl fun a234 h234 => wv h234 (r_eqlI (p := nth regs.l ins.a.toNat) (q := 0) rfl rfl rfl) rfl rfl fun a235 h235 => wpList_nil <| hK228 _ _ ?_; clear h231 h233 h234
  have h236 : St 196 K W a235 w57 [(4, .pointer (some (padr thr.v 2 n 0))), (5, .pointer (some ⟨b46, 0, none⟩)), (172, .bool (decide (nth regs.l ins.a.toNat = 0)))] [.blk b46 32 [.int .i64 ins.op, .int .i64 ins.a, .int .i64 ins.b, .int .i64 ins.c], .blk b3 203 [.int .i64 ((n : Nat) : Int), .int .i64 (((k : Nat) : Int) - 1)], .blk g 197 [.iface M.T (.pointer (some M.u)), .pointer (some ⟨gp, 0, none⟩), thr.v, prints.v, .bool fell], .rblk gp 25 [code.v, pw, .int .i64 locks, .int .i64 nregs], .own 234 (⟨thr.v, tl⟩ : Ls ThQ), .own 3 regs, .own 3 prints, .blk M.g0 205 [words.v, owner.v], .own 3 words, .own 3 owner, M.X q, .at_ code] := h235.nrm ⟨rfl, rfl, rfl, trivial⟩ [0, 1, 2, 3, 4, 5, 6, 7, 8, 9, 10, 11] (by decide) ⟨rfl, rfl, rfl, rfl, rfl, rfl, rfl, rfl, rfl, rfl, rfl, rfl, trivial⟩
  clear h235
  refine x_cond h236 rfl (fun hb237 => ?_) (fun hb237 => ?_)
  ·have hp237 : nth regs.l ins.a.toNat = 0 := of_decide_eq_true hb237
   refine wp_region_lit <| wms 1 h236 rfl fun a238 h238 => wv h238 (r_fieldB (r := 2) fl_32_2 rfl rfl rfl) rfl rfl fun a239 h239 => wv h239 (r_ldb (i := 0) ti_3 rfl rfl rfl rfl) rfl rfl fun a240 h240 => wv h240 (r_nil rfl rfl) rfl rfl fun a241 h241 => wv h241 (r_fieldE (r := 0) fl_234_0 rfl rfl rfl) rfl rfl fun a242 h242 => wl_ex (x_ste (s := (⟨thr.v, tl⟩ : Ls ThQ)) (r := 4) (i := n) (j := 0) (x' := ({ nth tl n with pc := ins.b } : ThQ)) h242 ti_3 rfl rfl rfl rfl rfl (show n < tl.length from (by omega)) (Nat.le_of_ble_eq_true rfl) rfl rfl rfl (by intro q hq; rcases q with _ | _ | q <;> first | rfl | omega) (fun w h => Flat.inner _ _) (fun b hb => (Flat.on _ _ hb).elim)) (wanted_none rfl _) ?_; clear h236 h238 h239 h240 h241
   rintro a243 w243 h243
   clear h242
   refine wpList_nil ?_
   try simp only [Exit.then, Exit.inBlock, if_true]
   refine x_end0 (fn := Try.f124) rfl h243 ?_
   have hz := (h243.sh.sel (L' := [.blk g 197 [.iface M.T (.pointer (some M.u)), .pointer (some ⟨gp, 0, none⟩), thr.v, prints.v, .bool fell], .rblk gp 25 [code.v, pw, .int .i64 locks, .int .i64 nregs], .own 234 (⟨thr.v, tl.set n ({ nth tl n with pc := ins.b })⟩ : Ls ThQ), .own 3 regs, .own 3 prints, .blk M.g0 205 [words.v, owner.v], .own 3 words, .own 3 owner, M.X q, .at_ code]) [2, 3, 4, 5, 6, 7, 8, 9, 10, 11] (by decide) ⟨rfl, rfl, rfl, rfl, rfl, rfl, rfl, rfl, rfl, rfl, trivial⟩)
   refine ⟨rfl, ⟨regs.v, regs.l⟩, ⟨words.v, words.l⟩, ⟨owner.v, owner.l⟩, ⟨prints.v, prints.l⟩, q, nth (M.qs q) n, ins.b, fell, (list_set_nth _ _).symm, ?_, ?_⟩
   · refine Eq.trans ?_ (doT_0 (by omega)).symm; show _ = execT M.m n (nextIns (nth code.l n).l (nth thr.l n).pc) _; rw [← hins]; first | (refine Eq.trans ?_ (execT_15t (by assumption) (by assumption)).symm; rfl) | (refine Eq.trans ?_ (execT_15f (by assumption) (by assumption)).symm; rfl)
   · rw [qset_pc ht htl] at hz; exact hz
  have hp237 : ¬ (nth regs.l ins.a.toNat = 0) := of_decide_eq_false hb237
  refine wp_skip ?_
  try simp only [Exit.then, Exit.inBlock, if_true]
  refine x_end0 (fn := Try.f124) rfl h236 ?_
  have hz := (h236.sh.sel (L' := [.blk g 197 [.iface M.T (.pointer (some M.u)), .pointer (some ⟨gp, 0, none⟩), thr.v, prints.v, .bool fell], .rblk gp 25 [code.v, pw, .int .i64 locks, .int .i64 nregs], .own 234 (⟨thr.v, tl⟩ : Ls ThQ), .own 3 regs, .own 3 prints, .blk M.g0 205 [words.v, owner.v], .own 3 words, .own 3 owner, M.X q, .at_ code]) [2, 3, 4, 5, 6, 7, 8, 9, 10, 11] (by decide) ⟨rfl, rfl, rfl, rfl, rfl, rfl, rfl, rfl, rfl, rfl, trivial⟩)
  refine ⟨rfl, ⟨regs.v, regs.l⟩, ⟨words.v, words.l⟩, ⟨owner.v, owner.l⟩, ⟨prints.v, prints.l⟩, q, nth (M.qs q) n, (nth thr.l n).pc + 1, fell, (list_set_nth _ _).symm, ?_, ?_⟩
  · refine Eq.trans ?_ (doT_0 (by omega)).symm; show _ = execT M.m n (nextIns (nth code.l n).l (nth thr.l n).pc) _; rw [← hins]; first | (refine Eq.trans ?_ (execT_15t (by assumption) (by assumption)).symm; rfl) | (refine Eq.trans ?_ (execT_15f (by assumption) (by assumption)).symm; rfl)
  · rw [htl] at hz; exact hz
 have hp227 : ¬ (ins.op = 15) := of_decide_eq_false hb227
 refine wp_seq_k fun K244 hK244 => wp_region_lit <| wv h226 (r_eqlI (p := ins.op) (q := 16) rfl rfl rfl) rfl rfl fun a245 h245 => wms 1 h245 rfl fun a246 h246 => wpList_nil <| hK244 _ _ ?_; clear h226 h245
 have h247 : St 196 K W a246 w57 [(0, .pointer (some ⟨g, 0, none⟩)), (3, .pointer (some ⟨b3, 0, none⟩)), (5, .pointer (some ⟨b46, 0, none⟩)), (7, regs.v), (178, .bool (decide (ins.op = 16)))] [.blk b46 32 [.int .i64 ins.op, .int .i64 ins.a, .int .i64 ins.b, .int .i64 ins.c], .blk b3 203 [.int .i64 ((n : Nat) : Int), .int .i64 (((k : Nat) : Int) - 1)], .blk g 197 [.iface M.T (.pointer (some M.u)), .pointer (some ⟨gp, 0, none⟩), thr.v, prints.v, .bool fell], .rblk gp 25 [code.v, pw, .int .i64 locks, .int .i64 nregs], .own 234 (⟨thr.v, tl⟩ : Ls ThQ), .own 3 regs, .own 3 prints, .blk M.g0 205 [words.v, owner.v], .own 3 words, .own 3 owner, M.X q, .at_ code] := h246.nrm ⟨rfl, rfl, rfl, rfl, rfl, trivial⟩ [0, 1, 2, 3, 4, 5, 6, 7, 8, 9, 10, 11] (by decide) ⟨rfl, rfl, rfl, rfl, rfl, rfl, rfl, rfl, rfl, rfl, rfl, rfl, trivial⟩
 clear h246
 refine x_cond h247 rfl (fun hb248 => ?_) (fun hb248 => ?_)
 ·have hp248 : ins.op = 16 := of_decide_eq_true hb248
  have q9 := hR.o15 (by omega)
  have h249 : St 196 K W a246 w57 [(0, .pointer (some ⟨g, 0, none⟩)), (3, .pointer (some ⟨b3, 0, none⟩)), (5, .pointer (some ⟨b46, 0, none⟩)), (7, regs.v), (178, .bool (decide (ins.op = 16)))] [.blk b46 32 [.int .i64 ins.op, .int .i64 ins.a, .int .i64 ins.b, .int .i64 ins.c], .blk b3 203 [.int .i64 ((n : Nat) : Int), .int .i64 (((k : Nat) : Int) - 1)], .blk g 197 [.iface M.T (.pointer (some M.u)), .pointer (some ⟨gp, 0, none⟩), thr.v, prints.v, .bool fell], .rblk gp 25 [code.v, pw, .int .i64 locks, .int .i64 nregs], .own 234 (⟨thr.v, tl⟩ : Ls ThQ), .own 3 regs, .own 3 prints, .blk M.g0 205 [words.v, owner.v], .own 3 words, .own 3 owner, M.X q, .at_ code] := h247.nrm ⟨rfl, rfl, rfl, rfl, rfl, trivial⟩ [0, 1, 2, 3, 4, 5, 6, 7, 8, 9, 10, 11] (by decide) ⟨rfl, rfl, rfl, rfl, rfl, rfl, rfl, rfl, rfl, rfl, rfl, rfl, trivial⟩
  clear h247
  refine x_any ((fun Φ Ψ S a w => (S 12 = false ∧ S 13 = false ∧ S 16 = false ∧ FrI 196 S Φ Ψ a ∧ Sh K W w [.blk b46 32 [.int .i64 ins.op, .int .i64 ins.a, .int .i64 ins.b, .int .i64 ins.c], .blk b3 203 [.int .i64 ((n : Nat) : Int), .int .i64 (((k : Nat) : Int) - 1)], .blk g 197 [.iface M.T (.pointer (some M.u)), .pointer (some ⟨gp, 0, none⟩), thr.v, prints.v, .bool fell], .rblk gp 25 [code.v, pw, .int .i64 locks, .int .i64 nregs], .own 234 (⟨thr.v, tl⟩ : Ls ThQ), .own 3 regs, .own 3 prints, .blk M.g0 205 [words.v, owner.v], .own 3 words, .own 3 owner, M.X q, .at_ code]) ∨ (S 12 = true ∧ S 13 = false ∧ S 16 = false ∧ ∃ (v7012 : Value), FrI 196 S Φ (Ψ ++ [(12, 192, v7012)]) a ∧ Sh K W w [.own 3 (⟨v7012, [((n : Nat) : Int), nth regs.l ins.a.toNat]⟩ : Ls Int), .blk b46 32 [.int .i64 ins.op, .int .i64 ins.a, .int .i64 ins.b, .int .i64 ins.c], .blk b3 203 [.int .i64 ((n : Nat) : Int), .int .i64 (((k : Nat) : Int) - 1)], .blk g 197 [.iface M.T (.pointer (some M.u)), .pointer (some ⟨gp, 0, none⟩), thr.v, prints.v, .bool fell], .rblk gp 25 [code.v, pw, .int .i64 locks, .int .i64 nregs], .own 234 (⟨thr.v, tl⟩ : Ls ThQ), .own 3 regs, .own 3 prints, .blk M.g0 205 [words.v, owner.v], .own 3 words, .own 3 owner, M.X q, .at_ code]) ∨ (S 12 = true ∧ S 13 = true ∧ S 16 = false ∧ ∃ (v7012 : Value) (v7013 : Value), FrI 196 S Φ (Ψ ++ [(12, 192, v7012), (13, 193, v7013), (14, 194, .pointer (some ⟨g, 0, none⟩)), (15, 195, .pointer (some ⟨g, 3, none⟩))]) a ∧ Sh K W w [.own 3 (⟨v7012, [((n : Nat) : Int), nth regs.l ins.a.toNat]⟩ : Ls Int), .blk b46 32 [.int .i64 ins.op, .int .i64 ins.a, .int .i64 ins.b, .int .i64 ins.c], .blk b3 203 [.int .i64 ((n : Nat) : Int), .int .i64 (((k : Nat) : Int) - 1)], .blk g 197 [.iface M.T (.pointer (some M.u)), .pointer (some ⟨gp, 0, none⟩), thr.v, prints.v, .bool fell], .rblk gp 25 [code.v, pw, .int .i64 locks, .int .i64 nregs], .own 234 (⟨thr.v, tl⟩ : Ls ThQ), .own 3 regs, .own 3 (⟨v7013, prints.l ++ ([((n : Nat) : Int), nth regs.l ins.a.toNat])⟩ : Ls Int), .blk M.g0 205 [words.v, owner.v], .own 3 words, .own 3 owner, M.X q, .at_ code]) ∨ (S 12 = true ∧ S 13 = true ∧ S 16 = true ∧ ∃ (v7012 : Value) (v7013 : Value), FrI 196 S Φ (Ψ ++ [(12, 192, v7012), (13, 193, v7013), (14, 194, .pointer (some ⟨g, 0, none⟩)), (15, 195, .pointer (some ⟨g, 3, none⟩))]) a ∧ Sh K W w [.own 3 (⟨v7012, [((n : Nat) : Int), nth regs.l ins.a.toNat]⟩ : Ls Int), .blk b46 32 [.int .i64 ins.op, .int .i64 ins.a, .int .i64 ins.b, .int .i64 ins.c], .blk b3 203 [.int .i64 ((n : Nat) : Int), .int .i64 (((k : Nat) : Int) - 1)], .blk g 197 [.iface M.T (.pointer (some M.u)), .pointer (some ⟨gp, 0, none⟩), thr.v, v7013, .bool fell], .rblk gp 25 [code.v, pw, .int .i64 locks, .int .i64 nregs], .own 234 (⟨thr.v, tl⟩ : Ls ThQ), .own 3 regs, .own 3 (⟨v7013, prints.l ++ ([((n : Nat) : Int), nth regs.l ins.a.toNat])⟩ : Ls Int), .blk M.g0 205 [words.v, owner.v], .own 3 words, .own 3 owner, M.X q, .at_ code])) [(0, .pointer (some ⟨g, 0, none⟩)), (3, .pointer (some ⟨b3, 0, none⟩)), (5, .pointer (some ⟨b46, 0, none⟩)), (7, regs.v), (178, .bool (decide (ins.op = 16)))] [(0, 180, .pointer (some ⟨g, 0, none⟩)), (1, 181, .pointer (some ⟨g, 0, none⟩)), (2, 182, .pointer (some ⟨g, 0, none⟩)), (3, 183, .pointer (some ⟨g, 3, none⟩)), (4, 184, prints.v), (5, 185, .pointer (some ⟨b3, 0, none⟩)), (6, 186, .int .i64 ((n : Nat) : Int)), (7, 187, regs.v), (8, 188, .pointer (some ⟨b46, 1, none⟩)), (9, 189, .int .i64 ins.a), (10, 190, .pointer (some (padr regs.v 1 ins.a.toNat 0))), (11, 191, .int .i64 (nth regs.l ins.a.toNat))]) (by kernel_rfl) (by kernel_rfl) (Or.inl (⟨rfl, rfl, rfl, FrI.start h249.fr, h249.sh.drew⟩)) ?_ ?_
  ·intro S i o ho hSi hcl hdep a w hI
   clear h249
   rcases i with _ | _ | _ | _ | _ | _ | _ | _ | _ | _ | _ | _ | _ | _ | _ | _ | _ | i
   ·obtain rfl : _ = o := Option.some.inj ho
    rcases hI with ⟨ν12, ν13, ν16, φ, ς⟩ | ⟨ν12, ν13, ν16, v7012, φ, ς⟩ | ⟨ν12, ν13, ν16, v7012, v7013, φ, ς⟩ | ⟨_, _, ν16, _⟩
    ·exact sq φ φ.fr0 ς (r_move rfl rfl) 0 rfl rfl rfl rfl rfl rfl fun a hg => Or.inl (⟨un rfl ν12, un rfl ν13, un rfl ν16, hg, ς⟩)
    ·exact sq φ φ.fr0 ς (r_move rfl rfl) 0 rfl rfl rfl rfl rfl rfl fun a hg => Or.inr (Or.inl (⟨un rfl ν12, un rfl ν13, un rfl ν16, v7012, hg, ς⟩))
    ·exact sq φ φ.fr0 ς (r_move rfl rfl) 0 rfl rfl rfl rfl rfl rfl fun a hg => Or.inr (Or.inr (Or.inl (⟨un rfl ν12, un rfl ν13, un rfl ν16, v7012, v7013, hg, ς⟩)))
    ·exact no_way (cA hcl 16 0 rfl ν16) hSi
   ·obtain rfl : _ = o := Option.some.inj ho
    rcases hI with ⟨ν12, ν13, ν16, φ, ς⟩ | ⟨ν12, ν13, ν16, v7012, φ, ς⟩ | ⟨_, ν13, _⟩ | ⟨_, ν13, _⟩
    ·exact sq φ φ.fr0 ς (r_move rfl rfl) 1 rfl rfl rfl rfl rfl rfl fun a hg => Or.inl (⟨un rfl ν12, un rfl ν13, un rfl ν16, hg, ς⟩)
    ·exact sq φ φ.fr0 ς (r_move rfl rfl) 1 rfl rfl rfl rfl rfl rfl fun a hg => Or.inr (Or.inl (⟨un rfl ν12, un rfl ν13, un rfl ν16, v7012, hg, ς⟩))
    ·exact no_way (cA hcl 13 1 rfl ν13) hSi
    ·exact no_way (cA hcl 13 1 rfl ν13) hSi
   ·obtain rfl : _ = o := Option.some.inj ho
    have hd1 : S 1 = true := depAt hdep 0 rfl rfl
    rcases hI with ⟨ν12, ν13, ν16, φ, ς⟩ | ⟨ν12, ν13, ν16, v7012, φ, ς⟩ | ⟨_, ν13, _⟩ | ⟨_, ν13, _⟩
    ·exact sq φ (Fr.cons φ.fr0 (φ.at_ 1 1 181 _ rfl hd1)) ς (r_nil rfl rfl) 2 rfl rfl rfl rfl rfl rfl fun a hg => Or.inl (⟨un rfl ν12, un rfl ν13, un rfl ν16, hg, ς⟩)
    ·exact sq φ (Fr.cons φ.fr0 (φ.at_ 1 1 181 _ rfl hd1)) ς (r_nil rfl rfl) 2 rfl rfl rfl rfl rfl rfl fun a hg => Or.inr (Or.inl (⟨un rfl ν12, un rfl ν13, un rfl ν16, v7012, hg, ς⟩))
    ·exact no_way (cA hcl 13 2 rfl ν13) hSi
    ·exact no_way (cA hcl 13 2 rfl ν13) hSi
   ·obtain rfl : _ = o := Option.some.inj ho
    have hd2 : S 2 = true := depAt hdep 0 rfl rfl
    rcases hI with ⟨ν12, ν13, ν16, φ, ς⟩ | ⟨ν12, ν13, ν16, v7012, φ, ς⟩ | ⟨_, ν13, _⟩ | ⟨_, ν13, _⟩
    ·exact sq φ (Fr.cons φ.fr0 (φ.at_ 2 2 182 _ rfl hd2)) ς (r_fieldB (r := 3) fl_197_3 rfl rfl rfl) 3 rfl rfl rfl rfl rfl rfl fun a hg => Or.inl (⟨un rfl ν12, un rfl ν13, un rfl ν16, hg, ς⟩)
    ·exact sq φ (Fr.cons φ.fr0 (φ.at_ 2 2 182 _ rfl hd2)) ς (r_fieldB (r := 3) fl_197_3 rfl rfl rfl) 3 rfl rfl rfl rfl rfl rfl fun a hg => Or.inr (Or.inl (⟨un rfl ν12, un rfl ν13, un rfl ν16, v7012, hg, ς⟩))
    ·exact no_way (cA hcl 13 3 rfl ν13) hSi
    ·exact no_way (cA hcl 13 3 rfl ν13) hSi
   ·obtain rfl : _ = o := Option.some.inj ho
    have hd3 : S 3 = true := depAt hdep 0 rfl rfl
    rcases hI with ⟨ν12, ν13, ν16, φ, ς⟩ | ⟨ν12, ν13, ν16, v7012, φ, ς⟩ | ⟨_, ν13, _⟩ | ⟨_, ν13, _⟩
    ·exact sq φ (Fr.cons φ.fr0 (φ.at_ 3 3 183 _ rfl hd3)) ς (r_ldb (i := 2) ti_23 rfl rfl rfl rfl) 4 rfl rfl rfl rfl rfl rfl fun a hg => Or.inl (⟨un rfl ν12, un rfl ν13, un rfl ν16, hg, ς⟩)
    ·exact sq φ (Fr.cons φ.fr0 (φ.at_ 3 3 183 _ rfl hd3)) ς (r_ldb (i := 3) ti_23 rfl rfl rfl rfl) 4 rfl rfl rfl rfl rfl rfl fun a hg => Or.inr (Or.inl (⟨un rfl ν12, un rfl ν13, un rfl ν16, v7012, hg, ς⟩))
    ·exact no_way (cA hcl 13 4 rfl ν13) hSi
    ·exact no_way (cA hcl 13 4 rfl ν13) hSi
   ·obtain rfl : _ = o := Option.some.inj ho
    rcases hI with ⟨ν12, ν13, ν16, φ, ς⟩ | ⟨ν12, _⟩ | ⟨ν12, _⟩ | ⟨ν12, _⟩
    ·exact sq φ φ.fr0 ς (r_fieldB (r := 0) fl_203_0 rfl rfl rfl) 5 rfl rfl rfl rfl rfl rfl fun a hg => Or.inl (⟨un rfl ν12, un rfl ν13, un rfl ν16, hg, ς⟩)
    ·exact no_way (cA hcl 12 5 rfl ν12) hSi
    ·exact no_way (cA hcl 12 5 rfl ν12) hSi
    ·exact no_way (cA hcl 12 5 rfl ν12) hSi
   ·obtain rfl : _ = o := Option.some.inj ho
    have hd5 : S 5 = true := depAt hdep 0 rfl rfl
    rcases hI with ⟨ν12, ν13, ν16, φ, ς⟩ | ⟨ν12, _⟩ | ⟨ν12, _⟩ | ⟨ν12, _⟩
    ·exact sq φ (Fr.cons φ.fr0 (φ.at_ 5 5 185 _ rfl hd5)) ς (r_ldb (i := 1) ti_3 rfl rfl rfl rfl) 6 rfl rfl rfl rfl rfl rfl fun a hg => Or.inl (⟨un rfl ν12, un rfl ν13, un rfl ν16, hg, ς⟩)
    ·exact no_way (cA hcl 12 6 rfl ν12) hSi
    ·exact no_way (cA hcl 12 6 rfl ν12) hSi
    ·exact no_way (cA hcl 12 6 rfl ν12) hSi
   ·obtain rfl : _ = o := Option.some.inj ho
    rcases hI with ⟨ν12, ν13, ν16, φ, ς⟩ | ⟨ν12, _⟩ | ⟨ν12, _⟩ | ⟨ν12, _⟩
    ·exact sq φ φ.fr0 ς (r_move rfl rfl) 7 rfl rfl rfl rfl rfl rfl fun a hg => Or.inl (⟨un rfl ν12, un rfl ν13, un rfl ν16, hg, ς⟩)
    ·exact no_way (cA hcl 12 7 rfl ν12) hSi
    ·exact no_way (cA hcl 12 7 rfl ν12) hSi
    ·exact no_way (cA hcl 12 7 rfl ν12) hSi
   ·obtain rfl : _ = o := Option.some.inj ho
    rcases hI with ⟨ν12, ν13, ν16, φ, ς⟩ | ⟨ν12, _⟩ | ⟨ν12, _⟩ | ⟨ν12, _⟩
    ·exact sq φ φ.fr0 ς (r_fieldB (r := 1) fl_32_1 rfl rfl rfl) 8 rfl rfl rfl rfl rfl rfl fun a hg => Or.inl (⟨un rfl ν12, un rfl ν13, un rfl ν16, hg, ς⟩)
    ·exact no_way (cA hcl 12 8 rfl ν12) hSi
    ·exact no_way (cA hcl 12 8 rfl ν12) hSi
    ·exact no_way (cA hcl 12 8 rfl ν12) hSi
   ·obtain rfl : _ = o := Option.some.inj ho
    have hd8 : S 8 = true := depAt hdep 0 rfl rfl
    rcases hI with ⟨ν12, ν13, ν16, φ, ς⟩ | ⟨ν12, _⟩ | ⟨ν12, _⟩ | ⟨ν12, _⟩
    ·exact sq φ (Fr.cons φ.fr0 (φ.at_ 8 8 188 _ rfl hd8)) ς (r_ldb (i := 0) ti_3 rfl rfl rfl rfl) 9 rfl rfl rfl rfl rfl rfl fun a hg => Or.inl (⟨un rfl ν12, un rfl ν13, un rfl ν16, hg, ς⟩)
    ·exact no_way (cA hcl 12 9 rfl ν12) hSi
    ·exact no_way (cA hcl 12 9 rfl ν12) hSi
    ·exact no_way (cA hcl 12 9 rfl ν12) hSi
   ·obtain rfl : _ = o := Option.some.inj ho
    have hd7 : S 7 = true := depAt hdep 0 rfl rfl
    have hd9 : S 9 = true := depAt hdep 1 rfl rfl
    rcases hI with ⟨ν12, ν13, ν16, φ, ς⟩ | ⟨ν12, _⟩ | ⟨ν12, _⟩ | ⟨ν12, _⟩
    ·have hs := St.mk (Fr.cons (Fr.cons φ.fr0 (φ.at_ 7 7 187 _ rfl hd7)) (φ.at_ 9 9 189 _ rfl hd9)) ς
     have hl271 : regs.l.length ≤ 140737488355328 := (hs.sh.own 5 rfl).len
     exact sq φ (Fr.cons (Fr.cons φ.fr0 (φ.at_ 7 7 187 _ rfl hd7)) (φ.at_ 9 9 189 _ rfl hd9)) ς (r_ixI (s := regs) (q := ins.a) sl_23 ti_3 rfl rfl rfl (fun w h => (h.own 5 rfl)) (show 0 ≤ ins.a ∧ ins.a < regs.l.length from (by omega))) 10 rfl rfl rfl rfl rfl rfl fun a hg => Or.inl (⟨un rfl ν12, un rfl ν13, un rfl ν16, hg, ς⟩)
    ·exact no_way (cA hcl 12 10 rfl ν12) hSi
    ·exact no_way (cA hcl 12 10 rfl ν12) hSi
    ·exact no_way (cA hcl 12 10 rfl ν12) hSi
   ·obtain rfl : _ = o := Option.some.inj ho
    have hd10 : S 10 = true := depAt hdep 0 rfl rfl
    rcases hI with ⟨ν12, ν13, ν16, φ, ς⟩ | ⟨ν12, _⟩ | ⟨ν12, _⟩ | ⟨ν12, _⟩
    ·exact sq φ (Fr.cons φ.fr0 (φ.at_ 10 10 190 _ rfl hd10)) ς (r_lde (s := regs) (i := ins.a.toNat) (v := .int .i64 (nth regs.l ins.a.toNat)) ti_3 rfl rfl rfl (fun w h => (h.own 5 rfl)) (show ins.a.toNat < regs.l.length from (by omega)) (Nat.le_of_ble_eq_true rfl) rfl) 11 rfl rfl rfl rfl rfl rfl fun a hg => Or.inl (⟨un rfl ν12, un rfl ν13, un rfl ν16, hg, ς⟩)
    ·exact no_way (cA hcl 12 11 rfl ν12) hSi
    ·exact no_way (cA hcl 12 11 rfl ν12) hSi
    ·exact no_way (cA hcl 12 11 rfl ν12) hSi
   ·obtain rfl : _ = o := Option.some.inj ho
    have hd6 : S 6 = true := depAt hdep 0 rfl rfl
    have hd11 : S 11 = true := depAt hdep 1 rfl rfl
    rcases hI with ⟨ν12, ν13, ν16, φ, ς⟩ | ⟨ν12, _⟩ | ⟨ν12, _⟩ | ⟨ν12, _⟩
    ·have hs := St.mk (Fr.cons (Fr.cons φ.fr0 (φ.at_ 6 6 186 _ rfl hd6)) (φ.at_ 11 11 191 _ rfl hd11)) ς
     refine step_ex (x_lit (n := 2) (cs := [.int .i64 ((n : Nat) : Int), .int .i64 (nth regs.l ins.a.toNat)]) ([((n : Nat) : Int), nth regs.l ins.a.toNat] : List Int) hs sl_23 ti_3 rfl rfl rfl (by decide) rfl (by kernel_rfl) rfl (fun q hq w h => Flat.inner _ _) (fun q hq b hb => (Flat.on _ _ hb).elim) rfl rfl) (wanted_none rfl _) ?_
     rintro a274 w274 ⟨v274, h274⟩ ⟨v0, ht274⟩
     exact Or.inr (Or.inl (⟨upd_self _ _, un rfl ν13, un rfl ν16, v274, φ.stepW hcl hSi [0, 1, 2, 3, 4, 5, 6, 7, 8, 9, 10, 11] (by kernel_rfl) (by kernel_rfl) ht274 h274.fr.defers (h274.fr.at_ 192 _ rfl) 12 rfl rfl rfl rfl, (h274.sh.sel (L' := [.own 3 (⟨v274, [((n : Nat) : Int), nth regs.l ins.a.toNat]⟩ : Ls Int), .blk b46 32 [.int .i64 ins.op, .int .i64 ins.a, .int .i64 ins.b, .int .i64 ins.c], .blk b3 203 [.int .i64 ((n : Nat) : Int), .int .i64 (((k : Nat) : Int) - 1)], .blk g 197 [.iface M.T (.pointer (some M.u)), .pointer (some ⟨gp, 0, none⟩), thr.v, prints.v, .bool fell], .rblk gp 25 [code.v, pw, .int .i64 locks, .int .i64 nregs], .own 234 (⟨thr.v, tl⟩ : Ls ThQ), .own 3 regs, .own 3 prints, .blk M.g0 205 [words.v, owner.v], .own 3 words, .own 3 owner, M.X q, .at_ code]) [0, 1, 2, 3, 4, 5, 6, 7, 8, 9, 10, 11, 12] (by decide) ⟨rfl, rfl, rfl, rfl, rfl, rfl, rfl, rfl, rfl, rfl, rfl, rfl, rfl, trivial⟩)⟩))
    ·exact no_way ν12 hSi
    ·exact no_way ν12 hSi
    ·exact no_way ν12 hSi
   ·obtain rfl : _ = o := Option.some.inj ho
    have hd4 : S 4 = true := depAt hdep 0 rfl rfl
    have hd12 : S 12 = true := depAt hdep 1 rfl rfl
    rcases hI with ⟨ν12, _⟩ | ⟨ν12, ν13, ν16, v7012, φ, ς⟩ | ⟨_, ν13, _⟩ | ⟨_, ν13, _⟩
    ·exact no_way hd12 ν12
    ·have hs := St.mk (Fr.cons (Fr.cons φ.fr0 (φ.at_ 4 4 184 _ rfl hd4)) (φ.at_ 12 12 192 _ rfl hd12)) ς
     refine step_ex (x_app (r := 7) (rm := 0) (s := prints) (m := (⟨v7012, [((n : Nat) : Int), nth regs.l ins.a.toNat]⟩ : Ls Int)) hs sl_23 ti_3 rfl rfl rfl rfl rfl rfl rfl (fun w h => (h.own 0 rfl)) (fun b hb => own_on (hs.sh.ok _ (List.mem_of_getElem? (i := 0) rfl)) hb) (fun q hq b hb => ⟨q, hq, hb⟩) rfl rfl rfl inferInstance (show (prints.l.length + ([((n : Nat) : Int), nth regs.l ins.a.toNat]).length) * 8 ≤ 140737488355328 ∧ prints.l.length + ([((n : Nat) : Int), nth regs.l ins.a.toNat]).length ≤ 140737488355328 from (by first | omega | (simp only [lens9]; omega))) rfl rfl) (wanted_none rfl _) ?_
     rintro a275 w275 ⟨v275, h275⟩ ⟨v0, ht275⟩
     exact Or.inr (Or.inr (Or.inl (⟨un rfl ν12, upd_self _ _, un rfl ν16, v7012, v275, φ.stepW hcl hSi [0, 1, 2, 3, 4, 5, 6, 7, 8, 9, 10, 11, 12] (by kernel_rfl) (by kernel_rfl) ht275 h275.fr.defers (h275.fr.at_ 193 _ rfl) 13 rfl rfl rfl rfl, (h275.sh.sel (L' := [.own 3 (⟨v7012, [((n : Nat) : Int), nth regs.l ins.a.toNat]⟩ : Ls Int), .blk b46 32 [.int .i64 ins.op, .int .i64 ins.a, .int .i64 ins.b, .int .i64 ins.c], .blk b3 203 [.int .i64 ((n : Nat) : Int), .int .i64 (((k : Nat) : Int) - 1)], .blk g 197 [.iface M.T (.pointer (some M.u)), .pointer (some ⟨gp, 0, none⟩), thr.v, prints.v, .bool fell], .rblk gp 25 [code.v, pw, .int .i64 locks, .int .i64 nregs], .own 234 (⟨thr.v, tl⟩ : Ls ThQ), .own 3 regs, .own 3 (⟨v275, prints.l ++ ([((n : Nat) : Int), nth regs.l ins.a.toNat])⟩ : Ls Int), .blk M.g0 205 [words.v, owner.v], .own 3 words, .own 3 owner, M.X q, .at_ code]) [0, 1, 2, 3, 4, 5, 6, 7, 8, 9, 10, 11, 12] (by decide) ⟨rfl, rfl, rfl, rfl, rfl, rfl, rfl, rfl, rfl, rfl, rfl, rfl, rfl, trivial⟩)⟩)))
    ·exact no_way ν13 hSi
    ·exact no_way ν13 hSi
   ·obtain rfl : _ = o := Option.some.inj ho
    have hd0 : S 0 = true := depAt hdep 0 rfl rfl
    have hd12 : S 12 = true := depAt hdep 13 rfl rfl
    have hd13 : S 13 = true := depAt hdep 14 rfl rfl
    rcases hI with ⟨ν12, _⟩ | ⟨_, ν13, _⟩ | ⟨ν12, ν13, ν16, v7012, v7013, φ, ς⟩ | ⟨_, _, ν16, _⟩
    ·exact no_way hd12 ν12
    ·exact no_way hd13 ν13
    ·exact sq φ (Fr.cons φ.fr0 (φ.at_ 0 0 180 _ rfl hd0)) ς (r_nil rfl rfl) 14 rfl rfl rfl rfl rfl rfl fun a hg => Or.inr (Or.inr (Or.inl (⟨un rfl ν12, un rfl ν13, un rfl ν16, v7012, v7013, hg, ς⟩)))
    ·exact no_way (cA hcl 16 14 rfl ν16) hSi
   ·obtain rfl : _ = o := Option.some.inj ho
    have hd14 : S 14 = true := depAt hdep 0 rfl rfl
    have hd12 : S 12 = true := depAt hdep 13 rfl rfl
    have hd13 : S 13 = true := depAt hdep 14 rfl rfl
    rcases hI with ⟨ν12, _⟩ | ⟨_, ν13, _⟩ | ⟨ν12, ν13, ν16, v7012, v7013, φ, ς⟩ | ⟨_, _, ν16, _⟩
    ·exact no_way hd12 ν12
    ·exact no_way hd13 ν13
    ·exact sq φ (Fr.cons φ.fr0 (φ.at_ 14 14 194 _ rfl hd14)) ς (r_fieldB (r := 3) fl_197_3 rfl rfl rfl) 15 rfl rfl rfl rfl rfl rfl fun a hg => Or.inr (Or.inr (Or.inl (⟨un rfl ν12, un rfl ν13, un rfl ν16, v7012, v7013, hg, ς⟩)))
    ·exact no_way (cA hcl 16 15 rfl ν16) hSi
   ·obtain rfl : _ = o := Option.some.inj ho
    have hd15 : S 15 = true := depAt hdep 0 rfl rfl
    have hd13 : S 13 = true := depAt hdep 1 rfl rfl
    have hd12 : S 12 = true := depAt hdep 15 rfl rfl
    rcases hI with ⟨ν12, _⟩ | ⟨_, ν13, _⟩ | ⟨ν12, ν13, ν16, v7012, v7013, φ, ς⟩ | ⟨_, _, ν16, _⟩
    ·exact no_way hd12 ν12
    ·exact no_way hd13 ν13
    ·have hs := St.mk (Fr.cons (Fr.cons φ.fr0 (φ.at_ 13 13 193 _ rfl hd13)) (φ.at_ 15 15 195 _ rfl hd15)) ς
     refine step_ex (x_stb (i := 3) (vs := [v7013]) (cs' := [.iface M.T (.pointer (some M.u)), .pointer (some ⟨gp, 0, none⟩), thr.v, v7013, .bool fell]) hs ti_23 rfl rfl rfl rfl rfl (cells_oneL ((hs.sh.own 7 rfl)).one) rfl (allOne_cons ((hs.sh.own 7 rfl)).one allOne_nil) (Nat.le_of_ble_eq_true rfl) rfl) (wanted_none rfl _) ?_
     rintro a278 w278 h278 ⟨v0, ht278⟩
     exact Or.inr (Or.inr (Or.inr (⟨un rfl ν12, un rfl ν13, upd_self _ _, v7012, v7013, φ.noneW hcl hSi [0, 1, 2, 3, 4, 5, 6, 7, 8, 9, 10, 11, 12, 13, 14, 15] (by kernel_rfl) (by kernel_rfl) ht278 h278.fr.defers rfl, (h278.sh.sel (L' := [.own 3 (⟨v7012, [((n : Nat) : Int), nth regs.l ins.a.toNat]⟩ : Ls Int), .blk b46 32 [.int .i64 ins.op, .int .i64 ins.a, .int .i64 ins.b, .int .i64 ins.c], .blk b3 203 [.int .i64 ((n : Nat) : Int), .int .i64 (((k : Nat) : Int) - 1)], .blk g 197 [.iface M.T (.pointer (some M.u)), .pointer (some ⟨gp, 0, none⟩), thr.v, v7013, .bool fell], .rblk gp 25 [code.v, pw, .int .i64 locks, .int .i64 nregs], .own 234 (⟨thr.v, tl⟩ : Ls ThQ), .own 3 regs, .own 3 (⟨v7013, prints.l ++ ([((n : Nat) : Int), nth regs.l ins.a.toNat])⟩ : Ls Int), .blk M.g0 205 [words.v, owner.v], .own 3 words, .own 3 owner, M.X q, .at_ code]) [0, 1, 2, 3, 4, 5, 6, 7, 8, 9, 10, 11, 12] (by decide) ⟨rfl, rfl, rfl, rfl, rfl, rfl, rfl, rfl, rfl, rfl, rfl, rfl, rfl, trivial⟩)⟩)))
    ·exact no_way ν16 hSi
   · simp at ho
  intro S hall a w hI
  clear h249
  rcases hI with ⟨ν12, ν13, ν16, φ, ς⟩ | ⟨ν12, ν13, ν16, v7012, φ, ς⟩ | ⟨ν12, ν13, ν16, v7012, v7013, φ, ς⟩ | ⟨ν12, ν13, ν16, v7012, v7013, φ, ς⟩
  · exact no_way (hall 12 (by decide)) ν12
  · exact no_way (hall 13 (by decide)) ν13
  · exact no_way (hall 16 (by decide)) ν16
  have h279 : St 196 K W a w _ [.own 3 (⟨v7012, [((n : Nat) : Int), nth regs.l ins.a.toNat]⟩ : Ls Int), .blk b46 32 [.int .i64 ins.op, .int .i64 ins.a, .int .i64 ins.b, .int .i64 ins.c], .blk b3 203 [.int .i64 ((n : Nat) : Int), .int .i64 (((k : Nat) : Int) - 1)], .blk g 197 [.iface M.T (.pointer (some M.u)), .pointer (some ⟨gp, 0, none⟩), thr.v, v7013, .bool fell], .rblk gp 25 [code.v, pw, .int .i64 locks, .int .i64 nregs], .own 234 (⟨thr.v, tl⟩ : Ls ThQ), .own 3 regs, .own 3 (⟨v7013, prints.l ++ ([((n : Nat) : Int), nth regs.l ins.a.toNat])⟩ : Ls Int), .blk M.g0 205 [words.v, owner.v], .own 3 words, .own 3 owner, M.X q, .at_ code] := ⟨φ.fr0, ς⟩
  clear hall φ ς ν12 ν13 ν16
  try simp only [Exit.then, Exit.inBlock, if_true]
  refine x_end0 (fn := Try.f124) rfl h279 ?_
  have hz := (h279.sh.sel (L' := [.blk g 197 [.iface M.T (.pointer (some M.u)), .pointer (some ⟨gp, 0, none⟩), thr.v, v7013, .bool fell], .rblk gp 25 [code.v, pw, .int .i64 locks, .int .i64 nregs], .own 234 (⟨thr.v, tl⟩ : Ls ThQ), .own 3 regs, .own 3 (⟨v7013, prints.l ++ ([((n : Nat) : Int), nth regs.l ins.a.toNat])⟩ : Ls Int), .blk M.g0 205 [words.v, owner.v], .own 3 words, .own 3 owner, M.X q, .at_ code]) [3, 4, 5, 6, 7, 8, 9, 10, 11, 12] (by decide) ⟨rfl, rfl, rfl, rfl, rfl, rfl, rfl, rfl, rfl, rfl, trivial⟩)
  refine ⟨rfl, ⟨regs.v, regs.l⟩, ⟨words.v, words.l⟩, ⟨owner.v, owner.l⟩, ⟨v7013, prints.l ++ ([((n : Nat) : Int), nth regs.l ins.a.toNat])⟩, q, nth (M.qs q) n, (nth thr.l n).pc + 1, fell, (list_set_nth _ _).symm, ?_, ?_⟩
  · refine Eq.trans ?_ (doT_0 (by omega)).symm; show _ = execT M.m n (nextIns (nth code.l n).l (nth thr.l n).pc) _; rw [← hins]; (refine Eq.trans ?_ (execT_16 (by assumption)).symm; rfl)
  · rw [htl] at hz; exact hz
 have hp248 : ¬ (ins.op = 16) := of_decide_eq_false hb248
 refine wp_region_lit <| wms 1 h247 rfl fun a280 h280 => wv h280 (r_fieldB (r := 0) fl_203_0 rfl rfl rfl) rfl rfl fun a281 h281 => wv h281 (r_ldb (i := 1) ti_3 rfl rfl rfl rfl) rfl rfl fun a282 h282 => wv h282 (r_ldbw (i := 0) (vs := [.int .i64 ins.op, .int .i64 ins.a, .int .i64 ins.b, .int .i64 ins.c]) ti_32 rfl rfl rfl rfl rfl) rfl rfl fun a283 h283 => ?_; clear h247 h280 h281 h282
 have h284 := h283.sel (L' := [.blk g 197 [.iface M.T (.pointer (some M.u)), .pointer (some ⟨gp, 0, none⟩), thr.v, prints.v, .bool fell], .rblk gp 25 [code.v, pw, .int .i64 locks, .int .i64 nregs], .own 234 (⟨thr.v, tl⟩ : Ls ThQ), .own 3 regs, .own 3 prints, .blk M.g0 205 [words.v, owner.v], .own 3 words, .own 3 owner, M.X q, .at_ code, .blk b46 32 [.int .i64 ins.op, .int .i64 ins.a, .int .i64 ins.b, .int .i64 ins.c], .blk b3 203 [.int .i64 ((n : Nat) : Int), .int .i64 (((k : Nat) : Int) - 1)]]) [2, 3, 4, 5, 6, 7, 8, 9, 10, 11, 0, 1] (by decide) ⟨rfl, rfl, rfl, rfl, rfl, rfl, rfl, rfl, rfl, rfl, rfl, rfl, trivial⟩
 have hp285 := h284.sh.passL (Lp := [.blk g 197 [.iface M.T (.pointer (some M.u)), .pointer (some ⟨gp, 0, none⟩), thr.v, prints.v, .bool fell], .rblk gp 25 [code.v, pw, .int .i64 locks, .int .i64 nregs], .own 234 (⟨thr.v, tl⟩ : Ls ThQ), .own 3 regs, .own 3 prints, .blk M.g0 205 [words.v, owner.v], .own 3 words, .own 3 owner, M.X q, .at_ code])
 refine wl_ex (x_call h284 bd_153 rfl rfl rfl rfl rfl (pmem_c _ M g gp code (⟨thr.v, tl⟩ : Ls ThQ) regs prints words owner q _ _ _ fell n ins _ hM hp285 (by show n < tl.length; omega) htn hrv2 hqn hwl hwh0 hge hR (by omega) hab)) (wanted_none rfl _) ?_
 rintro a286 w286 ⟨_, ⟨rfl, regs286, words286, owner286, prints286, q286, wt286, pc286, fell286, hmq286, hmy286, hs286⟩, hf286⟩
 change Sh _ _ _ [.blk g 197 [.iface M.T (.pointer (some M.u)), .pointer (some ⟨gp, 0, none⟩), thr.v, prints286.v, .bool fell286], .rblk gp 25 [code.v, pw, .int .i64 locks, .int .i64 nregs], .own 234 (⟨thr.v, tl.set n ⟨pc286, regs286.v⟩⟩ : Ls ThQ), .own 3 regs286, .own 3 prints286, .blk M.g0 205 [words286.v, owner286.v], .own 3 words286, .own 3 owner286, M.X q286, .at_ code] at hs286
 have h286 : St 196 K W a286 w286 _ [.blk g 197 [.iface M.T (.pointer (some M.u)), .pointer (some ⟨gp, 0, none⟩), thr.v, prints286.v, .bool fell286], .rblk gp 25 [code.v, pw, .int .i64 locks, .int .i64 nregs], .own 234 (⟨thr.v, tl.set n ⟨pc286, regs286.v⟩⟩ : Ls ThQ), .own 3 regs286, .own 3 prints286, .blk M.g0 205 [words286.v, owner286.v], .own 3 words286, .own 3 owner286, M.X q286, .at_ code, .blk b46 32 [.int .i64 ins.op, .int .i64 ins.a, .int .i64 ins.b, .int .i64 ins.c], .blk b3 203 [.int .i64 ((n : Nat) : Int), .int .i64 (((k : Nat) : Int) - 1)]] := ⟨hf286, h284.sh.backL (Lp := [.blk g 197 [.iface M.T (.pointer (some M.u)), .pointer (some ⟨gp, 0, none⟩), thr.v, prints.v, .bool fell], .rblk gp 25 [code.v, pw, .int .i64 locks, .int .i64 nregs], .own 234 (⟨thr.v, tl⟩ : Ls ThQ), .own 3 regs, .own 3 prints, .blk M.g0 205 [words.v, owner.v], .own 3 words, .own 3 owner, M.X q, .at_ code]) hs286 (by intro A hA b hb; simp only [List.mem_cons, List.not_mem_nil, or_false] at hA; rcases hA with rfl | rfl | rfl | rfl | rfl | rfl | rfl | rfl | rfl | rfl <;> first | exact (hb : False).elim | exact Flat.noRd hb | exact .inl ⟨_, List.mem_cons_self .., .inr hb⟩ | exact rdX hM hb | exact .inl ⟨_, List.mem_of_getElem? (i := 1) rfl, .inr hb⟩ | exact .inl ⟨_, List.mem_of_getElem? (i := 9) rfl, .inr hb⟩ | exact .inl ⟨_, by simp, .inr hb⟩)⟩
 clear hf286 hs286
 clear h284
 refine wpList_nil ?_
 try simp only [Exit.then, Exit.inBlock, if_true]
 refine x_end0 (fn := Try.f124) rfl h286 ?_
 have hz := (h286.sh.sel (L' := [.blk g 197 [.iface M.T (.pointer (some M.u)), .pointer (some ⟨gp, 0, none⟩), thr.v, prints286.v, .bool fell286], .rblk gp 25 [code.v, pw, .int .i64 locks, .int .i64 nregs], .own 234 (⟨thr.v, tl.set n ⟨pc286, regs286.v⟩⟩ : Ls ThQ), .own 3 regs286, .own 3 prints286, .blk M.g0 205 [words286.v, owner286.v], .own 3 words286, .own 3 owner286, M.X q286, .at_ code]) [0, 1, 2, 3, 4, 5, 6, 7, 8, 9] (by decide) ⟨rfl, rfl, rfl, rfl, rfl, rfl, rfl, rfl, rfl, rfl, trivial⟩)
 refine ⟨rfl, regs286, words286, owner286, prints286, q286, wt286, pc286, fell286, hmq286, ?_, ?_⟩
 · refine Eq.trans hmy286 ?_; refine Eq.trans ?_ (doT_0 (by omega)).symm; show _ = execT M.m n (nextIns (nth code.l n).l (nth thr.l n).pc) _; rw [← hins]; show execT M.m n ins ⟨(nth tl n).pc, _, _, _, _, _, _⟩ = _; rw [hpc2]
 · rw [htl, List.set_set] at hz; exact hz

end Go.Proofs.Ytfpaahkleienoaa
