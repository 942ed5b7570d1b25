/-
  A run of the document by a script.
-/
import Derived.Test.YtfpaahkleienoaaM3
import Derived.Test.YtfpaahkleienoaaX20
import Derived.Test.YtfpaahkleienoaaX2
section
namespace Go.Proofs.Ytfpaahkleienoaa
open Go.RowKit
set_option linter.unusedSimpArgs false
set_option linter.unusedVariables false

section
variable {code : Ls (Ls Ins)} {words0 : Ls Int} {Lk R : Nat} {m : Int} {script : List Int} {nx k : Nat} {x z : SD}
theorem goS_pick (hgo : GoI (pgN code words0 Lk R) m script nx x.st k) (hth : x.thr.l.length = code.l.length) {ml : List Int} (hml : ml = moves (pgN code words0 Lk R) m x.st) (hl : ml.length ≠ 0) (h3 : ∀ t, t < code.l.length → (nth x.thr.l t).wait.l.length ≤ 3) :
    ∃ t j, t < code.l.length ∧ mvOK m (nth code.l t).l ⟨(nth x.thr.l t).pc, (nth x.thr.l t).regs.l, (nth x.thr.l t).wait.l, x.words.l, x.owner.l, x.prints.l, false⟩ j = true ∧ j < 8 ∧ j ≤ (nth x.thr.l t).wait.l.length ∧ nth ml (pickM script nx ml.length) = ((8 * t + j : Nat) : Int) ∧ mvM (pgN code words0 Lk R) m x.st script nx = 8 * t + j := by
  subst hml
  obtain ⟨t, j, h1, h2, h4, h5⟩ := mv_at (p := pgN code words0 Lk R) (m := m) (s := x.st) (script := script) (nx := nx) hl
  rw [pgN_len] at h1
  rw [pgN_code h1, st_view (by rw [hth]; exact h1)] at h2
  have h6 : j ≤ (nth x.thr.l t).wait.l.length := by
    rcases mvOK_k h2 with ⟨h9, _⟩ | ⟨_, h9, _⟩
    · omega
    · exact h9
  have := h3 t h1
  exact ⟨t, j, h1, h2, by omega, h6, h4, h5⟩
theorem goS_next (hgo : GoI (pgN code words0 Lk R) m script nx x.st k) (hth : x.thr.l.length = code.l.length) (he : ended (pgN code words0 Lk R) x.st = false) {l : Nat} (hl : l = (moves (pgN code words0 Lk R) m x.st).length) (hl0 : l ≠ 0) (hk : k ≠ 5000) {t j : Nat} (ht : t < code.l.length) (hj : j < 8)
    (hm : mvOK m (nth code.l t).l ⟨(nth x.thr.l t).pc, (nth x.thr.l t).regs.l, (nth x.thr.l t).wait.l, x.words.l, x.owner.l, x.prints.l, false⟩ j = true) (e : mvM (pgN code words0 Lk R) m x.st script nx = 8 * t + j) {y : TS} (hy : y = stepT (pgN code words0 Lk R) m x.st t j) (hz : z.st = x.st.putT t y) :
    (y.fell = true → runM (pgN code words0 Lk R) m script = ⟨1, k + 1, y.words, y.prints⟩) ∧ (y.fell = false → GoI (pgN code words0 Lk R) m script (nextM script nx l) z.st (k + 1)) := by
  obtain ⟨a, b⟩ := goI_next hgo he (by rw [← hl]; exact hl0) hk hj e (by rw [pgN_len]; exact ht) (by rw [pgN_code ht, st_view (by rw [hth]; exact ht)]; exact hm) (by unfold stepT; exact doT_pr)
  rw [← hy] at a b
  refine ⟨a, fun hf => ?_⟩
  rw [hz, hl]
  exact b hf
end
end Go.Proofs.Ytfpaahkleienoaa
end
namespace Go.Proofs.Ytfpaahkleienoaa
open Go.RowKit
set_option linter.unusedSimpArgs false
set_option linter.unusedVariables false


theorem do_tkR (K : Nat → Prop) (g mv t k : Nat) (code : Ls (Ls Ins)) (vt : Value) (rows : List ThL) (words owner prints : Ls Int) (pw : Value) (locks nregs mode : Int) (fell : Bool) (W : World)
    (hS : Sh K W W (stA g [code.v, pw, .int .i64 locks, .int .i64 nregs, .int .i64 mode] vt rows words owner prints fell ++ [.at_ code])) (et : mv / 8 = t) (ek : mv % 8 = k)
    (hn : t < rows.length) (htc : t < code.l.length) (hmv : mv < 1000000) (hpc : 0 ≤ (nth rows t).pc ∧ (nth rows t).pc < 1000000) (hwl : (nth rows t).wait.l.length ≤ 3) (hkw : k ≤ (nth rows t).wait.l.length) (hpl : prints.l.length ≤ 100000000) (hol : owner.l.length ≤ 100)
    (hwt : ∀ j, j < (nth rows t).wait.l.length → if (nth (nth rows t).wait.l j).lock = true then 0 ≤ (nth (nth rows t).wait.l j).wh ∧ (nth (nth rows t).wait.l j).wh < owner.l.length else 0 ≤ (nth (nth rows t).wait.l j).wh ∧ (nth (nth rows t).wait.l j).wh < words.l.length)
    (hio : k = 0 → InsR (nth rows t).regs.l.length words.l.length owner.l.length (nextIns (nth code.l t).l (nth rows t).pc)) :
    Rets Try.prog 80 [.pointer (some ⟨g, 0, none⟩), .int .i64 ((mv : Nat) : Int)] W (fun v w' => v = .tuple #[] ∧ ∃ (rows' : List ThL) (words' owner' prints' : Ls Int) (fell' : Bool) (y : TS),
      y = doT mode t (nth code.l t).l k ⟨(nth rows t).pc, (nth rows t).regs.l, (nth rows t).wait.l, words.l, owner.l, prints.l, fell⟩ ∧ rows'.map ThL.th = (rows.map ThL.th).set t ⟨y.pc, y.regs, y.wait⟩ ∧ words'.l = y.words ∧ owner'.l = y.owner ∧ prints'.l = y.prints ∧ fell' = y.fell ∧
      Sh K W w' (stA g [code.v, pw, .int .i64 locks, .int .i64 nregs, .int .i64 mode] vt rows' words' owner' prints' fell' ++ [.at_ code])) := by
  subst et; subst ek
  exact do_full K g mv code vt rows words owner prints pw locks nregs mode fell W hS hn htc hmv hpc hwl hkw hpl hol hwt hio
theorem ok_lenR {code : Ls (Ls Ins)} {words : Ls Int} {Lk R : Nat} (h : OkPg (pgN code words Lk R)) : 1 ≤ code.l.length ∧ code.l.length ≤ 4 ∧ words.l.length ≤ 64 ∧ Lk ≤ 4 ∧ R ≤ 200 := by
  have h1 := h.code
  have h2 := h.words
  have h3 := h.locks
  have h4 := h.regs
  simp only [pgN, pgOf, List.length_map] at h1 h2 h3 h4
  omega
theorem bigNoRdR {INT WT : TypeId} {rows : List ThL} {X : Prop} {b : Nat} (h : (Asn.big (rowsA INT WT rows)).rd b) : X := by
  obtain ⟨A, hA, hb⟩ := h
  obtain ⟨x, _, hx⟩ := List.mem_flatMap.1 hA
  simp only [thA, List.mem_cons, List.not_mem_nil, or_false] at hx
  rcases hx with rfl | rfl <;> exact Flat.noRd hb

set_option maxRecDepth 100000 in
set_option maxHeartbeats 20000000 in
theorem run_c (code : Ls (Ls Ins)) (words script : Ls Int) (Lk R : Nat) (mode : Int) (W : World) (hcode : code.At W) (hwords : words.At W) (hscript : script.At W) (hok : OkPg (pgN code words Lk R)) :
    Rets Try.prog 33 [.agg #[code.v, words.v, .int .i64 ((Lk : Nat) : Int), .int .i64 ((R : Nat) : Int)], .int .i64 mode, script.v] W (fun v w' => ∃ (pr wd : Ls Int) (st_ : Int) (steps : Nat), v = .agg #[pr.v, .int .i64 st_, wd.v, .int .i64 ((steps : Nat) : Int)] ∧ runM (pgN code words Lk R) mode script.l = ⟨st_, steps, wd.l, pr.l⟩ ∧ Sh0 W w' [.own 3 pr, .own 3 wd]) := by
 obtain ⟨hl1, hcl, hwn, hlk, hR⟩ := ok_lenR hok
 have hcln : ∀ t, t < code.l.length → (nth code.l t).l.length ≤ 400 := fun t ht => by have h9 := hok.len t (by rw [pgN_len]; exact ht); rwa [pgN_code ht] at h9
 refine x_enter (N := 74) Try.func33 rfl Try.ntmps33 (Nat.le_of_ble_eq_true rfl) fun a1 hf1 => ?_
 have h1 : St 74 (fun _ => False) W a1 W [(0, .agg #[code.v, words.v, .int .i64 ((Lk : Nat) : Int), .int .i64 ((R : Nat) : Int)]), (1, .int .i64 mode), (2, script.v)] [.at_ code, .at_ words, .at_ script] := ⟨hf1.sub ⟨rfl, rfl, rfl, trivial⟩, Sh0.ext3 hcode hwords hscript⟩
 clear hf1
 refine wp_seq_k fun K2 hK2 => wp_region_lit <| wl_ex (x_box (cs := [code.v, words.v, .int .i64 ((Lk : Nat) : Int), .int .i64 ((R : Nat) : Int)]) h1 rfl rfl rfl rfl rfl) (wanted_none rfl _) ?_
 rintro a3 w3 ⟨b3, h3⟩; clear h1
 refine wl_ex (x_alloc h3 ti_49 rfl rfl rfl) (wanted_none rfl _) ?_
 rintro a4 w4 ⟨b4, h4⟩; clear h3
 refine wpList_nil <| hK2 _ _ <| wp_seq_k fun K5 hK5 => wp_region_lit <| wv h4 (r_ldbw (i := 1) (vs := [code.v, words.v, .int .i64 ((Lk : Nat) : Int), .int .i64 ((R : Nat) : Int)]) ti_25 rfl rfl rfl rfl rfl) rfl rfl fun a6 h6 => wms 1 h6 rfl fun a7 h7 => wl_ex (x_call h7 bd_77 rfl rfl rfl rfl rfl (begin_c code words Lk R mode _ (h7.sh.at 2 rfl) (h7.sh.at 3 rfl) hcl hlk hR hwn)) (wanted_none rfl _) ?_; clear h4 h6
 rintro a8 w8 ⟨_, ⟨g8, rows8, vt8, uw8, uo8, up8, rfl, hrw8, hw8, ho8, hp8, hs8⟩, hf8⟩
 have hgo0 : GoI (pgN code words Lk R) mode script.l 0 (⟨g8, 125, [code.v, words.v, .int .i64 ((Lk : Nat) : Int), .int .i64 ((R : Nat) : Int), .int .i64 mode], ⟨vt8, rows8⟩, uw8, uo8, up8, false⟩ : SD).st 0 := by rw [show (⟨g8, 125, [code.v, words.v, .int .i64 ((Lk : Nat) : Int), .int .i64 ((R : Nat) : Int), .int .i64 mode], ⟨vt8, rows8⟩, uw8, uo8, up8, false⟩ : SD).st = begin_ (pgN code words Lk R) from by unfold SD.st begin_; rw [hrw8, hw8, ho8, hp8]; simp [pgN, pgOf, Function.comp_def, List.map_const']]; exact goI_start
 have h8 := (⟨hf8, h7.sh.call hs8 (by intro A hA b hb; simp only [List.mem_cons, List.not_mem_nil, or_false] at hA; first | (subst hA; exact Flat.noRd hb) | (rcases hA with rfl | rfl | rfl | rfl | rfl | rfl <;> first | exact (hb : False).elim | exact Flat.noRd hb | exact bigNoRdR hb))⟩ : St 74 (fun _ => False) W a8 w8 _ _)
 clear hf8 hs8
 clear h7
 refine wms 1 h8 rfl fun a9 h9 => wpList_nil <| hK5 _ _ <| wp_seq_k fun K10 hK10 => wp_region_lit <| wms 1 h9 rfl fun a11 h11 => wpList_nil <| hK10 _ _ <| wp_seq_k fun K12 hK12 => wp_region_lit <| wms 1 h11 rfl fun a13 h13 => wpList_nil <| hK12 _ _ <| wp_seq_k fun K14 hK14 => ?_; clear h8 h9 h11
 refine wp_region_lit <| wms 1 h13 rfl fun a15 h15 => wpList_nil <| hK14 _ _ <| wp_seq_k fun K16 hK16 => wp_block <| x_loop (fun m a w => ∃ (n nx : Nat) (rows : List ThL) (uw uo up : Ls Int), (n ≤ 5000) ∧ (nx ≤ n) ∧ (GoI (pgN code words Lk R) mode script.l nx (⟨g8, 125, [code.v, words.v, .int .i64 ((Lk : Nat) : Int), .int .i64 ((R : Nat) : Int), .int .i64 mode], ⟨vt8, rows⟩, uw, uo, up, false⟩ : SD).st n) ∧ St 74 (fun _ => False) W a w [(2, script.v), (6, .pointer (some ⟨b4, 0, none⟩)), (7, .pointer (some ⟨g8, 0, none⟩)), (8, .int .i64 ((n : Nat) : Int)), (9, .int .i64 ((nx : Nat) : Int)), (10, .int .i64 0)] [.blk g8 125 [code.v, words.v, .int .i64 ((Lk : Nat) : Int), .int .i64 ((R : Nat) : Int), .int .i64 mode, vt8, uw.v, uo.v, up.v, .bool false], .own 147 (⟨vt8, rows.map ThL.toV⟩ : Ls ThV), .big (rowsA 3 210 rows), .own 3 uw, .own 3 uo, .own 3 up, .blk b4 49 [(.slice none 0 0), .int .i64 0, (.slice none 0 0), .int .i64 0], .blk b3 25 [code.v, words.v, .int .i64 ((Lk : Nat) : Int), .int .i64 ((R : Nat) : Int)], .at_ code, .at_ words, .at_ script] ∧ m = 5000 - n) ⟨_, 0, 0, rows8, uw8, uo8, up8, (by omega), (by omega), (hgo0), h15.nrm ⟨rfl, rfl, rfl, rfl, rfl, rfl, trivial⟩ [0, 1, 2, 3, 4, 5, 6, 7, 8, 9, 10] (by decide) ⟨rfl, rfl, rfl, rfl, rfl, rfl, rfl, rfl, rfl, rfl, rfl, trivial⟩, rfl⟩ ?_; clear h13
 clear h15
 rintro m17 a17 w17 ⟨n, nx, rows, uw, uo, up, hn, hnx, hgo, h17, hm17⟩
 have hwx := (hgo.reach.wf hok).toX
 have hpr := hgo.pr
 change up.l.length ≤ 2 * n at hpr
 refine wp_block <| wp_seq_k fun K18 hK18 => wp_region_lit <| wms 1 h17 rfl fun a19 h19 => wl_ex (x_call h19 bd_78 rfl rfl rfl rfl rfl (ended_c g8 code (⟨vt8, rows⟩ : Ls ThL) _ _ _ _ _ _ _ _ _ (h19.sh.blk 0 rfl) (h19.sh.at 8 rfl) (h19.sh.thrAt 1 2 rfl rfl) hcl hwx.thl (fun t ht => (hwx.pc t ht).1))) (wanted_none rfl _) ?_; clear h17
 rintro a20 w20 ⟨_, ⟨hv20, hs20⟩, hf20⟩
 rw [ended_eq (words := words) (Lk := Lk) (R := R) (x := (⟨g8, 125, [code.v, words.v, .int .i64 ((Lk : Nat) : Int), .int .i64 ((R : Nat) : Int), .int .i64 mode], ⟨vt8, rows⟩, uw, uo, up, false⟩ : SD)) hwx.thl] at hv20
 subst hv20
 have h20 : St 74 (fun _ => False) W a20 w20 _ _ := ⟨hf20, h19.sh.call0 hs20⟩
 clear hf20 hs20
 clear h19
 refine wms 1 h20 rfl fun a21 h21 => wpList_nil <| hK18 _ _ <| wp_seq_k fun K22 hK22 => wp_seq_k fun K23 hK23 => wp_region_lit <| wms 1 h21 rfl fun a24 h24 => wpList_nil <| hK23 _ _ <| x_cond h24 rfl (fun hb25 => ?_) (fun hb25 => ?_); clear h20 h21
 ·skip
  have hT := goI_ended hgo hb25
  refine wp_exit <| hK16 _ _ <| wp_seq_k fun K26 hK26 => x_tail 11 [] (by kernel_rfl) (by kernel_rfl) h24 fun Z27 hZ27 => ?_
  have hq27 := h24.fr
  refine wq_val hq27 (r_move rfl rfl) (wanted_none rfl _) rfl rfl fun a28 hq28 => wq_val hq28 (r_nil rfl rfl) (wanted_none rfl _) rfl rfl fun a29 hq29 => wq_val hq29 (r_fieldB (r := 8) fl_125_5 rfl rfl rfl) (wanted_none rfl _) rfl rfl fun a30 hq30 => wq_val hq30 (r_ldb (i := 0) ti_23 rfl rfl rfl rfl) (wanted_none rfl _) rfl rfl fun a31 hq31 => wq_val hq31 (r_move rfl rfl) (wanted_none rfl _) rfl rfl fun a32 hq32 => wq_val hq32 (r_move rfl rfl) (wanted_none rfl _) rfl rfl fun a33 hq33 => wq_val hq33 (r_nil rfl rfl) (wanted_none rfl _) rfl rfl fun a34 hq34 => wq_val hq34 (r_fieldB (r := 6) fl_125_3 rfl rfl rfl) (wanted_none rfl _) rfl rfl fun a35 hq35 => wq_val hq35 (r_ldb (i := 0) ti_23 rfl rfl rfl rfl) (wanted_none rfl _) rfl rfl fun a36 hq36 => wq_val hq36 (r_move rfl rfl) (wanted_none rfl _) rfl rfl fun a37 hq37 => wq_val hq37 (r_build (cs := [up.v, .int .i64 0, uw.v, .int .i64 ((n : Nat) : Int)]) rfl rfl (by obtain ⟨A39, n39, c39, (e39 : uw.v = _)⟩ := ((h24.sh.own 3 rfl)).form; rw [e39]; obtain ⟨A38, n38, c38, (e38 : up.v = _)⟩ := ((h24.sh.own 5 rfl)).form; rw [e38]; kernel_rfl)) (wanted_none rfl _) rfl rfl fun a40 hq40 => wpQuiet_nil (hZ27 _ fun w41 hw41 => ?_); clear hq27 hq28 hq29 hq30 hq31 hq32 hq33 hq34 hq35 hq36 hq37
  have h41 : St 74 (fun _ => False) W a40 w41 _ _ := ⟨hq40, hw41⟩
  clear hq40 hw41 h24
  refine wl_ex (x_stb (i := 6) (vs := [up.v, .int .i64 0, uw.v, .int .i64 ((n : Nat) : Int)]) (cs' := [up.v, .int .i64 0, uw.v, .int .i64 ((n : Nat) : Int)]) h41 ti_49 rfl rfl rfl rfl rfl rfl rfl (allOne_cons ((h41.sh.own 5 rfl)).one (allOne_cons rfl (allOne_cons ((h41.sh.own 3 rfl)).one (allOne_cons rfl allOne_nil)))) (Nat.le_of_ble_eq_true rfl) rfl) (wanted_none rfl _) ?_
  rintro a42 w42 h42
  clear h41
  refine wpList_nil <| hK26 _ _ <| wp_ret ?_
  try simp only [Exit.then, Exit.inBlock]
  refine x_ret1c (fn := Try.f33) (t := 6) (i := 6) ti_49 rfl h42 rfl rfl rfl ?_
  exact ⟨up, uw, _, _, rfl, hT, (h42.sh.sel (L' := [.own 3 up, .own 3 uw]) [5, 3] (by decide) ⟨rfl, rfl, trivial⟩)⟩
 refine wp_skip <| hK22 _ _ <| wp_seq_k fun K43 hK43 => wp_region_lit <| wms 1 h24 rfl fun a44 h44 => wl_ex (x_call h44 bd_79 rfl rfl rfl rfl rfl (moves_c g8 code (⟨vt8, rows⟩ : Ls ThL) uo _ _ _ _ _ _ _ _ (h44.sh.blk 0 rfl) (h44.sh.at 8 rfl) (h44.sh.thrAt 1 2 rfl rfl) (h44.sh.own 4 rfl) hcl hwx.thl (fun t ht => (hwx.pc t ht).1) (fun t ht i hi h17 => by have h9 := lock_N hok ht hi h17; have h8 := hwx.owner; change uo.l.length = Lk at h8; rw [h8]; exact h9) (fun t ht => hwx.wait t (by rw [hwx.thl]; exact ht)))) (wanted_none rfl _) ?_; clear h24
 rintro a45 w45 ⟨_, ⟨ml, rfl, hml, hs45⟩, hf45⟩
 have hmv : ml.l = moves (pgN code words Lk R) mode (⟨g8, 125, [code.v, words.v, .int .i64 ((Lk : Nat) : Int), .int .i64 ((R : Nat) : Int), .int .i64 mode], ⟨vt8, rows⟩, uw, uo, up, false⟩ : SD).st := hml.trans (moves_eq (x := (⟨g8, 125, [code.v, words.v, .int .i64 ((Lk : Nat) : Int), .int .i64 ((R : Nat) : Int), .int .i64 mode], ⟨vt8, rows⟩, uw, uo, up, false⟩ : SD)) hwx.thl)
 have hmvl : ml.l.length ≤ 16 := by rw [hmv]; exact moves_len hwx.thl hcl hwx.wait
 have h45 := (⟨hf45, h44.sh.call hs45 (by intro A hA b hb; simp only [List.mem_cons, List.not_mem_nil, or_false] at hA; first | (subst hA; exact Flat.noRd hb) | (rcases hA with rfl | rfl | rfl | rfl | rfl | rfl <;> first | exact (hb : False).elim | exact Flat.noRd hb | exact bigNoRdR hb))⟩ : St 74 (fun _ => False) W a45 w45 _ _)
 clear hf45 hs45
 clear h44
 refine wms 1 h45 rfl fun a46 h46 => wpList_nil <| hK43 _ _ <| wp_seq_k fun K47 hK47 => wp_seq_k fun K48 hK48 => wp_region_lit <| wms 1 h46 rfl fun a49 h49 => ?_; clear h45 h46
 have hl50 : ml.l.length ≤ 140737488355328 := (h49.sh.own 0 rfl).len
 refine wv h49 (r_len (s := ml) (n := ml.l.length) sl_23 rfl rfl (fun w h => (h.own 0 rfl)) rfl) rfl rfl fun a51 h51 => wv h51 (r_eqlN (p := ml.l.length) (q := 0) rfl rfl rfl) rfl rfl fun a52 h52 => wpList_nil <| hK48 _ _ <| x_cond h52 rfl (fun hb53 => ?_) (fun hb53 => ?_); clear h49 h51
 ·have hp53 : ml.l.length = 0 := of_decide_eq_true hb53
  have hT := goI_stuck hgo hb25 (by rw [← hmv]; omega)
  refine wp_seq_k fun K54 hK54 => wp_region_lit <| wms 1 h52 rfl fun a55 h55 => wpList_nil <| hK54 _ _ <| wp_exit <| hK16 _ _ <| wp_seq_k fun K56 hK56 => x_tail 11 [] (by kernel_rfl) (by kernel_rfl) h55 fun Z57 hZ57 => ?_; clear h52
  have hq57 := h55.fr
  refine wq_val hq57 (r_move rfl rfl) (wanted_none rfl _) rfl rfl fun a58 hq58 => wq_val hq58 (r_nil rfl rfl) (wanted_none rfl _) rfl rfl fun a59 hq59 => wq_val hq59 (r_fieldB (r := 8) fl_125_5 rfl rfl rfl) (wanted_none rfl _) rfl rfl fun a60 hq60 => wq_val hq60 (r_ldb (i := 1) ti_23 rfl rfl rfl rfl) (wanted_none rfl _) rfl rfl fun a61 hq61 => wq_val hq61 (r_move rfl rfl) (wanted_none rfl _) rfl rfl fun a62 hq62 => wq_val hq62 (r_move rfl rfl) (wanted_none rfl _) rfl rfl fun a63 hq63 => wq_val hq63 (r_nil rfl rfl) (wanted_none rfl _) rfl rfl fun a64 hq64 => wq_val hq64 (r_fieldB (r := 6) fl_125_3 rfl rfl rfl) (wanted_none rfl _) rfl rfl fun a65 hq65 => wq_val hq65 (r_ldb (i := 1) ti_23 rfl rfl rfl rfl) (wanted_none rfl _) rfl rfl fun a66 hq66 => wq_val hq66 (r_move rfl rfl) (wanted_none rfl _) rfl rfl fun a67 hq67 => wq_val hq67 (r_build (cs := [up.v, .int .i64 2, uw.v, .int .i64 ((n : Nat) : Int)]) rfl rfl (by obtain ⟨A69, n69, c69, (e69 : uw.v = _)⟩ := ((h55.sh.own 4 rfl)).form; rw [e69]; obtain ⟨A68, n68, c68, (e68 : up.v = _)⟩ := ((h55.sh.own 6 rfl)).form; rw [e68]; kernel_rfl)) (wanted_none rfl _) rfl rfl fun a70 hq70 => wpQuiet_nil (hZ57 _ fun w71 hw71 => ?_); clear hq57 hq58 hq59 hq60 hq61 hq62 hq63 hq64 hq65 hq66 hq67
  have h71 : St 74 (fun _ => False) W a70 w71 _ _ := ⟨hq70, hw71⟩
  clear hq70 hw71 h55
  refine wl_ex (x_stb (i := 7) (vs := [up.v, .int .i64 2, uw.v, .int .i64 ((n : Nat) : Int)]) (cs' := [up.v, .int .i64 2, uw.v, .int .i64 ((n : Nat) : Int)]) h71 ti_49 rfl rfl rfl rfl rfl rfl rfl (allOne_cons ((h71.sh.own 6 rfl)).one (allOne_cons rfl (allOne_cons ((h71.sh.own 4 rfl)).one (allOne_cons rfl allOne_nil)))) (Nat.le_of_ble_eq_true rfl) rfl) (wanted_none rfl _) ?_
  rintro a72 w72 h72
  clear h71
  refine wpList_nil <| hK56 _ _ ?_
  have h73 : St 74 (fun _ => False) W a72 w72 [(6, .pointer (some ⟨b4, 0, none⟩))] [.own 3 ml, .blk g8 125 [code.v, words.v, .int .i64 ((Lk : Nat) : Int), .int .i64 ((R : Nat) : Int), .int .i64 mode, vt8, uw.v, uo.v, up.v, .bool false], .own 147 (⟨vt8, rows.map ThL.toV⟩ : Ls ThV), .big (rowsA 3 210 rows), .own 3 uw, .own 3 uo, .own 3 up, .blk b4 49 [up.v, .int .i64 2, uw.v, .int .i64 ((n : Nat) : Int)], .blk b3 25 [code.v, words.v, .int .i64 ((Lk : Nat) : Int), .int .i64 ((R : Nat) : Int)], .at_ code, .at_ words, .at_ script] := h72.nrm ⟨rfl, trivial⟩ [0, 1, 2, 3, 4, 5, 6, 7, 8, 9, 10, 11] (by decide) ⟨rfl, rfl, rfl, rfl, rfl, rfl, rfl, rfl, rfl, rfl, rfl, rfl, trivial⟩
  clear h72
  refine wp_ret ?_
  try simp only [Exit.then, Exit.inBlock]
  refine x_ret1c (fn := Try.f33) (t := 6) (i := 7) ti_49 rfl h73 rfl rfl rfl ?_
  exact ⟨up, uw, _, _, rfl, hT, (h73.sh.sel (L' := [.own 3 up, .own 3 uw]) [6, 4] (by decide) ⟨rfl, rfl, trivial⟩)⟩
 have hp53 : ¬ (ml.l.length = 0) := of_decide_eq_false hb53
 refine wp_skip <| hK47 _ _ <| wp_seq_k fun K74 hK74 => wp_seq_k fun K75 hK75 => wp_region_lit <| wms 1 h52 rfl fun a76 h76 => wv h76 (r_eqlN (p := n) (q := 5000) rfl rfl rfl) rfl rfl fun a77 h77 => wpList_nil <| hK75 _ _ <| x_cond h77 rfl (fun hb78 => ?_) (fun hb78 => ?_); clear h52 h76
 ·have hp78 : n = 5000 := of_decide_eq_true hb78
  have hT := goI_out hgo hb25 (by rw [← hmv]; omega) (by omega)
  refine wp_seq_k fun K79 hK79 => wp_region_lit <| wms 1 h77 rfl fun a80 h80 => wpList_nil <| hK79 _ _ <| wp_exit <| hK16 _ _ <| wp_seq_k fun K81 hK81 => x_tail 11 [] (by kernel_rfl) (by kernel_rfl) h80 fun Z82 hZ82 => ?_; clear h77
  have hq82 := h80.fr
  refine wq_val hq82 (r_move rfl rfl) (wanted_none rfl _) rfl rfl fun a83 hq83 => wq_val hq83 (r_nil rfl rfl) (wanted_none rfl _) rfl rfl fun a84 hq84 => wq_val hq84 (r_fieldB (r := 8) fl_125_5 rfl rfl rfl) (wanted_none rfl _) rfl rfl fun a85 hq85 => wq_val hq85 (r_ldb (i := 1) ti_23 rfl rfl rfl rfl) (wanted_none rfl _) rfl rfl fun a86 hq86 => wq_val hq86 (r_move rfl rfl) (wanted_none rfl _) rfl rfl fun a87 hq87 => wq_val hq87 (r_move rfl rfl) (wanted_none rfl _) rfl rfl fun a88 hq88 => wq_val hq88 (r_nil rfl rfl) (wanted_none rfl _) rfl rfl fun a89 hq89 => wq_val hq89 (r_fieldB (r := 6) fl_125_3 rfl rfl rfl) (wanted_none rfl _) rfl rfl fun a90 hq90 => wq_val hq90 (r_ldb (i := 1) ti_23 rfl rfl rfl rfl) (wanted_none rfl _) rfl rfl fun a91 hq91 => wq_val hq91 (r_move rfl rfl) (wanted_none rfl _) rfl rfl fun a92 hq92 => wq_val hq92 (r_build (cs := [up.v, .int .i64 3, uw.v, .int .i64 ((n : Nat) : Int)]) rfl rfl (by obtain ⟨A94, n94, c94, (e94 : uw.v = _)⟩ := ((h80.sh.own 4 rfl)).form; rw [e94]; obtain ⟨A93, n93, c93, (e93 : up.v = _)⟩ := ((h80.sh.own 6 rfl)).form; rw [e93]; kernel_rfl)) (wanted_none rfl _) rfl rfl fun a95 hq95 => wpQuiet_nil (hZ82 _ fun w96 hw96 => ?_); clear hq82 hq83 hq84 hq85 hq86 hq87 hq88 hq89 hq90 hq91 hq92
  have h96 : St 74 (fun _ => False) W a95 w96 _ _ := ⟨hq95, hw96⟩
  clear hq95 hw96 h80
  refine wl_ex (x_stb (i := 7) (vs := [up.v, .int .i64 3, uw.v, .int .i64 ((n : Nat) : Int)]) (cs' := [up.v, .int .i64 3, uw.v, .int .i64 ((n : Nat) : Int)]) h96 ti_49 rfl rfl rfl rfl rfl rfl rfl (allOne_cons ((h96.sh.own 6 rfl)).one (allOne_cons rfl (allOne_cons ((h96.sh.own 4 rfl)).one (allOne_cons rfl allOne_nil)))) (Nat.le_of_ble_eq_true rfl) rfl) (wanted_none rfl _) ?_
  rintro a97 w97 h97
  clear h96
  refine wpList_nil <| hK81 _ _ ?_
  have h98 : St 74 (fun _ => False) W a97 w97 [(6, .pointer (some ⟨b4, 0, none⟩))] [.own 3 ml, .blk g8 125 [code.v, words.v, .int .i64 ((Lk : Nat) : Int), .int .i64 ((R : Nat) : Int), .int .i64 mode, vt8, uw.v, uo.v, up.v, .bool false], .own 147 (⟨vt8, rows.map ThL.toV⟩ : Ls ThV), .big (rowsA 3 210 rows), .own 3 uw, .own 3 uo, .own 3 up, .blk b4 49 [up.v, .int .i64 3, uw.v, .int .i64 ((n : Nat) : Int)], .blk b3 25 [code.v, words.v, .int .i64 ((Lk : Nat) : Int), .int .i64 ((R : Nat) : Int)], .at_ code, .at_ words, .at_ script] := h97.nrm ⟨rfl, trivial⟩ [0, 1, 2, 3, 4, 5, 6, 7, 8, 9, 10, 11] (by decide) ⟨rfl, rfl, rfl, rfl, rfl, rfl, rfl, rfl, rfl, rfl, rfl, rfl, trivial⟩
  clear h97
  refine wp_ret ?_
  try simp only [Exit.then, Exit.inBlock]
  refine x_ret1c (fn := Try.f33) (t := 6) (i := 7) ti_49 rfl h98 rfl rfl rfl ?_
  exact ⟨up, uw, _, _, rfl, hT, (h98.sh.sel (L' := [.own 3 up, .own 3 uw]) [6, 4] (by decide) ⟨rfl, rfl, trivial⟩)⟩
 have hp78 : ¬ (n = 5000) := of_decide_eq_false hb78
 refine wp_skip <| hK74 _ _ <| wp_seq_k fun K99 hK99 => wp_region_lit <| wms 1 h77 rfl fun a100 h100 => wpList_nil <| hK99 _ _ <| x_seq (fun a w => ∃ (kk nx2 : Nat), (kk = pickM script.l nx ml.l.length) ∧ (nx2 = nextM script.l nx ml.l.length) ∧ (nx2 ≤ n + 1) ∧ St 74 (fun _ => False) W a w [(2, script.v), (6, .pointer (some ⟨b4, 0, none⟩)), (7, .pointer (some ⟨g8, 0, none⟩)), (8, .int .i64 ((n : Nat) : Int)), (9, .int .i64 ((nx2 : Nat) : Int)), (10, .int .i64 0), (12, ml.v), (13, .int .i64 ((kk : Nat) : Int))] [.own 3 ml, .blk g8 125 [code.v, words.v, .int .i64 ((Lk : Nat) : Int), .int .i64 ((R : Nat) : Int), .int .i64 mode, vt8, uw.v, uo.v, up.v, .bool false], .own 147 (⟨vt8, rows.map ThL.toV⟩ : Ls ThV), .big (rowsA 3 210 rows), .own 3 uw, .own 3 uo, .own 3 up, .blk b4 49 [(.slice none 0 0), .int .i64 0, (.slice none 0 0), .int .i64 0], .blk b3 25 [code.v, words.v, .int .i64 ((Lk : Nat) : Int), .int .i64 ((R : Nat) : Int)], .at_ code, .at_ words, .at_ script]) ?_ ?_; clear h77
 ·refine wp_seq_k fun K101 hK101 => ?_
  refine wp_region_lit <| wms 1 h100 rfl fun a102 h102 => wv h102 (r_len (s := ml) (n := ml.l.length) sl_23 rfl rfl (fun w h => (h.own 0 rfl)) rfl) rfl rfl fun a103 h103 => wv h103 (r_gtrN (p := ml.l.length) (q := 1) rfl rfl rfl) rfl rfl fun a104 h104 => wms 1 h104 rfl fun a105 h105 => ?_; clear h100 h102 h103 h104
  rcases Bool.eq_false_or_eq_true (decide (1 < ml.l.length)) with hb106 | hb106
  ·have hp106 : 1 < ml.l.length := of_decide_eq_true hb106
   refine wl_val h105 (r_move rfl rfl) (wanted_yes h105.fr rfl rfl rfl rfl hb106) rfl rfl fun a107 h107 => wl_val h107 (r_move rfl rfl) (wanted_yes h107.fr rfl rfl rfl rfl hb106) rfl rfl fun a108 h108 => ?_; clear h105 h107
   have hl109 : script.l.length ≤ 140737488355328 := (h108.sh.at 11 rfl).len
   refine wl_val h108 (r_len (s := script) (n := script.l.length) sl_23 rfl rfl (fun w h => (h.at 11 rfl)) rfl) (wanted_yes h108.fr rfl rfl rfl rfl hb106) rfl rfl fun a110 h110 => wl_val h110 (r_lssN (p := nx) (q := script.l.length) rfl rfl rfl) (wanted_yes h110.fr rfl rfl rfl rfl hb106) rfl rfl fun a111 h111 => wv h111 (r_pickT rfl rfl hb106 rfl) rfl rfl fun a112 h112 => wpList_nil <| hK101 _ _ <| x_cond h112 rfl (fun hb113 => ?_) (fun hb113 => ?_); clear h108 h110 h111
   ·have hp113 : nx < script.l.length := of_decide_eq_true hb113
    have htm := tmod_in (nth script.l nx) (q := ml.l.length) (by omega)
    have hpo := pick_of (script := script.l) (nx := nx) (l := ml.l.length) (by omega) (by omega)
    have htp := tmod_pick (z := nth script.l nx) (q := ml.l.length) (by omega)
    have htp1 := htp.1
    have htp2 := htp.2.1
    have hpo1 := hpo.1
    refine wp_seq_k fun K114 hK114 => wp_region_lit <| wms 2 h112 rfl fun a115 h115 => wv h115 (r_ixN (s := script) (q := nx) sl_23 ti_3 rfl rfl rfl (fun w h => (h.at 11 rfl)) (show nx < script.l.length from (by omega))) rfl rfl fun a116 h116 => wv h116 (r_lde (s := script) (i := nx) (v := .int .i64 (nth script.l nx)) ti_3 rfl rfl rfl (fun w h => (h.at 11 rfl)) (show nx < script.l.length from (by omega)) (Nat.le_of_ble_eq_true rfl) rfl) rfl rfl fun a117 h117 => wms 1 h117 rfl fun a118 h118 => wv h118 (r_len (s := ml) (n := ml.l.length) sl_23 rfl rfl (fun w h => (h.own 0 rfl)) rfl) rfl rfl fun a119 h119 => wv h119 (r_remI (p := nth script.l nx) (q := ml.l.length) rfl rfl rfl (show 0 < ml.l.length ∧ ml.l.length < 9223372036854775808 from (by omega))) rfl rfl fun a120 h120 => wms 1 h120 rfl fun a121 h121 => wpList_nil <| hK114 _ _ ?_; clear h112 h115 h116 h117 h118 h119 h120
    have h122 : St 74 (fun _ => False) W a121 w45 [(2, script.v), (6, .pointer (some ⟨b4, 0, none⟩)), (7, .pointer (some ⟨g8, 0, none⟩)), (8, .int .i64 ((n : Nat) : Int)), (9, .int .i64 ((nx : Nat) : Int)), (10, .int .i64 0), (12, ml.v), (13, .int .i64 (Int.tmod (nth script.l nx) ((ml.l.length : Nat) : Int)))] [.own 3 ml, .blk g8 125 [code.v, words.v, .int .i64 ((Lk : Nat) : Int), .int .i64 ((R : Nat) : Int), .int .i64 mode, vt8, uw.v, uo.v, up.v, .bool false], .own 147 (⟨vt8, rows.map ThL.toV⟩ : Ls ThV), .big (rowsA 3 210 rows), .own 3 uw, .own 3 uo, .own 3 up, .blk b4 49 [(.slice none 0 0), .int .i64 0, (.slice none 0 0), .int .i64 0], .blk b3 25 [code.v, words.v, .int .i64 ((Lk : Nat) : Int), .int .i64 ((R : Nat) : Int)], .at_ code, .at_ words, .at_ script] := h121.nrm ⟨rfl, rfl, rfl, rfl, rfl, rfl, rfl, rfl, trivial⟩ [0, 1, 2, 3, 4, 5, 6, 7, 8, 9, 10, 11] (by decide) ⟨rfl, rfl, rfl, rfl, rfl, rfl, rfl, rfl, rfl, rfl, rfl, rfl, trivial⟩
    clear h121
    refine wp_seq_k fun K123 hK123 => wp_seq_k fun K124 hK124 => wp_region_lit <| wms 1 h122 rfl fun a125 h125 => wv h125 (r_lssI (p := Int.tmod (nth script.l nx) ((ml.l.length : Nat) : Int)) (q := 0) rfl rfl rfl) rfl rfl fun a126 h126 => wpList_nil <| hK124 _ _ <| x_cond h126 rfl (fun hb127 => ?_) (fun hb127 => ?_); clear h122 h125
    ·have hp127 : Int.tmod (nth script.l nx) ((ml.l.length : Nat) : Int) < 0 := of_decide_eq_true hb127
     refine wp_region_lit <| wms 2 h126 rfl fun a128 h128 => wv h128 (r_len (s := ml) (n := ml.l.length) sl_23 rfl rfl (fun w h => (h.own 0 rfl)) rfl) rfl rfl fun a129 h129 => wv h129 (r_addI (p := Int.tmod (nth script.l nx) ((ml.l.length : Nat) : Int)) (q := ((ml.l.length : Nat) : Int)) rfl rfl rfl (show -9223372036854775808 ≤ (Int.tmod (nth script.l nx) ((ml.l.length : Nat) : Int)) + ((ml.l.length : Nat) : Int) ∧ (Int.tmod (nth script.l nx) ((ml.l.length : Nat) : Int)) + ((ml.l.length : Nat) : Int) < 9223372036854775808 from (by omega))) rfl rfl fun a130 h130 => wms 1 h130 rfl fun a131 h131 => wpList_nil <| hK123 _ _ <| wp_region_lit <| wms 1 h131 rfl fun a132 h132 => wv h132 (r_addN (p := nx) (q := 1) rfl rfl rfl (show nx + 1 < 9223372036854775808 from (by omega))) rfl rfl fun a133 h133 => wms 1 h133 rfl fun a134 h134 => wpList_nil ?_; clear h126 h128 h129 h130 h131 h132 h133
     have h135 := h134.cast (d := 13) (e := (Int.tmod (nth script.l nx) ((ml.l.length : Nat) : Int)) + ((ml.l.length : Nat) : Int)) rfl (show 0 ≤ (Int.tmod (nth script.l nx) ((ml.l.length : Nat) : Int)) + ((ml.l.length : Nat) : Int) from (by omega))
     clear h134
     refine x_join ⟨((Int.tmod (nth script.l nx) ((ml.l.length : Nat) : Int)) + ((ml.l.length : Nat) : Int)).toNat, nx + 1, ?_, ?_, ?_, h135.nrm ⟨rfl, rfl, rfl, rfl, rfl, rfl, rfl, rfl, trivial⟩ [0, 1, 2, 3, 4, 5, 6, 7, 8, 9, 10, 11] (by decide) ⟨rfl, rfl, rfl, rfl, rfl, rfl, rfl, rfl, rfl, rfl, rfl, rfl, trivial⟩⟩
     · first | exact (pick_no (by omega)).1.symm | omega
     · first | exact (pick_no (by omega)).2.symm | exact hpo.2.symm
     · omega
    have hp127 : ¬ (Int.tmod (nth script.l nx) ((ml.l.length : Nat) : Int) < 0) := of_decide_eq_false hb127
    refine wp_skip <| hK123 _ _ <| wp_region_lit <| wms 1 h126 rfl fun a136 h136 => wv h136 (r_addN (p := nx) (q := 1) rfl rfl rfl (show nx + 1 < 9223372036854775808 from (by omega))) rfl rfl fun a137 h137 => wms 1 h137 rfl fun a138 h138 => wpList_nil ?_; clear h126 h136 h137
    have h139 := h138.cast (d := 13) (e := Int.tmod (nth script.l nx) ((ml.l.length : Nat) : Int)) rfl (show 0 ≤ Int.tmod (nth script.l nx) ((ml.l.length : Nat) : Int) from (by omega))
    clear h138
    refine x_join ⟨(Int.tmod (nth script.l nx) ((ml.l.length : Nat) : Int)).toNat, nx + 1, ?_, ?_, ?_, h139.nrm ⟨rfl, rfl, rfl, rfl, rfl, rfl, rfl, rfl, trivial⟩ [0, 1, 2, 3, 4, 5, 6, 7, 8, 9, 10, 11] (by decide) ⟨rfl, rfl, rfl, rfl, rfl, rfl, rfl, rfl, rfl, rfl, rfl, rfl, trivial⟩⟩
    · first | exact (pick_no (by omega)).1.symm | omega
    · first | exact (pick_no (by omega)).2.symm | exact hpo.2.symm
    · omega
   have hp113 : ¬ (nx < script.l.length) := of_decide_eq_false hb113
   refine wp_skip <| x_join ⟨0, nx, ?_, ?_, ?_, h112.nrm ⟨rfl, rfl, rfl, rfl, rfl, rfl, rfl, rfl, trivial⟩ [0, 1, 2, 3, 4, 5, 6, 7, 8, 9, 10, 11] (by decide) ⟨rfl, rfl, rfl, rfl, rfl, rfl, rfl, rfl, rfl, rfl, rfl, rfl, trivial⟩⟩
   · first | exact (pick_no (by omega)).1.symm | omega
   · first | exact (pick_no (by omega)).2.symm | exact hpo.2.symm
   · omega
  have hp106 : ¬ (1 < ml.l.length) := of_decide_eq_false hb106
  refine wl_skip h105 (wanted_no h105.fr rfl rfl rfl rfl hb106) rfl rfl fun a140 h140 => wl_skip h140 (wanted_no h140.fr rfl rfl rfl rfl hb106) rfl rfl fun a141 h141 => wl_skip h141 (wanted_no h141.fr rfl rfl rfl rfl hb106) rfl rfl fun a142 h142 => wl_skip h142 (wanted_no h142.fr rfl rfl rfl rfl hb106) rfl rfl fun a143 h143 => wv h143 (r_pickF rfl rfl hb106 rfl) rfl rfl fun a144 h144 => wpList_nil <| hK101 _ _ <| x_condF h144 rfl rfl <| wp_skip <| x_join ⟨0, nx, ?_, ?_, ?_, h144.nrm ⟨rfl, rfl, rfl, rfl, rfl, rfl, rfl, rfl, trivial⟩ [0, 1, 2, 3, 4, 5, 6, 7, 8, 9, 10, 11] (by decide) ⟨rfl, rfl, rfl, rfl, rfl, rfl, rfl, rfl, rfl, rfl, rfl, rfl, trivial⟩⟩; clear h105 h140 h141 h142 h143
  · first | exact (pick_no (by omega)).1.symm | omega
  · first | exact (pick_no (by omega)).2.symm | exact hpo.2.symm
  · omega
 clear h100
 rintro a145 w145 ⟨kk, nx2, hkk, hnx2, hnx3, h145⟩
 have hkl : kk < ml.l.length := by rw [hkk]; exact pick_lt _ _ (by omega)
 obtain ⟨t, j, htt, hkk2, hj8, hjw, hmt, hmm⟩ := goS_pick hgo hwx.thl hmv (by omega) (fun t ht => hwx.wait t (by rw [hwx.thl]; exact ht))
 rw [← hkk] at hmt
 have htr : t < rows.length := by have h9 := hwx.thl; change rows.length = _ at h9; omega
 have hkk : mvOK mode (nth code.l t).l ⟨(nth rows t).pc, (nth rows t).regs.l, (nth rows t).wait.l, uw.l, uo.l, up.l, false⟩ j = true := hkk2
 have hreg : (nth rows t).regs.l.length = R := hwx.regs t htr
 have hwlen : uw.l.length = words.l.length := hwx.words
 have holen : uo.l.length = Lk := hwx.owner
 refine wp_seq_k fun K146 hK146 => wp_region_lit <| wms 3 h145 rfl fun a147 h147 => wv h147 (r_ixN (s := ml) (q := kk) sl_23 ti_3 rfl rfl rfl (fun w h => (h.own 0 rfl)) (show kk < ml.l.length from (by omega))) rfl rfl fun a148 h148 => wv h148 (r_lde (s := ml) (i := kk) (v := .int .i64 (nth ml.l kk)) ti_3 rfl rfl rfl (fun w h => (h.own 0 rfl)) (show kk < ml.l.length from (by omega)) (Nat.le_of_ble_eq_true rfl) rfl) rfl rfl fun a149 h149 => ?_; clear h145 h147 h148
 have h150 := h149.same (d := 55) (v' := .int .i64 ((8 * t + j : Nat) : Int)) rfl (by rw [hmt])
 clear h149
 have h151 := h150.sel (L' := [.blk g8 125 [code.v, words.v, .int .i64 ((Lk : Nat) : Int), .int .i64 ((R : Nat) : Int), .int .i64 mode, vt8, uw.v, uo.v, up.v, .bool false], .own 147 (⟨vt8, rows.map ThL.toV⟩ : Ls ThV), .big (rowsA 3 210 rows), .own 3 uw, .own 3 uo, .own 3 up, .at_ code, .own 3 ml, .blk b4 49 [(.slice none 0 0), .int .i64 0, (.slice none 0 0), .int .i64 0], .blk b3 25 [code.v, words.v, .int .i64 ((Lk : Nat) : Int), .int .i64 ((R : Nat) : Int)], .at_ words, .at_ script]) [1, 2, 3, 4, 5, 6, 9, 0, 7, 8, 10, 11] (by decide) ⟨rfl, rfl, rfl, rfl, rfl, rfl, rfl, rfl, rfl, rfl, rfl, rfl, trivial⟩
 have hp152 := h151.sh.passL (Lp := [.blk g8 125 [code.v, words.v, .int .i64 ((Lk : Nat) : Int), .int .i64 ((R : Nat) : Int), .int .i64 mode, vt8, uw.v, uo.v, up.v, .bool false], .own 147 (⟨vt8, rows.map ThL.toV⟩ : Ls ThV), .big (rowsA 3 210 rows), .own 3 uw, .own 3 uo, .own 3 up, .at_ code])
 refine wl_ex (x_call h151 bd_80 rfl rfl rfl rfl rfl (do_tkR _ g8 (8 * t + j) t j code vt8 rows uw uo up _ _ _ mode false _ hp152 (by omega) (by omega) htr htt (by omega) (by have h9 := hwx.pc t htt; change 0 ≤ (nth rows t).pc ∧ (nth rows t).pc ≤ _ at h9; have h8 := hcln t htt; omega) (hwx.wait t (by rw [hwx.thl]; exact htt)) hjw (by omega) (by have h9 := hwx.owner; change uo.l.length = Lk at h9; omega) (hwx.wt t (by rw [hwx.thl]; exact htt)) (fun hj0 => by rw [hreg, hwlen, holen]; exact insR_N hok htt (hwx.pc t htt).1 (by rcases mvOK_k hkk with ⟨_, h9, _⟩ | ⟨h9, _⟩; exact h9; omega)))) (wanted_none rfl _) ?_
 rintro a153 w153 ⟨_, ⟨rfl, rows153, uw153, uo153, up153, f153w, y153, hy153, hyr153, hyw153, hyo153, hyp153, hyf153, hs153⟩, hf153⟩
 change Sh _ _ _ [.blk g8 125 [code.v, words.v, .int .i64 ((Lk : Nat) : Int), .int .i64 ((R : Nat) : Int), .int .i64 mode, vt8, uw153.v, uo153.v, up153.v, .bool f153w], .own 147 (⟨vt8, rows153.map ThL.toV⟩ : Ls ThV), .big (rowsA 3 210 rows153), .own 3 uw153, .own 3 uo153, .own 3 up153, .at_ code] at hs153
 have h153 : St 74 (fun _ => False) W a153 w153 _ [.blk g8 125 [code.v, words.v, .int .i64 ((Lk : Nat) : Int), .int .i64 ((R : Nat) : Int), .int .i64 mode, vt8, uw153.v, uo153.v, up153.v, .bool f153w], .own 147 (⟨vt8, rows153.map ThL.toV⟩ : Ls ThV), .big (rowsA 3 210 rows153), .own 3 uw153, .own 3 uo153, .own 3 up153, .at_ code, .own 3 ml, .blk b4 49 [(.slice none 0 0), .int .i64 0, (.slice none 0 0), .int .i64 0], .blk b3 25 [code.v, words.v, .int .i64 ((Lk : Nat) : Int), .int .i64 ((R : Nat) : Int)], .at_ words, .at_ script] := ⟨hf153, h151.sh.backL (Lp := [.blk g8 125 [code.v, words.v, .int .i64 ((Lk : Nat) : Int), .int .i64 ((R : Nat) : Int), .int .i64 mode, vt8, uw.v, uo.v, up.v, .bool false], .own 147 (⟨vt8, rows.map ThL.toV⟩ : Ls ThV), .big (rowsA 3 210 rows), .own 3 uw, .own 3 uo, .own 3 up, .at_ code]) hs153 (by intro A hA b hb; simp only [List.mem_cons, List.not_mem_nil, or_false] at hA; rcases hA with rfl | rfl | rfl | rfl | rfl | rfl | rfl <;> first | exact (hb : False).elim | exact Flat.noRd hb | exact .inl ⟨_, List.mem_cons_self .., .inr hb⟩ | exact bigNoRdR hb | exact .inl ⟨_, List.mem_of_getElem? (i := 6) rfl, .inr hb⟩ | exact .inl ⟨_, by simp, .inr hb⟩)⟩
 clear hf153 hs153
 clear h151
 refine wpList_nil <| hK146 _ _ ?_
 obtain ⟨hz1, hz2⟩ := st_step (words := words) (Lk := Lk) (R := R) (z := (⟨g8, 125, [code.v, words.v, .int .i64 ((Lk : Nat) : Int), .int .i64 ((R : Nat) : Int), .int .i64 mode], ⟨vt8, rows153⟩, uw153, uo153, up153, false⟩ : SD)) (x := (⟨g8, 125, [code.v, words.v, .int .i64 ((Lk : Nat) : Int), .int .i64 ((R : Nat) : Int), .int .i64 mode], ⟨vt8, rows⟩, uw, uo, up, false⟩ : SD)) htt hwx.thl rfl rfl rfl rfl hy153
 obtain ⟨hn1, hn2⟩ := goS_next (z := (⟨g8, 125, [code.v, words.v, .int .i64 ((Lk : Nat) : Int), .int .i64 ((R : Nat) : Int), .int .i64 mode], ⟨vt8, rows153⟩, uw153, uo153, up153, false⟩ : SD)) hgo hwx.thl hb25 (congrArg List.length hmv) (by omega) (by omega) htt hj8 hkk hmm hz1 (hz2 rfl hyr153 hyw153 hyo153 hyp153)
 rw [← hyf153] at hn1 hn2
 rw [← hyw153, ← hyp153] at hn1
 rw [← hnx2] at hn2
 refine wp_seq_k fun K154 hK154 => wp_region_lit <| wms 1 h153 rfl fun a155 h155 => wv h155 (r_addN (p := n) (q := 1) rfl rfl rfl (show n + 1 < 9223372036854775808 from (by omega))) rfl rfl fun a156 h156 => wms 1 h156 rfl fun a157 h157 => wpList_nil <| hK154 _ _ <| wp_seq_k fun K158 hK158 => wp_region_lit <| wms 1 h157 rfl fun a159 h159 => wv h159 (r_nil rfl rfl) rfl rfl fun a160 h160 => wv h160 (r_fieldB (r := 9) fl_125_6 rfl rfl rfl) rfl rfl fun a161 h161 => wv h161 (r_ldb (i := 0) ti_4 rfl rfl rfl rfl) rfl rfl fun a162 h162 => wpList_nil ?_; clear h153 h155 h156 h157 h159 h160 h161
 refine hK158 _ _ <| x_cond h162 rfl (fun hb163 => ?_) (fun hb163 => ?_)
 ·skip
  have hT := hn1 hb163
  refine wp_seq_k fun K164 hK164 => wp_region_lit <| wms 1 h162 rfl fun a165 h165 => wpList_nil <| hK164 _ _ <| wp_exit <| hK16 _ _ <| wp_seq_k fun K166 hK166 => x_tail 11 [] (by kernel_rfl) (by kernel_rfl) h165 fun Z167 hZ167 => ?_; clear h162
  have hq167 := h165.fr
  refine wq_val hq167 (r_move rfl rfl) (wanted_none rfl _) rfl rfl fun a168 hq168 => wq_val hq168 (r_nil rfl rfl) (wanted_none rfl _) rfl rfl fun a169 hq169 => wq_val hq169 (r_fieldB (r := 8) fl_125_5 rfl rfl rfl) (wanted_none rfl _) rfl rfl fun a170 hq170 => wq_val hq170 (r_ldb (i := 0) ti_23 rfl rfl rfl rfl) (wanted_none rfl _) rfl rfl fun a171 hq171 => wq_val hq171 (r_move rfl rfl) (wanted_none rfl _) rfl rfl fun a172 hq172 => wq_val hq172 (r_move rfl rfl) (wanted_none rfl _) rfl rfl fun a173 hq173 => wq_val hq173 (r_nil rfl rfl) (wanted_none rfl _) rfl rfl fun a174 hq174 => wq_val hq174 (r_fieldB (r := 6) fl_125_3 rfl rfl rfl) (wanted_none rfl _) rfl rfl fun a175 hq175 => wq_val hq175 (r_ldb (i := 0) ti_23 rfl rfl rfl rfl) (wanted_none rfl _) rfl rfl fun a176 hq176 => wq_val hq176 (r_move rfl rfl) (wanted_none rfl _) rfl rfl fun a177 hq177 => wq_val hq177 (r_build (cs := [up153.v, .int .i64 1, uw153.v, .int .i64 ((n + 1 : Nat) : Int)]) rfl rfl (by obtain ⟨A179, n179, c179, (e179 : uw153.v = _)⟩ := ((h165.sh.own 3 rfl)).form; rw [e179]; obtain ⟨A178, n178, c178, (e178 : up153.v = _)⟩ := ((h165.sh.own 5 rfl)).form; rw [e178]; kernel_rfl)) (wanted_none rfl _) rfl rfl fun a180 hq180 => wpQuiet_nil (hZ167 _ fun w181 hw181 => ?_); clear hq167 hq168 hq169 hq170 hq171 hq172 hq173 hq174 hq175 hq176 hq177
  have h181 : St 74 (fun _ => False) W a180 w181 _ _ := ⟨hq180, hw181⟩
  clear hq180 hw181 h165
  refine wl_ex (x_stb (i := 8) (vs := [up153.v, .int .i64 1, uw153.v, .int .i64 ((n + 1 : Nat) : Int)]) (cs' := [up153.v, .int .i64 1, uw153.v, .int .i64 ((n + 1 : Nat) : Int)]) h181 ti_49 rfl rfl rfl rfl rfl rfl rfl (allOne_cons ((h181.sh.own 5 rfl)).one (allOne_cons rfl (allOne_cons ((h181.sh.own 3 rfl)).one (allOne_cons rfl allOne_nil)))) (Nat.le_of_ble_eq_true rfl) rfl) (wanted_none rfl _) ?_
  rintro a182 w182 h182
  clear h181
  refine wpList_nil <| hK166 _ _ ?_
  have h183 : St 74 (fun _ => False) W a182 w182 [(6, .pointer (some ⟨b4, 0, none⟩))] [.blk g8 125 [code.v, words.v, .int .i64 ((Lk : Nat) : Int), .int .i64 ((R : Nat) : Int), .int .i64 mode, vt8, uw153.v, uo153.v, up153.v, .bool f153w], .own 147 (⟨vt8, rows153.map ThL.toV⟩ : Ls ThV), .big (rowsA 3 210 rows153), .own 3 uw153, .own 3 uo153, .own 3 up153, .at_ code, .own 3 ml, .blk b4 49 [up153.v, .int .i64 1, uw153.v, .int .i64 ((n + 1 : Nat) : Int)], .blk b3 25 [code.v, words.v, .int .i64 ((Lk : Nat) : Int), .int .i64 ((R : Nat) : Int)], .at_ words, .at_ script] := h182.nrm ⟨rfl, trivial⟩ [0, 1, 2, 3, 4, 5, 6, 7, 8, 9, 10, 11] (by decide) ⟨rfl, rfl, rfl, rfl, rfl, rfl, rfl, rfl, rfl, rfl, rfl, rfl, trivial⟩
  clear h182
  refine wp_ret ?_
  try simp only [Exit.then, Exit.inBlock]
  refine x_ret1c (fn := Try.f33) (t := 6) (i := 8) ti_49 rfl h183 rfl rfl rfl ?_
  exact ⟨up153, uw153, _, _, rfl, hT, (h183.sh.sel (L' := [.own 3 up153, .own 3 uw153]) [5, 3] (by decide) ⟨rfl, rfl, trivial⟩)⟩
 have hgo9 := hn2 hb163
 rw [hb163] at h162
 refine wp_skip ?_
 change ∃ _m, _m < _ ∧ _
 refine ⟨_, ?_, (n + 1), nx2, rows153, uw153, uo153, up153, ?_, ?_, ?_, h162.nrm ⟨rfl, rfl, rfl, rfl, rfl, rfl, trivial⟩ [0, 1, 2, 3, 4, 5, 8, 9, 6, 10, 11] (by decide) ⟨rfl, rfl, rfl, rfl, rfl, rfl, rfl, rfl, rfl, rfl, rfl, trivial⟩, rfl⟩
 · rw [hm17]; first | omega | (simp only [lens9]; omega)
 · omega
 · omega
 · exact hgo9

end Go.Proofs.Ytfpaahkleienoaa
