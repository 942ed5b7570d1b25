/-
  Contracts of functions of this program and of the references, each walked once.
-/
import Derived.Test.YtfpaahkleienoaaU1
namespace Go.Proofs.Ytfpaahkleienoaa
open Go.RowKit
set_option linter.unusedSimpArgs false
set_option linter.unusedVariables false


theorem mu0 (n g : Nat) : ([0] : List Int).length + muM n ((List.replicate (n + 1) (⟨none, []⟩ : MP)).set 0 ⟨some g, []⟩) ≤ (n + 1) * (n + 2) + 1 := by
  have h := muM_set n ⟨some g, []⟩ (List.replicate (n + 1) (⟨none, []⟩ : MP)) 0 (by simp)
  rw [muM_rep] at h
  simp at h ⊢
  omega
theorem mu_le {n : Nat} (h : n ≤ 5000) : (n + 1) * (n + 2) + 1 ≤ 30000000 := by
  have := Nat.mul_le_mul (show n + 1 ≤ 5001 by omega) (show n + 2 ≤ 5002 by omega)
  omega

set_option maxRecDepth 100000 in
set_option maxHeartbeats 8000000 in
theorem look_c (x : Ls Ins) (W : World) (hx : x.At W) (hc : CodeC x.l) (hl : x.l.length ≤ 5000) :
    Rets Try.prog 52 [x.v] W (fun v w' => ∃ (u : Value) (M : List MP), u = v ∧ M.length = x.l.length + 1 ∧ (∀ i, i ≤ x.l.length → ∀ r, getZ r (nth M i).l = sameF x.l i r) ∧ Sh0 W w' [.big (mapsX 81 u M)]) := by
 have hB := mu_le hl
 refine x_enter (N := 91) Try.func52 rfl Try.ntmps52 (Nat.le_of_ble_eq_true rfl) fun a1 hf1 => ?_
 have h1 : St 91 (fun _ => False) W a1 W [(0, x.v)] [.at_ x] := ⟨hf1.sub ⟨rfl, trivial⟩, Sh0.ext1 hx⟩
 clear hf1
 refine wp_seq_k fun K2 hK2 => wp_region_lit ?_
 refine wms 1 h1 rfl fun a3 h3 => ?_; clear h1
 refine wpList_nil (hK2 _ _ ?_)
 refine wp_seq_k fun K4 hK4 => wp_region_lit ?_
 refine wms 1 h3 rfl fun a5 h5 => ?_; clear h3
 have hl6 : x.l.length ≤ 140737488355328 := (h5.sh.at 0 rfl).len
 refine wv h5 (r_len (s := x) (n := x.l.length) sl_33 rfl rfl (fun w h => (h.at 0 rfl)) rfl) rfl rfl fun a7 h7 => ?_; clear h5
 refine wv h7 (r_addN (p := x.l.length) (q := 1) rfl rfl rfl (show x.l.length + 1 < 9223372036854775808 from (by omega))) rfl rfl fun a8 h8 => ?_; clear h7
 refine wl_ex (x_makeMaps (n := x.l.length + 1) h8 sl_77 ti_81 rfl rfl rfl (show 8 * (x.l.length + 1) ≤ 140737488355328 ∧ x.l.length + 1 ≤ 140737488355328 from (by omega)) rfl rfl) (wanted_none rfl _) ?_
 rintro a9 w9 ⟨v9, h9⟩; clear h8
 refine wms 1 h9 rfl fun a10 h10 => ?_; clear h9
 refine wpList_nil (hK4 _ _ ?_)
 refine wp_seq_k fun K11 hK11 => wp_region_lit ?_
 refine wms 1 h10 rfl fun a12 h12 => ?_; clear h10
 refine wl_ex (x_makeZ h12 rfl rfl rfl) (wanted_none rfl _) ?_
 rintro a13 w13 ⟨g13, h13⟩; clear h12
 refine wv h13 (r_ixN (s := (⟨v9, pvs (List.replicate (x.l.length + 1) (⟨none, []⟩ : MP))⟩ : Ls RV)) (q := 0) sl_77 ti_81 rfl rfl rfl (fun w h => (h.mapsAt 1 rfl)) (by rw [pvs_len]; exact (show 0 < (List.replicate (x.l.length + 1) (⟨none, []⟩ : MP)).length from (by first | omega | (simp only [lens9]; omega))))) rfl rfl fun a14 h14 => ?_; clear h13
 have h15 := h14.sel (L' := [.big (mapsX 81 v9 (List.replicate (x.l.length + 1) (⟨none, []⟩ : MP))), .mapO (some g13) ([]), .at_ x]) [1, 0, 2] (by decide) ⟨rfl, rfl, rfl, trivial⟩
 refine wl_ex (x_stMaps (i := 0) h15 ti_81 rfl rfl rfl rfl (show 0 < (List.replicate (x.l.length + 1) (⟨none, []⟩ : MP)).length from (by first | omega | (simp only [lens9]; omega)))) (wanted_none rfl _) ?_
 rintro a16 w16 h16
 clear h15
 refine wpList_nil (hK11 _ _ ?_)
 refine wp_seq_k fun K17 hK17 => ?_
 refine wp_seq_k fun K18 hK18 => wp_region_lit ?_
 refine wl_ex (x_lit (n := 1) (cs := [.int .i64 0]) ([0] : List Int) h16 sl_23 ti_3 rfl rfl rfl (by decide) rfl (by kernel_rfl) rfl (fun q hq w h => Flat.inner _ _) (fun q hq b hb => (Flat.on _ _ hb).elim) rfl rfl) (wanted_none rfl _) ?_
 rintro a19 w19 ⟨v19, h19⟩; clear h16
 refine wms 1 h19 rfl fun a20 h20 => ?_; clear h19
 refine wpList_nil (hK18 _ _ ?_)
 refine wp_block ?_
 refine x_loop (fun m a w => ∃ (M : List MP) (wk : List Int) (vw : Value), (LkI x.l M wk) ∧ (wk.length + muM x.l.length M ≤ (x.l.length + 1) * (x.l.length + 2) + 1) ∧ St 91 (fun _ => False) W a w [(0, x.v), (3, v9), (4, vw)] [.own 3 (⟨vw, wk⟩ : Ls Int), .big (mapsX 81 v9 M), .at_ x] ∧ m = wk.length + muM x.l.length M) ⟨_, (List.replicate (x.l.length + 1) (⟨none, []⟩ : MP)).set 0 ⟨(some g13), []⟩, [0], _, (LkI.start hc g13), (mu0 _ _), h20.nrm ⟨rfl, rfl, rfl, trivial⟩ [0, 1, 2] (by decide) ⟨rfl, rfl, rfl, trivial⟩, rfl⟩ ?_
 clear h20
 rintro m21 a21 w21 ⟨M, wk, vw, hlk, hmu, h21, hm21⟩
 refine wp_seq_k fun K22 hK22 => ?_
 refine wp_seq_k fun K23 hK23 => wp_region_lit ?_
 refine wms 1 h21 rfl fun a24 h24 => ?_; clear h21
 have hl25 : wk.length ≤ 140737488355328 := (h24.sh.own 0 rfl).len
 refine wv h24 (r_len (s := (⟨vw, wk⟩ : Ls Int)) (n := wk.length) sl_23 rfl rfl (fun w h => (h.own 0 rfl)) rfl) rfl rfl fun a26 h26 => ?_; clear h24
 refine wv h26 (r_gtrN (p := wk.length) (q := 0) rfl rfl rfl) rfl rfl fun a27 h27 => ?_; clear h26
 refine wpList_nil (hK23 _ _ ?_)
 refine x_cond h27 rfl (fun hb28 => ?_) (fun hb28 => ?_)
 ·
  have hp28 : 0 < wk.length := of_decide_eq_true hb28
  refine wp_skip ?_
  refine hK22 _ _ ?_
  refine wp_block ?_
  refine wp_seq_k fun K29 hK29 => wp_region_lit ?_
  refine wms 2 h27 rfl fun a30 h30 => ?_; clear h27
  refine wv h30 (r_len (s := (⟨vw, wk⟩ : Ls Int)) (n := wk.length) sl_23 rfl rfl (fun w h => (h.own 0 rfl)) rfl) rfl rfl fun a31 h31 => ?_; clear h30
  refine wv h31 (r_subN (p := wk.length) (q := 1) rfl rfl rfl (show 1 ≤ wk.length ∧ wk.length < 9223372036854775808 from (by omega))) rfl rfl fun a32 h32 => ?_; clear h31
  refine wv h32 (r_ixN (s := (⟨vw, wk⟩ : Ls Int)) (q := wk.length - 1) sl_23 ti_3 rfl rfl rfl (fun w h => (h.own 0 rfl)) (show wk.length - 1 < wk.length from (by omega))) rfl rfl fun a33 h33 => ?_; clear h32
  refine wv h33 (r_lde (s := (⟨vw, wk⟩ : Ls Int)) (i := wk.length - 1) (v := .int .i64 (nth wk (wk.length - 1))) ti_3 rfl rfl rfl (fun w h => (h.own 0 rfl)) (show wk.length - 1 < wk.length from (by omega)) (Nat.le_of_ble_eq_true rfl) rfl) rfl rfl fun a34 h34 => ?_; clear h33
  refine wms 1 h34 rfl fun a35 h35 => ?_; clear h34
  refine wpList_nil (hK29 _ _ ?_)
  have hpos : 0 < wk.length := by omega
  obtain ⟨at_, hat⟩ := Int.eq_ofNat_of_zero_le (hlk.pop hpos).1
  have h36 := h35.same (d := 26) (v' := .int .i64 ((at_ : Nat) : Int)) rfl (by rw [hat])
  clear h35
  have h37 := h36.same (d := 5) (v' := .int .i64 ((at_ : Nat) : Int)) rfl (by rw [hat])
  clear h36
  refine wp_seq_k fun K38 hK38 => wp_region_lit ?_
  refine wms 2 h37 rfl fun a39 h39 => ?_; clear h37
  refine wv h39 (r_len (s := (⟨vw, wk⟩ : Ls Int)) (n := wk.length) sl_23 rfl rfl (fun w h => (h.own 0 rfl)) rfl) rfl rfl fun a40 h40 => ?_; clear h39
  refine wv h40 (r_subN (p := wk.length) (q := 1) rfl rfl rfl (show 1 ≤ wk.length ∧ wk.length < 9223372036854775808 from (by omega))) rfl rfl fun a41 h41 => ?_; clear h40
  refine wv h41 (r_slH (s := (⟨vw, wk⟩ : Ls Int)) (j := wk.length - 1) sl_23 ti_3 rfl rfl rfl (fun w h => (h.own 0 rfl)) (show wk.length - 1 ≤ wk.length from (by omega)) (show 0 < wk.length from (by omega))) rfl rfl fun a42 h42 => ?_; clear h41
  refine wms 1 h42 rfl fun a43 h43 => ?_; clear h42
  refine wpList_nil (hK38 _ _ ?_)
  have h44 := h43.trunc 0 rfl (wk.length - 1) (show wk.length - 1 ≤ wk.length from (by omega)) (show 0 < wk.length from (by omega))
  clear h43
  refine wp_seq_k fun K45 hK45 => ?_
  refine wp_seq_k fun K46 hK46 => wp_region_lit ?_
  refine wms 2 h44 rfl fun a47 h47 => ?_; clear h44
  refine wv h47 (r_len (s := x) (n := x.l.length) sl_33 rfl rfl (fun w h => (h.at 2 rfl)) rfl) rfl rfl fun a48 h48 => ?_; clear h47
  refine wv h48 (r_eqlN (p := at_) (q := x.l.length) rfl rfl rfl) rfl rfl fun a49 h49 => ?_; clear h48
  refine wpList_nil (hK46 _ _ ?_)
  refine x_cond h49 rfl (fun hb50 => ?_) (fun hb50 => ?_)
  ·
   have hp50 : at_ = x.l.length := of_decide_eq_true hb50
   refine wp_exit ?_
   change ∃ _m, _m < _ ∧ _
   refine ⟨_, ?_, M, (wk.take (wk.length - 1)), (vtake vw (wk.length - 1)), ?_, ?_, h49.nrm ⟨rfl, rfl, rfl, trivial⟩ [0, 1, 2] (by decide) ⟨rfl, rfl, rfl, trivial⟩, rfl⟩
   · rw [hm21]; first | omega | (simp only [List.length_take]; omega)
   · first | exact (hln.fin (by omega)) | exact (hlk.popEnd (by omega) (by omega))
   · first | omega | (simp only [List.length_take]; omega)
  have hp50 : ¬ (at_ = x.l.length) := of_decide_eq_false hb50
  refine wp_skip ?_
  refine hK45 _ _ ?_
  have hpop := hlk.pop hpos
  rw [hat, Int.toNat_natCast] at hpop
  have hatl : at_ < x.l.length := by omega
  obtain ⟨hn0, ho0⟩ := hlk.popAt hc hpos hat hatl
  have hMl := hlk.b.len
  obtain ⟨ga, hga⟩ := Option.ne_none_iff_exists'.1 hpop.2.2
  have h51 := h49.openM 1 at_ rfl (show at_ < M.length from (by omega)) hga
  clear h49
  refine wp_seq_k fun K52 hK52 => ?_
  have h53 : St 91 (fun _ => False) W a49 w21 [(0, x.v), (3, v9), (4, (vtake vw (wk.length - 1))), (5, .int .i64 ((at_ : Nat) : Int)), (18, vw), (19, .int .i64 ((wk.length : Nat) : Int)), (20, .bool (decide (0 < wk.length))), (21, vw), (22, vw), (23, .int .i64 ((wk.length : Nat) : Int)), (24, .int .i64 ((wk.length - 1 : Nat) : Int)), (25, .pointer (some (padr vw 1 (wk.length - 1) 0))), (26, .int .i64 ((at_ : Nat) : Int)), (27, vw), (28, vw), (29, .int .i64 ((wk.length : Nat) : Int)), (30, .int .i64 ((wk.length - 1 : Nat) : Int)), (31, (vtake vw (wk.length - 1))), (32, .int .i64 ((at_ : Nat) : Int)), (33, x.v), (34, .int .i64 ((x.l.length : Nat) : Int)), (35, .bool (decide (at_ = x.l.length)))] [.mapO (some ga) ((nth M at_).l), .own 3 (⟨(vtake vw (wk.length - 1)), (wk.take (wk.length - 1))⟩ : Ls Int), .big (mapsH 81 v9 M at_), .at_ x] := h51.nrm ⟨rfl, rfl, rfl, rfl, rfl, rfl, rfl, rfl, rfl, rfl, rfl, rfl, rfl, rfl, rfl, rfl, rfl, rfl, rfl, rfl, rfl, rfl, trivial⟩ [0, 1, 2, 3] (by decide) ⟨rfl, rfl, rfl, rfl, trivial⟩
  clear h51
  refine x_any (fun S a w => (S 8 = false ∧ S 9 = false ∧ S 10 = false ∧ FrI 91 S [(0, x.v), (3, v9), (4, (vtake vw (wk.length - 1))), (5, .int .i64 ((at_ : Nat) : Int)), (18, vw), (19, .int .i64 ((wk.length : Nat) : Int)), (20, .bool (decide (0 < wk.length))), (21, vw), (22, vw), (23, .int .i64 ((wk.length : Nat) : Int)), (24, .int .i64 ((wk.length - 1 : Nat) : Int)), (25, .pointer (some (padr vw 1 (wk.length - 1) 0))), (26, .int .i64 ((at_ : Nat) : Int)), (27, vw), (28, vw), (29, .int .i64 ((wk.length : Nat) : Int)), (30, .int .i64 ((wk.length - 1 : Nat) : Int)), (31, (vtake vw (wk.length - 1))), (32, .int .i64 ((at_ : Nat) : Int)), (33, x.v), (34, .int .i64 ((x.l.length : Nat) : Int)), (35, .bool (decide (at_ = x.l.length)))] [(0, 36, x.v), (1, 37, .int .i64 ((at_ : Nat) : Int)), (2, 38, .pointer (some (padr x.v 4 at_ 0))), (3, 39, .agg #[.int .i64 ((nth x.l at_).op), .int .i64 ((nth x.l at_).a), .int .i64 ((nth x.l at_).b), .int .i64 ((nth x.l at_).c)]), (4, 40, v9), (5, 41, .int .i64 ((at_ : Nat) : Int)), (6, 42, .pointer (some (padr v9 1 at_ 0))), (7, 43, .map (some ga))] a ∧ Sh (fun _ => False) W w [.mapO (some ga) ((nth M at_).l), .own 3 (⟨(vtake vw (wk.length - 1)), (wk.take (wk.length - 1))⟩ : Ls Int), .big (mapsH 81 v9 M at_), .at_ x]) ∨ (S 8 = true ∧ S 9 = false ∧ S 10 = false ∧ ∃ (g7008 : Nat), FrI 91 S [(0, x.v), (3, v9), (4, (vtake vw (wk.length - 1))), (5, .int .i64 ((at_ : Nat) : Int)), (18, vw), (19, .int .i64 ((wk.length : Nat) : Int)), (20, .bool (decide (0 < wk.length))), (21, vw), (22, vw), (23, .int .i64 ((wk.length : Nat) : Int)), (24, .int .i64 ((wk.length - 1 : Nat) : Int)), (25, .pointer (some (padr vw 1 (wk.length - 1) 0))), (26, .int .i64 ((at_ : Nat) : Int)), (27, vw), (28, vw), (29, .int .i64 ((wk.length : Nat) : Int)), (30, .int .i64 ((wk.length - 1 : Nat) : Int)), (31, (vtake vw (wk.length - 1))), (32, .int .i64 ((at_ : Nat) : Int)), (33, x.v), (34, .int .i64 ((x.l.length : Nat) : Int)), (35, .bool (decide (at_ = x.l.length)))] [(0, 36, x.v), (1, 37, .int .i64 ((at_ : Nat) : Int)), (2, 38, .pointer (some (padr x.v 4 at_ 0))), (3, 39, .agg #[.int .i64 ((nth x.l at_).op), .int .i64 ((nth x.l at_).a), .int .i64 ((nth x.l at_).b), .int .i64 ((nth x.l at_).c)]), (4, 40, v9), (5, 41, .int .i64 ((at_ : Nat) : Int)), (6, 42, .pointer (some (padr v9 1 at_ 0))), (7, 43, .map (some ga)), (8, 44, .map (some g7008))] a ∧ Sh (fun _ => False) W w [.mapO (some g7008) (behZ (nth x.l at_) ((nth M at_).l)), .mapO (some ga) ((nth M at_).l), .own 3 (⟨(vtake vw (wk.length - 1)), (wk.take (wk.length - 1))⟩ : Ls Int), .big (mapsH 81 v9 M at_), .at_ x]) ∨ (S 8 = false ∧ S 9 = true ∧ S 10 = false ∧ ∃ (b7009 : Nat), FrI 91 S [(0, x.v), (3, v9), (4, (vtake vw (wk.length - 1))), (5, .int .i64 ((at_ : Nat) : Int)), (18, vw), (19, .int .i64 ((wk.length : Nat) : Int)), (20, .bool (decide (0 < wk.length))), (21, vw), (22, vw), (23, .int .i64 ((wk.length : Nat) : Int)), (24, .int .i64 ((wk.length - 1 : Nat) : Int)), (25, .pointer (some (padr vw 1 (wk.length - 1) 0))), (26, .int .i64 ((at_ : Nat) : Int)), (27, vw), (28, vw), (29, .int .i64 ((wk.length : Nat) : Int)), (30, .int .i64 ((wk.length - 1 : Nat) : Int)), (31, (vtake vw (wk.length - 1))), (32, .int .i64 ((at_ : Nat) : Int)), (33, x.v), (34, .int .i64 ((x.l.length : Nat) : Int)), (35, .bool (decide (at_ = x.l.length)))] [(0, 36, x.v), (1, 37, .int .i64 ((at_ : Nat) : Int)), (2, 38, .pointer (some (padr x.v 4 at_ 0))), (3, 39, .agg #[.int .i64 ((nth x.l at_).op), .int .i64 ((nth x.l at_).a), .int .i64 ((nth x.l at_).b), .int .i64 ((nth x.l at_).c)]), (4, 40, v9), (5, 41, .int .i64 ((at_ : Nat) : Int)), (6, 42, .pointer (some (padr v9 1 at_ 0))), (7, 43, .map (some ga)), (9, 6, .pointer (some ⟨b7009, 0, none⟩))] a ∧ Sh (fun _ => False) W w [.blk b7009 81 [.map none], .mapO (some ga) ((nth M at_).l), .own 3 (⟨(vtake vw (wk.length - 1)), (wk.take (wk.length - 1))⟩ : Ls Int), .big (mapsH 81 v9 M at_), .at_ x]) ∨ (S 8 = true ∧ S 9 = true ∧ S 10 = false ∧ ∃ (g7008 : Nat) (b7009 : Nat), FrI 91 S [(0, x.v), (3, v9), (4, (vtake vw (wk.length - 1))), (5, .int .i64 ((at_ : Nat) : Int)), (18, vw), (19, .int .i64 ((wk.length : Nat) : Int)), (20, .bool (decide (0 < wk.length))), (21, vw), (22, vw), (23, .int .i64 ((wk.length : Nat) : Int)), (24, .int .i64 ((wk.length - 1 : Nat) : Int)), (25, .pointer (some (padr vw 1 (wk.length - 1) 0))), (26, .int .i64 ((at_ : Nat) : Int)), (27, vw), (28, vw), (29, .int .i64 ((wk.length : Nat) : Int)), (30, .int .i64 ((wk.length - 1 : Nat) : Int)), (31, (vtake vw (wk.length - 1))), (32, .int .i64 ((at_ : Nat) : Int)), (33, x.v), (34, .int .i64 ((x.l.length : Nat) : Int)), (35, .bool (decide (at_ = x.l.length)))] [(0, 36, x.v), (1, 37, .int .i64 ((at_ : Nat) : Int)), (2, 38, .pointer (some (padr x.v 4 at_ 0))), (3, 39, .agg #[.int .i64 ((nth x.l at_).op), .int .i64 ((nth x.l at_).a), .int .i64 ((nth x.l at_).b), .int .i64 ((nth x.l at_).c)]), (4, 40, v9), (5, 41, .int .i64 ((at_ : Nat) : Int)), (6, 42, .pointer (some (padr v9 1 at_ 0))), (7, 43, .map (some ga)), (8, 44, .map (some g7008)), (9, 6, .pointer (some ⟨b7009, 0, none⟩))] a ∧ Sh (fun _ => False) W w [.blk b7009 81 [.map none], .mapO (some g7008) (behZ (nth x.l at_) ((nth M at_).l)), .mapO (some ga) ((nth M at_).l), .own 3 (⟨(vtake vw (wk.length - 1)), (wk.take (wk.length - 1))⟩ : Ls Int), .big (mapsH 81 v9 M at_), .at_ x]) ∨ (S 8 = true ∧ S 9 = true ∧ S 10 = true ∧ ∃ (g7008 : Nat) (b7009 : Nat), FrI 91 S [(0, x.v), (3, v9), (4, (vtake vw (wk.length - 1))), (5, .int .i64 ((at_ : Nat) : Int)), (18, vw), (19, .int .i64 ((wk.length : Nat) : Int)), (20, .bool (decide (0 < wk.length))), (21, vw), (22, vw), (23, .int .i64 ((wk.length : Nat) : Int)), (24, .int .i64 ((wk.length - 1 : Nat) : Int)), (25, .pointer (some (padr vw 1 (wk.length - 1) 0))), (26, .int .i64 ((at_ : Nat) : Int)), (27, vw), (28, vw), (29, .int .i64 ((wk.length : Nat) : Int)), (30, .int .i64 ((wk.length - 1 : Nat) : Int)), (31, (vtake vw (wk.length - 1))), (32, .int .i64 ((at_ : Nat) : Int)), (33, x.v), (34, .int .i64 ((x.l.length : Nat) : Int)), (35, .bool (decide (at_ = x.l.length)))] [(0, 36, x.v), (1, 37, .int .i64 ((at_ : Nat) : Int)), (2, 38, .pointer (some (padr x.v 4 at_ 0))), (3, 39, .agg #[.int .i64 ((nth x.l at_).op), .int .i64 ((nth x.l at_).a), .int .i64 ((nth x.l at_).b), .int .i64 ((nth x.l at_).c)]), (4, 40, v9), (5, 41, .int .i64 ((at_ : Nat) : Int)), (6, 42, .pointer (some (padr v9 1 at_ 0))), (7, 43, .map (some ga)), (8, 44, .map (some g7008)), (9, 6, .pointer (some ⟨b7009, 0, none⟩))] a ∧ Sh (fun _ => False) W w [.blk b7009 81 [.map (some g7008)], .mapO (some g7008) (behZ (nth x.l at_) ((nth M at_).l)), .mapO (some ga) ((nth M at_).l), .own 3 (⟨(vtake vw (wk.length - 1)), (wk.take (wk.length - 1))⟩ : Ls Int), .big (mapsH 81 v9 M at_), .at_ x])) (by kernel_rfl) (by kernel_rfl) (Or.inl (⟨rfl, rfl, rfl, FrI.start h53.fr, h53.sh.drew⟩)) ?_ ?_
  ·intro S i o ho hSi hcl hdep a w hI
   clear h53
   rcases i with _ | _ | _ | _ | _ | _ | _ | _ | _ | _ | _ | i
   ·
    obtain rfl : _ = o := Option.some.inj ho
    rcases hI with ⟨hw8, hw9, hw10, hfr, hsh⟩ | ⟨hw8, hw9, hw10, g7008, hfr, hsh⟩ | ⟨hw8, hw9, hw10, b7009, hfr, hsh⟩ | ⟨hw8, hw9, hw10, g7008, b7009, hfr, hsh⟩ | ⟨hw8, hw9, hw10, g7008, b7009, hfr, hsh⟩
    ·
     exact sq hfr hfr.fr0 hsh (r_move rfl rfl) 0 rfl rfl rfl rfl rfl rfl fun a hg => Or.inl (⟨un rfl hw8, un rfl hw9, un rfl hw10, hg, hsh⟩)
    ·
     exact no_way (cA hcl 8 0 rfl hw8) hSi
    ·
     exact sq hfr hfr.fr0 hsh (r_move rfl rfl) 0 rfl rfl rfl rfl rfl rfl fun a hg => Or.inr (Or.inr (Or.inl (⟨un rfl hw8, un rfl hw9, un rfl hw10, b7009, hg, hsh⟩)))
    ·
     exact no_way (cA hcl 8 0 rfl hw8) hSi
    ·
     exact no_way (cA hcl 8 0 rfl hw8) hSi
   ·
    obtain rfl : _ = o := Option.some.inj ho
    rcases hI with ⟨hw8, hw9, hw10, hfr, hsh⟩ | ⟨hw8, hw9, hw10, g7008, hfr, hsh⟩ | ⟨hw8, hw9, hw10, b7009, hfr, hsh⟩ | ⟨hw8, hw9, hw10, g7008, b7009, hfr, hsh⟩ | ⟨hw8, hw9, hw10, g7008, b7009, hfr, hsh⟩
    ·
     exact sq hfr hfr.fr0 hsh (r_move rfl rfl) 1 rfl rfl rfl rfl rfl rfl fun a hg => Or.inl (⟨un rfl hw8, un rfl hw9, un rfl hw10, hg, hsh⟩)
    ·
     exact no_way (cA hcl 8 1 rfl hw8) hSi
    ·
     exact sq hfr hfr.fr0 hsh (r_move rfl rfl) 1 rfl rfl rfl rfl rfl rfl fun a hg => Or.inr (Or.inr (Or.inl (⟨un rfl hw8, un rfl hw9, un rfl hw10, b7009, hg, hsh⟩)))
    ·
     exact no_way (cA hcl 8 1 rfl hw8) hSi
    ·
     exact no_way (cA hcl 8 1 rfl hw8) hSi
   ·
    obtain rfl : _ = o := Option.some.inj ho
    have hd0 : S 0 = true := depAt hdep 0 rfl rfl
    have hd1 : S 1 = true := depAt hdep 1 rfl rfl
    rcases hI with ⟨hw8, hw9, hw10, hfr, hsh⟩ | ⟨hw8, hw9, hw10, g7008, hfr, hsh⟩ | ⟨hw8, hw9, hw10, b7009, hfr, hsh⟩ | ⟨hw8, hw9, hw10, g7008, b7009, hfr, hsh⟩ | ⟨hw8, hw9, hw10, g7008, b7009, hfr, hsh⟩
    ·
     exact sq hfr (Fr.cons (Fr.cons hfr.fr0 (hfr.at_ 0 0 36 _ rfl hd0)) (hfr.at_ 1 1 37 _ rfl hd1)) hsh (r_ixN (s := x) (q := at_) sl_33 ti_32 rfl rfl rfl (fun w h => (h.at 3 rfl)) (show at_ < x.l.length from (by omega))) 2 rfl rfl rfl rfl rfl rfl fun a hg => Or.inl (⟨un rfl hw8, un rfl hw9, un rfl hw10, hg, hsh⟩)
    ·
     exact no_way (cA hcl 8 2 rfl hw8) hSi
    ·
     exact sq hfr (Fr.cons (Fr.cons hfr.fr0 (hfr.at_ 0 0 36 _ rfl hd0)) (hfr.at_ 1 1 37 _ rfl hd1)) hsh (r_ixN (s := x) (q := at_) sl_33 ti_32 rfl rfl rfl (fun w h => (h.at 4 rfl)) (show at_ < x.l.length from (by omega))) 2 rfl rfl rfl rfl rfl rfl fun a hg => Or.inr (Or.inr (Or.inl (⟨un rfl hw8, un rfl hw9, un rfl hw10, b7009, hg, hsh⟩)))
    ·
     exact no_way (cA hcl 8 2 rfl hw8) hSi
    ·
     exact no_way (cA hcl 8 2 rfl hw8) hSi
   ·
    obtain rfl : _ = o := Option.some.inj ho
    have hd2 : S 2 = true := depAt hdep 0 rfl rfl
    rcases hI with ⟨hw8, hw9, hw10, hfr, hsh⟩ | ⟨hw8, hw9, hw10, g7008, hfr, hsh⟩ | ⟨hw8, hw9, hw10, b7009, hfr, hsh⟩ | ⟨hw8, hw9, hw10, g7008, b7009, hfr, hsh⟩ | ⟨hw8, hw9, hw10, g7008, b7009, hfr, hsh⟩
    ·
     exact sq hfr (Fr.cons hfr.fr0 (hfr.at_ 2 2 38 _ rfl hd2)) hsh (r_ldew (s := x) (i := at_) (vs := [.int .i64 ((nth x.l at_).op), .int .i64 ((nth x.l at_).a), .int .i64 ((nth x.l at_).b), .int .i64 ((nth x.l at_).c)]) ti_32 rfl rfl rfl (fun w h => (h.at 3 rfl)) (show at_ < x.l.length from (by omega)) (Nat.le_of_ble_eq_true rfl) rfl) 3 rfl rfl rfl rfl rfl rfl fun a hg => Or.inl (⟨un rfl hw8, un rfl hw9, un rfl hw10, hg, hsh⟩)
    ·
     exact no_way (cA hcl 8 3 rfl hw8) hSi
    ·
     exact sq hfr (Fr.cons hfr.fr0 (hfr.at_ 2 2 38 _ rfl hd2)) hsh (r_ldew (s := x) (i := at_) (vs := [.int .i64 ((nth x.l at_).op), .int .i64 ((nth x.l at_).a), .int .i64 ((nth x.l at_).b), .int .i64 ((nth x.l at_).c)]) ti_32 rfl rfl rfl (fun w h => (h.at 4 rfl)) (show at_ < x.l.length from (by omega)) (Nat.le_of_ble_eq_true rfl) rfl) 3 rfl rfl rfl rfl rfl rfl fun a hg => Or.inr (Or.inr (Or.inl (⟨un rfl hw8, un rfl hw9, un rfl hw10, b7009, hg, hsh⟩)))
    ·
     exact no_way (cA hcl 8 3 rfl hw8) hSi
    ·
     exact no_way (cA hcl 8 3 rfl hw8) hSi
   ·
    obtain rfl : _ = o := Option.some.inj ho
    rcases hI with ⟨hw8, hw9, hw10, hfr, hsh⟩ | ⟨hw8, hw9, hw10, g7008, hfr, hsh⟩ | ⟨hw8, hw9, hw10, b7009, hfr, hsh⟩ | ⟨hw8, hw9, hw10, g7008, b7009, hfr, hsh⟩ | ⟨hw8, hw9, hw10, g7008, b7009, hfr, hsh⟩
    ·
     exact sq hfr hfr.fr0 hsh (r_move rfl rfl) 4 rfl rfl rfl rfl rfl rfl fun a hg => Or.inl (⟨un rfl hw8, un rfl hw9, un rfl hw10, hg, hsh⟩)
    ·
     exact no_way (cA hcl 8 4 rfl hw8) hSi
    ·
     exact sq hfr hfr.fr0 hsh (r_move rfl rfl) 4 rfl rfl rfl rfl rfl rfl fun a hg => Or.inr (Or.inr (Or.inl (⟨un rfl hw8, un rfl hw9, un rfl hw10, b7009, hg, hsh⟩)))
    ·
     exact no_way (cA hcl 8 4 rfl hw8) hSi
    ·
     exact no_way (cA hcl 8 4 rfl hw8) hSi
   ·
    obtain rfl : _ = o := Option.some.inj ho
    rcases hI with ⟨hw8, hw9, hw10, hfr, hsh⟩ | ⟨hw8, hw9, hw10, g7008, hfr, hsh⟩ | ⟨hw8, hw9, hw10, b7009, hfr, hsh⟩ | ⟨hw8, hw9, hw10, g7008, b7009, hfr, hsh⟩ | ⟨hw8, hw9, hw10, g7008, b7009, hfr, hsh⟩
    ·
     exact sq hfr hfr.fr0 hsh (r_move rfl rfl) 5 rfl rfl rfl rfl rfl rfl fun a hg => Or.inl (⟨un rfl hw8, un rfl hw9, un rfl hw10, hg, hsh⟩)
    ·
     exact no_way (cA hcl 8 5 rfl hw8) hSi
    ·
     exact sq hfr hfr.fr0 hsh (r_move rfl rfl) 5 rfl rfl rfl rfl rfl rfl fun a hg => Or.inr (Or.inr (Or.inl (⟨un rfl hw8, un rfl hw9, un rfl hw10, b7009, hg, hsh⟩)))
    ·
     exact no_way (cA hcl 8 5 rfl hw8) hSi
    ·
     exact no_way (cA hcl 8 5 rfl hw8) hSi
   ·
    obtain rfl : _ = o := Option.some.inj ho
    have hd4 : S 4 = true := depAt hdep 0 rfl rfl
    have hd5 : S 5 = true := depAt hdep 1 rfl rfl
    rcases hI with ⟨hw8, hw9, hw10, hfr, hsh⟩ | ⟨hw8, hw9, hw10, g7008, hfr, hsh⟩ | ⟨hw8, hw9, hw10, b7009, hfr, hsh⟩ | ⟨hw8, hw9, hw10, g7008, b7009, hfr, hsh⟩ | ⟨hw8, hw9, hw10, g7008, b7009, hfr, hsh⟩
    ·
     exact sq hfr (Fr.cons (Fr.cons hfr.fr0 (hfr.at_ 4 4 40 _ rfl hd4)) (hfr.at_ 5 5 41 _ rfl hd5)) hsh (r_ixN (s := (⟨v9, pvs M⟩ : Ls RV)) (q := at_) sl_77 ti_81 rfl rfl rfl (fun w h => (h.mapsHAt 2 rfl)) (by rw [pvs_len]; exact (show at_ < M.length from (by omega)))) 6 rfl rfl rfl rfl rfl rfl fun a hg => Or.inl (⟨un rfl hw8, un rfl hw9, un rfl hw10, hg, hsh⟩)
    ·
     exact no_way (cA hcl 8 6 rfl hw8) hSi
    ·
     exact sq hfr (Fr.cons (Fr.cons hfr.fr0 (hfr.at_ 4 4 40 _ rfl hd4)) (hfr.at_ 5 5 41 _ rfl hd5)) hsh (r_ixN (s := (⟨v9, pvs M⟩ : Ls RV)) (q := at_) sl_77 ti_81 rfl rfl rfl (fun w h => (h.mapsHAt 3 rfl)) (by rw [pvs_len]; exact (show at_ < M.length from (by omega)))) 6 rfl rfl rfl rfl rfl rfl fun a hg => Or.inr (Or.inr (Or.inl (⟨un rfl hw8, un rfl hw9, un rfl hw10, b7009, hg, hsh⟩)))
    ·
     exact no_way (cA hcl 8 6 rfl hw8) hSi
    ·
     exact no_way (cA hcl 8 6 rfl hw8) hSi
   ·
    obtain rfl : _ = o := Option.some.inj ho
    have hd6 : S 6 = true := depAt hdep 0 rfl rfl
    rcases hI with ⟨hw8, hw9, hw10, hfr, hsh⟩ | ⟨hw8, hw9, hw10, g7008, hfr, hsh⟩ | ⟨hw8, hw9, hw10, b7009, hfr, hsh⟩ | ⟨hw8, hw9, hw10, g7008, b7009, hfr, hsh⟩ | ⟨hw8, hw9, hw10, g7008, b7009, hfr, hsh⟩
    ·
     exact sq hfr (Fr.cons hfr.fr0 (hfr.at_ 6 6 42 _ rfl hd6)) hsh (Rn.same (r_lde (s := (⟨v9, pvs M⟩ : Ls RV)) (i := at_) (v := (nth (pvs M) at_).v) ti_81 rfl rfl rfl (fun w h => (h.mapsHAt 2 rfl)) (by rw [pvs_len]; exact (show at_ < M.length from (by omega))) (Nat.le_of_ble_eq_true rfl) rfl) ((nth_pvs (show at_ < M.length from (by omega))).trans (congrArg Value.map hga))) 7 rfl rfl rfl rfl rfl rfl fun a hg => Or.inl (⟨un rfl hw8, un rfl hw9, un rfl hw10, hg, hsh⟩)
    ·
     exact no_way (cA hcl 8 7 rfl hw8) hSi
    ·
     exact sq hfr (Fr.cons hfr.fr0 (hfr.at_ 6 6 42 _ rfl hd6)) hsh (Rn.same (r_lde (s := (⟨v9, pvs M⟩ : Ls RV)) (i := at_) (v := (nth (pvs M) at_).v) ti_81 rfl rfl rfl (fun w h => (h.mapsHAt 3 rfl)) (by rw [pvs_len]; exact (show at_ < M.length from (by omega))) (Nat.le_of_ble_eq_true rfl) rfl) ((nth_pvs (show at_ < M.length from (by omega))).trans (congrArg Value.map hga))) 7 rfl rfl rfl rfl rfl rfl fun a hg => Or.inr (Or.inr (Or.inl (⟨un rfl hw8, un rfl hw9, un rfl hw10, b7009, hg, hsh⟩)))
    ·
     exact no_way (cA hcl 8 7 rfl hw8) hSi
    ·
     exact no_way (cA hcl 8 7 rfl hw8) hSi
   ·
    obtain rfl : _ = o := Option.some.inj ho
    have hd3 : S 3 = true := depAt hdep 0 rfl rfl
    have hd7 : S 7 = true := depAt hdep 1 rfl rfl
    rcases hI with ⟨hw8, hw9, hw10, hfr, hsh⟩ | ⟨hw8, hw9, hw10, g7008, hfr, hsh⟩ | ⟨hw8, hw9, hw10, b7009, hfr, hsh⟩ | ⟨hw8, hw9, hw10, g7008, b7009, hfr, hsh⟩ | ⟨hw8, hw9, hw10, g7008, b7009, hfr, hsh⟩
    ·
     have hs := St.mk (Fr.cons (Fr.cons hfr.fr0 (hfr.at_ 3 3 39 _ rfl hd3)) (hfr.at_ 7 7 43 _ rfl hd7)) hsh
     have hp74 := hs.sh.passL (Lp := [.mapO (some ga) ((nth M at_).l)])
     refine step_ex (x_call hs bd_95 rfl rfl rfl rfl rfl (behind_c _ (nth x.l at_) ga ((nth M at_).l) _ hp74 (hc.op at_ hatl) (fun e => (hc.mv at_ hatl e).1))) (wanted_none rfl _) ?_
     rintro a75 w75 ⟨_, ⟨g75, rfl, hs75⟩, hf75⟩ ⟨v0, ht75⟩
     have h75 : St 91 (fun _ => False) W a75 w75 _ [.mapO (some g75) (behZ (nth x.l at_) ((nth M at_).l)), .mapO (some ga) ((nth M at_).l), .own 3 (⟨(vtake vw (wk.length - 1)), (wk.take (wk.length - 1))⟩ : Ls Int), .big (mapsH 81 v9 M at_), .at_ x] := ⟨hf75, hs.sh.backL (Lp := [.mapO (some ga) ((nth M at_).l)]) hs75 (by intro A hA b hb; simp only [List.mem_cons, List.not_mem_nil, or_false] at hA; rcases hA with rfl | rfl <;> first | exact (hb : False).elim | exact Flat.noRd hb | exact .inl ⟨_, List.mem_cons_self .., .inr hb⟩ | exact .inl ⟨_, by simp, .inr hb⟩)⟩
     clear hf75 hs75
     have hm75 : FrI 91 S [(0, x.v), (3, v9), (4, (vtake vw (wk.length - 1))), (5, .int .i64 ((at_ : Nat) : Int)), (18, vw), (19, .int .i64 ((wk.length : Nat) : Int)), (20, .bool (decide (0 < wk.length))), (21, vw), (22, vw), (23, .int .i64 ((wk.length : Nat) : Int)), (24, .int .i64 ((wk.length - 1 : Nat) : Int)), (25, .pointer (some (padr vw 1 (wk.length - 1) 0))), (26, .int .i64 ((at_ : Nat) : Int)), (27, vw), (28, vw), (29, .int .i64 ((wk.length : Nat) : Int)), (30, .int .i64 ((wk.length - 1 : Nat) : Int)), (31, (vtake vw (wk.length - 1))), (32, .int .i64 ((at_ : Nat) : Int)), (33, x.v), (34, .int .i64 ((x.l.length : Nat) : Int)), (35, .bool (decide (at_ = x.l.length)))] [(0, 36, x.v), (1, 37, .int .i64 ((at_ : Nat) : Int)), (2, 38, .pointer (some (padr x.v 4 at_ 0))), (3, 39, .agg #[.int .i64 ((nth x.l at_).op), .int .i64 ((nth x.l at_).a), .int .i64 ((nth x.l at_).b), .int .i64 ((nth x.l at_).c)]), (4, 40, v9), (5, 41, .int .i64 ((at_ : Nat) : Int)), (6, 42, .pointer (some (padr v9 1 at_ 0))), (7, 43, .map (some ga)), (8, 44, .map (some g75))] a := hfr.more (by
      intro k j d v hk hS
      rcases k with _ | _ | _ | _ | _ | _ | _ | _ | _ | k
      ·obtain ⟨rfl, rfl, rfl⟩ : _ = j ∧ _ = d ∧ _ = v := by simpa using hk
       exact hfr.at_ 0 _ _ _ rfl hS
      ·obtain ⟨rfl, rfl, rfl⟩ : _ = j ∧ _ = d ∧ _ = v := by simpa using hk
       exact hfr.at_ 1 _ _ _ rfl hS
      ·obtain ⟨rfl, rfl, rfl⟩ : _ = j ∧ _ = d ∧ _ = v := by simpa using hk
       exact hfr.at_ 2 _ _ _ rfl hS
      ·obtain ⟨rfl, rfl, rfl⟩ : _ = j ∧ _ = d ∧ _ = v := by simpa using hk
       exact hfr.at_ 3 _ _ _ rfl hS
      ·obtain ⟨rfl, rfl, rfl⟩ : _ = j ∧ _ = d ∧ _ = v := by simpa using hk
       exact hfr.at_ 4 _ _ _ rfl hS
      ·obtain ⟨rfl, rfl, rfl⟩ : _ = j ∧ _ = d ∧ _ = v := by simpa using hk
       exact hfr.at_ 5 _ _ _ rfl hS
      ·obtain ⟨rfl, rfl, rfl⟩ : _ = j ∧ _ = d ∧ _ = v := by simpa using hk
       exact hfr.at_ 6 _ _ _ rfl hS
      ·obtain ⟨rfl, rfl, rfl⟩ : _ = j ∧ _ = d ∧ _ = v := by simpa using hk
       exact hfr.at_ 7 _ _ _ rfl hS
      ·obtain ⟨rfl, rfl, rfl⟩ : _ = j ∧ _ = d ∧ _ = v := by simpa using hk
       exact no_way hS hSi
      · simp at hk)
     exact Or.inr (Or.inl (⟨upd_self _ _, un rfl hw9, un rfl hw10, g75, hm75.step ht75 h75.fr.defers (h75.fr.at_ 44 _ rfl) 8 rfl rfl rfl rfl, (h75.sh.sel (L' := [.mapO (some g75) (behZ (nth x.l at_) ((nth M at_).l)), .mapO (some ga) ((nth M at_).l), .own 3 (⟨(vtake vw (wk.length - 1)), (wk.take (wk.length - 1))⟩ : Ls Int), .big (mapsH 81 v9 M at_), .at_ x]) [0, 1, 2, 3, 4] (by decide) ⟨rfl, rfl, rfl, rfl, rfl, trivial⟩)⟩))
    ·
     exact no_way hw8 hSi
    ·
     have hs := St.mk (Fr.cons (Fr.cons hfr.fr0 (hfr.at_ 3 3 39 _ rfl hd3)) (hfr.at_ 7 7 43 _ rfl hd7)) hsh
     have h76 := hs.sel (L' := [.mapO (some ga) ((nth M at_).l), .blk b7009 81 [.map none], .own 3 (⟨(vtake vw (wk.length - 1)), (wk.take (wk.length - 1))⟩ : Ls Int), .big (mapsH 81 v9 M at_), .at_ x]) [1, 0, 2, 3, 4] (by decide) ⟨rfl, rfl, rfl, rfl, rfl, trivial⟩
     have hp77 := h76.sh.passL (Lp := [.mapO (some ga) ((nth M at_).l)])
     refine step_ex (x_call h76 bd_95 rfl rfl rfl rfl rfl (behind_c _ (nth x.l at_) ga ((nth M at_).l) _ hp77 (hc.op at_ hatl) (fun e => (hc.mv at_ hatl e).1))) (wanted_none rfl _) ?_
     rintro a78 w78 ⟨_, ⟨g78, rfl, hs78⟩, hf78⟩ ⟨v0, ht78⟩
     have h78 : St 91 (fun _ => False) W a78 w78 _ [.mapO (some g78) (behZ (nth x.l at_) ((nth M at_).l)), .mapO (some ga) ((nth M at_).l), .blk b7009 81 [.map none], .own 3 (⟨(vtake vw (wk.length - 1)), (wk.take (wk.length - 1))⟩ : Ls Int), .big (mapsH 81 v9 M at_), .at_ x] := ⟨hf78, h76.sh.backL (Lp := [.mapO (some ga) ((nth M at_).l)]) hs78 (by intro A hA b hb; simp only [List.mem_cons, List.not_mem_nil, or_false] at hA; rcases hA with rfl | rfl <;> first | exact (hb : False).elim | exact Flat.noRd hb | exact .inl ⟨_, List.mem_cons_self .., .inr hb⟩ | exact .inl ⟨_, by simp, .inr hb⟩)⟩
     clear hf78 hs78
     have hm78 : FrI 91 S [(0, x.v), (3, v9), (4, (vtake vw (wk.length - 1))), (5, .int .i64 ((at_ : Nat) : Int)), (18, vw), (19, .int .i64 ((wk.length : Nat) : Int)), (20, .bool (decide (0 < wk.length))), (21, vw), (22, vw), (23, .int .i64 ((wk.length : Nat) : Int)), (24, .int .i64 ((wk.length - 1 : Nat) : Int)), (25, .pointer (some (padr vw 1 (wk.length - 1) 0))), (26, .int .i64 ((at_ : Nat) : Int)), (27, vw), (28, vw), (29, .int .i64 ((wk.length : Nat) : Int)), (30, .int .i64 ((wk.length - 1 : Nat) : Int)), (31, (vtake vw (wk.length - 1))), (32, .int .i64 ((at_ : Nat) : Int)), (33, x.v), (34, .int .i64 ((x.l.length : Nat) : Int)), (35, .bool (decide (at_ = x.l.length)))] [(0, 36, x.v), (1, 37, .int .i64 ((at_ : Nat) : Int)), (2, 38, .pointer (some (padr x.v 4 at_ 0))), (3, 39, .agg #[.int .i64 ((nth x.l at_).op), .int .i64 ((nth x.l at_).a), .int .i64 ((nth x.l at_).b), .int .i64 ((nth x.l at_).c)]), (4, 40, v9), (5, 41, .int .i64 ((at_ : Nat) : Int)), (6, 42, .pointer (some (padr v9 1 at_ 0))), (7, 43, .map (some ga)), (8, 44, .map (some g78)), (9, 6, .pointer (some ⟨b7009, 0, none⟩))] a := hfr.more (by
      intro k j d v hk hS
      rcases k with _ | _ | _ | _ | _ | _ | _ | _ | _ | _ | k
      ·obtain ⟨rfl, rfl, rfl⟩ : _ = j ∧ _ = d ∧ _ = v := by simpa using hk
       exact hfr.at_ 0 _ _ _ rfl hS
      ·obtain ⟨rfl, rfl, rfl⟩ : _ = j ∧ _ = d ∧ _ = v := by simpa using hk
       exact hfr.at_ 1 _ _ _ rfl hS
      ·obtain ⟨rfl, rfl, rfl⟩ : _ = j ∧ _ = d ∧ _ = v := by simpa using hk
       exact hfr.at_ 2 _ _ _ rfl hS
      ·obtain ⟨rfl, rfl, rfl⟩ : _ = j ∧ _ = d ∧ _ = v := by simpa using hk
       exact hfr.at_ 3 _ _ _ rfl hS
      ·obtain ⟨rfl, rfl, rfl⟩ : _ = j ∧ _ = d ∧ _ = v := by simpa using hk
       exact hfr.at_ 4 _ _ _ rfl hS
      ·obtain ⟨rfl, rfl, rfl⟩ : _ = j ∧ _ = d ∧ _ = v := by simpa using hk
       exact hfr.at_ 5 _ _ _ rfl hS
      ·obtain ⟨rfl, rfl, rfl⟩ : _ = j ∧ _ = d ∧ _ = v := by simpa using hk
       exact hfr.at_ 6 _ _ _ rfl hS
      ·obtain ⟨rfl, rfl, rfl⟩ : _ = j ∧ _ = d ∧ _ = v := by simpa using hk
       exact hfr.at_ 7 _ _ _ rfl hS
      ·obtain ⟨rfl, rfl, rfl⟩ : _ = j ∧ _ = d ∧ _ = v := by simpa using hk
       exact no_way hS hSi
      ·obtain ⟨rfl, rfl, rfl⟩ : _ = j ∧ _ = d ∧ _ = v := by simpa using hk
       exact hfr.at_ 8 _ _ _ rfl hS
      · simp at hk)
     exact Or.inr (Or.inr (Or.inr (Or.inl (⟨upd_self _ _, un rfl hw9, un rfl hw10, g78, b7009, hm78.step ht78 h78.fr.defers (h78.fr.at_ 44 _ rfl) 8 rfl rfl rfl rfl, (h78.sh.sel (L' := [.blk b7009 81 [.map none], .mapO (some g78) (behZ (nth x.l at_) ((nth M at_).l)), .mapO (some ga) ((nth M at_).l), .own 3 (⟨(vtake vw (wk.length - 1)), (wk.take (wk.length - 1))⟩ : Ls Int), .big (mapsH 81 v9 M at_), .at_ x]) [2, 0, 1, 3, 4, 5] (by decide) ⟨rfl, rfl, rfl, rfl, rfl, rfl, trivial⟩)⟩))))
    ·
     exact no_way hw8 hSi
    ·
     exact no_way hw8 hSi
   ·
    obtain rfl : _ = o := Option.some.inj ho
    rcases hI with ⟨hw8, hw9, hw10, hfr, hsh⟩ | ⟨hw8, hw9, hw10, g7008, hfr, hsh⟩ | ⟨hw8, hw9, hw10, b7009, hfr, hsh⟩ | ⟨hw8, hw9, hw10, g7008, b7009, hfr, hsh⟩ | ⟨hw8, hw9, hw10, g7008, b7009, hfr, hsh⟩
    ·
     have hs := St.mk hfr.fr0 hsh
     refine step_ex (x_alloc hs ti_81 rfl rfl rfl) (wanted_none rfl _) ?_
     rintro a79 w79 ⟨b79, h79⟩ ⟨v0, ht79⟩
     have hm79 : FrI 91 S [(0, x.v), (3, v9), (4, (vtake vw (wk.length - 1))), (5, .int .i64 ((at_ : Nat) : Int)), (18, vw), (19, .int .i64 ((wk.length : Nat) : Int)), (20, .bool (decide (0 < wk.length))), (21, vw), (22, vw), (23, .int .i64 ((wk.length : Nat) : Int)), (24, .int .i64 ((wk.length - 1 : Nat) : Int)), (25, .pointer (some (padr vw 1 (wk.length - 1) 0))), (26, .int .i64 ((at_ : Nat) : Int)), (27, vw), (28, vw), (29, .int .i64 ((wk.length : Nat) : Int)), (30, .int .i64 ((wk.length - 1 : Nat) : Int)), (31, (vtake vw (wk.length - 1))), (32, .int .i64 ((at_ : Nat) : Int)), (33, x.v), (34, .int .i64 ((x.l.length : Nat) : Int)), (35, .bool (decide (at_ = x.l.length)))] [(0, 36, x.v), (1, 37, .int .i64 ((at_ : Nat) : Int)), (2, 38, .pointer (some (padr x.v 4 at_ 0))), (3, 39, .agg #[.int .i64 ((nth x.l at_).op), .int .i64 ((nth x.l at_).a), .int .i64 ((nth x.l at_).b), .int .i64 ((nth x.l at_).c)]), (4, 40, v9), (5, 41, .int .i64 ((at_ : Nat) : Int)), (6, 42, .pointer (some (padr v9 1 at_ 0))), (7, 43, .map (some ga)), (9, 6, .pointer (some ⟨b79, 0, none⟩))] a := hfr.more (by
      intro k j d v hk hS
      rcases k with _ | _ | _ | _ | _ | _ | _ | _ | _ | k
      ·obtain ⟨rfl, rfl, rfl⟩ : _ = j ∧ _ = d ∧ _ = v := by simpa using hk
       exact hfr.at_ 0 _ _ _ rfl hS
      ·obtain ⟨rfl, rfl, rfl⟩ : _ = j ∧ _ = d ∧ _ = v := by simpa using hk
       exact hfr.at_ 1 _ _ _ rfl hS
      ·obtain ⟨rfl, rfl, rfl⟩ : _ = j ∧ _ = d ∧ _ = v := by simpa using hk
       exact hfr.at_ 2 _ _ _ rfl hS
      ·obtain ⟨rfl, rfl, rfl⟩ : _ = j ∧ _ = d ∧ _ = v := by simpa using hk
       exact hfr.at_ 3 _ _ _ rfl hS
      ·obtain ⟨rfl, rfl, rfl⟩ : _ = j ∧ _ = d ∧ _ = v := by simpa using hk
       exact hfr.at_ 4 _ _ _ rfl hS
      ·obtain ⟨rfl, rfl, rfl⟩ : _ = j ∧ _ = d ∧ _ = v := by simpa using hk
       exact hfr.at_ 5 _ _ _ rfl hS
      ·obtain ⟨rfl, rfl, rfl⟩ : _ = j ∧ _ = d ∧ _ = v := by simpa using hk
       exact hfr.at_ 6 _ _ _ rfl hS
      ·obtain ⟨rfl, rfl, rfl⟩ : _ = j ∧ _ = d ∧ _ = v := by simpa using hk
       exact hfr.at_ 7 _ _ _ rfl hS
      ·obtain ⟨rfl, rfl, rfl⟩ : _ = j ∧ _ = d ∧ _ = v := by simpa using hk
       exact no_way hS hSi
      · simp at hk)
     exact Or.inr (Or.inr (Or.inl (⟨un rfl hw8, upd_self _ _, un rfl hw10, b79, hm79.step ht79 h79.fr.defers (h79.fr.at_ 6 _ rfl) 8 rfl rfl rfl rfl, (h79.sh.sel (L' := [.blk b79 81 [.map none], .mapO (some ga) ((nth M at_).l), .own 3 (⟨(vtake vw (wk.length - 1)), (wk.take (wk.length - 1))⟩ : Ls Int), .big (mapsH 81 v9 M at_), .at_ x]) [0, 1, 2, 3, 4] (by decide) ⟨rfl, rfl, rfl, rfl, rfl, trivial⟩)⟩)))
    ·
     have hs := St.mk hfr.fr0 hsh
     refine step_ex (x_alloc hs ti_81 rfl rfl rfl) (wanted_none rfl _) ?_
     rintro a80 w80 ⟨b80, h80⟩ ⟨v0, ht80⟩
     have hm80 : FrI 91 S [(0, x.v), (3, v9), (4, (vtake vw (wk.length - 1))), (5, .int .i64 ((at_ : Nat) : Int)), (18, vw), (19, .int .i64 ((wk.length : Nat) : Int)), (20, .bool (decide (0 < wk.length))), (21, vw), (22, vw), (23, .int .i64 ((wk.length : Nat) : Int)), (24, .int .i64 ((wk.length - 1 : Nat) : Int)), (25, .pointer (some (padr vw 1 (wk.length - 1) 0))), (26, .int .i64 ((at_ : Nat) : Int)), (27, vw), (28, vw), (29, .int .i64 ((wk.length : Nat) : Int)), (30, .int .i64 ((wk.length - 1 : Nat) : Int)), (31, (vtake vw (wk.length - 1))), (32, .int .i64 ((at_ : Nat) : Int)), (33, x.v), (34, .int .i64 ((x.l.length : Nat) : Int)), (35, .bool (decide (at_ = x.l.length)))] [(0, 36, x.v), (1, 37, .int .i64 ((at_ : Nat) : Int)), (2, 38, .pointer (some (padr x.v 4 at_ 0))), (3, 39, .agg #[.int .i64 ((nth x.l at_).op), .int .i64 ((nth x.l at_).a), .int .i64 ((nth x.l at_).b), .int .i64 ((nth x.l at_).c)]), (4, 40, v9), (5, 41, .int .i64 ((at_ : Nat) : Int)), (6, 42, .pointer (some (padr v9 1 at_ 0))), (7, 43, .map (some ga)), (8, 44, .map (some g7008)), (9, 6, .pointer (some ⟨b80, 0, none⟩))] a := hfr.more (by
      intro k j d v hk hS
      rcases k with _ | _ | _ | _ | _ | _ | _ | _ | _ | _ | k
      ·obtain ⟨rfl, rfl, rfl⟩ : _ = j ∧ _ = d ∧ _ = v := by simpa using hk
       exact hfr.at_ 0 _ _ _ rfl hS
      ·obtain ⟨rfl, rfl, rfl⟩ : _ = j ∧ _ = d ∧ _ = v := by simpa using hk
       exact hfr.at_ 1 _ _ _ rfl hS
      ·obtain ⟨rfl, rfl, rfl⟩ : _ = j ∧ _ = d ∧ _ = v := by simpa using hk
       exact hfr.at_ 2 _ _ _ rfl hS
      ·obtain ⟨rfl, rfl, rfl⟩ : _ = j ∧ _ = d ∧ _ = v := by simpa using hk
       exact hfr.at_ 3 _ _ _ rfl hS
      ·obtain ⟨rfl, rfl, rfl⟩ : _ = j ∧ _ = d ∧ _ = v := by simpa using hk
       exact hfr.at_ 4 _ _ _ rfl hS
      ·obtain ⟨rfl, rfl, rfl⟩ : _ = j ∧ _ = d ∧ _ = v := by simpa using hk
       exact hfr.at_ 5 _ _ _ rfl hS
      ·obtain ⟨rfl, rfl, rfl⟩ : _ = j ∧ _ = d ∧ _ = v := by simpa using hk
       exact hfr.at_ 6 _ _ _ rfl hS
      ·obtain ⟨rfl, rfl, rfl⟩ : _ = j ∧ _ = d ∧ _ = v := by simpa using hk
       exact hfr.at_ 7 _ _ _ rfl hS
      ·obtain ⟨rfl, rfl, rfl⟩ : _ = j ∧ _ = d ∧ _ = v := by simpa using hk
       exact hfr.at_ 8 _ _ _ rfl hS
      ·obtain ⟨rfl, rfl, rfl⟩ : _ = j ∧ _ = d ∧ _ = v := by simpa using hk
       exact no_way hS hSi
      · simp at hk)
     exact Or.inr (Or.inr (Or.inr (Or.inl (⟨un rfl hw8, upd_self _ _, un rfl hw10, g7008, b80, hm80.step ht80 h80.fr.defers (h80.fr.at_ 6 _ rfl) 9 rfl rfl rfl rfl, (h80.sh.sel (L' := [.blk b80 81 [.map none], .mapO (some g7008) (behZ (nth x.l at_) ((nth M at_).l)), .mapO (some ga) ((nth M at_).l), .own 3 (⟨(vtake vw (wk.length - 1)), (wk.take (wk.length - 1))⟩ : Ls Int), .big (mapsH 81 v9 M at_), .at_ x]) [0, 1, 2, 3, 4, 5] (by decide) ⟨rfl, rfl, rfl, rfl, rfl, rfl, trivial⟩)⟩))))
    ·
     exact no_way hw9 hSi
    ·
     exact no_way hw9 hSi
    ·
     exact no_way hw9 hSi
   ·
    obtain rfl : _ = o := Option.some.inj ho
    have hd9 : S 9 = true := depAt hdep 0 rfl rfl
    have hd8 : S 8 = true := depAt hdep 1 rfl rfl
    rcases hI with ⟨hw8, hw9, hw10, hfr, hsh⟩ | ⟨hw8, hw9, hw10, g7008, hfr, hsh⟩ | ⟨hw8, hw9, hw10, b7009, hfr, hsh⟩ | ⟨hw8, hw9, hw10, g7008, b7009, hfr, hsh⟩ | ⟨hw8, hw9, hw10, g7008, b7009, hfr, hsh⟩
    ·
     exact no_way hd8 hw8
    ·
     exact no_way hd9 hw9
    ·
     exact no_way hd8 hw8
    ·
     have hs := St.mk (Fr.cons (Fr.cons hfr.fr0 (hfr.at_ 8 8 44 _ rfl hd8)) (hfr.at_ 9 9 6 _ rfl hd9)) hsh
     refine step_ex (x_stb (i := 0) (vs := [.map (some g7008)]) (cs' := [.map (some g7008)]) hs ti_81 rfl rfl rfl rfl rfl rfl rfl (allOne_cons rfl allOne_nil) (Nat.le_of_ble_eq_true rfl) rfl) (wanted_none rfl _) ?_
     rintro a81 w81 h81 ⟨v0, ht81⟩
     have hm81 : FrI 91 S [(0, x.v), (3, v9), (4, (vtake vw (wk.length - 1))), (5, .int .i64 ((at_ : Nat) : Int)), (18, vw), (19, .int .i64 ((wk.length : Nat) : Int)), (20, .bool (decide (0 < wk.length))), (21, vw), (22, vw), (23, .int .i64 ((wk.length : Nat) : Int)), (24, .int .i64 ((wk.length - 1 : Nat) : Int)), (25, .pointer (some (padr vw 1 (wk.length - 1) 0))), (26, .int .i64 ((at_ : Nat) : Int)), (27, vw), (28, vw), (29, .int .i64 ((wk.length : Nat) : Int)), (30, .int .i64 ((wk.length - 1 : Nat) : Int)), (31, (vtake vw (wk.length - 1))), (32, .int .i64 ((at_ : Nat) : Int)), (33, x.v), (34, .int .i64 ((x.l.length : Nat) : Int)), (35, .bool (decide (at_ = x.l.length)))] [(0, 36, x.v), (1, 37, .int .i64 ((at_ : Nat) : Int)), (2, 38, .pointer (some (padr x.v 4 at_ 0))), (3, 39, .agg #[.int .i64 ((nth x.l at_).op), .int .i64 ((nth x.l at_).a), .int .i64 ((nth x.l at_).b), .int .i64 ((nth x.l at_).c)]), (4, 40, v9), (5, 41, .int .i64 ((at_ : Nat) : Int)), (6, 42, .pointer (some (padr v9 1 at_ 0))), (7, 43, .map (some ga)), (8, 44, .map (some g7008)), (9, 6, .pointer (some ⟨b7009, 0, none⟩))] a := hfr.more (by
      intro k j d v hk hS
      rcases k with _ | _ | _ | _ | _ | _ | _ | _ | _ | _ | k
      ·obtain ⟨rfl, rfl, rfl⟩ : _ = j ∧ _ = d ∧ _ = v := by simpa using hk
       exact hfr.at_ 0 _ _ _ rfl hS
      ·obtain ⟨rfl, rfl, rfl⟩ : _ = j ∧ _ = d ∧ _ = v := by simpa using hk
       exact hfr.at_ 1 _ _ _ rfl hS
      ·obtain ⟨rfl, rfl, rfl⟩ : _ = j ∧ _ = d ∧ _ = v := by simpa using hk
       exact hfr.at_ 2 _ _ _ rfl hS
      ·obtain ⟨rfl, rfl, rfl⟩ : _ = j ∧ _ = d ∧ _ = v := by simpa using hk
       exact hfr.at_ 3 _ _ _ rfl hS
      ·obtain ⟨rfl, rfl, rfl⟩ : _ = j ∧ _ = d ∧ _ = v := by simpa using hk
       exact hfr.at_ 4 _ _ _ rfl hS
      ·obtain ⟨rfl, rfl, rfl⟩ : _ = j ∧ _ = d ∧ _ = v := by simpa using hk
       exact hfr.at_ 5 _ _ _ rfl hS
      ·obtain ⟨rfl, rfl, rfl⟩ : _ = j ∧ _ = d ∧ _ = v := by simpa using hk
       exact hfr.at_ 6 _ _ _ rfl hS
      ·obtain ⟨rfl, rfl, rfl⟩ : _ = j ∧ _ = d ∧ _ = v := by simpa using hk
       exact hfr.at_ 7 _ _ _ rfl hS
      ·obtain ⟨rfl, rfl, rfl⟩ : _ = j ∧ _ = d ∧ _ = v := by simpa using hk
       exact hfr.at_ 8 _ _ _ rfl hS
      ·obtain ⟨rfl, rfl, rfl⟩ : _ = j ∧ _ = d ∧ _ = v := by simpa using hk
       exact hfr.at_ 9 _ _ _ rfl hS
      · simp at hk)
     exact Or.inr (Or.inr (Or.inr (Or.inr (⟨un rfl hw8, un rfl hw9, upd_self _ _, g7008, b7009, hm81.none ht81 h81.fr.defers rfl, (h81.sh.sel (L' := [.blk b7009 81 [.map (some g7008)], .mapO (some g7008) (behZ (nth x.l at_) ((nth M at_).l)), .mapO (some ga) ((nth M at_).l), .own 3 (⟨(vtake vw (wk.length - 1)), (wk.take (wk.length - 1))⟩ : Ls Int), .big (mapsH 81 v9 M at_), .at_ x]) [0, 1, 2, 3, 4, 5] (by decide) ⟨rfl, rfl, rfl, rfl, rfl, rfl, trivial⟩)⟩))))
    ·
     exact no_way hw10 hSi
   · simp at ho
  intro S hall a w hI
  clear h53
  rcases hI with ⟨hw8, hw9, hw10, hfr, hsh⟩ | ⟨hw8, hw9, hw10, g7008, hfr, hsh⟩ | ⟨hw8, hw9, hw10, b7009, hfr, hsh⟩ | ⟨hw8, hw9, hw10, g7008, b7009, hfr, hsh⟩ | ⟨hw8, hw9, hw10, g7008, b7009, hfr, hsh⟩
  · exact no_way (hall 8 (by decide)) hw8
  · exact no_way (hall 9 (by decide)) hw9
  · exact no_way (hall 8 (by decide)) hw8
  · exact no_way (hall 10 (by decide)) hw10
  have h82 : St 91 (fun _ => False) W a w _ [.blk b7009 81 [.map (some g7008)], .mapO (some g7008) (behZ (nth x.l at_) ((nth M at_).l)), .mapO (some ga) ((nth M at_).l), .own 3 (⟨(vtake vw (wk.length - 1)), (wk.take (wk.length - 1))⟩ : Ls Int), .big (mapsH 81 v9 M at_), .at_ x] := ⟨(Fr.cons hfr.fr0 (hfr.at_ 9 9 6 _ rfl (hall 9 (by decide)))), hsh⟩
  clear hall hfr hsh hw8 hw9 hw10
  refine hK52 _ _ ?_
  have h83 := h82.sel (L' := [.mapO (some ga) ((nth M at_).l), .blk b7009 81 [.map (some g7008)], .mapO (some g7008) (behZ (nth x.l at_) ((nth M at_).l)), .own 3 (⟨(vtake vw (wk.length - 1)), (wk.take (wk.length - 1))⟩ : Ls Int), .big (mapsH 81 v9 M at_), .at_ x]) [2, 0, 1, 3, 4, 5] (by decide) ⟨rfl, rfl, rfl, rfl, rfl, rfl, trivial⟩
  have h84 := h83.closeM 3 at_ rfl (show at_ < M.length from (by omega)) hga
  clear h83
  rw [nth_set_p] at h84
  refine wp_seq_k fun K85 hK85 => wp_region_lit ?_
  refine wms 2 h84 rfl fun a86 h86 => ?_; clear h84
  refine wl_ex (x_call h86 bd_96 rfl rfl rfl rfl rfl (nexts_c x at_ _ (h86.sh.at 4 rfl) (by omega) (by omega))) (wanted_none rfl _) ?_
  rintro a87 w87 ⟨_, ⟨s87, rfl, hs87⟩, hf87⟩
  have h87 := (⟨hf87, h86.sh.call hs87 (by intro A hA b hb; first | (simp at hA; done) | (simp at hA; subst hA; first | exact Flat.noRd hb | exact (hb : False).elim) | (simp at hA; rcases hA with rfl | rfl <;> first | exact Flat.noRd hb | exact (hb : False).elim))⟩ : St 91 (fun _ => False) W a87 w87 _ _)
  clear hf87 hs87
  clear h86
  have hl88 : (nextsL x.l at_).length ≤ 140737488355328 := (h87.sh.own 0 rfl).len
  refine wv h87 (r_len (s := (⟨s87.v, nextsL x.l at_⟩ : Ls Int)) (n := (nextsL x.l at_).length) sl_23 rfl rfl (fun w h => (h.own 0 rfl)) rfl) rfl rfl fun a89 h89 => ?_; clear h87
  refine wms 1 h89 rfl fun a90 h90 => ?_; clear h89
  refine wpList_nil (hK85 _ _ ?_)
  refine wp_block ?_
  refine x_loop (fun m a w => ∃ (k : Nat) (M2 : List MP) (wk2 : List Int) (vw2 : Value), (k ≤ (nextsL x.l at_).length) ∧ (LkN x.l M2 wk2 at_ (behZ (nth x.l at_) (nth M at_).l) k) ∧ (wk2.length + muM x.l.length M2 ≤ (wk.take (wk.length - 1)).length + muM x.l.length M) ∧ St 91 (fun _ => False) W a w [(0, x.v), (3, v9), (4, vw2), (6, .pointer (some ⟨b7009, 0, none⟩)), (47, s87.v), (48, .int .i64 (((nextsL x.l at_).length : Nat) : Int)), (49, .int .i64 ((k : Nat) : Int))] [.own 3 (⟨s87.v, nextsL x.l at_⟩ : Ls Int), .blk b7009 81 [.map (some g7008)], .mapO (some g7008) (behZ (nth x.l at_) ((nth M at_).l)), .own 3 (⟨vw2, wk2⟩ : Ls Int), .big (mapsX 81 v9 M2), .at_ x] ∧ m = (nextsL x.l at_).length - k) ⟨_, 0, M, (wk.take (wk.length - 1)), (vtake vw (wk.length - 1)), (by omega), (hn0), (Nat.le_refl _), h90.nrm ⟨rfl, rfl, rfl, rfl, rfl, rfl, rfl, trivial⟩ [0, 1, 2, 3, 4, 5] (by decide) ⟨rfl, rfl, rfl, rfl, rfl, rfl, trivial⟩, rfl⟩ ?_
  clear h90
  rintro m91 a91 w91 ⟨k, M2, wk2, vw2, hk, hln, hmu2, h91, hm91⟩
  have hMl2 := hln.b.len
  have htk : (wk.take (wk.length - 1)).length = wk.length - 1 := by rw [List.length_take]; omega
  have hB := mu_le hl
  refine wp_seq_k fun K92 hK92 => wp_region_lit ?_
  refine wv h91 (r_lssN (p := k) (q := (nextsL x.l at_).length) rfl rfl rfl) rfl rfl fun a93 h93 => ?_; clear h91
  refine wpList_nil (hK92 _ _ ?_)
  refine wp_seq_k fun K94 hK94 => ?_
  refine x_cond h93 rfl (fun hb95 => ?_) (fun hb95 => ?_)
  ·
   have hp95 : k < (nextsL x.l at_).length := of_decide_eq_true hb95
   refine wp_skip ?_
   refine hK94 _ _ ?_
   refine wp_seq_k fun K96 hK96 => ?_
   refine wp_block ?_
   refine wp_seq_k fun K97 hK97 => wp_region_lit ?_
   refine wv h93 (r_ixN (s := (⟨s87.v, nextsL x.l at_⟩ : Ls Int)) (q := k) sl_23 ti_3 rfl rfl rfl (fun w h => (h.own 0 rfl)) (show k < (nextsL x.l at_).length from (by omega))) rfl rfl fun a98 h98 => ?_; clear h93
   refine wv h98 (r_lde (s := (⟨s87.v, nextsL x.l at_⟩ : Ls Int)) (i := k) (v := .int .i64 (nth (nextsL x.l at_) k)) ti_3 rfl rfl rfl (fun w h => (h.own 0 rfl)) (show k < (nextsL x.l at_).length from (by omega)) (Nat.le_of_ble_eq_true rfl) rfl) rfl rfl fun a99 h99 => ?_; clear h98
   refine wms 1 h99 rfl fun a100 h100 => ?_; clear h99
   refine wpList_nil (hK97 _ _ ?_)
   have hnx := nx_at hc ho0 (k := k) (by omega)
   obtain ⟨to_, hto⟩ := Int.eq_ofNat_of_zero_le hnx.1
   have htl : to_ ≤ x.l.length := by omega
   have htn : to_ = (nth (nextsL x.l at_) k).toNat := by omega
   have h101 := h100.same (d := 52) (v' := .int .i64 ((to_ : Nat) : Int)) rfl (by rw [hto])
   clear h100
   have h102 := h101.same (d := 8) (v' := .int .i64 ((to_ : Nat) : Int)) rfl (by rw [hto])
   clear h101
   refine wp_seq_k fun K103 hK103 => ?_
   refine wp_seq_k fun K104 hK104 => wp_region_lit ?_
   refine wms 2 h102 rfl fun a105 h105 => ?_; clear h102
   refine wv h105 (r_ixN (s := (⟨v9, pvs M2⟩ : Ls RV)) (q := to_) sl_77 ti_81 rfl rfl rfl (fun w h => (h.mapsAt 4 rfl)) (by rw [pvs_len]; exact (show to_ < M2.length from (by omega)))) rfl rfl fun a106 h106 => ?_; clear h105
   refine wv h106 (Rn.same (r_lde (s := (⟨v9, pvs M2⟩ : Ls RV)) (i := to_) (v := (nth (pvs M2) to_).v) ti_81 rfl rfl rfl (fun w h => (h.mapsAt 4 rfl)) (by rw [pvs_len]; exact (show to_ < M2.length from (by omega))) (Nat.le_of_ble_eq_true rfl) rfl) (nth_pvs (show to_ < M2.length from (by omega)))) rfl rfl fun a107 h107 => ?_; clear h106
   refine wv h107 (r_nilZ mz_81 rfl rfl rfl) rfl rfl fun a108 h108 => ?_; clear h107
   refine wpList_nil (hK104 _ _ ?_)
   refine x_cond h108 rfl (fun hb109 => ?_) (fun hb109 => ?_)
   ·
    skip
    refine wp_seq_k fun K110 hK110 => wp_region_lit ?_
    refine wms 2 h108 rfl fun a111 h111 => ?_; clear h108
    refine wv h111 (r_ldb (i := 1) ti_81 rfl rfl rfl rfl) rfl rfl fun a112 h112 => ?_; clear h111
    have h113 := h112.sel (L' := [.mapO (some g7008) (behZ (nth x.l at_) ((nth M at_).l)), .own 3 (⟨s87.v, nextsL x.l at_⟩ : Ls Int), .blk b7009 81 [.map (some g7008)], .own 3 (⟨vw2, wk2⟩ : Ls Int), .big (mapsX 81 v9 M2), .at_ x]) [2, 0, 1, 3, 4, 5] (by decide) ⟨rfl, rfl, rfl, rfl, rfl, rfl, trivial⟩
    have hp114 := h113.sh.passL (Lp := [.mapO (some g7008) (behZ (nth x.l at_) ((nth M at_).l))])
    refine wl_ex (x_call h113 bd_97 rfl rfl rfl rfl rfl (cloneZ_c _ g7008 (behZ (nth x.l at_) ((nth M at_).l)) _ hp114)) (wanted_none rfl _) ?_
    rintro a115 w115 ⟨_, ⟨g115, rfl, hs115⟩, hf115⟩
    have h115 : St 91 (fun _ => False) W a115 w115 _ [.mapO (some g115) (behZ (nth x.l at_) ((nth M at_).l)), .mapO (some g7008) (behZ (nth x.l at_) ((nth M at_).l)), .own 3 (⟨s87.v, nextsL x.l at_⟩ : Ls Int), .blk b7009 81 [.map (some g7008)], .own 3 (⟨vw2, wk2⟩ : Ls Int), .big (mapsX 81 v9 M2), .at_ x] := ⟨hf115, h113.sh.backL (Lp := [.mapO (some g7008) (behZ (nth x.l at_) ((nth M at_).l))]) hs115 (by intro A hA b hb; simp only [List.mem_cons, List.not_mem_nil, or_false] at hA; rcases hA with rfl | rfl <;> first | exact (hb : False).elim | exact Flat.noRd hb | exact .inl ⟨_, List.mem_cons_self .., .inr hb⟩ | exact .inl ⟨_, by simp, .inr hb⟩)⟩
    clear hf115 hs115
    clear h113
    refine wv h115 (r_ixN (s := (⟨v9, pvs M2⟩ : Ls RV)) (q := to_) sl_77 ti_81 rfl rfl rfl (fun w h => (h.mapsAt 5 rfl)) (by rw [pvs_len]; exact (show to_ < M2.length from (by omega)))) rfl rfl fun a116 h116 => ?_; clear h115
    have h117 := h116.sel (L' := [.big (mapsX 81 v9 M2), .mapO (some g115) (behZ (nth x.l at_) ((nth M at_).l)), .mapO (some g7008) (behZ (nth x.l at_) ((nth M at_).l)), .own 3 (⟨s87.v, nextsL x.l at_⟩ : Ls Int), .blk b7009 81 [.map (some g7008)], .own 3 (⟨vw2, wk2⟩ : Ls Int), .at_ x]) [5, 0, 1, 2, 3, 4, 6] (by decide) ⟨rfl, rfl, rfl, rfl, rfl, rfl, rfl, trivial⟩
    refine wl_ex (x_stMaps (i := to_) h117 ti_81 rfl rfl rfl rfl (show to_ < M2.length from (by omega))) (wanted_none rfl _) ?_
    rintro a118 w118 h118
    clear h117
    refine wpList_nil (hK110 _ _ ?_)
    refine wp_seq_k fun K119 hK119 => wp_region_lit ?_
    refine wms 2 h118 rfl fun a120 h120 => ?_; clear h118
    refine wl_ex (x_lit (n := 1) (cs := [.int .i64 ((to_ : Nat) : Int)]) ([((to_ : Nat) : Int)] : List Int) h120 sl_23 ti_3 rfl rfl rfl (by decide) rfl (by kernel_rfl) rfl (fun q hq w h => Flat.inner _ _) (fun q hq b hb => (Flat.on _ _ hb).elim) rfl rfl) (wanted_none rfl _) ?_
    rintro a121 w121 ⟨v121, h121⟩; clear h120
    refine wl_ex (x_app (r := 5) (rm := 0) (s := (⟨vw2, wk2⟩ : Ls Int)) (m := (⟨v121, [((to_ : Nat) : Int)]⟩ : Ls Int)) h121 sl_23 ti_3 rfl rfl rfl rfl rfl rfl rfl (fun w h => (h.own 0 rfl)) (fun b hb => own_on (h121.sh.ok _ (List.mem_of_getElem? (i := 0) rfl)) hb) (fun q hq b hb => ⟨q, hq, hb⟩) rfl rfl rfl inferInstance (show (wk2.length + ([((to_ : Nat) : Int)]).length) * 8 ≤ 140737488355328 ∧ wk2.length + ([((to_ : Nat) : Int)]).length ≤ 140737488355328 from (by first | omega | (simp only [lens9]; omega))) rfl rfl) (wanted_none rfl _) ?_
    rintro a122 w122 ⟨v122, h122⟩; clear h121
    refine wms 1 h122 rfl fun a123 h123 => ?_; clear h122
    refine wpList_nil (hK119 _ _ ?_)
    refine wp_exit ?_
    refine hK96 _ _ ?_
    refine wp_region_lit ?_
    refine wv h123 (r_addN (p := k) (q := 1) rfl rfl rfl (show k + 1 < 9223372036854775808 from (by omega))) rfl rfl fun a124 h124 => ?_; clear h123
    refine wms 1 h124 rfl fun a125 h125 => ?_; clear h124
    refine wpList_nil ?_
    have hnew := hln.new hc ho0 (k := k) (by omega) htn (Option.isNone_iff_eq_none.1 (by assumption)) g115
    rw [hto] at hnew
    refine x_again ⟨_, ?_, (k + 1), M2.set to_ ⟨(some g115), behZ (nth x.l at_) ((nth M at_).l)⟩, wk2 ++ ([((to_ : Nat) : Int)]), v122, ?_, ?_, ?_, h125.nrm ⟨rfl, rfl, rfl, rfl, rfl, rfl, rfl, trivial⟩ [3, 4, 2, 5, 1, 6] (by decide) ⟨rfl, rfl, rfl, rfl, rfl, rfl, trivial⟩, rfl⟩
    · rw [hm91]; first | omega | (simp only [lens9]; omega)
    · omega
    · exact hnew.1
    · exact Nat.le_trans hnew.2 hmu2
   refine wp_skip ?_
   refine hK103 _ _ ?_
   have hpn : (nth M2 to_).p ≠ none := fun e => by have h9 := (by assumption : (nth M2 to_).p.isNone = false); rw [e] at h9; cases h9
   obtain ⟨gt, hgt⟩ := Option.ne_none_iff_exists'.1 hpn
   have h126 := h108.openM 4 to_ rfl (show to_ < M2.length from (by omega)) hgt
   clear h108
   refine wp_seq_k fun K127 hK127 => wp_region_lit ?_
   refine wms 2 h126 rfl fun a128 h128 => ?_; clear h126
   refine wv h128 (r_ixN (s := (⟨v9, pvs M2⟩ : Ls RV)) (q := to_) sl_77 ti_81 rfl rfl rfl (fun w h => (h.mapsHAt 5 rfl)) (by rw [pvs_len]; exact (show to_ < M2.length from (by omega)))) rfl rfl fun a129 h129 => ?_; clear h128
   refine wv h129 (Rn.same (r_lde (s := (⟨v9, pvs M2⟩ : Ls RV)) (i := to_) (v := (nth (pvs M2) to_).v) ti_81 rfl rfl rfl (fun w h => (h.mapsHAt 5 rfl)) (by rw [pvs_len]; exact (show to_ < M2.length from (by omega))) (Nat.le_of_ble_eq_true rfl) rfl) ((nth_pvs (show to_ < M2.length from (by omega))).trans (congrArg Value.map hgt))) rfl rfl fun a130 h130 => ?_; clear h129
   refine wv h130 (r_lenZ (i := 0) (l := ((nth M2 to_).l)) mz_81 rfl rfl rfl) rfl rfl fun a131 h131 => ?_; clear h130
   refine wms 1 h131 rfl fun a132 h132 => ?_; clear h131
   refine wpList_nil (hK127 _ _ ?_)
   refine wp_seq_k fun K133 hK133 => wp_region_lit ?_
   refine wms 2 h132 rfl fun a134 h134 => ?_; clear h132
   refine wv h134 (r_ixN (s := (⟨v9, pvs M2⟩ : Ls RV)) (q := to_) sl_77 ti_81 rfl rfl rfl (fun w h => (h.mapsHAt 5 rfl)) (by rw [pvs_len]; exact (show to_ < M2.length from (by omega)))) rfl rfl fun a135 h135 => ?_; clear h134
   refine wv h135 (Rn.same (r_lde (s := (⟨v9, pvs M2⟩ : Ls RV)) (i := to_) (v := (nth (pvs M2) to_).v) ti_81 rfl rfl rfl (fun w h => (h.mapsHAt 5 rfl)) (by rw [pvs_len]; exact (show to_ < M2.length from (by omega))) (Nat.le_of_ble_eq_true rfl) rfl) ((nth_pvs (show to_ < M2.length from (by omega))).trans (congrArg Value.map hgt))) rfl rfl fun a136 h136 => ?_; clear h135
   refine wv h136 (r_makeFunc rfl rfl rfl) rfl rfl fun a137 h137 => ?_; clear h136
   have h138 := h137.sel (L' := [.mapO (some gt) ((nth M2 to_).l), .blk b7009 81 [.map (some g7008)], .mapO (some g7008) (behZ (nth x.l at_) ((nth M at_).l)), .own 3 (⟨s87.v, nextsL x.l at_⟩ : Ls Int), .own 3 (⟨vw2, wk2⟩ : Ls Int), .big (mapsH 81 v9 M2 to_), .at_ x]) [0, 2, 3, 1, 4, 5, 6] (by decide) ⟨rfl, rfl, rfl, rfl, rfl, rfl, rfl, trivial⟩
   have hp139 := h138.sh.passL (Lp := [.mapO (some gt) ((nth M2 to_).l), .blk b7009 81 [.map (some g7008)], .mapO (some g7008) (behZ (nth x.l at_) ((nth M at_).l))])
   refine wl_ex (x_call h138 bd_98 rfl rfl rfl rfl rfl (delL_c _ gt ((nth M2 to_).l) b7009 g7008 (behZ (nth x.l at_) ((nth M at_).l)) _ hp139)) (wanted_none rfl _) ?_
   rintro a140 w140 ⟨_, ⟨rfl, hs140⟩, hf140⟩
   have h140 : St 91 (fun _ => False) W a140 w140 _ [.mapO (some gt) (inZ (behZ (nth x.l at_) ((nth M at_).l)) ((nth M2 to_).l)), .blk b7009 81 [.map (some g7008)], .mapO (some g7008) (behZ (nth x.l at_) ((nth M at_).l)), .own 3 (⟨s87.v, nextsL x.l at_⟩ : Ls Int), .own 3 (⟨vw2, wk2⟩ : Ls Int), .big (mapsH 81 v9 M2 to_), .at_ x] := ⟨hf140, h138.sh.backL (Lp := [.mapO (some gt) ((nth M2 to_).l), .blk b7009 81 [.map (some g7008)], .mapO (some g7008) (behZ (nth x.l at_) ((nth M at_).l))]) hs140 (by intro A hA b hb; simp only [List.mem_cons, List.not_mem_nil, or_false] at hA; rcases hA with rfl | rfl | rfl <;> first | exact (hb : False).elim | exact Flat.noRd hb | exact .inl ⟨_, List.mem_cons_self .., .inr hb⟩ | exact .inl ⟨_, by simp, .inr hb⟩)⟩
   clear hf140 hs140
   clear h138
   refine wpList_nil (hK133 _ _ ?_)
   refine wp_seq_k fun K141 hK141 => wp_region_lit ?_
   refine wms 2 h140 rfl fun a142 h142 => ?_; clear h140
   refine wv h142 (r_ixN (s := (⟨v9, pvs M2⟩ : Ls RV)) (q := to_) sl_77 ti_81 rfl rfl rfl (fun w h => (h.mapsHAt 5 rfl)) (by rw [pvs_len]; exact (show to_ < M2.length from (by omega)))) rfl rfl fun a143 h143 => ?_; clear h142
   refine wv h143 (Rn.same (r_lde (s := (⟨v9, pvs M2⟩ : Ls RV)) (i := to_) (v := (nth (pvs M2) to_).v) ti_81 rfl rfl rfl (fun w h => (h.mapsHAt 5 rfl)) (by rw [pvs_len]; exact (show to_ < M2.length from (by omega))) (Nat.le_of_ble_eq_true rfl) rfl) ((nth_pvs (show to_ < M2.length from (by omega))).trans (congrArg Value.map hgt))) rfl rfl fun a144 h144 => ?_; clear h143
   refine wv h144 (r_lenZ (i := 0) (l := (inZ (behZ (nth x.l at_) ((nth M at_).l)) ((nth M2 to_).l))) mz_81 rfl rfl rfl) rfl rfl fun a145 h145 => ?_; clear h144
   refine wms 1 h145 rfl fun a146 h146 => ?_; clear h145
   refine wv h146 (r_neqN (p := (inZ (behZ (nth x.l at_) ((nth M at_).l)) ((nth M2 to_).l)).length) (q := ((nth M2 to_).l).length) rfl rfl rfl) rfl rfl fun a147 h147 => ?_; clear h146
   refine wpList_nil (hK141 _ _ ?_)
   have h148 : St 91 (fun _ => False) W a147 w140 [(0, x.v), (3, v9), (4, vw2), (6, .pointer (some ⟨b7009, 0, none⟩)), (8, .int .i64 ((to_ : Nat) : Int)), (47, s87.v), (48, .int .i64 (((nextsL x.l at_).length : Nat) : Int)), (49, .int .i64 ((k : Nat) : Int)), (84, .bool (decide ((inZ (behZ (nth x.l at_) ((nth M at_).l)) ((nth M2 to_).l)).length ≠ ((nth M2 to_).l).length)))] [.mapO (some gt) (inZ (behZ (nth x.l at_) ((nth M at_).l)) ((nth M2 to_).l)), .blk b7009 81 [.map (some g7008)], .mapO (some g7008) (behZ (nth x.l at_) ((nth M at_).l)), .own 3 (⟨s87.v, nextsL x.l at_⟩ : Ls Int), .own 3 (⟨vw2, wk2⟩ : Ls Int), .big (mapsH 81 v9 M2 to_), .at_ x] := h147.nrm ⟨rfl, rfl, rfl, rfl, rfl, rfl, rfl, rfl, rfl, trivial⟩ [0, 1, 2, 3, 4, 5, 6] (by decide) ⟨rfl, rfl, rfl, rfl, rfl, rfl, rfl, trivial⟩
   clear h147
   refine x_cond h148 rfl (fun hb149 => ?_) (fun hb149 => ?_)
   ·
    have hp149 : (inZ (behZ (nth x.l at_) ((nth M at_).l)) ((nth M2 to_).l)).length ≠ ((nth M2 to_).l).length := of_decide_eq_true hb149
    refine wp_region_lit ?_
    refine wms 2 h148 rfl fun a150 h150 => ?_; clear h148
    refine wl_ex (x_lit (n := 1) (cs := [.int .i64 ((to_ : Nat) : Int)]) ([((to_ : Nat) : Int)] : List Int) h150 sl_23 ti_3 rfl rfl rfl (by decide) rfl (by kernel_rfl) rfl (fun q hq w h => Flat.inner _ _) (fun q hq b hb => (Flat.on _ _ hb).elim) rfl rfl) (wanted_none rfl _) ?_
    rintro a151 w151 ⟨v151, h151⟩; clear h150
    refine wl_ex (x_app (r := 5) (rm := 0) (s := (⟨vw2, wk2⟩ : Ls Int)) (m := (⟨v151, [((to_ : Nat) : Int)]⟩ : Ls Int)) h151 sl_23 ti_3 rfl rfl rfl rfl rfl rfl rfl (fun w h => (h.own 0 rfl)) (fun b hb => own_on (h151.sh.ok _ (List.mem_of_getElem? (i := 0) rfl)) hb) (fun q hq b hb => ⟨q, hq, hb⟩) rfl rfl rfl inferInstance (show (wk2.length + ([((to_ : Nat) : Int)]).length) * 8 ≤ 140737488355328 ∧ wk2.length + ([((to_ : Nat) : Int)]).length ≤ 140737488355328 from (by first | omega | (simp only [lens9]; omega))) rfl rfl) (wanted_none rfl _) ?_
    rintro a152 w152 ⟨v152, h152⟩; clear h151
    refine wms 1 h152 rfl fun a153 h153 => ?_; clear h152
    refine wpList_nil (hK96 _ _ ?_)
    refine wp_region_lit ?_
    refine wv h153 (r_addN (p := k) (q := 1) rfl rfl rfl (show k + 1 < 9223372036854775808 from (by omega))) rfl rfl fun a154 h154 => ?_; clear h153
    refine wms 1 h154 rfl fun a155 h155 => ?_; clear h154
    refine wpList_nil ?_
    have h156 := h155.sel (L' := [.mapO (some gt) (inZ (behZ (nth x.l at_) ((nth M at_).l)) ((nth M2 to_).l)), .own 3 (⟨v151, [((to_ : Nat) : Int)]⟩ : Ls Int), .blk b7009 81 [.map (some g7008)], .mapO (some g7008) (behZ (nth x.l at_) ((nth M at_).l)), .own 3 (⟨s87.v, nextsL x.l at_⟩ : Ls Int), .own 3 (⟨v152, wk2 ++ ([((to_ : Nat) : Int)])⟩ : Ls Int), .big (mapsH 81 v9 M2 to_), .at_ x]) [1, 0, 2, 3, 4, 5, 6, 7] (by decide) ⟨rfl, rfl, rfl, rfl, rfl, rfl, rfl, rfl, trivial⟩
    have h157 := h156.closeM 5 to_ rfl (show to_ < M2.length from (by omega)) hgt
    clear h156
    have hnew := hln.cut hc ho0 (k := k) (by omega) htn hpn (by assumption)
    rw [hto] at hnew
    refine x_again ⟨_, ?_, (k + 1), M2.set to_ ⟨(nth M2 to_).p, inZ (behZ (nth x.l at_) ((nth M at_).l)) ((nth M2 to_).l)⟩, wk2 ++ ([((to_ : Nat) : Int)]), v152, ?_, ?_, ?_, h157.nrm ⟨rfl, rfl, rfl, rfl, rfl, rfl, rfl, trivial⟩ [3, 1, 2, 4, 5, 6] (by decide) ⟨rfl, rfl, rfl, rfl, rfl, rfl, trivial⟩, rfl⟩
    · rw [hm91]; first | omega | (simp only [lens9]; omega)
    · omega
    · exact hnew.1
    · exact Nat.le_trans hnew.2 hmu2
   have hp149 : ¬ ((inZ (behZ (nth x.l at_) ((nth M at_).l)) ((nth M2 to_).l)).length ≠ ((nth M2 to_).l).length) := of_decide_eq_false hb149
   refine wp_skip ?_
   refine hK96 _ _ ?_
   refine wp_region_lit ?_
   refine wv h148 (r_addN (p := k) (q := 1) rfl rfl rfl (show k + 1 < 9223372036854775808 from (by omega))) rfl rfl fun a158 h158 => ?_; clear h148
   refine wms 1 h158 rfl fun a159 h159 => ?_; clear h158
   refine wpList_nil ?_
   have h160 := h159.closeM 4 to_ rfl (show to_ < M2.length from (by omega)) hgt
   clear h159
   have hnew := hln.stay hc ho0 (k := k) (by omega) htn hpn (by omega)
   refine x_again ⟨_, ?_, (k + 1), M2.set to_ ⟨(nth M2 to_).p, inZ (behZ (nth x.l at_) ((nth M at_).l)) ((nth M2 to_).l)⟩, wk2, vw2, ?_, ?_, ?_, h160.nrm ⟨rfl, rfl, rfl, rfl, rfl, rfl, rfl, trivial⟩ [2, 0, 1, 3, 4, 5] (by decide) ⟨rfl, rfl, rfl, rfl, rfl, rfl, trivial⟩, rfl⟩
   · rw [hm91]; first | omega | (simp only [lens9]; omega)
   · omega
   · exact hnew.1
   · exact Nat.le_trans hnew.2 hmu2
  have hp95 : ¬ (k < (nextsL x.l at_).length) := of_decide_eq_false hb95
  refine wp_exit ?_
  change ∃ _m, _m < _ ∧ _
  refine ⟨_, ?_, M2, wk2, vw2, ?_, ?_, h93.nrm ⟨rfl, rfl, rfl, trivial⟩ [3, 4, 5] (by decide) ⟨rfl, rfl, rfl, trivial⟩, rfl⟩
  · rw [hm21]; first | omega | (simp only [List.length_take]; omega)
  · first | exact (hln.fin (by omega)) | exact (hlk.popEnd (by omega) (by omega))
  · first | omega | (simp only [List.length_take]; omega)
 have hp28 : ¬ (0 < wk.length) := of_decide_eq_false hb28
 refine wp_exit ?_
 refine hK17 _ _ ?_
 refine wp_seq_k fun K161 hK161 => wp_region_lit ?_
 refine wms 2 h27 rfl fun a162 h162 => ?_; clear h27
 refine wpList_nil (hK161 _ _ ?_)
 refine wp_ret ?_
 try simp only [Exit.then, Exit.inBlock]
 refine x_ret1 (fn := Try.f52) (t := 2) rfl h162 rfl ?_
 have hwn : wk = [] := List.eq_nil_of_length_eq_zero (by omega)
 rw [hwn] at hlk
 exact ⟨v9, M, rfl, hlk.b.len, fun i hi r => hlk.end_ hc hi r, (h162.sh.sel (L' := [.big (mapsX 81 v9 M)]) [1] (by decide) ⟨rfl, trivial⟩)⟩

end Go.Proofs.Ytfpaahkleienoaa
