/-
  Contracts of functions of this program and of the references, each walked once.
-/
import Derived.Test.YtfpaahkleienoaaX18
import Derived.Test.YtfpaahkleienoaaS9
namespace Go.Proofs.Ytfpaahkleienoaa
open Go.RowKit
set_option linter.unusedSimpArgs false
set_option linter.unusedVariables false


set_option maxRecDepth 100000 in
set_option maxHeartbeats 4000000 in
theorem begin_c (code : Ls (Ls Ins)) (words : Ls Int) (Lk R : Nat) (mode : Int) (W : World) (hcode : code.At W) (hwords : words.At W) (hcl : code.l.length ≤ 4) (hlk : Lk ≤ 4) (hR : R ≤ 200) (hwn : words.l.length ≤ 64) :
    Rets Try.prog 77 [.agg #[code.v, words.v, .int .i64 ((Lk : Nat) : Int), .int .i64 ((R : Nat) : Int)], .int .i64 mode] W (fun v w' => ∃ (g2 : Nat) (rows : List ThL) (vt : Value) (words' owner' prints' : Ls Int), v = .pointer (some ⟨g2, 0, none⟩) ∧ rows.map ThL.th = List.replicate code.l.length ⟨0, List.replicate R 0, []⟩ ∧ words'.l = words.l ∧ owner'.l = List.replicate Lk (-1) ∧ prints'.l = [] ∧ Sh0 W w' [.blk g2 125 [code.v, words.v, .int .i64 (Lk : Int), .int .i64 (R : Int), .int .i64 mode, vt, words'.v, owner'.v, prints'.v, .bool false], .own 147 (⟨vt, rows.map ThL.toV⟩ : Ls ThV), .big (rowsA 3 210 rows), .own 3 words', .own 3 owner', .own 3 prints']) := by
 refine x_enter (N := 55) Try.func77 rfl Try.ntmps77 (Nat.le_of_ble_eq_true rfl) fun a1 hf1 => ?_
 have h1 : St 55 (fun _ => False) W a1 W [(0, .agg #[code.v, words.v, .int .i64 ((Lk : Nat) : Int), .int .i64 ((R : Nat) : Int)]), (1, .int .i64 mode)] [.at_ code, .at_ words] := ⟨hf1.sub ⟨rfl, rfl, trivial⟩, Sh0.ext2 hcode hwords⟩
 clear hf1
 refine wp_seq_k fun K2 hK2 => wp_region_lit <| wl_ex (x_box (cs := [code.v, words.v, .int .i64 ((Lk : Nat) : Int), .int .i64 ((R : Nat) : Int)]) h1 rfl rfl rfl rfl rfl) (wanted_none rfl _) ?_
 rintro a3 w3 ⟨b3, h3⟩; clear h1
 refine wms 1 h3 rfl fun a4 h4 => wpList_nil <| hK2 _ _ <| wp_seq_k fun K5 hK5 => wp_region_lit <| wv h4 (r_ldbw (i := 0) (vs := [code.v, words.v, .int .i64 ((Lk : Nat) : Int), .int .i64 ((R : Nat) : Int)]) ti_25 rfl rfl rfl rfl rfl) rfl rfl fun a6 h6 => wms 1 h6 rfl fun a7 h7 => wv h7 (r_build (cs := [code.v, words.v, .int .i64 ((Lk : Nat) : Int), .int .i64 ((R : Nat) : Int), .int .i64 mode, (.slice none 0 0), (.slice none 0 0), (.slice none 0 0), (.slice none 0 0), .bool false]) rfl rfl (by kernel_rfl)) rfl rfl fun a8 h8 => wl_ex (x_box (cs := [code.v, words.v, .int .i64 ((Lk : Nat) : Int), .int .i64 ((R : Nat) : Int), .int .i64 mode, (.slice none 0 0), (.slice none 0 0), (.slice none 0 0), (.slice none 0 0), .bool false]) h8 rfl rfl rfl rfl rfl) (wanted_none rfl _) ?_; clear h3 h4 h6 h7
 rintro a9 w9 ⟨b9, h9⟩; clear h8
 refine wms 1 h9 rfl fun a10 h10 => wpList_nil <| hK5 _ _ <| wp_seq_k fun K11 hK11 => wp_region_lit <| wms 1 h10 rfl fun a12 h12 => wl_ex (x_lit0 (α := Int) h12 sl_23 ti_3 rfl rfl rfl) (wanted_none rfl _) ?_; clear h9 h10
 rintro a13 w13 ⟨v13, h13⟩; clear h12
 refine wv h13 (r_fieldB (r := 1) fl_25_1 rfl rfl rfl) rfl rfl fun a14 h14 => wv h14 (r_ldb (i := 2) ti_23 rfl rfl rfl rfl) rfl rfl fun a15 h15 => wl_ex (x_app (r := 0) (rm := 4) (s := (⟨v13, []⟩ : Ls Int)) (m := words) h15 sl_23 ti_3 rfl rfl rfl rfl rfl rfl rfl (fun w h => (h.at 4 rfl)) (fun b hb => .inr hb) (fun q hq b hb => .inr ⟨q, hq, hb⟩) rfl rfl rfl inferInstance (show (([]).length + words.l.length) * 8 ≤ 140737488355328 ∧ ([]).length + words.l.length ≤ 140737488355328 from (by first | omega | (simp only [lens9]; omega))) rfl rfl) (wanted_none rfl _) ?_; clear h13 h14
 rintro a16 w16 ⟨v16, h16⟩; clear h15
 refine wv h16 (r_nil rfl rfl) rfl rfl fun a17 h17 => wv h17 (r_fieldB (r := 6) fl_125_3 rfl rfl rfl) rfl rfl fun a18 h18 => wl_ex (x_stb (i := 1) (vs := [v16]) (cs' := [code.v, words.v, .int .i64 ((Lk : Nat) : Int), .int .i64 ((R : Nat) : Int), .int .i64 mode, (.slice none 0 0), v16, (.slice none 0 0), (.slice none 0 0), .bool false]) h18 ti_23 rfl rfl rfl rfl rfl (cells_oneL ((h18.sh.own 0 rfl)).one) rfl (allOne_cons ((h18.sh.own 0 rfl)).one allOne_nil) (Nat.le_of_ble_eq_true rfl) rfl) (wanted_none rfl _) ?_; clear h16 h17
 rintro a19 w19 h19
 clear h18
 refine wpList_nil <| hK11 _ _ <| wp_seq_k fun K20 hK20 => wp_seq_k fun K21 hK21 => wp_region_lit <| wms 1 h19 rfl fun a22 h22 => wpList_nil <| hK21 _ _ <| wp_block ?_; clear h19
 have h24 := h22.nil (α := Int) 3
 clear h22
 refine x_loop (fun m a w => ∃ (i : Nat) (ol : List Int) (vo : Value), (i ≤ Lk) ∧ (ol = List.replicate i (-1)) ∧ (ol.length = i) ∧ St 55 (fun _ => False) W a w [(2, .pointer (some ⟨b3, 0, none⟩)), (5, .pointer (some ⟨b9, 0, none⟩)), (6, .int .i64 ((i : Nat) : Int))] [.own 3 (⟨v16, words.l⟩ : Ls Int), .blk b9 125 [code.v, words.v, .int .i64 ((Lk : Nat) : Int), .int .i64 ((R : Nat) : Int), .int .i64 mode, (.slice none 0 0), v16, vo, (.slice none 0 0), .bool false], .blk b3 25 [code.v, words.v, .int .i64 ((Lk : Nat) : Int), .int .i64 ((R : Nat) : Int)], .at_ code, .at_ words, .own 3 (⟨vo, ol⟩ : Ls Int)] ∧ m = Lk - i) ⟨_, 0, [], (.slice none 0 0), (by omega), (rfl), (rfl), h24.nrm ⟨rfl, rfl, rfl, trivial⟩ [1, 2, 3, 4, 5, 0] (by decide) ⟨rfl, rfl, rfl, rfl, rfl, rfl, trivial⟩, rfl⟩ ?_
 clear h24
 rintro m23 a23 w23 ⟨i, ol, vo, hi, hol, holl, h23, hm23⟩
 refine wp_seq_k fun K25 hK25 => wp_seq_k fun K26 hK26 => wp_region_lit <| wms 1 h23 rfl fun a27 h27 => wv h27 (r_fieldB (r := 2) fl_25_2 rfl rfl rfl) rfl rfl fun a28 h28 => wv h28 (r_ldb (i := 2) ti_3 rfl rfl rfl rfl) rfl rfl fun a29 h29 => wv h29 (r_lssN (p := i) (q := Lk) rfl rfl rfl) rfl rfl fun a30 h30 => wpList_nil <| hK26 _ _ <| x_cond h30 rfl (fun hb31 => ?_) (fun hb31 => ?_); clear h23 h27 h28 h29
 ·have hp31 : i < Lk := of_decide_eq_true hb31
  refine wp_skip <| hK25 _ _ <| wp_seq_k fun K32 hK32 => wp_block <| wp_region_lit <| wms 2 h30 rfl fun a33 h33 => wv h33 (r_nil rfl rfl) rfl rfl fun a34 h34 => wv h34 (r_fieldB (r := 7) fl_125_4 rfl rfl rfl) rfl rfl fun a35 h35 => wv h35 (r_ldb (i := 1) ti_23 rfl rfl rfl rfl) rfl rfl fun a36 h36 => wl_ex (x_lit (n := 1) (cs := [.int .i64 (-1)]) ([(-1)] : List Int) h36 sl_23 ti_3 rfl rfl rfl (by decide) rfl (by kernel_rfl) rfl (fun q hq w h => Flat.inner _ _) (fun q hq b hb => (Flat.on _ _ hb).elim) rfl rfl) (wanted_none rfl _) ?_; clear h30 h33 h34 h35
  rintro a37 w37 ⟨v37, h37⟩; clear h36
  refine wl_ex (x_app (r := 6) (rm := 0) (s := (⟨vo, ol⟩ : Ls Int)) (m := (⟨v37, [(-1)]⟩ : Ls Int)) h37 sl_23 ti_3 rfl rfl rfl rfl rfl rfl rfl (fun w h => (h.own 0 rfl)) (fun b hb => own_on (h37.sh.ok _ (List.mem_of_getElem? (i := 0) rfl)) hb) (fun q hq b hb => ⟨q, hq, hb⟩) rfl rfl rfl inferInstance (show (ol.length + ([(-1)]).length) * 8 ≤ 140737488355328 ∧ ol.length + ([(-1)]).length ≤ 140737488355328 from (by first | omega | (simp only [lens9]; omega))) rfl rfl) (wanted_none rfl _) ?_
  rintro a38 w38 ⟨v38, h38⟩; clear h37
  refine wv h38 (r_nil rfl rfl) rfl rfl fun a39 h39 => wv h39 (r_fieldB (r := 7) fl_125_4 rfl rfl rfl) rfl rfl fun a40 h40 => wl_ex (x_stb (i := 2) (vs := [v38]) (cs' := [code.v, words.v, .int .i64 ((Lk : Nat) : Int), .int .i64 ((R : Nat) : Int), .int .i64 mode, (.slice none 0 0), v16, v38, (.slice none 0 0), .bool false]) h40 ti_23 rfl rfl rfl rfl rfl (cells_oneL ((h40.sh.own 6 rfl)).one) rfl (allOne_cons ((h40.sh.own 6 rfl)).one allOne_nil) (Nat.le_of_ble_eq_true rfl) rfl) (wanted_none rfl _) ?_; clear h38 h39
  rintro a41 w41 h41
  clear h40
  refine wpList_nil <| hK32 _ _ <| wp_region_lit <| wms 1 h41 rfl fun a42 h42 => wv h42 (r_addN (p := i) (q := 1) rfl rfl rfl (show i + 1 < 9223372036854775808 from (by omega))) rfl rfl fun a43 h43 => wms 1 h43 rfl fun a44 h44 => wpList_nil <| x_again ⟨_, ?_, i + 1, ol ++ ([(-1)]), v38, ?_, ?_, ?_, h44.nrm ⟨rfl, rfl, rfl, trivial⟩ [1, 2, 3, 4, 5, 6] (by decide) ⟨rfl, rfl, rfl, rfl, rfl, rfl, trivial⟩, rfl⟩; clear h41 h42 h43
  · rw [hm23]; first | omega | (simp only [lens9]; omega)
  · omega
  · rw [hol, List.replicate_succ']
  · simp [holl]
 have hp31 : ¬ (i < Lk) := of_decide_eq_false hb31
 refine wp_exit <| hK20 _ _ ?_
 have hol2 : ol = List.replicate Lk (-1) := by rw [hol, show i = Lk by omega]
 clear hol hi holl
 refine wp_seq_k fun K45 hK45 => wp_seq_k fun K46 hK46 => wp_region_lit <| wms 1 h30 rfl fun a47 h47 => wpList_nil <| hK46 _ _ <| wp_block ?_; clear h30
 have h49 := h47.nil (α := ThV) 147
 clear h47
 have h50 := h49.big0 3 210
 clear h49
 refine x_loop (fun m a w => ∃ (i : Nat) (rows : List ThL) (vt : Value), (i ≤ code.l.length) ∧ (rows.length = i) ∧ (rows.map ThL.th = List.replicate i ⟨0, List.replicate R 0, []⟩) ∧ St 55 (fun _ => False) W a w [(2, .pointer (some ⟨b3, 0, none⟩)), (5, .pointer (some ⟨b9, 0, none⟩)), (7, .int .i64 ((i : Nat) : Int))] [.own 3 (⟨v16, words.l⟩ : Ls Int), .blk b9 125 [code.v, words.v, .int .i64 ((Lk : Nat) : Int), .int .i64 ((R : Nat) : Int), .int .i64 mode, vt, v16, vo, (.slice none 0 0), .bool false], .blk b3 25 [code.v, words.v, .int .i64 ((Lk : Nat) : Int), .int .i64 ((R : Nat) : Int)], .at_ code, .at_ words, .own 3 (⟨vo, ol⟩ : Ls Int), .own 147 (⟨vt, rows.map ThL.toV⟩ : Ls ThV), .big (rowsA 3 210 rows)] ∧ m = code.l.length - i) ⟨_, 0, [], _, (by omega), (rfl), (rfl), h50.nrm ⟨rfl, rfl, rfl, trivial⟩ [2, 3, 4, 5, 6, 7, 1, 0] (by decide) ⟨rfl, rfl, rfl, rfl, rfl, rfl, rfl, rfl, trivial⟩, rfl⟩ ?_
 clear h50
 rintro m48 a48 w48 ⟨i, rows, vt, hi, hrl, hrw, h48, hm48⟩
 refine wp_seq_k fun K51 hK51 => wp_seq_k fun K52 hK52 => wp_region_lit <| wms 1 h48 rfl fun a53 h53 => wv h53 (r_fieldB (r := 0) fl_25_0 rfl rfl rfl) rfl rfl fun a54 h54 => wv h54 (r_ldb (i := 2) ti_22 rfl rfl rfl rfl) rfl rfl fun a55 h55 => ?_; clear h48 h53 h54
 have hl56 : code.l.length ≤ 140737488355328 := (h55.sh.at 3 rfl).len
 refine wv h55 (r_len (s := code) (n := code.l.length) sl_22 rfl rfl (fun w h => (h.at 3 rfl)) rfl) rfl rfl fun a57 h57 => wv h57 (r_lssN (p := i) (q := code.l.length) rfl rfl rfl) rfl rfl fun a58 h58 => wpList_nil <| hK52 _ _ <| x_cond h58 rfl (fun hb59 => ?_) (fun hb59 => ?_); clear h55 h57
 ·have hp59 : i < code.l.length := of_decide_eq_true hb59
  refine wp_skip <| hK51 _ _ <| wp_seq_k fun K60 hK60 => wp_block ?_
  have h61 : St 55 (fun _ => False) W a58 w48 [(2, .pointer (some ⟨b3, 0, none⟩)), (5, .pointer (some ⟨b9, 0, none⟩)), (7, .int .i64 ((i : Nat) : Int)), (34, .int .i64 ((i : Nat) : Int)), (35, .pointer (some ⟨b3, 0, none⟩)), (36, code.v), (37, .int .i64 ((code.l.length : Nat) : Int)), (38, .bool (decide (i < code.l.length)))] [.own 3 (⟨v16, words.l⟩ : Ls Int), .blk b9 125 [code.v, words.v, .int .i64 ((Lk : Nat) : Int), .int .i64 ((R : Nat) : Int), .int .i64 mode, vt, v16, vo, (.slice none 0 0), .bool false], .blk b3 25 [code.v, words.v, .int .i64 ((Lk : Nat) : Int), .int .i64 ((R : Nat) : Int)], .at_ code, .at_ words, .own 3 (⟨vo, ol⟩ : Ls Int), .own 147 (⟨vt, rows.map ThL.toV⟩ : Ls ThV), .big (rowsA 3 210 rows)] := h58.nrm ⟨rfl, rfl, rfl, rfl, rfl, rfl, rfl, rfl, trivial⟩ [0, 1, 2, 3, 4, 5, 6, 7] (by decide) ⟨rfl, rfl, rfl, rfl, rfl, rfl, rfl, rfl, trivial⟩
  clear h58
  refine x_any ((fun Φ Ψ S a w => (S 7 = false ∧ S 9 = false ∧ S 10 = false ∧ S 13 = false ∧ FrI 55 S Φ Ψ a ∧ Sh (fun _ => False) W w [.own 3 (⟨v16, words.l⟩ : Ls Int), .blk b9 125 [code.v, words.v, .int .i64 ((Lk : Nat) : Int), .int .i64 ((R : Nat) : Int), .int .i64 mode, vt, v16, vo, (.slice none 0 0), .bool false], .blk b3 25 [code.v, words.v, .int .i64 ((Lk : Nat) : Int), .int .i64 ((R : Nat) : Int)], .at_ code, .at_ words, .own 3 (⟨vo, ol⟩ : Ls Int), .own 147 (⟨vt, rows.map ThL.toV⟩ : Ls ThV), .big (rowsA 3 210 rows)]) ∨ (S 7 = true ∧ S 9 = false ∧ S 10 = false ∧ S 13 = false ∧ ∃ (v7007 : Value), FrI 55 S Φ (Ψ ++ [(7, 48, v7007), (8, 49, .agg #[.int .i64 0, v7007, (.slice none 0 0)])]) a ∧ Sh (fun _ => False) W w [.own 3 (⟨v7007, List.replicate R 0⟩ : Ls Int), .own 3 (⟨v16, words.l⟩ : Ls Int), .blk b9 125 [code.v, words.v, .int .i64 ((Lk : Nat) : Int), .int .i64 ((R : Nat) : Int), .int .i64 mode, vt, v16, vo, (.slice none 0 0), .bool false], .blk b3 25 [code.v, words.v, .int .i64 ((Lk : Nat) : Int), .int .i64 ((R : Nat) : Int)], .at_ code, .at_ words, .own 3 (⟨vo, ol⟩ : Ls Int), .own 147 (⟨vt, rows.map ThL.toV⟩ : Ls ThV), .big (rowsA 3 210 rows)]) ∨ (S 7 = true ∧ S 9 = true ∧ S 10 = false ∧ S 13 = false ∧ ∃ (v7007 : Value) (v7009 : Value), FrI 55 S Φ (Ψ ++ [(7, 48, v7007), (8, 49, .agg #[.int .i64 0, v7007, (.slice none 0 0)]), (9, 50, v7009)]) a ∧ Sh (fun _ => False) W w [.own 147 (⟨v7009, [(⟨0, v7007, (.slice none 0 0)⟩ : ThV)]⟩ : Ls ThV), .own 3 (⟨v7007, List.replicate R 0⟩ : Ls Int), .own 3 (⟨v16, words.l⟩ : Ls Int), .blk b9 125 [code.v, words.v, .int .i64 ((Lk : Nat) : Int), .int .i64 ((R : Nat) : Int), .int .i64 mode, vt, v16, vo, (.slice none 0 0), .bool false], .blk b3 25 [code.v, words.v, .int .i64 ((Lk : Nat) : Int), .int .i64 ((R : Nat) : Int)], .at_ code, .at_ words, .own 3 (⟨vo, ol⟩ : Ls Int), .own 147 (⟨vt, rows.map ThL.toV⟩ : Ls ThV), .big (rowsA 3 210 rows)]) ∨ (S 7 = true ∧ S 9 = true ∧ S 10 = true ∧ S 13 = false ∧ ∃ (v7007 : Value) (v7009 : Value) (v7010 : Value), FrI 55 S Φ (Ψ ++ [(7, 48, v7007), (8, 49, .agg #[.int .i64 0, v7007, (.slice none 0 0)]), (9, 50, v7009), (10, 51, v7010), (11, 52, .pointer (some ⟨b9, 0, none⟩)), (12, 53, .pointer (some ⟨b9, 5, none⟩))]) a ∧ Sh (fun _ => False) W w [.own 147 (⟨v7009, [(⟨0, v7007, (.slice none 0 0)⟩ : ThV)]⟩ : Ls ThV), .own 3 (⟨v7007, List.replicate R 0⟩ : Ls Int), .own 3 (⟨v16, words.l⟩ : Ls Int), .blk b9 125 [code.v, words.v, .int .i64 ((Lk : Nat) : Int), .int .i64 ((R : Nat) : Int), .int .i64 mode, vt, v16, vo, (.slice none 0 0), .bool false], .blk b3 25 [code.v, words.v, .int .i64 ((Lk : Nat) : Int), .int .i64 ((R : Nat) : Int)], .at_ code, .at_ words, .own 3 (⟨vo, ol⟩ : Ls Int), .own 147 (⟨v7010, (rows.map ThL.toV) ++ ([(⟨0, v7007, (.slice none 0 0)⟩ : ThV)])⟩ : Ls ThV), .big (rowsA 3 210 rows)]) ∨ (S 7 = true ∧ S 9 = true ∧ S 10 = true ∧ S 13 = true ∧ ∃ (v7007 : Value) (v7009 : Value) (v7010 : Value), FrI 55 S Φ (Ψ ++ [(7, 48, v7007), (8, 49, .agg #[.int .i64 0, v7007, (.slice none 0 0)]), (9, 50, v7009), (10, 51, v7010), (11, 52, .pointer (some ⟨b9, 0, none⟩)), (12, 53, .pointer (some ⟨b9, 5, none⟩))]) a ∧ Sh (fun _ => False) W w [.own 147 (⟨v7009, [(⟨0, v7007, (.slice none 0 0)⟩ : ThV)]⟩ : Ls ThV), .own 3 (⟨v7007, List.replicate R 0⟩ : Ls Int), .own 3 (⟨v16, words.l⟩ : Ls Int), .blk b9 125 [code.v, words.v, .int .i64 ((Lk : Nat) : Int), .int .i64 ((R : Nat) : Int), .int .i64 mode, v7010, v16, vo, (.slice none 0 0), .bool false], .blk b3 25 [code.v, words.v, .int .i64 ((Lk : Nat) : Int), .int .i64 ((R : Nat) : Int)], .at_ code, .at_ words, .own 3 (⟨vo, ol⟩ : Ls Int), .own 147 (⟨v7010, (rows.map ThL.toV) ++ ([(⟨0, v7007, (.slice none 0 0)⟩ : ThV)])⟩ : Ls ThV), .big (rowsA 3 210 rows)])) [(2, .pointer (some ⟨b3, 0, none⟩)), (5, .pointer (some ⟨b9, 0, none⟩)), (7, .int .i64 ((i : Nat) : Int)), (34, .int .i64 ((i : Nat) : Int)), (35, .pointer (some ⟨b3, 0, none⟩)), (36, code.v), (37, .int .i64 ((code.l.length : Nat) : Int)), (38, .bool (decide (i < code.l.length)))] [(0, 41, .pointer (some ⟨b9, 0, none⟩)), (1, 42, .pointer (some ⟨b9, 0, none⟩)), (2, 43, .pointer (some ⟨b9, 0, none⟩)), (3, 44, .pointer (some ⟨b9, 5, none⟩)), (4, 45, vt), (5, 46, .pointer (some ⟨b3, 3, none⟩)), (6, 47, .int .i64 ((R : Nat) : Int))]) (by kernel_rfl) (by kernel_rfl) (Or.inl (⟨rfl, rfl, rfl, rfl, FrI.start h61.fr, h61.sh.drew⟩)) ?_ ?_
  ·intro S i o ho hSi hcl hdep a w hI
   clear h61
   rcases i with _ | _ | _ | _ | _ | _ | _ | _ | _ | _ | _ | _ | _ | _ | i
   ·obtain rfl : _ = o := Option.some.inj ho
    rcases hI with ⟨ν7, ν9, ν10, ν13, φ, ς⟩ | ⟨ν7, ν9, ν10, ν13, v7007, φ, ς⟩ | ⟨ν7, ν9, ν10, ν13, v7007, v7009, φ, ς⟩ | ⟨ν7, ν9, ν10, ν13, v7007, v7009, v7010, φ, ς⟩ | ⟨_, _, _, ν13, _⟩
    ·exact sq φ φ.fr0 ς (r_move rfl rfl) 0 rfl rfl rfl rfl rfl rfl fun a hg => Or.inl (⟨un rfl ν7, un rfl ν9, un rfl ν10, un rfl ν13, hg, ς⟩)
    ·exact sq φ φ.fr0 ς (r_move rfl rfl) 0 rfl rfl rfl rfl rfl rfl fun a hg => Or.inr (Or.inl (⟨un rfl ν7, un rfl ν9, un rfl ν10, un rfl ν13, v7007, hg, ς⟩))
    ·exact sq φ φ.fr0 ς (r_move rfl rfl) 0 rfl rfl rfl rfl rfl rfl fun a hg => Or.inr (Or.inr (Or.inl (⟨un rfl ν7, un rfl ν9, un rfl ν10, un rfl ν13, v7007, v7009, hg, ς⟩)))
    ·exact sq φ φ.fr0 ς (r_move rfl rfl) 0 rfl rfl rfl rfl rfl rfl fun a hg => Or.inr (Or.inr (Or.inr (Or.inl (⟨un rfl ν7, un rfl ν9, un rfl ν10, un rfl ν13, v7007, v7009, v7010, hg, ς⟩))))
    ·exact no_way (cA hcl 13 0 rfl ν13) hSi
   ·obtain rfl : _ = o := Option.some.inj ho
    rcases hI with ⟨ν7, ν9, ν10, ν13, φ, ς⟩ | ⟨ν7, ν9, ν10, ν13, v7007, φ, ς⟩ | ⟨ν7, ν9, ν10, ν13, v7007, v7009, φ, ς⟩ | ⟨_, _, ν10, _⟩ | ⟨_, _, ν10, _⟩
    ·exact sq φ φ.fr0 ς (r_move rfl rfl) 1 rfl rfl rfl rfl rfl rfl fun a hg => Or.inl (⟨un rfl ν7, un rfl ν9, un rfl ν10, un rfl ν13, hg, ς⟩)
    ·exact sq φ φ.fr0 ς (r_move rfl rfl) 1 rfl rfl rfl rfl rfl rfl fun a hg => Or.inr (Or.inl (⟨un rfl ν7, un rfl ν9, un rfl ν10, un rfl ν13, v7007, hg, ς⟩))
    ·exact sq φ φ.fr0 ς (r_move rfl rfl) 1 rfl rfl rfl rfl rfl rfl fun a hg => Or.inr (Or.inr (Or.inl (⟨un rfl ν7, un rfl ν9, un rfl ν10, un rfl ν13, v7007, v7009, hg, ς⟩)))
    ·exact no_way (cA hcl 10 1 rfl ν10) hSi
    ·exact no_way (cA hcl 10 1 rfl ν10) hSi
   ·obtain rfl : _ = o := Option.some.inj ho
    have hd1 : S 1 = true := depAt hdep 0 rfl rfl
    rcases hI with ⟨ν7, ν9, ν10, ν13, φ, ς⟩ | ⟨ν7, ν9, ν10, ν13, v7007, φ, ς⟩ | ⟨ν7, ν9, ν10, ν13, v7007, v7009, φ, ς⟩ | ⟨_, _, ν10, _⟩ | ⟨_, _, ν10, _⟩
    ·exact sq φ (Fr.cons φ.fr0 (φ.at_ 1 1 42 _ rfl hd1)) ς (r_nil rfl rfl) 2 rfl rfl rfl rfl rfl rfl fun a hg => Or.inl (⟨un rfl ν7, un rfl ν9, un rfl ν10, un rfl ν13, hg, ς⟩)
    ·exact sq φ (Fr.cons φ.fr0 (φ.at_ 1 1 42 _ rfl hd1)) ς (r_nil rfl rfl) 2 rfl rfl rfl rfl rfl rfl fun a hg => Or.inr (Or.inl (⟨un rfl ν7, un rfl ν9, un rfl ν10, un rfl ν13, v7007, hg, ς⟩))
    ·exact sq φ (Fr.cons φ.fr0 (φ.at_ 1 1 42 _ rfl hd1)) ς (r_nil rfl rfl) 2 rfl rfl rfl rfl rfl rfl fun a hg => Or.inr (Or.inr (Or.inl (⟨un rfl ν7, un rfl ν9, un rfl ν10, un rfl ν13, v7007, v7009, hg, ς⟩)))
    ·exact no_way (cA hcl 10 2 rfl ν10) hSi
    ·exact no_way (cA hcl 10 2 rfl ν10) hSi
   ·obtain rfl : _ = o := Option.some.inj ho
    have hd2 : S 2 = true := depAt hdep 0 rfl rfl
    rcases hI with ⟨ν7, ν9, ν10, ν13, φ, ς⟩ | ⟨ν7, ν9, ν10, ν13, v7007, φ, ς⟩ | ⟨ν7, ν9, ν10, ν13, v7007, v7009, φ, ς⟩ | ⟨_, _, ν10, _⟩ | ⟨_, _, ν10, _⟩
    ·exact sq φ (Fr.cons φ.fr0 (φ.at_ 2 2 43 _ rfl hd2)) ς (r_fieldB (r := 5) fl_125_2 rfl rfl rfl) 3 rfl rfl rfl rfl rfl rfl fun a hg => Or.inl (⟨un rfl ν7, un rfl ν9, un rfl ν10, un rfl ν13, hg, ς⟩)
    ·exact sq φ (Fr.cons φ.fr0 (φ.at_ 2 2 43 _ rfl hd2)) ς (r_fieldB (r := 5) fl_125_2 rfl rfl rfl) 3 rfl rfl rfl rfl rfl rfl fun a hg => Or.inr (Or.inl (⟨un rfl ν7, un rfl ν9, un rfl ν10, un rfl ν13, v7007, hg, ς⟩))
    ·exact sq φ (Fr.cons φ.fr0 (φ.at_ 2 2 43 _ rfl hd2)) ς (r_fieldB (r := 5) fl_125_2 rfl rfl rfl) 3 rfl rfl rfl rfl rfl rfl fun a hg => Or.inr (Or.inr (Or.inl (⟨un rfl ν7, un rfl ν9, un rfl ν10, un rfl ν13, v7007, v7009, hg, ς⟩)))
    ·exact no_way (cA hcl 10 3 rfl ν10) hSi
    ·exact no_way (cA hcl 10 3 rfl ν10) hSi
   ·obtain rfl : _ = o := Option.some.inj ho
    have hd3 : S 3 = true := depAt hdep 0 rfl rfl
    rcases hI with ⟨ν7, ν9, ν10, ν13, φ, ς⟩ | ⟨ν7, ν9, ν10, ν13, v7007, φ, ς⟩ | ⟨ν7, ν9, ν10, ν13, v7007, v7009, φ, ς⟩ | ⟨_, _, ν10, _⟩ | ⟨_, _, ν10, _⟩
    ·exact sq φ (Fr.cons φ.fr0 (φ.at_ 3 3 44 _ rfl hd3)) ς (r_ldb (i := 1) ti_123 rfl rfl rfl rfl) 4 rfl rfl rfl rfl rfl rfl fun a hg => Or.inl (⟨un rfl ν7, un rfl ν9, un rfl ν10, un rfl ν13, hg, ς⟩)
    ·exact sq φ (Fr.cons φ.fr0 (φ.at_ 3 3 44 _ rfl hd3)) ς (r_ldb (i := 2) ti_123 rfl rfl rfl rfl) 4 rfl rfl rfl rfl rfl rfl fun a hg => Or.inr (Or.inl (⟨un rfl ν7, un rfl ν9, un rfl ν10, un rfl ν13, v7007, hg, ς⟩))
    ·exact sq φ (Fr.cons φ.fr0 (φ.at_ 3 3 44 _ rfl hd3)) ς (r_ldb (i := 3) ti_123 rfl rfl rfl rfl) 4 rfl rfl rfl rfl rfl rfl fun a hg => Or.inr (Or.inr (Or.inl (⟨un rfl ν7, un rfl ν9, un rfl ν10, un rfl ν13, v7007, v7009, hg, ς⟩)))
    ·exact no_way (cA hcl 10 4 rfl ν10) hSi
    ·exact no_way (cA hcl 10 4 rfl ν10) hSi
   ·obtain rfl : _ = o := Option.some.inj ho
    rcases hI with ⟨ν7, ν9, ν10, ν13, φ, ς⟩ | ⟨ν7, _⟩ | ⟨ν7, _⟩ | ⟨ν7, _⟩ | ⟨ν7, _⟩
    ·exact sq φ φ.fr0 ς (r_fieldB (r := 3) fl_25_3 rfl rfl rfl) 5 rfl rfl rfl rfl rfl rfl fun a hg => Or.inl (⟨un rfl ν7, un rfl ν9, un rfl ν10, un rfl ν13, hg, ς⟩)
    ·exact no_way (cA hcl 7 5 rfl ν7) hSi
    ·exact no_way (cA hcl 7 5 rfl ν7) hSi
    ·exact no_way (cA hcl 7 5 rfl ν7) hSi
    ·exact no_way (cA hcl 7 5 rfl ν7) hSi
   ·obtain rfl : _ = o := Option.some.inj ho
    have hd5 : S 5 = true := depAt hdep 0 rfl rfl
    rcases hI with ⟨ν7, ν9, ν10, ν13, φ, ς⟩ | ⟨ν7, _⟩ | ⟨ν7, _⟩ | ⟨ν7, _⟩ | ⟨ν7, _⟩
    ·exact sq φ (Fr.cons φ.fr0 (φ.at_ 5 5 46 _ rfl hd5)) ς (r_ldb (i := 2) ti_3 rfl rfl rfl rfl) 6 rfl rfl rfl rfl rfl rfl fun a hg => Or.inl (⟨un rfl ν7, un rfl ν9, un rfl ν10, un rfl ν13, hg, ς⟩)
    ·exact no_way (cA hcl 7 6 rfl ν7) hSi
    ·exact no_way (cA hcl 7 6 rfl ν7) hSi
    ·exact no_way (cA hcl 7 6 rfl ν7) hSi
    ·exact no_way (cA hcl 7 6 rfl ν7) hSi
   ·obtain rfl : _ = o := Option.some.inj ho
    have hd6 : S 6 = true := depAt hdep 0 rfl rfl
    rcases hI with ⟨ν7, ν9, ν10, ν13, φ, ς⟩ | ⟨ν7, _⟩ | ⟨ν7, _⟩ | ⟨ν7, _⟩ | ⟨ν7, _⟩
    ·have hs := St.mk (Fr.cons φ.fr0 (φ.at_ 6 6 47 _ rfl hd6)) ς
     refine step_ex (x_make (n := R) (0 : Int) hs sl_23 ti_3 rfl rfl rfl rfl rfl (show 8 * R ≤ 140737488355328 ∧ R ≤ 140737488355328 from (by omega)) (fun w => Flat.inner _ _) (fun b => Flat.on _ _) rfl rfl) (wanted_none rfl _) ?_
     rintro a85 w85 ⟨v85, h85⟩ ⟨v0, ht85⟩
     exact Or.inr (Or.inl (⟨upd_self _ _, un rfl ν9, un rfl ν10, un rfl ν13, v85, φ.stepW hcl hSi [0, 1, 2, 3, 4, 5, 6] (by kernel_rfl) (by kernel_rfl) ht85 h85.fr.defers (h85.fr.at_ 48 _ rfl) 7 rfl rfl rfl rfl, (h85.sh.sel (L' := [.own 3 (⟨v85, List.replicate R 0⟩ : Ls Int), .own 3 (⟨v16, words.l⟩ : Ls Int), .blk b9 125 [code.v, words.v, .int .i64 ((Lk : Nat) : Int), .int .i64 ((R : Nat) : Int), .int .i64 mode, vt, v16, vo, (.slice none 0 0), .bool false], .blk b3 25 [code.v, words.v, .int .i64 ((Lk : Nat) : Int), .int .i64 ((R : Nat) : Int)], .at_ code, .at_ words, .own 3 (⟨vo, ol⟩ : Ls Int), .own 147 (⟨vt, rows.map ThL.toV⟩ : Ls ThV), .big (rowsA 3 210 rows)]) [0, 1, 2, 3, 4, 5, 6, 7, 8] (by decide) ⟨rfl, rfl, rfl, rfl, rfl, rfl, rfl, rfl, rfl, trivial⟩)⟩))
    ·exact no_way ν7 hSi
    ·exact no_way ν7 hSi
    ·exact no_way ν7 hSi
    ·exact no_way ν7 hSi
   ·obtain rfl : _ = o := Option.some.inj ho
    have hd7 : S 7 = true := depAt hdep 0 rfl rfl
    rcases hI with ⟨ν7, _⟩ | ⟨ν7, ν9, ν10, ν13, v7007, φ, ς⟩ | ⟨_, ν9, _⟩ | ⟨_, ν9, _⟩ | ⟨_, ν9, _⟩
    ·exact no_way hd7 ν7
    ·have hs := St.mk (Fr.cons φ.fr0 (φ.at_ 7 7 48 _ rfl hd7)) ς
     exact sq φ (Fr.cons φ.fr0 (φ.at_ 7 7 48 _ rfl hd7)) ς (r_build (cs := [.int .i64 0, v7007, (.slice none 0 0)]) rfl rfl (by obtain ⟨A86, n86, c86, (e86 : v7007 = _)⟩ := ((hs.sh.own 0 rfl)).form; rw [e86]; kernel_rfl)) 8 rfl rfl rfl rfl rfl rfl fun a hg => Or.inr (Or.inl (⟨un rfl ν7, un rfl ν9, un rfl ν10, un rfl ν13, v7007, hg, ς⟩))
    ·exact no_way (cA hcl 9 8 rfl ν9) hSi
    ·exact no_way (cA hcl 9 8 rfl ν9) hSi
    ·exact no_way (cA hcl 9 8 rfl ν9) hSi
   ·obtain rfl : _ = o := Option.some.inj ho
    have hd8 : S 8 = true := depAt hdep 0 rfl rfl
    rcases hI with ⟨ν7, _⟩ | ⟨ν7, ν9, ν10, ν13, v7007, φ, ς⟩ | ⟨_, ν9, _⟩ | ⟨_, ν9, _⟩ | ⟨_, ν9, _⟩
    ·exact no_way (cA hcl 8 7 rfl hd8) ν7
    ·have hs := St.mk (Fr.cons φ.fr0 (φ.at_ 8 8 49 _ rfl hd8)) ς
     refine step_ex (x_lit (n := 1) (cs := [.int .i64 0, v7007, (.slice none 0 0)]) ([(⟨0, v7007, (.slice none 0 0)⟩ : ThV)] : List ThV) hs sl_123 ti_147 rfl rfl rfl (by decide) rfl (by kernel_rfl) rfl (fun q hq w h => Flat.inner _ _) (fun q hq b hb => (Flat.on _ _ hb).elim) rfl rfl) (wanted_none rfl _) ?_
     rintro a88 w88 ⟨v88, h88⟩ ⟨v0, ht88⟩
     exact Or.inr (Or.inr (Or.inl (⟨un rfl ν7, upd_self _ _, un rfl ν10, un rfl ν13, v7007, v88, φ.stepW hcl hSi [0, 1, 2, 3, 4, 5, 6, 7, 8] (by kernel_rfl) (by kernel_rfl) ht88 h88.fr.defers (h88.fr.at_ 50 _ rfl) 9 rfl rfl rfl rfl, (h88.sh.sel (L' := [.own 147 (⟨v88, [(⟨0, v7007, (.slice none 0 0)⟩ : ThV)]⟩ : Ls ThV), .own 3 (⟨v7007, List.replicate R 0⟩ : Ls Int), .own 3 (⟨v16, words.l⟩ : Ls Int), .blk b9 125 [code.v, words.v, .int .i64 ((Lk : Nat) : Int), .int .i64 ((R : Nat) : Int), .int .i64 mode, vt, v16, vo, (.slice none 0 0), .bool false], .blk b3 25 [code.v, words.v, .int .i64 ((Lk : Nat) : Int), .int .i64 ((R : Nat) : Int)], .at_ code, .at_ words, .own 3 (⟨vo, ol⟩ : Ls Int), .own 147 (⟨vt, rows.map ThL.toV⟩ : Ls ThV), .big (rowsA 3 210 rows)]) [0, 1, 2, 3, 4, 5, 6, 7, 8, 9] (by decide) ⟨rfl, rfl, rfl, rfl, rfl, rfl, rfl, rfl, rfl, rfl, trivial⟩)⟩)))
    ·exact no_way ν9 hSi
    ·exact no_way ν9 hSi
    ·exact no_way ν9 hSi
   ·obtain rfl : _ = o := Option.some.inj ho
    have hd4 : S 4 = true := depAt hdep 0 rfl rfl
    have hd9 : S 9 = true := depAt hdep 1 rfl rfl
    rcases hI with ⟨ν7, _⟩ | ⟨_, ν9, _⟩ | ⟨ν7, ν9, ν10, ν13, v7007, v7009, φ, ς⟩ | ⟨_, _, ν10, _⟩ | ⟨_, _, ν10, _⟩
    ·exact no_way (cA hcl 9 7 rfl hd9) ν7
    ·exact no_way hd9 ν9
    ·have hs := St.mk (Fr.cons (Fr.cons φ.fr0 (φ.at_ 4 4 45 _ rfl hd4)) (φ.at_ 9 9 50 _ rfl hd9)) ς
     refine step_ex (x_app1 (r := 8) (rm := 0) (s := (⟨vt, rows.map ThL.toV⟩ : Ls ThV)) (m := (⟨v7009, [(⟨0, v7007, (.slice none 0 0)⟩ : ThV)]⟩ : Ls ThV)) hs sl_123 ti_147 rfl rfl rfl rfl rfl rfl rfl (fun w h => (h.own 0 rfl)) (fun b hb => own_on (hs.sh.ok _ (List.mem_of_getElem? (i := 0) rfl)) hb) (fun q hq b hb => ⟨q, hq, hb⟩) rfl rfl rfl (fun w h q hq j hj => by obtain rfl : q = 0 := (by simpa using hq); rcases j with _ | _ | _ | j; exact rfl; exact ((h.own 1 rfl)).one; exact rfl; exact absurd hj (by show ¬ (j + 3 < 3); omega)) (show ((rows.map ThL.toV).length + ([(⟨0, v7007, (.slice none 0 0)⟩ : ThV)]).length) * 56 ≤ 140737488355328 ∧ (rows.map ThL.toV).length + ([(⟨0, v7007, (.slice none 0 0)⟩ : ThV)]).length ≤ 140737488355328 from (by first | omega | (simp only [lens9]; omega))) rfl rfl) (wanted_none rfl _) ?_
     rintro a89 w89 ⟨v89, h89⟩ ⟨v0, ht89⟩
     exact Or.inr (Or.inr (Or.inr (Or.inl (⟨un rfl ν7, un rfl ν9, upd_self _ _, un rfl ν13, v7007, v7009, v89, φ.stepW hcl hSi [0, 1, 2, 3, 4, 5, 6, 7, 8, 9] (by kernel_rfl) (by kernel_rfl) ht89 h89.fr.defers (h89.fr.at_ 51 _ rfl) 10 rfl rfl rfl rfl, (h89.sh.sel (L' := [.own 147 (⟨v7009, [(⟨0, v7007, (.slice none 0 0)⟩ : ThV)]⟩ : Ls ThV), .own 3 (⟨v7007, List.replicate R 0⟩ : Ls Int), .own 3 (⟨v16, words.l⟩ : Ls Int), .blk b9 125 [code.v, words.v, .int .i64 ((Lk : Nat) : Int), .int .i64 ((R : Nat) : Int), .int .i64 mode, vt, v16, vo, (.slice none 0 0), .bool false], .blk b3 25 [code.v, words.v, .int .i64 ((Lk : Nat) : Int), .int .i64 ((R : Nat) : Int)], .at_ code, .at_ words, .own 3 (⟨vo, ol⟩ : Ls Int), .own 147 (⟨v89, (rows.map ThL.toV) ++ ([(⟨0, v7007, (.slice none 0 0)⟩ : ThV)])⟩ : Ls ThV), .big (rowsA 3 210 rows)]) [0, 1, 2, 3, 4, 5, 6, 7, 8, 9] (by decide) ⟨rfl, rfl, rfl, rfl, rfl, rfl, rfl, rfl, rfl, rfl, trivial⟩)⟩))))
    ·exact no_way ν10 hSi
    ·exact no_way ν10 hSi
   ·obtain rfl : _ = o := Option.some.inj ho
    have hd0 : S 0 = true := depAt hdep 0 rfl rfl
    have hd7 : S 7 = true := depAt hdep 8 rfl rfl
    have hd9 : S 9 = true := depAt hdep 10 rfl rfl
    have hd10 : S 10 = true := depAt hdep 11 rfl rfl
    rcases hI with ⟨ν7, _⟩ | ⟨_, ν9, _⟩ | ⟨_, _, ν10, _⟩ | ⟨ν7, ν9, ν10, ν13, v7007, v7009, v7010, φ, ς⟩ | ⟨_, _, _, ν13, _⟩
    ·exact no_way hd7 ν7
    ·exact no_way hd9 ν9
    ·exact no_way hd10 ν10
    ·exact sq φ (Fr.cons φ.fr0 (φ.at_ 0 0 41 _ rfl hd0)) ς (r_nil rfl rfl) 11 rfl rfl rfl rfl rfl rfl fun a hg => Or.inr (Or.inr (Or.inr (Or.inl (⟨un rfl ν7, un rfl ν9, un rfl ν10, un rfl ν13, v7007, v7009, v7010, hg, ς⟩))))
    ·exact no_way (cA hcl 13 11 rfl ν13) hSi
   ·obtain rfl : _ = o := Option.some.inj ho
    have hd11 : S 11 = true := depAt hdep 0 rfl rfl
    have hd7 : S 7 = true := depAt hdep 8 rfl rfl
    have hd9 : S 9 = true := depAt hdep 10 rfl rfl
    have hd10 : S 10 = true := depAt hdep 11 rfl rfl
    rcases hI with ⟨ν7, _⟩ | ⟨_, ν9, _⟩ | ⟨_, _, ν10, _⟩ | ⟨ν7, ν9, ν10, ν13, v7007, v7009, v7010, φ, ς⟩ | ⟨_, _, _, ν13, _⟩
    ·exact no_way hd7 ν7
    ·exact no_way hd9 ν9
    ·exact no_way hd10 ν10
    ·exact sq φ (Fr.cons φ.fr0 (φ.at_ 11 11 52 _ rfl hd11)) ς (r_fieldB (r := 5) fl_125_2 rfl rfl rfl) 12 rfl rfl rfl rfl rfl rfl fun a hg => Or.inr (Or.inr (Or.inr (Or.inl (⟨un rfl ν7, un rfl ν9, un rfl ν10, un rfl ν13, v7007, v7009, v7010, hg, ς⟩))))
    ·exact no_way (cA hcl 13 12 rfl ν13) hSi
   ·obtain rfl : _ = o := Option.some.inj ho
    have hd12 : S 12 = true := depAt hdep 0 rfl rfl
    have hd10 : S 10 = true := depAt hdep 1 rfl rfl
    have hd7 : S 7 = true := depAt hdep 10 rfl rfl
    have hd9 : S 9 = true := depAt hdep 12 rfl rfl
    rcases hI with ⟨ν7, _⟩ | ⟨_, ν9, _⟩ | ⟨_, _, ν10, _⟩ | ⟨ν7, ν9, ν10, ν13, v7007, v7009, v7010, φ, ς⟩ | ⟨_, _, _, ν13, _⟩
    ·exact no_way hd7 ν7
    ·exact no_way hd9 ν9
    ·exact no_way hd10 ν10
    ·have hs := St.mk (Fr.cons (Fr.cons φ.fr0 (φ.at_ 10 10 51 _ rfl hd10)) (φ.at_ 12 12 53 _ rfl hd12)) ς
     refine step_ex (x_stb (i := 3) (vs := [v7010]) (cs' := [code.v, words.v, .int .i64 ((Lk : Nat) : Int), .int .i64 ((R : Nat) : Int), .int .i64 mode, v7010, v16, vo, (.slice none 0 0), .bool false]) hs ti_123 rfl rfl rfl rfl rfl (cells_oneL ((hs.sh.own 8 rfl)).one) rfl (allOne_cons ((hs.sh.own 8 rfl)).one allOne_nil) (Nat.le_of_ble_eq_true rfl) rfl) (wanted_none rfl _) ?_
     rintro a92 w92 h92 ⟨v0, ht92⟩
     exact Or.inr (Or.inr (Or.inr (Or.inr (⟨un rfl ν7, un rfl ν9, un rfl ν10, upd_self _ _, v7007, v7009, v7010, φ.noneW hcl hSi [0, 1, 2, 3, 4, 5, 6, 7, 8, 9, 10, 11, 12] (by kernel_rfl) (by kernel_rfl) ht92 h92.fr.defers rfl, (h92.sh.sel (L' := [.own 147 (⟨v7009, [(⟨0, v7007, (.slice none 0 0)⟩ : ThV)]⟩ : Ls ThV), .own 3 (⟨v7007, List.replicate R 0⟩ : Ls Int), .own 3 (⟨v16, words.l⟩ : Ls Int), .blk b9 125 [code.v, words.v, .int .i64 ((Lk : Nat) : Int), .int .i64 ((R : Nat) : Int), .int .i64 mode, v7010, v16, vo, (.slice none 0 0), .bool false], .blk b3 25 [code.v, words.v, .int .i64 ((Lk : Nat) : Int), .int .i64 ((R : Nat) : Int)], .at_ code, .at_ words, .own 3 (⟨vo, ol⟩ : Ls Int), .own 147 (⟨v7010, (rows.map ThL.toV) ++ ([(⟨0, v7007, (.slice none 0 0)⟩ : ThV)])⟩ : Ls ThV), .big (rowsA 3 210 rows)]) [0, 1, 2, 3, 4, 5, 6, 7, 8, 9] (by decide) ⟨rfl, rfl, rfl, rfl, rfl, rfl, rfl, rfl, rfl, rfl, trivial⟩)⟩))))
    ·exact no_way ν13 hSi
   · simp at ho
  intro S hall a w hI
  clear h61
  rcases hI with ⟨ν7, ν9, ν10, ν13, φ, ς⟩ | ⟨ν7, ν9, ν10, ν13, v7007, φ, ς⟩ | ⟨ν7, ν9, ν10, ν13, v7007, v7009, φ, ς⟩ | ⟨ν7, ν9, ν10, ν13, v7007, v7009, v7010, φ, ς⟩ | ⟨ν7, ν9, ν10, ν13, v7007, v7009, v7010, φ, ς⟩
  · exact no_way (hall 7 (by decide)) ν7
  · exact no_way (hall 9 (by decide)) ν9
  · exact no_way (hall 10 (by decide)) ν10
  · exact no_way (hall 13 (by decide)) ν13
  have h93 : St 55 (fun _ => False) W a w _ [.own 147 (⟨v7009, [(⟨0, v7007, (.slice none 0 0)⟩ : ThV)]⟩ : Ls ThV), .own 3 (⟨v7007, List.replicate R 0⟩ : Ls Int), .own 3 (⟨v16, words.l⟩ : Ls Int), .blk b9 125 [code.v, words.v, .int .i64 ((Lk : Nat) : Int), .int .i64 ((R : Nat) : Int), .int .i64 mode, v7010, v16, vo, (.slice none 0 0), .bool false], .blk b3 25 [code.v, words.v, .int .i64 ((Lk : Nat) : Int), .int .i64 ((R : Nat) : Int)], .at_ code, .at_ words, .own 3 (⟨vo, ol⟩ : Ls Int), .own 147 (⟨v7010, (rows.map ThL.toV) ++ ([(⟨0, v7007, (.slice none 0 0)⟩ : ThV)])⟩ : Ls ThV), .big (rowsA 3 210 rows)] := ⟨φ.fr0, ς⟩
  clear hall φ ς ν7 ν9 ν10 ν13
  refine hK60 _ _ <| wp_region_lit <| wms 1 h93 rfl fun a94 h94 => wv h94 (r_addN (p := i) (q := 1) rfl rfl rfl (show i + 1 < 9223372036854775808 from (by omega))) rfl rfl fun a95 h95 => wms 1 h95 rfl fun a96 h96 => wpList_nil ?_; clear h93 h94 h95
  have h97 := h96.nil (α := Wt) 210
  clear h96
  have h98 := h97.sel (L' := [.own 3 (⟨v7007, List.replicate R 0⟩ : Ls Int), .own 210 (⟨.slice none 0 0, []⟩ : Ls Wt), .big (rowsA 3 210 rows), .own 147 (⟨v7009, [(⟨0, v7007, (.slice none 0 0)⟩ : ThV)]⟩ : Ls ThV), .own 3 (⟨v16, words.l⟩ : Ls Int), .blk b9 125 [code.v, words.v, .int .i64 ((Lk : Nat) : Int), .int .i64 ((R : Nat) : Int), .int .i64 mode, v7010, v16, vo, (.slice none 0 0), .bool false], .blk b3 25 [code.v, words.v, .int .i64 ((Lk : Nat) : Int), .int .i64 ((R : Nat) : Int)], .at_ code, .at_ words, .own 3 (⟨vo, ol⟩ : Ls Int), .own 147 (⟨v7010, (rows.map ThL.toV) ++ ([(⟨0, v7007, (.slice none 0 0)⟩ : ThV)])⟩ : Ls ThV)]) [2, 0, 10, 1, 3, 4, 5, 6, 7, 8, 9] (by decide) ⟨rfl, rfl, rfl, rfl, rfl, rfl, rfl, rfl, rfl, rfl, rfl, trivial⟩
  have h99 := h98.fold (x := (⟨0, (⟨v7007, List.replicate R 0⟩ : Ls Int), (⟨.slice none 0 0, []⟩ : Ls Wt)⟩ : ThL))
  clear h98
  have h100 := h99.relist (i := 8) (l' := (rows ++ [(⟨0, (⟨v7007, List.replicate R 0⟩ : Ls Int), (⟨.slice none 0 0, []⟩ : Ls Wt)⟩ : ThL)]).map ThL.toV) rfl (by simp [ThL.toV])
  clear h99
  refine x_again ⟨_, ?_, (i + 1), (rows ++ [(⟨0, (⟨v7007, List.replicate R 0⟩ : Ls Int), (⟨.slice none 0 0, []⟩ : Ls Wt)⟩ : ThL)]), v7010, ?_, ?_, ?_, h100.nrm ⟨rfl, rfl, rfl, trivial⟩ [2, 3, 4, 5, 6, 7, 8, 0] (by decide) ⟨rfl, rfl, rfl, rfl, rfl, rfl, rfl, rfl, trivial⟩, rfl⟩
  · rw [hm48]; first | omega | (simp only [lens9]; omega)
  · omega
  · simp [hrl]
  · rw [List.map_append, hrw, List.replicate_succ']; rfl
 have hp59 : ¬ (i < code.l.length) := of_decide_eq_false hb59
 refine wp_exit <| hK45 _ _ <| wp_seq_k fun K101 hK101 => wp_region_lit <| wms 2 h58 rfl fun a102 h102 => wpList_nil <| hK101 _ _ <| wp_ret ?_; clear h58
 try simp only [Exit.then, Exit.inBlock]
 refine x_ret1 (fn := Try.f77) (t := 4) rfl h102 rfl ?_
 have h104 := h102.nil (α := Int) 3
 clear h102
 refine ⟨b9, rows, vt, ⟨v16, words.l⟩, ⟨vo, ol⟩, ⟨.slice none 0 0, []⟩, rfl, ?_, rfl, hol2, rfl, (h104.sh.sel (L' := [.blk b9 125 [code.v, words.v, .int .i64 ((Lk : Nat) : Int), .int .i64 ((R : Nat) : Int), .int .i64 mode, vt, v16, vo, (.slice none 0 0), .bool false], .own 147 (⟨vt, rows.map ThL.toV⟩ : Ls ThV), .big (rowsA 3 210 rows), .own 3 (⟨v16, words.l⟩ : Ls Int), .own 3 (⟨vo, ol⟩ : Ls Int), .own 3 (⟨.slice none 0 0, []⟩ : Ls Int)]) [2, 7, 8, 1, 6, 0] (by decide) ⟨rfl, rfl, rfl, rfl, rfl, rfl, trivial⟩)⟩
 rw [hrw, show i = code.l.length by omega]

end Go.Proofs.Ytfpaahkleienoaa
