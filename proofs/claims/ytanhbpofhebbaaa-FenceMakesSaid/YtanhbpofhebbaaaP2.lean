/-
  Contracts of functions of this program and of the references, each walked once.
-/
import Derived.Test.YtanhbpofhebbaaaX2
namespace Go.Proofs.Ytanhbpofhebbaaa
open Go.RowKit
set_option linter.unusedSimpArgs false
set_option linter.unusedVariables false

set_option maxRecDepth 10000 in
set_option maxHeartbeats 4000000 in
theorem rPut_c (become : Ls (Ls Ins)) (code : Ls Ins) (W : World) (hb : become.At W) (hc : code.At W) (hlen : become.l.length = code.l.length) (hcl : code.l.length ≤ 5000) (h8 : ∀ i, i < code.l.length → (nth become.l i).l.length ≤ 8) (hbok : BecomeOK2 become.l code.l) :
    Rets Try.prog 73 [become.v, code.v] W (fun v w' => ∃ s : Ls Ins, v = s.v ∧ s.l = putL (become.l.map (·.l)) code.l ∧ Sh0 W w' [.own 73 s]) := by
  refine x_enter (N := 123) Try.func73 rfl Try.ntmps73 (Nat.le_of_ble_eq_true rfl) fun a1 hf1 => ?_
  have h1 : St 123 (fun _ => False) W a1 W [(0, become.v), (1, code.v)] [.at_ become, .at_ code] := ⟨hf1.sub ⟨rfl, rfl, trivial⟩, Sh0.ext2 hb hc⟩
  clear hf1
  refine wp_seq_k fun K2 hK2 => ?_
  refine wp_region_lit ?_
  refine wms 1 h1 rfl fun a3 h3 => ?_
  clear h1
  refine wpList_nil ?_
  refine hK2 _ _ ?_
  refine wp_seq_k fun K4 hK4 => ?_
  refine wp_region_lit ?_
  refine wms 1 h3 rfl fun a5 h5 => ?_
  clear h3
  have hl6 : code.l.length ≤ 140737488355328 := (h5.sh.at 1 rfl).len
  refine wv h5 (r_len (s := code) (n := code.l.length) sl_64 rfl rfl (fun w h => (h.at 1 rfl)) rfl) rfl rfl fun a7 h7 => ?_
  clear h5
  refine wv h7 (r_addN (p := code.l.length) (q := 1) rfl rfl rfl (show code.l.length + 1 < 9223372036854775808 from (by first | omega | (simp only [List.length_append, List.length_cons, List.length_nil, List.length_set, List.length_replicate, List.length_map, List.length_range]; omega)))) rfl rfl fun a8 h8 => ?_
  clear h7
  refine wl_ex (x_make (n := code.l.length + 1) (0 : Int) h8 sl_24 ti_3 rfl rfl rfl rfl rfl (show 8 * (code.l.length + 1) ≤ 140737488355328 ∧ code.l.length + 1 ≤ 140737488355328 from (by first | omega | (simp only [List.length_append, List.length_cons, List.length_nil, List.length_set, List.length_replicate, List.length_map, List.length_range]; omega))) (fun w => Flat.inner _ _) (fun b => Flat.on _ _) rfl rfl) (wanted_none rfl _) ?_
  rintro a9 w9 ⟨v9, h9⟩
  clear h8
  refine wms 1 h9 rfl fun a10 h10 => ?_
  clear h9
  refine wpList_nil ?_
  refine hK4 _ _ ?_
  refine wp_seq_k fun K11 hK11 => ?_
  refine wp_region_lit ?_
  refine wms 1 h10 rfl fun a12 h12 => ?_
  clear h10
  refine wpList_nil ?_
  refine hK11 _ _ ?_
  refine wp_seq_k fun K13 hK13 => ?_
  refine wp_seq_k fun K14 hK14 => ?_
  refine wp_region_lit ?_
  refine wms 1 h12 rfl fun a15 h15 => ?_
  clear h12
  refine wpList_nil ?_
  refine hK14 _ _ ?_
  refine wp_block ?_
  refine x_loop (fun m a w => ∃ (k n : Nat) (pl : List Int), (k ≤ code.l.length) ∧ (pl.length = code.l.length + 1) ∧ (n = placeL (become.l.map (·.l)) k) ∧ (n ≤ 8 * k) ∧ (∀ j, j < k → nth pl j = (placeL (become.l.map (·.l)) j : Int)) ∧ St 123 (fun _ => False) W a w [(0, become.v), (1, code.v), (5, v9), (6, .int .i64 ((n : Nat) : Int)), (7, .int .i64 ((k : Nat) : Int))] [.own 3 (⟨v9, pl⟩ : Ls Int), .at_ become, .at_ code] ∧ m = code.l.length - k) ⟨_, 0, 0, List.replicate (code.l.length + 1) 0, (by omega), (by simp), (rfl), (by omega), (fun j hj => absurd hj (by omega)), ((h15.sub (F' := [(0, become.v), (1, code.v), (5, v9), (6, .int .i64 0), (7, .int .i64 0)]) ⟨rfl, rfl, rfl, rfl, rfl, trivial⟩).sel (L' := [.own 3 (⟨v9, List.replicate (code.l.length + 1) 0⟩ : Ls Int), .at_ become, .at_ code]) [0, 1, 2] (by decide) ⟨rfl, rfl, rfl, trivial⟩), rfl⟩ ?_
  clear h15
  rintro m16 a16 w16 ⟨k, n, pl, hk, hpl, hn, hn8, hplv, h16, hm16⟩
  refine wp_seq_k fun K17 hK17 => ?_
  refine wp_seq_k fun K18 hK18 => ?_
  refine wp_region_lit ?_
  refine wms 2 h16 rfl fun a19 h19 => ?_
  clear h16
  refine wv h19 (r_len (s := code) (n := code.l.length) sl_64 rfl rfl (fun w h => (h.at 2 rfl)) rfl) rfl rfl fun a20 h20 => ?_
  clear h19
  refine wv h20 (r_lssN (p := k) (q := code.l.length) rfl rfl rfl) rfl rfl fun a21 h21 => ?_
  clear h20
  refine wpList_nil ?_
  refine hK18 _ _ ?_
  refine x_cond h21 rfl (fun hb22 => ?_) (fun hb22 => ?_)
  ·
    have hp22 : k < code.l.length := of_decide_eq_true hb22
    refine wp_skip ?_
    refine hK17 _ _ ?_
    refine wp_seq_k fun K23 hK23 => ?_
    refine wp_block ?_
    refine wp_seq_k fun K24 hK24 => ?_
    refine wp_region_lit ?_
    refine wms 3 h21 rfl fun a25 h25 => ?_
    clear h21
    have hl26 : pl.length ≤ 140737488355328 := (h25.sh.own 0 rfl).len
    refine wv h25 (r_ixN (s := (⟨v9, pl⟩ : Ls Int)) (q := k) sl_24 ti_3 rfl rfl rfl (fun w h => (h.own 0 rfl)) (show k < pl.length from (by first | omega | (simp only [List.length_append, List.length_cons, List.length_nil, List.length_set, List.length_replicate, List.length_map, List.length_range]; omega)))) rfl rfl fun a27 h27 => ?_
    clear h25
    refine wl_ex (x_ste (r := 0) (i := k) (j := 0) (x' := (((n : Nat) : Int) : Int)) h27 ti_3 rfl rfl rfl rfl rfl (show k < pl.length from (by first | omega | (simp only [List.length_append, List.length_cons, List.length_nil, List.length_set, List.length_replicate, List.length_map, List.length_range]; omega))) (Nat.le_of_ble_eq_true rfl) rfl rfl rfl (by intro q hq; obtain rfl : q = 0 := (by omega); rfl) (fun w h => Flat.inner _ _) (fun b hb => (Flat.on _ _ hb).elim)) (wanted_none rfl _) ?_
    rintro a28 w28 h28
    clear h27
    refine wpList_nil ?_
    refine hK24 _ _ ?_
    refine wp_region_lit ?_
    refine wms 3 h28 rfl fun a29 h29 => ?_
    clear h28
    have hl30 : become.l.length ≤ 140737488355328 := (h29.sh.at 1 rfl).len
    refine wv h29 (r_ixN (s := become) (q := k) sl_26 ti_64 rfl rfl rfl (fun w h => (h.at 1 rfl)) (show k < become.l.length from (by first | omega | (simp only [List.length_append, List.length_cons, List.length_nil, List.length_set, List.length_replicate, List.length_map, List.length_range]; omega)))) rfl rfl fun a31 h31 => ?_
    clear h29
    refine wv h31 (r_lde (s := become) (i := k) (v := (nth become.l k).v) ti_64 rfl rfl rfl (fun w h => (h.at 1 rfl)) (show k < become.l.length from (by first | omega | (simp only [List.length_append, List.length_cons, List.length_nil, List.length_set, List.length_replicate, List.length_map, List.length_range]; omega))) (Nat.le_of_ble_eq_true rfl) rfl) rfl rfl fun a32 h32 => ?_
    clear h31
    have hl33 : ((nth become.l k).l).length ≤ 140737488355328 := ((h32.sh.at 1 rfl).nth k (show k < become.l.length from (by first | omega | (simp only [List.length_append, List.length_cons, List.length_nil, List.length_set, List.length_replicate, List.length_map, List.length_range]; omega)))).len
    refine wv h32 (r_len (s := nth become.l k) (n := ((nth become.l k).l).length) sl_64 rfl rfl (fun w h => ((h.at 1 rfl).nth k (show k < become.l.length from (by first | omega | (simp only [List.length_append, List.length_cons, List.length_nil, List.length_set, List.length_replicate, List.length_map, List.length_range]; omega))))) rfl) rfl rfl fun a34 h34 => ?_
    clear h32
    refine wv h34 (r_addN (p := n) (q := ((nth become.l k).l).length) rfl rfl rfl (show n + (((nth become.l k).l).length) < 9223372036854775808 from (by first | omega | (simp only [List.length_append, List.length_cons, List.length_nil, List.length_set, List.length_replicate, List.length_map, List.length_range]; omega)))) rfl rfl fun a35 h35 => ?_
    clear h34
    refine wms 1 h35 rfl fun a36 h36 => ?_
    clear h35
    refine wpList_nil ?_
    refine hK23 _ _ ?_
    refine wp_region_lit ?_
    refine wms 1 h36 rfl fun a37 h37 => ?_
    clear h36
    refine wv h37 (r_addN (p := k) (q := 1) rfl rfl rfl (show k + 1 < 9223372036854775808 from (by first | omega | (simp only [List.length_append, List.length_cons, List.length_nil, List.length_set, List.length_replicate, List.length_map, List.length_range]; omega)))) rfl rfl fun a38 h38 => ?_
    clear h37
    refine wms 1 h38 rfl fun a39 h39 => ?_
    clear h38
    refine wpList_nil ?_
    refine x_again ⟨_, ?_, k + 1, n + (((nth become.l k).l).length), pl.set k ((n : Nat) : Int), ?_, ?_, ?_, ?_, ?_, ((h39.sub (F' := [(0, become.v), (1, code.v), (5, v9), (6, .int .i64 ((n + (((nth become.l k).l).length) : Nat) : Int)), (7, .int .i64 ((k + 1 : Nat) : Int))]) ⟨rfl, rfl, rfl, rfl, rfl, trivial⟩).sel (L' := [.own 3 (⟨v9, pl.set k ((n : Nat) : Int)⟩ : Ls Int), .at_ become, .at_ code]) [0, 1, 2] (by decide) ⟨rfl, rfl, rfl, trivial⟩), rfl⟩
    · rw [hm16]; first | omega | (simp only [List.length_append, List.length_cons, List.length_nil, List.length_set, List.length_replicate, List.length_map, List.length_range]; omega)
    · omega
    · simpa using hpl
    · rw [placeL_succ _ _ (by simp; omega), nth_map' _ _ _ (by omega), ← hn]
    · have := h8 k (by omega); omega
    · intro j hj; rw [nth_set]; split; (rename_i hh; obtain ⟨rfl, _⟩ := hh; rw [hn]); exact hplv j (by omega)
  ·
    have hp22 : ¬ (k < code.l.length) := of_decide_eq_false hb22
    refine wp_exit ?_
    refine hK13 _ _ ?_
    refine wp_seq_k fun K40 hK40 => ?_
    refine wp_region_lit ?_
    refine wms 2 h21 rfl fun a41 h41 => ?_
    clear h21
    refine wv h41 (r_len (s := code) (n := code.l.length) sl_64 rfl rfl (fun w h => (h.at 2 rfl)) rfl) rfl rfl fun a42 h42 => ?_
    clear h41
    refine wms 1 h42 rfl fun a43 h43 => ?_
    clear h42
    have hl44 : pl.length ≤ 140737488355328 := (h43.sh.own 0 rfl).len
    refine wv h43 (r_ixN (s := (⟨v9, pl⟩ : Ls Int)) (q := code.l.length) sl_24 ti_3 rfl rfl rfl (fun w h => (h.own 0 rfl)) (show code.l.length < pl.length from (by first | omega | (simp only [List.length_append, List.length_cons, List.length_nil, List.length_set, List.length_replicate, List.length_map, List.length_range]; omega)))) rfl rfl fun a45 h45 => ?_
    clear h43
    refine wl_ex (x_ste (r := 0) (i := code.l.length) (j := 0) (x' := (((n : Nat) : Int) : Int)) h45 ti_3 rfl rfl rfl rfl rfl (show code.l.length < pl.length from (by first | omega | (simp only [List.length_append, List.length_cons, List.length_nil, List.length_set, List.length_replicate, List.length_map, List.length_range]; omega))) (Nat.le_of_ble_eq_true rfl) rfl rfl rfl (by intro q hq; obtain rfl : q = 0 := (by omega); rfl) (fun w h => Flat.inner _ _) (fun b hb => (Flat.on _ _ hb).elim)) (wanted_none rfl _) ?_
    rintro a46 w46 h46
    clear h45
    refine wpList_nil ?_
    refine hK40 _ _ ?_
    have hpl2 : (pl.set code.l.length (n : Int)).length = code.l.length + 1 := by simpa using hpl
    have hkk : k = code.l.length := by omega
    have hplw : ∀ j, j ≤ code.l.length → nth (pl.set code.l.length (n : Int)) j = (placeL (become.l.map (·.l)) j : Int) := by
      intro j hj; rw [nth_set]; split; (rename_i hh; obtain ⟨rfl, _⟩ := hh; rw [hn, hkk]); exact hplv j (by omega)
    generalize hpg : pl.set code.l.length (n : Int) = pm at *
    clear hplv hpg hpl
    refine wp_seq_k fun K47 hK47 => ?_
    refine wp_region_lit ?_
    refine wms 1 h46 rfl fun a48 h48 => ?_
    clear h46
    refine wpList_nil ?_
    refine hK47 _ _ ?_
    refine wp_seq_k fun K49 hK49 => ?_
    refine wp_seq_k fun K50 hK50 => ?_
    refine wp_region_lit ?_
    refine wms 1 h48 rfl fun a51 h51 => ?_
    clear h48
    refine wpList_nil ?_
    refine hK50 _ _ ?_
    refine wp_block ?_
    have h53 := h51.nil (α := Ins) 73
    clear h51
    refine x_loop (fun m a w => ∃ (i : Nat) (out : List Ins) (vo : Value), (i ≤ code.l.length) ∧ (out = putUpto (become.l.map (·.l)) code.l i) ∧ (out.length ≤ 8 * i) ∧ St 123 (fun _ => False) W a w [(0, become.v), (1, code.v), (5, v9), (8, vo), (9, .int .i64 ((i : Nat) : Int))] [.own 3 (⟨v9, pm⟩ : Ls Int), .at_ become, .at_ code, .own 73 (⟨vo, out⟩ : Ls Ins)] ∧ m = code.l.length - i) ⟨_, 0, [], (.slice none 0 0), (by omega), (rfl), (by simp), ((h53.sub (F' := [(0, become.v), (1, code.v), (5, v9), (8, (.slice none 0 0)), (9, .int .i64 0)]) ⟨rfl, rfl, rfl, rfl, rfl, trivial⟩).sel (L' := [.own 3 (⟨v9, pm⟩ : Ls Int), .at_ become, .at_ code, .own 73 (⟨.slice none 0 0, []⟩ : Ls Ins)]) [1, 2, 3, 0] (by decide) ⟨rfl, rfl, rfl, rfl, trivial⟩), rfl⟩ ?_
    clear h53
    rintro m52 a52 w52 ⟨i, out, vo, hi, hout, ho8, h52, hm52⟩
    refine wp_seq_k fun K54 hK54 => ?_
    refine wp_seq_k fun K55 hK55 => ?_
    refine wp_region_lit ?_
    refine wms 2 h52 rfl fun a56 h56 => ?_
    clear h52
    refine wv h56 (r_len (s := code) (n := code.l.length) sl_64 rfl rfl (fun w h => (h.at 2 rfl)) rfl) rfl rfl fun a57 h57 => ?_
    clear h56
    refine wv h57 (r_lssN (p := i) (q := code.l.length) rfl rfl rfl) rfl rfl fun a58 h58 => ?_
    clear h57
    refine wpList_nil ?_
    refine hK55 _ _ ?_
    refine x_cond h58 rfl (fun hb59 => ?_) (fun hb59 => ?_)
    ·
      have hp59 : i < code.l.length := of_decide_eq_true hb59
      refine wp_skip ?_
      refine hK54 _ _ ?_
      refine wp_seq_k fun K60 hK60 => ?_
      refine wp_block ?_
      refine wp_seq_k fun K61 hK61 => ?_
      refine wp_region_lit ?_
      refine wms 1 h58 rfl fun a62 h62 => ?_
      clear h58
      refine wpList_nil ?_
      refine hK61 _ _ ?_
      refine wp_block ?_
      refine x_loop (fun m a w => ∃ (k2 : Nat) (out2 : List Ins) (vo2 : Value), (k2 ≤ (nth become.l i).l.length) ∧ (out2 = out ++ ((nth become.l i).l.take k2).map (fixIns (become.l.map (·.l)) code.l i)) ∧ (out2.length = out.length + k2) ∧ St 123 (fun _ => False) W a w [(0, become.v), (1, code.v), (5, v9), (8, vo2), (9, .int .i64 ((i : Nat) : Int)), (10, .int .i64 ((k2 : Nat) : Int))] [.own 3 (⟨v9, pm⟩ : Ls Int), .at_ become, .at_ code, .own 73 (⟨vo2, out2⟩ : Ls Ins)] ∧ m = (nth become.l i).l.length - k2) ⟨_, 0, out, vo, (by omega), (by simp), (by simp), ((h62.sub (F' := [(0, become.v), (1, code.v), (5, v9), (8, vo), (9, .int .i64 ((i : Nat) : Int)), (10, .int .i64 0)]) ⟨rfl, rfl, rfl, rfl, rfl, rfl, trivial⟩).sel (L' := [.own 3 (⟨v9, pm⟩ : Ls Int), .at_ become, .at_ code, .own 73 (⟨vo, out⟩ : Ls Ins)]) [0, 1, 2, 3] (by decide) ⟨rfl, rfl, rfl, rfl, trivial⟩), rfl⟩ ?_
      clear h62
      rintro m63 a63 w63 ⟨k2, out2, vo2, hk2, hout2, ho82, h63, hm63⟩
      have h8i := h8 i (by omega)
      refine wp_seq_k fun K64 hK64 => ?_
      refine wp_seq_k fun K65 hK65 => ?_
      refine wp_region_lit ?_
      refine wms 3 h63 rfl fun a66 h66 => ?_
      clear h63
      have hl67 : become.l.length ≤ 140737488355328 := (h66.sh.at 1 rfl).len
      refine wv h66 (r_ixN (s := become) (q := i) sl_26 ti_64 rfl rfl rfl (fun w h => (h.at 1 rfl)) (show i < become.l.length from (by first | omega | (simp only [List.length_append, List.length_cons, List.length_nil, List.length_set, List.length_replicate, List.length_map, List.length_range]; omega)))) rfl rfl fun a68 h68 => ?_
      clear h66
      refine wv h68 (r_lde (s := become) (i := i) (v := (nth become.l i).v) ti_64 rfl rfl rfl (fun w h => (h.at 1 rfl)) (show i < become.l.length from (by first | omega | (simp only [List.length_append, List.length_cons, List.length_nil, List.length_set, List.length_replicate, List.length_map, List.length_range]; omega))) (Nat.le_of_ble_eq_true rfl) rfl) rfl rfl fun a69 h69 => ?_
      clear h68
      have hl70 : ((nth become.l i).l).length ≤ 140737488355328 := ((h69.sh.at 1 rfl).nth i (show i < become.l.length from (by first | omega | (simp only [List.length_append, List.length_cons, List.length_nil, List.length_set, List.length_replicate, List.length_map, List.length_range]; omega)))).len
      refine wv h69 (r_len (s := nth become.l i) (n := ((nth become.l i).l).length) sl_64 rfl rfl (fun w h => ((h.at 1 rfl).nth i (show i < become.l.length from (by first | omega | (simp only [List.length_append, List.length_cons, List.length_nil, List.length_set, List.length_replicate, List.length_map, List.length_range]; omega))))) rfl) rfl rfl fun a71 h71 => ?_
      clear h69
      refine wv h71 (r_lssN (p := k2) (q := ((nth become.l i).l).length) rfl rfl rfl) rfl rfl fun a72 h72 => ?_
      clear h71
      refine wpList_nil ?_
      refine hK65 _ _ ?_
      refine x_cond h72 rfl (fun hb73 => ?_) (fun hb73 => ?_)
      ·
        have hp73 : k2 < ((nth become.l i).l).length := of_decide_eq_true hb73
        refine wp_skip ?_
        refine hK64 _ _ ?_
        have hbk := hbok i (by omega) k2 (by omega)
        refine wp_seq_k fun K74 hK74 => ?_
        refine wp_block ?_
        refine wp_seq_k fun K75 hK75 => ?_
        refine wp_region_lit ?_
        refine wms 2 h72 rfl fun a76 h76 => ?_
        clear h72
        refine wv h76 (r_ixN (s := become) (q := i) sl_26 ti_64 rfl rfl rfl (fun w h => (h.at 1 rfl)) (show i < become.l.length from (by first | omega | (simp only [List.length_append, List.length_cons, List.length_nil, List.length_set, List.length_replicate, List.length_map, List.length_range]; omega)))) rfl rfl fun a77 h77 => ?_
        clear h76
        refine wv h77 (r_lde (s := become) (i := i) (v := (nth become.l i).v) ti_64 rfl rfl rfl (fun w h => (h.at 1 rfl)) (show i < become.l.length from (by first | omega | (simp only [List.length_append, List.length_cons, List.length_nil, List.length_set, List.length_replicate, List.length_map, List.length_range]; omega))) (Nat.le_of_ble_eq_true rfl) rfl) rfl rfl fun a78 h78 => ?_
        clear h77
        refine wms 1 h78 rfl fun a79 h79 => ?_
        clear h78
        refine wv h79 (r_ixN (s := nth become.l i) (q := k2) sl_64 ti_73 rfl rfl rfl (fun w h => ((h.at 1 rfl).nth i (show i < become.l.length from (by first | omega | (simp only [List.length_append, List.length_cons, List.length_nil, List.length_set, List.length_replicate, List.length_map, List.length_range]; omega))))) (show k2 < ((nth become.l i).l).length from (by first | omega | (simp only [List.length_append, List.length_cons, List.length_nil, List.length_set, List.length_replicate, List.length_map, List.length_range]; omega)))) rfl rfl fun a80 h80 => ?_
        clear h79
        refine wv h80 (r_ldew (s := nth become.l i) (i := k2) (vs := [.int .i64 ((nth ((nth become.l i).l) k2).op), .int .i64 ((nth ((nth become.l i).l) k2).a), .int .i64 ((nth ((nth become.l i).l) k2).b), .int .i64 ((nth ((nth become.l i).l) k2).c)]) ti_73 rfl rfl rfl (fun w h => ((h.at 1 rfl).nth i (show i < become.l.length from (by first | omega | (simp only [List.length_append, List.length_cons, List.length_nil, List.length_set, List.length_replicate, List.length_map, List.length_range]; omega))))) (show k2 < ((nth become.l i).l).length from (by first | omega | (simp only [List.length_append, List.length_cons, List.length_nil, List.length_set, List.length_replicate, List.length_map, List.length_range]; omega))) (Nat.le_of_ble_eq_true rfl) rfl) rfl rfl fun a81 h81 => ?_
        clear h80
        refine wl_ex (x_alloc h81 ti_73 rfl rfl rfl) (wanted_none rfl _) ?_
        rintro a82 w82 ⟨b82, h82⟩
        clear h81
        refine wl_ex (x_stb (i := 0) (vs := [.int .i64 ((nth ((nth become.l i).l) k2).op), .int .i64 ((nth ((nth become.l i).l) k2).a), .int .i64 ((nth ((nth become.l i).l) k2).b), .int .i64 ((nth ((nth become.l i).l) k2).c)]) (cs' := [.int .i64 ((nth ((nth become.l i).l) k2).op), .int .i64 ((nth ((nth become.l i).l) k2).a), .int .i64 ((nth ((nth become.l i).l) k2).b), .int .i64 ((nth ((nth become.l i).l) k2).c)]) h82 ti_73 rfl rfl rfl rfl rfl rfl rfl (allOne_cons rfl (allOne_cons rfl (allOne_cons rfl (allOne_cons rfl allOne_nil)))) (Nat.le_of_ble_eq_true rfl) rfl) (wanted_none rfl _) ?_
        rintro a83 w83 h83
        clear h82
        refine wpList_nil ?_
        refine hK75 _ _ ?_
        refine wp_seq_k fun K84 hK84 => ?_
        refine wp_seq_k fun K85 hK85 => ?_
        refine wp_region_lit ?_
        refine wv h83 (r_fieldB (r := 0) fl_73_0 rfl rfl rfl) rfl rfl fun a86 h86 => ?_
        clear h83
        refine wv h86 (r_ldb (i := 0) ti_3 rfl rfl rfl rfl) rfl rfl fun a87 h87 => ?_
        clear h86
        refine wv h87 (r_eqlI (p := (nth ((nth become.l i).l) k2).op) (q := 14) rfl rfl rfl) rfl rfl fun a88 h88 => ?_
        clear h87
        refine wms 1 h88 rfl fun a89 h89 => ?_
        clear h88
        rcases Bool.eq_false_or_eq_true (decide ((nth ((nth become.l i).l) k2).op = 14)) with hb90 | hb90
        ·
          have hp90 : (nth ((nth become.l i).l) k2).op = 14 := of_decide_eq_true hb90
          refine wl_val h89 (r_move rfl rfl) (wanted_yes h89.fr rfl rfl rfl rfl hb90) rfl rfl fun a91 h91 => ?_
          clear h89
          refine wl_val h91 (r_move rfl rfl) (wanted_yes h91.fr rfl rfl rfl rfl hb90) rfl rfl fun a92 h92 => ?_
          clear h91
          refine wl_val h92 (r_ixN (s := code) (q := i) sl_64 ti_73 rfl rfl rfl (fun w h => (h.at 3 rfl)) (show i < code.l.length from (by first | omega | (simp only [List.length_append, List.length_cons, List.length_nil, List.length_set, List.length_replicate, List.length_map, List.length_range]; omega)))) (wanted_yes h92.fr rfl rfl rfl rfl hb90) rfl rfl fun a93 h93 => ?_
          clear h92
          refine wl_val h93 (r_fieldE (r := 0) fl_73_0 rfl rfl rfl) (wanted_yes h93.fr rfl rfl rfl rfl hb90) rfl rfl fun a94 h94 => ?_
          clear h93
          refine wl_val h94 (r_lde (s := code) (i := i) (v := .int .i64 ((nth code.l i).op)) ti_3 rfl rfl rfl (fun w h => (h.at 3 rfl)) (show i < code.l.length from (by first | omega | (simp only [List.length_append, List.length_cons, List.length_nil, List.length_set, List.length_replicate, List.length_map, List.length_range]; omega))) (Nat.le_of_ble_eq_true rfl) rfl) (wanted_yes h94.fr rfl rfl rfl rfl hb90) rfl rfl fun a95 h95 => ?_
          clear h94
          refine wl_val h95 (r_eqlI (p := (nth code.l i).op) (q := 14) rfl rfl rfl) (wanted_yes h95.fr rfl rfl rfl rfl hb90) rfl rfl fun a96 h96 => ?_
          clear h95
          refine wl_val h96 (r_move rfl rfl) (wanted_yes h96.fr rfl rfl rfl rfl hb90) rfl rfl fun a97 h97 => ?_
          clear h96
          rcases Bool.eq_false_or_eq_true (decide ((nth code.l i).op = 14)) with hb98 | hb98
          ·
            have hp98 : (nth code.l i).op = 14 := of_decide_eq_true hb98
            refine wl_skip h97 (wanted_no h97.fr rfl rfl rfl rfl hb98) rfl rfl fun a99 h99 => ?_
            clear h97
            refine wl_skip h99 (wanted_no h99.fr rfl rfl rfl rfl hb98) rfl rfl fun a100 h100 => ?_
            clear h99
            refine wl_skip h100 (wanted_no h100.fr rfl rfl rfl rfl hb98) rfl rfl fun a101 h101 => ?_
            clear h100
            refine wl_skip h101 (wanted_no h101.fr rfl rfl rfl rfl hb98) rfl rfl fun a102 h102 => ?_
            clear h101
            refine wl_skip h102 (wanted_no h102.fr rfl rfl rfl rfl hb98) rfl rfl fun a103 h103 => ?_
            clear h102
            refine wl_skip h103 (wanted_no h103.fr rfl rfl rfl rfl hb98) rfl rfl fun a104 h104 => ?_
            clear h103
            refine wl_val h104 (r_pickT rfl rfl hb98 rfl) (wanted_yes h104.fr rfl rfl rfl rfl hb90) rfl rfl fun a105 h105 => ?_
            clear h104
            refine wv h105 (r_pickT rfl rfl hb90 rfl) rfl rfl fun a106 h106 => ?_
            clear h105
            refine wpList_nil ?_
            refine hK85 _ _ ?_
            have h107 : St 123 (fun _ => False) W a106 w83 [(0, become.v), (1, code.v), (5, v9), (8, vo2), (9, .int .i64 ((i : Nat) : Int)), (10, .int .i64 ((k2 : Nat) : Int)), (11, .pointer (some ⟨b82, 0, none⟩)), (78, .bool true)] [.blk b82 73 [.int .i64 ((nth ((nth become.l i).l) k2).op), .int .i64 ((nth ((nth become.l i).l) k2).a), .int .i64 ((nth ((nth become.l i).l) k2).b), .int .i64 ((nth ((nth become.l i).l) k2).c)], .own 3 (⟨v9, pm⟩ : Ls Int), .at_ become, .at_ code, .own 73 (⟨vo2, out2⟩ : Ls Ins)] := h106.nrm ⟨rfl, rfl, rfl, rfl, rfl, rfl, rfl, rfl, trivial⟩ [0, 1, 2, 3, 4] (by decide) ⟨rfl, rfl, rfl, rfl, rfl, trivial⟩
            clear h106
            refine x_condT h107 rfl rfl ?_
            refine wp_region_lit ?_
            refine wms 1 h107 rfl fun a108 h108 => ?_
            clear h107
            refine wv h108 (r_fieldB (r := 1) fl_73_1 rfl rfl rfl) rfl rfl fun a109 h109 => ?_
            clear h108
            refine wv h109 (r_ldb (i := 0) ti_3 rfl rfl rfl rfl) rfl rfl fun a110 h110 => ?_
            clear h109
            have hl111 : pm.length ≤ 140737488355328 := (h110.sh.own 1 rfl).len
            refine wv h110 (r_ixI (s := (⟨v9, pm⟩ : Ls Int)) (q := (nth ((nth become.l i).l) k2).a) sl_24 ti_3 rfl rfl rfl (fun w h => (h.own 1 rfl)) (show 0 ≤ (nth ((nth become.l i).l) k2).a ∧ (nth ((nth become.l i).l) k2).a < pm.length from (by first | omega | (simp only [List.length_append, List.length_cons, List.length_nil, List.length_set, List.length_replicate, List.length_map, List.length_range]; omega)))) rfl rfl fun a112 h112 => ?_
            clear h110
            refine wv h112 (r_lde (s := (⟨v9, pm⟩ : Ls Int)) (i := ((nth ((nth become.l i).l) k2).a).toNat) (v := .int .i64 (nth pm (((nth ((nth become.l i).l) k2).a).toNat))) ti_3 rfl rfl rfl (fun w h => (h.own 1 rfl)) (show ((nth ((nth become.l i).l) k2).a).toNat < pm.length from (by first | omega | (simp only [List.length_append, List.length_cons, List.length_nil, List.length_set, List.length_replicate, List.length_map, List.length_range]; omega))) (Nat.le_of_ble_eq_true rfl) rfl) rfl rfl fun a113 h113 => ?_
            clear h112
            refine wv h113 (r_fieldB (r := 1) fl_73_1 rfl rfl rfl) rfl rfl fun a114 h114 => ?_
            clear h113
            refine wl_ex (x_stb (i := 0) (vs := [.int .i64 (nth pm (((nth ((nth become.l i).l) k2).a).toNat))]) (cs' := [.int .i64 ((nth ((nth become.l i).l) k2).op), .int .i64 (nth pm (((nth ((nth become.l i).l) k2).a).toNat)), .int .i64 ((nth ((nth become.l i).l) k2).b), .int .i64 ((nth ((nth become.l i).l) k2).c)]) h114 ti_3 rfl rfl rfl rfl rfl rfl rfl (allOne_cons rfl allOne_nil) (Nat.le_of_ble_eq_true rfl) rfl) (wanted_none rfl _) ?_
            rintro a115 w115 h115
            clear h114
            refine wpList_nil ?_
            refine hK84 _ _ ?_
            refine wp_seq_k fun K116 hK116 => ?_
            refine wp_seq_k fun K117 hK117 => ?_
            refine wp_region_lit ?_
            refine wv h115 (r_fieldB (r := 0) fl_73_0 rfl rfl rfl) rfl rfl fun a118 h118 => ?_
            clear h115
            refine wv h118 (r_ldb (i := 0) ti_3 rfl rfl rfl rfl) rfl rfl fun a119 h119 => ?_
            clear h118
            refine wv h119 (r_eqlI (p := (nth ((nth become.l i).l) k2).op) (q := 15) rfl rfl rfl) rfl rfl fun a120 h120 => ?_
            clear h119
            refine wms 1 h120 rfl fun a121 h121 => ?_
            clear h120
            refine wl_skip h121 (wanted_no h121.fr rfl rfl rfl rfl (decide_eq_false (by omega))) rfl rfl fun a122 h122 => ?_
            clear h121
            refine wl_skip h122 (wanted_no h122.fr rfl rfl rfl rfl (decide_eq_false (by omega))) rfl rfl fun a123 h123 => ?_
            clear h122
            refine wl_skip h123 (wanted_no h123.fr rfl rfl rfl rfl (decide_eq_false (by omega))) rfl rfl fun a124 h124 => ?_
            clear h123
            refine wl_skip h124 (wanted_no h124.fr rfl rfl rfl rfl (decide_eq_false (by omega))) rfl rfl fun a125 h125 => ?_
            clear h124
            refine wl_skip h125 (wanted_no h125.fr rfl rfl rfl rfl (decide_eq_false (by omega))) rfl rfl fun a126 h126 => ?_
            clear h125
            refine wl_skip h126 (wanted_no h126.fr rfl rfl rfl rfl (decide_eq_false (by omega))) rfl rfl fun a127 h127 => ?_
            clear h126
            refine wv h127 (r_pickF rfl rfl (decide_eq_false (by omega)) rfl) rfl rfl fun a128 h128 => ?_
            clear h127
            refine wpList_nil ?_
            refine hK117 _ _ ?_
            refine x_condF h128 rfl rfl ?_
            refine wp_skip ?_
            refine hK116 _ _ ?_
            refine wp_seq_k fun K129 hK129 => ?_
            refine wp_seq_k fun K130 hK130 => ?_
            refine wp_region_lit ?_
            refine wv h128 (r_fieldB (r := 0) fl_73_0 rfl rfl rfl) rfl rfl fun a131 h131 => ?_
            clear h128
            refine wv h131 (r_ldb (i := 0) ti_3 rfl rfl rfl rfl) rfl rfl fun a132 h132 => ?_
            clear h131
            refine wv h132 (r_eqlI (p := (nth ((nth become.l i).l) k2).op) (q := 15) rfl rfl rfl) rfl rfl fun a133 h133 => ?_
            clear h132
            refine wms 1 h133 rfl fun a134 h134 => ?_
            clear h133
            refine wl_skip h134 (wanted_no h134.fr rfl rfl rfl rfl (decide_eq_false (by omega))) rfl rfl fun a135 h135 => ?_
            clear h134
            refine wl_skip h135 (wanted_no h135.fr rfl rfl rfl rfl (decide_eq_false (by omega))) rfl rfl fun a136 h136 => ?_
            clear h135
            refine wl_skip h136 (wanted_no h136.fr rfl rfl rfl rfl (decide_eq_false (by omega))) rfl rfl fun a137 h137 => ?_
            clear h136
            refine wl_skip h137 (wanted_no h137.fr rfl rfl rfl rfl (decide_eq_false (by omega))) rfl rfl fun a138 h138 => ?_
            clear h137
            refine wl_skip h138 (wanted_no h138.fr rfl rfl rfl rfl (decide_eq_false (by omega))) rfl rfl fun a139 h139 => ?_
            clear h138
            refine wl_skip h139 (wanted_no h139.fr rfl rfl rfl rfl (decide_eq_false (by omega))) rfl rfl fun a140 h140 => ?_
            clear h139
            refine wv h140 (r_pickF rfl rfl (decide_eq_false (by omega)) rfl) rfl rfl fun a141 h141 => ?_
            clear h140
            refine wpList_nil ?_
            refine hK130 _ _ ?_
            have h142 : St 123 (fun _ => False) W a141 w115 [(0, become.v), (1, code.v), (5, v9), (8, vo2), (9, .int .i64 ((i : Nat) : Int)), (10, .int .i64 ((k2 : Nat) : Int)), (11, .pointer (some ⟨b82, 0, none⟩)), (112, .bool false)] [.blk b82 73 [.int .i64 ((nth ((nth become.l i).l) k2).op), .int .i64 (nth pm (((nth ((nth become.l i).l) k2).a).toNat)), .int .i64 ((nth ((nth become.l i).l) k2).b), .int .i64 ((nth ((nth become.l i).l) k2).c)], .own 3 (⟨v9, pm⟩ : Ls Int), .at_ become, .at_ code, .own 73 (⟨vo2, out2⟩ : Ls Ins)] := h141.nrm ⟨rfl, rfl, rfl, rfl, rfl, rfl, rfl, rfl, trivial⟩ [0, 1, 2, 3, 4] (by decide) ⟨rfl, rfl, rfl, rfl, rfl, trivial⟩
            clear h141
            refine x_condF h142 rfl rfl ?_
            refine wp_skip ?_
            refine hK129 _ _ ?_
            refine wp_region_lit ?_
            refine wms 1 h142 rfl fun a143 h143 => ?_
            clear h142
            refine wv h143 (r_ldbw (i := 0) (vs := [.int .i64 ((nth ((nth become.l i).l) k2).op), .int .i64 (nth pm (((nth ((nth become.l i).l) k2).a).toNat)), .int .i64 ((nth ((nth become.l i).l) k2).b), .int .i64 ((nth ((nth become.l i).l) k2).c)]) ti_73 rfl rfl rfl rfl rfl) rfl rfl fun a144 h144 => ?_
            clear h143
            refine wl_ex (x_lit (n := 1) (cs := [.int .i64 ((nth ((nth become.l i).l) k2).op), .int .i64 (nth pm (((nth ((nth become.l i).l) k2).a).toNat)), .int .i64 ((nth ((nth become.l i).l) k2).b), .int .i64 ((nth ((nth become.l i).l) k2).c)]) ([⟨(nth ((nth become.l i).l) k2).op, nth pm (((nth ((nth become.l i).l) k2).a).toNat), (nth ((nth become.l i).l) k2).b, (nth ((nth become.l i).l) k2).c⟩] : List Ins) h144 sl_64 ti_73 rfl rfl rfl (by decide) rfl (by kernel_rfl) rfl (fun q hq w h => Flat.inner _ _) (fun q hq b hb => (Flat.on _ _ hb).elim) rfl rfl) (wanted_none rfl _) ?_
            rintro a145 w145 ⟨v145, h145⟩
            clear h144
            refine wl_ex (x_app (r := 5) (rm := 0) (s := (⟨vo2, out2⟩ : Ls Ins)) (m := (⟨v145, [⟨(nth ((nth become.l i).l) k2).op, nth pm (((nth ((nth become.l i).l) k2).a).toNat), (nth ((nth become.l i).l) k2).b, (nth ((nth become.l i).l) k2).c⟩]⟩ : Ls Ins)) h145 sl_64 ti_73 rfl rfl rfl rfl rfl rfl rfl (fun w h => (h.own 0 rfl)) (fun b hb => own_on (h145.sh.ok _ (List.mem_of_getElem? (i := 0) rfl)) hb) (fun q hq b hb => ⟨q, hq, hb⟩) rfl rfl rfl inferInstance (show (out2.length + ([⟨(nth ((nth become.l i).l) k2).op, nth pm (((nth ((nth become.l i).l) k2).a).toNat), (nth ((nth become.l i).l) k2).b, (nth ((nth become.l i).l) k2).c⟩]).length) * 32 ≤ 140737488355328 ∧ out2.length + ([⟨(nth ((nth become.l i).l) k2).op, nth pm (((nth ((nth become.l i).l) k2).a).toNat), (nth ((nth become.l i).l) k2).b, (nth ((nth become.l i).l) k2).c⟩]).length ≤ 140737488355328 from (by first | omega | (simp only [List.length_append, List.length_cons, List.length_nil, List.length_set, List.length_replicate, List.length_map, List.length_range]; omega))) rfl rfl) (wanted_none rfl _) ?_
            rintro a146 w146 ⟨v146, h146⟩
            clear h145
            refine wms 1 h146 rfl fun a147 h147 => ?_
            clear h146
            refine wpList_nil ?_
            refine hK74 _ _ ?_
            refine wp_region_lit ?_
            refine wms 1 h147 rfl fun a148 h148 => ?_
            clear h147
            refine wv h148 (r_addN (p := k2) (q := 1) rfl rfl rfl (show k2 + 1 < 9223372036854775808 from (by first | omega | (simp only [List.length_append, List.length_cons, List.length_nil, List.length_set, List.length_replicate, List.length_map, List.length_range]; omega)))) rfl rfl fun a149 h149 => ?_
            clear h148
            refine wms 1 h149 rfl fun a150 h150 => ?_
            clear h149
            refine wpList_nil ?_
            refine x_again ⟨_, ?_, k2 + 1, out2 ++ ([⟨(nth ((nth become.l i).l) k2).op, nth pm (((nth ((nth become.l i).l) k2).a).toNat), (nth ((nth become.l i).l) k2).b, (nth ((nth become.l i).l) k2).c⟩]), v146, ?_, ?_, ?_, ((h150.sub (F' := [(0, become.v), (1, code.v), (5, v9), (8, v146), (9, .int .i64 ((i : Nat) : Int)), (10, .int .i64 ((k2 + 1 : Nat) : Int))]) ⟨rfl, rfl, rfl, rfl, rfl, rfl, trivial⟩).sel (L' := [.own 3 (⟨v9, pm⟩ : Ls Int), .at_ become, .at_ code, .own 73 (⟨v146, out2 ++ ([⟨(nth ((nth become.l i).l) k2).op, nth pm (((nth ((nth become.l i).l) k2).a).toNat), (nth ((nth become.l i).l) k2).b, (nth ((nth become.l i).l) k2).c⟩])⟩ : Ls Ins)]) [2, 3, 4, 5] (by decide) ⟨rfl, rfl, rfl, rfl, trivial⟩), rfl⟩
            · rw [hm63]; first | omega | (simp only [List.length_append, List.length_cons, List.length_nil, List.length_set, List.length_replicate, List.length_map, List.length_range]; omega)
            · omega
            · rw [hout2, take_succ_nth _ _ (by omega), List.map_append, ← List.append_assoc]; congr 1; simp only [List.map_cons, List.map_nil]; congr 1; unfold fixIns; (repeat' split) <;> first | (exfalso; omega) | rfl | (rw [hplw _ (by omega)])
            · simp; omega
          ·
            have hp98 : ¬ ((nth code.l i).op = 14) := of_decide_eq_false hb98
            refine wl_val h97 (r_move rfl rfl) (wanted_yes h97.fr rfl rfl rfl rfl hb98) rfl rfl fun a151 h151 => ?_
            clear h97
            refine wl_val h151 (r_move rfl rfl) (wanted_yes h151.fr rfl rfl rfl rfl hb98) rfl rfl fun a152 h152 => ?_
            clear h151
            refine wl_val h152 (r_ixN (s := code) (q := i) sl_64 ti_73 rfl rfl rfl (fun w h => (h.at 3 rfl)) (show i < code.l.length from (by first | omega | (simp only [List.length_append, List.length_cons, List.length_nil, List.length_set, List.length_replicate, List.length_map, List.length_range]; omega)))) (wanted_yes h152.fr rfl rfl rfl rfl hb98) rfl rfl fun a153 h153 => ?_
            clear h152
            refine wl_val h153 (r_fieldE (r := 0) fl_73_0 rfl rfl rfl) (wanted_yes h153.fr rfl rfl rfl rfl hb98) rfl rfl fun a154 h154 => ?_
            clear h153
            refine wl_val h154 (r_lde (s := code) (i := i) (v := .int .i64 ((nth code.l i).op)) ti_3 rfl rfl rfl (fun w h => (h.at 3 rfl)) (show i < code.l.length from (by first | omega | (simp only [List.length_append, List.length_cons, List.length_nil, List.length_set, List.length_replicate, List.length_map, List.length_range]; omega))) (Nat.le_of_ble_eq_true rfl) rfl) (wanted_yes h154.fr rfl rfl rfl rfl hb98) rfl rfl fun a155 h155 => ?_
            clear h154
            refine wl_val h155 (r_eqlI (p := (nth code.l i).op) (q := 15) rfl rfl rfl) (wanted_yes h155.fr rfl rfl rfl rfl hb98) rfl rfl fun a156 h156 => ?_
            clear h155
            refine wl_val h156 (r_pickF rfl rfl hb98 rfl) (wanted_yes h156.fr rfl rfl rfl rfl hb90) rfl rfl fun a157 h157 => ?_
            clear h156
            refine wv h157 (r_pickT rfl rfl hb90 rfl) rfl rfl fun a158 h158 => ?_
            clear h157
            refine wpList_nil ?_
            refine hK85 _ _ ?_
            have h159 : St 123 (fun _ => False) W a158 w83 [(0, become.v), (1, code.v), (5, v9), (8, vo2), (9, .int .i64 ((i : Nat) : Int)), (10, .int .i64 ((k2 : Nat) : Int)), (11, .pointer (some ⟨b82, 0, none⟩)), (78, .bool (decide ((nth code.l i).op = 15)))] [.blk b82 73 [.int .i64 ((nth ((nth become.l i).l) k2).op), .int .i64 ((nth ((nth become.l i).l) k2).a), .int .i64 ((nth ((nth become.l i).l) k2).b), .int .i64 ((nth ((nth become.l i).l) k2).c)], .own 3 (⟨v9, pm⟩ : Ls Int), .at_ become, .at_ code, .own 73 (⟨vo2, out2⟩ : Ls Ins)] := h158.nrm ⟨rfl, rfl, rfl, rfl, rfl, rfl, rfl, rfl, trivial⟩ [0, 1, 2, 3, 4] (by decide) ⟨rfl, rfl, rfl, rfl, rfl, trivial⟩
            clear h158
            refine x_cond h159 rfl (fun hb160 => ?_) (fun hb160 => ?_)
            ·
              have hp160 : (nth code.l i).op = 15 := of_decide_eq_true hb160
              refine wp_region_lit ?_
              refine wms 1 h159 rfl fun a161 h161 => ?_
              clear h159
              refine wv h161 (r_fieldB (r := 1) fl_73_1 rfl rfl rfl) rfl rfl fun a162 h162 => ?_
              clear h161
              refine wv h162 (r_ldb (i := 0) ti_3 rfl rfl rfl rfl) rfl rfl fun a163 h163 => ?_
              clear h162
              have hl164 : pm.length ≤ 140737488355328 := (h163.sh.own 1 rfl).len
              refine wv h163 (r_ixI (s := (⟨v9, pm⟩ : Ls Int)) (q := (nth ((nth become.l i).l) k2).a) sl_24 ti_3 rfl rfl rfl (fun w h => (h.own 1 rfl)) (show 0 ≤ (nth ((nth become.l i).l) k2).a ∧ (nth ((nth become.l i).l) k2).a < pm.length from (by first | omega | (simp only [List.length_append, List.length_cons, List.length_nil, List.length_set, List.length_replicate, List.length_map, List.length_range]; omega)))) rfl rfl fun a165 h165 => ?_
              clear h163
              refine wv h165 (r_lde (s := (⟨v9, pm⟩ : Ls Int)) (i := ((nth ((nth become.l i).l) k2).a).toNat) (v := .int .i64 (nth pm (((nth ((nth become.l i).l) k2).a).toNat))) ti_3 rfl rfl rfl (fun w h => (h.own 1 rfl)) (show ((nth ((nth become.l i).l) k2).a).toNat < pm.length from (by first | omega | (simp only [List.length_append, List.length_cons, List.length_nil, List.length_set, List.length_replicate, List.length_map, List.length_range]; omega))) (Nat.le_of_ble_eq_true rfl) rfl) rfl rfl fun a166 h166 => ?_
              clear h165
              refine wv h166 (r_fieldB (r := 1) fl_73_1 rfl rfl rfl) rfl rfl fun a167 h167 => ?_
              clear h166
              refine wl_ex (x_stb (i := 0) (vs := [.int .i64 (nth pm (((nth ((nth become.l i).l) k2).a).toNat))]) (cs' := [.int .i64 ((nth ((nth become.l i).l) k2).op), .int .i64 (nth pm (((nth ((nth become.l i).l) k2).a).toNat)), .int .i64 ((nth ((nth become.l i).l) k2).b), .int .i64 ((nth ((nth become.l i).l) k2).c)]) h167 ti_3 rfl rfl rfl rfl rfl rfl rfl (allOne_cons rfl allOne_nil) (Nat.le_of_ble_eq_true rfl) rfl) (wanted_none rfl _) ?_
              rintro a168 w168 h168
              clear h167
              refine wpList_nil ?_
              refine hK84 _ _ ?_
              refine wp_seq_k fun K169 hK169 => ?_
              refine wp_seq_k fun K170 hK170 => ?_
              refine wp_region_lit ?_
              refine wv h168 (r_fieldB (r := 0) fl_73_0 rfl rfl rfl) rfl rfl fun a171 h171 => ?_
              clear h168
              refine wv h171 (r_ldb (i := 0) ti_3 rfl rfl rfl rfl) rfl rfl fun a172 h172 => ?_
              clear h171
              refine wv h172 (r_eqlI (p := (nth ((nth become.l i).l) k2).op) (q := 15) rfl rfl rfl) rfl rfl fun a173 h173 => ?_
              clear h172
              refine wms 1 h173 rfl fun a174 h174 => ?_
              clear h173
              refine wl_skip h174 (wanted_no h174.fr rfl rfl rfl rfl (decide_eq_false (by omega))) rfl rfl fun a175 h175 => ?_
              clear h174
              refine wl_skip h175 (wanted_no h175.fr rfl rfl rfl rfl (decide_eq_false (by omega))) rfl rfl fun a176 h176 => ?_
              clear h175
              refine wl_skip h176 (wanted_no h176.fr rfl rfl rfl rfl (decide_eq_false (by omega))) rfl rfl fun a177 h177 => ?_
              clear h176
              refine wl_skip h177 (wanted_no h177.fr rfl rfl rfl rfl (decide_eq_false (by omega))) rfl rfl fun a178 h178 => ?_
              clear h177
              refine wl_skip h178 (wanted_no h178.fr rfl rfl rfl rfl (decide_eq_false (by omega))) rfl rfl fun a179 h179 => ?_
              clear h178
              refine wl_skip h179 (wanted_no h179.fr rfl rfl rfl rfl (decide_eq_false (by omega))) rfl rfl fun a180 h180 => ?_
              clear h179
              refine wv h180 (r_pickF rfl rfl (decide_eq_false (by omega)) rfl) rfl rfl fun a181 h181 => ?_
              clear h180
              refine wpList_nil ?_
              refine hK170 _ _ ?_
              refine x_condF h181 rfl rfl ?_
              refine wp_skip ?_
              refine hK169 _ _ ?_
              refine wp_seq_k fun K182 hK182 => ?_
              refine wp_seq_k fun K183 hK183 => ?_
              refine wp_region_lit ?_
              refine wv h181 (r_fieldB (r := 0) fl_73_0 rfl rfl rfl) rfl rfl fun a184 h184 => ?_
              clear h181
              refine wv h184 (r_ldb (i := 0) ti_3 rfl rfl rfl rfl) rfl rfl fun a185 h185 => ?_
              clear h184
              refine wv h185 (r_eqlI (p := (nth ((nth become.l i).l) k2).op) (q := 15) rfl rfl rfl) rfl rfl fun a186 h186 => ?_
              clear h185
              refine wms 1 h186 rfl fun a187 h187 => ?_
              clear h186
              refine wl_skip h187 (wanted_no h187.fr rfl rfl rfl rfl (decide_eq_false (by omega))) rfl rfl fun a188 h188 => ?_
              clear h187
              refine wl_skip h188 (wanted_no h188.fr rfl rfl rfl rfl (decide_eq_false (by omega))) rfl rfl fun a189 h189 => ?_
              clear h188
              refine wl_skip h189 (wanted_no h189.fr rfl rfl rfl rfl (decide_eq_false (by omega))) rfl rfl fun a190 h190 => ?_
              clear h189
              refine wl_skip h190 (wanted_no h190.fr rfl rfl rfl rfl (decide_eq_false (by omega))) rfl rfl fun a191 h191 => ?_
              clear h190
              refine wl_skip h191 (wanted_no h191.fr rfl rfl rfl rfl (decide_eq_false (by omega))) rfl rfl fun a192 h192 => ?_
              clear h191
              refine wl_skip h192 (wanted_no h192.fr rfl rfl rfl rfl (decide_eq_false (by omega))) rfl rfl fun a193 h193 => ?_
              clear h192
              refine wv h193 (r_pickF rfl rfl (decide_eq_false (by omega)) rfl) rfl rfl fun a194 h194 => ?_
              clear h193
              refine wpList_nil ?_
              refine hK183 _ _ ?_
              have h195 : St 123 (fun _ => False) W a194 w168 [(0, become.v), (1, code.v), (5, v9), (8, vo2), (9, .int .i64 ((i : Nat) : Int)), (10, .int .i64 ((k2 : Nat) : Int)), (11, .pointer (some ⟨b82, 0, none⟩)), (112, .bool false)] [.blk b82 73 [.int .i64 ((nth ((nth become.l i).l) k2).op), .int .i64 (nth pm (((nth ((nth become.l i).l) k2).a).toNat)), .int .i64 ((nth ((nth become.l i).l) k2).b), .int .i64 ((nth ((nth become.l i).l) k2).c)], .own 3 (⟨v9, pm⟩ : Ls Int), .at_ become, .at_ code, .own 73 (⟨vo2, out2⟩ : Ls Ins)] := h194.nrm ⟨rfl, rfl, rfl, rfl, rfl, rfl, rfl, rfl, trivial⟩ [0, 1, 2, 3, 4] (by decide) ⟨rfl, rfl, rfl, rfl, rfl, trivial⟩
              clear h194
              refine x_condF h195 rfl rfl ?_
              refine wp_skip ?_
              refine hK182 _ _ ?_
              refine wp_region_lit ?_
              refine wms 1 h195 rfl fun a196 h196 => ?_
              clear h195
              refine wv h196 (r_ldbw (i := 0) (vs := [.int .i64 ((nth ((nth become.l i).l) k2).op), .int .i64 (nth pm (((nth ((nth become.l i).l) k2).a).toNat)), .int .i64 ((nth ((nth become.l i).l) k2).b), .int .i64 ((nth ((nth become.l i).l) k2).c)]) ti_73 rfl rfl rfl rfl rfl) rfl rfl fun a197 h197 => ?_
              clear h196
              refine wl_ex (x_lit (n := 1) (cs := [.int .i64 ((nth ((nth become.l i).l) k2).op), .int .i64 (nth pm (((nth ((nth become.l i).l) k2).a).toNat)), .int .i64 ((nth ((nth become.l i).l) k2).b), .int .i64 ((nth ((nth become.l i).l) k2).c)]) ([⟨(nth ((nth become.l i).l) k2).op, nth pm (((nth ((nth become.l i).l) k2).a).toNat), (nth ((nth become.l i).l) k2).b, (nth ((nth become.l i).l) k2).c⟩] : List Ins) h197 sl_64 ti_73 rfl rfl rfl (by decide) rfl (by kernel_rfl) rfl (fun q hq w h => Flat.inner _ _) (fun q hq b hb => (Flat.on _ _ hb).elim) rfl rfl) (wanted_none rfl _) ?_
              rintro a198 w198 ⟨v198, h198⟩
              clear h197
              refine wl_ex (x_app (r := 5) (rm := 0) (s := (⟨vo2, out2⟩ : Ls Ins)) (m := (⟨v198, [⟨(nth ((nth become.l i).l) k2).op, nth pm (((nth ((nth become.l i).l) k2).a).toNat), (nth ((nth become.l i).l) k2).b, (nth ((nth become.l i).l) k2).c⟩]⟩ : Ls Ins)) h198 sl_64 ti_73 rfl rfl rfl rfl rfl rfl rfl (fun w h => (h.own 0 rfl)) (fun b hb => own_on (h198.sh.ok _ (List.mem_of_getElem? (i := 0) rfl)) hb) (fun q hq b hb => ⟨q, hq, hb⟩) rfl rfl rfl inferInstance (show (out2.length + ([⟨(nth ((nth become.l i).l) k2).op, nth pm (((nth ((nth become.l i).l) k2).a).toNat), (nth ((nth become.l i).l) k2).b, (nth ((nth become.l i).l) k2).c⟩]).length) * 32 ≤ 140737488355328 ∧ out2.length + ([⟨(nth ((nth become.l i).l) k2).op, nth pm (((nth ((nth become.l i).l) k2).a).toNat), (nth ((nth become.l i).l) k2).b, (nth ((nth become.l i).l) k2).c⟩]).length ≤ 140737488355328 from (by first | omega | (simp only [List.length_append, List.length_cons, List.length_nil, List.length_set, List.length_replicate, List.length_map, List.length_range]; omega))) rfl rfl) (wanted_none rfl _) ?_
              rintro a199 w199 ⟨v199, h199⟩
              clear h198
              refine wms 1 h199 rfl fun a200 h200 => ?_
              clear h199
              refine wpList_nil ?_
              refine hK74 _ _ ?_
              refine wp_region_lit ?_
              refine wms 1 h200 rfl fun a201 h201 => ?_
              clear h200
              refine wv h201 (r_addN (p := k2) (q := 1) rfl rfl rfl (show k2 + 1 < 9223372036854775808 from (by first | omega | (simp only [List.length_append, List.length_cons, List.length_nil, List.length_set, List.length_replicate, List.length_map, List.length_range]; omega)))) rfl rfl fun a202 h202 => ?_
              clear h201
              refine wms 1 h202 rfl fun a203 h203 => ?_
              clear h202
              refine wpList_nil ?_
              refine x_again ⟨_, ?_, k2 + 1, out2 ++ ([⟨(nth ((nth become.l i).l) k2).op, nth pm (((nth ((nth become.l i).l) k2).a).toNat), (nth ((nth become.l i).l) k2).b, (nth ((nth become.l i).l) k2).c⟩]), v199, ?_, ?_, ?_, ((h203.sub (F' := [(0, become.v), (1, code.v), (5, v9), (8, v199), (9, .int .i64 ((i : Nat) : Int)), (10, .int .i64 ((k2 + 1 : Nat) : Int))]) ⟨rfl, rfl, rfl, rfl, rfl, rfl, trivial⟩).sel (L' := [.own 3 (⟨v9, pm⟩ : Ls Int), .at_ become, .at_ code, .own 73 (⟨v199, out2 ++ ([⟨(nth ((nth become.l i).l) k2).op, nth pm (((nth ((nth become.l i).l) k2).a).toNat), (nth ((nth become.l i).l) k2).b, (nth ((nth become.l i).l) k2).c⟩])⟩ : Ls Ins)]) [2, 3, 4, 5] (by decide) ⟨rfl, rfl, rfl, rfl, trivial⟩), rfl⟩
              · rw [hm63]; first | omega | (simp only [List.length_append, List.length_cons, List.length_nil, List.length_set, List.length_replicate, List.length_map, List.length_range]; omega)
              · omega
              · rw [hout2, take_succ_nth _ _ (by omega), List.map_append, ← List.append_assoc]; congr 1; simp only [List.map_cons, List.map_nil]; congr 1; unfold fixIns; (repeat' split) <;> first | (exfalso; omega) | rfl | (rw [hplw _ (by omega)])
              · simp; omega
            ·
              have hp160 : ¬ ((nth code.l i).op = 15) := of_decide_eq_false hb160
              refine wp_skip ?_
              refine hK84 _ _ ?_
              refine wp_seq_k fun K204 hK204 => ?_
              refine wp_seq_k fun K205 hK205 => ?_
              refine wp_region_lit ?_
              refine wv h159 (r_fieldB (r := 0) fl_73_0 rfl rfl rfl) rfl rfl fun a206 h206 => ?_
              clear h159
              refine wv h206 (r_ldb (i := 0) ti_3 rfl rfl rfl rfl) rfl rfl fun a207 h207 => ?_
              clear h206
              refine wv h207 (r_eqlI (p := (nth ((nth become.l i).l) k2).op) (q := 15) rfl rfl rfl) rfl rfl fun a208 h208 => ?_
              clear h207
              refine wms 1 h208 rfl fun a209 h209 => ?_
              clear h208
              refine wl_skip h209 (wanted_no h209.fr rfl rfl rfl rfl (decide_eq_false (by omega))) rfl rfl fun a210 h210 => ?_
              clear h209
              refine wl_skip h210 (wanted_no h210.fr rfl rfl rfl rfl (decide_eq_false (by omega))) rfl rfl fun a211 h211 => ?_
              clear h210
              refine wl_skip h211 (wanted_no h211.fr rfl rfl rfl rfl (decide_eq_false (by omega))) rfl rfl fun a212 h212 => ?_
              clear h211
              refine wl_skip h212 (wanted_no h212.fr rfl rfl rfl rfl (decide_eq_false (by omega))) rfl rfl fun a213 h213 => ?_
              clear h212
              refine wl_skip h213 (wanted_no h213.fr rfl rfl rfl rfl (decide_eq_false (by omega))) rfl rfl fun a214 h214 => ?_
              clear h213
              refine wl_skip h214 (wanted_no h214.fr rfl rfl rfl rfl (decide_eq_false (by omega))) rfl rfl fun a215 h215 => ?_
              clear h214
              refine wv h215 (r_pickF rfl rfl (decide_eq_false (by omega)) rfl) rfl rfl fun a216 h216 => ?_
              clear h215
              refine wpList_nil ?_
              refine hK205 _ _ ?_
              refine x_condF h216 rfl rfl ?_
              refine wp_skip ?_
              refine hK204 _ _ ?_
              refine wp_seq_k fun K217 hK217 => ?_
              refine wp_seq_k fun K218 hK218 => ?_
              refine wp_region_lit ?_
              refine wv h216 (r_fieldB (r := 0) fl_73_0 rfl rfl rfl) rfl rfl fun a219 h219 => ?_
              clear h216
              refine wv h219 (r_ldb (i := 0) ti_3 rfl rfl rfl rfl) rfl rfl fun a220 h220 => ?_
              clear h219
              refine wv h220 (r_eqlI (p := (nth ((nth become.l i).l) k2).op) (q := 15) rfl rfl rfl) rfl rfl fun a221 h221 => ?_
              clear h220
              refine wms 1 h221 rfl fun a222 h222 => ?_
              clear h221
              refine wl_skip h222 (wanted_no h222.fr rfl rfl rfl rfl (decide_eq_false (by omega))) rfl rfl fun a223 h223 => ?_
              clear h222
              refine wl_skip h223 (wanted_no h223.fr rfl rfl rfl rfl (decide_eq_false (by omega))) rfl rfl fun a224 h224 => ?_
              clear h223
              refine wl_skip h224 (wanted_no h224.fr rfl rfl rfl rfl (decide_eq_false (by omega))) rfl rfl fun a225 h225 => ?_
              clear h224
              refine wl_skip h225 (wanted_no h225.fr rfl rfl rfl rfl (decide_eq_false (by omega))) rfl rfl fun a226 h226 => ?_
              clear h225
              refine wl_skip h226 (wanted_no h226.fr rfl rfl rfl rfl (decide_eq_false (by omega))) rfl rfl fun a227 h227 => ?_
              clear h226
              refine wl_skip h227 (wanted_no h227.fr rfl rfl rfl rfl (decide_eq_false (by omega))) rfl rfl fun a228 h228 => ?_
              clear h227
              refine wv h228 (r_pickF rfl rfl (decide_eq_false (by omega)) rfl) rfl rfl fun a229 h229 => ?_
              clear h228
              refine wpList_nil ?_
              refine hK218 _ _ ?_
              refine x_condF h229 rfl rfl ?_
              refine wp_skip ?_
              refine hK217 _ _ ?_
              have h230 : St 123 (fun _ => False) W a229 w83 [(0, become.v), (1, code.v), (5, v9), (8, vo2), (9, .int .i64 ((i : Nat) : Int)), (10, .int .i64 ((k2 : Nat) : Int)), (11, .pointer (some ⟨b82, 0, none⟩))] [.blk b82 73 [.int .i64 ((nth ((nth become.l i).l) k2).op), .int .i64 ((nth ((nth become.l i).l) k2).a), .int .i64 ((nth ((nth become.l i).l) k2).b), .int .i64 ((nth ((nth become.l i).l) k2).c)], .own 3 (⟨v9, pm⟩ : Ls Int), .at_ become, .at_ code, .own 73 (⟨vo2, out2⟩ : Ls Ins)] := h229.nrm ⟨rfl, rfl, rfl, rfl, rfl, rfl, rfl, trivial⟩ [0, 1, 2, 3, 4] (by decide) ⟨rfl, rfl, rfl, rfl, rfl, trivial⟩
              clear h229
              refine wp_region_lit ?_
              refine wms 1 h230 rfl fun a231 h231 => ?_
              clear h230
              refine wv h231 (r_ldbw (i := 0) (vs := [.int .i64 ((nth ((nth become.l i).l) k2).op), .int .i64 ((nth ((nth become.l i).l) k2).a), .int .i64 ((nth ((nth become.l i).l) k2).b), .int .i64 ((nth ((nth become.l i).l) k2).c)]) ti_73 rfl rfl rfl rfl rfl) rfl rfl fun a232 h232 => ?_
              clear h231
              refine wl_ex (x_lit (n := 1) (cs := [.int .i64 ((nth ((nth become.l i).l) k2).op), .int .i64 ((nth ((nth become.l i).l) k2).a), .int .i64 ((nth ((nth become.l i).l) k2).b), .int .i64 ((nth ((nth become.l i).l) k2).c)]) ([⟨(nth ((nth become.l i).l) k2).op, (nth ((nth become.l i).l) k2).a, (nth ((nth become.l i).l) k2).b, (nth ((nth become.l i).l) k2).c⟩] : List Ins) h232 sl_64 ti_73 rfl rfl rfl (by decide) rfl (by kernel_rfl) rfl (fun q hq w h => Flat.inner _ _) (fun q hq b hb => (Flat.on _ _ hb).elim) rfl rfl) (wanted_none rfl _) ?_
              rintro a233 w233 ⟨v233, h233⟩
              clear h232
              refine wl_ex (x_app (r := 5) (rm := 0) (s := (⟨vo2, out2⟩ : Ls Ins)) (m := (⟨v233, [⟨(nth ((nth become.l i).l) k2).op, (nth ((nth become.l i).l) k2).a, (nth ((nth become.l i).l) k2).b, (nth ((nth become.l i).l) k2).c⟩]⟩ : Ls Ins)) h233 sl_64 ti_73 rfl rfl rfl rfl rfl rfl rfl (fun w h => (h.own 0 rfl)) (fun b hb => own_on (h233.sh.ok _ (List.mem_of_getElem? (i := 0) rfl)) hb) (fun q hq b hb => ⟨q, hq, hb⟩) rfl rfl rfl inferInstance (show (out2.length + ([⟨(nth ((nth become.l i).l) k2).op, (nth ((nth become.l i).l) k2).a, (nth ((nth become.l i).l) k2).b, (nth ((nth become.l i).l) k2).c⟩]).length) * 32 ≤ 140737488355328 ∧ out2.length + ([⟨(nth ((nth become.l i).l) k2).op, (nth ((nth become.l i).l) k2).a, (nth ((nth become.l i).l) k2).b, (nth ((nth become.l i).l) k2).c⟩]).length ≤ 140737488355328 from (by first | omega | (simp only [List.length_append, List.length_cons, List.length_nil, List.length_set, List.length_replicate, List.length_map, List.length_range]; omega))) rfl rfl) (wanted_none rfl _) ?_
              rintro a234 w234 ⟨v234, h234⟩
              clear h233
              refine wms 1 h234 rfl fun a235 h235 => ?_
              clear h234
              refine wpList_nil ?_
              refine hK74 _ _ ?_
              refine wp_region_lit ?_
              refine wms 1 h235 rfl fun a236 h236 => ?_
              clear h235
              refine wv h236 (r_addN (p := k2) (q := 1) rfl rfl rfl (show k2 + 1 < 9223372036854775808 from (by first | omega | (simp only [List.length_append, List.length_cons, List.length_nil, List.length_set, List.length_replicate, List.length_map, List.length_range]; omega)))) rfl rfl fun a237 h237 => ?_
              clear h236
              refine wms 1 h237 rfl fun a238 h238 => ?_
              clear h237
              refine wpList_nil ?_
              refine x_again ⟨_, ?_, k2 + 1, out2 ++ ([⟨(nth ((nth become.l i).l) k2).op, (nth ((nth become.l i).l) k2).a, (nth ((nth become.l i).l) k2).b, (nth ((nth become.l i).l) k2).c⟩]), v234, ?_, ?_, ?_, ((h238.sub (F' := [(0, become.v), (1, code.v), (5, v9), (8, v234), (9, .int .i64 ((i : Nat) : Int)), (10, .int .i64 ((k2 + 1 : Nat) : Int))]) ⟨rfl, rfl, rfl, rfl, rfl, rfl, trivial⟩).sel (L' := [.own 3 (⟨v9, pm⟩ : Ls Int), .at_ become, .at_ code, .own 73 (⟨v234, out2 ++ ([⟨(nth ((nth become.l i).l) k2).op, (nth ((nth become.l i).l) k2).a, (nth ((nth become.l i).l) k2).b, (nth ((nth become.l i).l) k2).c⟩])⟩ : Ls Ins)]) [2, 3, 4, 5] (by decide) ⟨rfl, rfl, rfl, rfl, trivial⟩), rfl⟩
              · rw [hm63]; first | omega | (simp only [List.length_append, List.length_cons, List.length_nil, List.length_set, List.length_replicate, List.length_map, List.length_range]; omega)
              · omega
              · rw [hout2, take_succ_nth _ _ (by omega), List.map_append, ← List.append_assoc]; congr 1; simp only [List.map_cons, List.map_nil]; congr 1; unfold fixIns; (repeat' split) <;> first | (exfalso; omega) | rfl | (rw [hplw _ (by omega)])
              · simp; omega
        ·
          have hp90 : ¬ ((nth ((nth become.l i).l) k2).op = 14) := of_decide_eq_false hb90
          refine wl_skip h89 (wanted_no h89.fr rfl rfl rfl rfl hb90) rfl rfl fun a239 h239 => ?_
          clear h89
          refine wl_skip h239 (wanted_no h239.fr rfl rfl rfl rfl hb90) rfl rfl fun a240 h240 => ?_
          clear h239
          refine wl_skip h240 (wanted_no h240.fr rfl rfl rfl rfl hb90) rfl rfl fun a241 h241 => ?_
          clear h240
          refine wl_skip h241 (wanted_no h241.fr rfl rfl rfl rfl hb90) rfl rfl fun a242 h242 => ?_
          clear h241
          refine wl_skip h242 (wanted_no h242.fr rfl rfl rfl rfl hb90) rfl rfl fun a243 h243 => ?_
          clear h242
          refine wl_skip h243 (wanted_no h243.fr rfl rfl rfl rfl hb90) rfl rfl fun a244 h244 => ?_
          clear h243
          refine wl_skip h244 (wanted_no h244.fr rfl rfl rfl rfl hb90) rfl rfl fun a245 h245 => ?_
          clear h244
          refine wl_skip h245 (wanted_no2 h245.fr rfl rfl rfl rfl) rfl rfl fun a246 h246 => ?_
          clear h245
          refine wl_skip h246 (wanted_no2 h246.fr rfl rfl rfl rfl) rfl rfl fun a247 h247 => ?_
          clear h246
          refine wl_skip h247 (wanted_no2 h247.fr rfl rfl rfl rfl) rfl rfl fun a248 h248 => ?_
          clear h247
          refine wl_skip h248 (wanted_no2 h248.fr rfl rfl rfl rfl) rfl rfl fun a249 h249 => ?_
          clear h248
          refine wl_skip h249 (wanted_no2 h249.fr rfl rfl rfl rfl) rfl rfl fun a250 h250 => ?_
          clear h249
          refine wl_skip h250 (wanted_no2 h250.fr rfl rfl rfl rfl) rfl rfl fun a251 h251 => ?_
          clear h250
          refine wl_skip h251 (wanted_no h251.fr rfl rfl rfl rfl hb90) rfl rfl fun a252 h252 => ?_
          clear h251
          refine wv h252 (r_pickF rfl rfl hb90 rfl) rfl rfl fun a253 h253 => ?_
          clear h252
          refine wpList_nil ?_
          refine hK85 _ _ ?_
          have h254 : St 123 (fun _ => False) W a253 w83 [(0, become.v), (1, code.v), (5, v9), (8, vo2), (9, .int .i64 ((i : Nat) : Int)), (10, .int .i64 ((k2 : Nat) : Int)), (11, .pointer (some ⟨b82, 0, none⟩)), (78, .bool false)] [.blk b82 73 [.int .i64 ((nth ((nth become.l i).l) k2).op), .int .i64 ((nth ((nth become.l i).l) k2).a), .int .i64 ((nth ((nth become.l i).l) k2).b), .int .i64 ((nth ((nth become.l i).l) k2).c)], .own 3 (⟨v9, pm⟩ : Ls Int), .at_ become, .at_ code, .own 73 (⟨vo2, out2⟩ : Ls Ins)] := h253.nrm ⟨rfl, rfl, rfl, rfl, rfl, rfl, rfl, rfl, trivial⟩ [0, 1, 2, 3, 4] (by decide) ⟨rfl, rfl, rfl, rfl, rfl, trivial⟩
          clear h253
          refine x_condF h254 rfl rfl ?_
          refine wp_skip ?_
          refine hK84 _ _ ?_
          refine wp_seq_k fun K255 hK255 => ?_
          refine wp_seq_k fun K256 hK256 => ?_
          refine wp_region_lit ?_
          refine wv h254 (r_fieldB (r := 0) fl_73_0 rfl rfl rfl) rfl rfl fun a257 h257 => ?_
          clear h254
          refine wv h257 (r_ldb (i := 0) ti_3 rfl rfl rfl rfl) rfl rfl fun a258 h258 => ?_
          clear h257
          refine wv h258 (r_eqlI (p := (nth ((nth become.l i).l) k2).op) (q := 15) rfl rfl rfl) rfl rfl fun a259 h259 => ?_
          clear h258
          refine wms 1 h259 rfl fun a260 h260 => ?_
          clear h259
          rcases Bool.eq_false_or_eq_true (decide ((nth ((nth become.l i).l) k2).op = 15)) with hb261 | hb261
          ·
            have hp261 : (nth ((nth become.l i).l) k2).op = 15 := of_decide_eq_true hb261
            refine wl_val h260 (r_move rfl rfl) (wanted_yes h260.fr rfl rfl rfl rfl hb261) rfl rfl fun a262 h262 => ?_
            clear h260
            refine wl_val h262 (r_move rfl rfl) (wanted_yes h262.fr rfl rfl rfl rfl hb261) rfl rfl fun a263 h263 => ?_
            clear h262
            refine wl_val h263 (r_ixN (s := code) (q := i) sl_64 ti_73 rfl rfl rfl (fun w h => (h.at 3 rfl)) (show i < code.l.length from (by first | omega | (simp only [List.length_append, List.length_cons, List.length_nil, List.length_set, List.length_replicate, List.length_map, List.length_range]; omega)))) (wanted_yes h263.fr rfl rfl rfl rfl hb261) rfl rfl fun a264 h264 => ?_
            clear h263
            refine wl_val h264 (r_fieldE (r := 0) fl_73_0 rfl rfl rfl) (wanted_yes h264.fr rfl rfl rfl rfl hb261) rfl rfl fun a265 h265 => ?_
            clear h264
            refine wl_val h265 (r_lde (s := code) (i := i) (v := .int .i64 ((nth code.l i).op)) ti_3 rfl rfl rfl (fun w h => (h.at 3 rfl)) (show i < code.l.length from (by first | omega | (simp only [List.length_append, List.length_cons, List.length_nil, List.length_set, List.length_replicate, List.length_map, List.length_range]; omega))) (Nat.le_of_ble_eq_true rfl) rfl) (wanted_yes h265.fr rfl rfl rfl rfl hb261) rfl rfl fun a266 h266 => ?_
            clear h265
            refine wl_val h266 (r_eqlI (p := (nth code.l i).op) (q := 15) rfl rfl rfl) (wanted_yes h266.fr rfl rfl rfl rfl hb261) rfl rfl fun a267 h267 => ?_
            clear h266
            refine wv h267 (r_pickT rfl rfl hb261 rfl) rfl rfl fun a268 h268 => ?_
            clear h267
            refine wpList_nil ?_
            refine hK256 _ _ ?_
            refine x_cond h268 rfl (fun hb269 => ?_) (fun hb269 => ?_)
            ·
              have hp269 : (nth code.l i).op = 15 := of_decide_eq_true hb269
              refine wp_region_lit ?_
              refine wms 1 h268 rfl fun a270 h270 => ?_
              clear h268
              refine wv h270 (r_fieldB (r := 2) fl_73_2 rfl rfl rfl) rfl rfl fun a271 h271 => ?_
              clear h270
              refine wv h271 (r_ldb (i := 0) ti_3 rfl rfl rfl rfl) rfl rfl fun a272 h272 => ?_
              clear h271
              have hl273 : pm.length ≤ 140737488355328 := (h272.sh.own 1 rfl).len
              refine wv h272 (r_ixI (s := (⟨v9, pm⟩ : Ls Int)) (q := (nth ((nth become.l i).l) k2).b) sl_24 ti_3 rfl rfl rfl (fun w h => (h.own 1 rfl)) (show 0 ≤ (nth ((nth become.l i).l) k2).b ∧ (nth ((nth become.l i).l) k2).b < pm.length from (by first | omega | (simp only [List.length_append, List.length_cons, List.length_nil, List.length_set, List.length_replicate, List.length_map, List.length_range]; omega)))) rfl rfl fun a274 h274 => ?_
              clear h272
              refine wv h274 (r_lde (s := (⟨v9, pm⟩ : Ls Int)) (i := ((nth ((nth become.l i).l) k2).b).toNat) (v := .int .i64 (nth pm (((nth ((nth become.l i).l) k2).b).toNat))) ti_3 rfl rfl rfl (fun w h => (h.own 1 rfl)) (show ((nth ((nth become.l i).l) k2).b).toNat < pm.length from (by first | omega | (simp only [List.length_append, List.length_cons, List.length_nil, List.length_set, List.length_replicate, List.length_map, List.length_range]; omega))) (Nat.le_of_ble_eq_true rfl) rfl) rfl rfl fun a275 h275 => ?_
              clear h274
              refine wv h275 (r_fieldB (r := 2) fl_73_2 rfl rfl rfl) rfl rfl fun a276 h276 => ?_
              clear h275
              refine wl_ex (x_stb (i := 0) (vs := [.int .i64 (nth pm (((nth ((nth become.l i).l) k2).b).toNat))]) (cs' := [.int .i64 ((nth ((nth become.l i).l) k2).op), .int .i64 ((nth ((nth become.l i).l) k2).a), .int .i64 (nth pm (((nth ((nth become.l i).l) k2).b).toNat)), .int .i64 ((nth ((nth become.l i).l) k2).c)]) h276 ti_3 rfl rfl rfl rfl rfl rfl rfl (allOne_cons rfl allOne_nil) (Nat.le_of_ble_eq_true rfl) rfl) (wanted_none rfl _) ?_
              rintro a277 w277 h277
              clear h276
              refine wpList_nil ?_
              refine hK255 _ _ ?_
              refine wp_seq_k fun K278 hK278 => ?_
              refine wp_seq_k fun K279 hK279 => ?_
              refine wp_region_lit ?_
              refine wv h277 (r_fieldB (r := 0) fl_73_0 rfl rfl rfl) rfl rfl fun a280 h280 => ?_
              clear h277
              refine wv h280 (r_ldb (i := 0) ti_3 rfl rfl rfl rfl) rfl rfl fun a281 h281 => ?_
              clear h280
              refine wv h281 (r_eqlI (p := (nth ((nth become.l i).l) k2).op) (q := 15) rfl rfl rfl) rfl rfl fun a282 h282 => ?_
              clear h281
              refine wms 1 h282 rfl fun a283 h283 => ?_
              clear h282
              refine wl_val h283 (r_move rfl rfl) (wanted_yes h283.fr rfl rfl rfl rfl hb261) rfl rfl fun a284 h284 => ?_
              clear h283
              refine wl_val h284 (r_move rfl rfl) (wanted_yes h284.fr rfl rfl rfl rfl hb261) rfl rfl fun a285 h285 => ?_
              clear h284
              refine wl_val h285 (r_ixN (s := code) (q := i) sl_64 ti_73 rfl rfl rfl (fun w h => (h.at 3 rfl)) (show i < code.l.length from (by first | omega | (simp only [List.length_append, List.length_cons, List.length_nil, List.length_set, List.length_replicate, List.length_map, List.length_range]; omega)))) (wanted_yes h285.fr rfl rfl rfl rfl hb261) rfl rfl fun a286 h286 => ?_
              clear h285
              refine wl_val h286 (r_fieldE (r := 0) fl_73_0 rfl rfl rfl) (wanted_yes h286.fr rfl rfl rfl rfl hb261) rfl rfl fun a287 h287 => ?_
              clear h286
              refine wl_val h287 (r_lde (s := code) (i := i) (v := .int .i64 ((nth code.l i).op)) ti_3 rfl rfl rfl (fun w h => (h.at 3 rfl)) (show i < code.l.length from (by first | omega | (simp only [List.length_append, List.length_cons, List.length_nil, List.length_set, List.length_replicate, List.length_map, List.length_range]; omega))) (Nat.le_of_ble_eq_true rfl) rfl) (wanted_yes h287.fr rfl rfl rfl rfl hb261) rfl rfl fun a288 h288 => ?_
              clear h287
              refine wl_val h288 (r_eqlI (p := (nth code.l i).op) (q := 17) rfl rfl rfl) (wanted_yes h288.fr rfl rfl rfl rfl hb261) rfl rfl fun a289 h289 => ?_
              clear h288
              refine wv h289 (r_pickT rfl rfl hb261 rfl) rfl rfl fun a290 h290 => ?_
              clear h289
              refine wpList_nil ?_
              refine hK279 _ _ ?_
              have h291 : St 123 (fun _ => False) W a290 w277 [(0, become.v), (1, code.v), (5, v9), (8, vo2), (9, .int .i64 ((i : Nat) : Int)), (10, .int .i64 ((k2 : Nat) : Int)), (11, .pointer (some ⟨b82, 0, none⟩)), (112, .bool (decide ((nth code.l i).op = 17)))] [.blk b82 73 [.int .i64 ((nth ((nth become.l i).l) k2).op), .int .i64 ((nth ((nth become.l i).l) k2).a), .int .i64 (nth pm (((nth ((nth become.l i).l) k2).b).toNat)), .int .i64 ((nth ((nth become.l i).l) k2).c)], .own 3 (⟨v9, pm⟩ : Ls Int), .at_ become, .at_ code, .own 73 (⟨vo2, out2⟩ : Ls Ins)] := h290.nrm ⟨rfl, rfl, rfl, rfl, rfl, rfl, rfl, rfl, trivial⟩ [0, 1, 2, 3, 4] (by decide) ⟨rfl, rfl, rfl, rfl, rfl, trivial⟩
              clear h290
              refine x_condF h291 rfl (decide_eq_false (by omega)) ?_
              refine wp_skip ?_
              refine hK278 _ _ ?_
              refine wp_region_lit ?_
              refine wms 1 h291 rfl fun a292 h292 => ?_
              clear h291
              refine wv h292 (r_ldbw (i := 0) (vs := [.int .i64 ((nth ((nth become.l i).l) k2).op), .int .i64 ((nth ((nth become.l i).l) k2).a), .int .i64 (nth pm (((nth ((nth become.l i).l) k2).b).toNat)), .int .i64 ((nth ((nth become.l i).l) k2).c)]) ti_73 rfl rfl rfl rfl rfl) rfl rfl fun a293 h293 => ?_
              clear h292
              refine wl_ex (x_lit (n := 1) (cs := [.int .i64 ((nth ((nth become.l i).l) k2).op), .int .i64 ((nth ((nth become.l i).l) k2).a), .int .i64 (nth pm (((nth ((nth become.l i).l) k2).b).toNat)), .int .i64 ((nth ((nth become.l i).l) k2).c)]) ([⟨(nth ((nth become.l i).l) k2).op, (nth ((nth become.l i).l) k2).a, nth pm (((nth ((nth become.l i).l) k2).b).toNat), (nth ((nth become.l i).l) k2).c⟩] : List Ins) h293 sl_64 ti_73 rfl rfl rfl (by decide) rfl (by kernel_rfl) rfl (fun q hq w h => Flat.inner _ _) (fun q hq b hb => (Flat.on _ _ hb).elim) rfl rfl) (wanted_none rfl _) ?_
              rintro a294 w294 ⟨v294, h294⟩
              clear h293
              refine wl_ex (x_app (r := 5) (rm := 0) (s := (⟨vo2, out2⟩ : Ls Ins)) (m := (⟨v294, [⟨(nth ((nth become.l i).l) k2).op, (nth ((nth become.l i).l) k2).a, nth pm (((nth ((nth become.l i).l) k2).b).toNat), (nth ((nth become.l i).l) k2).c⟩]⟩ : Ls Ins)) h294 sl_64 ti_73 rfl rfl rfl rfl rfl rfl rfl (fun w h => (h.own 0 rfl)) (fun b hb => own_on (h294.sh.ok _ (List.mem_of_getElem? (i := 0) rfl)) hb) (fun q hq b hb => ⟨q, hq, hb⟩) rfl rfl rfl inferInstance (show (out2.length + ([⟨(nth ((nth become.l i).l) k2).op, (nth ((nth become.l i).l) k2).a, nth pm (((nth ((nth become.l i).l) k2).b).toNat), (nth ((nth become.l i).l) k2).c⟩]).length) * 32 ≤ 140737488355328 ∧ out2.length + ([⟨(nth ((nth become.l i).l) k2).op, (nth ((nth become.l i).l) k2).a, nth pm (((nth ((nth become.l i).l) k2).b).toNat), (nth ((nth become.l i).l) k2).c⟩]).length ≤ 140737488355328 from (by first | omega | (simp only [List.length_append, List.length_cons, List.length_nil, List.length_set, List.length_replicate, List.length_map, List.length_range]; omega))) rfl rfl) (wanted_none rfl _) ?_
              rintro a295 w295 ⟨v295, h295⟩
              clear h294
              refine wms 1 h295 rfl fun a296 h296 => ?_
              clear h295
              refine wpList_nil ?_
              refine hK74 _ _ ?_
              refine wp_region_lit ?_
              refine wms 1 h296 rfl fun a297 h297 => ?_
              clear h296
              refine wv h297 (r_addN (p := k2) (q := 1) rfl rfl rfl (show k2 + 1 < 9223372036854775808 from (by first | omega | (simp only [List.length_append, List.length_cons, List.length_nil, List.length_set, List.length_replicate, List.length_map, List.length_range]; omega)))) rfl rfl fun a298 h298 => ?_
              clear h297
              refine wms 1 h298 rfl fun a299 h299 => ?_
              clear h298
              refine wpList_nil ?_
              refine x_again ⟨_, ?_, k2 + 1, out2 ++ ([⟨(nth ((nth become.l i).l) k2).op, (nth ((nth become.l i).l) k2).a, nth pm (((nth ((nth become.l i).l) k2).b).toNat), (nth ((nth become.l i).l) k2).c⟩]), v295, ?_, ?_, ?_, ((h299.sub (F' := [(0, become.v), (1, code.v), (5, v9), (8, v295), (9, .int .i64 ((i : Nat) : Int)), (10, .int .i64 ((k2 + 1 : Nat) : Int))]) ⟨rfl, rfl, rfl, rfl, rfl, rfl, trivial⟩).sel (L' := [.own 3 (⟨v9, pm⟩ : Ls Int), .at_ become, .at_ code, .own 73 (⟨v295, out2 ++ ([⟨(nth ((nth become.l i).l) k2).op, (nth ((nth become.l i).l) k2).a, nth pm (((nth ((nth become.l i).l) k2).b).toNat), (nth ((nth become.l i).l) k2).c⟩])⟩ : Ls Ins)]) [2, 3, 4, 5] (by decide) ⟨rfl, rfl, rfl, rfl, trivial⟩), rfl⟩
              · rw [hm63]; first | omega | (simp only [List.length_append, List.length_cons, List.length_nil, List.length_set, List.length_replicate, List.length_map, List.length_range]; omega)
              · omega
              · rw [hout2, take_succ_nth _ _ (by omega), List.map_append, ← List.append_assoc]; congr 1; simp only [List.map_cons, List.map_nil]; congr 1; unfold fixIns; (repeat' split) <;> first | (exfalso; omega) | rfl | (rw [hplw _ (by omega)])
              · simp; omega
            ·
              have hp269 : ¬ ((nth code.l i).op = 15) := of_decide_eq_false hb269
              refine wp_skip ?_
              refine hK255 _ _ ?_
              refine wp_seq_k fun K300 hK300 => ?_
              refine wp_seq_k fun K301 hK301 => ?_
              refine wp_region_lit ?_
              refine wv h268 (r_fieldB (r := 0) fl_73_0 rfl rfl rfl) rfl rfl fun a302 h302 => ?_
              clear h268
              refine wv h302 (r_ldb (i := 0) ti_3 rfl rfl rfl rfl) rfl rfl fun a303 h303 => ?_
              clear h302
              refine wv h303 (r_eqlI (p := (nth ((nth become.l i).l) k2).op) (q := 15) rfl rfl rfl) rfl rfl fun a304 h304 => ?_
              clear h303
              refine wms 1 h304 rfl fun a305 h305 => ?_
              clear h304
              refine wl_val h305 (r_move rfl rfl) (wanted_yes h305.fr rfl rfl rfl rfl hb261) rfl rfl fun a306 h306 => ?_
              clear h305
              refine wl_val h306 (r_move rfl rfl) (wanted_yes h306.fr rfl rfl rfl rfl hb261) rfl rfl fun a307 h307 => ?_
              clear h306
              refine wl_val h307 (r_ixN (s := code) (q := i) sl_64 ti_73 rfl rfl rfl (fun w h => (h.at 3 rfl)) (show i < code.l.length from (by first | omega | (simp only [List.length_append, List.length_cons, List.length_nil, List.length_set, List.length_replicate, List.length_map, List.length_range]; omega)))) (wanted_yes h307.fr rfl rfl rfl rfl hb261) rfl rfl fun a308 h308 => ?_
              clear h307
              refine wl_val h308 (r_fieldE (r := 0) fl_73_0 rfl rfl rfl) (wanted_yes h308.fr rfl rfl rfl rfl hb261) rfl rfl fun a309 h309 => ?_
              clear h308
              refine wl_val h309 (r_lde (s := code) (i := i) (v := .int .i64 ((nth code.l i).op)) ti_3 rfl rfl rfl (fun w h => (h.at 3 rfl)) (show i < code.l.length from (by first | omega | (simp only [List.length_append, List.length_cons, List.length_nil, List.length_set, List.length_replicate, List.length_map, List.length_range]; omega))) (Nat.le_of_ble_eq_true rfl) rfl) (wanted_yes h309.fr rfl rfl rfl rfl hb261) rfl rfl fun a310 h310 => ?_
              clear h309
              refine wl_val h310 (r_eqlI (p := (nth code.l i).op) (q := 17) rfl rfl rfl) (wanted_yes h310.fr rfl rfl rfl rfl hb261) rfl rfl fun a311 h311 => ?_
              clear h310
              refine wv h311 (r_pickT rfl rfl hb261 rfl) rfl rfl fun a312 h312 => ?_
              clear h311
              refine wpList_nil ?_
              refine hK301 _ _ ?_
              refine x_cond h312 rfl (fun hb313 => ?_) (fun hb313 => ?_)
              ·
                have hp313 : (nth code.l i).op = 17 := of_decide_eq_true hb313
                refine wp_region_lit ?_
                refine wms 2 h312 rfl fun a314 h314 => ?_
                clear h312
                have hl315 : pm.length ≤ 140737488355328 := (h314.sh.own 1 rfl).len
                refine wv h314 (r_ixN (s := (⟨v9, pm⟩ : Ls Int)) (q := i) sl_24 ti_3 rfl rfl rfl (fun w h => (h.own 1 rfl)) (show i < pm.length from (by first | omega | (simp only [List.length_append, List.length_cons, List.length_nil, List.length_set, List.length_replicate, List.length_map, List.length_range]; omega)))) rfl rfl fun a316 h316 => ?_
                clear h314
                refine wv h316 (r_lde (s := (⟨v9, pm⟩ : Ls Int)) (i := i) (v := .int .i64 (nth pm i)) ti_3 rfl rfl rfl (fun w h => (h.own 1 rfl)) (show i < pm.length from (by first | omega | (simp only [List.length_append, List.length_cons, List.length_nil, List.length_set, List.length_replicate, List.length_map, List.length_range]; omega))) (Nat.le_of_ble_eq_true rfl) rfl) rfl rfl fun a317 h317 => ?_
                clear h316
                refine wv h317 (r_fieldB (r := 2) fl_73_2 rfl rfl rfl) rfl rfl fun a318 h318 => ?_
                clear h317
                refine wl_ex (x_stb (i := 0) (vs := [.int .i64 (nth pm i)]) (cs' := [.int .i64 ((nth ((nth become.l i).l) k2).op), .int .i64 ((nth ((nth become.l i).l) k2).a), .int .i64 (nth pm i), .int .i64 ((nth ((nth become.l i).l) k2).c)]) h318 ti_3 rfl rfl rfl rfl rfl rfl rfl (allOne_cons rfl allOne_nil) (Nat.le_of_ble_eq_true rfl) rfl) (wanted_none rfl _) ?_
                rintro a319 w319 h319
                clear h318
                refine wpList_nil ?_
                refine hK300 _ _ ?_
                have h320 : St 123 (fun _ => False) W a319 w319 [(0, become.v), (1, code.v), (5, v9), (8, vo2), (9, .int .i64 ((i : Nat) : Int)), (10, .int .i64 ((k2 : Nat) : Int)), (11, .pointer (some ⟨b82, 0, none⟩))] [.blk b82 73 [.int .i64 ((nth ((nth become.l i).l) k2).op), .int .i64 ((nth ((nth become.l i).l) k2).a), .int .i64 (nth pm i), .int .i64 ((nth ((nth become.l i).l) k2).c)], .own 3 (⟨v9, pm⟩ : Ls Int), .at_ become, .at_ code, .own 73 (⟨vo2, out2⟩ : Ls Ins)] := h319.nrm ⟨rfl, rfl, rfl, rfl, rfl, rfl, rfl, trivial⟩ [0, 1, 2, 3, 4] (by decide) ⟨rfl, rfl, rfl, rfl, rfl, trivial⟩
                clear h319
                refine wp_region_lit ?_
                refine wms 1 h320 rfl fun a321 h321 => ?_
                clear h320
                refine wv h321 (r_ldbw (i := 0) (vs := [.int .i64 ((nth ((nth become.l i).l) k2).op), .int .i64 ((nth ((nth become.l i).l) k2).a), .int .i64 (nth pm i), .int .i64 ((nth ((nth become.l i).l) k2).c)]) ti_73 rfl rfl rfl rfl rfl) rfl rfl fun a322 h322 => ?_
                clear h321
                refine wl_ex (x_lit (n := 1) (cs := [.int .i64 ((nth ((nth become.l i).l) k2).op), .int .i64 ((nth ((nth become.l i).l) k2).a), .int .i64 (nth pm i), .int .i64 ((nth ((nth become.l i).l) k2).c)]) ([⟨(nth ((nth become.l i).l) k2).op, (nth ((nth become.l i).l) k2).a, nth pm i, (nth ((nth become.l i).l) k2).c⟩] : List Ins) h322 sl_64 ti_73 rfl rfl rfl (by decide) rfl (by kernel_rfl) rfl (fun q hq w h => Flat.inner _ _) (fun q hq b hb => (Flat.on _ _ hb).elim) rfl rfl) (wanted_none rfl _) ?_
                rintro a323 w323 ⟨v323, h323⟩
                clear h322
                refine wl_ex (x_app (r := 5) (rm := 0) (s := (⟨vo2, out2⟩ : Ls Ins)) (m := (⟨v323, [⟨(nth ((nth become.l i).l) k2).op, (nth ((nth become.l i).l) k2).a, nth pm i, (nth ((nth become.l i).l) k2).c⟩]⟩ : Ls Ins)) h323 sl_64 ti_73 rfl rfl rfl rfl rfl rfl rfl (fun w h => (h.own 0 rfl)) (fun b hb => own_on (h323.sh.ok _ (List.mem_of_getElem? (i := 0) rfl)) hb) (fun q hq b hb => ⟨q, hq, hb⟩) rfl rfl rfl inferInstance (show (out2.length + ([⟨(nth ((nth become.l i).l) k2).op, (nth ((nth become.l i).l) k2).a, nth pm i, (nth ((nth become.l i).l) k2).c⟩]).length) * 32 ≤ 140737488355328 ∧ out2.length + ([⟨(nth ((nth become.l i).l) k2).op, (nth ((nth become.l i).l) k2).a, nth pm i, (nth ((nth become.l i).l) k2).c⟩]).length ≤ 140737488355328 from (by first | omega | (simp only [List.length_append, List.length_cons, List.length_nil, List.length_set, List.length_replicate, List.length_map, List.length_range]; omega))) rfl rfl) (wanted_none rfl _) ?_
                rintro a324 w324 ⟨v324, h324⟩
                clear h323
                refine wms 1 h324 rfl fun a325 h325 => ?_
                clear h324
                refine wpList_nil ?_
                refine hK74 _ _ ?_
                refine wp_region_lit ?_
                refine wms 1 h325 rfl fun a326 h326 => ?_
                clear h325
                refine wv h326 (r_addN (p := k2) (q := 1) rfl rfl rfl (show k2 + 1 < 9223372036854775808 from (by first | omega | (simp only [List.length_append, List.length_cons, List.length_nil, List.length_set, List.length_replicate, List.length_map, List.length_range]; omega)))) rfl rfl fun a327 h327 => ?_
                clear h326
                refine wms 1 h327 rfl fun a328 h328 => ?_
                clear h327
                refine wpList_nil ?_
                refine x_again ⟨_, ?_, k2 + 1, out2 ++ ([⟨(nth ((nth become.l i).l) k2).op, (nth ((nth become.l i).l) k2).a, nth pm i, (nth ((nth become.l i).l) k2).c⟩]), v324, ?_, ?_, ?_, ((h328.sub (F' := [(0, become.v), (1, code.v), (5, v9), (8, v324), (9, .int .i64 ((i : Nat) : Int)), (10, .int .i64 ((k2 + 1 : Nat) : Int))]) ⟨rfl, rfl, rfl, rfl, rfl, rfl, trivial⟩).sel (L' := [.own 3 (⟨v9, pm⟩ : Ls Int), .at_ become, .at_ code, .own 73 (⟨v324, out2 ++ ([⟨(nth ((nth become.l i).l) k2).op, (nth ((nth become.l i).l) k2).a, nth pm i, (nth ((nth become.l i).l) k2).c⟩])⟩ : Ls Ins)]) [2, 3, 4, 5] (by decide) ⟨rfl, rfl, rfl, rfl, trivial⟩), rfl⟩
                · rw [hm63]; first | omega | (simp only [List.length_append, List.length_cons, List.length_nil, List.length_set, List.length_replicate, List.length_map, List.length_range]; omega)
                · omega
                · rw [hout2, take_succ_nth _ _ (by omega), List.map_append, ← List.append_assoc]; congr 1; simp only [List.map_cons, List.map_nil]; congr 1; unfold fixIns; (repeat' split) <;> first | (exfalso; omega) | rfl | (rw [hplw _ (by omega)])
                · simp; omega
              ·
                have hp313 : ¬ ((nth code.l i).op = 17) := of_decide_eq_false hb313
                refine wp_skip ?_
                refine hK300 _ _ ?_
                have h329 : St 123 (fun _ => False) W a312 w83 [(0, become.v), (1, code.v), (5, v9), (8, vo2), (9, .int .i64 ((i : Nat) : Int)), (10, .int .i64 ((k2 : Nat) : Int)), (11, .pointer (some ⟨b82, 0, none⟩))] [.blk b82 73 [.int .i64 ((nth ((nth become.l i).l) k2).op), .int .i64 ((nth ((nth become.l i).l) k2).a), .int .i64 ((nth ((nth become.l i).l) k2).b), .int .i64 ((nth ((nth become.l i).l) k2).c)], .own 3 (⟨v9, pm⟩ : Ls Int), .at_ become, .at_ code, .own 73 (⟨vo2, out2⟩ : Ls Ins)] := h312.nrm ⟨rfl, rfl, rfl, rfl, rfl, rfl, rfl, trivial⟩ [0, 1, 2, 3, 4] (by decide) ⟨rfl, rfl, rfl, rfl, rfl, trivial⟩
                clear h312
                refine wp_region_lit ?_
                refine wms 1 h329 rfl fun a330 h330 => ?_
                clear h329
                refine wv h330 (r_ldbw (i := 0) (vs := [.int .i64 ((nth ((nth become.l i).l) k2).op), .int .i64 ((nth ((nth become.l i).l) k2).a), .int .i64 ((nth ((nth become.l i).l) k2).b), .int .i64 ((nth ((nth become.l i).l) k2).c)]) ti_73 rfl rfl rfl rfl rfl) rfl rfl fun a331 h331 => ?_
                clear h330
                refine wl_ex (x_lit (n := 1) (cs := [.int .i64 ((nth ((nth become.l i).l) k2).op), .int .i64 ((nth ((nth become.l i).l) k2).a), .int .i64 ((nth ((nth become.l i).l) k2).b), .int .i64 ((nth ((nth become.l i).l) k2).c)]) ([⟨(nth ((nth become.l i).l) k2).op, (nth ((nth become.l i).l) k2).a, (nth ((nth become.l i).l) k2).b, (nth ((nth become.l i).l) k2).c⟩] : List Ins) h331 sl_64 ti_73 rfl rfl rfl (by decide) rfl (by kernel_rfl) rfl (fun q hq w h => Flat.inner _ _) (fun q hq b hb => (Flat.on _ _ hb).elim) rfl rfl) (wanted_none rfl _) ?_
                rintro a332 w332 ⟨v332, h332⟩
                clear h331
                refine wl_ex (x_app (r := 5) (rm := 0) (s := (⟨vo2, out2⟩ : Ls Ins)) (m := (⟨v332, [⟨(nth ((nth become.l i).l) k2).op, (nth ((nth become.l i).l) k2).a, (nth ((nth become.l i).l) k2).b, (nth ((nth become.l i).l) k2).c⟩]⟩ : Ls Ins)) h332 sl_64 ti_73 rfl rfl rfl rfl rfl rfl rfl (fun w h => (h.own 0 rfl)) (fun b hb => own_on (h332.sh.ok _ (List.mem_of_getElem? (i := 0) rfl)) hb) (fun q hq b hb => ⟨q, hq, hb⟩) rfl rfl rfl inferInstance (show (out2.length + ([⟨(nth ((nth become.l i).l) k2).op, (nth ((nth become.l i).l) k2).a, (nth ((nth become.l i).l) k2).b, (nth ((nth become.l i).l) k2).c⟩]).length) * 32 ≤ 140737488355328 ∧ out2.length + ([⟨(nth ((nth become.l i).l) k2).op, (nth ((nth become.l i).l) k2).a, (nth ((nth become.l i).l) k2).b, (nth ((nth become.l i).l) k2).c⟩]).length ≤ 140737488355328 from (by first | omega | (simp only [List.length_append, List.length_cons, List.length_nil, List.length_set, List.length_replicate, List.length_map, List.length_range]; omega))) rfl rfl) (wanted_none rfl _) ?_
                rintro a333 w333 ⟨v333, h333⟩
                clear h332
                refine wms 1 h333 rfl fun a334 h334 => ?_
                clear h333
                refine wpList_nil ?_
                refine hK74 _ _ ?_
                refine wp_region_lit ?_
                refine wms 1 h334 rfl fun a335 h335 => ?_
                clear h334
                refine wv h335 (r_addN (p := k2) (q := 1) rfl rfl rfl (show k2 + 1 < 9223372036854775808 from (by first | omega | (simp only [List.length_append, List.length_cons, List.length_nil, List.length_set, List.length_replicate, List.length_map, List.length_range]; omega)))) rfl rfl fun a336 h336 => ?_
                clear h335
                refine wms 1 h336 rfl fun a337 h337 => ?_
                clear h336
                refine wpList_nil ?_
                refine x_again ⟨_, ?_, k2 + 1, out2 ++ ([⟨(nth ((nth become.l i).l) k2).op, (nth ((nth become.l i).l) k2).a, (nth ((nth become.l i).l) k2).b, (nth ((nth become.l i).l) k2).c⟩]), v333, ?_, ?_, ?_, ((h337.sub (F' := [(0, become.v), (1, code.v), (5, v9), (8, v333), (9, .int .i64 ((i : Nat) : Int)), (10, .int .i64 ((k2 + 1 : Nat) : Int))]) ⟨rfl, rfl, rfl, rfl, rfl, rfl, trivial⟩).sel (L' := [.own 3 (⟨v9, pm⟩ : Ls Int), .at_ become, .at_ code, .own 73 (⟨v333, out2 ++ ([⟨(nth ((nth become.l i).l) k2).op, (nth ((nth become.l i).l) k2).a, (nth ((nth become.l i).l) k2).b, (nth ((nth become.l i).l) k2).c⟩])⟩ : Ls Ins)]) [2, 3, 4, 5] (by decide) ⟨rfl, rfl, rfl, rfl, trivial⟩), rfl⟩
                · rw [hm63]; first | omega | (simp only [List.length_append, List.length_cons, List.length_nil, List.length_set, List.length_replicate, List.length_map, List.length_range]; omega)
                · omega
                · rw [hout2, take_succ_nth _ _ (by omega), List.map_append, ← List.append_assoc]; congr 1; simp only [List.map_cons, List.map_nil]; congr 1; unfold fixIns; (repeat' split) <;> first | (exfalso; omega) | rfl | (rw [hplw _ (by omega)])
                · simp; omega
          ·
            have hp261 : ¬ ((nth ((nth become.l i).l) k2).op = 15) := of_decide_eq_false hb261
            refine wl_skip h260 (wanted_no h260.fr rfl rfl rfl rfl hb261) rfl rfl fun a338 h338 => ?_
            clear h260
            refine wl_skip h338 (wanted_no h338.fr rfl rfl rfl rfl hb261) rfl rfl fun a339 h339 => ?_
            clear h338
            refine wl_skip h339 (wanted_no h339.fr rfl rfl rfl rfl hb261) rfl rfl fun a340 h340 => ?_
            clear h339
            refine wl_skip h340 (wanted_no h340.fr rfl rfl rfl rfl hb261) rfl rfl fun a341 h341 => ?_
            clear h340
            refine wl_skip h341 (wanted_no h341.fr rfl rfl rfl rfl hb261) rfl rfl fun a342 h342 => ?_
            clear h341
            refine wl_skip h342 (wanted_no h342.fr rfl rfl rfl rfl hb261) rfl rfl fun a343 h343 => ?_
            clear h342
            refine wv h343 (r_pickF rfl rfl hb261 rfl) rfl rfl fun a344 h344 => ?_
            clear h343
            refine wpList_nil ?_
            refine hK256 _ _ ?_
            refine x_condF h344 rfl rfl ?_
            refine wp_skip ?_
            refine hK255 _ _ ?_
            refine wp_seq_k fun K345 hK345 => ?_
            refine wp_seq_k fun K346 hK346 => ?_
            refine wp_region_lit ?_
            refine wv h344 (r_fieldB (r := 0) fl_73_0 rfl rfl rfl) rfl rfl fun a347 h347 => ?_
            clear h344
            refine wv h347 (r_ldb (i := 0) ti_3 rfl rfl rfl rfl) rfl rfl fun a348 h348 => ?_
            clear h347
            refine wv h348 (r_eqlI (p := (nth ((nth become.l i).l) k2).op) (q := 15) rfl rfl rfl) rfl rfl fun a349 h349 => ?_
            clear h348
            refine wms 1 h349 rfl fun a350 h350 => ?_
            clear h349
            refine wl_skip h350 (wanted_no h350.fr rfl rfl rfl rfl hb261) rfl rfl fun a351 h351 => ?_
            clear h350
            refine wl_skip h351 (wanted_no h351.fr rfl rfl rfl rfl hb261) rfl rfl fun a352 h352 => ?_
            clear h351
            refine wl_skip h352 (wanted_no h352.fr rfl rfl rfl rfl hb261) rfl rfl fun a353 h353 => ?_
            clear h352
            refine wl_skip h353 (wanted_no h353.fr rfl rfl rfl rfl hb261) rfl rfl fun a354 h354 => ?_
            clear h353
            refine wl_skip h354 (wanted_no h354.fr rfl rfl rfl rfl hb261) rfl rfl fun a355 h355 => ?_
            clear h354
            refine wl_skip h355 (wanted_no h355.fr rfl rfl rfl rfl hb261) rfl rfl fun a356 h356 => ?_
            clear h355
            refine wv h356 (r_pickF rfl rfl hb261 rfl) rfl rfl fun a357 h357 => ?_
            clear h356
            refine wpList_nil ?_
            refine hK346 _ _ ?_
            refine x_condF h357 rfl rfl ?_
            refine wp_skip ?_
            refine hK345 _ _ ?_
            have h358 : St 123 (fun _ => False) W a357 w83 [(0, become.v), (1, code.v), (5, v9), (8, vo2), (9, .int .i64 ((i : Nat) : Int)), (10, .int .i64 ((k2 : Nat) : Int)), (11, .pointer (some ⟨b82, 0, none⟩))] [.blk b82 73 [.int .i64 ((nth ((nth become.l i).l) k2).op), .int .i64 ((nth ((nth become.l i).l) k2).a), .int .i64 ((nth ((nth become.l i).l) k2).b), .int .i64 ((nth ((nth become.l i).l) k2).c)], .own 3 (⟨v9, pm⟩ : Ls Int), .at_ become, .at_ code, .own 73 (⟨vo2, out2⟩ : Ls Ins)] := h357.nrm ⟨rfl, rfl, rfl, rfl, rfl, rfl, rfl, trivial⟩ [0, 1, 2, 3, 4] (by decide) ⟨rfl, rfl, rfl, rfl, rfl, trivial⟩
            clear h357
            refine wp_region_lit ?_
            refine wms 1 h358 rfl fun a359 h359 => ?_
            clear h358
            refine wv h359 (r_ldbw (i := 0) (vs := [.int .i64 ((nth ((nth become.l i).l) k2).op), .int .i64 ((nth ((nth become.l i).l) k2).a), .int .i64 ((nth ((nth become.l i).l) k2).b), .int .i64 ((nth ((nth become.l i).l) k2).c)]) ti_73 rfl rfl rfl rfl rfl) rfl rfl fun a360 h360 => ?_
            clear h359
            refine wl_ex (x_lit (n := 1) (cs := [.int .i64 ((nth ((nth become.l i).l) k2).op), .int .i64 ((nth ((nth become.l i).l) k2).a), .int .i64 ((nth ((nth become.l i).l) k2).b), .int .i64 ((nth ((nth become.l i).l) k2).c)]) ([⟨(nth ((nth become.l i).l) k2).op, (nth ((nth become.l i).l) k2).a, (nth ((nth become.l i).l) k2).b, (nth ((nth become.l i).l) k2).c⟩] : List Ins) h360 sl_64 ti_73 rfl rfl rfl (by decide) rfl (by kernel_rfl) rfl (fun q hq w h => Flat.inner _ _) (fun q hq b hb => (Flat.on _ _ hb).elim) rfl rfl) (wanted_none rfl _) ?_
            rintro a361 w361 ⟨v361, h361⟩
            clear h360
            refine wl_ex (x_app (r := 5) (rm := 0) (s := (⟨vo2, out2⟩ : Ls Ins)) (m := (⟨v361, [⟨(nth ((nth become.l i).l) k2).op, (nth ((nth become.l i).l) k2).a, (nth ((nth become.l i).l) k2).b, (nth ((nth become.l i).l) k2).c⟩]⟩ : Ls Ins)) h361 sl_64 ti_73 rfl rfl rfl rfl rfl rfl rfl (fun w h => (h.own 0 rfl)) (fun b hb => own_on (h361.sh.ok _ (List.mem_of_getElem? (i := 0) rfl)) hb) (fun q hq b hb => ⟨q, hq, hb⟩) rfl rfl rfl inferInstance (show (out2.length + ([⟨(nth ((nth become.l i).l) k2).op, (nth ((nth become.l i).l) k2).a, (nth ((nth become.l i).l) k2).b, (nth ((nth become.l i).l) k2).c⟩]).length) * 32 ≤ 140737488355328 ∧ out2.length + ([⟨(nth ((nth become.l i).l) k2).op, (nth ((nth become.l i).l) k2).a, (nth ((nth become.l i).l) k2).b, (nth ((nth become.l i).l) k2).c⟩]).length ≤ 140737488355328 from (by first | omega | (simp only [List.length_append, List.length_cons, List.length_nil, List.length_set, List.length_replicate, List.length_map, List.length_range]; omega))) rfl rfl) (wanted_none rfl _) ?_
            rintro a362 w362 ⟨v362, h362⟩
            clear h361
            refine wms 1 h362 rfl fun a363 h363 => ?_
            clear h362
            refine wpList_nil ?_
            refine hK74 _ _ ?_
            refine wp_region_lit ?_
            refine wms 1 h363 rfl fun a364 h364 => ?_
            clear h363
            refine wv h364 (r_addN (p := k2) (q := 1) rfl rfl rfl (show k2 + 1 < 9223372036854775808 from (by first | omega | (simp only [List.length_append, List.length_cons, List.length_nil, List.length_set, List.length_replicate, List.length_map, List.length_range]; omega)))) rfl rfl fun a365 h365 => ?_
            clear h364
            refine wms 1 h365 rfl fun a366 h366 => ?_
            clear h365
            refine wpList_nil ?_
            refine x_again ⟨_, ?_, k2 + 1, out2 ++ ([⟨(nth ((nth become.l i).l) k2).op, (nth ((nth become.l i).l) k2).a, (nth ((nth become.l i).l) k2).b, (nth ((nth become.l i).l) k2).c⟩]), v362, ?_, ?_, ?_, ((h366.sub (F' := [(0, become.v), (1, code.v), (5, v9), (8, v362), (9, .int .i64 ((i : Nat) : Int)), (10, .int .i64 ((k2 + 1 : Nat) : Int))]) ⟨rfl, rfl, rfl, rfl, rfl, rfl, trivial⟩).sel (L' := [.own 3 (⟨v9, pm⟩ : Ls Int), .at_ become, .at_ code, .own 73 (⟨v362, out2 ++ ([⟨(nth ((nth become.l i).l) k2).op, (nth ((nth become.l i).l) k2).a, (nth ((nth become.l i).l) k2).b, (nth ((nth become.l i).l) k2).c⟩])⟩ : Ls Ins)]) [2, 3, 4, 5] (by decide) ⟨rfl, rfl, rfl, rfl, trivial⟩), rfl⟩
            · rw [hm63]; first | omega | (simp only [List.length_append, List.length_cons, List.length_nil, List.length_set, List.length_replicate, List.length_map, List.length_range]; omega)
            · omega
            · rw [hout2, take_succ_nth _ _ (by omega), List.map_append, ← List.append_assoc]; congr 1; simp only [List.map_cons, List.map_nil]; congr 1; unfold fixIns; (repeat' split) <;> first | (exfalso; omega) | rfl | (rw [hplw _ (by omega)])
            · simp; omega
      ·
        have hp73 : ¬ (k2 < ((nth become.l i).l).length) := of_decide_eq_false hb73
        refine wp_exit ?_
        refine hK60 _ _ ?_
        refine wp_region_lit ?_
        refine wms 1 h72 rfl fun a367 h367 => ?_
        clear h72
        refine wv h367 (r_addN (p := i) (q := 1) rfl rfl rfl (show i + 1 < 9223372036854775808 from (by first | omega | (simp only [List.length_append, List.length_cons, List.length_nil, List.length_set, List.length_replicate, List.length_map, List.length_range]; omega)))) rfl rfl fun a368 h368 => ?_
        clear h367
        refine wms 1 h368 rfl fun a369 h369 => ?_
        clear h368
        refine wpList_nil ?_
        refine x_again ⟨_, ?_, i + 1, out2, vo2, ?_, ?_, ?_, ((h369.sub (F' := [(0, become.v), (1, code.v), (5, v9), (8, vo2), (9, .int .i64 ((i + 1 : Nat) : Int))]) ⟨rfl, rfl, rfl, rfl, rfl, trivial⟩).sel (L' := [.own 3 (⟨v9, pm⟩ : Ls Int), .at_ become, .at_ code, .own 73 (⟨vo2, out2⟩ : Ls Ins)]) [0, 1, 2, 3] (by decide) ⟨rfl, rfl, rfl, rfl, trivial⟩), rfl⟩
        · rw [hm52]; first | omega | (simp only [List.length_append, List.length_cons, List.length_nil, List.length_set, List.length_replicate, List.length_map, List.length_range]; omega)
        · omega
        · rw [hout2, List.take_of_length_le (by omega), putUpto_succ, hout, nth_map' _ _ _ (by omega)]
        · have := h8 i (by omega); omega
    ·
      have hp59 : ¬ (i < code.l.length) := of_decide_eq_false hb59
      refine wp_exit ?_
      refine hK49 _ _ ?_
      refine wp_seq_k fun K370 hK370 => ?_
      refine wp_region_lit ?_
      refine wms 2 h58 rfl fun a371 h371 => ?_
      clear h58
      refine wpList_nil ?_
      refine hK370 _ _ ?_
      refine wp_ret ?_
      try simp only [Exit.then, Exit.inBlock]
      refine x_ret1 (fn := Try.f73) (t := 4) rfl h371 rfl ?_
      refine ⟨⟨vo, out⟩, rfl, ?_, (h371.sh.sel (L' := [.own 73 (⟨vo, out⟩ : Ls Ins)]) [3] (by decide) ⟨rfl, trivial⟩)⟩
      show out = _; rw [hout, putL, show i = code.l.length by omega]

end Go.Proofs.Ytanhbpofhebbaaa
