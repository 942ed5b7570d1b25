/-
  Contracts of functions of this program and of the references, each walked once.
-/
import Derived.Test.YtanhbpofhebbaaaH2
import Derived.Test.YtanhbpofhebbaaaS18
namespace Go.Proofs.Ytanhbpofhebbaaa
open Go.RowKit
set_option linter.unusedSimpArgs false
set_option linter.unusedVariables false


theorem last_ok {ws : List Int} {es : List Ins} (h : OkH ws es) : OkH ws (es.take (es.length - 1)) := okH_mem h (by rw [List.length_take]; have := h.evs; omega) fun e he => List.mem_of_mem_take he
theorem swap_ok {ws : List Int} {es : List Ins} {q : Nat} (h : OkH ws es) (hq : q + 1 < es.length) : OkH ws ((es.set q (nth es (q + 1))).set (q + 1) (nth es q)) := okH_mem h (by rw [List.length_set, List.length_set]; exact h.evs) (swap_mem hq)
theorem swap_ok2 {ws : List Int} {es : List Ins} {q : Int} (h : OkH ws es) (h0 : 0 ≤ q) (hq : q < (es.length : Int) - 1) : OkH ws ((es.set q.toNat (nth es (q + 1).toNat)).set (q + 1).toNat (nth es q.toNat)) := by
  rw [show (q + 1).toNat = q.toNat + 1 by omega]
  exact swap_ok h (by omega)
theorem may_swap2 {ws : List Int} {es : List Ins} {q : Int} (h0 : 0 ≤ q) (hq : q < (es.length : Int) - 1) (hne : ¬ (nth es q.toNat).op = (nth es (q + 1).toNat).op) : mayB ws ((es.set q.toNat (nth es (q + 1).toNat)).set (q + 1).toNat (nth es q.toNat)) = mayB ws es := by
  rw [show (q + 1).toNat = q.toNat + 1 by omega] at hne ⊢
  exact may_swap (by omega) hne
theorem hb_ok : OkH [0, 0] [⟨0, 0, 2, 1⟩, ⟨0, 1, 1, 0⟩, ⟨1, 1, 2, 1⟩, ⟨1, 0, 1, 0⟩] := okH_of (by decide +kernel)
theorem hb_no : mayB [0, 0] [⟨0, 0, 2, 1⟩, ⟨0, 1, 1, 0⟩, ⟨1, 1, 2, 1⟩, ⟨1, 0, 1, 0⟩] = false := by decide +kernel
theorem h7_ok : OkH [7] [⟨0, 0, 1, 7⟩] := okH_of (by decide +kernel)
theorem h7_yes : mayB [7] [⟨0, 0, 1, 7⟩] = true := by decide +kernel

set_option maxRecDepth 100000 in
set_option maxHeartbeats 8000000 in
theorem histFewer_b (ws : Ls Int) (es : Ls Ins) (q : Int) (W : World) (hw : ws.At W) (he : es.At W) (hbad : ¬ OkH ws.l es.l) :
    Rets Try.prog 6 [ws.v, es.v, .int .i64 q] W (fun v w' => v = .bool true ∧ Sh0 W w' []) := by
 refine x_enter (N := 142) Try.func6 rfl Try.ntmps6 (Nat.le_of_ble_eq_true rfl) fun a1 hf1 => ?_
 have h1 : St 142 (fun _ => False) W a1 W [(0, ws.v), (1, es.v), (2, .int .i64 q)] [.at_ ws, .at_ es] := ⟨hf1.sub ⟨rfl, rfl, rfl, trivial⟩, Sh0.ext2 hw he⟩
 clear hf1
 refine wp_seq_k fun K2 hK2 => wp_region_lit ?_
 refine wms 1 h1 rfl fun a3 h3 => ?_; clear h1
 refine wpList_nil (hK2 _ _ ?_)
 refine wp_seq_k fun K4 hK4 => wp_region_lit ?_
 refine wl_ex (x_lit (n := 2) (cs := [.int .i64 0, .int .i64 0]) ([0, 0] : List Int) h3 sl_24 ti_3 rfl rfl rfl (by decide) rfl (by kernel_rfl) rfl (fun q hq w h => Flat.inner _ _) (fun q hq b hb => (Flat.on _ _ hb).elim) rfl rfl) (wanted_none rfl _) ?_
 rintro a5 w5 ⟨v5, h5⟩; clear h3
 refine wv h5 (r_build (cs := [.int .i64 0, .int .i64 0, .int .i64 2, .int .i64 1]) rfl rfl (by kernel_rfl)) rfl rfl fun a6 h6 => ?_; clear h5
 refine wv h6 (r_build (cs := [.int .i64 0, .int .i64 1, .int .i64 1, .int .i64 0]) rfl rfl (by kernel_rfl)) rfl rfl fun a7 h7 => ?_; clear h6
 refine wv h7 (r_build (cs := [.int .i64 1, .int .i64 1, .int .i64 2, .int .i64 1]) rfl rfl (by kernel_rfl)) rfl rfl fun a8 h8 => ?_; clear h7
 refine wv h8 (r_build (cs := [.int .i64 1, .int .i64 0, .int .i64 1, .int .i64 0]) rfl rfl (by kernel_rfl)) rfl rfl fun a9 h9 => ?_; clear h8
 refine wl_ex (x_lit (n := 4) (cs := [.int .i64 0, .int .i64 0, .int .i64 2, .int .i64 1, .int .i64 0, .int .i64 1, .int .i64 1, .int .i64 0, .int .i64 1, .int .i64 1, .int .i64 2, .int .i64 1, .int .i64 1, .int .i64 0, .int .i64 1, .int .i64 0]) ([(⟨0, 0, 2, 1⟩ : Ins), (⟨0, 1, 1, 0⟩ : Ins), (⟨1, 1, 2, 1⟩ : Ins), (⟨1, 0, 1, 0⟩ : Ins)] : List Ins) h9 sl_37 ti_36 rfl rfl rfl (by decide) rfl (by kernel_rfl) rfl (fun q hq w h => Flat.inner _ _) (fun q hq b hb => (Flat.on _ _ hb).elim) rfl rfl) (wanted_none rfl _) ?_
 rintro a10 w10 ⟨v10, h10⟩; clear h9
 refine wl_ex (x_call h10 bd_21 rfl rfl rfl rfl rfl (may_k (⟨v5, [0, 0]⟩ : Ls Int) (⟨v10, [(⟨0, 0, 2, 1⟩ : Ins), (⟨0, 1, 1, 0⟩ : Ins), (⟨1, 1, 2, 1⟩ : Ins), (⟨1, 0, 1, 0⟩ : Ins)]⟩ : Ls Ins) _ (h10.sh.own 1 rfl) (h10.sh.own 0 rfl) hb_ok)) (wanted_none rfl _) ?_
 rintro a11 w11 ⟨_, ⟨rfl, hs11⟩, hf11⟩
 have h11 : St 142 (fun _ => False) W a11 w11 _ _ := ⟨hf11, h10.sh.call0 hs11⟩
 clear hf11 hs11
 clear h10
 refine wms 1 h11 rfl fun a12 h12 => ?_; clear h11
 refine wv h12 (r_extract rfl rfl rfl) rfl rfl fun a13 h13 => ?_; clear h12
 refine wv h13 (r_extract rfl rfl rfl) rfl rfl fun a14 h14 => ?_; clear h13
 refine wl_ex (x_alloc h14 ti_31 rfl rfl rfl) (wanted_none rfl _) ?_
 rintro a15 w15 ⟨b15, h15⟩; clear h14
 refine wms 1 h15 rfl fun a16 h16 => ?_; clear h15
 refine wl_ex (x_stb (i := 0) (vs := [.int .i64 0, .int .i64 0, .int .i64 0]) (cs' := [.int .i64 0, .int .i64 0, .int .i64 0]) h16 ti_31 rfl rfl rfl rfl rfl rfl rfl (allOne_cons rfl (allOne_cons rfl (allOne_cons rfl allOne_nil))) (Nat.le_of_ble_eq_true rfl) rfl) (wanted_none rfl _) ?_
 rintro a17 w17 h17
 clear h16
 refine wpList_nil (hK4 _ _ ?_)
 refine wp_seq_k fun K18 hK18 => ?_
 refine wp_seq_k fun K19 hK19 => wp_region_lit ?_
 refine wv h17 (r_fieldB (r := 0) fl_31_0 rfl rfl rfl) rfl rfl fun a20 h20 => ?_; clear h17
 refine wv h20 (r_ldb (i := 0) ti_22 rfl rfl rfl rfl) rfl rfl fun a21 h21 => ?_; clear h20
 refine wv h21 (r_neqN (p := 0) (q := 0) rfl rfl rfl) rfl rfl fun a22 h22 => ?_; clear h21
 refine wms 1 h22 rfl fun a23 h23 => ?_; clear h22
 refine wl_val h23 (r_move rfl rfl) (wanted_yes h23.fr rfl rfl rfl rfl (by decide)) rfl rfl fun a24 h24 => ?_; clear h23
 refine wv h24 (r_pickF rfl rfl (by decide) rfl) rfl rfl fun a25 h25 => ?_; clear h24
 refine wpList_nil (hK19 _ _ ?_)
 refine x_condF h25 rfl hb_no ?_
 refine wp_skip ?_
 refine hK18 _ _ ?_
 refine wp_seq_k fun K26 hK26 => wp_region_lit ?_
 refine wl_ex (x_lit (n := 1) (cs := [.int .i64 7]) ([7] : List Int) h25 sl_24 ti_3 rfl rfl rfl (by decide) rfl (by kernel_rfl) rfl (fun q hq w h => Flat.inner _ _) (fun q hq b hb => (Flat.on _ _ hb).elim) rfl rfl) (wanted_none rfl _) ?_
 rintro a27 w27 ⟨v27, h27⟩; clear h25
 refine wv h27 (r_build (cs := [.int .i64 0, .int .i64 0, .int .i64 1, .int .i64 7]) rfl rfl (by kernel_rfl)) rfl rfl fun a28 h28 => ?_; clear h27
 refine wl_ex (x_lit (n := 1) (cs := [.int .i64 0, .int .i64 0, .int .i64 1, .int .i64 7]) ([(⟨0, 0, 1, 7⟩ : Ins)] : List Ins) h28 sl_37 ti_36 rfl rfl rfl (by decide) rfl (by kernel_rfl) rfl (fun q hq w h => Flat.inner _ _) (fun q hq b hb => (Flat.on _ _ hb).elim) rfl rfl) (wanted_none rfl _) ?_
 rintro a29 w29 ⟨v29, h29⟩; clear h28
 refine wl_ex (x_call h29 bd_21 rfl rfl rfl rfl rfl (may_k (⟨v27, [7]⟩ : Ls Int) (⟨v29, [(⟨0, 0, 1, 7⟩ : Ins)]⟩ : Ls Ins) _ (h29.sh.own 1 rfl) (h29.sh.own 0 rfl) h7_ok)) (wanted_none rfl _) ?_
 rintro a30 w30 ⟨_, ⟨rfl, hs30⟩, hf30⟩
 have h30 : St 142 (fun _ => False) W a30 w30 _ _ := ⟨hf30, h29.sh.call0 hs30⟩
 clear hf30 hs30
 clear h29
 refine wms 1 h30 rfl fun a31 h31 => ?_; clear h30
 refine wv h31 (r_extract rfl rfl rfl) rfl rfl fun a32 h32 => ?_; clear h31
 refine wv h32 (r_extract rfl rfl rfl) rfl rfl fun a33 h33 => ?_; clear h32
 refine wms 1 h33 rfl fun a34 h34 => ?_; clear h33
 refine wl_ex (x_stb (i := 2) (vs := [.int .i64 0, .int .i64 0, .int .i64 0]) (cs' := [.int .i64 0, .int .i64 0, .int .i64 0]) h34 ti_31 rfl rfl rfl rfl rfl rfl rfl (allOne_cons rfl (allOne_cons rfl (allOne_cons rfl allOne_nil))) (Nat.le_of_ble_eq_true rfl) rfl) (wanted_none rfl _) ?_
 rintro a35 w35 h35
 clear h34
 refine wpList_nil (hK26 _ _ ?_)
 have h36 : St 142 (fun _ => False) W a35 w35 [(0, ws.v), (1, es.v), (2, .int .i64 q), (7, .bool (mayB ([7]) ([(⟨0, 0, 1, 7⟩ : Ins)]))), (8, .pointer (some ⟨b15, 0, none⟩))] [.own 36 (⟨v29, [(⟨0, 0, 1, 7⟩ : Ins)]⟩ : Ls Ins), .own 3 (⟨v27, [7]⟩ : Ls Int), .blk b15 31 [.int .i64 0, .int .i64 0, .int .i64 0], .own 36 (⟨v10, [(⟨0, 0, 2, 1⟩ : Ins), (⟨0, 1, 1, 0⟩ : Ins), (⟨1, 1, 2, 1⟩ : Ins), (⟨1, 0, 1, 0⟩ : Ins)]⟩ : Ls Ins), .own 3 (⟨v5, [0, 0]⟩ : Ls Int), .at_ ws, .at_ es] := h35.nrm ⟨rfl, rfl, rfl, rfl, rfl, trivial⟩ [0, 1, 2, 3, 4, 5, 6] (by decide) ⟨rfl, rfl, rfl, rfl, rfl, rfl, rfl, trivial⟩
 clear h35
 refine wp_seq_k fun K37 hK37 => ?_
 refine wp_seq_k fun K38 hK38 => wp_region_lit ?_
 refine wv h36 (r_fieldB (r := 0) fl_31_0 rfl rfl rfl) rfl rfl fun a39 h39 => ?_; clear h36
 refine wv h39 (r_ldb (i := 2) ti_22 rfl rfl rfl rfl) rfl rfl fun a40 h40 => ?_; clear h39
 refine wv h40 (r_neqN (p := 0) (q := 0) rfl rfl rfl) rfl rfl fun a41 h41 => ?_; clear h40
 refine wms 1 h41 rfl fun a42 h42 => ?_; clear h41
 refine wl_val h42 (r_move rfl rfl) (wanted_yes h42.fr rfl rfl rfl rfl (by decide)) rfl rfl fun a43 h43 => ?_; clear h42
 refine wl_val h43 (r_not rfl rfl) (wanted_yes h43.fr rfl rfl rfl rfl (by decide)) rfl rfl fun a44 h44 => ?_; clear h43
 refine wv h44 (r_pickF rfl rfl (by decide) rfl) rfl rfl fun a45 h45 => ?_; clear h44
 refine wpList_nil (hK38 _ _ ?_)
 refine x_condF h45 rfl (by rw [h7_yes]; rfl) ?_
 refine wp_skip ?_
 refine hK37 _ _ ?_
 refine wp_seq_k fun K46 hK46 => wp_region_lit ?_
 refine wms 2 h45 rfl fun a47 h47 => ?_; clear h45
 refine wl_ex (x_call h47 bd_21 rfl rfl rfl rfl rfl (may_b ws es _ (h47.sh.at 5 rfl) (h47.sh.at 6 rfl) hbad)) (wanted_none rfl _) ?_
 rintro a48 w48 ⟨_, ⟨fc, fd, fe, rfl, hfc, hs48⟩, hf48⟩
 have h48 : St 142 (fun _ => False) W a48 w48 _ _ := ⟨hf48, h47.sh.call0 hs48⟩
 clear hf48 hs48
 clear h47
 refine wms 1 h48 rfl fun a49 h49 => ?_; clear h48
 refine wv h49 (r_extract rfl rfl rfl) rfl rfl fun a50 h50 => ?_; clear h49
 refine wv h50 (r_extract rfl rfl rfl) rfl rfl fun a51 h51 => ?_; clear h50
 refine wms 1 h51 rfl fun a52 h52 => ?_; clear h51
 refine wl_ex (x_stb (i := 2) (vs := [.int .i64 fc, .int .i64 fd, .int .i64 fe]) (cs' := [.int .i64 fc, .int .i64 fd, .int .i64 fe]) h52 ti_31 rfl rfl rfl rfl rfl rfl rfl (allOne_cons rfl (allOne_cons rfl (allOne_cons rfl allOne_nil))) (Nat.le_of_ble_eq_true rfl) rfl) (wanted_none rfl _) ?_
 rintro a53 w53 h53
 clear h52
 refine wpList_nil (hK46 _ _ ?_)
 refine wp_seq_k fun K54 hK54 => wp_region_lit ?_
 refine wms 1 h53 rfl fun a55 h55 => ?_; clear h53
 have hl56 : es.l.length ≤ 140737488355328 := (h55.sh.at 6 rfl).len
 refine wv h55 (r_len (s := es) (n := es.l.length) sl_37 rfl rfl (fun w h => (h.at 6 rfl)) rfl) rfl rfl fun a57 h57 => ?_; clear h55
 refine wms 1 h57 rfl fun a58 h58 => ?_; clear h57
 refine wpList_nil (hK54 _ _ ?_)
 refine wp_seq_k fun K59 hK59 => ?_
 refine wp_seq_k fun K60 hK60 => wp_region_lit ?_
 refine wv h58 (r_fieldB (r := 0) fl_31_0 rfl rfl rfl) rfl rfl fun a61 h61 => ?_; clear h58
 refine wv h61 (r_ldb (i := 2) ti_22 rfl rfl rfl rfl) rfl rfl fun a62 h62 => ?_; clear h61
 refine wv h62 (r_neqI (p := fc) (q := 0) rfl rfl rfl) rfl rfl fun a63 h63 => ?_; clear h62
 refine wms 1 h63 rfl fun a64 h64 => ?_; clear h63
 refine wl_skip h64 (wanted_no h64.fr rfl rfl rfl rfl (decide_eq_true hfc)) rfl rfl fun a65 h65 => ?_; clear h64
 refine wl_skip h65 (wanted_no h65.fr rfl rfl rfl rfl (decide_eq_true hfc)) rfl rfl fun a66 h66 => ?_; clear h65
 refine wv h66 (r_pickT rfl rfl (decide_eq_true hfc) rfl) rfl rfl fun a67 h67 => ?_; clear h66
 refine wpList_nil (hK60 _ _ ?_)
 refine x_condT h67 rfl rfl ?_
 refine wp_seq_k fun K68 hK68 => wp_region_lit ?_
 refine wms 1 h67 rfl fun a69 h69 => ?_; clear h67
 refine wpList_nil (hK68 _ _ ?_)
 have h70 : St 142 (fun _ => False) W a69 w53 [(6, .bool true)] [.own 36 (⟨v29, [(⟨0, 0, 1, 7⟩ : Ins)]⟩ : Ls Ins), .own 3 (⟨v27, [7]⟩ : Ls Int), .blk b15 31 [.int .i64 fc, .int .i64 fd, .int .i64 fe], .own 36 (⟨v10, [(⟨0, 0, 2, 1⟩ : Ins), (⟨0, 1, 1, 0⟩ : Ins), (⟨1, 1, 2, 1⟩ : Ins), (⟨1, 0, 1, 0⟩ : Ins)]⟩ : Ls Ins), .own 3 (⟨v5, [0, 0]⟩ : Ls Int), .at_ ws, .at_ es] := h69.nrm ⟨rfl, trivial⟩ [0, 1, 2, 3, 4, 5, 6] (by decide) ⟨rfl, rfl, rfl, rfl, rfl, rfl, rfl, trivial⟩
 clear h69
 refine wp_ret ?_
 try simp only [Exit.then, Exit.inBlock]
 refine x_ret1 (fn := Try.f6) (t := 6) rfl h70 rfl ?_
 exact ⟨rfl, (h70.sh.sel [] (by decide) trivial)⟩

set_option maxRecDepth 100000 in
set_option maxHeartbeats 8000000 in
theorem histFewer_k (ws : Ls Int) (es : Ls Ins) (q : Int) (W : World) (hw : ws.At W) (he : es.At W) (hok : OkH ws.l es.l) :
    Rets Try.prog 6 [ws.v, es.v, .int .i64 q] W (fun v w' => v = .bool true ∧ Sh0 W w' []) := by
 have hk2 := hok.evs
 refine x_enter (N := 142) Try.func6 rfl Try.ntmps6 (Nat.le_of_ble_eq_true rfl) fun a1 hf1 => ?_
 have h1 : St 142 (fun _ => False) W a1 W [(0, ws.v), (1, es.v), (2, .int .i64 q)] [.at_ ws, .at_ es] := ⟨hf1.sub ⟨rfl, rfl, rfl, trivial⟩, Sh0.ext2 hw he⟩
 clear hf1
 refine wp_seq_k fun K2 hK2 => wp_region_lit ?_
 refine wms 1 h1 rfl fun a3 h3 => ?_; clear h1
 refine wpList_nil (hK2 _ _ ?_)
 refine wp_seq_k fun K4 hK4 => wp_region_lit ?_
 refine wl_ex (x_lit (n := 2) (cs := [.int .i64 0, .int .i64 0]) ([0, 0] : List Int) h3 sl_24 ti_3 rfl rfl rfl (by decide) rfl (by kernel_rfl) rfl (fun q hq w h => Flat.inner _ _) (fun q hq b hb => (Flat.on _ _ hb).elim) rfl rfl) (wanted_none rfl _) ?_
 rintro a5 w5 ⟨v5, h5⟩; clear h3
 refine wv h5 (r_build (cs := [.int .i64 0, .int .i64 0, .int .i64 2, .int .i64 1]) rfl rfl (by kernel_rfl)) rfl rfl fun a6 h6 => ?_; clear h5
 refine wv h6 (r_build (cs := [.int .i64 0, .int .i64 1, .int .i64 1, .int .i64 0]) rfl rfl (by kernel_rfl)) rfl rfl fun a7 h7 => ?_; clear h6
 refine wv h7 (r_build (cs := [.int .i64 1, .int .i64 1, .int .i64 2, .int .i64 1]) rfl rfl (by kernel_rfl)) rfl rfl fun a8 h8 => ?_; clear h7
 refine wv h8 (r_build (cs := [.int .i64 1, .int .i64 0, .int .i64 1, .int .i64 0]) rfl rfl (by kernel_rfl)) rfl rfl fun a9 h9 => ?_; clear h8
 refine wl_ex (x_lit (n := 4) (cs := [.int .i64 0, .int .i64 0, .int .i64 2, .int .i64 1, .int .i64 0, .int .i64 1, .int .i64 1, .int .i64 0, .int .i64 1, .int .i64 1, .int .i64 2, .int .i64 1, .int .i64 1, .int .i64 0, .int .i64 1, .int .i64 0]) ([(⟨0, 0, 2, 1⟩ : Ins), (⟨0, 1, 1, 0⟩ : Ins), (⟨1, 1, 2, 1⟩ : Ins), (⟨1, 0, 1, 0⟩ : Ins)] : List Ins) h9 sl_37 ti_36 rfl rfl rfl (by decide) rfl (by kernel_rfl) rfl (fun q hq w h => Flat.inner _ _) (fun q hq b hb => (Flat.on _ _ hb).elim) rfl rfl) (wanted_none rfl _) ?_
 rintro a10 w10 ⟨v10, h10⟩; clear h9
 refine wl_ex (x_call h10 bd_21 rfl rfl rfl rfl rfl (may_k (⟨v5, [0, 0]⟩ : Ls Int) (⟨v10, [(⟨0, 0, 2, 1⟩ : Ins), (⟨0, 1, 1, 0⟩ : Ins), (⟨1, 1, 2, 1⟩ : Ins), (⟨1, 0, 1, 0⟩ : Ins)]⟩ : Ls Ins) _ (h10.sh.own 1 rfl) (h10.sh.own 0 rfl) hb_ok)) (wanted_none rfl _) ?_
 rintro a11 w11 ⟨_, ⟨rfl, hs11⟩, hf11⟩
 have h11 : St 142 (fun _ => False) W a11 w11 _ _ := ⟨hf11, h10.sh.call0 hs11⟩
 clear hf11 hs11
 clear h10
 refine wms 1 h11 rfl fun a12 h12 => ?_; clear h11
 refine wv h12 (r_extract rfl rfl rfl) rfl rfl fun a13 h13 => ?_; clear h12
 refine wv h13 (r_extract rfl rfl rfl) rfl rfl fun a14 h14 => ?_; clear h13
 refine wl_ex (x_alloc h14 ti_31 rfl rfl rfl) (wanted_none rfl _) ?_
 rintro a15 w15 ⟨b15, h15⟩; clear h14
 refine wms 1 h15 rfl fun a16 h16 => ?_; clear h15
 refine wl_ex (x_stb (i := 0) (vs := [.int .i64 0, .int .i64 0, .int .i64 0]) (cs' := [.int .i64 0, .int .i64 0, .int .i64 0]) h16 ti_31 rfl rfl rfl rfl rfl rfl rfl (allOne_cons rfl (allOne_cons rfl (allOne_cons rfl allOne_nil))) (Nat.le_of_ble_eq_true rfl) rfl) (wanted_none rfl _) ?_
 rintro a17 w17 h17
 clear h16
 refine wpList_nil (hK4 _ _ ?_)
 refine wp_seq_k fun K18 hK18 => ?_
 refine wp_seq_k fun K19 hK19 => wp_region_lit ?_
 refine wv h17 (r_fieldB (r := 0) fl_31_0 rfl rfl rfl) rfl rfl fun a20 h20 => ?_; clear h17
 refine wv h20 (r_ldb (i := 0) ti_22 rfl rfl rfl rfl) rfl rfl fun a21 h21 => ?_; clear h20
 refine wv h21 (r_neqN (p := 0) (q := 0) rfl rfl rfl) rfl rfl fun a22 h22 => ?_; clear h21
 refine wms 1 h22 rfl fun a23 h23 => ?_; clear h22
 refine wl_val h23 (r_move rfl rfl) (wanted_yes h23.fr rfl rfl rfl rfl (by decide)) rfl rfl fun a24 h24 => ?_; clear h23
 refine wv h24 (r_pickF rfl rfl (by decide) rfl) rfl rfl fun a25 h25 => ?_; clear h24
 refine wpList_nil (hK19 _ _ ?_)
 refine x_condF h25 rfl hb_no ?_
 refine wp_skip ?_
 refine hK18 _ _ ?_
 refine wp_seq_k fun K26 hK26 => wp_region_lit ?_
 refine wl_ex (x_lit (n := 1) (cs := [.int .i64 7]) ([7] : List Int) h25 sl_24 ti_3 rfl rfl rfl (by decide) rfl (by kernel_rfl) rfl (fun q hq w h => Flat.inner _ _) (fun q hq b hb => (Flat.on _ _ hb).elim) rfl rfl) (wanted_none rfl _) ?_
 rintro a27 w27 ⟨v27, h27⟩; clear h25
 refine wv h27 (r_build (cs := [.int .i64 0, .int .i64 0, .int .i64 1, .int .i64 7]) rfl rfl (by kernel_rfl)) rfl rfl fun a28 h28 => ?_; clear h27
 refine wl_ex (x_lit (n := 1) (cs := [.int .i64 0, .int .i64 0, .int .i64 1, .int .i64 7]) ([(⟨0, 0, 1, 7⟩ : Ins)] : List Ins) h28 sl_37 ti_36 rfl rfl rfl (by decide) rfl (by kernel_rfl) rfl (fun q hq w h => Flat.inner _ _) (fun q hq b hb => (Flat.on _ _ hb).elim) rfl rfl) (wanted_none rfl _) ?_
 rintro a29 w29 ⟨v29, h29⟩; clear h28
 refine wl_ex (x_call h29 bd_21 rfl rfl rfl rfl rfl (may_k (⟨v27, [7]⟩ : Ls Int) (⟨v29, [(⟨0, 0, 1, 7⟩ : Ins)]⟩ : Ls Ins) _ (h29.sh.own 1 rfl) (h29.sh.own 0 rfl) h7_ok)) (wanted_none rfl _) ?_
 rintro a30 w30 ⟨_, ⟨rfl, hs30⟩, hf30⟩
 have h30 : St 142 (fun _ => False) W a30 w30 _ _ := ⟨hf30, h29.sh.call0 hs30⟩
 clear hf30 hs30
 clear h29
 refine wms 1 h30 rfl fun a31 h31 => ?_; clear h30
 refine wv h31 (r_extract rfl rfl rfl) rfl rfl fun a32 h32 => ?_; clear h31
 refine wv h32 (r_extract rfl rfl rfl) rfl rfl fun a33 h33 => ?_; clear h32
 refine wms 1 h33 rfl fun a34 h34 => ?_; clear h33
 refine wl_ex (x_stb (i := 2) (vs := [.int .i64 0, .int .i64 0, .int .i64 0]) (cs' := [.int .i64 0, .int .i64 0, .int .i64 0]) h34 ti_31 rfl rfl rfl rfl rfl rfl rfl (allOne_cons rfl (allOne_cons rfl (allOne_cons rfl allOne_nil))) (Nat.le_of_ble_eq_true rfl) rfl) (wanted_none rfl _) ?_
 rintro a35 w35 h35
 clear h34
 refine wpList_nil (hK26 _ _ ?_)
 have h36 : St 142 (fun _ => False) W a35 w35 [(0, ws.v), (1, es.v), (2, .int .i64 q), (7, .bool (mayB ([7]) ([(⟨0, 0, 1, 7⟩ : Ins)]))), (8, .pointer (some ⟨b15, 0, none⟩))] [.own 36 (⟨v29, [(⟨0, 0, 1, 7⟩ : Ins)]⟩ : Ls Ins), .own 3 (⟨v27, [7]⟩ : Ls Int), .blk b15 31 [.int .i64 0, .int .i64 0, .int .i64 0], .own 36 (⟨v10, [(⟨0, 0, 2, 1⟩ : Ins), (⟨0, 1, 1, 0⟩ : Ins), (⟨1, 1, 2, 1⟩ : Ins), (⟨1, 0, 1, 0⟩ : Ins)]⟩ : Ls Ins), .own 3 (⟨v5, [0, 0]⟩ : Ls Int), .at_ ws, .at_ es] := h35.nrm ⟨rfl, rfl, rfl, rfl, rfl, trivial⟩ [0, 1, 2, 3, 4, 5, 6] (by decide) ⟨rfl, rfl, rfl, rfl, rfl, rfl, rfl, trivial⟩
 clear h35
 refine wp_seq_k fun K37 hK37 => ?_
 refine wp_seq_k fun K38 hK38 => wp_region_lit ?_
 refine wv h36 (r_fieldB (r := 0) fl_31_0 rfl rfl rfl) rfl rfl fun a39 h39 => ?_; clear h36
 refine wv h39 (r_ldb (i := 2) ti_22 rfl rfl rfl rfl) rfl rfl fun a40 h40 => ?_; clear h39
 refine wv h40 (r_neqN (p := 0) (q := 0) rfl rfl rfl) rfl rfl fun a41 h41 => ?_; clear h40
 refine wms 1 h41 rfl fun a42 h42 => ?_; clear h41
 refine wl_val h42 (r_move rfl rfl) (wanted_yes h42.fr rfl rfl rfl rfl (by decide)) rfl rfl fun a43 h43 => ?_; clear h42
 refine wl_val h43 (r_not rfl rfl) (wanted_yes h43.fr rfl rfl rfl rfl (by decide)) rfl rfl fun a44 h44 => ?_; clear h43
 refine wv h44 (r_pickF rfl rfl (by decide) rfl) rfl rfl fun a45 h45 => ?_; clear h44
 refine wpList_nil (hK38 _ _ ?_)
 refine x_condF h45 rfl (by rw [h7_yes]; rfl) ?_
 refine wp_skip ?_
 refine hK37 _ _ ?_
 refine wp_seq_k fun K46 hK46 => wp_region_lit ?_
 refine wms 2 h45 rfl fun a47 h47 => ?_; clear h45
 refine wl_ex (x_call h47 bd_21 rfl rfl rfl rfl rfl (may_k ws es _ (h47.sh.at 5 rfl) (h47.sh.at 6 rfl) hok)) (wanted_none rfl _) ?_
 rintro a48 w48 ⟨_, ⟨rfl, hs48⟩, hf48⟩
 have h48 : St 142 (fun _ => False) W a48 w48 _ _ := ⟨hf48, h47.sh.call0 hs48⟩
 clear hf48 hs48
 clear h47
 refine wms 1 h48 rfl fun a49 h49 => ?_; clear h48
 refine wv h49 (r_extract rfl rfl rfl) rfl rfl fun a50 h50 => ?_; clear h49
 refine wv h50 (r_extract rfl rfl rfl) rfl rfl fun a51 h51 => ?_; clear h50
 refine wms 1 h51 rfl fun a52 h52 => ?_; clear h51
 refine wl_ex (x_stb (i := 2) (vs := [.int .i64 0, .int .i64 0, .int .i64 0]) (cs' := [.int .i64 0, .int .i64 0, .int .i64 0]) h52 ti_31 rfl rfl rfl rfl rfl rfl rfl (allOne_cons rfl (allOne_cons rfl (allOne_cons rfl allOne_nil))) (Nat.le_of_ble_eq_true rfl) rfl) (wanted_none rfl _) ?_
 rintro a53 w53 h53
 clear h52
 refine wpList_nil (hK46 _ _ ?_)
 refine wp_seq_k fun K54 hK54 => wp_region_lit ?_
 refine wms 1 h53 rfl fun a55 h55 => ?_; clear h53
 have hl56 : es.l.length ≤ 140737488355328 := (h55.sh.at 6 rfl).len
 refine wv h55 (r_len (s := es) (n := es.l.length) sl_37 rfl rfl (fun w h => (h.at 6 rfl)) rfl) rfl rfl fun a57 h57 => ?_; clear h55
 refine wms 1 h57 rfl fun a58 h58 => ?_; clear h57
 refine wpList_nil (hK54 _ _ ?_)
 refine wp_seq_k fun K59 hK59 => ?_
 refine wp_seq_k fun K60 hK60 => wp_region_lit ?_
 refine wv h58 (r_fieldB (r := 0) fl_31_0 rfl rfl rfl) rfl rfl fun a61 h61 => ?_; clear h58
 refine wv h61 (r_ldb (i := 2) ti_22 rfl rfl rfl rfl) rfl rfl fun a62 h62 => ?_; clear h61
 refine wv h62 (r_neqN (p := 0) (q := 0) rfl rfl rfl) rfl rfl fun a63 h63 => ?_; clear h62
 refine wms 1 h63 rfl fun a64 h64 => ?_; clear h63
 refine wl_val h64 (r_move rfl rfl) (wanted_yes h64.fr rfl rfl rfl rfl (by decide)) rfl rfl fun a65 h65 => ?_; clear h64
 refine wl_val h65 (r_eqlN (p := es.l.length) (q := 0) rfl rfl rfl) (wanted_yes h65.fr rfl rfl rfl rfl (by decide)) rfl rfl fun a66 h66 => ?_; clear h65
 refine wv h66 (r_pickF rfl rfl (by decide) rfl) rfl rfl fun a67 h67 => ?_; clear h66
 refine wpList_nil (hK60 _ _ ?_)
 refine x_cond h67 rfl (fun hb68 => ?_) (fun hb68 => ?_)
 ·
  have hp68 : es.l.length = 0 := of_decide_eq_true hb68
  refine wp_seq_k fun K69 hK69 => wp_region_lit ?_
  refine wms 1 h67 rfl fun a70 h70 => ?_; clear h67
  refine wpList_nil (hK69 _ _ ?_)
  have h71 : St 142 (fun _ => False) W a70 w53 [(6, .bool true)] [.own 36 (⟨v29, [(⟨0, 0, 1, 7⟩ : Ins)]⟩ : Ls Ins), .own 3 (⟨v27, [7]⟩ : Ls Int), .blk b15 31 [.int .i64 0, .int .i64 0, .int .i64 0], .own 36 (⟨v10, [(⟨0, 0, 2, 1⟩ : Ins), (⟨0, 1, 1, 0⟩ : Ins), (⟨1, 1, 2, 1⟩ : Ins), (⟨1, 0, 1, 0⟩ : Ins)]⟩ : Ls Ins), .own 3 (⟨v5, [0, 0]⟩ : Ls Int), .at_ ws, .at_ es] := h70.nrm ⟨rfl, trivial⟩ [0, 1, 2, 3, 4, 5, 6] (by decide) ⟨rfl, rfl, rfl, rfl, rfl, rfl, rfl, trivial⟩
  clear h70
  refine wp_ret ?_
  try simp only [Exit.then, Exit.inBlock]
  refine x_ret1 (fn := Try.f6) (t := 6) rfl h71 rfl ?_
  exact ⟨rfl, (h71.sh.sel [] (by decide) trivial)⟩
 have hp68 : ¬ (es.l.length = 0) := of_decide_eq_false hb68
 refine wp_skip ?_
 refine hK59 _ _ ?_
 have h72 : St 142 (fun _ => False) W a67 w53 [(0, ws.v), (1, es.v), (2, .int .i64 q), (7, .bool (mayB ws.l es.l)), (9, .int .i64 ((es.l.length : Nat) : Int))] [.own 36 (⟨v29, [(⟨0, 0, 1, 7⟩ : Ins)]⟩ : Ls Ins), .own 3 (⟨v27, [7]⟩ : Ls Int), .blk b15 31 [.int .i64 0, .int .i64 0, .int .i64 0], .own 36 (⟨v10, [(⟨0, 0, 2, 1⟩ : Ins), (⟨0, 1, 1, 0⟩ : Ins), (⟨1, 1, 2, 1⟩ : Ins), (⟨1, 0, 1, 0⟩ : Ins)]⟩ : Ls Ins), .own 3 (⟨v5, [0, 0]⟩ : Ls Int), .at_ ws, .at_ es] := h67.nrm ⟨rfl, rfl, rfl, rfl, rfl, trivial⟩ [0, 1, 2, 3, 4, 5, 6] (by decide) ⟨rfl, rfl, rfl, rfl, rfl, rfl, rfl, trivial⟩
 clear h67
 refine wp_seq_k fun K73 hK73 => wp_region_lit ?_
 refine wms 3 h72 rfl fun a74 h74 => ?_; clear h72
 refine wv h74 (r_subN (p := es.l.length) (q := 1) rfl rfl rfl (show 1 ≤ es.l.length ∧ es.l.length < 9223372036854775808 from (by omega))) rfl rfl fun a75 h75 => ?_; clear h74
 refine wv h75 (r_slH0 (s := es) (j := es.l.length - 1) sl_37 ti_36 rfl rfl rfl (fun w h => (h.at 6 rfl)) (show es.l.length - 1 ≤ es.l.length from (by omega))) rfl rfl fun a76 h76 => ?_; clear h75
 refine wl_ex (x_call h76 bd_21 rfl rfl rfl rfl rfl (may_k ws (⟨(vtake es.v (es.l.length - 1)), (es.l.take (es.l.length - 1))⟩ : Ls Ins) _ (h76.sh.at 5 rfl) (take_at (h76.sh.at 6 rfl) (show es.l.length - 1 ≤ es.l.length from (by omega))) (last_ok hok))) (wanted_none rfl _) ?_
 rintro a77 w77 ⟨_, ⟨rfl, hs77⟩, hf77⟩
 have h77 : St 142 (fun _ => False) W a77 w77 _ _ := ⟨hf77, h76.sh.call0 hs77⟩
 clear hf77 hs77
 clear h76
 refine wms 1 h77 rfl fun a78 h78 => ?_; clear h77
 refine wv h78 (r_extract rfl rfl rfl) rfl rfl fun a79 h79 => ?_; clear h78
 refine wv h79 (r_extract rfl rfl rfl) rfl rfl fun a80 h80 => ?_; clear h79
 refine wl_ex (x_alloc h80 ti_31 rfl rfl rfl) (wanted_none rfl _) ?_
 rintro a81 w81 ⟨b81, h81⟩; clear h80
 refine wms 1 h81 rfl fun a82 h82 => ?_; clear h81
 refine wl_ex (x_stb (i := 0) (vs := [.int .i64 0, .int .i64 0, .int .i64 0]) (cs' := [.int .i64 0, .int .i64 0, .int .i64 0]) h82 ti_31 rfl rfl rfl rfl rfl rfl rfl (allOne_cons rfl (allOne_cons rfl (allOne_cons rfl allOne_nil))) (Nat.le_of_ble_eq_true rfl) rfl) (wanted_none rfl _) ?_
 rintro a83 w83 h83
 clear h82
 refine wpList_nil (hK73 _ _ ?_)
 refine wp_seq_k fun K84 hK84 => ?_
 refine wp_seq_k fun K85 hK85 => wp_region_lit ?_
 refine wv h83 (r_fieldB (r := 0) fl_31_0 rfl rfl rfl) rfl rfl fun a86 h86 => ?_; clear h83
 refine wv h86 (r_ldb (i := 0) ti_22 rfl rfl rfl rfl) rfl rfl fun a87 h87 => ?_; clear h86
 refine wv h87 (r_neqN (p := 0) (q := 0) rfl rfl rfl) rfl rfl fun a88 h88 => ?_; clear h87
 refine wms 1 h88 rfl fun a89 h89 => ?_; clear h88
 refine wl_val h89 (r_move rfl rfl) (wanted_yes h89.fr rfl rfl rfl rfl (by decide)) rfl rfl fun a90 h90 => ?_; clear h89
 refine wl_val h90 (r_move rfl rfl) (wanted_yes h90.fr rfl rfl rfl rfl (by decide)) rfl rfl fun a91 h91 => ?_; clear h90
 rcases Bool.eq_false_or_eq_true (mayB ws.l es.l) with hb92 | hb92
 ·
  skip
  refine wl_val h91 (r_move rfl rfl) (wanted_yes h91.fr rfl rfl rfl rfl hb92) rfl rfl fun a93 h93 => ?_; clear h91
  refine wl_val h93 (r_not rfl rfl) (wanted_yes h93.fr rfl rfl rfl rfl hb92) rfl rfl fun a94 h94 => ?_; clear h93
  refine wl_val h94 (r_pickT rfl rfl hb92 rfl) (wanted_yes h94.fr rfl rfl rfl rfl (by decide)) rfl rfl fun a95 h95 => ?_; clear h94
  refine wl_val h95 (r_move rfl rfl) (wanted_yes h95.fr rfl rfl rfl rfl (by decide)) rfl rfl fun a96 h96 => ?_; clear h95
  rcases Bool.eq_false_or_eq_true (!(mayB ws.l (es.l.take (es.l.length - 1)))) with hb97 | hb97
  ·
   have hn97 : mayB ws.l (es.l.take (es.l.length - 1)) = false := (Bool.not_eq_true' _).mp hb97
   refine wl_val h96 (r_move rfl rfl) (wanted_yes h96.fr rfl rfl rfl rfl hb97) rfl rfl fun a98 h98 => ?_; clear h96
   refine wl_val h98 (r_move rfl rfl) (wanted_yes h98.fr rfl rfl rfl rfl hb97) rfl rfl fun a99 h99 => ?_; clear h98
   refine wl_val h99 (r_subN (p := es.l.length) (q := 1) rfl rfl rfl (show 1 ≤ es.l.length ∧ es.l.length < 9223372036854775808 from (by omega))) (wanted_yes h99.fr rfl rfl rfl rfl hb97) rfl rfl fun a100 h100 => ?_; clear h99
   refine wl_val h100 (r_ixN (s := es) (q := es.l.length - 1) sl_37 ti_36 rfl rfl rfl (fun w h => (h.at 7 rfl)) (show es.l.length - 1 < es.l.length from (by omega))) (wanted_yes h100.fr rfl rfl rfl rfl hb97) rfl rfl fun a101 h101 => ?_; clear h100
   refine wl_val h101 (r_fieldE (r := 2) fl_36_2 rfl rfl rfl) (wanted_yes h101.fr rfl rfl rfl rfl hb97) rfl rfl fun a102 h102 => ?_; clear h101
   refine wl_val h102 (r_lde (s := es) (i := es.l.length - 1) (v := .int .i64 ((nth es.l (es.l.length - 1)).b)) ti_3 rfl rfl rfl (fun w h => (h.at 7 rfl)) (show es.l.length - 1 < es.l.length from (by omega)) (Nat.le_of_ble_eq_true rfl) rfl) (wanted_yes h102.fr rfl rfl rfl rfl hb97) rfl rfl fun a103 h103 => ?_; clear h102
   refine wl_val h103 (r_eqlI (p := (nth es.l (es.l.length - 1)).b) (q := 1) rfl rfl rfl) (wanted_yes h103.fr rfl rfl rfl rfl hb97) rfl rfl fun a104 h104 => ?_; clear h103
   refine wl_val h104 (r_pickT rfl rfl hb97 rfl) (wanted_yes h104.fr rfl rfl rfl rfl (by decide)) rfl rfl fun a105 h105 => ?_; clear h104
   refine wv h105 (r_pickF rfl rfl (by decide) rfl) rfl rfl fun a106 h106 => ?_; clear h105
   refine wpList_nil (hK85 _ _ ?_)
   have h107 : St 142 (fun _ => False) W a106 w83 [(0, ws.v), (1, es.v), (2, .int .i64 q), (7, .bool (mayB ws.l es.l)), (9, .int .i64 ((es.l.length : Nat) : Int)), (11, .pointer (some ⟨b81, 0, none⟩)), (86, .bool (decide ((nth es.l (es.l.length - 1)).b = 1)))] [.blk b81 31 [.int .i64 0, .int .i64 0, .int .i64 0], .own 36 (⟨v29, [(⟨0, 0, 1, 7⟩ : Ins)]⟩ : Ls Ins), .own 3 (⟨v27, [7]⟩ : Ls Int), .blk b15 31 [.int .i64 0, .int .i64 0, .int .i64 0], .own 36 (⟨v10, [(⟨0, 0, 2, 1⟩ : Ins), (⟨0, 1, 1, 0⟩ : Ins), (⟨1, 1, 2, 1⟩ : Ins), (⟨1, 0, 1, 0⟩ : Ins)]⟩ : Ls Ins), .own 3 (⟨v5, [0, 0]⟩ : Ls Int), .at_ ws, .at_ es] := h106.nrm ⟨rfl, rfl, rfl, rfl, rfl, rfl, rfl, trivial⟩ [0, 1, 2, 3, 4, 5, 6, 7] (by decide) ⟨rfl, rfl, rfl, rfl, rfl, rfl, rfl, rfl, trivial⟩
   clear h106
   refine x_cond h107 rfl (fun hb108 => ?_) (fun hb108 => ?_)
   ·
    have hp108 : (nth es.l (es.l.length - 1)).b = 1 := of_decide_eq_true hb108
    exact absurd ((may_less hok (by omega) (by assumption) (by assumption)).symm.trans (show mayB ws.l (es.l.take (es.l.length - 1)) = false by assumption)) (by decide)
   have hp108 : ¬ ((nth es.l (es.l.length - 1)).b = 1) := of_decide_eq_false hb108
   refine wp_skip ?_
   refine hK84 _ _ ?_
   refine wp_seq_k fun K109 hK109 => ?_
   refine wp_seq_k fun K110 hK110 => ?_
   refine x_quiet (by kernel_rfl) (by kernel_rfl) h107 fun Z111 hZ111 => ?_
   have hq111 := h107.fr
   refine wq_val hq111 (r_move rfl rfl) (wanted_none rfl _) rfl rfl fun a112 hq112 => ?_; clear hq111
   refine wq_val hq112 (r_lssI (p := q) (q := 0) rfl rfl rfl) (wanted_none rfl _) rfl rfl fun a113 hq113 => ?_; clear hq112
   refine wq_val hq113 (r_move rfl rfl) (wanted_none rfl _) rfl rfl fun a114 hq114 => ?_; clear hq113
   rcases Bool.eq_false_or_eq_true (decide (q < 0)) with hb115 | hb115
   ·
    have hp115 : q < 0 := of_decide_eq_true hb115
    refine wq_skip hq114 (wanted_no hq114 rfl rfl rfl rfl hb115) rfl rfl fun a116 hq116 => ?_; clear hq114
    refine wq_skip hq116 (wanted_no hq116 rfl rfl rfl rfl hb115) rfl rfl fun a117 hq117 => ?_; clear hq116
    refine wq_skip hq117 (wanted_no hq117 rfl rfl rfl rfl hb115) rfl rfl fun a118 hq118 => ?_; clear hq117
    refine wq_skip hq118 (wanted_no hq118 rfl rfl rfl rfl hb115) rfl rfl fun a119 hq119 => ?_; clear hq118
    refine wq_val hq119 (r_pickT rfl rfl hb115 rfl) (wanted_none rfl _) rfl rfl fun a120 hq120 => ?_; clear hq119
    refine wq_val hq120 (r_move rfl rfl) (wanted_none rfl _) rfl rfl fun a121 hq121 => ?_; clear hq120
    refine wq_skip hq121 (wanted_no hq121 rfl rfl rfl rfl rfl) rfl rfl fun a122 hq122 => ?_; clear hq121
    refine wq_skip hq122 (wanted_no hq122 rfl rfl rfl rfl rfl) rfl rfl fun a123 hq123 => ?_; clear hq122
    refine wq_skip hq123 (wanted_no hq123 rfl rfl rfl rfl rfl) rfl rfl fun a124 hq124 => ?_; clear hq123
    refine wq_skip hq124 (wanted_no hq124 rfl rfl rfl rfl rfl) rfl rfl fun a125 hq125 => ?_; clear hq124
    refine wq_skip hq125 (wanted_no hq125 rfl rfl rfl rfl rfl) rfl rfl fun a126 hq126 => ?_; clear hq125
    refine wq_skip hq126 (wanted_no hq126 rfl rfl rfl rfl rfl) rfl rfl fun a127 hq127 => ?_; clear hq126
    refine wq_skip hq127 (wanted_no hq127 rfl rfl rfl rfl rfl) rfl rfl fun a128 hq128 => ?_; clear hq127
    refine wq_skip hq128 (wanted_no hq128 rfl rfl rfl rfl rfl) rfl rfl fun a129 hq129 => ?_; clear hq128
    refine wq_skip hq129 (wanted_no hq129 rfl rfl rfl rfl rfl) rfl rfl fun a130 hq130 => ?_; clear hq129
    refine wq_skip hq130 (wanted_no hq130 rfl rfl rfl rfl rfl) rfl rfl fun a131 hq131 => ?_; clear hq130
    refine wq_skip hq131 (wanted_no hq131 rfl rfl rfl rfl rfl) rfl rfl fun a132 hq132 => ?_; clear hq131
    refine wq_skip hq132 (wanted_no hq132 rfl rfl rfl rfl rfl) rfl rfl fun a133 hq133 => ?_; clear hq132
    refine wq_val hq133 (r_pickT rfl rfl rfl rfl) (wanted_none rfl _) rfl rfl fun a134 hq134 => ?_; clear hq133
    refine wpQuiet_nil (hZ111 _ fun w135 hw135 => ?_)
    have h135 : St 142 (fun _ => False) W a134 w135 _ _ := ⟨hq134, hw135⟩
    clear hq134 hw135 h107
    refine hK110 _ _ ?_
    have h136 : St 142 (fun _ => False) W a134 w135 [(0, ws.v), (1, es.v), (2, .int .i64 q), (7, .bool (mayB ws.l es.l)), (11, .pointer (some ⟨b81, 0, none⟩)), (108, .bool true)] [.blk b81 31 [.int .i64 0, .int .i64 0, .int .i64 0], .own 36 (⟨v29, [(⟨0, 0, 1, 7⟩ : Ins)]⟩ : Ls Ins), .own 3 (⟨v27, [7]⟩ : Ls Int), .blk b15 31 [.int .i64 0, .int .i64 0, .int .i64 0], .own 36 (⟨v10, [(⟨0, 0, 2, 1⟩ : Ins), (⟨0, 1, 1, 0⟩ : Ins), (⟨1, 1, 2, 1⟩ : Ins), (⟨1, 0, 1, 0⟩ : Ins)]⟩ : Ls Ins), .own 3 (⟨v5, [0, 0]⟩ : Ls Int), .at_ ws, .at_ es] := h135.nrm ⟨rfl, rfl, rfl, rfl, rfl, rfl, trivial⟩ [0, 1, 2, 3, 4, 5, 6, 7] (by decide) ⟨rfl, rfl, rfl, rfl, rfl, rfl, rfl, rfl, trivial⟩
    clear h135
    refine x_condT h136 rfl rfl ?_
    refine wp_seq_k fun K137 hK137 => wp_region_lit ?_
    refine wms 1 h136 rfl fun a138 h138 => ?_; clear h136
    refine wpList_nil (hK137 _ _ ?_)
    refine wp_ret ?_
    try simp only [Exit.then, Exit.inBlock]
    refine x_ret1 (fn := Try.f6) (t := 6) rfl h138 rfl ?_
    exact ⟨rfl, (h138.sh.sel [] (by decide) trivial)⟩
   have hp115 : ¬ (q < 0) := of_decide_eq_false hb115
   refine wq_val hq114 (r_move rfl rfl) (wanted_yes hq114 rfl rfl rfl rfl hb115) rfl rfl fun a140 hq140 => ?_; clear hq114
   refine wq_val hq140 (r_move rfl rfl) (wanted_yes hq140 rfl rfl rfl rfl hb115) rfl rfl fun a142 hq142 => ?_; clear hq140
   refine wq_val hq142 (r_subN (p := es.l.length) (q := 1) rfl rfl rfl (show 1 ≤ es.l.length ∧ es.l.length < 9223372036854775808 from (by omega))) (wanted_yes hq142 rfl rfl rfl rfl hb115) rfl rfl fun a144 hq144 => ?_; clear hq142
   refine wq_val hq144 (r_geqI (p := q) (q := ((es.l.length - 1 : Nat) : Int)) rfl rfl rfl) (wanted_yes hq144 rfl rfl rfl rfl hb115) rfl rfl fun a146 hq146 => ?_; clear hq144
   refine wq_val hq146 (r_pickF rfl rfl hb115 rfl) (wanted_none rfl _) rfl rfl fun a147 hq147 => ?_; clear hq146
   refine wq_val hq147 (r_move rfl rfl) (wanted_none rfl _) rfl rfl fun a148 hq148 => ?_; clear hq147
   rcases Bool.eq_false_or_eq_true (decide (((es.l.length - 1 : Nat) : Int) ≤ q)) with hb149 | hb149
   ·
    have hp149 : ((es.l.length - 1 : Nat) : Int) ≤ q := of_decide_eq_true hb149
    refine wq_skip hq148 (wanted_no hq148 rfl rfl rfl rfl hb149) rfl rfl fun a150 hq150 => ?_; clear hq148
    refine wq_skip hq150 (wanted_no hq150 rfl rfl rfl rfl hb149) rfl rfl fun a151 hq151 => ?_; clear hq150
    refine wq_skip hq151 (wanted_no hq151 rfl rfl rfl rfl hb149) rfl rfl fun a152 hq152 => ?_; clear hq151
    refine wq_skip hq152 (wanted_no hq152 rfl rfl rfl rfl hb149) rfl rfl fun a153 hq153 => ?_; clear hq152
    refine wq_skip hq153 (wanted_no hq153 rfl rfl rfl rfl hb149) rfl rfl fun a154 hq154 => ?_; clear hq153
    refine wq_skip hq154 (wanted_no hq154 rfl rfl rfl rfl hb149) rfl rfl fun a155 hq155 => ?_; clear hq154
    refine wq_skip hq155 (wanted_no hq155 rfl rfl rfl rfl hb149) rfl rfl fun a156 hq156 => ?_; clear hq155
    refine wq_skip hq156 (wanted_no hq156 rfl rfl rfl rfl hb149) rfl rfl fun a157 hq157 => ?_; clear hq156
    refine wq_skip hq157 (wanted_no hq157 rfl rfl rfl rfl hb149) rfl rfl fun a158 hq158 => ?_; clear hq157
    refine wq_skip hq158 (wanted_no hq158 rfl rfl rfl rfl hb149) rfl rfl fun a159 hq159 => ?_; clear hq158
    refine wq_skip hq159 (wanted_no hq159 rfl rfl rfl rfl hb149) rfl rfl fun a160 hq160 => ?_; clear hq159
    refine wq_skip hq160 (wanted_no hq160 rfl rfl rfl rfl hb149) rfl rfl fun a161 hq161 => ?_; clear hq160
    refine wq_val hq161 (r_pickT rfl rfl hb149 rfl) (wanted_none rfl _) rfl rfl fun a162 hq162 => ?_; clear hq161
    refine wpQuiet_nil (hZ111 _ fun w163 hw163 => ?_)
    have h163 : St 142 (fun _ => False) W a162 w163 _ _ := ⟨hq162, hw163⟩
    clear hq162 hw163 h107
    refine hK110 _ _ ?_
    have h164 : St 142 (fun _ => False) W a162 w163 [(0, ws.v), (1, es.v), (2, .int .i64 q), (7, .bool (mayB ws.l es.l)), (11, .pointer (some ⟨b81, 0, none⟩)), (108, .bool true)] [.blk b81 31 [.int .i64 0, .int .i64 0, .int .i64 0], .own 36 (⟨v29, [(⟨0, 0, 1, 7⟩ : Ins)]⟩ : Ls Ins), .own 3 (⟨v27, [7]⟩ : Ls Int), .blk b15 31 [.int .i64 0, .int .i64 0, .int .i64 0], .own 36 (⟨v10, [(⟨0, 0, 2, 1⟩ : Ins), (⟨0, 1, 1, 0⟩ : Ins), (⟨1, 1, 2, 1⟩ : Ins), (⟨1, 0, 1, 0⟩ : Ins)]⟩ : Ls Ins), .own 3 (⟨v5, [0, 0]⟩ : Ls Int), .at_ ws, .at_ es] := h163.nrm ⟨rfl, rfl, rfl, rfl, rfl, rfl, trivial⟩ [0, 1, 2, 3, 4, 5, 6, 7] (by decide) ⟨rfl, rfl, rfl, rfl, rfl, rfl, rfl, rfl, trivial⟩
    clear h163
    refine x_condT h164 rfl rfl ?_
    refine wp_seq_k fun K165 hK165 => wp_region_lit ?_
    refine wms 1 h164 rfl fun a166 h166 => ?_; clear h164
    refine wpList_nil (hK165 _ _ ?_)
    refine wp_ret ?_
    try simp only [Exit.then, Exit.inBlock]
    refine x_ret1 (fn := Try.f6) (t := 6) rfl h166 rfl ?_
    exact ⟨rfl, (h166.sh.sel [] (by decide) trivial)⟩
   have hp149 : ¬ (((es.l.length - 1 : Nat) : Int) ≤ q) := of_decide_eq_false hb149
   refine wq_val hq148 (r_move rfl rfl) (wanted_yes hq148 rfl rfl rfl rfl hb149) rfl rfl fun a168 hq168 => ?_; clear hq148
   refine wq_val hq168 (r_move rfl rfl) (wanted_yes hq168 rfl rfl rfl rfl hb149) rfl rfl fun a170 hq170 => ?_; clear hq168
   refine wq_val hq170 (r_ixI (s := es) (q := q) sl_37 ti_36 rfl rfl rfl (fun w h => (h.at 7 rfl)) (show 0 ≤ q ∧ q < es.l.length from (by omega))) (wanted_yes hq170 rfl rfl rfl rfl hb149) rfl rfl fun a172 hq172 => ?_; clear hq170
   refine wq_val hq172 (r_fieldE (r := 0) fl_36_0 rfl rfl rfl) (wanted_yes hq172 rfl rfl rfl rfl hb149) rfl rfl fun a174 hq174 => ?_; clear hq172
   refine wq_val hq174 (r_lde (s := es) (i := q.toNat) (v := .int .i64 ((nth es.l q.toNat).op)) ti_3 rfl rfl rfl (fun w h => (h.at 7 rfl)) (show q.toNat < es.l.length from (by omega)) (Nat.le_of_ble_eq_true rfl) rfl) (wanted_yes hq174 rfl rfl rfl rfl hb149) rfl rfl fun a176 hq176 => ?_; clear hq174
   refine wq_val hq176 (r_move rfl rfl) (wanted_yes hq176 rfl rfl rfl rfl hb149) rfl rfl fun a178 hq178 => ?_; clear hq176
   refine wq_val hq178 (r_move rfl rfl) (wanted_yes hq178 rfl rfl rfl rfl hb149) rfl rfl fun a180 hq180 => ?_; clear hq178
   refine wq_val hq180 (r_addI (p := q) (q := 1) rfl rfl rfl (show -9223372036854775808 ≤ q + 1 ∧ q + 1 < 9223372036854775808 from (by omega))) (wanted_yes hq180 rfl rfl rfl rfl hb149) rfl rfl fun a182 hq182 => ?_; clear hq180
   refine wq_val hq182 (r_ixI (s := es) (q := q + 1) sl_37 ti_36 rfl rfl rfl (fun w h => (h.at 7 rfl)) (show 0 ≤ q + 1 ∧ q + 1 < es.l.length from (by omega))) (wanted_yes hq182 rfl rfl rfl rfl hb149) rfl rfl fun a184 hq184 => ?_; clear hq182
   refine wq_val hq184 (r_fieldE (r := 0) fl_36_0 rfl rfl rfl) (wanted_yes hq184 rfl rfl rfl rfl hb149) rfl rfl fun a186 hq186 => ?_; clear hq184
   refine wq_val hq186 (r_lde (s := es) (i := (q + 1).toNat) (v := .int .i64 ((nth es.l ((q + 1).toNat)).op)) ti_3 rfl rfl rfl (fun w h => (h.at 7 rfl)) (show (q + 1).toNat < es.l.length from (by omega)) (Nat.le_of_ble_eq_true rfl) rfl) (wanted_yes hq186 rfl rfl rfl rfl hb149) rfl rfl fun a188 hq188 => ?_; clear hq186
   refine wq_val hq188 (r_eqlI (p := (nth es.l q.toNat).op) (q := (nth es.l ((q + 1).toNat)).op) rfl rfl rfl) (wanted_yes hq188 rfl rfl rfl rfl hb149) rfl rfl fun a190 hq190 => ?_; clear hq188
   refine wq_val hq190 (r_pickF rfl rfl hb149 rfl) (wanted_none rfl _) rfl rfl fun a191 hq191 => ?_; clear hq190
   refine wpQuiet_nil (hZ111 _ fun w192 hw192 => ?_)
   have h192 : St 142 (fun _ => False) W a191 w192 _ _ := ⟨hq191, hw192⟩
   clear hq191 hw192 h107
   refine hK110 _ _ ?_
   have h193 : St 142 (fun _ => False) W a191 w192 [(0, ws.v), (1, es.v), (2, .int .i64 q), (7, .bool (mayB ws.l es.l)), (11, .pointer (some ⟨b81, 0, none⟩)), (108, .bool (decide ((nth es.l q.toNat).op = (nth es.l ((q + 1).toNat)).op)))] [.blk b81 31 [.int .i64 0, .int .i64 0, .int .i64 0], .own 36 (⟨v29, [(⟨0, 0, 1, 7⟩ : Ins)]⟩ : Ls Ins), .own 3 (⟨v27, [7]⟩ : Ls Int), .blk b15 31 [.int .i64 0, .int .i64 0, .int .i64 0], .own 36 (⟨v10, [(⟨0, 0, 2, 1⟩ : Ins), (⟨0, 1, 1, 0⟩ : Ins), (⟨1, 1, 2, 1⟩ : Ins), (⟨1, 0, 1, 0⟩ : Ins)]⟩ : Ls Ins), .own 3 (⟨v5, [0, 0]⟩ : Ls Int), .at_ ws, .at_ es] := h192.nrm ⟨rfl, rfl, rfl, rfl, rfl, rfl, trivial⟩ [0, 1, 2, 3, 4, 5, 6, 7] (by decide) ⟨rfl, rfl, rfl, rfl, rfl, rfl, rfl, rfl, trivial⟩
   clear h192
   refine x_cond h193 rfl (fun hb194 => ?_) (fun hb194 => ?_)
   ·
    have hp194 : (nth es.l q.toNat).op = (nth es.l ((q + 1).toNat)).op := of_decide_eq_true hb194
    refine wp_seq_k fun K195 hK195 => wp_region_lit ?_
    refine wms 1 h193 rfl fun a196 h196 => ?_; clear h193
    refine wpList_nil (hK195 _ _ ?_)
    refine wp_ret ?_
    try simp only [Exit.then, Exit.inBlock]
    refine x_ret1 (fn := Try.f6) (t := 6) rfl h196 rfl ?_
    exact ⟨rfl, (h196.sh.sel [] (by decide) trivial)⟩
   have hp194 : ¬ ((nth es.l q.toNat).op = (nth es.l ((q + 1).toNat)).op) := of_decide_eq_false hb194
   refine wp_skip ?_
   refine hK109 _ _ ?_
   refine wp_seq_k fun K197 hK197 => wp_region_lit ?_
   refine wl_ex (x_lit0 (α := Ins) h193 sl_37 ti_36 rfl rfl rfl) (wanted_none rfl _) ?_
   rintro a198 w198 ⟨v198, h198⟩; clear h193
   refine wms 1 h198 rfl fun a199 h199 => ?_; clear h198
   refine wl_ex (x_app (r := 0) (rm := 8) (s := (⟨v198, []⟩ : Ls Ins)) (m := es) h199 sl_37 ti_36 rfl rfl rfl rfl rfl rfl rfl (fun w h => (h.at 8 rfl)) (fun b hb => .inr hb) (fun q hq b hb => .inr ⟨q, hq, hb⟩) rfl rfl rfl inferInstance (show (([]).length + es.l.length) * 32 ≤ 140737488355328 ∧ ([]).length + es.l.length ≤ 140737488355328 from (by first | omega | (simp only [lens9]; omega))) rfl rfl) (wanted_none rfl _) ?_
   rintro a200 w200 ⟨v200, h200⟩; clear h199
   refine wms 1 h200 rfl fun a201 h201 => ?_; clear h200
   refine wpList_nil (hK197 _ _ ?_)
   refine wp_seq_k fun K202 hK202 => wp_region_lit ?_
   refine wms 4 h201 rfl fun a203 h203 => ?_; clear h201
   refine wv h203 (r_addI (p := q) (q := 1) rfl rfl rfl (show -9223372036854775808 ≤ q + 1 ∧ q + 1 < 9223372036854775808 from (by omega))) rfl rfl fun a204 h204 => ?_; clear h203
   refine wv h204 (r_ixI (s := es) (q := q + 1) sl_37 ti_36 rfl rfl rfl (fun w h => (h.at 8 rfl)) (show 0 ≤ q + 1 ∧ q + 1 < es.l.length from (by omega))) rfl rfl fun a205 h205 => ?_; clear h204
   refine wv h205 (r_ldew (s := es) (i := (q + 1).toNat) (vs := [.int .i64 ((nth es.l ((q + 1).toNat)).op), .int .i64 ((nth es.l ((q + 1).toNat)).a), .int .i64 ((nth es.l ((q + 1).toNat)).b), .int .i64 ((nth es.l ((q + 1).toNat)).c)]) ti_36 rfl rfl rfl (fun w h => (h.at 8 rfl)) (show (q + 1).toNat < es.l.length from (by omega)) (Nat.le_of_ble_eq_true rfl) rfl) rfl rfl fun a206 h206 => ?_; clear h205
   refine wv h206 (r_ixI (s := (⟨v200, es.l⟩ : Ls Ins)) (q := q) sl_37 ti_36 rfl rfl rfl (fun w h => (h.own 0 rfl)) (show 0 ≤ q ∧ q < es.l.length from (by omega))) rfl rfl fun a207 h207 => ?_; clear h206
   refine wl_ex (x_stewI (r := 0) (i := q.toNat) (s := (⟨v200, es.l⟩ : Ls Ins)) (x' := (nth es.l ((q + 1).toNat))) h207 ti_36 rfl rfl rfl rfl (show q.toNat < es.l.length from (by omega)) rfl) (wanted_none rfl _) ?_
   rintro a208 w208 h208
   clear h207
   refine wpList_nil (hK202 _ _ ?_)
   refine wp_seq_k fun K209 hK209 => wp_region_lit ?_
   refine wms 2 h208 rfl fun a210 h210 => ?_; clear h208
   refine wv h210 (r_addI (p := q) (q := 1) rfl rfl rfl (show -9223372036854775808 ≤ q + 1 ∧ q + 1 < 9223372036854775808 from (by omega))) rfl rfl fun a211 h211 => ?_; clear h210
   refine wms 2 h211 rfl fun a212 h212 => ?_; clear h211
   refine wv h212 (r_ixI (s := es) (q := q) sl_37 ti_36 rfl rfl rfl (fun w h => (h.at 8 rfl)) (show 0 ≤ q ∧ q < es.l.length from (by omega))) rfl rfl fun a213 h213 => ?_; clear h212
   refine wv h213 (r_ldew (s := es) (i := q.toNat) (vs := [.int .i64 ((nth es.l q.toNat).op), .int .i64 ((nth es.l q.toNat).a), .int .i64 ((nth es.l q.toNat).b), .int .i64 ((nth es.l q.toNat).c)]) ti_36 rfl rfl rfl (fun w h => (h.at 8 rfl)) (show q.toNat < es.l.length from (by omega)) (Nat.le_of_ble_eq_true rfl) rfl) rfl rfl fun a214 h214 => ?_; clear h213
   refine wv h214 (r_ixI (s := (⟨v200, es.l.set q.toNat (nth es.l ((q + 1).toNat))⟩ : Ls Ins)) (q := q + 1) sl_37 ti_36 rfl rfl rfl (fun w h => (h.own 0 rfl)) (show 0 ≤ q + 1 ∧ q + 1 < (es.l.set q.toNat (nth es.l ((q + 1).toNat))).length from (by first | omega | (simp only [lens9]; omega)))) rfl rfl fun a215 h215 => ?_; clear h214
   refine wl_ex (x_stewI (r := 0) (i := (q + 1).toNat) (s := (⟨v200, es.l.set q.toNat (nth es.l ((q + 1).toNat))⟩ : Ls Ins)) (x' := (nth es.l q.toNat)) h215 ti_36 rfl rfl rfl rfl (show (q + 1).toNat < (es.l.set q.toNat (nth es.l ((q + 1).toNat))).length from (by first | omega | (simp only [lens9]; omega))) rfl) (wanted_none rfl _) ?_
   rintro a216 w216 h216
   clear h215
   refine wpList_nil (hK209 _ _ ?_)
   refine wp_seq_k fun K217 hK217 => wp_region_lit ?_
   refine wms 2 h216 rfl fun a218 h218 => ?_; clear h216
   refine wl_ex (x_call h218 bd_21 rfl rfl rfl rfl rfl (may_k ws (⟨v200, (es.l.set q.toNat (nth es.l ((q + 1).toNat))).set ((q + 1).toNat) (nth es.l q.toNat)⟩ : Ls Ins) _ (h218.sh.at 7 rfl) (h218.sh.own 0 rfl) (by first | exact swap_ok2 hok (by omega) (by omega)))) (wanted_none rfl _) ?_
   rintro a219 w219 ⟨_, ⟨rfl, hs219⟩, hf219⟩
   have h219 : St 142 (fun _ => False) W a219 w219 _ _ := ⟨hf219, h218.sh.call0 hs219⟩
   clear hf219 hs219
   clear h218
   refine wms 1 h219 rfl fun a220 h220 => ?_; clear h219
   refine wv h220 (r_extract rfl rfl rfl) rfl rfl fun a221 h221 => ?_; clear h220
   refine wv h221 (r_extract rfl rfl rfl) rfl rfl fun a222 h222 => ?_; clear h221
   refine wms 1 h222 rfl fun a223 h223 => ?_; clear h222
   refine wl_ex (x_stb (i := 1) (vs := [.int .i64 0, .int .i64 0, .int .i64 0]) (cs' := [.int .i64 0, .int .i64 0, .int .i64 0]) h223 ti_31 rfl rfl rfl rfl rfl rfl rfl (allOne_cons rfl (allOne_cons rfl (allOne_cons rfl allOne_nil))) (Nat.le_of_ble_eq_true rfl) rfl) (wanted_none rfl _) ?_
   rintro a224 w224 h224
   clear h223
   refine wpList_nil (hK217 _ _ ?_)
   have h225 : St 142 (fun _ => False) W a224 w224 [(7, .bool (mayB ws.l es.l)), (11, .pointer (some ⟨b81, 0, none⟩)), (13, .bool (mayB ws.l ((es.l.set q.toNat (nth es.l ((q + 1).toNat))).set ((q + 1).toNat) (nth es.l q.toNat))))] [.own 36 (⟨v200, (es.l.set q.toNat (nth es.l ((q + 1).toNat))).set ((q + 1).toNat) (nth es.l q.toNat)⟩ : Ls Ins), .blk b81 31 [.int .i64 0, .int .i64 0, .int .i64 0], .own 36 (⟨v29, [(⟨0, 0, 1, 7⟩ : Ins)]⟩ : Ls Ins), .own 3 (⟨v27, [7]⟩ : Ls Int), .blk b15 31 [.int .i64 0, .int .i64 0, .int .i64 0], .own 36 (⟨v10, [(⟨0, 0, 2, 1⟩ : Ins), (⟨0, 1, 1, 0⟩ : Ins), (⟨1, 1, 2, 1⟩ : Ins), (⟨1, 0, 1, 0⟩ : Ins)]⟩ : Ls Ins), .own 3 (⟨v5, [0, 0]⟩ : Ls Int), .at_ ws, .at_ es] := h224.nrm ⟨rfl, rfl, rfl, trivial⟩ [0, 1, 2, 3, 4, 5, 6, 7, 8] (by decide) ⟨rfl, rfl, rfl, rfl, rfl, rfl, rfl, rfl, rfl, trivial⟩
   clear h224
   refine wp_seq_k fun K226 hK226 => wp_region_lit ?_
   refine wv h225 (r_fieldB (r := 0) fl_31_0 rfl rfl rfl) rfl rfl fun a227 h227 => ?_; clear h225
   refine wv h227 (r_ldb (i := 1) ti_22 rfl rfl rfl rfl) rfl rfl fun a228 h228 => ?_; clear h227
   refine wv h228 (r_eqlN (p := 0) (q := 0) rfl rfl rfl) rfl rfl fun a229 h229 => ?_; clear h228
   refine wms 1 h229 rfl fun a230 h230 => ?_; clear h229
   refine wl_val h230 (r_move rfl rfl) (wanted_yes h230.fr rfl rfl rfl rfl (by decide)) rfl rfl fun a231 h231 => ?_; clear h230
   refine wl_val h231 (r_move rfl rfl) (wanted_yes h231.fr rfl rfl rfl rfl (by decide)) rfl rfl fun a232 h232 => ?_; clear h231
   refine wl_val h232 (r_eqBB rfl rfl rfl (by kernel_rfl)) (wanted_yes h232.fr rfl rfl rfl rfl (by decide)) rfl rfl fun a233 h233 => ?_; clear h232
   refine wv h233 (r_pickT rfl rfl (by decide) rfl) rfl rfl fun a234 h234 => ?_; clear h233
   refine wms 1 h234 rfl fun a235 h235 => ?_; clear h234
   refine wpList_nil (hK226 _ _ ?_)
   refine wp_ret ?_
   try simp only [Exit.then, Exit.inBlock]
   refine x_ret1 (fn := Try.f6) (t := 6) rfl h235 rfl ?_
   refine ⟨?_, (h235.sh.sel [] (by decide) trivial)⟩
   congr 1
   rw [beq_iff_eq]
   exact may_swap2 (by omega) (by omega) (by assumption)
  have hn97 : mayB ws.l (es.l.take (es.l.length - 1)) = true := (Bool.not_eq_false' _).mp hb97
  refine wl_skip h96 (wanted_no h96.fr rfl rfl rfl rfl hb97) rfl rfl fun a236 h236 => ?_; clear h96
  refine wl_skip h236 (wanted_no h236.fr rfl rfl rfl rfl hb97) rfl rfl fun a237 h237 => ?_; clear h236
  refine wl_skip h237 (wanted_no h237.fr rfl rfl rfl rfl hb97) rfl rfl fun a238 h238 => ?_; clear h237
  refine wl_skip h238 (wanted_no h238.fr rfl rfl rfl rfl hb97) rfl rfl fun a239 h239 => ?_; clear h238
  refine wl_skip h239 (wanted_no h239.fr rfl rfl rfl rfl hb97) rfl rfl fun a240 h240 => ?_; clear h239
  refine wl_skip h240 (wanted_no h240.fr rfl rfl rfl rfl hb97) rfl rfl fun a241 h241 => ?_; clear h240
  refine wl_skip h241 (wanted_no h241.fr rfl rfl rfl rfl hb97) rfl rfl fun a242 h242 => ?_; clear h241
  refine wl_val h242 (r_pickF rfl rfl hb97 rfl) (wanted_yes h242.fr rfl rfl rfl rfl (by decide)) rfl rfl fun a243 h243 => ?_; clear h242
  refine wv h243 (r_pickF rfl rfl (by decide) rfl) rfl rfl fun a244 h244 => ?_; clear h243
  refine wpList_nil (hK85 _ _ ?_)
  have h245 : St 142 (fun _ => False) W a244 w83 [(0, ws.v), (1, es.v), (2, .int .i64 q), (7, .bool (mayB ws.l es.l)), (9, .int .i64 ((es.l.length : Nat) : Int)), (11, .pointer (some ⟨b81, 0, none⟩)), (86, .bool false)] [.blk b81 31 [.int .i64 0, .int .i64 0, .int .i64 0], .own 36 (⟨v29, [(⟨0, 0, 1, 7⟩ : Ins)]⟩ : Ls Ins), .own 3 (⟨v27, [7]⟩ : Ls Int), .blk b15 31 [.int .i64 0, .int .i64 0, .int .i64 0], .own 36 (⟨v10, [(⟨0, 0, 2, 1⟩ : Ins), (⟨0, 1, 1, 0⟩ : Ins), (⟨1, 1, 2, 1⟩ : Ins), (⟨1, 0, 1, 0⟩ : Ins)]⟩ : Ls Ins), .own 3 (⟨v5, [0, 0]⟩ : Ls Int), .at_ ws, .at_ es] := h244.nrm ⟨rfl, rfl, rfl, rfl, rfl, rfl, rfl, trivial⟩ [0, 1, 2, 3, 4, 5, 6, 7] (by decide) ⟨rfl, rfl, rfl, rfl, rfl, rfl, rfl, rfl, trivial⟩
  clear h244
  refine x_condF h245 rfl rfl ?_
  refine wp_skip ?_
  refine hK84 _ _ ?_
  refine wp_seq_k fun K246 hK246 => ?_
  refine wp_seq_k fun K247 hK247 => ?_
  refine x_quiet (by kernel_rfl) (by kernel_rfl) h245 fun Z248 hZ248 => ?_
  have hq248 := h245.fr
  refine wq_val hq248 (r_move rfl rfl) (wanted_none rfl _) rfl rfl fun a249 hq249 => ?_; clear hq248
  refine wq_val hq249 (r_lssI (p := q) (q := 0) rfl rfl rfl) (wanted_none rfl _) rfl rfl fun a250 hq250 => ?_; clear hq249
  refine wq_val hq250 (r_move rfl rfl) (wanted_none rfl _) rfl rfl fun a251 hq251 => ?_; clear hq250
  rcases Bool.eq_false_or_eq_true (decide (q < 0)) with hb252 | hb252
  ·
   have hp252 : q < 0 := of_decide_eq_true hb252
   refine wq_skip hq251 (wanted_no hq251 rfl rfl rfl rfl hb252) rfl rfl fun a253 hq253 => ?_; clear hq251
   refine wq_skip hq253 (wanted_no hq253 rfl rfl rfl rfl hb252) rfl rfl fun a254 hq254 => ?_; clear hq253
   refine wq_skip hq254 (wanted_no hq254 rfl rfl rfl rfl hb252) rfl rfl fun a255 hq255 => ?_; clear hq254
   refine wq_skip hq255 (wanted_no hq255 rfl rfl rfl rfl hb252) rfl rfl fun a256 hq256 => ?_; clear hq255
   refine wq_val hq256 (r_pickT rfl rfl hb252 rfl) (wanted_none rfl _) rfl rfl fun a257 hq257 => ?_; clear hq256
   refine wq_val hq257 (r_move rfl rfl) (wanted_none rfl _) rfl rfl fun a258 hq258 => ?_; clear hq257
   refine wq_skip hq258 (wanted_no hq258 rfl rfl rfl rfl rfl) rfl rfl fun a259 hq259 => ?_; clear hq258
   refine wq_skip hq259 (wanted_no hq259 rfl rfl rfl rfl rfl) rfl rfl fun a260 hq260 => ?_; clear hq259
   refine wq_skip hq260 (wanted_no hq260 rfl rfl rfl rfl rfl) rfl rfl fun a261 hq261 => ?_; clear hq260
   refine wq_skip hq261 (wanted_no hq261 rfl rfl rfl rfl rfl) rfl rfl fun a262 hq262 => ?_; clear hq261
   refine wq_skip hq262 (wanted_no hq262 rfl rfl rfl rfl rfl) rfl rfl fun a263 hq263 => ?_; clear hq262
   refine wq_skip hq263 (wanted_no hq263 rfl rfl rfl rfl rfl) rfl rfl fun a264 hq264 => ?_; clear hq263
   refine wq_skip hq264 (wanted_no hq264 rfl rfl rfl rfl rfl) rfl rfl fun a265 hq265 => ?_; clear hq264
   refine wq_skip hq265 (wanted_no hq265 rfl rfl rfl rfl rfl) rfl rfl fun a266 hq266 => ?_; clear hq265
   refine wq_skip hq266 (wanted_no hq266 rfl rfl rfl rfl rfl) rfl rfl fun a267 hq267 => ?_; clear hq266
   refine wq_skip hq267 (wanted_no hq267 rfl rfl rfl rfl rfl) rfl rfl fun a268 hq268 => ?_; clear hq267
   refine wq_skip hq268 (wanted_no hq268 rfl rfl rfl rfl rfl) rfl rfl fun a269 hq269 => ?_; clear hq268
   refine wq_skip hq269 (wanted_no hq269 rfl rfl rfl rfl rfl) rfl rfl fun a270 hq270 => ?_; clear hq269
   refine wq_val hq270 (r_pickT rfl rfl rfl rfl) (wanted_none rfl _) rfl rfl fun a271 hq271 => ?_; clear hq270
   refine wpQuiet_nil (hZ248 _ fun w272 hw272 => ?_)
   have h272 : St 142 (fun _ => False) W a271 w272 _ _ := ⟨hq271, hw272⟩
   clear hq271 hw272 h245
   refine hK247 _ _ ?_
   have h273 : St 142 (fun _ => False) W a271 w272 [(0, ws.v), (1, es.v), (2, .int .i64 q), (7, .bool (mayB ws.l es.l)), (11, .pointer (some ⟨b81, 0, none⟩)), (108, .bool true)] [.blk b81 31 [.int .i64 0, .int .i64 0, .int .i64 0], .own 36 (⟨v29, [(⟨0, 0, 1, 7⟩ : Ins)]⟩ : Ls Ins), .own 3 (⟨v27, [7]⟩ : Ls Int), .blk b15 31 [.int .i64 0, .int .i64 0, .int .i64 0], .own 36 (⟨v10, [(⟨0, 0, 2, 1⟩ : Ins), (⟨0, 1, 1, 0⟩ : Ins), (⟨1, 1, 2, 1⟩ : Ins), (⟨1, 0, 1, 0⟩ : Ins)]⟩ : Ls Ins), .own 3 (⟨v5, [0, 0]⟩ : Ls Int), .at_ ws, .at_ es] := h272.nrm ⟨rfl, rfl, rfl, rfl, rfl, rfl, trivial⟩ [0, 1, 2, 3, 4, 5, 6, 7] (by decide) ⟨rfl, rfl, rfl, rfl, rfl, rfl, rfl, rfl, trivial⟩
   clear h272
   refine x_condT h273 rfl rfl ?_
   refine wp_seq_k fun K274 hK274 => wp_region_lit ?_
   refine wms 1 h273 rfl fun a275 h275 => ?_; clear h273
   refine wpList_nil (hK274 _ _ ?_)
   refine wp_ret ?_
   try simp only [Exit.then, Exit.inBlock]
   refine x_ret1 (fn := Try.f6) (t := 6) rfl h275 rfl ?_
   exact ⟨rfl, (h275.sh.sel [] (by decide) trivial)⟩
  have hp252 : ¬ (q < 0) := of_decide_eq_false hb252
  refine wq_val hq251 (r_move rfl rfl) (wanted_yes hq251 rfl rfl rfl rfl hb252) rfl rfl fun a277 hq277 => ?_; clear hq251
  refine wq_val hq277 (r_move rfl rfl) (wanted_yes hq277 rfl rfl rfl rfl hb252) rfl rfl fun a279 hq279 => ?_; clear hq277
  refine wq_val hq279 (r_subN (p := es.l.length) (q := 1) rfl rfl rfl (show 1 ≤ es.l.length ∧ es.l.length < 9223372036854775808 from (by omega))) (wanted_yes hq279 rfl rfl rfl rfl hb252) rfl rfl fun a281 hq281 => ?_; clear hq279
  refine wq_val hq281 (r_geqI (p := q) (q := ((es.l.length - 1 : Nat) : Int)) rfl rfl rfl) (wanted_yes hq281 rfl rfl rfl rfl hb252) rfl rfl fun a283 hq283 => ?_; clear hq281
  refine wq_val hq283 (r_pickF rfl rfl hb252 rfl) (wanted_none rfl _) rfl rfl fun a284 hq284 => ?_; clear hq283
  refine wq_val hq284 (r_move rfl rfl) (wanted_none rfl _) rfl rfl fun a285 hq285 => ?_; clear hq284
  rcases Bool.eq_false_or_eq_true (decide (((es.l.length - 1 : Nat) : Int) ≤ q)) with hb286 | hb286
  ·
   have hp286 : ((es.l.length - 1 : Nat) : Int) ≤ q := of_decide_eq_true hb286
   refine wq_skip hq285 (wanted_no hq285 rfl rfl rfl rfl hb286) rfl rfl fun a287 hq287 => ?_; clear hq285
   refine wq_skip hq287 (wanted_no hq287 rfl rfl rfl rfl hb286) rfl rfl fun a288 hq288 => ?_; clear hq287
   refine wq_skip hq288 (wanted_no hq288 rfl rfl rfl rfl hb286) rfl rfl fun a289 hq289 => ?_; clear hq288
   refine wq_skip hq289 (wanted_no hq289 rfl rfl rfl rfl hb286) rfl rfl fun a290 hq290 => ?_; clear hq289
   refine wq_skip hq290 (wanted_no hq290 rfl rfl rfl rfl hb286) rfl rfl fun a291 hq291 => ?_; clear hq290
   refine wq_skip hq291 (wanted_no hq291 rfl rfl rfl rfl hb286) rfl rfl fun a292 hq292 => ?_; clear hq291
   refine wq_skip hq292 (wanted_no hq292 rfl rfl rfl rfl hb286) rfl rfl fun a293 hq293 => ?_; clear hq292
   refine wq_skip hq293 (wanted_no hq293 rfl rfl rfl rfl hb286) rfl rfl fun a294 hq294 => ?_; clear hq293
   refine wq_skip hq294 (wanted_no hq294 rfl rfl rfl rfl hb286) rfl rfl fun a295 hq295 => ?_; clear hq294
   refine wq_skip hq295 (wanted_no hq295 rfl rfl rfl rfl hb286) rfl rfl fun a296 hq296 => ?_; clear hq295
   refine wq_skip hq296 (wanted_no hq296 rfl rfl rfl rfl hb286) rfl rfl fun a297 hq297 => ?_; clear hq296
   refine wq_skip hq297 (wanted_no hq297 rfl rfl rfl rfl hb286) rfl rfl fun a298 hq298 => ?_; clear hq297
   refine wq_val hq298 (r_pickT rfl rfl hb286 rfl) (wanted_none rfl _) rfl rfl fun a299 hq299 => ?_; clear hq298
   refine wpQuiet_nil (hZ248 _ fun w300 hw300 => ?_)
   have h300 : St 142 (fun _ => False) W a299 w300 _ _ := ⟨hq299, hw300⟩
   clear hq299 hw300 h245
   refine hK247 _ _ ?_
   have h301 : St 142 (fun _ => False) W a299 w300 [(0, ws.v), (1, es.v), (2, .int .i64 q), (7, .bool (mayB ws.l es.l)), (11, .pointer (some ⟨b81, 0, none⟩)), (108, .bool true)] [.blk b81 31 [.int .i64 0, .int .i64 0, .int .i64 0], .own 36 (⟨v29, [(⟨0, 0, 1, 7⟩ : Ins)]⟩ : Ls Ins), .own 3 (⟨v27, [7]⟩ : Ls Int), .blk b15 31 [.int .i64 0, .int .i64 0, .int .i64 0], .own 36 (⟨v10, [(⟨0, 0, 2, 1⟩ : Ins), (⟨0, 1, 1, 0⟩ : Ins), (⟨1, 1, 2, 1⟩ : Ins), (⟨1, 0, 1, 0⟩ : Ins)]⟩ : Ls Ins), .own 3 (⟨v5, [0, 0]⟩ : Ls Int), .at_ ws, .at_ es] := h300.nrm ⟨rfl, rfl, rfl, rfl, rfl, rfl, trivial⟩ [0, 1, 2, 3, 4, 5, 6, 7] (by decide) ⟨rfl, rfl, rfl, rfl, rfl, rfl, rfl, rfl, trivial⟩
   clear h300
   refine x_condT h301 rfl rfl ?_
   refine wp_seq_k fun K302 hK302 => wp_region_lit ?_
   refine wms 1 h301 rfl fun a303 h303 => ?_; clear h301
   refine wpList_nil (hK302 _ _ ?_)
   refine wp_ret ?_
   try simp only [Exit.then, Exit.inBlock]
   refine x_ret1 (fn := Try.f6) (t := 6) rfl h303 rfl ?_
   exact ⟨rfl, (h303.sh.sel [] (by decide) trivial)⟩
  have hp286 : ¬ (((es.l.length - 1 : Nat) : Int) ≤ q) := of_decide_eq_false hb286
  refine wq_val hq285 (r_move rfl rfl) (wanted_yes hq285 rfl rfl rfl rfl hb286) rfl rfl fun a305 hq305 => ?_; clear hq285
  refine wq_val hq305 (r_move rfl rfl) (wanted_yes hq305 rfl rfl rfl rfl hb286) rfl rfl fun a307 hq307 => ?_; clear hq305
  refine wq_val hq307 (r_ixI (s := es) (q := q) sl_37 ti_36 rfl rfl rfl (fun w h => (h.at 7 rfl)) (show 0 ≤ q ∧ q < es.l.length from (by omega))) (wanted_yes hq307 rfl rfl rfl rfl hb286) rfl rfl fun a309 hq309 => ?_; clear hq307
  refine wq_val hq309 (r_fieldE (r := 0) fl_36_0 rfl rfl rfl) (wanted_yes hq309 rfl rfl rfl rfl hb286) rfl rfl fun a311 hq311 => ?_; clear hq309
  refine wq_val hq311 (r_lde (s := es) (i := q.toNat) (v := .int .i64 ((nth es.l q.toNat).op)) ti_3 rfl rfl rfl (fun w h => (h.at 7 rfl)) (show q.toNat < es.l.length from (by omega)) (Nat.le_of_ble_eq_true rfl) rfl) (wanted_yes hq311 rfl rfl rfl rfl hb286) rfl rfl fun a313 hq313 => ?_; clear hq311
  refine wq_val hq313 (r_move rfl rfl) (wanted_yes hq313 rfl rfl rfl rfl hb286) rfl rfl fun a315 hq315 => ?_; clear hq313
  refine wq_val hq315 (r_move rfl rfl) (wanted_yes hq315 rfl rfl rfl rfl hb286) rfl rfl fun a317 hq317 => ?_; clear hq315
  refine wq_val hq317 (r_addI (p := q) (q := 1) rfl rfl rfl (show -9223372036854775808 ≤ q + 1 ∧ q + 1 < 9223372036854775808 from (by omega))) (wanted_yes hq317 rfl rfl rfl rfl hb286) rfl rfl fun a319 hq319 => ?_; clear hq317
  refine wq_val hq319 (r_ixI (s := es) (q := q + 1) sl_37 ti_36 rfl rfl rfl (fun w h => (h.at 7 rfl)) (show 0 ≤ q + 1 ∧ q + 1 < es.l.length from (by omega))) (wanted_yes hq319 rfl rfl rfl rfl hb286) rfl rfl fun a321 hq321 => ?_; clear hq319
  refine wq_val hq321 (r_fieldE (r := 0) fl_36_0 rfl rfl rfl) (wanted_yes hq321 rfl rfl rfl rfl hb286) rfl rfl fun a323 hq323 => ?_; clear hq321
  refine wq_val hq323 (r_lde (s := es) (i := (q + 1).toNat) (v := .int .i64 ((nth es.l ((q + 1).toNat)).op)) ti_3 rfl rfl rfl (fun w h => (h.at 7 rfl)) (show (q + 1).toNat < es.l.length from (by omega)) (Nat.le_of_ble_eq_true rfl) rfl) (wanted_yes hq323 rfl rfl rfl rfl hb286) rfl rfl fun a325 hq325 => ?_; clear hq323
  refine wq_val hq325 (r_eqlI (p := (nth es.l q.toNat).op) (q := (nth es.l ((q + 1).toNat)).op) rfl rfl rfl) (wanted_yes hq325 rfl rfl rfl rfl hb286) rfl rfl fun a327 hq327 => ?_; clear hq325
  refine wq_val hq327 (r_pickF rfl rfl hb286 rfl) (wanted_none rfl _) rfl rfl fun a328 hq328 => ?_; clear hq327
  refine wpQuiet_nil (hZ248 _ fun w329 hw329 => ?_)
  have h329 : St 142 (fun _ => False) W a328 w329 _ _ := ⟨hq328, hw329⟩
  clear hq328 hw329 h245
  refine hK247 _ _ ?_
  have h330 : St 142 (fun _ => False) W a328 w329 [(0, ws.v), (1, es.v), (2, .int .i64 q), (7, .bool (mayB ws.l es.l)), (11, .pointer (some ⟨b81, 0, none⟩)), (108, .bool (decide ((nth es.l q.toNat).op = (nth es.l ((q + 1).toNat)).op)))] [.blk b81 31 [.int .i64 0, .int .i64 0, .int .i64 0], .own 36 (⟨v29, [(⟨0, 0, 1, 7⟩ : Ins)]⟩ : Ls Ins), .own 3 (⟨v27, [7]⟩ : Ls Int), .blk b15 31 [.int .i64 0, .int .i64 0, .int .i64 0], .own 36 (⟨v10, [(⟨0, 0, 2, 1⟩ : Ins), (⟨0, 1, 1, 0⟩ : Ins), (⟨1, 1, 2, 1⟩ : Ins), (⟨1, 0, 1, 0⟩ : Ins)]⟩ : Ls Ins), .own 3 (⟨v5, [0, 0]⟩ : Ls Int), .at_ ws, .at_ es] := h329.nrm ⟨rfl, rfl, rfl, rfl, rfl, rfl, trivial⟩ [0, 1, 2, 3, 4, 5, 6, 7] (by decide) ⟨rfl, rfl, rfl, rfl, rfl, rfl, rfl, rfl, trivial⟩
  clear h329
  refine x_cond h330 rfl (fun hb331 => ?_) (fun hb331 => ?_)
  ·
   have hp331 : (nth es.l q.toNat).op = (nth es.l ((q + 1).toNat)).op := of_decide_eq_true hb331
   refine wp_seq_k fun K332 hK332 => wp_region_lit ?_
   refine wms 1 h330 rfl fun a333 h333 => ?_; clear h330
   refine wpList_nil (hK332 _ _ ?_)
   refine wp_ret ?_
   try simp only [Exit.then, Exit.inBlock]
   refine x_ret1 (fn := Try.f6) (t := 6) rfl h333 rfl ?_
   exact ⟨rfl, (h333.sh.sel [] (by decide) trivial)⟩
  have hp331 : ¬ ((nth es.l q.toNat).op = (nth es.l ((q + 1).toNat)).op) := of_decide_eq_false hb331
  refine wp_skip ?_
  refine hK246 _ _ ?_
  refine wp_seq_k fun K334 hK334 => wp_region_lit ?_
  refine wl_ex (x_lit0 (α := Ins) h330 sl_37 ti_36 rfl rfl rfl) (wanted_none rfl _) ?_
  rintro a335 w335 ⟨v335, h335⟩; clear h330
  refine wms 1 h335 rfl fun a336 h336 => ?_; clear h335
  refine wl_ex (x_app (r := 0) (rm := 8) (s := (⟨v335, []⟩ : Ls Ins)) (m := es) h336 sl_37 ti_36 rfl rfl rfl rfl rfl rfl rfl (fun w h => (h.at 8 rfl)) (fun b hb => .inr hb) (fun q hq b hb => .inr ⟨q, hq, hb⟩) rfl rfl rfl inferInstance (show (([]).length + es.l.length) * 32 ≤ 140737488355328 ∧ ([]).length + es.l.length ≤ 140737488355328 from (by first | omega | (simp only [lens9]; omega))) rfl rfl) (wanted_none rfl _) ?_
  rintro a337 w337 ⟨v337, h337⟩; clear h336
  refine wms 1 h337 rfl fun a338 h338 => ?_; clear h337
  refine wpList_nil (hK334 _ _ ?_)
  refine wp_seq_k fun K339 hK339 => wp_region_lit ?_
  refine wms 4 h338 rfl fun a340 h340 => ?_; clear h338
  refine wv h340 (r_addI (p := q) (q := 1) rfl rfl rfl (show -9223372036854775808 ≤ q + 1 ∧ q + 1 < 9223372036854775808 from (by omega))) rfl rfl fun a341 h341 => ?_; clear h340
  refine wv h341 (r_ixI (s := es) (q := q + 1) sl_37 ti_36 rfl rfl rfl (fun w h => (h.at 8 rfl)) (show 0 ≤ q + 1 ∧ q + 1 < es.l.length from (by omega))) rfl rfl fun a342 h342 => ?_; clear h341
  refine wv h342 (r_ldew (s := es) (i := (q + 1).toNat) (vs := [.int .i64 ((nth es.l ((q + 1).toNat)).op), .int .i64 ((nth es.l ((q + 1).toNat)).a), .int .i64 ((nth es.l ((q + 1).toNat)).b), .int .i64 ((nth es.l ((q + 1).toNat)).c)]) ti_36 rfl rfl rfl (fun w h => (h.at 8 rfl)) (show (q + 1).toNat < es.l.length from (by omega)) (Nat.le_of_ble_eq_true rfl) rfl) rfl rfl fun a343 h343 => ?_; clear h342
  refine wv h343 (r_ixI (s := (⟨v337, es.l⟩ : Ls Ins)) (q := q) sl_37 ti_36 rfl rfl rfl (fun w h => (h.own 0 rfl)) (show 0 ≤ q ∧ q < es.l.length from (by omega))) rfl rfl fun a344 h344 => ?_; clear h343
  refine wl_ex (x_stewI (r := 0) (i := q.toNat) (s := (⟨v337, es.l⟩ : Ls Ins)) (x' := (nth es.l ((q + 1).toNat))) h344 ti_36 rfl rfl rfl rfl (show q.toNat < es.l.length from (by omega)) rfl) (wanted_none rfl _) ?_
  rintro a345 w345 h345
  clear h344
  refine wpList_nil (hK339 _ _ ?_)
  refine wp_seq_k fun K346 hK346 => wp_region_lit ?_
  refine wms 2 h345 rfl fun a347 h347 => ?_; clear h345
  refine wv h347 (r_addI (p := q) (q := 1) rfl rfl rfl (show -9223372036854775808 ≤ q + 1 ∧ q + 1 < 9223372036854775808 from (by omega))) rfl rfl fun a348 h348 => ?_; clear h347
  refine wms 2 h348 rfl fun a349 h349 => ?_; clear h348
  refine wv h349 (r_ixI (s := es) (q := q) sl_37 ti_36 rfl rfl rfl (fun w h => (h.at 8 rfl)) (show 0 ≤ q ∧ q < es.l.length from (by omega))) rfl rfl fun a350 h350 => ?_; clear h349
  refine wv h350 (r_ldew (s := es) (i := q.toNat) (vs := [.int .i64 ((nth es.l q.toNat).op), .int .i64 ((nth es.l q.toNat).a), .int .i64 ((nth es.l q.toNat).b), .int .i64 ((nth es.l q.toNat).c)]) ti_36 rfl rfl rfl (fun w h => (h.at 8 rfl)) (show q.toNat < es.l.length from (by omega)) (Nat.le_of_ble_eq_true rfl) rfl) rfl rfl fun a351 h351 => ?_; clear h350
  refine wv h351 (r_ixI (s := (⟨v337, es.l.set q.toNat (nth es.l ((q + 1).toNat))⟩ : Ls Ins)) (q := q + 1) sl_37 ti_36 rfl rfl rfl (fun w h => (h.own 0 rfl)) (show 0 ≤ q + 1 ∧ q + 1 < (es.l.set q.toNat (nth es.l ((q + 1).toNat))).length from (by first | omega | (simp only [lens9]; omega)))) rfl rfl fun a352 h352 => ?_; clear h351
  refine wl_ex (x_stewI (r := 0) (i := (q + 1).toNat) (s := (⟨v337, es.l.set q.toNat (nth es.l ((q + 1).toNat))⟩ : Ls Ins)) (x' := (nth es.l q.toNat)) h352 ti_36 rfl rfl rfl rfl (show (q + 1).toNat < (es.l.set q.toNat (nth es.l ((q + 1).toNat))).length from (by first | omega | (simp only [lens9]; omega))) rfl) (wanted_none rfl _) ?_
  rintro a353 w353 h353
  clear h352
  refine wpList_nil (hK346 _ _ ?_)
  refine wp_seq_k fun K354 hK354 => wp_region_lit ?_
  refine wms 2 h353 rfl fun a355 h355 => ?_; clear h353
  refine wl_ex (x_call h355 bd_21 rfl rfl rfl rfl rfl (may_k ws (⟨v337, (es.l.set q.toNat (nth es.l ((q + 1).toNat))).set ((q + 1).toNat) (nth es.l q.toNat)⟩ : Ls Ins) _ (h355.sh.at 7 rfl) (h355.sh.own 0 rfl) (by first | exact swap_ok2 hok (by omega) (by omega)))) (wanted_none rfl _) ?_
  rintro a356 w356 ⟨_, ⟨rfl, hs356⟩, hf356⟩
  have h356 : St 142 (fun _ => False) W a356 w356 _ _ := ⟨hf356, h355.sh.call0 hs356⟩
  clear hf356 hs356
  clear h355
  refine wms 1 h356 rfl fun a357 h357 => ?_; clear h356
  refine wv h357 (r_extract rfl rfl rfl) rfl rfl fun a358 h358 => ?_; clear h357
  refine wv h358 (r_extract rfl rfl rfl) rfl rfl fun a359 h359 => ?_; clear h358
  refine wms 1 h359 rfl fun a360 h360 => ?_; clear h359
  refine wl_ex (x_stb (i := 1) (vs := [.int .i64 0, .int .i64 0, .int .i64 0]) (cs' := [.int .i64 0, .int .i64 0, .int .i64 0]) h360 ti_31 rfl rfl rfl rfl rfl rfl rfl (allOne_cons rfl (allOne_cons rfl (allOne_cons rfl allOne_nil))) (Nat.le_of_ble_eq_true rfl) rfl) (wanted_none rfl _) ?_
  rintro a361 w361 h361
  clear h360
  refine wpList_nil (hK354 _ _ ?_)
  have h362 : St 142 (fun _ => False) W a361 w361 [(7, .bool (mayB ws.l es.l)), (11, .pointer (some ⟨b81, 0, none⟩)), (13, .bool (mayB ws.l ((es.l.set q.toNat (nth es.l ((q + 1).toNat))).set ((q + 1).toNat) (nth es.l q.toNat))))] [.own 36 (⟨v337, (es.l.set q.toNat (nth es.l ((q + 1).toNat))).set ((q + 1).toNat) (nth es.l q.toNat)⟩ : Ls Ins), .blk b81 31 [.int .i64 0, .int .i64 0, .int .i64 0], .own 36 (⟨v29, [(⟨0, 0, 1, 7⟩ : Ins)]⟩ : Ls Ins), .own 3 (⟨v27, [7]⟩ : Ls Int), .blk b15 31 [.int .i64 0, .int .i64 0, .int .i64 0], .own 36 (⟨v10, [(⟨0, 0, 2, 1⟩ : Ins), (⟨0, 1, 1, 0⟩ : Ins), (⟨1, 1, 2, 1⟩ : Ins), (⟨1, 0, 1, 0⟩ : Ins)]⟩ : Ls Ins), .own 3 (⟨v5, [0, 0]⟩ : Ls Int), .at_ ws, .at_ es] := h361.nrm ⟨rfl, rfl, rfl, trivial⟩ [0, 1, 2, 3, 4, 5, 6, 7, 8] (by decide) ⟨rfl, rfl, rfl, rfl, rfl, rfl, rfl, rfl, rfl, trivial⟩
  clear h361
  refine wp_seq_k fun K363 hK363 => wp_region_lit ?_
  refine wv h362 (r_fieldB (r := 0) fl_31_0 rfl rfl rfl) rfl rfl fun a364 h364 => ?_; clear h362
  refine wv h364 (r_ldb (i := 1) ti_22 rfl rfl rfl rfl) rfl rfl fun a365 h365 => ?_; clear h364
  refine wv h365 (r_eqlN (p := 0) (q := 0) rfl rfl rfl) rfl rfl fun a366 h366 => ?_; clear h365
  refine wms 1 h366 rfl fun a367 h367 => ?_; clear h366
  refine wl_val h367 (r_move rfl rfl) (wanted_yes h367.fr rfl rfl rfl rfl (by decide)) rfl rfl fun a368 h368 => ?_; clear h367
  refine wl_val h368 (r_move rfl rfl) (wanted_yes h368.fr rfl rfl rfl rfl (by decide)) rfl rfl fun a369 h369 => ?_; clear h368
  refine wl_val h369 (r_eqBB rfl rfl rfl (by kernel_rfl)) (wanted_yes h369.fr rfl rfl rfl rfl (by decide)) rfl rfl fun a370 h370 => ?_; clear h369
  refine wv h370 (r_pickT rfl rfl (by decide) rfl) rfl rfl fun a371 h371 => ?_; clear h370
  refine wms 1 h371 rfl fun a372 h372 => ?_; clear h371
  refine wpList_nil (hK363 _ _ ?_)
  refine wp_ret ?_
  try simp only [Exit.then, Exit.inBlock]
  refine x_ret1 (fn := Try.f6) (t := 6) rfl h372 rfl ?_
  refine ⟨?_, (h372.sh.sel [] (by decide) trivial)⟩
  congr 1
  rw [beq_iff_eq]
  exact may_swap2 (by omega) (by omega) (by assumption)
 refine wl_skip h91 (wanted_no h91.fr rfl rfl rfl rfl hb92) rfl rfl fun a373 h373 => ?_; clear h91
 refine wl_skip h373 (wanted_no h373.fr rfl rfl rfl rfl hb92) rfl rfl fun a374 h374 => ?_; clear h373
 refine wl_val h374 (r_pickF rfl rfl hb92 rfl) (wanted_yes h374.fr rfl rfl rfl rfl (by decide)) rfl rfl fun a375 h375 => ?_; clear h374
 refine wl_val h375 (r_move rfl rfl) (wanted_yes h375.fr rfl rfl rfl rfl (by decide)) rfl rfl fun a376 h376 => ?_; clear h375
 refine wl_skip h376 (wanted_no h376.fr rfl rfl rfl rfl rfl) rfl rfl fun a377 h377 => ?_; clear h376
 refine wl_skip h377 (wanted_no h377.fr rfl rfl rfl rfl rfl) rfl rfl fun a378 h378 => ?_; clear h377
 refine wl_skip h378 (wanted_no h378.fr rfl rfl rfl rfl rfl) rfl rfl fun a379 h379 => ?_; clear h378
 refine wl_skip h379 (wanted_no h379.fr rfl rfl rfl rfl rfl) rfl rfl fun a380 h380 => ?_; clear h379
 refine wl_skip h380 (wanted_no h380.fr rfl rfl rfl rfl rfl) rfl rfl fun a381 h381 => ?_; clear h380
 refine wl_skip h381 (wanted_no h381.fr rfl rfl rfl rfl rfl) rfl rfl fun a382 h382 => ?_; clear h381
 refine wl_skip h382 (wanted_no h382.fr rfl rfl rfl rfl rfl) rfl rfl fun a383 h383 => ?_; clear h382
 refine wl_val h383 (r_pickF rfl rfl rfl rfl) (wanted_yes h383.fr rfl rfl rfl rfl (by decide)) rfl rfl fun a384 h384 => ?_; clear h383
 refine wv h384 (r_pickF rfl rfl (by decide) rfl) rfl rfl fun a385 h385 => ?_; clear h384
 refine wpList_nil (hK85 _ _ ?_)
 have h386 : St 142 (fun _ => False) W a385 w83 [(0, ws.v), (1, es.v), (2, .int .i64 q), (7, .bool (mayB ws.l es.l)), (9, .int .i64 ((es.l.length : Nat) : Int)), (11, .pointer (some ⟨b81, 0, none⟩)), (86, .bool false)] [.blk b81 31 [.int .i64 0, .int .i64 0, .int .i64 0], .own 36 (⟨v29, [(⟨0, 0, 1, 7⟩ : Ins)]⟩ : Ls Ins), .own 3 (⟨v27, [7]⟩ : Ls Int), .blk b15 31 [.int .i64 0, .int .i64 0, .int .i64 0], .own 36 (⟨v10, [(⟨0, 0, 2, 1⟩ : Ins), (⟨0, 1, 1, 0⟩ : Ins), (⟨1, 1, 2, 1⟩ : Ins), (⟨1, 0, 1, 0⟩ : Ins)]⟩ : Ls Ins), .own 3 (⟨v5, [0, 0]⟩ : Ls Int), .at_ ws, .at_ es] := h385.nrm ⟨rfl, rfl, rfl, rfl, rfl, rfl, rfl, trivial⟩ [0, 1, 2, 3, 4, 5, 6, 7] (by decide) ⟨rfl, rfl, rfl, rfl, rfl, rfl, rfl, rfl, trivial⟩
 clear h385
 refine x_condF h386 rfl rfl ?_
 refine wp_skip ?_
 refine hK84 _ _ ?_
 refine wp_seq_k fun K387 hK387 => ?_
 refine wp_seq_k fun K388 hK388 => ?_
 refine x_quiet (by kernel_rfl) (by kernel_rfl) h386 fun Z389 hZ389 => ?_
 have hq389 := h386.fr
 refine wq_val hq389 (r_move rfl rfl) (wanted_none rfl _) rfl rfl fun a390 hq390 => ?_; clear hq389
 refine wq_val hq390 (r_lssI (p := q) (q := 0) rfl rfl rfl) (wanted_none rfl _) rfl rfl fun a391 hq391 => ?_; clear hq390
 refine wq_val hq391 (r_move rfl rfl) (wanted_none rfl _) rfl rfl fun a392 hq392 => ?_; clear hq391
 rcases Bool.eq_false_or_eq_true (decide (q < 0)) with hb393 | hb393
 ·
  have hp393 : q < 0 := of_decide_eq_true hb393
  refine wq_skip hq392 (wanted_no hq392 rfl rfl rfl rfl hb393) rfl rfl fun a394 hq394 => ?_; clear hq392
  refine wq_skip hq394 (wanted_no hq394 rfl rfl rfl rfl hb393) rfl rfl fun a395 hq395 => ?_; clear hq394
  refine wq_skip hq395 (wanted_no hq395 rfl rfl rfl rfl hb393) rfl rfl fun a396 hq396 => ?_; clear hq395
  refine wq_skip hq396 (wanted_no hq396 rfl rfl rfl rfl hb393) rfl rfl fun a397 hq397 => ?_; clear hq396
  refine wq_val hq397 (r_pickT rfl rfl hb393 rfl) (wanted_none rfl _) rfl rfl fun a398 hq398 => ?_; clear hq397
  refine wq_val hq398 (r_move rfl rfl) (wanted_none rfl _) rfl rfl fun a399 hq399 => ?_; clear hq398
  refine wq_skip hq399 (wanted_no hq399 rfl rfl rfl rfl rfl) rfl rfl fun a400 hq400 => ?_; clear hq399
  refine wq_skip hq400 (wanted_no hq400 rfl rfl rfl rfl rfl) rfl rfl fun a401 hq401 => ?_; clear hq400
  refine wq_skip hq401 (wanted_no hq401 rfl rfl rfl rfl rfl) rfl rfl fun a402 hq402 => ?_; clear hq401
  refine wq_skip hq402 (wanted_no hq402 rfl rfl rfl rfl rfl) rfl rfl fun a403 hq403 => ?_; clear hq402
  refine wq_skip hq403 (wanted_no hq403 rfl rfl rfl rfl rfl) rfl rfl fun a404 hq404 => ?_; clear hq403
  refine wq_skip hq404 (wanted_no hq404 rfl rfl rfl rfl rfl) rfl rfl fun a405 hq405 => ?_; clear hq404
  refine wq_skip hq405 (wanted_no hq405 rfl rfl rfl rfl rfl) rfl rfl fun a406 hq406 => ?_; clear hq405
  refine wq_skip hq406 (wanted_no hq406 rfl rfl rfl rfl rfl) rfl rfl fun a407 hq407 => ?_; clear hq406
  refine wq_skip hq407 (wanted_no hq407 rfl rfl rfl rfl rfl) rfl rfl fun a408 hq408 => ?_; clear hq407
  refine wq_skip hq408 (wanted_no hq408 rfl rfl rfl rfl rfl) rfl rfl fun a409 hq409 => ?_; clear hq408
  refine wq_skip hq409 (wanted_no hq409 rfl rfl rfl rfl rfl) rfl rfl fun a410 hq410 => ?_; clear hq409
  refine wq_skip hq410 (wanted_no hq410 rfl rfl rfl rfl rfl) rfl rfl fun a411 hq411 => ?_; clear hq410
  refine wq_val hq411 (r_pickT rfl rfl rfl rfl) (wanted_none rfl _) rfl rfl fun a412 hq412 => ?_; clear hq411
  refine wpQuiet_nil (hZ389 _ fun w413 hw413 => ?_)
  have h413 : St 142 (fun _ => False) W a412 w413 _ _ := ⟨hq412, hw413⟩
  clear hq412 hw413 h386
  refine hK388 _ _ ?_
  have h414 : St 142 (fun _ => False) W a412 w413 [(0, ws.v), (1, es.v), (2, .int .i64 q), (7, .bool (mayB ws.l es.l)), (11, .pointer (some ⟨b81, 0, none⟩)), (108, .bool true)] [.blk b81 31 [.int .i64 0, .int .i64 0, .int .i64 0], .own 36 (⟨v29, [(⟨0, 0, 1, 7⟩ : Ins)]⟩ : Ls Ins), .own 3 (⟨v27, [7]⟩ : Ls Int), .blk b15 31 [.int .i64 0, .int .i64 0, .int .i64 0], .own 36 (⟨v10, [(⟨0, 0, 2, 1⟩ : Ins), (⟨0, 1, 1, 0⟩ : Ins), (⟨1, 1, 2, 1⟩ : Ins), (⟨1, 0, 1, 0⟩ : Ins)]⟩ : Ls Ins), .own 3 (⟨v5, [0, 0]⟩ : Ls Int), .at_ ws, .at_ es] := h413.nrm ⟨rfl, rfl, rfl, rfl, rfl, rfl, trivial⟩ [0, 1, 2, 3, 4, 5, 6, 7] (by decide) ⟨rfl, rfl, rfl, rfl, rfl, rfl, rfl, rfl, trivial⟩
  clear h413
  refine x_condT h414 rfl rfl ?_
  refine wp_seq_k fun K415 hK415 => wp_region_lit ?_
  refine wms 1 h414 rfl fun a416 h416 => ?_; clear h414
  refine wpList_nil (hK415 _ _ ?_)
  refine wp_ret ?_
  try simp only [Exit.then, Exit.inBlock]
  refine x_ret1 (fn := Try.f6) (t := 6) rfl h416 rfl ?_
  exact ⟨rfl, (h416.sh.sel [] (by decide) trivial)⟩
 have hp393 : ¬ (q < 0) := of_decide_eq_false hb393
 refine wq_val hq392 (r_move rfl rfl) (wanted_yes hq392 rfl rfl rfl rfl hb393) rfl rfl fun a418 hq418 => ?_; clear hq392
 refine wq_val hq418 (r_move rfl rfl) (wanted_yes hq418 rfl rfl rfl rfl hb393) rfl rfl fun a420 hq420 => ?_; clear hq418
 refine wq_val hq420 (r_subN (p := es.l.length) (q := 1) rfl rfl rfl (show 1 ≤ es.l.length ∧ es.l.length < 9223372036854775808 from (by omega))) (wanted_yes hq420 rfl rfl rfl rfl hb393) rfl rfl fun a422 hq422 => ?_; clear hq420
 refine wq_val hq422 (r_geqI (p := q) (q := ((es.l.length - 1 : Nat) : Int)) rfl rfl rfl) (wanted_yes hq422 rfl rfl rfl rfl hb393) rfl rfl fun a424 hq424 => ?_; clear hq422
 refine wq_val hq424 (r_pickF rfl rfl hb393 rfl) (wanted_none rfl _) rfl rfl fun a425 hq425 => ?_; clear hq424
 refine wq_val hq425 (r_move rfl rfl) (wanted_none rfl _) rfl rfl fun a426 hq426 => ?_; clear hq425
 rcases Bool.eq_false_or_eq_true (decide (((es.l.length - 1 : Nat) : Int) ≤ q)) with hb427 | hb427
 ·
  have hp427 : ((es.l.length - 1 : Nat) : Int) ≤ q := of_decide_eq_true hb427
  refine wq_skip hq426 (wanted_no hq426 rfl rfl rfl rfl hb427) rfl rfl fun a428 hq428 => ?_; clear hq426
  refine wq_skip hq428 (wanted_no hq428 rfl rfl rfl rfl hb427) rfl rfl fun a429 hq429 => ?_; clear hq428
  refine wq_skip hq429 (wanted_no hq429 rfl rfl rfl rfl hb427) rfl rfl fun a430 hq430 => ?_; clear hq429
  refine wq_skip hq430 (wanted_no hq430 rfl rfl rfl rfl hb427) rfl rfl fun a431 hq431 => ?_; clear hq430
  refine wq_skip hq431 (wanted_no hq431 rfl rfl rfl rfl hb427) rfl rfl fun a432 hq432 => ?_; clear hq431
  refine wq_skip hq432 (wanted_no hq432 rfl rfl rfl rfl hb427) rfl rfl fun a433 hq433 => ?_; clear hq432
  refine wq_skip hq433 (wanted_no hq433 rfl rfl rfl rfl hb427) rfl rfl fun a434 hq434 => ?_; clear hq433
  refine wq_skip hq434 (wanted_no hq434 rfl rfl rfl rfl hb427) rfl rfl fun a435 hq435 => ?_; clear hq434
  refine wq_skip hq435 (wanted_no hq435 rfl rfl rfl rfl hb427) rfl rfl fun a436 hq436 => ?_; clear hq435
  refine wq_skip hq436 (wanted_no hq436 rfl rfl rfl rfl hb427) rfl rfl fun a437 hq437 => ?_; clear hq436
  refine wq_skip hq437 (wanted_no hq437 rfl rfl rfl rfl hb427) rfl rfl fun a438 hq438 => ?_; clear hq437
  refine wq_skip hq438 (wanted_no hq438 rfl rfl rfl rfl hb427) rfl rfl fun a439 hq439 => ?_; clear hq438
  refine wq_val hq439 (r_pickT rfl rfl hb427 rfl) (wanted_none rfl _) rfl rfl fun a440 hq440 => ?_; clear hq439
  refine wpQuiet_nil (hZ389 _ fun w441 hw441 => ?_)
  have h441 : St 142 (fun _ => False) W a440 w441 _ _ := ⟨hq440, hw441⟩
  clear hq440 hw441 h386
  refine hK388 _ _ ?_
  have h442 : St 142 (fun _ => False) W a440 w441 [(0, ws.v), (1, es.v), (2, .int .i64 q), (7, .bool (mayB ws.l es.l)), (11, .pointer (some ⟨b81, 0, none⟩)), (108, .bool true)] [.blk b81 31 [.int .i64 0, .int .i64 0, .int .i64 0], .own 36 (⟨v29, [(⟨0, 0, 1, 7⟩ : Ins)]⟩ : Ls Ins), .own 3 (⟨v27, [7]⟩ : Ls Int), .blk b15 31 [.int .i64 0, .int .i64 0, .int .i64 0], .own 36 (⟨v10, [(⟨0, 0, 2, 1⟩ : Ins), (⟨0, 1, 1, 0⟩ : Ins), (⟨1, 1, 2, 1⟩ : Ins), (⟨1, 0, 1, 0⟩ : Ins)]⟩ : Ls Ins), .own 3 (⟨v5, [0, 0]⟩ : Ls Int), .at_ ws, .at_ es] := h441.nrm ⟨rfl, rfl, rfl, rfl, rfl, rfl, trivial⟩ [0, 1, 2, 3, 4, 5, 6, 7] (by decide) ⟨rfl, rfl, rfl, rfl, rfl, rfl, rfl, rfl, trivial⟩
  clear h441
  refine x_condT h442 rfl rfl ?_
  refine wp_seq_k fun K443 hK443 => wp_region_lit ?_
  refine wms 1 h442 rfl fun a444 h444 => ?_; clear h442
  refine wpList_nil (hK443 _ _ ?_)
  refine wp_ret ?_
  try simp only [Exit.then, Exit.inBlock]
  refine x_ret1 (fn := Try.f6) (t := 6) rfl h444 rfl ?_
  exact ⟨rfl, (h444.sh.sel [] (by decide) trivial)⟩
 have hp427 : ¬ (((es.l.length - 1 : Nat) : Int) ≤ q) := of_decide_eq_false hb427
 refine wq_val hq426 (r_move rfl rfl) (wanted_yes hq426 rfl rfl rfl rfl hb427) rfl rfl fun a446 hq446 => ?_; clear hq426
 refine wq_val hq446 (r_move rfl rfl) (wanted_yes hq446 rfl rfl rfl rfl hb427) rfl rfl fun a448 hq448 => ?_; clear hq446
 refine wq_val hq448 (r_ixI (s := es) (q := q) sl_37 ti_36 rfl rfl rfl (fun w h => (h.at 7 rfl)) (show 0 ≤ q ∧ q < es.l.length from (by omega))) (wanted_yes hq448 rfl rfl rfl rfl hb427) rfl rfl fun a450 hq450 => ?_; clear hq448
 refine wq_val hq450 (r_fieldE (r := 0) fl_36_0 rfl rfl rfl) (wanted_yes hq450 rfl rfl rfl rfl hb427) rfl rfl fun a452 hq452 => ?_; clear hq450
 refine wq_val hq452 (r_lde (s := es) (i := q.toNat) (v := .int .i64 ((nth es.l q.toNat).op)) ti_3 rfl rfl rfl (fun w h => (h.at 7 rfl)) (show q.toNat < es.l.length from (by omega)) (Nat.le_of_ble_eq_true rfl) rfl) (wanted_yes hq452 rfl rfl rfl rfl hb427) rfl rfl fun a454 hq454 => ?_; clear hq452
 refine wq_val hq454 (r_move rfl rfl) (wanted_yes hq454 rfl rfl rfl rfl hb427) rfl rfl fun a456 hq456 => ?_; clear hq454
 refine wq_val hq456 (r_move rfl rfl) (wanted_yes hq456 rfl rfl rfl rfl hb427) rfl rfl fun a458 hq458 => ?_; clear hq456
 refine wq_val hq458 (r_addI (p := q) (q := 1) rfl rfl rfl (show -9223372036854775808 ≤ q + 1 ∧ q + 1 < 9223372036854775808 from (by omega))) (wanted_yes hq458 rfl rfl rfl rfl hb427) rfl rfl fun a460 hq460 => ?_; clear hq458
 refine wq_val hq460 (r_ixI (s := es) (q := q + 1) sl_37 ti_36 rfl rfl rfl (fun w h => (h.at 7 rfl)) (show 0 ≤ q + 1 ∧ q + 1 < es.l.length from (by omega))) (wanted_yes hq460 rfl rfl rfl rfl hb427) rfl rfl fun a462 hq462 => ?_; clear hq460
 refine wq_val hq462 (r_fieldE (r := 0) fl_36_0 rfl rfl rfl) (wanted_yes hq462 rfl rfl rfl rfl hb427) rfl rfl fun a464 hq464 => ?_; clear hq462
 refine wq_val hq464 (r_lde (s := es) (i := (q + 1).toNat) (v := .int .i64 ((nth es.l ((q + 1).toNat)).op)) ti_3 rfl rfl rfl (fun w h => (h.at 7 rfl)) (show (q + 1).toNat < es.l.length from (by omega)) (Nat.le_of_ble_eq_true rfl) rfl) (wanted_yes hq464 rfl rfl rfl rfl hb427) rfl rfl fun a466 hq466 => ?_; clear hq464
 refine wq_val hq466 (r_eqlI (p := (nth es.l q.toNat).op) (q := (nth es.l ((q + 1).toNat)).op) rfl rfl rfl) (wanted_yes hq466 rfl rfl rfl rfl hb427) rfl rfl fun a468 hq468 => ?_; clear hq466
 refine wq_val hq468 (r_pickF rfl rfl hb427 rfl) (wanted_none rfl _) rfl rfl fun a469 hq469 => ?_; clear hq468
 refine wpQuiet_nil (hZ389 _ fun w470 hw470 => ?_)
 have h470 : St 142 (fun _ => False) W a469 w470 _ _ := ⟨hq469, hw470⟩
 clear hq469 hw470 h386
 refine hK388 _ _ ?_
 have h471 : St 142 (fun _ => False) W a469 w470 [(0, ws.v), (1, es.v), (2, .int .i64 q), (7, .bool (mayB ws.l es.l)), (11, .pointer (some ⟨b81, 0, none⟩)), (108, .bool (decide ((nth es.l q.toNat).op = (nth es.l ((q + 1).toNat)).op)))] [.blk b81 31 [.int .i64 0, .int .i64 0, .int .i64 0], .own 36 (⟨v29, [(⟨0, 0, 1, 7⟩ : Ins)]⟩ : Ls Ins), .own 3 (⟨v27, [7]⟩ : Ls Int), .blk b15 31 [.int .i64 0, .int .i64 0, .int .i64 0], .own 36 (⟨v10, [(⟨0, 0, 2, 1⟩ : Ins), (⟨0, 1, 1, 0⟩ : Ins), (⟨1, 1, 2, 1⟩ : Ins), (⟨1, 0, 1, 0⟩ : Ins)]⟩ : Ls Ins), .own 3 (⟨v5, [0, 0]⟩ : Ls Int), .at_ ws, .at_ es] := h470.nrm ⟨rfl, rfl, rfl, rfl, rfl, rfl, trivial⟩ [0, 1, 2, 3, 4, 5, 6, 7] (by decide) ⟨rfl, rfl, rfl, rfl, rfl, rfl, rfl, rfl, trivial⟩
 clear h470
 refine x_cond h471 rfl (fun hb472 => ?_) (fun hb472 => ?_)
 ·
  have hp472 : (nth es.l q.toNat).op = (nth es.l ((q + 1).toNat)).op := of_decide_eq_true hb472
  refine wp_seq_k fun K473 hK473 => wp_region_lit ?_
  refine wms 1 h471 rfl fun a474 h474 => ?_; clear h471
  refine wpList_nil (hK473 _ _ ?_)
  refine wp_ret ?_
  try simp only [Exit.then, Exit.inBlock]
  refine x_ret1 (fn := Try.f6) (t := 6) rfl h474 rfl ?_
  exact ⟨rfl, (h474.sh.sel [] (by decide) trivial)⟩
 have hp472 : ¬ ((nth es.l q.toNat).op = (nth es.l ((q + 1).toNat)).op) := of_decide_eq_false hb472
 refine wp_skip ?_
 refine hK387 _ _ ?_
 refine wp_seq_k fun K475 hK475 => wp_region_lit ?_
 refine wl_ex (x_lit0 (α := Ins) h471 sl_37 ti_36 rfl rfl rfl) (wanted_none rfl _) ?_
 rintro a476 w476 ⟨v476, h476⟩; clear h471
 refine wms 1 h476 rfl fun a477 h477 => ?_; clear h476
 refine wl_ex (x_app (r := 0) (rm := 8) (s := (⟨v476, []⟩ : Ls Ins)) (m := es) h477 sl_37 ti_36 rfl rfl rfl rfl rfl rfl rfl (fun w h => (h.at 8 rfl)) (fun b hb => .inr hb) (fun q hq b hb => .inr ⟨q, hq, hb⟩) rfl rfl rfl inferInstance (show (([]).length + es.l.length) * 32 ≤ 140737488355328 ∧ ([]).length + es.l.length ≤ 140737488355328 from (by first | omega | (simp only [lens9]; omega))) rfl rfl) (wanted_none rfl _) ?_
 rintro a478 w478 ⟨v478, h478⟩; clear h477
 refine wms 1 h478 rfl fun a479 h479 => ?_; clear h478
 refine wpList_nil (hK475 _ _ ?_)
 refine wp_seq_k fun K480 hK480 => wp_region_lit ?_
 refine wms 4 h479 rfl fun a481 h481 => ?_; clear h479
 refine wv h481 (r_addI (p := q) (q := 1) rfl rfl rfl (show -9223372036854775808 ≤ q + 1 ∧ q + 1 < 9223372036854775808 from (by omega))) rfl rfl fun a482 h482 => ?_; clear h481
 refine wv h482 (r_ixI (s := es) (q := q + 1) sl_37 ti_36 rfl rfl rfl (fun w h => (h.at 8 rfl)) (show 0 ≤ q + 1 ∧ q + 1 < es.l.length from (by omega))) rfl rfl fun a483 h483 => ?_; clear h482
 refine wv h483 (r_ldew (s := es) (i := (q + 1).toNat) (vs := [.int .i64 ((nth es.l ((q + 1).toNat)).op), .int .i64 ((nth es.l ((q + 1).toNat)).a), .int .i64 ((nth es.l ((q + 1).toNat)).b), .int .i64 ((nth es.l ((q + 1).toNat)).c)]) ti_36 rfl rfl rfl (fun w h => (h.at 8 rfl)) (show (q + 1).toNat < es.l.length from (by omega)) (Nat.le_of_ble_eq_true rfl) rfl) rfl rfl fun a484 h484 => ?_; clear h483
 refine wv h484 (r_ixI (s := (⟨v478, es.l⟩ : Ls Ins)) (q := q) sl_37 ti_36 rfl rfl rfl (fun w h => (h.own 0 rfl)) (show 0 ≤ q ∧ q < es.l.length from (by omega))) rfl rfl fun a485 h485 => ?_; clear h484
 refine wl_ex (x_stewI (r := 0) (i := q.toNat) (s := (⟨v478, es.l⟩ : Ls Ins)) (x' := (nth es.l ((q + 1).toNat))) h485 ti_36 rfl rfl rfl rfl (show q.toNat < es.l.length from (by omega)) rfl) (wanted_none rfl _) ?_
 rintro a486 w486 h486
 clear h485
 refine wpList_nil (hK480 _ _ ?_)
 refine wp_seq_k fun K487 hK487 => wp_region_lit ?_
 refine wms 2 h486 rfl fun a488 h488 => ?_; clear h486
 refine wv h488 (r_addI (p := q) (q := 1) rfl rfl rfl (show -9223372036854775808 ≤ q + 1 ∧ q + 1 < 9223372036854775808 from (by omega))) rfl rfl fun a489 h489 => ?_; clear h488
 refine wms 2 h489 rfl fun a490 h490 => ?_; clear h489
 refine wv h490 (r_ixI (s := es) (q := q) sl_37 ti_36 rfl rfl rfl (fun w h => (h.at 8 rfl)) (show 0 ≤ q ∧ q < es.l.length from (by omega))) rfl rfl fun a491 h491 => ?_; clear h490
 refine wv h491 (r_ldew (s := es) (i := q.toNat) (vs := [.int .i64 ((nth es.l q.toNat).op), .int .i64 ((nth es.l q.toNat).a), .int .i64 ((nth es.l q.toNat).b), .int .i64 ((nth es.l q.toNat).c)]) ti_36 rfl rfl rfl (fun w h => (h.at 8 rfl)) (show q.toNat < es.l.length from (by omega)) (Nat.le_of_ble_eq_true rfl) rfl) rfl rfl fun a492 h492 => ?_; clear h491
 refine wv h492 (r_ixI (s := (⟨v478, es.l.set q.toNat (nth es.l ((q + 1).toNat))⟩ : Ls Ins)) (q := q + 1) sl_37 ti_36 rfl rfl rfl (fun w h => (h.own 0 rfl)) (show 0 ≤ q + 1 ∧ q + 1 < (es.l.set q.toNat (nth es.l ((q + 1).toNat))).length from (by first | omega | (simp only [lens9]; omega)))) rfl rfl fun a493 h493 => ?_; clear h492
 refine wl_ex (x_stewI (r := 0) (i := (q + 1).toNat) (s := (⟨v478, es.l.set q.toNat (nth es.l ((q + 1).toNat))⟩ : Ls Ins)) (x' := (nth es.l q.toNat)) h493 ti_36 rfl rfl rfl rfl (show (q + 1).toNat < (es.l.set q.toNat (nth es.l ((q + 1).toNat))).length from (by first | omega | (simp only [lens9]; omega))) rfl) (wanted_none rfl _) ?_
 rintro a494 w494 h494
 clear h493
 refine wpList_nil (hK487 _ _ ?_)
 refine wp_seq_k fun K495 hK495 => wp_region_lit ?_
 refine wms 2 h494 rfl fun a496 h496 => ?_; clear h494
 refine wl_ex (x_call h496 bd_21 rfl rfl rfl rfl rfl (may_k ws (⟨v478, (es.l.set q.toNat (nth es.l ((q + 1).toNat))).set ((q + 1).toNat) (nth es.l q.toNat)⟩ : Ls Ins) _ (h496.sh.at 7 rfl) (h496.sh.own 0 rfl) (by first | exact swap_ok2 hok (by omega) (by omega)))) (wanted_none rfl _) ?_
 rintro a497 w497 ⟨_, ⟨rfl, hs497⟩, hf497⟩
 have h497 : St 142 (fun _ => False) W a497 w497 _ _ := ⟨hf497, h496.sh.call0 hs497⟩
 clear hf497 hs497
 clear h496
 refine wms 1 h497 rfl fun a498 h498 => ?_; clear h497
 refine wv h498 (r_extract rfl rfl rfl) rfl rfl fun a499 h499 => ?_; clear h498
 refine wv h499 (r_extract rfl rfl rfl) rfl rfl fun a500 h500 => ?_; clear h499
 refine wms 1 h500 rfl fun a501 h501 => ?_; clear h500
 refine wl_ex (x_stb (i := 1) (vs := [.int .i64 0, .int .i64 0, .int .i64 0]) (cs' := [.int .i64 0, .int .i64 0, .int .i64 0]) h501 ti_31 rfl rfl rfl rfl rfl rfl rfl (allOne_cons rfl (allOne_cons rfl (allOne_cons rfl allOne_nil))) (Nat.le_of_ble_eq_true rfl) rfl) (wanted_none rfl _) ?_
 rintro a502 w502 h502
 clear h501
 refine wpList_nil (hK495 _ _ ?_)
 have h503 : St 142 (fun _ => False) W a502 w502 [(7, .bool (mayB ws.l es.l)), (11, .pointer (some ⟨b81, 0, none⟩)), (13, .bool (mayB ws.l ((es.l.set q.toNat (nth es.l ((q + 1).toNat))).set ((q + 1).toNat) (nth es.l q.toNat))))] [.own 36 (⟨v478, (es.l.set q.toNat (nth es.l ((q + 1).toNat))).set ((q + 1).toNat) (nth es.l q.toNat)⟩ : Ls Ins), .blk b81 31 [.int .i64 0, .int .i64 0, .int .i64 0], .own 36 (⟨v29, [(⟨0, 0, 1, 7⟩ : Ins)]⟩ : Ls Ins), .own 3 (⟨v27, [7]⟩ : Ls Int), .blk b15 31 [.int .i64 0, .int .i64 0, .int .i64 0], .own 36 (⟨v10, [(⟨0, 0, 2, 1⟩ : Ins), (⟨0, 1, 1, 0⟩ : Ins), (⟨1, 1, 2, 1⟩ : Ins), (⟨1, 0, 1, 0⟩ : Ins)]⟩ : Ls Ins), .own 3 (⟨v5, [0, 0]⟩ : Ls Int), .at_ ws, .at_ es] := h502.nrm ⟨rfl, rfl, rfl, trivial⟩ [0, 1, 2, 3, 4, 5, 6, 7, 8] (by decide) ⟨rfl, rfl, rfl, rfl, rfl, rfl, rfl, rfl, rfl, trivial⟩
 clear h502
 refine wp_seq_k fun K504 hK504 => wp_region_lit ?_
 refine wv h503 (r_fieldB (r := 0) fl_31_0 rfl rfl rfl) rfl rfl fun a505 h505 => ?_; clear h503
 refine wv h505 (r_ldb (i := 1) ti_22 rfl rfl rfl rfl) rfl rfl fun a506 h506 => ?_; clear h505
 refine wv h506 (r_eqlN (p := 0) (q := 0) rfl rfl rfl) rfl rfl fun a507 h507 => ?_; clear h506
 refine wms 1 h507 rfl fun a508 h508 => ?_; clear h507
 refine wl_val h508 (r_move rfl rfl) (wanted_yes h508.fr rfl rfl rfl rfl (by decide)) rfl rfl fun a509 h509 => ?_; clear h508
 refine wl_val h509 (r_move rfl rfl) (wanted_yes h509.fr rfl rfl rfl rfl (by decide)) rfl rfl fun a510 h510 => ?_; clear h509
 refine wl_val h510 (r_eqBB rfl rfl rfl (by kernel_rfl)) (wanted_yes h510.fr rfl rfl rfl rfl (by decide)) rfl rfl fun a511 h511 => ?_; clear h510
 refine wv h511 (r_pickT rfl rfl (by decide) rfl) rfl rfl fun a512 h512 => ?_; clear h511
 refine wms 1 h512 rfl fun a513 h513 => ?_; clear h512
 refine wpList_nil (hK504 _ _ ?_)
 refine wp_ret ?_
 try simp only [Exit.then, Exit.inBlock]
 refine x_ret1 (fn := Try.f6) (t := 6) rfl h513 rfl ?_
 refine ⟨?_, (h513.sh.sel [] (by decide) trivial)⟩
 congr 1
 rw [beq_iff_eq]
 exact may_swap2 (by omega) (by omega) (by assumption)

theorem histFewer_any (ws : Ls Int) (es : Ls Ins) (q : Int) (W : World) (hw : ws.At W) (he : es.At W) : Rets Try.prog 6 [ws.v, es.v, .int .i64 q] W (fun v w' => v = .bool true ∧ Sh0 W w' []) := by
  by_cases hok : OkH ws.l es.l
  · exact histFewer_k ws es q W hw he hok
  · exact histFewer_b ws es q W hw he hok
end Go.Proofs.Ytanhbpofhebbaaa
