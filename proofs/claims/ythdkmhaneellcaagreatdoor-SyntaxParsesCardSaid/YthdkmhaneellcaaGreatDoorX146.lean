/-
  The lexer: all tokens of a text, or the first fault; what is thrown is caught.
-/
import Derived.Test.YthdkmhaneellcaaGreatDoorX145
import Derived.Test.YthdkmhaneellcaaGreatDoorQ3
import Derived.Test.YthdkmhaneellcaaGreatDoorS62
namespace Go.Proofs.YthdkmhaneellcaaGreatDoor
open Go.RowKit
set_option linter.unusedSimpArgs false
set_option linter.unusedVariables false
set_option maxRecDepth 100000
set_option maxHeartbeats 1000000

theorem scanC_p (K : Nat → Prop) (g1 g2 : Nat) (v0 : Value) (y0 y1 y2 : Int) (c : Int) (i : Nat) {u9 m9 : FrameMode}  (W : World) (hS : Sh K W W [.blk g1 42 [v0], .blk g2 25 [.int .i64 y0, .int .i64 y1, .int .i64 y2]]) (hm9 : Recv u9 (.iface 76 (.agg #[.int .i64 c, .int .i64 0, .int .i64 (i : Int)])) m9) :
    CallsD Tryz.prog 31 [.pointer (some ⟨g1, 0, none⟩), .pointer (some ⟨g2, 0, none⟩)].toArray u9 W (fun e u' w' => ∃ v, e = .returned v ∧ u' = m9 ∧ (Sh K W w' [.blk g1 42 [.slice none 0 0], .blk g2 25 [.int .i64 c, .int .i64 0, .int .i64 (i : Int)]])) := by
 refine genR hm9 Tryz.func31 Tryz.ntmps31 (hS : Sh K W W [.blk g1 42 [v0], .blk g2 25 [.int .i64 y0, .int .i64 y1, .int .i64 y2]]) rfl rfl rfl rfl rfl fun a10 h10 => gG h10<|gB<|sG (oV (r_eqIfN Tryz.underlying20 rfl rfl) rfl<|.nl)<|gcF rfl rfl<|sG (oV (r_asrtS Tryz.underlying76 rfl rfl) rfl<|oxt rfl<|oxt rfl<|.nl)<|gcT rfl rfl<|sK fun _ k13 => gal ti_76 rfl fun b14 => gsw 0 ti_76 rfl rfl rfl<|nK k13<|rC [2, 3] rfl<|pR [0, 1] rfl (ofB fl_76_0 rfl<|olw 0 ti_25 rfl rfl<|.nl) rfl<|pS (fun _ _ h_ => x_stb (i := 1) (vs := [(.slice none 0 0)]) (cs' := [(.slice none 0 0)]) h_ ti_42 rfl rfl rfl rfl rfl rfl rfl (allOne_cons rfl allOne_nil) (Nat.le_of_ble_eq_true rfl) rfl) rfl<|pR [0, 1] rfl (ofB fl_76_0 rfl<|olw 0 ti_25 rfl rfl<|.nl) rfl<|pS (fun _ _ h_ => x_stb (i := 2) (vs := [.int .i64 c, .int .i64 0, .int .i64 ((i : Nat) : Int)]) (cs' := [.int .i64 c, .int .i64 0, .int .i64 ((i : Nat) : Int)]) h_ ti_25 rfl rfl rfl rfl rfl rfl rfl (allOne_cons rfl (allOne_cons rfl (allOne_cons rfl allOne_nil))) (Nat.le_of_ble_eq_true rfl) rfl) rfl<|pE [] rfl (.nl) rfl<|fun a18 w18 h18 => ?_; clear h10
 try simp only [Exit.then, Exit.inBlock, if_true]
 refine x_end0 (fn := Tryz.f31) rfl h18 ?_
 exact (h18.sh.sel [1, 2] rfl)

theorem scanC_n (K : Nat → Prop) (g1 g2 : Nat) (v0 : Value) (y0 y1 y2 : Int) {u9 m9 : FrameMode}  (W : World) (hS : Sh K W W [.blk g1 42 [v0], .blk g2 25 [.int .i64 y0, .int .i64 y1, .int .i64 y2]]) (hm9 : Recv u9 .nilIface m9) :
    CallsD Tryz.prog 31 [.pointer (some ⟨g1, 0, none⟩), .pointer (some ⟨g2, 0, none⟩)].toArray u9 W (fun e u' w' => ∃ v, e = .returned v ∧ u' = m9 ∧ (Sh K W w' [.blk g1 42 [v0], .blk g2 25 [.int .i64 y0, .int .i64 y1, .int .i64 y2]])) := by
 refine genR hm9 Tryz.func31 Tryz.ntmps31 (hS : Sh K W W [.blk g1 42 [v0], .blk g2 25 [.int .i64 y0, .int .i64 y1, .int .i64 y2]]) rfl rfl rfl rfl rfl fun a10 h10 => gG h10<|gB<|sG (oV (r_eqNN Tryz.underlying20 rfl rfl) rfl<|.nl)<|gcT rfl rfl<|gL<|gRn (oM 1 rfl<|.nl)<|nN<|fun a12 w12 h12 => ?_; clear h10
 try simp only [Exit.then, Exit.inBlock, if_true]
 refine x_end0 (fn := Tryz.f31) rfl h12 ?_
 exact h12.sh

theorem scan_c (s : ByteArray) (W : World) :
    Rets Tryz.prog 15 [.string s] W (fun v w' => ∃ (u : Ls Tok) (c : Int) (i : Nat), v = .tuple #[u.v, .agg #[.int .i64 c, .int .i64 0, .int .i64 (i : Int)]] ∧ (u.l, c, i) = scanR s ∧ Sh0 W w' [.own 81 u]) := by
 refine genD Tryz.func15 Tryz.ntmps15 (Sh0.start W : Sh (fun _ => False) W W []) rfl fun a10 h10 => gG h10<|sK fun _ k11 => gal ti_42 rfl fun b12 => gal ti_25 rfl fun b13 => nK k11<|sK fun _ k14 => gRn (oV (r_makeFunc rfl rfl rfl) rfl<|.nl)<|fun a15 w15 h15 => wl_defer (us := []) (ws := [.pointer (some ⟨b12, 0, none⟩), .pointer (some ⟨b13, 0, none⟩)]) h15 rfl rfl rfl (wanted_none rfl _) ?_; clear h10
 letI D9 : Defs := ⟨[⟨.fn (.func 31) #[.pointer (some ⟨b12, 0, none⟩), .pointer (some ⟨b13, 0, none⟩)], #[]⟩]⟩
 intro a16 h16; clear h15
 refine gG h16<|nK k14<|gK fun _ k17 => sG (oM 1 rfl<|oV (r_lenStr (s := s) Tryz.underlying9 rfl rfl) rfl<|ogtN _ 4000 rfl<|.nl)<|?_; clear h16
 refine gcd rfl (fun hb19 hp19 => ?_) fun hb19 hp19 => ?_
 ·skip
  refine sK fun _ k20 => gRn (oV (r_build (cs := [.int .i64 1, .int .i64 0, .int .i64 0]) rfl rfl (by kernel_rfl)) rfl<|.nl)<|gst 1 ti_42 rfl rfl rfl<|gsw 0 ti_25 rfl rfl rfl<|nK k20<|gR<|uT<|fun a23 w23 h23 => ?_
  have h24 := h23.sel (L' := [_, _]) [1, 0] rfl
  have hy9 : Sh _ W w23 [.blk b12 42 [(.slice none 0 0)], .blk b13 25 [.int .i64 1, .int .i64 0, .int .i64 0]] := h24.sh.sel [0, 1] rfl
  refine leave_ret (us := []) (ws := [.pointer (some ⟨b12, 0, none⟩), .pointer (some ⟨b13, 0, none⟩)]) h23 bd_31 (scanC_n _ _ _ (.slice none 0 0) 1 0 0 w23 (hy9.passL (Lp := [.blk b12 42 [(.slice none 0 0)], .blk b13 25 [.int .i64 1, .int .i64 0, .int .i64 0]]) (Lr := [])) (.inl ⟨rfl, rfl, rfl⟩)) ?_
  rintro v9 w8 hs8 hf8
  have hz9 : Sh _ W w8 _ := h24.sh.backI (Lp := [.blk b12 42 [(.slice none 0 0)], .blk b13 25 [.int .i64 1, .int .i64 0, .int .i64 0]]) hs8
  refine ⟨_, res_cell2 (i := 0) (i2 := 1) ti_42 ti_25 rfl hf8 hz9 rfl rfl rfl rfl rfl, _, rfl, ⟨.slice none 0 0, []⟩, _, _, rfl, ?_, (hz9.nil _).sel [0] rfl⟩
  exact (scanR_big (by assumption)).symm
 have hsz : s.size ≤ 4000 := by omega
 refine gS<|hK k17<|sK fun _ k25 => gRn (oM 1 rfl<|oV (r_build (cs := [.string s, .int .i64 0]) rfl rfl (by kernel_rfl)) rfl<|.nl)<|gbx rfl rfl fun b26 => gRn (oM 1 rfl<|.nl)<|nK k25<|gK fun _ k27 => sK fun _ k28 => gRn (oM 1 rfl<|.nl)<|fun a29 w29 h29 => ?_
 have hp32 := h29.sh.passL (Lp := [_])
 refine wl_callP h29 bd_32 rfl rfl rfl rfl rfl (wanted_none rfl _) (blank_c _ _ _ 0 _ hp32 hsz (by omega)) ?_ ?_
 ·rintro x9 w9 ⟨rfl, hbad, k9, hs9⟩
  have hx9 := (h29.sh.backI (Lp := [_]) hs9)
  have hy9 : Sh _ W w9 [.blk b12 42 [(.slice none 0 0)], .blk b13 25 [.int .i64 0, .int .i64 0, .int .i64 0]] := hx9.sel [2, 1] rfl
  refine leave_pan (us := []) (ws := [.pointer (some ⟨b12, 0, none⟩), .pointer (some ⟨b13, 0, none⟩)]) h29.fr bd_31 (scanC_p _ _ _ (.slice none 0 0) 0 0 0 4 ((skipS s false 0).1) w9 (hy9.passL (Lp := [.blk b12 42 [(.slice none 0 0)], .blk b13 25 [.int .i64 0, .int .i64 0, .int .i64 0]]) (Lr := [])) (.inr ⟨rfl, rfl⟩)) ?_
  rintro v9 w8 hs8 hf8
  have hz9 : Sh _ W w8 _ := hy9.backI (Lp := [.blk b12 42 [(.slice none 0 0)], .blk b13 25 [.int .i64 0, .int .i64 0, .int .i64 0]]) (Lr := []) hs8
  refine ⟨_, res_cell2 (i := 0) (i2 := 1) ti_42 ti_25 rfl hf8 hz9 rfl rfl rfl rfl rfl, _, rfl, ⟨.slice none 0 0, []⟩, _, _, rfl, ?_, (hz9.nil _).sel [0] rfl⟩
  exact (scanR_no hsz (scan_bad hbad)).symm
 rintro a30 w30 ⟨_, ⟨rfl, hsb30, hs30⟩, hf30⟩
 have hge30 := skipS_ge (s := s) (note := false) (i := 0) (by omega)
 have h30 : St _ (fun _ => False) W a30 w30 _ [_, _, _] := ⟨hf30, h29.sh.backI (Lp := [_]) hs30⟩
 clear hf30 hs30 h29 hp32
 refine gG h30<|nK k28<|gB<|fun a35 w35 h35 => ?_; clear h30
 have h34 := h35.nil (α := Tok) 81
 clear h35
 refine x_loop (fun m a w => ∃ (f i0 k : Nat) (vl : Value) (ll : List Tok), (i0 ≤ k ∧ k ≤ s.size ∧ ll.length ≤ i0) ∧ (skipS s false i0 = (k, false)) ∧ (s.size - i0 < f) ∧ (scanF s f i0 ll = scanF s (s.size + 1) 0 []) ∧ St 31 (fun _ => False) W a w [(0, .string s), (2, .pointer (some ⟨b12, 0, none⟩)), (3, .pointer (some ⟨b13, 0, none⟩)), (4, .pointer (some ⟨b26, 0, none⟩))] [.blk b26 79 [.string s, .int .i64 ((k : Nat) : Int)], .blk b13 25 [.int .i64 0, .int .i64 0, .int .i64 0], .blk b12 42 [vl], .own 81 (⟨vl, ll⟩ : Ls Tok)] ∧ m = f) ⟨_, (s.size + 1), 0, (skipS s false 0).1, _, _, (by simp only [List.length_nil]; omega), (by exact Prod.ext rfl (by assumption)), (by omega), (rfl), h34.nrm ⟨rfl, rfl, rfl, rfl, trivial⟩ [1, 2, 3, 0] rfl, rfl⟩ ?_
 clear h34
 rintro m33 a33 w33 ⟨f, i0, k, vl, ll, hk, hsk, hf, hsc, h33, hm33⟩
 obtain ⟨f2, rfl⟩ : ∃ f2, f = f2 + 1 := ⟨f - 1, by omega⟩
 refine gG h33<|gK fun _ k36 => sG (oM 1 rfl<|onfl 0 fl_79_1 ti_3 rfl rfl<|oM 1 rfl<|oV (r_lenStr (s := s) Tryz.underlying9 rfl rfl) rfl<|oltN _ _ rfl<|.nl)<|?_; clear h33
 refine gcd rfl (fun hb38 hp38 => ?_) fun hb38 hp38 => ?_
 ·skip
  refine gS<|hK k36<|gK fun _ k39 => gB<|rC [2, 3, 4, 5] rfl<|pRx [0, 1] rfl (olB 2 ti_42 rfl rfl<|oM 1 rfl<|.nl) rfl<|fun a40 w40 h40 => ?_
  have hp42 := h40.sh.passL (Lp := [_])
  refine xP_call h40 bd_33 rfl rfl rfl rfl rfl (token_c _ _ _ k _ hp42 hsz (by assumption)) ?_ ?_
  ·rintro x9 w9 ⟨hone, rfl, k9, hs9⟩ a9 f9
   have hx9 := (h40.sh.backI (Lp := [_]) hs9)
   have hy9 : Sh _ W w9 [.blk b12 42 [vl], .blk b13 25 [.int .i64 0, .int .i64 0, .int .i64 0]] := hx9.sel [2, 1] rfl
   refine leave_pan (us := []) (ws := [.pointer (some ⟨b12, 0, none⟩), .pointer (some ⟨b13, 0, none⟩)]) f9 bd_31 (scanC_p _ _ _ vl 0 0 0 5 k w9 (hy9.passL (Lp := [.blk b12 42 [vl], .blk b13 25 [.int .i64 0, .int .i64 0, .int .i64 0]]) (Lr := [])) (.inr ⟨rfl, rfl⟩)) ?_
   rintro v9 w8 hs8 hf8
   have hz9 : Sh _ W w8 _ := hy9.backI (Lp := [.blk b12 42 [vl], .blk b13 25 [.int .i64 0, .int .i64 0, .int .i64 0]]) (Lr := []) hs8
   refine ⟨_, res_cell2 (i := 0) (i2 := 1) ti_42 ti_25 rfl hf8 hz9 rfl rfl rfl rfl rfl, _, rfl, ⟨.slice none 0 0, []⟩, _, _, rfl, ?_, (hz9.nil _).sel [0] rfl⟩
   exact (scanR_no hsz (hsc.symm.trans (scan_none hsk (by assumption) hone))).symm
  rintro a41 w41 ⟨_, ⟨t41, e41, hto41, rfl, hs41⟩, hf41⟩
  have hlt41 := one_lt (by assumption) hto41
  refine ⟨_, _, (⟨hf41, h40.sh.backI (Lp := [_]) hs41⟩ : St _ (fun _ => False) W a41 w41 _ [.blk b26 79 [.string s, .int .i64 ((e41 : Nat) : Int)], .blk b13 25 [.int .i64 0, .int .i64 0, .int .i64 0], .blk b12 42 [vl], .own 81 (⟨vl, ll⟩ : Ls Tok)]), okF_some rfl, ?_⟩; clear hf41 hs41 hp42 h40
  refine pR [0] rfl (olB 2 ti_42 rfl rfl<|.nl) rfl<|pX (fun _ _ h_ => x_lit (n := 1) (cs := [.int .i64 t41.k, .int .i64 t41.n, .int .i64 t41.a, .string t41.t]) ([t41] : List Tok) h_ sl_42 ti_81 rfl rfl rfl (by decide) rfl (by kernel_rfl) rfl (fun q hq w h => Flat.inner _ _) (fun q hq b hb => (Flat.on _ _ hb).elim) rfl rfl) rfl fun v43 => pR [0] rfl (olB 3 ti_42 rfl rfl<|.nl) rfl<|pX (fun _ _ h_ => x_app (r := 4) (rm := 0) (s := (⟨vl, ll⟩ : Ls Tok)) (m := (⟨v43, [t41]⟩ : Ls Tok)) h_ sl_42 ti_81 rfl rfl rfl rfl rfl rfl rfl (fun w h => (h.own 0 rfl)) (fun b hb => own_on (h_.sh.ok _ (List.mem_of_getElem? (i := 0) rfl)) hb) (fun q hq b hb => ⟨q, hq, hb⟩) rfl rfl rfl inferInstance (show (ll.length + ([t41]).length) * 40 ≤ 140737488355328 ∧ ll.length + ([t41]).length ≤ 140737488355328 from om9) rfl rfl) rfl fun v44 => pR [] rfl (.nl) rfl<|pS (fun _ _ h_ => x_stb (i := 3) (vs := [v44]) (cs' := [v44]) h_ ti_42 rfl rfl rfl rfl rfl (cells_oneL ((h_.sh.own 4 rfl)).one) rfl (allOne_cons ((h_.sh.own 4 rfl)).one allOne_nil) (Nat.le_of_ble_eq_true rfl) rfl) rfl<|pE [] rfl (.nl) rfl<|hK k39<|gL<|gRn (oM 1 rfl<|.nl)<|fun a46 w46 h46 => ?_
  have h49 := h46.sel (L' := [_, _, _, _, _]) [1, 0, 2, 3, 4] rfl
  have hp50 := h49.sh.passL (Lp := [_])
  refine wl_callP h49 bd_32 rfl rfl rfl rfl rfl (wanted_none rfl _) (blank_c _ _ _ e41 _ hp50 hsz (by omega)) ?_ ?_
  ·rintro x9 w9 ⟨rfl, hbad, k9, hs9⟩
   have hx9 := (h49.sh.backI (Lp := [_]) hs9)
   have hy9 : Sh _ W w9 [.blk b12 42 [v44], .blk b13 25 [.int .i64 0, .int .i64 0, .int .i64 0]] := hx9.sel [3, 2] rfl
   refine leave_pan (us := []) (ws := [.pointer (some ⟨b12, 0, none⟩), .pointer (some ⟨b13, 0, none⟩)]) h49.fr bd_31 (scanC_p _ _ _ v44 0 0 0 4 ((skipS s false e41).1) w9 (hy9.passL (Lp := [.blk b12 42 [v44], .blk b13 25 [.int .i64 0, .int .i64 0, .int .i64 0]]) (Lr := [])) (.inr ⟨rfl, rfl⟩)) ?_
   rintro v9 w8 hs8 hf8
   have hz9 : Sh _ W w8 _ := hy9.backI (Lp := [.blk b12 42 [v44], .blk b13 25 [.int .i64 0, .int .i64 0, .int .i64 0]]) (Lr := []) hs8
   refine ⟨_, res_cell2 (i := 0) (i2 := 1) ti_42 ti_25 rfl hf8 hz9 rfl rfl rfl rfl rfl, _, rfl, ⟨.slice none 0 0, []⟩, _, _, rfl, ?_, (hz9.nil _).sel [0] rfl⟩
   exact (scanR_no hsz (((scan_some hsk (by assumption) (by assumption)).symm.trans hsc).symm.trans (by obtain ⟨f3, rfl⟩ : ∃ f3, f2 = f3 + 1 := ⟨f2 - 1, by omega⟩; exact scan_bad hbad))).symm
  rintro a47 w47 ⟨_, ⟨rfl, hsb47, hs47⟩, hf47⟩
  have hge47 := skipS_ge (s := s) (note := false) (i := e41) (by omega)
  have h47 : St _ (fun _ => False) W a47 w47 _ [_, _, _, _, _] := ⟨hf47, h49.sh.backI (Lp := [_]) hs47⟩
  clear hf47 hs47 h49 hp50
  refine gG h47<|nN<|fun a51 w51 h51 => x_again ⟨_, ?_, f2, e41, (skipS s false e41).1, _, _, ?_, ?_, ?_, ?_, h51.nrm ⟨rfl, rfl, rfl, rfl, trivial⟩ [0, 2, 3, 4] rfl, rfl⟩; clear h47
  · rw [hm33]; first | omega | (simp only [lens9]; omega)
  · simp only [List.length_append, List.length_cons, List.length_nil]; omega
  · exact Prod.ext rfl (by assumption)
  · omega
  · exact (scan_some hsk (by assumption) (by assumption)).symm.trans hsc
 refine gX<|hK k27<|gK fun _ k52 => rC [2, 3] rfl<|pR [0, 1] rfl (olB 2 ti_42 rfl rfl<|olw 1 ti_25 rfl rfl<|.nl) rfl<|pS (fun _ _ h_ => x_stb (i := 2) (vs := [vl]) (cs' := [vl]) h_ ti_42 rfl rfl rfl rfl rfl (cells_oneL ((h_.sh.own 3 rfl)).one) rfl (allOne_cons ((h_.sh.own 3 rfl)).one allOne_nil) (Nat.le_of_ble_eq_true rfl) rfl) rfl<|pR [1] rfl (olw 1 ti_25 rfl rfl<|.nl) rfl<|pS (fun _ _ h_ => x_stb (i := 1) (vs := [.int .i64 0, .int .i64 0, .int .i64 0]) (cs' := [.int .i64 0, .int .i64 0, .int .i64 0]) h_ ti_25 rfl rfl rfl rfl rfl rfl rfl (allOne_cons rfl (allOne_cons rfl (allOne_cons rfl allOne_nil))) (Nat.le_of_ble_eq_true rfl) rfl) rfl<|pE [] rfl (.nl) rfl<|hK k52<|gR<|fun a55 w55 h55 => ?_
 have h56 := h55.sel (L' := [_, _, _, _]) [2, 1, 0, 3] rfl
 have hy9 : Sh _ W w55 [.blk b12 42 [vl], .blk b13 25 [.int .i64 0, .int .i64 0, .int .i64 0]] := h56.sh.sel [0, 1] rfl
 refine leave_ret (us := []) (ws := [.pointer (some ⟨b12, 0, none⟩), .pointer (some ⟨b13, 0, none⟩)]) h55 bd_31 (scanC_n _ _ _ vl 0 0 0 w55 (hy9.passL (Lp := [.blk b12 42 [vl], .blk b13 25 [.int .i64 0, .int .i64 0, .int .i64 0]]) (Lr := [])) (.inl ⟨rfl, rfl, rfl⟩)) ?_
 rintro v9 w8 hs8 hf8
 have hz9 : Sh _ W w8 _ := h56.sh.backI (Lp := [.blk b12 42 [vl], .blk b13 25 [.int .i64 0, .int .i64 0, .int .i64 0]]) hs8
 refine ⟨_, res_cell2 (i := 0) (i2 := 1) ti_42 ti_25 rfl hf8 hz9 rfl rfl rfl rfl rfl, _, rfl, ⟨vl, ll⟩, _, _, rfl, ?_, hz9.sel [3] rfl⟩
 exact (scanR_ok hsz (hsc.symm.trans (scan_end hsk (by omega)))).symm

end Go.Proofs.YthdkmhaneellcaaGreatDoor
