/-
  Contracts of functions of this program and of the references, each walked once.
-/
import Derived.Test.YtanhbpofhebbaaaX6
namespace Go.Proofs.Ytanhbpofhebbaaa
open Go.RowKit
set_option linter.unusedSimpArgs false
set_option linter.unusedVariables false

theorem ti_108 : tyI Try.prog 108 = some (false, 1, 8, [.nilFunc]) := by kernel_rfl

def nextsL (code : List Ins) (i : Nat) : List Int := if (nth code i).op = 14 then [(nth code i).a] else if (nth code i).op = 15 then [((i + 1 : Nat) : Int), (nth code i).b] else [((i + 1 : Nat) : Int)]
def fenB (b : Bool) (x : Ins) : List Ins := if b = true then [x, ⟨12, 0, 0, 0⟩] else [x]
def fenW (w : Nat → Bool) (i : Nat) (x : Ins) : List Ins := fenB (w i) x
theorem fenB_len (b : Bool) (x : Ins) : (fenB b x).length ≤ 2 := by unfold fenB; split <;> simp
theorem fenB_mem {b : Bool} {x y : Ins} (h : y ∈ fenB b x) : y = x ∨ y = ⟨12, 0, 0, 0⟩ := by
  unfold fenB at h
  split at h
  · simpa using h
  · exact .inl (by simpa using h)
theorem fenB_ok (w : Nat → Bool) (code : List Ins) (hj : JumpsOK code) : BecB (fenW w) code := by
  intro i hi k hk
  have hm := fenB_mem (nth_mem _ _ hk)
  have := hj i hi
  have e' : fenW w i (nth code i) = fenB (w i) (nth code i) := rfl
  rw [e']
  rcases hm with e | e <;> rw [e]
  · refine ⟨?_, ?_⟩
    · by_cases h : (nth code i).op = 14
      · exact .inr (.inr (this.1 h))
      · exact .inl h
    · by_cases h : (nth code i).op = 15
      · exact .inr (.inr (this.2 h))
      · exact .inl h
  · exact ⟨.inl (by decide), .inl (by decide)⟩
theorem fenB_ok2 (w : Nat → Bool) (code : List Ins) (hj : JumpsOK code) (bc : List (Ls Ins)) (hb : bc.map (·.l) = becL (fenW w) code) : BecomeOK2 bc code := by
  intro i hi k hk
  have hl : bc.length = code.length := by have := congrArg List.length hb; simpa [becL] using this
  have e : (nth bc i).l = fenW w i (nth code i) := by
    rw [← nth_map' (fun x : Ls Ins => x.l) bc i (by omega), hb, becL_nth _ _ _ hi]
  rw [e] at hk ⊢
  exact fenB_ok w code hj i hi k hk
def withL (w : Nat → Bool) (code : List Ins) : List Ins := putL (becL (fenW w) code) code
theorem fen_put (w : Nat → Bool) (code : List Ins) : movedL (fenW w) code = withL w code := by
  refine moved_put _ _ fun i hi x hx h15 => ?_
  rcases fenB_mem hx with rfl | rfl
  · omega
  · exact absurd h15 (by decide)
theorem withL_congr {w w2 : Nat → Bool} {code : List Ins} (h : ∀ i, i < code.length → w i = w2 i) : withL w code = withL w2 code := by
  have e : becL (fenW w) code = becL (fenW w2) code := by
    unfold becL
    apply List.map_congr_left
    intro i hi
    simp only [fenW]
    rw [h i (by simpa using hi)]
  unfold withL
  rw [e]

set_option maxRecDepth 100000 in
set_option maxHeartbeats 1000000 in
theorem with1_c (t i : Nat) (x : Ins) (b2 b3 : Nat) (D : Nat → Nat → Prop) (bf : FuncId) (us ws : List Value) (wh : Nat → Nat → Bool) (Env : Asn) (W : World) (hi : i ≤ 100000) (hB2 : Blk W b2 108 #[.func (.func bf) us.toArray ws.toArray]) (hB3 : Blk W b3 3 #[.int .i64 (t : Int)]) (hD : D t i) (hbd : bodyI Try.prog bf = true) (hEf : ∀ b, ¬ Env.fp b) (hEo : Env.ok W) (hwh : ∀ (w : World) (t i : Nat), Env.ok w → D t i → Rets Try.prog bf (us ++ [.int .i64 (t : Int), .int .i64 (i : Int)] ++ ws) w (fun v w' => v = .bool (wh t i) ∧ Sh0 w w' [])) :
    Rets Try.prog 102 [.int .i64 ((i : Nat) : Int), .agg #[.int .i64 x.op, .int .i64 x.a, .int .i64 x.b, .int .i64 x.c], .pointer (some ⟨b2, 0, none⟩), .pointer (some ⟨b3, 0, none⟩)] W (fun v w' => ∃ s : Ls Ins, v = s.v ∧ Sh0 W w' [.own 73 (⟨s.v, fenB (wh t i) x⟩ : Ls Ins)]) := by
 refine x_enter (N := 16) Try.func102 rfl Try.ntmps102 (Nat.le_of_ble_eq_true rfl) fun a1 hf1 => ?_
 have h1 : St 16 (fun _ => False) W a1 W [(0, .int .i64 ((i : Nat) : Int)), (1, .agg #[.int .i64 x.op, .int .i64 x.a, .int .i64 x.b, .int .i64 x.c]), (2, .pointer (some ⟨b2, 0, none⟩)), (3, .pointer (some ⟨b3, 0, none⟩))] [.rblk b2 108 [.func (.func bf) us.toArray ws.toArray], .rblk b3 3 [.int .i64 ((t : Nat) : Int)], Env] := ⟨hf1.sub ⟨rfl, rfl, rfl, rfl, trivial⟩, Sh0.ext (by intro A hA; simp at hA; rcases hA with rfl | rfl | rfl; exact hB2; exact hB3; exact hEo) (by intro A hA b hb; simp at hA; rcases hA with rfl | rfl | rfl <;> first | exact hb | exact hEf b hb)⟩
 clear hf1
 refine wp_seq_k fun K2 hK2 => ?_
 refine wp_region_lit ?_
 refine wl_ex (x_box (cs := [.int .i64 x.op, .int .i64 x.a, .int .i64 x.b, .int .i64 x.c]) h1 rfl rfl rfl rfl rfl) (wanted_none rfl _) ?_
 rintro a3 w3 ⟨b3, h3⟩; clear h1
 refine wms 1 h3 rfl fun a4 h4 => ?_; clear h3
 refine wpList_nil ?_
 refine hK2 _ _ ?_
 refine wp_seq_k fun K5 hK5 => ?_
 refine wp_seq_k fun K6 hK6 => ?_
 refine wp_region_lit ?_
 refine wv h4 (r_ldbR ti_108 rfl rfl (fun w h => h.rblk 1 rfl) rfl) rfl rfl fun a7 h7 => ?_; clear h4
 refine wv h7 (r_ldbR ti_3 rfl rfl (fun w h => h.rblk 2 rfl) rfl) rfl rfl fun a8 h8 => ?_; clear h7
 refine wms 1 h8 rfl fun a9 h9 => ?_; clear h8
 refine wl_ex (x_call h9 hbd rfl rfl rfl rfl rfl (hwh _ t i (h9.sh.ok Env (List.mem_of_getElem? (i := 3) rfl)) hD)) (wanted_none rfl _) ?_
 rintro a10 w10 ⟨_, ⟨rfl, hs10⟩, hf10⟩
 have h10 : St 16 (fun _ => False) W a10 w10 _ _ := ⟨hf10, h9.sh.call0 hs10⟩
 clear hf10 hs10
 clear h9
 refine wpList_nil ?_
 refine hK6 _ _ ?_
 refine x_cond h10 rfl (fun hb11 => ?_) (fun hb11 => ?_)
 ·
  skip
  refine wp_seq_k fun K12 hK12 => ?_
  refine wp_region_lit ?_
  refine wv h10 (r_ldbw (i := 0) (vs := [.int .i64 x.op, .int .i64 x.a, .int .i64 x.b, .int .i64 x.c]) ti_73 rfl rfl rfl rfl rfl) rfl rfl fun a13 h13 => ?_; clear h10
  refine wv h13 (r_build (cs := [.int .i64 12, .int .i64 0, .int .i64 0, .int .i64 0]) rfl rfl (by kernel_rfl)) rfl rfl fun a14 h14 => ?_; clear h13
  refine wl_ex (x_lit (n := 2) (cs := [.int .i64 x.op, .int .i64 x.a, .int .i64 x.b, .int .i64 x.c, .int .i64 12, .int .i64 0, .int .i64 0, .int .i64 0]) ([x, (⟨12, 0, 0, 0⟩ : Ins)] : List Ins) h14 sl_64 ti_73 rfl rfl rfl (by decide) rfl (by kernel_rfl) rfl (fun q hq w h => Flat.inner _ _) (fun q hq b hb => (Flat.on _ _ hb).elim) rfl rfl) (wanted_none rfl _) ?_
  rintro a15 w15 ⟨v15, h15⟩; clear h14
  refine wms 1 h15 rfl fun a16 h16 => ?_; clear h15
  refine wpList_nil ?_
  refine hK12 _ _ ?_
  refine wp_ret ?_
  try simp only [Exit.then, Exit.inBlock]
  refine x_ret1 (fn := Try.f102) (t := 6) rfl h16 rfl ?_
  refine ⟨⟨v15, []⟩, rfl, ?_⟩
  rw [show fenB (wh t i) x = [x, (⟨12, 0, 0, 0⟩ : Ins)] from by unfold fenB; (repeat' split) <;> first | rfl | simp_all]
  exact (h16.sh.sel (L' := [.own 73 (⟨v15, [x, (⟨12, 0, 0, 0⟩ : Ins)]⟩ : Ls Ins)]) [0] (by decide) ⟨rfl, trivial⟩)
 ·
  skip
  refine wp_skip ?_
  refine hK5 _ _ ?_
  refine wp_seq_k fun K17 hK17 => ?_
  refine wp_region_lit ?_
  refine wv h10 (r_ldbw (i := 0) (vs := [.int .i64 x.op, .int .i64 x.a, .int .i64 x.b, .int .i64 x.c]) ti_73 rfl rfl rfl rfl rfl) rfl rfl fun a18 h18 => ?_; clear h10
  refine wl_ex (x_lit (n := 1) (cs := [.int .i64 x.op, .int .i64 x.a, .int .i64 x.b, .int .i64 x.c]) ([x] : List Ins) h18 sl_64 ti_73 rfl rfl rfl (by decide) rfl (by kernel_rfl) rfl (fun q hq w h => Flat.inner _ _) (fun q hq b hb => (Flat.on _ _ hb).elim) rfl rfl) (wanted_none rfl _) ?_
  rintro a19 w19 ⟨v19, h19⟩; clear h18
  refine wms 1 h19 rfl fun a20 h20 => ?_; clear h19
  refine wpList_nil ?_
  refine hK17 _ _ ?_
  refine wp_ret ?_
  try simp only [Exit.then, Exit.inBlock]
  refine x_ret1 (fn := Try.f102) (t := 6) rfl h20 rfl ?_
  refine ⟨⟨v19, []⟩, rfl, ?_⟩
  rw [show fenB (wh t i) x = [x] from by unfold fenB; (repeat' split) <;> first | rfl | simp_all]
  exact (h20.sh.sel (L' := [.own 73 (⟨v19, [x]⟩ : Ls Ins)]) [0] (by decide) ⟨rfl, trivial⟩)

set_option maxRecDepth 100000 in
set_option maxHeartbeats 4000000 in
theorem with_c (code : Ls (Ls Ins)) (words : Ls Int) (locks regs : Int) (bf : FuncId) (us ws : List Value) (wh : Nat → Nat → Bool) (Env : Asn) (W : World) (hcode : code.At W) (hwords : words.At W) (hok : OkPg (pgOf code words locks regs)) (hbd : bodyI Try.prog bf = true) (hEf : ∀ b, ¬ Env.fp b) (hEo : Env.ok W) (hwh : ∀ (w : World) (t i : Nat), Env.ok w → t < code.l.length ∧ i < (nth code.l t).l.length → Rets Try.prog bf (us ++ [.int .i64 (t : Int), .int .i64 (i : Int)] ++ ws) w (fun v w' => v = .bool (wh t i) ∧ Sh0 w w' [])) :
    Rets Try.prog 64 [.agg #[code.v, words.v, .int .i64 locks, .int .i64 regs], .func (.func bf) us.toArray ws.toArray] W (fun v w' => ∃ (c : Ls (Ls Ins)) (u : Ls Int), v = .agg #[c.v, u.v, .int .i64 locks, .int .i64 regs] ∧ c.l.map (·.l) = (List.range code.l.length).map (fun t => withL (wh t) (nth code.l t).l) ∧ u.l = words.l ∧ Sh0 W w' [.deep 64 c, .own 3 u]) := by
 have hz := checkG_ok hok
 obtain ⟨hl1, hl2, hl3, hl4', hl5, hl6, hl7⟩ := ok_len hok
 refine x_enter (N := 32) Try.func64 rfl Try.ntmps64 (Nat.le_of_ble_eq_true rfl) fun a1 hf1 => ?_
 have h1 : St 32 (fun _ => False) W a1 W [(0, .agg #[code.v, words.v, .int .i64 locks, .int .i64 regs]), (1, .func (.func bf) us.toArray ws.toArray)] [.at_ code, .at_ words, Env] := ⟨hf1.sub ⟨rfl, rfl, trivial⟩, Sh0.ext (by intro A hA; simp at hA; rcases hA with rfl | rfl | rfl; exact hcode; exact hwords; exact hEo) (by intro A hA b hb; simp at hA; rcases hA with rfl | rfl | rfl <;> first | exact hb | exact hEf b hb)⟩
 clear hf1
 refine wp_seq_k fun K2 hK2 => ?_
 refine wp_region_lit ?_
 refine wl_ex (x_box (cs := [code.v, words.v, .int .i64 locks, .int .i64 regs]) h1 rfl rfl rfl rfl rfl) (wanted_none rfl _) ?_
 rintro a3 w3 ⟨b3, h3⟩; clear h1
 refine wl_ex (x_box (cs := [.func (.func bf) us.toArray ws.toArray]) h3 rfl rfl rfl rfl rfl) (wanted_none rfl _) ?_
 rintro a4 w4 ⟨b4, h4⟩; clear h3
 refine wl_ex (x_alloc h4 ti_28 rfl rfl rfl) (wanted_none rfl _) ?_
 rintro a5 w5 ⟨b5, h5⟩; clear h4
 refine wpList_nil ?_
 refine hK2 _ _ ?_
 refine wp_seq_k fun K6 hK6 => ?_
 refine wp_region_lit ?_
 refine wv h5 (r_ldbw (i := 2) (vs := [code.v, words.v, .int .i64 locks, .int .i64 regs]) ti_28 rfl rfl rfl rfl rfl) rfl rfl fun a7 h7 => ?_; clear h5
 refine wl_ex (x_alloc h7 ti_28 rfl rfl rfl) (wanted_none rfl _) ?_
 rintro a8 w8 ⟨b8, h8⟩; clear h7
 refine wl_ex (x_stb (i := 0) (vs := [code.v, words.v, .int .i64 locks, .int .i64 regs]) (cs' := [code.v, words.v, .int .i64 locks, .int .i64 regs]) h8 ti_28 rfl rfl rfl rfl rfl rfl rfl (allOne_cons ((h8.sh.at 4 rfl)).one (allOne_cons ((h8.sh.at 5 rfl)).one (allOne_cons rfl (allOne_cons rfl allOne_nil)))) (Nat.le_of_ble_eq_true rfl) rfl) (wanted_none rfl _) ?_
 rintro a9 w9 h9
 clear h8
 refine wpList_nil ?_
 refine hK6 _ _ ?_
 refine wp_seq_k fun K10 hK10 => ?_
 refine wp_region_lit ?_
 refine wv h9 (r_fieldB (r := 0) fl_28_0 rfl rfl rfl) rfl rfl fun a11 h11 => ?_; clear h9
 refine wl_ex (x_stb (i := 0) (vs := [(.slice none 0 0)]) (cs' := [(.slice none 0 0), words.v, .int .i64 locks, .int .i64 regs]) h11 ti_26 rfl rfl rfl rfl rfl rfl rfl (allOne_cons rfl allOne_nil) (Nat.le_of_ble_eq_true rfl) rfl) (wanted_none rfl _) ?_
 rintro a12 w12 h12
 clear h11
 refine wpList_nil ?_
 refine hK10 _ _ ?_
 refine wp_seq_k fun K13 hK13 => ?_
 refine wp_seq_k fun K14 hK14 => ?_
 refine wp_region_lit ?_
 refine wv h12 (r_fieldB (r := 0) fl_28_0 rfl rfl rfl) rfl rfl fun a15 h15 => ?_; clear h12
 refine wv h15 (r_ldb (i := 3) ti_26 rfl rfl rfl rfl) rfl rfl fun a16 h16 => ?_; clear h15
 have hl17 : code.l.length ≤ 140737488355328 := (h16.sh.at 4 rfl).len
 refine wv h16 (r_len (s := code) (n := code.l.length) sl_26 rfl rfl (fun w h => (h.at 4 rfl)) rfl) rfl rfl fun a18 h18 => ?_; clear h16
 refine wms 1 h18 rfl fun a19 h19 => ?_; clear h18
 refine wpList_nil ?_
 refine hK14 _ _ ?_
 refine wp_block ?_
 have h21 := h19.nilDeep (α := Ls Ins) 64
 clear h19
 refine x_loop (fun m a w => ∃ (t : Nat) (qs : List (Ls Ins)) (vq : Value), (t ≤ code.l.length) ∧ (qs.map (·.l) = (List.range t).map (fun t => withL (wh t) (nth code.l t).l)) ∧ (qs.length = t) ∧ St 32 (fun _ => False) W a w [(2, .pointer (some ⟨b3, 0, none⟩)), (3, .pointer (some ⟨b4, 0, none⟩)), (4, .pointer (some ⟨b5, 0, none⟩)), (5, .pointer (some ⟨b8, 0, none⟩)), (11, code.v), (12, .int .i64 ((code.l.length : Nat) : Int)), (13, .int .i64 ((t : Nat) : Int))] [.blk b8 28 [vq, words.v, .int .i64 locks, .int .i64 regs], .blk b5 28 [(.slice none 0 0), (.slice none 0 0), .int .i64 0, .int .i64 0], .blk b4 108 [.func (.func bf) us.toArray ws.toArray], .blk b3 28 [code.v, words.v, .int .i64 locks, .int .i64 regs], .at_ code, .at_ words, Env, .deep 64 (⟨vq, qs⟩ : Ls (Ls Ins))] ∧ m = code.l.length - t) ⟨_, 0, [], (.slice none 0 0), (by omega), (rfl), (rfl), ((h21.sub (F' := [(2, .pointer (some ⟨b3, 0, none⟩)), (3, .pointer (some ⟨b4, 0, none⟩)), (4, .pointer (some ⟨b5, 0, none⟩)), (5, .pointer (some ⟨b8, 0, none⟩)), (11, code.v), (12, .int .i64 ((code.l.length : Nat) : Int)), (13, .int .i64 0)]) ⟨rfl, rfl, rfl, rfl, rfl, rfl, rfl, trivial⟩).sel (L' := [.blk b8 28 [(.slice none 0 0), words.v, .int .i64 locks, .int .i64 regs], .blk b5 28 [(.slice none 0 0), (.slice none 0 0), .int .i64 0, .int .i64 0], .blk b4 108 [.func (.func bf) us.toArray ws.toArray], .blk b3 28 [code.v, words.v, .int .i64 locks, .int .i64 regs], .at_ code, .at_ words, Env, .deep 64 (⟨.slice none 0 0, []⟩ : Ls (Ls Ins))]) [1, 2, 3, 4, 5, 6, 7, 0] (by decide) ⟨rfl, rfl, rfl, rfl, rfl, rfl, rfl, rfl, trivial⟩), rfl⟩ ?_
 clear h21
 rintro m20 a20 w20 ⟨t, qs, vq, ht, hqs, hql, h20, hm20⟩
 refine wp_seq_k fun K22 hK22 => ?_
 refine wp_region_lit ?_
 refine wv h20 (r_lssN (p := t) (q := code.l.length) rfl rfl rfl) rfl rfl fun a23 h23 => ?_; clear h20
 refine wpList_nil ?_
 refine hK22 _ _ ?_
 refine wp_seq_k fun K24 hK24 => ?_
 refine x_cond h23 rfl (fun hb25 => ?_) (fun hb25 => ?_)
 ·
  have hp25 : t < code.l.length := of_decide_eq_true hb25
  refine wp_skip ?_
  refine hK24 _ _ ?_
  refine wp_seq_k fun K26 hK26 => ?_
  refine wp_block ?_
  refine wp_seq_k fun K27 hK27 => ?_
  refine wp_region_lit ?_
  refine wms 1 h23 rfl fun a28 h28 => ?_; clear h23
  refine wv h28 (r_ixN (s := code) (q := t) sl_26 ti_64 rfl rfl rfl (fun w h => (h.at 4 rfl)) (show t < code.l.length from (by omega))) rfl rfl fun a29 h29 => ?_; clear h28
  refine wv h29 (r_lde (s := code) (i := t) (v := (nth code.l t).v) ti_64 rfl rfl rfl (fun w h => (h.at 4 rfl)) (show t < code.l.length from (by omega)) (Nat.le_of_ble_eq_true rfl) rfl) rfl rfl fun a30 h30 => ?_; clear h29
  refine wl_ex (x_alloc h30 ti_3 rfl rfl rfl) (wanted_none rfl _) ?_
  rintro a31 w31 ⟨b31, h31⟩; clear h30
  refine wl_ex (x_stb (i := 0) (vs := [.int .i64 ((t : Nat) : Int)]) (cs' := [.int .i64 ((t : Nat) : Int)]) h31 ti_3 rfl rfl rfl rfl rfl rfl rfl (allOne_cons rfl allOne_nil) (Nat.le_of_ble_eq_true rfl) rfl) (wanted_none rfl _) ?_
  rintro a32 w32 h32
  clear h31
  refine wms 1 h32 rfl fun a33 h33 => ?_; clear h32
  refine wpList_nil ?_
  refine hK27 _ _ ?_
  obtain ⟨hl4, hjt⟩ := ok_thread hok t (by omega)
  have h34 : St 32 (fun _ => False) W a33 w32 [(2, .pointer (some ⟨b3, 0, none⟩)), (3, .pointer (some ⟨b4, 0, none⟩)), (4, .pointer (some ⟨b5, 0, none⟩)), (5, .pointer (some ⟨b8, 0, none⟩)), (6, .pointer (some ⟨b31, 0, none⟩)), (7, (nth code.l t).v), (11, code.v), (12, .int .i64 ((code.l.length : Nat) : Int)), (13, .int .i64 ((t : Nat) : Int)), (14, .bool (decide (t < code.l.length))), (15, .int .i64 ((t : Nat) : Int)), (16, .pointer (some (padr code.v 1 t 0))), (17, (nth code.l t).v)] [.blk b31 3 [.int .i64 ((t : Nat) : Int)], .blk b8 28 [vq, words.v, .int .i64 locks, .int .i64 regs], .blk b5 28 [(.slice none 0 0), (.slice none 0 0), .int .i64 0, .int .i64 0], .blk b4 108 [.func (.func bf) us.toArray ws.toArray], .blk b3 28 [code.v, words.v, .int .i64 locks, .int .i64 regs], .at_ code, .at_ words, Env, .deep 64 (⟨vq, qs⟩ : Ls (Ls Ins))] := h33.nrm ⟨rfl, rfl, rfl, rfl, rfl, rfl, rfl, rfl, rfl, rfl, rfl, rfl, rfl, trivial⟩ [0, 1, 2, 3, 4, 5, 6, 7, 8] (by decide) ⟨rfl, rfl, rfl, rfl, rfl, rfl, rfl, rfl, rfl, trivial⟩
  clear h33
  refine x_any (fun S a w => (S 4 = false ∧ S 5 = false ∧ S 6 = false ∧ S 8 = false ∧ FrI 32 S [(2, .pointer (some ⟨b3, 0, none⟩)), (3, .pointer (some ⟨b4, 0, none⟩)), (4, .pointer (some ⟨b5, 0, none⟩)), (5, .pointer (some ⟨b8, 0, none⟩)), (6, .pointer (some ⟨b31, 0, none⟩)), (7, (nth code.l t).v), (11, code.v), (12, .int .i64 ((code.l.length : Nat) : Int)), (13, .int .i64 ((t : Nat) : Int)), (14, .bool (decide (t < code.l.length))), (15, .int .i64 ((t : Nat) : Int)), (16, .pointer (some (padr code.v 1 t 0))), (17, (nth code.l t).v)] [(0, 18, .pointer (some ⟨b8, 0, none⟩)), (1, 19, vq), (2, 20, (nth code.l t).v), (3, 21, .func (.func 102) #[] #[.pointer (some ⟨b4, 0, none⟩), .pointer (some ⟨b31, 0, none⟩)])] a ∧ Sh (fun _ => False) W w [.blk b31 3 [.int .i64 ((t : Nat) : Int)], .blk b8 28 [vq, words.v, .int .i64 locks, .int .i64 regs], .blk b5 28 [(.slice none 0 0), (.slice none 0 0), .int .i64 0, .int .i64 0], .blk b4 108 [.func (.func bf) us.toArray ws.toArray], .blk b3 28 [code.v, words.v, .int .i64 locks, .int .i64 regs], .at_ code, .at_ words, Env, .deep 64 (⟨vq, qs⟩ : Ls (Ls Ins))]) ∨ (S 4 = true ∧ S 5 = false ∧ S 6 = false ∧ S 8 = false ∧ ∃ (s7004 : Ls Ins), (s7004.l = movedL (fenW (wh t)) ((nth code.l t).l)) ∧ FrI 32 S [(2, .pointer (some ⟨b3, 0, none⟩)), (3, .pointer (some ⟨b4, 0, none⟩)), (4, .pointer (some ⟨b5, 0, none⟩)), (5, .pointer (some ⟨b8, 0, none⟩)), (6, .pointer (some ⟨b31, 0, none⟩)), (7, (nth code.l t).v), (11, code.v), (12, .int .i64 ((code.l.length : Nat) : Int)), (13, .int .i64 ((t : Nat) : Int)), (14, .bool (decide (t < code.l.length))), (15, .int .i64 ((t : Nat) : Int)), (16, .pointer (some (padr code.v 1 t 0))), (17, (nth code.l t).v)] [(0, 18, .pointer (some ⟨b8, 0, none⟩)), (1, 19, vq), (2, 20, (nth code.l t).v), (3, 21, .func (.func 102) #[] #[.pointer (some ⟨b4, 0, none⟩), .pointer (some ⟨b31, 0, none⟩)]), (4, 22, s7004.v)] a ∧ Sh (fun _ => False) W w [.own 73 s7004, .blk b31 3 [.int .i64 ((t : Nat) : Int)], .blk b8 28 [vq, words.v, .int .i64 locks, .int .i64 regs], .blk b5 28 [(.slice none 0 0), (.slice none 0 0), .int .i64 0, .int .i64 0], .blk b4 108 [.func (.func bf) us.toArray ws.toArray], .blk b3 28 [code.v, words.v, .int .i64 locks, .int .i64 regs], .at_ code, .at_ words, Env, .deep 64 (⟨vq, qs⟩ : Ls (Ls Ins))]) ∨ (S 4 = true ∧ S 5 = true ∧ S 6 = false ∧ S 8 = false ∧ ∃ (s7004 : Ls Ins) (v7005 : Value), (s7004.l = movedL (fenW (wh t)) ((nth code.l t).l)) ∧ FrI 32 S [(2, .pointer (some ⟨b3, 0, none⟩)), (3, .pointer (some ⟨b4, 0, none⟩)), (4, .pointer (some ⟨b5, 0, none⟩)), (5, .pointer (some ⟨b8, 0, none⟩)), (6, .pointer (some ⟨b31, 0, none⟩)), (7, (nth code.l t).v), (11, code.v), (12, .int .i64 ((code.l.length : Nat) : Int)), (13, .int .i64 ((t : Nat) : Int)), (14, .bool (decide (t < code.l.length))), (15, .int .i64 ((t : Nat) : Int)), (16, .pointer (some (padr code.v 1 t 0))), (17, (nth code.l t).v)] [(0, 18, .pointer (some ⟨b8, 0, none⟩)), (1, 19, vq), (2, 20, (nth code.l t).v), (3, 21, .func (.func 102) #[] #[.pointer (some ⟨b4, 0, none⟩), .pointer (some ⟨b31, 0, none⟩)]), (4, 22, s7004.v), (5, 23, v7005)] a ∧ Sh (fun _ => False) W w [.deep 64 (⟨v7005, [s7004]⟩ : Ls (Ls Ins)), .blk b31 3 [.int .i64 ((t : Nat) : Int)], .blk b8 28 [vq, words.v, .int .i64 locks, .int .i64 regs], .blk b5 28 [(.slice none 0 0), (.slice none 0 0), .int .i64 0, .int .i64 0], .blk b4 108 [.func (.func bf) us.toArray ws.toArray], .blk b3 28 [code.v, words.v, .int .i64 locks, .int .i64 regs], .at_ code, .at_ words, Env, .deep 64 (⟨vq, qs⟩ : Ls (Ls Ins))]) ∨ (S 4 = true ∧ S 5 = true ∧ S 6 = true ∧ S 8 = false ∧ ∃ (s7004 : Ls Ins) (v7005 : Value) (v7006 : Value), (s7004.l = movedL (fenW (wh t)) ((nth code.l t).l)) ∧ FrI 32 S [(2, .pointer (some ⟨b3, 0, none⟩)), (3, .pointer (some ⟨b4, 0, none⟩)), (4, .pointer (some ⟨b5, 0, none⟩)), (5, .pointer (some ⟨b8, 0, none⟩)), (6, .pointer (some ⟨b31, 0, none⟩)), (7, (nth code.l t).v), (11, code.v), (12, .int .i64 ((code.l.length : Nat) : Int)), (13, .int .i64 ((t : Nat) : Int)), (14, .bool (decide (t < code.l.length))), (15, .int .i64 ((t : Nat) : Int)), (16, .pointer (some (padr code.v 1 t 0))), (17, (nth code.l t).v)] [(0, 18, .pointer (some ⟨b8, 0, none⟩)), (1, 19, vq), (2, 20, (nth code.l t).v), (3, 21, .func (.func 102) #[] #[.pointer (some ⟨b4, 0, none⟩), .pointer (some ⟨b31, 0, none⟩)]), (4, 22, s7004.v), (5, 23, v7005), (6, 24, v7006), (7, 25, .pointer (some ⟨b8, 0, none⟩))] a ∧ Sh (fun _ => False) W w [.deep 64 (⟨v7006, qs ++ ([s7004])⟩ : Ls (Ls Ins)), .blk b31 3 [.int .i64 ((t : Nat) : Int)], .blk b8 28 [vq, words.v, .int .i64 locks, .int .i64 regs], .blk b5 28 [(.slice none 0 0), (.slice none 0 0), .int .i64 0, .int .i64 0], .blk b4 108 [.func (.func bf) us.toArray ws.toArray], .blk b3 28 [code.v, words.v, .int .i64 locks, .int .i64 regs], .at_ code, .at_ words, Env]) ∨ (S 4 = true ∧ S 5 = true ∧ S 6 = true ∧ S 8 = true ∧ ∃ (s7004 : Ls Ins) (v7005 : Value) (v7006 : Value), (s7004.l = movedL (fenW (wh t)) ((nth code.l t).l)) ∧ FrI 32 S [(2, .pointer (some ⟨b3, 0, none⟩)), (3, .pointer (some ⟨b4, 0, none⟩)), (4, .pointer (some ⟨b5, 0, none⟩)), (5, .pointer (some ⟨b8, 0, none⟩)), (6, .pointer (some ⟨b31, 0, none⟩)), (7, (nth code.l t).v), (11, code.v), (12, .int .i64 ((code.l.length : Nat) : Int)), (13, .int .i64 ((t : Nat) : Int)), (14, .bool (decide (t < code.l.length))), (15, .int .i64 ((t : Nat) : Int)), (16, .pointer (some (padr code.v 1 t 0))), (17, (nth code.l t).v)] [(0, 18, .pointer (some ⟨b8, 0, none⟩)), (1, 19, vq), (2, 20, (nth code.l t).v), (3, 21, .func (.func 102) #[] #[.pointer (some ⟨b4, 0, none⟩), .pointer (some ⟨b31, 0, none⟩)]), (4, 22, s7004.v), (5, 23, v7005), (6, 24, v7006), (7, 25, .pointer (some ⟨b8, 0, none⟩))] a ∧ Sh (fun _ => False) W w [.deep 64 (⟨v7006, qs ++ ([s7004])⟩ : Ls (Ls Ins)), .blk b31 3 [.int .i64 ((t : Nat) : Int)], .blk b8 28 [v7006, words.v, .int .i64 locks, .int .i64 regs], .blk b5 28 [(.slice none 0 0), (.slice none 0 0), .int .i64 0, .int .i64 0], .blk b4 108 [.func (.func bf) us.toArray ws.toArray], .blk b3 28 [code.v, words.v, .int .i64 locks, .int .i64 regs], .at_ code, .at_ words, Env])) (by kernel_rfl) (by kernel_rfl) (Or.inl (⟨rfl, rfl, rfl, rfl, FrI.start h34.fr, h34.sh.drew⟩)) ?_ ?_
  ·intro S i o ho hSi hcl hdep a w hI
   clear h34
   rcases i with _ | _ | _ | _ | _ | _ | _ | _ | _ | i
   ·
    obtain rfl : _ = o := Option.some.inj ho
    rcases hI with ⟨hw4, hw5, hw6, hw8, hfr, hsh⟩ | ⟨hw4, hw5, hw6, hw8, s7004, hl7004, hfr, hsh⟩ | ⟨hw4, hw5, hw6, hw8, s7004, v7005, hl7004, hfr, hsh⟩ | ⟨hw4, hw5, hw6, hw8, s7004, v7005, v7006, hl7004, hfr, hsh⟩ | ⟨hw4, hw5, hw6, hw8, s7004, v7005, v7006, hl7004, hfr, hsh⟩
    ·
     exact sq hfr hfr.fr0 hsh (r_fieldB (r := 0) fl_28_0 rfl rfl rfl) 0 rfl rfl rfl rfl rfl rfl fun a hg => Or.inl (⟨un rfl hw4, un rfl hw5, un rfl hw6, un rfl hw8, hg, hsh⟩)
    ·
     exact sq hfr hfr.fr0 hsh (r_fieldB (r := 0) fl_28_0 rfl rfl rfl) 0 rfl rfl rfl rfl rfl rfl fun a hg => Or.inr (Or.inl (⟨un rfl hw4, un rfl hw5, un rfl hw6, un rfl hw8, s7004, hl7004, hg, hsh⟩))
    ·
     exact sq hfr hfr.fr0 hsh (r_fieldB (r := 0) fl_28_0 rfl rfl rfl) 0 rfl rfl rfl rfl rfl rfl fun a hg => Or.inr (Or.inr (Or.inl (⟨un rfl hw4, un rfl hw5, un rfl hw6, un rfl hw8, s7004, v7005, hl7004, hg, hsh⟩)))
    ·
     exact no_way (cA hcl 6 0 rfl hw6) hSi
    ·
     exact no_way (cA hcl 6 0 rfl hw6) hSi
   ·
    obtain rfl : _ = o := Option.some.inj ho
    have hd0 : S 0 = true := depAt hdep 0 rfl rfl
    rcases hI with ⟨hw4, hw5, hw6, hw8, hfr, hsh⟩ | ⟨hw4, hw5, hw6, hw8, s7004, hl7004, hfr, hsh⟩ | ⟨hw4, hw5, hw6, hw8, s7004, v7005, hl7004, hfr, hsh⟩ | ⟨hw4, hw5, hw6, hw8, s7004, v7005, v7006, hl7004, hfr, hsh⟩ | ⟨hw4, hw5, hw6, hw8, s7004, v7005, v7006, hl7004, hfr, hsh⟩
    ·
     exact sq hfr (Fr.cons hfr.fr0 (hfr.at_ 0 0 18 _ rfl hd0)) hsh (r_ldb (i := 1) ti_26 rfl rfl rfl rfl) 1 rfl rfl rfl rfl rfl rfl fun a hg => Or.inl (⟨un rfl hw4, un rfl hw5, un rfl hw6, un rfl hw8, hg, hsh⟩)
    ·
     exact sq hfr (Fr.cons hfr.fr0 (hfr.at_ 0 0 18 _ rfl hd0)) hsh (r_ldb (i := 2) ti_26 rfl rfl rfl rfl) 1 rfl rfl rfl rfl rfl rfl fun a hg => Or.inr (Or.inl (⟨un rfl hw4, un rfl hw5, un rfl hw6, un rfl hw8, s7004, hl7004, hg, hsh⟩))
    ·
     exact sq hfr (Fr.cons hfr.fr0 (hfr.at_ 0 0 18 _ rfl hd0)) hsh (r_ldb (i := 2) ti_26 rfl rfl rfl rfl) 1 rfl rfl rfl rfl rfl rfl fun a hg => Or.inr (Or.inr (Or.inl (⟨un rfl hw4, un rfl hw5, un rfl hw6, un rfl hw8, s7004, v7005, hl7004, hg, hsh⟩)))
    ·
     exact no_way (cA hcl 6 1 rfl hw6) hSi
    ·
     exact no_way (cA hcl 6 1 rfl hw6) hSi
   ·
    obtain rfl : _ = o := Option.some.inj ho
    rcases hI with ⟨hw4, hw5, hw6, hw8, hfr, hsh⟩ | ⟨hw4, hw5, hw6, hw8, s7004, hl7004, hfr, hsh⟩ | ⟨hw4, hw5, hw6, hw8, s7004, v7005, hl7004, hfr, hsh⟩ | ⟨hw4, hw5, hw6, hw8, s7004, v7005, v7006, hl7004, hfr, hsh⟩ | ⟨hw4, hw5, hw6, hw8, s7004, v7005, v7006, hl7004, hfr, hsh⟩
    ·
     exact sq hfr hfr.fr0 hsh (r_move rfl rfl) 2 rfl rfl rfl rfl rfl rfl fun a hg => Or.inl (⟨un rfl hw4, un rfl hw5, un rfl hw6, un rfl hw8, hg, hsh⟩)
    ·
     exact no_way (cA hcl 4 2 rfl hw4) hSi
    ·
     exact no_way (cA hcl 4 2 rfl hw4) hSi
    ·
     exact no_way (cA hcl 4 2 rfl hw4) hSi
    ·
     exact no_way (cA hcl 4 2 rfl hw4) hSi
   ·
    obtain rfl : _ = o := Option.some.inj ho
    rcases hI with ⟨hw4, hw5, hw6, hw8, hfr, hsh⟩ | ⟨hw4, hw5, hw6, hw8, s7004, hl7004, hfr, hsh⟩ | ⟨hw4, hw5, hw6, hw8, s7004, v7005, hl7004, hfr, hsh⟩ | ⟨hw4, hw5, hw6, hw8, s7004, v7005, v7006, hl7004, hfr, hsh⟩ | ⟨hw4, hw5, hw6, hw8, s7004, v7005, v7006, hl7004, hfr, hsh⟩
    ·
     exact sq hfr hfr.fr0 hsh (r_makeFunc rfl rfl rfl) 3 rfl rfl rfl rfl rfl rfl fun a hg => Or.inl (⟨un rfl hw4, un rfl hw5, un rfl hw6, un rfl hw8, hg, hsh⟩)
    ·
     exact no_way (cA hcl 4 3 rfl hw4) hSi
    ·
     exact no_way (cA hcl 4 3 rfl hw4) hSi
    ·
     exact no_way (cA hcl 4 3 rfl hw4) hSi
    ·
     exact no_way (cA hcl 4 3 rfl hw4) hSi
   ·
    obtain rfl : _ = o := Option.some.inj ho
    have hd2 : S 2 = true := depAt hdep 0 rfl rfl
    have hd3 : S 3 = true := depAt hdep 1 rfl rfl
    rcases hI with ⟨hw4, hw5, hw6, hw8, hfr, hsh⟩ | ⟨hw4, hw5, hw6, hw8, s7004, hl7004, hfr, hsh⟩ | ⟨hw4, hw5, hw6, hw8, s7004, v7005, hl7004, hfr, hsh⟩ | ⟨hw4, hw5, hw6, hw8, s7004, v7005, v7006, hl7004, hfr, hsh⟩ | ⟨hw4, hw5, hw6, hw8, s7004, v7005, v7006, hl7004, hfr, hsh⟩
    ·
     have hs := St.mk (Fr.cons (Fr.cons hfr.fr0 (hfr.at_ 2 2 20 _ rfl hd2)) (hfr.at_ 3 3 21 _ rfl hd3)) hsh
     refine step_ex (x_call hs bd_70 rfl rfl rfl rfl rfl (moved_c (nth code.l t) 102 [] [.pointer (some ⟨b4, 0, none⟩), .pointer (some ⟨b31, 0, none⟩)] (fenW (wh t)) (Asn.ro [.blk b4 108 [.func (.func bf) us.toArray ws.toArray], .blk b31 3 [.int .i64 (t : Int)], Env]) _ ((hs.sh.at 5 rfl).nth t (show t < code.l.length from (by omega))) (show ((nth code.l t).l).length ≤ 5000 from (by omega)) bd_102 (fun _ h => h) (by intro A hA; simp at hA; rcases hA with rfl | rfl | rfl; exact hs.sh.ok _ (List.mem_of_getElem? (i := 3) rfl); exact hs.sh.ok _ (List.mem_of_getElem? (i := 0) rfl); exact hs.sh.ok _ (List.mem_of_getElem? (i := 7) rfl)) (fun w i hE (hi : i < (nth code.l t).l.length) => with1_c t i _ b4 b31 (fun t i => t < code.l.length ∧ i < (nth code.l t).l.length) bf us ws wh Env w (by omega) (hE (.blk b4 108 [.func (.func bf) us.toArray ws.toArray]) (by simp)) (hE (.blk b31 3 [.int .i64 (t : Int)]) (by simp)) ⟨by omega, hi⟩ hbd hEf (hE Env (by simp)) hwh) (fun i hi => by have := fenB_len (wh t i) (nth (nth code.l t).l i); exact Nat.le_trans this (by omega)) (fenB_ok _ _ hjt))) (wanted_none rfl _) ?_
     rintro a46 w46 ⟨_, ⟨s46, rfl, hl46, hs46⟩, hf46⟩ ⟨v0, ht46⟩
     have h46 := (⟨hf46, hs.sh.call hs46 (by intro A hA b hb; first | (simp at hA; done) | (simp at hA; subst hA; first | exact Flat.noRd hb | exact (hb : False).elim) | (simp at hA; rcases hA with rfl | rfl <;> first | exact Flat.noRd hb | exact (hb : False).elim))⟩ : St 32 (fun _ => False) W a46 w46 _ _)
     clear hf46 hs46
     have hm46 : FrI 32 S [(2, .pointer (some ⟨b3, 0, none⟩)), (3, .pointer (some ⟨b4, 0, none⟩)), (4, .pointer (some ⟨b5, 0, none⟩)), (5, .pointer (some ⟨b8, 0, none⟩)), (6, .pointer (some ⟨b31, 0, none⟩)), (7, (nth code.l t).v), (11, code.v), (12, .int .i64 ((code.l.length : Nat) : Int)), (13, .int .i64 ((t : Nat) : Int)), (14, .bool (decide (t < code.l.length))), (15, .int .i64 ((t : Nat) : Int)), (16, .pointer (some (padr code.v 1 t 0))), (17, (nth code.l t).v)] [(0, 18, .pointer (some ⟨b8, 0, none⟩)), (1, 19, vq), (2, 20, (nth code.l t).v), (3, 21, .func (.func 102) #[] #[.pointer (some ⟨b4, 0, none⟩), .pointer (some ⟨b31, 0, none⟩)]), (4, 22, s46.v)] a := hfr.more (by
      intro k j d v hk hS
      rcases k with _ | _ | _ | _ | _ | k
      ·obtain ⟨rfl, rfl, rfl⟩ : _ = j ∧ _ = d ∧ _ = v := by simpa using hk
       exact hfr.at_ 0 _ _ _ rfl hS
      ·obtain ⟨rfl, rfl, rfl⟩ : _ = j ∧ _ = d ∧ _ = v := by simpa using hk
       exact hfr.at_ 1 _ _ _ rfl hS
      ·obtain ⟨rfl, rfl, rfl⟩ : _ = j ∧ _ = d ∧ _ = v := by simpa using hk
       exact hfr.at_ 2 _ _ _ rfl hS
      ·obtain ⟨rfl, rfl, rfl⟩ : _ = j ∧ _ = d ∧ _ = v := by simpa using hk
       exact hfr.at_ 3 _ _ _ rfl hS
      ·obtain ⟨rfl, rfl, rfl⟩ : _ = j ∧ _ = d ∧ _ = v := by simpa using hk
       exact no_way hS hSi
      · simp at hk)
     exact Or.inr (Or.inl (⟨upd_self _ _, un rfl hw5, un rfl hw6, un rfl hw8, s46, hl46, hm46.step ht46 h46.fr.defers (h46.fr.at_ 22 _ rfl) 4 rfl rfl rfl rfl, (h46.sh.sel (L' := [.own 73 s46, .blk b31 3 [.int .i64 ((t : Nat) : Int)], .blk b8 28 [vq, words.v, .int .i64 locks, .int .i64 regs], .blk b5 28 [(.slice none 0 0), (.slice none 0 0), .int .i64 0, .int .i64 0], .blk b4 108 [.func (.func bf) us.toArray ws.toArray], .blk b3 28 [code.v, words.v, .int .i64 locks, .int .i64 regs], .at_ code, .at_ words, Env, .deep 64 (⟨vq, qs⟩ : Ls (Ls Ins))]) [0, 1, 2, 3, 4, 5, 6, 7, 8, 9] (by decide) ⟨rfl, rfl, rfl, rfl, rfl, rfl, rfl, rfl, rfl, rfl, trivial⟩)⟩))
    ·
     exact no_way hw4 hSi
    ·
     exact no_way hw4 hSi
    ·
     exact no_way hw4 hSi
    ·
     exact no_way hw4 hSi
   ·
    obtain rfl : _ = o := Option.some.inj ho
    have hd4 : S 4 = true := depAt hdep 0 rfl rfl
    rcases hI with ⟨hw4, hw5, hw6, hw8, hfr, hsh⟩ | ⟨hw4, hw5, hw6, hw8, s7004, hl7004, hfr, hsh⟩ | ⟨hw4, hw5, hw6, hw8, s7004, v7005, hl7004, hfr, hsh⟩ | ⟨hw4, hw5, hw6, hw8, s7004, v7005, v7006, hl7004, hfr, hsh⟩ | ⟨hw4, hw5, hw6, hw8, s7004, v7005, v7006, hl7004, hfr, hsh⟩
    ·
     exact no_way hd4 hw4
    ·
     have hs := St.mk (Fr.cons hfr.fr0 (hfr.at_ 4 4 22 _ rfl hd4)) hsh
     refine step_ex (x_litD (E := 0) (x := s7004) hs sl_26 ti_64 rfl rfl rfl ((hs.sh.own 0 rfl)) (fun b hb => (own_on (hs.sh.ok _ (List.mem_of_getElem? (i := 0) rfl)) hb).elim (fun h => h) (fun h => Flat.noRd h)) (fun b hb => Flat.noRd hb) rfl rfl) (wanted_none rfl _) ?_
     rintro a47 w47 ⟨v47, h47⟩ ⟨v0, ht47⟩
     have hm47 : FrI 32 S [(2, .pointer (some ⟨b3, 0, none⟩)), (3, .pointer (some ⟨b4, 0, none⟩)), (4, .pointer (some ⟨b5, 0, none⟩)), (5, .pointer (some ⟨b8, 0, none⟩)), (6, .pointer (some ⟨b31, 0, none⟩)), (7, (nth code.l t).v), (11, code.v), (12, .int .i64 ((code.l.length : Nat) : Int)), (13, .int .i64 ((t : Nat) : Int)), (14, .bool (decide (t < code.l.length))), (15, .int .i64 ((t : Nat) : Int)), (16, .pointer (some (padr code.v 1 t 0))), (17, (nth code.l t).v)] [(0, 18, .pointer (some ⟨b8, 0, none⟩)), (1, 19, vq), (2, 20, (nth code.l t).v), (3, 21, .func (.func 102) #[] #[.pointer (some ⟨b4, 0, none⟩), .pointer (some ⟨b31, 0, none⟩)]), (4, 22, s7004.v), (5, 23, v47)] a := hfr.more (by
      intro k j d v hk hS
      rcases k with _ | _ | _ | _ | _ | _ | k
      ·obtain ⟨rfl, rfl, rfl⟩ : _ = j ∧ _ = d ∧ _ = v := by simpa using hk
       exact hfr.at_ 0 _ _ _ rfl hS
      ·obtain ⟨rfl, rfl, rfl⟩ : _ = j ∧ _ = d ∧ _ = v := by simpa using hk
       exact hfr.at_ 1 _ _ _ rfl hS
      ·obtain ⟨rfl, rfl, rfl⟩ : _ = j ∧ _ = d ∧ _ = v := by simpa using hk
       exact hfr.at_ 2 _ _ _ rfl hS
      ·obtain ⟨rfl, rfl, rfl⟩ : _ = j ∧ _ = d ∧ _ = v := by simpa using hk
       exact hfr.at_ 3 _ _ _ rfl hS
      ·obtain ⟨rfl, rfl, rfl⟩ : _ = j ∧ _ = d ∧ _ = v := by simpa using hk
       exact hfr.at_ 4 _ _ _ rfl hS
      ·obtain ⟨rfl, rfl, rfl⟩ : _ = j ∧ _ = d ∧ _ = v := by simpa using hk
       exact no_way hS hSi
      · simp at hk)
     exact Or.inr (Or.inr (Or.inl (⟨un rfl hw4, upd_self _ _, un rfl hw6, un rfl hw8, s7004, v47, hl7004, hm47.step ht47 h47.fr.defers (h47.fr.at_ 23 _ rfl) 5 rfl rfl rfl rfl, (h47.sh.sel (L' := [.deep 64 (⟨v47, [s7004]⟩ : Ls (Ls Ins)), .blk b31 3 [.int .i64 ((t : Nat) : Int)], .blk b8 28 [vq, words.v, .int .i64 locks, .int .i64 regs], .blk b5 28 [(.slice none 0 0), (.slice none 0 0), .int .i64 0, .int .i64 0], .blk b4 108 [.func (.func bf) us.toArray ws.toArray], .blk b3 28 [code.v, words.v, .int .i64 locks, .int .i64 regs], .at_ code, .at_ words, Env, .deep 64 (⟨vq, qs⟩ : Ls (Ls Ins))]) [0, 1, 2, 3, 4, 5, 6, 7, 8, 9] (by decide) ⟨rfl, rfl, rfl, rfl, rfl, rfl, rfl, rfl, rfl, rfl, trivial⟩)⟩)))
    ·
     exact no_way hw5 hSi
    ·
     exact no_way hw5 hSi
    ·
     exact no_way hw5 hSi
   ·
    obtain rfl : _ = o := Option.some.inj ho
    have hd1 : S 1 = true := depAt hdep 0 rfl rfl
    have hd5 : S 5 = true := depAt hdep 1 rfl rfl
    have hd4 : S 4 = true := depAt hdep 2 rfl rfl
    rcases hI with ⟨hw4, hw5, hw6, hw8, hfr, hsh⟩ | ⟨hw4, hw5, hw6, hw8, s7004, hl7004, hfr, hsh⟩ | ⟨hw4, hw5, hw6, hw8, s7004, v7005, hl7004, hfr, hsh⟩ | ⟨hw4, hw5, hw6, hw8, s7004, v7005, v7006, hl7004, hfr, hsh⟩ | ⟨hw4, hw5, hw6, hw8, s7004, v7005, v7006, hl7004, hfr, hsh⟩
    ·
     exact no_way hd4 hw4
    ·
     exact no_way hd5 hw5
    ·
     have hs := St.mk (Fr.cons (Fr.cons hfr.fr0 (hfr.at_ 1 1 19 _ rfl hd1)) (hfr.at_ 5 5 23 _ rfl hd5)) hsh
     have h48 := hs.sel (L' := [.deep 64 (⟨vq, qs⟩ : Ls (Ls Ins)), .deep 64 (⟨v7005, [s7004]⟩ : Ls (Ls Ins)), .blk b31 3 [.int .i64 ((t : Nat) : Int)], .blk b8 28 [vq, words.v, .int .i64 locks, .int .i64 regs], .blk b5 28 [(.slice none 0 0), (.slice none 0 0), .int .i64 0, .int .i64 0], .blk b4 108 [.func (.func bf) us.toArray ws.toArray], .blk b3 28 [code.v, words.v, .int .i64 locks, .int .i64 regs], .at_ code, .at_ words, Env]) [9, 0, 1, 2, 3, 4, 5, 6, 7, 8] (by decide) ⟨rfl, rfl, rfl, rfl, rfl, rfl, rfl, rfl, rfl, rfl, trivial⟩
     refine step_ex (x_appD (s := (⟨vq, qs⟩ : Ls (Ls Ins))) (m := (⟨v7005, [s7004]⟩ : Ls (Ls Ins))) h48 sl_26 ti_64 rfl rfl rfl rfl rfl rfl rfl inferInstance (show (qs.length + ([s7004]).length) * 24 ≤ 140737488355328 ∧ qs.length + ([s7004]).length ≤ 140737488355328 from (by first | omega | (simp only [List.length_append, List.length_cons, List.length_nil, List.length_set, List.length_replicate, List.length_map, List.length_range]; omega))) rfl rfl) (wanted_none rfl _) ?_
     rintro a49 w49 ⟨v49, h49⟩ ⟨v0, ht49⟩
     have hm49 : FrI 32 S [(2, .pointer (some ⟨b3, 0, none⟩)), (3, .pointer (some ⟨b4, 0, none⟩)), (4, .pointer (some ⟨b5, 0, none⟩)), (5, .pointer (some ⟨b8, 0, none⟩)), (6, .pointer (some ⟨b31, 0, none⟩)), (7, (nth code.l t).v), (11, code.v), (12, .int .i64 ((code.l.length : Nat) : Int)), (13, .int .i64 ((t : Nat) : Int)), (14, .bool (decide (t < code.l.length))), (15, .int .i64 ((t : Nat) : Int)), (16, .pointer (some (padr code.v 1 t 0))), (17, (nth code.l t).v)] [(0, 18, .pointer (some ⟨b8, 0, none⟩)), (1, 19, vq), (2, 20, (nth code.l t).v), (3, 21, .func (.func 102) #[] #[.pointer (some ⟨b4, 0, none⟩), .pointer (some ⟨b31, 0, none⟩)]), (4, 22, s7004.v), (5, 23, v7005), (6, 24, v49), (7, 25, .pointer (some ⟨b8, 0, none⟩))] a := hfr.more (by
      intro k j d v hk hS
      rcases k with _ | _ | _ | _ | _ | _ | _ | _ | k
      ·obtain ⟨rfl, rfl, rfl⟩ : _ = j ∧ _ = d ∧ _ = v := by simpa using hk
       exact hfr.at_ 0 _ _ _ rfl hS
      ·obtain ⟨rfl, rfl, rfl⟩ : _ = j ∧ _ = d ∧ _ = v := by simpa using hk
       exact hfr.at_ 1 _ _ _ rfl hS
      ·obtain ⟨rfl, rfl, rfl⟩ : _ = j ∧ _ = d ∧ _ = v := by simpa using hk
       exact hfr.at_ 2 _ _ _ rfl hS
      ·obtain ⟨rfl, rfl, rfl⟩ : _ = j ∧ _ = d ∧ _ = v := by simpa using hk
       exact hfr.at_ 3 _ _ _ rfl hS
      ·obtain ⟨rfl, rfl, rfl⟩ : _ = j ∧ _ = d ∧ _ = v := by simpa using hk
       exact hfr.at_ 4 _ _ _ rfl hS
      ·obtain ⟨rfl, rfl, rfl⟩ : _ = j ∧ _ = d ∧ _ = v := by simpa using hk
       exact hfr.at_ 5 _ _ _ rfl hS
      ·obtain ⟨rfl, rfl, rfl⟩ : _ = j ∧ _ = d ∧ _ = v := by simpa using hk
       exact no_way hS hSi
      ·obtain ⟨rfl, rfl, rfl⟩ : _ = j ∧ _ = d ∧ _ = v := by simpa using hk
       exact no_way (cA hcl 7 6 rfl hS) hSi
      · simp at hk)
     exact Or.inr (Or.inr (Or.inr (Or.inl (⟨un rfl hw4, un rfl hw5, upd_self _ _, un rfl hw8, s7004, v7005, v49, hl7004, hm49.step ht49 h49.fr.defers (h49.fr.at_ 24 _ rfl) 6 rfl rfl rfl rfl, (h49.sh.sel (L' := [.deep 64 (⟨v49, qs ++ ([s7004])⟩ : Ls (Ls Ins)), .blk b31 3 [.int .i64 ((t : Nat) : Int)], .blk b8 28 [vq, words.v, .int .i64 locks, .int .i64 regs], .blk b5 28 [(.slice none 0 0), (.slice none 0 0), .int .i64 0, .int .i64 0], .blk b4 108 [.func (.func bf) us.toArray ws.toArray], .blk b3 28 [code.v, words.v, .int .i64 locks, .int .i64 regs], .at_ code, .at_ words, Env]) [0, 1, 2, 3, 4, 5, 6, 7, 8] (by decide) ⟨rfl, rfl, rfl, rfl, rfl, rfl, rfl, rfl, rfl, trivial⟩)⟩))))
    ·
     exact no_way hw6 hSi
    ·
     exact no_way hw6 hSi
   ·
    obtain rfl : _ = o := Option.some.inj ho
    have hd4 : S 4 = true := depAt hdep 4 rfl rfl
    have hd5 : S 5 = true := depAt hdep 5 rfl rfl
    have hd6 : S 6 = true := depAt hdep 6 rfl rfl
    rcases hI with ⟨hw4, hw5, hw6, hw8, hfr, hsh⟩ | ⟨hw4, hw5, hw6, hw8, s7004, hl7004, hfr, hsh⟩ | ⟨hw4, hw5, hw6, hw8, s7004, v7005, hl7004, hfr, hsh⟩ | ⟨hw4, hw5, hw6, hw8, s7004, v7005, v7006, hl7004, hfr, hsh⟩ | ⟨hw4, hw5, hw6, hw8, s7004, v7005, v7006, hl7004, hfr, hsh⟩
    ·
     exact no_way hd4 hw4
    ·
     exact no_way hd5 hw5
    ·
     exact no_way hd6 hw6
    ·
     exact sq hfr hfr.fr0 hsh (r_fieldB (r := 0) fl_28_0 rfl rfl rfl) 7 rfl rfl rfl rfl rfl rfl fun a hg => Or.inr (Or.inr (Or.inr (Or.inl (⟨un rfl hw4, un rfl hw5, un rfl hw6, un rfl hw8, s7004, v7005, v7006, hl7004, hg, hsh⟩))))
    ·
     exact no_way (cA hcl 8 7 rfl hw8) hSi
   ·
    obtain rfl : _ = o := Option.some.inj ho
    have hd7 : S 7 = true := depAt hdep 0 rfl rfl
    have hd6 : S 6 = true := depAt hdep 1 rfl rfl
    have hd4 : S 4 = true := depAt hdep 7 rfl rfl
    have hd5 : S 5 = true := depAt hdep 8 rfl rfl
    rcases hI with ⟨hw4, hw5, hw6, hw8, hfr, hsh⟩ | ⟨hw4, hw5, hw6, hw8, s7004, hl7004, hfr, hsh⟩ | ⟨hw4, hw5, hw6, hw8, s7004, v7005, hl7004, hfr, hsh⟩ | ⟨hw4, hw5, hw6, hw8, s7004, v7005, v7006, hl7004, hfr, hsh⟩ | ⟨hw4, hw5, hw6, hw8, s7004, v7005, v7006, hl7004, hfr, hsh⟩
    ·
     exact no_way hd4 hw4
    ·
     exact no_way hd5 hw5
    ·
     exact no_way hd6 hw6
    ·
     have hs := St.mk (Fr.cons (Fr.cons hfr.fr0 (hfr.at_ 6 6 24 _ rfl hd6)) (hfr.at_ 7 7 25 _ rfl hd7)) hsh
     refine step_ex (x_stb (i := 2) (vs := [v7006]) (cs' := [v7006, words.v, .int .i64 locks, .int .i64 regs]) hs ti_26 rfl rfl rfl rfl rfl (cells_oneL ((hs.sh.deep 0 rfl)).one) rfl (allOne_cons ((hs.sh.deep 0 rfl)).one allOne_nil) (Nat.le_of_ble_eq_true rfl) rfl) (wanted_none rfl _) ?_
     rintro a51 w51 h51 ⟨v0, ht51⟩
     have hm51 : FrI 32 S [(2, .pointer (some ⟨b3, 0, none⟩)), (3, .pointer (some ⟨b4, 0, none⟩)), (4, .pointer (some ⟨b5, 0, none⟩)), (5, .pointer (some ⟨b8, 0, none⟩)), (6, .pointer (some ⟨b31, 0, none⟩)), (7, (nth code.l t).v), (11, code.v), (12, .int .i64 ((code.l.length : Nat) : Int)), (13, .int .i64 ((t : Nat) : Int)), (14, .bool (decide (t < code.l.length))), (15, .int .i64 ((t : Nat) : Int)), (16, .pointer (some (padr code.v 1 t 0))), (17, (nth code.l t).v)] [(0, 18, .pointer (some ⟨b8, 0, none⟩)), (1, 19, vq), (2, 20, (nth code.l t).v), (3, 21, .func (.func 102) #[] #[.pointer (some ⟨b4, 0, none⟩), .pointer (some ⟨b31, 0, none⟩)]), (4, 22, s7004.v), (5, 23, v7005), (6, 24, v7006), (7, 25, .pointer (some ⟨b8, 0, none⟩))] a := hfr.more (by
      intro k j d v hk hS
      rcases k with _ | _ | _ | _ | _ | _ | _ | _ | k
      ·obtain ⟨rfl, rfl, rfl⟩ : _ = j ∧ _ = d ∧ _ = v := by simpa using hk
       exact hfr.at_ 0 _ _ _ rfl hS
      ·obtain ⟨rfl, rfl, rfl⟩ : _ = j ∧ _ = d ∧ _ = v := by simpa using hk
       exact hfr.at_ 1 _ _ _ rfl hS
      ·obtain ⟨rfl, rfl, rfl⟩ : _ = j ∧ _ = d ∧ _ = v := by simpa using hk
       exact hfr.at_ 2 _ _ _ rfl hS
      ·obtain ⟨rfl, rfl, rfl⟩ : _ = j ∧ _ = d ∧ _ = v := by simpa using hk
       exact hfr.at_ 3 _ _ _ rfl hS
      ·obtain ⟨rfl, rfl, rfl⟩ : _ = j ∧ _ = d ∧ _ = v := by simpa using hk
       exact hfr.at_ 4 _ _ _ rfl hS
      ·obtain ⟨rfl, rfl, rfl⟩ : _ = j ∧ _ = d ∧ _ = v := by simpa using hk
       exact hfr.at_ 5 _ _ _ rfl hS
      ·obtain ⟨rfl, rfl, rfl⟩ : _ = j ∧ _ = d ∧ _ = v := by simpa using hk
       exact hfr.at_ 6 _ _ _ rfl hS
      ·obtain ⟨rfl, rfl, rfl⟩ : _ = j ∧ _ = d ∧ _ = v := by simpa using hk
       exact hfr.at_ 7 _ _ _ rfl hS
      · simp at hk)
     exact Or.inr (Or.inr (Or.inr (Or.inr (⟨un rfl hw4, un rfl hw5, un rfl hw6, upd_self _ _, s7004, v7005, v7006, hl7004, hm51.none ht51 h51.fr.defers rfl, (h51.sh.sel (L' := [.deep 64 (⟨v7006, qs ++ ([s7004])⟩ : Ls (Ls Ins)), .blk b31 3 [.int .i64 ((t : Nat) : Int)], .blk b8 28 [v7006, words.v, .int .i64 locks, .int .i64 regs], .blk b5 28 [(.slice none 0 0), (.slice none 0 0), .int .i64 0, .int .i64 0], .blk b4 108 [.func (.func bf) us.toArray ws.toArray], .blk b3 28 [code.v, words.v, .int .i64 locks, .int .i64 regs], .at_ code, .at_ words, Env]) [0, 1, 2, 3, 4, 5, 6, 7, 8] (by decide) ⟨rfl, rfl, rfl, rfl, rfl, rfl, rfl, rfl, rfl, trivial⟩)⟩))))
    ·
     exact no_way hw8 hSi
   · simp at ho
  intro S hall a w hI
  clear h34
  rcases hI with ⟨hw4, hw5, hw6, hw8, hfr, hsh⟩ | ⟨hw4, hw5, hw6, hw8, s7004, hl7004, hfr, hsh⟩ | ⟨hw4, hw5, hw6, hw8, s7004, v7005, hl7004, hfr, hsh⟩ | ⟨hw4, hw5, hw6, hw8, s7004, v7005, v7006, hl7004, hfr, hsh⟩ | ⟨hw4, hw5, hw6, hw8, s7004, v7005, v7006, hl7004, hfr, hsh⟩
  · exact no_way (hall 4 (by decide)) hw4
  · exact no_way (hall 5 (by decide)) hw5
  · exact no_way (hall 6 (by decide)) hw6
  · exact no_way (hall 8 (by decide)) hw8
  have h52 : St 32 (fun _ => False) W a w _ [.deep 64 (⟨v7006, qs ++ ([s7004])⟩ : Ls (Ls Ins)), .blk b31 3 [.int .i64 ((t : Nat) : Int)], .blk b8 28 [v7006, words.v, .int .i64 locks, .int .i64 regs], .blk b5 28 [(.slice none 0 0), (.slice none 0 0), .int .i64 0, .int .i64 0], .blk b4 108 [.func (.func bf) us.toArray ws.toArray], .blk b3 28 [code.v, words.v, .int .i64 locks, .int .i64 regs], .at_ code, .at_ words, Env] := ⟨hfr.fr0, hsh⟩
  clear hall hfr hsh hw4 hw5 hw6 hw8
  refine hK26 _ _ ?_
  refine wp_region_lit ?_
  refine wv h52 (r_addN (p := t) (q := 1) rfl rfl rfl (show t + 1 < 9223372036854775808 from (by omega))) rfl rfl fun a53 h53 => ?_; clear h52
  refine wms 1 h53 rfl fun a54 h54 => ?_; clear h53
  refine wpList_nil ?_
  refine x_again ⟨_, ?_, t + 1, qs ++ ([s7004]), v7006, ?_, ?_, ?_, ((h54.sub (F' := [(2, .pointer (some ⟨b3, 0, none⟩)), (3, .pointer (some ⟨b4, 0, none⟩)), (4, .pointer (some ⟨b5, 0, none⟩)), (5, .pointer (some ⟨b8, 0, none⟩)), (11, code.v), (12, .int .i64 ((code.l.length : Nat) : Int)), (13, .int .i64 ((t + 1 : Nat) : Int))]) ⟨rfl, rfl, rfl, rfl, rfl, rfl, rfl, trivial⟩).sel (L' := [.blk b8 28 [v7006, words.v, .int .i64 locks, .int .i64 regs], .blk b5 28 [(.slice none 0 0), (.slice none 0 0), .int .i64 0, .int .i64 0], .blk b4 108 [.func (.func bf) us.toArray ws.toArray], .blk b3 28 [code.v, words.v, .int .i64 locks, .int .i64 regs], .at_ code, .at_ words, Env, .deep 64 (⟨v7006, qs ++ ([s7004])⟩ : Ls (Ls Ins))]) [2, 3, 4, 5, 6, 7, 8, 0] (by decide) ⟨rfl, rfl, rfl, rfl, rfl, rfl, rfl, rfl, trivial⟩), rfl⟩
  · rw [hm20]; first | omega | (simp only [List.length_append, List.length_cons, List.length_nil, List.length_set, List.length_replicate, List.length_map, List.length_range]; omega)
  · omega
  · rw [List.map_append, hqs, List.range_succ, List.map_append]; simp only [List.map_cons, List.map_nil]; rw [← fen_put]; simp only [*]
  · simp [hql]
 ·
  have hp25 : ¬ (t < code.l.length) := of_decide_eq_false hb25
  refine wp_exit ?_
  refine hK13 _ _ ?_
  refine wp_seq_k fun K55 hK55 => ?_
  refine wp_region_lit ?_
  refine wv h23 (r_fieldB (r := 1) fl_28_1 rfl rfl rfl) rfl rfl fun a56 h56 => ?_; clear h23
  refine wv h56 (r_ldb (i := 3) ti_24 rfl rfl rfl rfl) rfl rfl fun a57 h57 => ?_; clear h56
  refine wl_ex (x_call h57 bd_58 rfl rfl rfl rfl rfl (cloneI_c words _ (h57.sh.at 5 rfl) (by first | omega | (simp only [List.length_append, List.length_cons, List.length_nil, List.length_set, List.length_replicate, List.length_map, List.length_range]; omega)))) (wanted_none rfl _) ?_
  rintro a58 w58 ⟨_, ⟨s58, rfl, hs58⟩, hf58⟩
  have h58 := (⟨hf58, h57.sh.call hs58 (by intro A hA b hb; first | (simp at hA; done) | (simp at hA; subst hA; first | exact Flat.noRd hb | exact (hb : False).elim) | (simp at hA; rcases hA with rfl | rfl <;> first | exact Flat.noRd hb | exact (hb : False).elim))⟩ : St 32 (fun _ => False) W a58 w58 _ _)
  clear hf58 hs58
  clear h57
  refine wv h58 (r_fieldB (r := 1) fl_28_1 rfl rfl rfl) rfl rfl fun a59 h59 => ?_; clear h58
  refine wl_ex (x_stb (i := 1) (vs := [s58.v]) (cs' := [vq, s58.v, .int .i64 locks, .int .i64 regs]) h59 ti_24 rfl rfl rfl rfl rfl (cells_oneL ((h59.sh.own 0 rfl)).one) rfl (allOne_cons ((h59.sh.own 0 rfl)).one allOne_nil) (Nat.le_of_ble_eq_true rfl) rfl) (wanted_none rfl _) ?_
  rintro a60 w60 h60
  clear h59
  refine wpList_nil ?_
  refine hK55 _ _ ?_
  refine wp_seq_k fun K61 hK61 => ?_
  refine wp_region_lit ?_
  refine wv h60 (r_ldbw (i := 1) (vs := [vq, s58.v, .int .i64 locks, .int .i64 regs]) ti_28 rfl rfl rfl rfl rfl) rfl rfl fun a62 h62 => ?_; clear h60
  refine wl_ex (x_stb (i := 2) (vs := [vq, s58.v, .int .i64 locks, .int .i64 regs]) (cs' := [vq, s58.v, .int .i64 locks, .int .i64 regs]) h62 ti_28 rfl rfl rfl rfl rfl rfl rfl (allOne_cons ((h62.sh.deep 8 rfl)).one (allOne_cons ((h62.sh.own 0 rfl)).one (allOne_cons rfl (allOne_cons rfl allOne_nil)))) (Nat.le_of_ble_eq_true rfl) rfl) (wanted_none rfl _) ?_
  rintro a63 w63 h63
  clear h62
  refine wpList_nil ?_
  refine hK61 _ _ ?_
  refine wp_ret ?_
  try simp only [Exit.then, Exit.inBlock]
  refine x_ret1c (fn := Try.f64) (t := 4) (i := 2) ti_28 rfl h63 rfl rfl rfl ?_
  refine ⟨⟨vq, qs⟩, ⟨s58.v, words.l⟩, rfl, ?_, rfl, (h63.sh.sel (L' := [.deep 64 (⟨vq, qs⟩ : Ls (Ls Ins)), .own 3 (⟨s58.v, words.l⟩ : Ls Int)]) [8, 0] (by decide) ⟨rfl, rfl, trivial⟩)⟩
  show qs.map (·.l) = _; rw [hqs, show t = code.l.length by omega]

set_option maxRecDepth 100000 in
set_option maxHeartbeats 1000000 in
theorem sized_k (code : Ls (Ls Ins)) (words : Ls Int) (locks regs : Int) (W : World) (hcode : code.At W) (hwords : words.At W) (hcl : code.l.length ≤ 100000) (hsh : ∀ j, j < code.l.length → (nth code.l j).l.length ≤ 400) :
    Rets Try.prog 63 [.agg #[code.v, words.v, .int .i64 locks, .int .i64 regs]] W (fun v w' => v = .tuple #[.agg #[code.v, words.v, .int .i64 locks, .int .i64 regs], .agg #[.int .i64 0, .int .i64 0, .int .i64 0]] ∧ Sh0 W w' []) := by
 refine x_enter (N := 23) Try.func63 rfl Try.ntmps63 (Nat.le_of_ble_eq_true rfl) fun a1 hf1 => ?_
 have h1 : St 23 (fun _ => False) W a1 W [(0, .agg #[code.v, words.v, .int .i64 locks, .int .i64 regs])] [.at_ code, .at_ words] := ⟨hf1.sub ⟨rfl, trivial⟩, Sh0.ext2 hcode hwords⟩
 clear hf1
 refine wp_seq_k fun K2 hK2 => ?_
 refine wp_region_lit ?_
 refine wl_ex (x_box (cs := [code.v, words.v, .int .i64 locks, .int .i64 regs]) h1 rfl rfl rfl rfl rfl) (wanted_none rfl _) ?_
 rintro a3 w3 ⟨b3, h3⟩; clear h1
 refine wl_ex (x_alloc h3 ti_28 rfl rfl rfl) (wanted_none rfl _) ?_
 rintro a4 w4 ⟨b4, h4⟩; clear h3
 refine wl_ex (x_alloc h4 ti_31 rfl rfl rfl) (wanted_none rfl _) ?_
 rintro a5 w5 ⟨b5, h5⟩; clear h4
 refine wpList_nil ?_
 refine hK2 _ _ ?_
 refine wp_seq_k fun K6 hK6 => ?_
 refine wp_seq_k fun K7 hK7 => ?_
 refine wp_region_lit ?_
 refine wv h5 (r_fieldB (r := 0) fl_28_0 rfl rfl rfl) rfl rfl fun a8 h8 => ?_; clear h5
 refine wv h8 (r_ldb (i := 2) ti_26 rfl rfl rfl rfl) rfl rfl fun a9 h9 => ?_; clear h8
 have hl10 : code.l.length ≤ 140737488355328 := (h9.sh.at 3 rfl).len
 refine wv h9 (r_len (s := code) (n := code.l.length) sl_26 rfl rfl (fun w h => (h.at 3 rfl)) rfl) rfl rfl fun a11 h11 => ?_; clear h9
 refine wms 1 h11 rfl fun a12 h12 => ?_; clear h11
 refine wpList_nil ?_
 refine hK7 _ _ ?_
 refine wp_block ?_
 refine x_loop (fun m a w => ∃ (t : Nat), (t ≤ code.l.length) ∧ St 23 (fun _ => False) W a w [(1, .pointer (some ⟨b3, 0, none⟩)), (2, .pointer (some ⟨b4, 0, none⟩)), (3, .pointer (some ⟨b5, 0, none⟩)), (7, code.v), (8, .int .i64 ((code.l.length : Nat) : Int)), (9, .int .i64 ((t : Nat) : Int))] [.blk b5 31 [.int .i64 0, .int .i64 0, .int .i64 0], .blk b4 28 [(.slice none 0 0), (.slice none 0 0), .int .i64 0, .int .i64 0], .blk b3 28 [code.v, words.v, .int .i64 locks, .int .i64 regs], .at_ code, .at_ words] ∧ m = code.l.length - t) ⟨_, 0, (by omega), ((h12.sub (F' := [(1, .pointer (some ⟨b3, 0, none⟩)), (2, .pointer (some ⟨b4, 0, none⟩)), (3, .pointer (some ⟨b5, 0, none⟩)), (7, code.v), (8, .int .i64 ((code.l.length : Nat) : Int)), (9, .int .i64 0)]) ⟨rfl, rfl, rfl, rfl, rfl, rfl, trivial⟩).sel (L' := [.blk b5 31 [.int .i64 0, .int .i64 0, .int .i64 0], .blk b4 28 [(.slice none 0 0), (.slice none 0 0), .int .i64 0, .int .i64 0], .blk b3 28 [code.v, words.v, .int .i64 locks, .int .i64 regs], .at_ code, .at_ words]) [0, 1, 2, 3, 4] (by decide) ⟨rfl, rfl, rfl, rfl, rfl, trivial⟩), rfl⟩ ?_
 clear h12
 rintro m13 a13 w13 ⟨t, ht, h13, hm13⟩
 refine wp_seq_k fun K14 hK14 => ?_
 refine wp_region_lit ?_
 refine wv h13 (r_lssN (p := t) (q := code.l.length) rfl rfl rfl) rfl rfl fun a15 h15 => ?_; clear h13
 refine wpList_nil ?_
 refine hK14 _ _ ?_
 refine wp_seq_k fun K16 hK16 => ?_
 refine x_cond h15 rfl (fun hb17 => ?_) (fun hb17 => ?_)
 ·
  have hp17 : t < code.l.length := of_decide_eq_true hb17
  refine wp_skip ?_
  refine hK16 _ _ ?_
  refine wp_seq_k fun K18 hK18 => ?_
  refine wp_block ?_
  refine wp_seq_k fun K19 hK19 => ?_
  refine wp_region_lit ?_
  refine wms 1 h15 rfl fun a20 h20 => ?_; clear h15
  refine wv h20 (r_ixN (s := code) (q := t) sl_26 ti_64 rfl rfl rfl (fun w h => (h.at 3 rfl)) (show t < code.l.length from (by omega))) rfl rfl fun a21 h21 => ?_; clear h20
  refine wv h21 (r_lde (s := code) (i := t) (v := (nth code.l t).v) ti_64 rfl rfl rfl (fun w h => (h.at 3 rfl)) (show t < code.l.length from (by omega)) (Nat.le_of_ble_eq_true rfl) rfl) rfl rfl fun a22 h22 => ?_; clear h21
  refine wms 2 h22 rfl fun a23 h23 => ?_; clear h22
  refine wpList_nil ?_
  refine hK19 _ _ ?_
  refine wp_seq_k fun K24 hK24 => ?_
  refine wp_region_lit ?_
  refine wms 1 h23 rfl fun a25 h25 => ?_; clear h23
  have hl26 : ((nth code.l t).l).length ≤ 140737488355328 := ((h25.sh.at 3 rfl).nth t (show t < code.l.length from (by omega))).len
  refine wv h25 (r_len (s := nth code.l t) (n := ((nth code.l t).l).length) sl_64 rfl rfl (fun w h => ((h.at 3 rfl).nth t (show t < code.l.length from (by omega)))) rfl) rfl rfl fun a27 h27 => ?_; clear h25
  refine wv h27 (r_gtrN (p := ((nth code.l t).l).length) (q := 400) rfl rfl rfl) rfl rfl fun a28 h28 => ?_; clear h27
  refine wpList_nil ?_
  refine hK24 _ _ ?_
  refine x_cond h28 rfl (fun hb29 => ?_) (fun hb29 => ?_)
  ·
   have hp29 : 400 < ((nth code.l t).l).length := of_decide_eq_true hb29
   exfalso
   have := hsh t (by omega); omega
  ·
   have hp29 : ¬ (400 < ((nth code.l t).l).length) := of_decide_eq_false hb29
   refine wp_skip ?_
   refine hK18 _ _ ?_
   refine wp_region_lit ?_
   refine wv h28 (r_addN (p := t) (q := 1) rfl rfl rfl (show t + 1 < 9223372036854775808 from (by omega))) rfl rfl fun a30 h30 => ?_; clear h28
   refine wms 1 h30 rfl fun a31 h31 => ?_; clear h30
   refine wpList_nil ?_
   refine x_again ⟨_, ?_, t + 1, ?_, ((h31.sub (F' := [(1, .pointer (some ⟨b3, 0, none⟩)), (2, .pointer (some ⟨b4, 0, none⟩)), (3, .pointer (some ⟨b5, 0, none⟩)), (7, code.v), (8, .int .i64 ((code.l.length : Nat) : Int)), (9, .int .i64 ((t + 1 : Nat) : Int))]) ⟨rfl, rfl, rfl, rfl, rfl, rfl, trivial⟩).sel (L' := [.blk b5 31 [.int .i64 0, .int .i64 0, .int .i64 0], .blk b4 28 [(.slice none 0 0), (.slice none 0 0), .int .i64 0, .int .i64 0], .blk b3 28 [code.v, words.v, .int .i64 locks, .int .i64 regs], .at_ code, .at_ words]) [0, 1, 2, 3, 4] (by decide) ⟨rfl, rfl, rfl, rfl, rfl, trivial⟩), rfl⟩
   · rw [hm13]; first | omega | (simp only [List.length_append, List.length_cons, List.length_nil, List.length_set, List.length_replicate, List.length_map, List.length_range]; omega)
   · omega
 ·
  have hp17 : ¬ (t < code.l.length) := of_decide_eq_false hb17
  refine wp_exit ?_
  refine hK6 _ _ ?_
  refine wp_seq_k fun K32 hK32 => ?_
  refine wp_region_lit ?_
  refine wv h15 (r_ldbw (i := 2) (vs := [code.v, words.v, .int .i64 locks, .int .i64 regs]) ti_28 rfl rfl rfl rfl rfl) rfl rfl fun a33 h33 => ?_; clear h15
  refine wv h33 (r_build (cs := [.int .i64 0, .int .i64 0, .int .i64 0]) rfl rfl (by kernel_rfl)) rfl rfl fun a34 h34 => ?_; clear h33
  refine wl_ex (x_stb (i := 1) (vs := [code.v, words.v, .int .i64 locks, .int .i64 regs]) (cs' := [code.v, words.v, .int .i64 locks, .int .i64 regs]) h34 ti_28 rfl rfl rfl rfl rfl rfl rfl (allOne_cons ((h34.sh.at 3 rfl)).one (allOne_cons ((h34.sh.at 4 rfl)).one (allOne_cons rfl (allOne_cons rfl allOne_nil)))) (Nat.le_of_ble_eq_true rfl) rfl) (wanted_none rfl _) ?_
  rintro a35 w35 h35
  clear h34
  refine wl_ex (x_stb (i := 0) (vs := [.int .i64 0, .int .i64 0, .int .i64 0]) (cs' := [.int .i64 0, .int .i64 0, .int .i64 0]) h35 ti_31 rfl rfl rfl rfl rfl rfl rfl (allOne_cons rfl (allOne_cons rfl (allOne_cons rfl allOne_nil))) (Nat.le_of_ble_eq_true rfl) rfl) (wanted_none rfl _) ?_
  rintro a36 w36 h36
  clear h35
  refine wpList_nil ?_
  refine hK32 _ _ ?_
  refine wp_ret ?_
  try simp only [Exit.then, Exit.inBlock]
  refine x_ret2c (fn := Try.f63) (t := 2) (t2 := 3) (i := 1) (i2 := 0) ti_28 ti_31 rfl h36 rfl rfl rfl rfl rfl rfl ?_
  exact ⟨rfl, (h36.sh.sel [] (by decide) trivial)⟩

set_option maxRecDepth 100000 in
set_option maxHeartbeats 1000000 in
theorem sized_l (code : Ls (Ls Ins)) (words : Ls Int) (locks regs : Int) (k : Nat) (W : World) (hcode : code.At W) (hwords : words.At W) (hcl : code.l.length ≤ 100000) (hk : k < code.l.length) (h4 : 400 < (nth code.l k).l.length) (hbef : ∀ j, j < k → (nth code.l j).l.length ≤ 400) :
    Rets Try.prog 63 [.agg #[code.v, words.v, .int .i64 locks, .int .i64 regs]] W (fun v w' => v = .tuple #[.agg #[.slice none 0 0, .slice none 0 0, .int .i64 0, .int .i64 0], (⟨1, k, 0⟩ : Flt).val] ∧ Sh0 W w' []) := by
 refine x_enter (N := 23) Try.func63 rfl Try.ntmps63 (Nat.le_of_ble_eq_true rfl) fun a1 hf1 => ?_
 have h1 : St 23 (fun _ => False) W a1 W [(0, .agg #[code.v, words.v, .int .i64 locks, .int .i64 regs])] [.at_ code, .at_ words] := ⟨hf1.sub ⟨rfl, trivial⟩, Sh0.ext2 hcode hwords⟩
 clear hf1
 refine wp_seq_k fun K2 hK2 => ?_
 refine wp_region_lit ?_
 refine wl_ex (x_box (cs := [code.v, words.v, .int .i64 locks, .int .i64 regs]) h1 rfl rfl rfl rfl rfl) (wanted_none rfl _) ?_
 rintro a3 w3 ⟨b3, h3⟩; clear h1
 refine wl_ex (x_alloc h3 ti_28 rfl rfl rfl) (wanted_none rfl _) ?_
 rintro a4 w4 ⟨b4, h4⟩; clear h3
 refine wl_ex (x_alloc h4 ti_31 rfl rfl rfl) (wanted_none rfl _) ?_
 rintro a5 w5 ⟨b5, h5⟩; clear h4
 refine wpList_nil ?_
 refine hK2 _ _ ?_
 refine wp_seq_k fun K6 hK6 => ?_
 refine wp_seq_k fun K7 hK7 => ?_
 refine wp_region_lit ?_
 refine wv h5 (r_fieldB (r := 0) fl_28_0 rfl rfl rfl) rfl rfl fun a8 h8 => ?_; clear h5
 refine wv h8 (r_ldb (i := 2) ti_26 rfl rfl rfl rfl) rfl rfl fun a9 h9 => ?_; clear h8
 have hl10 : code.l.length ≤ 140737488355328 := (h9.sh.at 3 rfl).len
 refine wv h9 (r_len (s := code) (n := code.l.length) sl_26 rfl rfl (fun w h => (h.at 3 rfl)) rfl) rfl rfl fun a11 h11 => ?_; clear h9
 refine wms 1 h11 rfl fun a12 h12 => ?_; clear h11
 refine wpList_nil ?_
 refine hK7 _ _ ?_
 refine wp_block ?_
 refine x_loop (fun m a w => ∃ (t : Nat), (t ≤ k) ∧ St 23 (fun _ => False) W a w [(1, .pointer (some ⟨b3, 0, none⟩)), (2, .pointer (some ⟨b4, 0, none⟩)), (3, .pointer (some ⟨b5, 0, none⟩)), (7, code.v), (8, .int .i64 ((code.l.length : Nat) : Int)), (9, .int .i64 ((t : Nat) : Int))] [.blk b5 31 [.int .i64 0, .int .i64 0, .int .i64 0], .blk b4 28 [(.slice none 0 0), (.slice none 0 0), .int .i64 0, .int .i64 0], .blk b3 28 [code.v, words.v, .int .i64 locks, .int .i64 regs], .at_ code, .at_ words] ∧ m = code.l.length - t) ⟨_, 0, (by omega), ((h12.sub (F' := [(1, .pointer (some ⟨b3, 0, none⟩)), (2, .pointer (some ⟨b4, 0, none⟩)), (3, .pointer (some ⟨b5, 0, none⟩)), (7, code.v), (8, .int .i64 ((code.l.length : Nat) : Int)), (9, .int .i64 0)]) ⟨rfl, rfl, rfl, rfl, rfl, rfl, trivial⟩).sel (L' := [.blk b5 31 [.int .i64 0, .int .i64 0, .int .i64 0], .blk b4 28 [(.slice none 0 0), (.slice none 0 0), .int .i64 0, .int .i64 0], .blk b3 28 [code.v, words.v, .int .i64 locks, .int .i64 regs], .at_ code, .at_ words]) [0, 1, 2, 3, 4] (by decide) ⟨rfl, rfl, rfl, rfl, rfl, trivial⟩), rfl⟩ ?_
 clear h12
 rintro m13 a13 w13 ⟨t, ht, h13, hm13⟩
 refine wp_seq_k fun K14 hK14 => ?_
 refine wp_region_lit ?_
 refine wv h13 (r_lssN (p := t) (q := code.l.length) rfl rfl rfl) rfl rfl fun a15 h15 => ?_; clear h13
 refine wpList_nil ?_
 refine hK14 _ _ ?_
 refine wp_seq_k fun K16 hK16 => ?_
 refine x_cond h15 rfl (fun hb17 => ?_) (fun hb17 => ?_)
 ·
  have hp17 : t < code.l.length := of_decide_eq_true hb17
  refine wp_skip ?_
  refine hK16 _ _ ?_
  refine wp_seq_k fun K18 hK18 => ?_
  refine wp_block ?_
  refine wp_seq_k fun K19 hK19 => ?_
  refine wp_region_lit ?_
  refine wms 1 h15 rfl fun a20 h20 => ?_; clear h15
  refine wv h20 (r_ixN (s := code) (q := t) sl_26 ti_64 rfl rfl rfl (fun w h => (h.at 3 rfl)) (show t < code.l.length from (by omega))) rfl rfl fun a21 h21 => ?_; clear h20
  refine wv h21 (r_lde (s := code) (i := t) (v := (nth code.l t).v) ti_64 rfl rfl rfl (fun w h => (h.at 3 rfl)) (show t < code.l.length from (by omega)) (Nat.le_of_ble_eq_true rfl) rfl) rfl rfl fun a22 h22 => ?_; clear h21
  refine wms 2 h22 rfl fun a23 h23 => ?_; clear h22
  refine wpList_nil ?_
  refine hK19 _ _ ?_
  refine wp_seq_k fun K24 hK24 => ?_
  refine wp_region_lit ?_
  refine wms 1 h23 rfl fun a25 h25 => ?_; clear h23
  have hl26 : ((nth code.l t).l).length ≤ 140737488355328 := ((h25.sh.at 3 rfl).nth t (show t < code.l.length from (by omega))).len
  refine wv h25 (r_len (s := nth code.l t) (n := ((nth code.l t).l).length) sl_64 rfl rfl (fun w h => ((h.at 3 rfl).nth t (show t < code.l.length from (by omega)))) rfl) rfl rfl fun a27 h27 => ?_; clear h25
  refine wv h27 (r_gtrN (p := ((nth code.l t).l).length) (q := 400) rfl rfl rfl) rfl rfl fun a28 h28 => ?_; clear h27
  refine wpList_nil ?_
  refine hK24 _ _ ?_
  refine x_cond h28 rfl (fun hb29 => ?_) (fun hb29 => ?_)
  ·
   have hp29 : 400 < ((nth code.l t).l).length := of_decide_eq_true hb29
   refine wp_seq_k fun K30 hK30 => ?_
   refine wp_region_lit ?_
   refine wv h28 (r_build (cs := [(.slice none 0 0), (.slice none 0 0), .int .i64 0, .int .i64 0]) rfl rfl (by kernel_rfl)) rfl rfl fun a31 h31 => ?_; clear h28
   refine wms 1 h31 rfl fun a32 h32 => ?_; clear h31
   refine wv h32 (r_build (cs := [.int .i64 1, .int .i64 ((t : Nat) : Int), .int .i64 0]) rfl rfl (by kernel_rfl)) rfl rfl fun a33 h33 => ?_; clear h32
   refine wl_ex (x_stb (i := 1) (vs := [(.slice none 0 0), (.slice none 0 0), .int .i64 0, .int .i64 0]) (cs' := [(.slice none 0 0), (.slice none 0 0), .int .i64 0, .int .i64 0]) h33 ti_28 rfl rfl rfl rfl rfl rfl rfl (allOne_cons rfl (allOne_cons rfl (allOne_cons rfl (allOne_cons rfl allOne_nil)))) (Nat.le_of_ble_eq_true rfl) rfl) (wanted_none rfl _) ?_
   rintro a34 w34 h34
   clear h33
   refine wl_ex (x_stb (i := 0) (vs := [.int .i64 1, .int .i64 ((t : Nat) : Int), .int .i64 0]) (cs' := [.int .i64 1, .int .i64 ((t : Nat) : Int), .int .i64 0]) h34 ti_31 rfl rfl rfl rfl rfl rfl rfl (allOne_cons rfl (allOne_cons rfl (allOne_cons rfl allOne_nil))) (Nat.le_of_ble_eq_true rfl) rfl) (wanted_none rfl _) ?_
   rintro a35 w35 h35
   clear h34
   refine wpList_nil ?_
   refine hK30 _ _ ?_
   refine wp_ret ?_
   try simp only [Exit.then, Exit.inBlock]
   refine x_ret2c (fn := Try.f63) (t := 2) (t2 := 3) (i := 1) (i2 := 0) ti_28 ti_31 rfl h35 rfl rfl rfl rfl rfl rfl ?_
   have h9 : t = k := by rcases Nat.lt_or_ge t k with h | h; (have h8 := hbef t h; omega); omega
   subst h9
   exact ⟨rfl, (h35.sh.sel [] (by decide) trivial)⟩
  ·
   have hp29 : ¬ (400 < ((nth code.l t).l).length) := of_decide_eq_false hb29
   refine wp_skip ?_
   refine hK18 _ _ ?_
   refine wp_region_lit ?_
   refine wv h28 (r_addN (p := t) (q := 1) rfl rfl rfl (show t + 1 < 9223372036854775808 from (by omega))) rfl rfl fun a36 h36 => ?_; clear h28
   refine wms 1 h36 rfl fun a37 h37 => ?_; clear h36
   refine wpList_nil ?_
   refine x_again ⟨_, ?_, t + 1, ?_, ((h37.sub (F' := [(1, .pointer (some ⟨b3, 0, none⟩)), (2, .pointer (some ⟨b4, 0, none⟩)), (3, .pointer (some ⟨b5, 0, none⟩)), (7, code.v), (8, .int .i64 ((code.l.length : Nat) : Int)), (9, .int .i64 ((t + 1 : Nat) : Int))]) ⟨rfl, rfl, rfl, rfl, rfl, rfl, trivial⟩).sel (L' := [.blk b5 31 [.int .i64 0, .int .i64 0, .int .i64 0], .blk b4 28 [(.slice none 0 0), (.slice none 0 0), .int .i64 0, .int .i64 0], .blk b3 28 [code.v, words.v, .int .i64 locks, .int .i64 regs], .at_ code, .at_ words]) [0, 1, 2, 3, 4] (by decide) ⟨rfl, rfl, rfl, rfl, rfl, trivial⟩), rfl⟩
   · rw [hm13]; first | omega | (simp only [List.length_append, List.length_cons, List.length_nil, List.length_set, List.length_replicate, List.length_map, List.length_range]; omega)
   · have h9 : t ≠ k := (by rintro rfl; omega); omega
 ·
  have hp17 : ¬ (t < code.l.length) := of_decide_eq_false hb17
  exfalso
  omega

set_option maxRecDepth 100000 in
set_option maxHeartbeats 1000000 in
theorem full1_c (t i : Nat) (b : Nat) (code : Ls (Ls Ins)) (words : Ls Int) (locks regs : Int) (W : World) (ht : t < code.l.length) (hi : i < (nth code.l t).l.length) (hB : Blk W b 28 #[code.v, words.v, .int .i64 locks, .int .i64 regs]) (hc : code.At W) :
    Rets Try.prog 65 [.int .i64 ((t : Nat) : Int), .int .i64 ((i : Nat) : Int), .pointer (some ⟨b, 0, none⟩)] W (fun v w' => v = .bool (waitsB (nth (nth code.l t).l i).op) ∧ Sh0 W w' []) := by
 refine x_enter (N := 16) Try.func65 rfl Try.ntmps65 (Nat.le_of_ble_eq_true rfl) fun a1 hf1 => ?_
 have h1 : St 16 (fun _ => False) W a1 W [(0, .int .i64 ((t : Nat) : Int)), (1, .int .i64 ((i : Nat) : Int)), (2, .pointer (some ⟨b, 0, none⟩))] [.rblk b 28 [code.v, words.v, .int .i64 locks, .int .i64 regs], .at_ code] := ⟨hf1.sub ⟨rfl, rfl, rfl, trivial⟩, Sh0.ext (by intro A hA; simp at hA; rcases hA with rfl | rfl; exact hB; exact hc) (by intro A hA b hb; simp at hA; rcases hA with rfl | rfl <;> exact hb)⟩
 clear hf1
 refine wp_seq_k fun K2 hK2 => ?_
 refine wp_region_lit ?_
 refine wms 1 h1 rfl fun a3 h3 => ?_; clear h1
 refine wpList_nil ?_
 refine hK2 _ _ ?_
 refine wp_seq_k fun K4 hK4 => ?_
 refine wp_region_lit ?_
 refine wv h3 (r_fieldB (r := 0) fl_28_0 rfl rfl rfl) rfl rfl fun a5 h5 => ?_; clear h3
 refine wv h5 (r_ldbR ti_26 rfl rfl (fun w h => h.rblk 0 rfl) rfl) rfl rfl fun a6 h6 => ?_; clear h5
 refine wms 1 h6 rfl fun a7 h7 => ?_; clear h6
 have hl8 : code.l.length ≤ 140737488355328 := (h7.sh.at 1 rfl).len
 refine wv h7 (r_ixN (s := code) (q := t) sl_26 ti_64 rfl rfl rfl (fun w h => (h.at 1 rfl)) (show t < code.l.length from (by omega))) rfl rfl fun a9 h9 => ?_; clear h7
 refine wv h9 (r_lde (s := code) (i := t) (v := (nth code.l t).v) ti_64 rfl rfl rfl (fun w h => (h.at 1 rfl)) (show t < code.l.length from (by omega)) (Nat.le_of_ble_eq_true rfl) rfl) rfl rfl fun a10 h10 => ?_; clear h9
 refine wms 1 h10 rfl fun a11 h11 => ?_; clear h10
 have hl12 : ((nth code.l t).l).length ≤ 140737488355328 := ((h11.sh.at 1 rfl).nth t (show t < code.l.length from (by omega))).len
 refine wv h11 (r_ixN (s := nth code.l t) (q := i) sl_64 ti_73 rfl rfl rfl (fun w h => ((h.at 1 rfl).nth t (show t < code.l.length from (by omega)))) (show i < ((nth code.l t).l).length from (by omega))) rfl rfl fun a13 h13 => ?_; clear h11
 refine wv h13 (r_fieldE (r := 0) fl_73_0 rfl rfl rfl) rfl rfl fun a14 h14 => ?_; clear h13
 refine wv h14 (r_lde (s := nth code.l t) (i := i) (v := .int .i64 ((nth ((nth code.l t).l) i).op)) ti_3 rfl rfl rfl (fun w h => ((h.at 1 rfl).nth t (show t < code.l.length from (by omega)))) (show i < ((nth code.l t).l).length from (by omega)) (Nat.le_of_ble_eq_true rfl) rfl) rfl rfl fun a15 h15 => ?_; clear h14
 refine wl_ex (x_call h15 bd_66 rfl rfl rfl rfl rfl (waits_c ((nth ((nth code.l t).l) i).op) _)) (wanted_none rfl _) ?_
 rintro a16 w16 ⟨_, ⟨rfl, hs16⟩, hf16⟩
 have h16 : St 16 (fun _ => False) W a16 w16 _ _ := ⟨hf16, h15.sh.call0 hs16⟩
 clear hf16 hs16
 clear h15
 refine wms 1 h16 rfl fun a17 h17 => ?_; clear h16
 refine wpList_nil ?_
 refine hK4 _ _ ?_
 refine wp_ret ?_
 try simp only [Exit.then, Exit.inBlock]
 refine x_ret1 (fn := Try.f65) (t := 5) rfl h17 rfl ?_
 exact ⟨rfl, (h17.sh.sel [] (by decide) trivial)⟩

end Go.Proofs.Ytanhbpofhebbaaa
