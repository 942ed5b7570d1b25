/-
  Contracts of functions of this program and of the references, each walked once.
-/
import Derived.Test.YtanhbpofhebbaaaX36
import Derived.Test.YtanhbpofhebbaaaX34
import Derived.Test.YtanhbpofhebbaaaX6
namespace Go.Proofs.Ytanhbpofhebbaaa
open Go.RowKit
set_option linter.unusedSimpArgs false
set_option linter.unusedVariables false


theorem neq_flt (f g : Flt) (w : World) : (binOp .neq 31 f.val g.val).run Try.prog w = .ok (.bool (decide (f ≠ g))) w := by
  obtain ⟨a, b, c⟩ := f
  obtain ⟨a', b', c'⟩ := g
  simp [binOp, Flt.val, Op.equal, Op.maxDepth, go_sem]
  by_cases h1 : a = a' <;> by_cases h2 : b = b' <;> by_cases h3 : c = c' <;> simp [h1, h2, h3]
theorem neq_fltG (x y : Operand) (f g : Flt) (w : World) : (eqGuard .neq 31 x y f.val g.val).run Try.prog w = .ok () w := by
  simp [eqGuard, Flt.val]
  try kernel_rfl

theorem r_neqS {P : Program} {o : Oper} {N : Nat} {K : Nat → Prop} {W : World} {F : List (Nat × Value)} {L : List Asn} {T U : TypeId} {x y : Operand} {u v : Value} {b : Bool} (ho : o.op = .binOp .neq T x y U) (hx : ev F x = some u) (hy : ev F y = some v) (hg : ∀ w, (eqGuard .neq T x y u v).run P w = .ok () w) (hb : ∀ w, (binOp .neq T u v).run P w = .ok (.bool b) w) : Rn P o N K W F L (.bool b) := fun a w h => by
  unfold execOp
  simp only [ho, h.fr.ev hx, h.fr.ev hy, Sem.run_bind, Sem.run_pure, Result.andThen_ok, hg, hb]
theorem rets_nat {P : Program} {f : FuncId} {x : Value} {z : Int} {W : World} {R : Value → World → Prop} (h0 : 0 ≤ z) (h : Rets P f [x, .int .i64 ((z.toNat : Nat) : Int)] W R) : Rets P f [x, .int .i64 z] W R := by rwa [Int.toNat_of_nonneg h0] at h
theorem liveF3 (code : Ls (Ls Ins)) : ∃ f : Nat → Nat → Nat → Bool, ∀ t r j, (f t r j = true ↔ LiveI (nth code.l t).l r j) :=
  ⟨fun t => Classical.choose (liveF_ex (nth code.l t).l), fun t => Classical.choose_spec (liveF_ex (nth code.l t).l)⟩
theorem cl_lt {code : List Ins} {f : Nat → Nat → Bool} {regs : Int} (hok : OkV code regs) (hf : ∀ r j, (f r j = true ↔ LiveI code r j)) {k a b : Nat} (hk : k ≤ code.length) (h : clTo code f k a b = true) : (a : Int) < regs ∧ (b : Int) < regs ∧ a ≠ b := by
  unfold clTo at h
  obtain ⟨i, hi, h⟩ := List.any_eq_true.1 h
  have hi : i < code.length := by have := List.mem_range.1 hi; omega
  obtain ⟨y, hy, h⟩ := List.any_eq_true.1 h
  unfold clE at h
  obtain ⟨h0, h⟩ := (Bool.and_eq_true _ _).mp h
  have hw := (hok i hi).2.2.1
  rcases (Bool.or_eq_true _ _).mp h with h | h
  · obtain ⟨h1, h2⟩ := (Bool.and_eq_true _ _).mp h
    have h1 := of_decide_eq_true h1
    have := live_lt hok ((hf _ _).1 h2)
    exact ⟨this, by omega, of_decide_eq_true h0⟩
  · obtain ⟨h1, h2⟩ := (Bool.and_eq_true _ _).mp h
    have h1 := of_decide_eq_true h1
    have := live_lt hok ((hf _ _).1 h2)
    exact ⟨by omega, this, of_decide_eq_true h0⟩
theorem row_live {code : List Ins} {f : Nat → Nat → Bool} {regs : Int} (hok : OkV code regs) (hr : 0 ≤ regs ∧ regs ≤ 200) (hf : ∀ r j, (f r j = true ↔ LiveI code r j)) (i : Nat) : listB ((List.range 200).map fun r => f r i) = listB ((List.range regs.toNat).map fun r => f r i) :=
  listB_cut (by omega) fun r hr2 => Bool.eq_false_iff.2 fun h9 => by have := live_lt hok ((hf _ _).1 h9); omega
theorem row_clash {code : List Ins} {f : Nat → Nat → Bool} {regs : Int} (hok : OkV code regs) (hr : 0 ≤ regs ∧ regs ≤ 200) (hf : ∀ r j, (f r j = true ↔ LiveI code r j)) (a : Nat) : listB ((List.range 200).map fun b => clTo code f code.length a b) = listB ((List.range regs.toNat).map fun b => clTo code f code.length a b) :=
  listB_cut (by omega) fun r hr2 => Bool.eq_false_iff.2 fun h9 => by have := (cl_lt hok hf (Nat.le_refl _) h9).2.1; omega

set_option maxRecDepth 100000 in
set_option maxHeartbeats 4000000 in
theorem liveTells_v (code : Ls (Ls Ins)) (words : Ls Int) (locks regs : Int) (W : World) (hcode : code.At W) (hwords : words.At W) (hv : vastG (code.l.map (·.l)) words.l = true) :
    Rets Try.prog 13 [.agg #[code.v, words.v, .int .i64 locks, .int .i64 regs]] W (fun v w' => v = .bool true ∧ Sh0 W w' []) := by
 refine x_enter (N := 147) Try.func13 rfl Try.ntmps13 (Nat.le_of_ble_eq_true rfl) fun a1 hf1 => ?_
 have h1 : St 147 (fun _ => False) W a1 W [(0, .agg #[code.v, words.v, .int .i64 locks, .int .i64 regs])] [.at_ code, .at_ words] := ⟨hf1.sub ⟨rfl, trivial⟩, Sh0.ext2 hcode hwords⟩
 clear hf1
 refine wp_seq_k fun K2 hK2 => wp_region_lit ?_
 refine wl_ex (x_box (cs := [code.v, words.v, .int .i64 locks, .int .i64 regs]) h1 rfl rfl rfl rfl rfl) (wanted_none rfl _) ?_
 rintro a3 w3 ⟨b3, h3⟩; clear h1
 refine wms 1 h3 rfl fun a4 h4 => ?_; clear h3
 refine wpList_nil (hK2 _ _ ?_)
 refine wp_seq_k fun K5 hK5 => ?_
 refine wp_seq_k fun K6 hK6 => wp_region_lit ?_
 refine wv h4 (r_ldbw (i := 0) (vs := [code.v, words.v, .int .i64 locks, .int .i64 regs]) ti_28 rfl rfl rfl rfl rfl) rfl rfl fun a7 h7 => ?_; clear h4
 refine wl_ex (x_call h7 bd_18 rfl rfl rfl rfl rfl (vast_c (code := code) (words := words) (locks := locks) (regs := regs) (h7.sh.at 1 rfl) (h7.sh.at 2 rfl))) (wanted_none rfl _) ?_
 rintro a8 w8 ⟨_, ⟨rfl, hs8⟩, hf8⟩
 have h8 : St 147 (fun _ => False) W a8 w8 _ _ := ⟨hf8, h7.sh.call0 hs8⟩
 clear hf8 hs8
 clear h7
 refine wpList_nil (hK6 _ _ ?_)
 refine x_condT h8 rfl hv ?_
 refine wp_seq_k fun K9 hK9 => wp_region_lit ?_
 refine wms 1 h8 rfl fun a10 h10 => ?_; clear h8
 refine wpList_nil (hK9 _ _ ?_)
 refine wp_ret ?_
 try simp only [Exit.then, Exit.inBlock]
 refine x_ret1 (fn := Try.f13) (t := 2) rfl h10 rfl ?_
 exact ⟨rfl, (h10.sh.sel [] (by decide) trivial)⟩

set_option maxRecDepth 100000 in
set_option maxHeartbeats 4000000 in
theorem liveTells_b (code : Ls (Ls Ins)) (words : Ls Int) (locks regs : Int) (W : World) (hcode : code.At W) (hwords : words.At W) (hv : vastG (code.l.map (·.l)) words.l = false) (hz : (checkG (pgOf code words locks regs)).code ≠ 0) :
    Rets Try.prog 13 [.agg #[code.v, words.v, .int .i64 locks, .int .i64 regs]] W (fun v w' => v = .bool true ∧ Sh0 W w' []) := by
 refine x_enter (N := 147) Try.func13 rfl Try.ntmps13 (Nat.le_of_ble_eq_true rfl) fun a1 hf1 => ?_
 have h1 : St 147 (fun _ => False) W a1 W [(0, .agg #[code.v, words.v, .int .i64 locks, .int .i64 regs])] [.at_ code, .at_ words] := ⟨hf1.sub ⟨rfl, trivial⟩, Sh0.ext2 hcode hwords⟩
 clear hf1
 refine wp_seq_k fun K2 hK2 => wp_region_lit ?_
 refine wl_ex (x_box (cs := [code.v, words.v, .int .i64 locks, .int .i64 regs]) h1 rfl rfl rfl rfl rfl) (wanted_none rfl _) ?_
 rintro a3 w3 ⟨b3, h3⟩; clear h1
 refine wms 1 h3 rfl fun a4 h4 => ?_; clear h3
 refine wpList_nil (hK2 _ _ ?_)
 refine wp_seq_k fun K5 hK5 => ?_
 refine wp_seq_k fun K6 hK6 => wp_region_lit ?_
 refine wv h4 (r_ldbw (i := 0) (vs := [code.v, words.v, .int .i64 locks, .int .i64 regs]) ti_28 rfl rfl rfl rfl rfl) rfl rfl fun a7 h7 => ?_; clear h4
 refine wl_ex (x_call h7 bd_18 rfl rfl rfl rfl rfl (vast_c (code := code) (words := words) (locks := locks) (regs := regs) (h7.sh.at 1 rfl) (h7.sh.at 2 rfl))) (wanted_none rfl _) ?_
 rintro a8 w8 ⟨_, ⟨rfl, hs8⟩, hf8⟩
 have h8 : St 147 (fun _ => False) W a8 w8 _ _ := ⟨hf8, h7.sh.call0 hs8⟩
 clear hf8 hs8
 clear h7
 refine wpList_nil (hK6 _ _ ?_)
 refine x_condF h8 rfl hv ?_
 refine wp_skip ?_
 refine hK5 _ _ ?_
 refine wp_seq_k fun K9 hK9 => wp_region_lit ?_
 refine wv h8 (r_ldbw (i := 0) (vs := [code.v, words.v, .int .i64 locks, .int .i64 regs]) ti_28 rfl rfl rfl rfl rfl) rfl rfl fun a10 h10 => ?_; clear h8
 refine wl_ex (x_call h10 bd_36 rfl rfl rfl rfl rfl (ahead_b code words locks regs _ (h10.sh.at 1 rfl) (h10.sh.at 2 rfl) hz)) (wanted_none rfl _) ?_
 rintro a11 w11 ⟨_, ⟨rfl, hs11⟩, hf11⟩
 have h11 : St 147 (fun _ => False) W a11 w11 _ _ := ⟨hf11, h10.sh.call0 hs11⟩
 clear hf11 hs11
 clear h10
 refine wms 1 h11 rfl fun a12 h12 => ?_; clear h11
 refine wv h12 (r_extract rfl rfl rfl) rfl rfl fun a13 h13 => ?_; clear h12
 refine wv h13 (r_extract rfl rfl rfl) rfl rfl fun a14 h14 => ?_; clear h13
 refine wl_ex (x_alloc h14 ti_31 rfl rfl rfl) (wanted_none rfl _) ?_
 rintro a15 w15 ⟨b15, h15⟩; clear h14
 refine wms 1 h15 rfl fun a16 h16 => ?_; clear h15
 refine wl_ex (x_stb (i := 0) (vs := [.int .i64 ((checkG (pgOf code words locks regs)).code), .int .i64 ((checkG (pgOf code words locks regs)).thread), .int .i64 ((checkG (pgOf code words locks regs)).at_)]) (cs' := [.int .i64 ((checkG (pgOf code words locks regs)).code), .int .i64 ((checkG (pgOf code words locks regs)).thread), .int .i64 ((checkG (pgOf code words locks regs)).at_)]) h16 ti_31 rfl rfl rfl rfl rfl rfl rfl (allOne_cons rfl (allOne_cons rfl (allOne_cons rfl allOne_nil))) (Nat.le_of_ble_eq_true rfl) rfl) (wanted_none rfl _) ?_
 rintro a17 w17 h17
 clear h16
 refine wpList_nil (hK9 _ _ ?_)
 refine wp_seq_k fun K18 hK18 => wp_region_lit ?_
 refine wv h17 (r_ldbw (i := 1) (vs := [code.v, words.v, .int .i64 locks, .int .i64 regs]) ti_28 rfl rfl rfl rfl rfl) rfl rfl fun a19 h19 => ?_; clear h17
 refine wl_ex (x_call h19 bd_37 rfl rfl rfl rfl rfl (clash_b code words locks regs _ (h19.sh.at 2 rfl) (h19.sh.at 3 rfl) hz)) (wanted_none rfl _) ?_
 rintro a20 w20 ⟨_, ⟨rfl, hs20⟩, hf20⟩
 have h20 : St 147 (fun _ => False) W a20 w20 _ _ := ⟨hf20, h19.sh.call0 hs20⟩
 clear hf20 hs20
 clear h19
 refine wms 1 h20 rfl fun a21 h21 => ?_; clear h20
 refine wv h21 (r_extract rfl rfl rfl) rfl rfl fun a22 h22 => ?_; clear h21
 refine wv h22 (r_extract rfl rfl rfl) rfl rfl fun a23 h23 => ?_; clear h22
 refine wl_ex (x_alloc h23 ti_31 rfl rfl rfl) (wanted_none rfl _) ?_
 rintro a24 w24 ⟨b24, h24⟩; clear h23
 refine wms 1 h24 rfl fun a25 h25 => ?_; clear h24
 refine wl_ex (x_stb (i := 0) (vs := [.int .i64 ((checkG (pgOf code words locks regs)).code), .int .i64 ((checkG (pgOf code words locks regs)).thread), .int .i64 ((checkG (pgOf code words locks regs)).at_)]) (cs' := [.int .i64 ((checkG (pgOf code words locks regs)).code), .int .i64 ((checkG (pgOf code words locks regs)).thread), .int .i64 ((checkG (pgOf code words locks regs)).at_)]) h25 ti_31 rfl rfl rfl rfl rfl rfl rfl (allOne_cons rfl (allOne_cons rfl (allOne_cons rfl allOne_nil))) (Nat.le_of_ble_eq_true rfl) rfl) (wanted_none rfl _) ?_
 rintro a26 w26 h26
 clear h25
 refine wpList_nil (hK18 _ _ ?_)
 refine wp_seq_k fun K27 hK27 => wp_region_lit ?_
 refine wv h26 (r_ldbw (i := 2) (vs := [code.v, words.v, .int .i64 locks, .int .i64 regs]) ti_28 rfl rfl rfl rfl rfl) rfl rfl fun a28 h28 => ?_; clear h26
 refine wl_ex (x_call h28 bd_20 rfl rfl rfl rfl rfl (refCheck_c (code := code) (words := words) (locks := locks) (regs := regs) (h28.sh.at 3 rfl) (h28.sh.at 4 rfl))) (wanted_none rfl _) ?_
 rintro a29 w29 ⟨_, ⟨rfl, hs29⟩, hf29⟩
 have h29 : St 147 (fun _ => False) W a29 w29 _ _ := ⟨hf29, h28.sh.call0 hs29⟩
 clear hf29 hs29
 clear h28
 refine wl_ex (x_alloc h29 ti_31 rfl rfl rfl) (wanted_none rfl _) ?_
 rintro a30 w30 ⟨b30, h30⟩; clear h29
 refine wl_ex (x_stb (i := 0) (vs := [.int .i64 ((checkG (pgOf code words locks regs)).code), .int .i64 ((checkG (pgOf code words locks regs)).thread), .int .i64 ((checkG (pgOf code words locks regs)).at_)]) (cs' := [.int .i64 ((checkG (pgOf code words locks regs)).code), .int .i64 ((checkG (pgOf code words locks regs)).thread), .int .i64 ((checkG (pgOf code words locks regs)).at_)]) h30 ti_31 rfl rfl rfl rfl rfl rfl rfl (allOne_cons rfl (allOne_cons rfl (allOne_cons rfl allOne_nil))) (Nat.le_of_ble_eq_true rfl) rfl) (wanted_none rfl _) ?_
 rintro a31 w31 h31
 clear h30
 refine wpList_nil (hK27 _ _ ?_)
 refine wp_seq_k fun K32 hK32 => ?_
 refine wp_seq_k fun K33 hK33 => wp_region_lit ?_
 refine wv h31 (r_ldbw (i := 2) (vs := [.int .i64 ((checkG (pgOf code words locks regs)).code), .int .i64 ((checkG (pgOf code words locks regs)).thread), .int .i64 ((checkG (pgOf code words locks regs)).at_)]) ti_31 rfl rfl rfl rfl rfl) rfl rfl fun a34 h34 => ?_; clear h31
 refine wv h34 (r_ldbw (i := 0) (vs := [.int .i64 ((checkG (pgOf code words locks regs)).code), .int .i64 ((checkG (pgOf code words locks regs)).thread), .int .i64 ((checkG (pgOf code words locks regs)).at_)]) ti_31 rfl rfl rfl rfl rfl) rfl rfl fun a35 h35 => ?_; clear h34
 refine wv h35 (r_neqS rfl rfl rfl (fun w => neq_fltG _ _ ⟨(checkG (pgOf code words locks regs)).code, (checkG (pgOf code words locks regs)).thread, (checkG (pgOf code words locks regs)).at_⟩ ⟨(checkG (pgOf code words locks regs)).code, (checkG (pgOf code words locks regs)).thread, (checkG (pgOf code words locks regs)).at_⟩ w) (fun w => neq_flt ⟨(checkG (pgOf code words locks regs)).code, (checkG (pgOf code words locks regs)).thread, (checkG (pgOf code words locks regs)).at_⟩ ⟨(checkG (pgOf code words locks regs)).code, (checkG (pgOf code words locks regs)).thread, (checkG (pgOf code words locks regs)).at_⟩ w)) rfl rfl fun a36 h36 => ?_; clear h35
 refine wms 1 h36 rfl fun a37 h37 => ?_; clear h36
 refine wl_val h37 (r_ldbw (i := 1) (vs := [.int .i64 ((checkG (pgOf code words locks regs)).code), .int .i64 ((checkG (pgOf code words locks regs)).thread), .int .i64 ((checkG (pgOf code words locks regs)).at_)]) ti_31 rfl rfl rfl rfl rfl) (wanted_yes h37.fr rfl rfl rfl rfl (decide_eq_false (fun h => h rfl))) rfl rfl fun a38 h38 => ?_; clear h37
 refine wl_val h38 (r_ldbw (i := 0) (vs := [.int .i64 ((checkG (pgOf code words locks regs)).code), .int .i64 ((checkG (pgOf code words locks regs)).thread), .int .i64 ((checkG (pgOf code words locks regs)).at_)]) ti_31 rfl rfl rfl rfl rfl) (wanted_yes h38.fr rfl rfl rfl rfl (decide_eq_false (fun h => h rfl))) rfl rfl fun a39 h39 => ?_; clear h38
 refine wl_val h39 (r_neqS rfl rfl rfl (fun w => neq_fltG _ _ ⟨(checkG (pgOf code words locks regs)).code, (checkG (pgOf code words locks regs)).thread, (checkG (pgOf code words locks regs)).at_⟩ ⟨(checkG (pgOf code words locks regs)).code, (checkG (pgOf code words locks regs)).thread, (checkG (pgOf code words locks regs)).at_⟩ w) (fun w => neq_flt ⟨(checkG (pgOf code words locks regs)).code, (checkG (pgOf code words locks regs)).thread, (checkG (pgOf code words locks regs)).at_⟩ ⟨(checkG (pgOf code words locks regs)).code, (checkG (pgOf code words locks regs)).thread, (checkG (pgOf code words locks regs)).at_⟩ w)) (wanted_yes h39.fr rfl rfl rfl rfl (decide_eq_false (fun h => h rfl))) rfl rfl fun a40 h40 => ?_; clear h39
 refine wv h40 (r_pickF rfl rfl (decide_eq_false (fun h => h rfl)) rfl) rfl rfl fun a41 h41 => ?_; clear h40
 refine wpList_nil (hK33 _ _ ?_)
 have h42 : St 147 (fun _ => False) W a41 w31 [(1, .pointer (some ⟨b3, 0, none⟩)), (3, (.slice none 0 0)), (5, (.slice none 0 0)), (7, .pointer (some ⟨b30, 0, none⟩)), (38, .bool (decide ((⟨(checkG (pgOf code words locks regs)).code, (checkG (pgOf code words locks regs)).thread, (checkG (pgOf code words locks regs)).at_⟩ : Flt) ≠ ⟨(checkG (pgOf code words locks regs)).code, (checkG (pgOf code words locks regs)).thread, (checkG (pgOf code words locks regs)).at_⟩)))] [.blk b30 31 [.int .i64 ((checkG (pgOf code words locks regs)).code), .int .i64 ((checkG (pgOf code words locks regs)).thread), .int .i64 ((checkG (pgOf code words locks regs)).at_)], .blk b24 31 [.int .i64 ((checkG (pgOf code words locks regs)).code), .int .i64 ((checkG (pgOf code words locks regs)).thread), .int .i64 ((checkG (pgOf code words locks regs)).at_)], .blk b15 31 [.int .i64 ((checkG (pgOf code words locks regs)).code), .int .i64 ((checkG (pgOf code words locks regs)).thread), .int .i64 ((checkG (pgOf code words locks regs)).at_)], .blk b3 28 [code.v, words.v, .int .i64 locks, .int .i64 regs], .at_ code, .at_ words] := h41.nrm ⟨rfl, rfl, rfl, rfl, rfl, trivial⟩ [0, 1, 2, 3, 4, 5] (by decide) ⟨rfl, rfl, rfl, rfl, rfl, rfl, trivial⟩
 clear h41
 refine x_condF h42 rfl (decide_eq_false (fun h => h rfl)) ?_
 refine wp_skip ?_
 refine hK32 _ _ ?_
 refine wp_seq_k fun K43 hK43 => ?_
 refine wp_seq_k fun K44 hK44 => wp_region_lit ?_
 refine wv h42 (r_fieldB (r := 0) fl_31_0 rfl rfl rfl) rfl rfl fun a45 h45 => ?_; clear h42
 refine wv h45 (r_ldb (i := 0) ti_22 rfl rfl rfl rfl) rfl rfl fun a46 h46 => ?_; clear h45
 refine wv h46 (r_neqI (p := (checkG (pgOf code words locks regs)).code) (q := 0) rfl rfl rfl) rfl rfl fun a47 h47 => ?_; clear h46
 refine wpList_nil (hK44 _ _ ?_)
 refine x_condT h47 rfl (decide_eq_true hz) ?_
 refine wp_seq_k fun K48 hK48 => wp_region_lit ?_
 refine wms 1 h47 rfl fun a49 h49 => ?_; clear h47
 have hl50 : ([] : List (Ls (Ls Int))).length ≤ 140737488355328 := (Sh.nilAt (α := Ls (Ls Int)) h49.sh).len
 refine wv h49 (r_len (s := (⟨.slice none 0 0, []⟩ : Ls (Ls (Ls Int)))) (n := ([] : List (Ls (Ls Int))).length) sl_59 rfl rfl (fun w h => (Sh.nilAt (α := Ls (Ls Int)) h)) rfl) rfl rfl fun a51 h51 => ?_; clear h49
 refine wms 1 h51 rfl fun a52 h52 => ?_; clear h51
 refine wv h52 (r_len (s := (⟨.slice none 0 0, []⟩ : Ls (Ls (Ls Int)))) (n := ([] : List (Ls (Ls Int))).length) sl_59 rfl rfl (fun w h => (Sh.nilAt (α := Ls (Ls Int)) h)) rfl) rfl rfl fun a53 h53 => ?_; clear h52
 refine wv h53 (r_addN (p := ([] : List (Ls (Ls Int))).length) (q := ([] : List (Ls (Ls Int))).length) rfl rfl rfl (show (([] : List (Ls (Ls Int))).length) + (([] : List (Ls (Ls Int))).length) < 9223372036854775808 from (by first | omega | (simp only [lens9]; omega)))) rfl rfl fun a54 h54 => ?_; clear h53
 refine wv h54 (r_eqlN (p := (([] : List (Ls (Ls Int))).length) + (([] : List (Ls (Ls Int))).length)) (q := 0) rfl rfl rfl) rfl rfl fun a55 h55 => ?_; clear h54
 refine wms 1 h55 rfl fun a56 h56 => ?_; clear h55
 refine wpList_nil (hK48 _ _ ?_)
 refine wp_ret ?_
 try simp only [Exit.then, Exit.inBlock]
 refine x_ret1 (fn := Try.f13) (t := 2) rfl h56 rfl ?_
 exact ⟨rfl, (h56.sh.sel [] (by decide) trivial)⟩

set_option maxRecDepth 100000 in
set_option maxHeartbeats 4000000 in
theorem liveTells_k (code : Ls (Ls Ins)) (words : Ls Int) (locks regs : Int) (W : World) (hcode : code.At W) (hwords : words.At W) (hv : vastG (code.l.map (·.l)) words.l = false) (hok : OkPg (pgOf code words locks regs)) :
    Rets Try.prog 13 [.agg #[code.v, words.v, .int .i64 locks, .int .i64 regs]] W (fun v w' => v = .bool true ∧ Sh0 W w' []) := by
 have hz := checkG_ok hok
 obtain ⟨hl1, hl2, hl3, hl4', hl5, hl6, hl7⟩ := ok_len hok
 have hrg := hok.regs
 have hrg1 : (pgOf code words locks regs).regs = regs := rfl
 rw [hrg1] at hrg
 obtain ⟨f, hF0⟩ := liveF3 code
 have hF : ∀ t, t < code.l.length → ∀ r j, (f t r j = true ↔ LiveI (nth code.l t).l r j) := fun t _ => hF0 t
 refine x_enter (N := 147) Try.func13 rfl Try.ntmps13 (Nat.le_of_ble_eq_true rfl) fun a1 hf1 => ?_
 have h1 : St 147 (fun _ => False) W a1 W [(0, .agg #[code.v, words.v, .int .i64 locks, .int .i64 regs])] [.at_ code, .at_ words] := ⟨hf1.sub ⟨rfl, trivial⟩, Sh0.ext2 hcode hwords⟩
 clear hf1
 refine wp_seq_k fun K2 hK2 => wp_region_lit ?_
 refine wl_ex (x_box (cs := [code.v, words.v, .int .i64 locks, .int .i64 regs]) h1 rfl rfl rfl rfl rfl) (wanted_none rfl _) ?_
 rintro a3 w3 ⟨b3, h3⟩; clear h1
 refine wms 1 h3 rfl fun a4 h4 => ?_; clear h3
 refine wpList_nil (hK2 _ _ ?_)
 refine wp_seq_k fun K5 hK5 => ?_
 refine wp_seq_k fun K6 hK6 => wp_region_lit ?_
 refine wv h4 (r_ldbw (i := 0) (vs := [code.v, words.v, .int .i64 locks, .int .i64 regs]) ti_28 rfl rfl rfl rfl rfl) rfl rfl fun a7 h7 => ?_; clear h4
 refine wl_ex (x_call h7 bd_18 rfl rfl rfl rfl rfl (vast_c (code := code) (words := words) (locks := locks) (regs := regs) (h7.sh.at 1 rfl) (h7.sh.at 2 rfl))) (wanted_none rfl _) ?_
 rintro a8 w8 ⟨_, ⟨rfl, hs8⟩, hf8⟩
 have h8 : St 147 (fun _ => False) W a8 w8 _ _ := ⟨hf8, h7.sh.call0 hs8⟩
 clear hf8 hs8
 clear h7
 refine wpList_nil (hK6 _ _ ?_)
 refine x_condF h8 rfl hv ?_
 refine wp_skip ?_
 refine hK5 _ _ ?_
 refine wp_seq_k fun K9 hK9 => wp_region_lit ?_
 refine wv h8 (r_ldbw (i := 0) (vs := [code.v, words.v, .int .i64 locks, .int .i64 regs]) ti_28 rfl rfl rfl rfl rfl) rfl rfl fun a10 h10 => ?_; clear h8
 refine wl_ex (x_call h10 bd_36 rfl rfl rfl rfl rfl (ahead_k code words locks regs f _ (h10.sh.at 1 rfl) (h10.sh.at 2 rfl) hok hF)) (wanted_none rfl _) ?_
 rintro a11 w11 ⟨_, ⟨s11, rfl, hah, hs11⟩, hf11⟩
 have h11 := (⟨hf11, h10.sh.call hs11 (by intro A hA b hb; first | (simp at hA; done) | (simp at hA; subst hA; first | exact Flat.noRd hb | exact (hb : False).elim) | (simp at hA; rcases hA with rfl | rfl <;> first | exact Flat.noRd hb | exact (hb : False).elim))⟩ : St 147 (fun _ => False) W a11 w11 _ _)
 clear hf11 hs11
 clear h10
 refine wms 1 h11 rfl fun a12 h12 => ?_; clear h11
 refine wv h12 (r_extract rfl rfl rfl) rfl rfl fun a13 h13 => ?_; clear h12
 refine wv h13 (r_extract rfl rfl rfl) rfl rfl fun a14 h14 => ?_; clear h13
 refine wl_ex (x_alloc h14 ti_31 rfl rfl rfl) (wanted_none rfl _) ?_
 rintro a15 w15 ⟨b15, h15⟩; clear h14
 refine wms 1 h15 rfl fun a16 h16 => ?_; clear h15
 refine wl_ex (x_stb (i := 0) (vs := [.int .i64 0, .int .i64 0, .int .i64 0]) (cs' := [.int .i64 0, .int .i64 0, .int .i64 0]) h16 ti_31 rfl rfl rfl rfl rfl rfl rfl (allOne_cons rfl (allOne_cons rfl (allOne_cons rfl allOne_nil))) (Nat.le_of_ble_eq_true rfl) rfl) (wanted_none rfl _) ?_
 rintro a17 w17 h17
 clear h16
 refine wpList_nil (hK9 _ _ ?_)
 refine wp_seq_k fun K18 hK18 => wp_region_lit ?_
 refine wv h17 (r_ldbw (i := 2) (vs := [code.v, words.v, .int .i64 locks, .int .i64 regs]) ti_28 rfl rfl rfl rfl rfl) rfl rfl fun a19 h19 => ?_; clear h17
 refine wl_ex (x_call h19 bd_37 rfl rfl rfl rfl rfl (clash_k code words locks regs f _ (h19.sh.at 3 rfl) (h19.sh.at 4 rfl) hok hF)) (wanted_none rfl _) ?_
 rintro a20 w20 ⟨_, ⟨s20, rfl, hcl, hs20⟩, hf20⟩
 have h20 := (⟨hf20, h19.sh.call hs20 (by intro A hA b hb; first | (simp at hA; done) | (simp at hA; subst hA; first | exact Flat.noRd hb | exact (hb : False).elim) | (simp at hA; rcases hA with rfl | rfl <;> first | exact Flat.noRd hb | exact (hb : False).elim))⟩ : St 147 (fun _ => False) W a20 w20 _ _)
 clear hf20 hs20
 clear h19
 refine wms 1 h20 rfl fun a21 h21 => ?_; clear h20
 refine wv h21 (r_extract rfl rfl rfl) rfl rfl fun a22 h22 => ?_; clear h21
 refine wv h22 (r_extract rfl rfl rfl) rfl rfl fun a23 h23 => ?_; clear h22
 refine wl_ex (x_alloc h23 ti_31 rfl rfl rfl) (wanted_none rfl _) ?_
 rintro a24 w24 ⟨b24, h24⟩; clear h23
 refine wms 1 h24 rfl fun a25 h25 => ?_; clear h24
 refine wl_ex (x_stb (i := 0) (vs := [.int .i64 0, .int .i64 0, .int .i64 0]) (cs' := [.int .i64 0, .int .i64 0, .int .i64 0]) h25 ti_31 rfl rfl rfl rfl rfl rfl rfl (allOne_cons rfl (allOne_cons rfl (allOne_cons rfl allOne_nil))) (Nat.le_of_ble_eq_true rfl) rfl) (wanted_none rfl _) ?_
 rintro a26 w26 h26
 clear h25
 refine wpList_nil (hK18 _ _ ?_)
 refine wp_seq_k fun K27 hK27 => wp_region_lit ?_
 refine wv h26 (r_ldbw (i := 4) (vs := [code.v, words.v, .int .i64 locks, .int .i64 regs]) ti_28 rfl rfl rfl rfl rfl) rfl rfl fun a28 h28 => ?_; clear h26
 refine wl_ex (x_call h28 bd_20 rfl rfl rfl rfl rfl (refCheck_c (code := code) (words := words) (locks := locks) (regs := regs) (h28.sh.at 5 rfl) (h28.sh.at 6 rfl))) (wanted_none rfl _) ?_
 rintro a29 w29 ⟨_, ⟨rfl, hs29⟩, hf29⟩
 have h29 : St 147 (fun _ => False) W a29 w29 _ _ := ⟨hf29, h28.sh.call0 hs29⟩
 clear hf29 hs29
 clear h28
 refine wl_ex (x_alloc h29 ti_31 rfl rfl rfl) (wanted_none rfl _) ?_
 rintro a30 w30 ⟨b30, h30⟩; clear h29
 refine wl_ex (x_stb (i := 0) (vs := [.int .i64 ((checkG (pgOf code words locks regs)).code), .int .i64 ((checkG (pgOf code words locks regs)).thread), .int .i64 ((checkG (pgOf code words locks regs)).at_)]) (cs' := [.int .i64 ((checkG (pgOf code words locks regs)).code), .int .i64 ((checkG (pgOf code words locks regs)).thread), .int .i64 ((checkG (pgOf code words locks regs)).at_)]) h30 ti_31 rfl rfl rfl rfl rfl rfl rfl (allOne_cons rfl (allOne_cons rfl (allOne_cons rfl allOne_nil))) (Nat.le_of_ble_eq_true rfl) rfl) (wanted_none rfl _) ?_
 rintro a31 w31 h31
 clear h30
 refine wpList_nil (hK27 _ _ ?_)
 refine wp_seq_k fun K32 hK32 => ?_
 refine wp_seq_k fun K33 hK33 => wp_region_lit ?_
 refine wv h31 (r_ldbw (i := 3) (vs := [.int .i64 0, .int .i64 0, .int .i64 0]) ti_31 rfl rfl rfl rfl rfl) rfl rfl fun a34 h34 => ?_; clear h31
 refine wv h34 (r_ldbw (i := 0) (vs := [.int .i64 ((checkG (pgOf code words locks regs)).code), .int .i64 ((checkG (pgOf code words locks regs)).thread), .int .i64 ((checkG (pgOf code words locks regs)).at_)]) ti_31 rfl rfl rfl rfl rfl) rfl rfl fun a35 h35 => ?_; clear h34
 refine wv h35 (r_neqS rfl rfl rfl (fun w => neq_fltG _ _ ⟨0, 0, 0⟩ ⟨(checkG (pgOf code words locks regs)).code, (checkG (pgOf code words locks regs)).thread, (checkG (pgOf code words locks regs)).at_⟩ w) (fun w => neq_flt ⟨0, 0, 0⟩ ⟨(checkG (pgOf code words locks regs)).code, (checkG (pgOf code words locks regs)).thread, (checkG (pgOf code words locks regs)).at_⟩ w)) rfl rfl fun a36 h36 => ?_; clear h35
 refine wms 1 h36 rfl fun a37 h37 => ?_; clear h36
 refine wl_val h37 (r_ldbw (i := 1) (vs := [.int .i64 0, .int .i64 0, .int .i64 0]) ti_31 rfl rfl rfl rfl rfl) (wanted_yes h37.fr rfl rfl rfl rfl (decide_eq_false (fun h => h (by rw [hz])))) rfl rfl fun a38 h38 => ?_; clear h37
 refine wl_val h38 (r_ldbw (i := 0) (vs := [.int .i64 ((checkG (pgOf code words locks regs)).code), .int .i64 ((checkG (pgOf code words locks regs)).thread), .int .i64 ((checkG (pgOf code words locks regs)).at_)]) ti_31 rfl rfl rfl rfl rfl) (wanted_yes h38.fr rfl rfl rfl rfl (decide_eq_false (fun h => h (by rw [hz])))) rfl rfl fun a39 h39 => ?_; clear h38
 refine wl_val h39 (r_neqS rfl rfl rfl (fun w => neq_fltG _ _ ⟨0, 0, 0⟩ ⟨(checkG (pgOf code words locks regs)).code, (checkG (pgOf code words locks regs)).thread, (checkG (pgOf code words locks regs)).at_⟩ w) (fun w => neq_flt ⟨0, 0, 0⟩ ⟨(checkG (pgOf code words locks regs)).code, (checkG (pgOf code words locks regs)).thread, (checkG (pgOf code words locks regs)).at_⟩ w)) (wanted_yes h39.fr rfl rfl rfl rfl (decide_eq_false (fun h => h (by rw [hz])))) rfl rfl fun a40 h40 => ?_; clear h39
 refine wv h40 (r_pickF rfl rfl (decide_eq_false (fun h => h (by rw [hz]))) rfl) rfl rfl fun a41 h41 => ?_; clear h40
 refine wpList_nil (hK33 _ _ ?_)
 have h42 : St 147 (fun _ => False) W a41 w31 [(1, .pointer (some ⟨b3, 0, none⟩)), (3, s11.v), (5, s20.v), (7, .pointer (some ⟨b30, 0, none⟩)), (38, .bool (decide ((⟨0, 0, 0⟩ : Flt) ≠ ⟨(checkG (pgOf code words locks regs)).code, (checkG (pgOf code words locks regs)).thread, (checkG (pgOf code words locks regs)).at_⟩)))] [.blk b30 31 [.int .i64 ((checkG (pgOf code words locks regs)).code), .int .i64 ((checkG (pgOf code words locks regs)).thread), .int .i64 ((checkG (pgOf code words locks regs)).at_)], .blk b24 31 [.int .i64 0, .int .i64 0, .int .i64 0], .deep 46 s20, .blk b15 31 [.int .i64 0, .int .i64 0, .int .i64 0], .deep 46 s11, .blk b3 28 [code.v, words.v, .int .i64 locks, .int .i64 regs], .at_ code, .at_ words] := h41.nrm ⟨rfl, rfl, rfl, rfl, rfl, trivial⟩ [0, 1, 2, 3, 4, 5, 6, 7] (by decide) ⟨rfl, rfl, rfl, rfl, rfl, rfl, rfl, rfl, trivial⟩
 clear h41
 refine x_condF h42 rfl (decide_eq_false (fun h => h (by rw [hz]))) ?_
 refine wp_skip ?_
 refine hK32 _ _ ?_
 refine wp_seq_k fun K43 hK43 => ?_
 refine wp_seq_k fun K44 hK44 => wp_region_lit ?_
 refine wv h42 (r_fieldB (r := 0) fl_31_0 rfl rfl rfl) rfl rfl fun a45 h45 => ?_; clear h42
 refine wv h45 (r_ldb (i := 0) ti_22 rfl rfl rfl rfl) rfl rfl fun a46 h46 => ?_; clear h45
 refine wv h46 (r_neqI (p := (checkG (pgOf code words locks regs)).code) (q := 0) rfl rfl rfl) rfl rfl fun a47 h47 => ?_; clear h46
 refine wpList_nil (hK44 _ _ ?_)
 refine x_condF h47 rfl (by rw [hz]; rfl) ?_
 refine wp_skip ?_
 refine hK43 _ _ ?_
 obtain ⟨hal, hav⟩ := rowsV hah
 obtain ⟨hcl1, hcv⟩ := rowsV hcl
 refine wp_seq_k fun K48 hK48 => ?_
 refine wp_seq_k fun K49 hK49 => wp_region_lit ?_
 refine wms 1 h47 rfl fun a50 h50 => ?_; clear h47
 have hl51 : s11.l.length ≤ 140737488355328 := (h50.sh.deep 4 rfl).len
 refine wv h50 (r_len (s := s11) (n := s11.l.length) sl_59 rfl rfl (fun w h => (h.deep 4 rfl)) rfl) rfl rfl fun a52 h52 => ?_; clear h50
 refine wv h52 (r_fieldB (r := 0) fl_28_0 rfl rfl rfl) rfl rfl fun a53 h53 => ?_; clear h52
 refine wv h53 (r_ldb (i := 5) ti_26 rfl rfl rfl rfl) rfl rfl fun a54 h54 => ?_; clear h53
 have hl55 : code.l.length ≤ 140737488355328 := (h54.sh.at 6 rfl).len
 refine wv h54 (r_len (s := code) (n := code.l.length) sl_26 rfl rfl (fun w h => (h.at 6 rfl)) rfl) rfl rfl fun a56 h56 => ?_; clear h54
 refine wv h56 (r_neqN (p := s11.l.length) (q := code.l.length) rfl rfl rfl) rfl rfl fun a57 h57 => ?_; clear h56
 refine wms 1 h57 rfl fun a58 h58 => ?_; clear h57
 refine wl_val h58 (r_move rfl rfl) (wanted_yes h58.fr rfl rfl rfl rfl (decide_eq_false (by omega))) rfl rfl fun a59 h59 => ?_; clear h58
 have hl60 : s20.l.length ≤ 140737488355328 := (h59.sh.deep 2 rfl).len
 refine wl_val h59 (r_len (s := s20) (n := s20.l.length) sl_59 rfl rfl (fun w h => (h.deep 2 rfl)) rfl) (wanted_yes h59.fr rfl rfl rfl rfl (decide_eq_false (by omega))) rfl rfl fun a61 h61 => ?_; clear h59
 refine wl_val h61 (r_fieldB (r := 0) fl_28_0 rfl rfl rfl) (wanted_yes h61.fr rfl rfl rfl rfl (decide_eq_false (by omega))) rfl rfl fun a62 h62 => ?_; clear h61
 refine wl_val h62 (r_ldb (i := 5) ti_26 rfl rfl rfl rfl) (wanted_yes h62.fr rfl rfl rfl rfl (decide_eq_false (by omega))) rfl rfl fun a63 h63 => ?_; clear h62
 refine wl_val h63 (r_len (s := code) (n := code.l.length) sl_26 rfl rfl (fun w h => (h.at 6 rfl)) rfl) (wanted_yes h63.fr rfl rfl rfl rfl (decide_eq_false (by omega))) rfl rfl fun a64 h64 => ?_; clear h63
 refine wl_val h64 (r_neqN (p := s20.l.length) (q := code.l.length) rfl rfl rfl) (wanted_yes h64.fr rfl rfl rfl rfl (decide_eq_false (by omega))) rfl rfl fun a65 h65 => ?_; clear h64
 refine wv h65 (r_pickF rfl rfl (decide_eq_false (by omega)) rfl) rfl rfl fun a66 h66 => ?_; clear h65
 refine wpList_nil (hK49 _ _ ?_)
 refine x_condF h66 rfl (decide_eq_false (by omega)) ?_
 refine wp_skip ?_
 refine hK48 _ _ ?_
 refine wp_seq_k fun K67 hK67 => ?_
 refine wp_seq_k fun K68 hK68 => wp_region_lit ?_
 refine wms 1 h66 rfl fun a69 h69 => ?_; clear h66
 refine wpList_nil (hK68 _ _ ?_)
 refine wp_block ?_
 refine x_loop (fun m a w => ∃ (t : Nat), (t ≤ code.l.length) ∧ St 147 (fun _ => False) W a w [(1, .pointer (some ⟨b3, 0, none⟩)), (3, s11.v), (5, s20.v), (8, .int .i64 ((t : Nat) : Int))] [.blk b30 31 [.int .i64 ((checkG (pgOf code words locks regs)).code), .int .i64 ((checkG (pgOf code words locks regs)).thread), .int .i64 ((checkG (pgOf code words locks regs)).at_)], .blk b24 31 [.int .i64 0, .int .i64 0, .int .i64 0], .deep 46 s20, .blk b15 31 [.int .i64 0, .int .i64 0, .int .i64 0], .deep 46 s11, .blk b3 28 [code.v, words.v, .int .i64 locks, .int .i64 regs], .at_ code, .at_ words] ∧ m = code.l.length - t) ⟨_, 0, (by omega), h69.nrm ⟨rfl, rfl, rfl, rfl, trivial⟩ [0, 1, 2, 3, 4, 5, 6, 7] (by decide) ⟨rfl, rfl, rfl, rfl, rfl, rfl, rfl, rfl, trivial⟩, rfl⟩ ?_
 clear h69
 rintro m70 a70 w70 ⟨t, ht, h70, hm70⟩
 refine wp_seq_k fun K71 hK71 => ?_
 refine wp_seq_k fun K72 hK72 => wp_region_lit ?_
 refine wms 1 h70 rfl fun a73 h73 => ?_; clear h70
 refine wv h73 (r_fieldB (r := 0) fl_28_0 rfl rfl rfl) rfl rfl fun a74 h74 => ?_; clear h73
 refine wv h74 (r_ldb (i := 5) ti_26 rfl rfl rfl rfl) rfl rfl fun a75 h75 => ?_; clear h74
 refine wv h75 (r_len (s := code) (n := code.l.length) sl_26 rfl rfl (fun w h => (h.at 6 rfl)) rfl) rfl rfl fun a76 h76 => ?_; clear h75
 refine wv h76 (r_lssN (p := t) (q := code.l.length) rfl rfl rfl) rfl rfl fun a77 h77 => ?_; clear h76
 refine wpList_nil (hK72 _ _ ?_)
 refine x_cond h77 rfl (fun hb78 => ?_) (fun hb78 => ?_)
 ·
  have hp78 : t < code.l.length := of_decide_eq_true hb78
  refine wp_skip ?_
  refine hK71 _ _ ?_
  obtain ⟨hl4, hjt⟩ := ok_thread hok t (by omega)
  refine wp_seq_k fun K79 hK79 => ?_
  refine wp_block ?_
  refine wp_seq_k fun K80 hK80 => ?_
  refine x_tail 7 [] (by kernel_rfl) (by kernel_rfl) h77 fun Z81 hZ81 => ?_
  have hq81 := h77.fr
  refine wq_val hq81 (r_fieldB (r := 0) fl_28_0 rfl rfl rfl) (wanted_none rfl _) rfl rfl fun a82 hq82 => ?_; clear hq81
  refine wq_val hq82 (r_ldb (i := 5) ti_26 rfl rfl rfl rfl) (wanted_none rfl _) rfl rfl fun a83 hq83 => ?_; clear hq82
  refine wq_val hq83 (r_move rfl rfl) (wanted_none rfl _) rfl rfl fun a84 hq84 => ?_; clear hq83
  refine wq_val hq84 (r_ixN (s := code) (q := t) sl_26 ti_64 rfl rfl rfl (fun w h => (h.at 6 rfl)) (show t < code.l.length from (by omega))) (wanted_none rfl _) rfl rfl fun a85 hq85 => ?_; clear hq84
  refine wq_val hq85 (r_lde (s := code) (i := t) (v := (nth code.l t).v) ti_64 rfl rfl rfl (fun w h => (h.at 6 rfl)) (show t < code.l.length from (by omega)) (Nat.le_of_ble_eq_true rfl) rfl) (wanted_none rfl _) rfl rfl fun a86 hq86 => ?_; clear hq85
  refine wq_val hq86 (r_fieldB (r := 3) fl_28_3 rfl rfl rfl) (wanted_none rfl _) rfl rfl fun a87 hq87 => ?_; clear hq86
  refine wq_val hq87 (r_ldb (i := 5) ti_3 rfl rfl rfl rfl) (wanted_none rfl _) rfl rfl fun a88 hq88 => ?_; clear hq87
  refine wpQuiet_nil (hZ81 _ fun w89 hw89 => ?_)
  have h89 : St 147 (fun _ => False) W a88 w89 _ _ := ⟨hq88, hw89⟩
  clear hq88 hw89 h77
  refine wl_ex (x_call h89 bd_38 rfl rfl rfl rfl rfl (rets_nat (by omega) (rSets_c (nth code.l t) regs (f t) _ ((h89.sh.at 6 rfl).nth t (show t < code.l.length from (by omega))) (by omega) hjt (okV_of hok t (by omega)) (hF t (by omega)) (by omega)))) (wanted_none rfl _) ?_
  rintro a90 w90 ⟨_, ⟨s90, rfl, hse90, hs90⟩, hf90⟩
  have h90 := (⟨hf90, h89.sh.call hs90 (by intro A hA b hb; first | (simp at hA; done) | (simp at hA; subst hA; first | exact Flat.noRd hb | exact (hb : False).elim) | (simp at hA; rcases hA with rfl | rfl <;> first | exact Flat.noRd hb | exact (hb : False).elim))⟩ : St 147 (fun _ => False) W a90 w90 _ _)
  clear hf90 hs90
  clear h89
  refine wms 1 h90 rfl fun a91 h91 => ?_; clear h90
  refine wpList_nil (hK80 _ _ ?_)
  refine wp_seq_k fun K92 hK92 => ?_
  refine x_tail 7 [] (by kernel_rfl) (by kernel_rfl) h91 fun Z93 hZ93 => ?_
  have hq93 := h91.fr
  refine wq_val hq93 (r_fieldB (r := 0) fl_28_0 rfl rfl rfl) (wanted_none rfl _) rfl rfl fun a94 hq94 => ?_; clear hq93
  refine wq_val hq94 (r_ldb (i := 6) ti_26 rfl rfl rfl rfl) (wanted_none rfl _) rfl rfl fun a95 hq95 => ?_; clear hq94
  refine wq_val hq95 (r_move rfl rfl) (wanted_none rfl _) rfl rfl fun a96 hq96 => ?_; clear hq95
  refine wq_val hq96 (r_ixN (s := code) (q := t) sl_26 ti_64 rfl rfl rfl (fun w h => (h.at 7 rfl)) (show t < code.l.length from (by omega))) (wanted_none rfl _) rfl rfl fun a97 hq97 => ?_; clear hq96
  refine wq_val hq97 (r_lde (s := code) (i := t) (v := (nth code.l t).v) ti_64 rfl rfl rfl (fun w h => (h.at 7 rfl)) (show t < code.l.length from (by omega)) (Nat.le_of_ble_eq_true rfl) rfl) (wanted_none rfl _) rfl rfl fun a98 hq98 => ?_; clear hq97
  refine wq_val hq98 (r_fieldB (r := 3) fl_28_3 rfl rfl rfl) (wanted_none rfl _) rfl rfl fun a99 hq99 => ?_; clear hq98
  refine wq_val hq99 (r_ldb (i := 6) ti_3 rfl rfl rfl rfl) (wanted_none rfl _) rfl rfl fun a100 hq100 => ?_; clear hq99
  refine wpQuiet_nil (hZ93 _ fun w101 hw101 => ?_)
  have h101 : St 147 (fun _ => False) W a100 w101 _ _ := ⟨hq100, hw101⟩
  clear hq100 hw101 h91
  refine wl_ex (x_call h101 bd_39 rfl rfl rfl rfl rfl (rets_nat (by omega) (rClash_c (nth code.l t) regs (f t) _ ((h101.sh.at 7 rfl).nth t (show t < code.l.length from (by omega))) (by omega) hjt (okV_of hok t (by omega)) (hF t (by omega)) (by omega)))) (wanted_none rfl _) ?_
  rintro a102 w102 ⟨_, ⟨s102, rfl, hce102, hs102⟩, hf102⟩
  have h102 := (⟨hf102, h101.sh.call hs102 (by intro A hA b hb; first | (simp at hA; done) | (simp at hA; subst hA; first | exact Flat.noRd hb | exact (hb : False).elim) | (simp at hA; rcases hA with rfl | rfl <;> first | exact Flat.noRd hb | exact (hb : False).elim))⟩ : St 147 (fun _ => False) W a102 w102 _ _)
  clear hf102 hs102
  clear h101
  refine wms 1 h102 rfl fun a103 h103 => ?_; clear h102
  refine wpList_nil (hK92 _ _ ?_)
  obtain ⟨ha1, ha2⟩ := rowsV (hav t (by omega))
  obtain ⟨hc1, hc2⟩ := rowsV (hcv t (by omega))
  obtain ⟨hs1, hs2⟩ := rowsV hse90
  obtain ⟨hk1, hk2⟩ := rowsV hce102
  have hov := okV_of hok t (by omega)
  refine wp_seq_k fun K104 hK104 => ?_
  refine wp_seq_k fun K105 hK105 => ?_
  refine x_quiet (by kernel_rfl) (by kernel_rfl) h103 fun Z106 hZ106 => ?_
  have hq106 := h103.fr
  refine wq_val hq106 (r_move rfl rfl) (wanted_none rfl _) rfl rfl fun a107 hq107 => ?_; clear hq106
  refine wq_val hq107 (r_move rfl rfl) (wanted_none rfl _) rfl rfl fun a108 hq108 => ?_; clear hq107
  refine wq_val hq108 (r_ixN (s := s11) (q := t) sl_59 ti_46 rfl rfl rfl (fun w h => (h.deep 6 rfl)) (show t < s11.l.length from (by omega))) (wanted_none rfl _) rfl rfl fun a109 hq109 => ?_; clear hq108
  refine wq_val hq109 (r_lde (s := s11) (i := t) (v := (nth s11.l t).v) ti_46 rfl rfl rfl (fun w h => (h.deep 6 rfl)) (show t < s11.l.length from (by omega)) (Nat.le_of_ble_eq_true rfl) rfl) (wanted_none rfl _) rfl rfl fun a110 hq110 => ?_; clear hq109
  have hl111 : ((nth s11.l t).l).length ≤ 140737488355328 := ((h103.sh.deep 6 rfl).nth t (show t < s11.l.length from (by omega))).len
  refine wq_val hq110 (r_len (s := nth s11.l t) (n := ((nth s11.l t).l).length) sl_46 rfl rfl (fun w h => ((h.deep 6 rfl).nth t (show t < s11.l.length from (by omega)))) rfl) (wanted_none rfl _) rfl rfl fun a112 hq112 => ?_; clear hq110
  refine wq_val hq112 (r_move rfl rfl) (wanted_none rfl _) rfl rfl fun a113 hq113 => ?_; clear hq112
  have hl114 : s90.l.length ≤ 140737488355328 := (h103.sh.deep 1 rfl).len
  refine wq_val hq113 (r_len (s := s90) (n := s90.l.length) sl_62 rfl rfl (fun w h => (h.deep 1 rfl)) rfl) (wanted_none rfl _) rfl rfl fun a115 hq115 => ?_; clear hq113
  refine wq_val hq115 (r_neqN (p := ((nth s11.l t).l).length) (q := s90.l.length) rfl rfl rfl) (wanted_none rfl _) rfl rfl fun a116 hq116 => ?_; clear hq115
  refine wq_val hq116 (r_move rfl rfl) (wanted_none rfl _) rfl rfl fun a117 hq117 => ?_; clear hq116
  refine wq_val hq117 (r_move rfl rfl) (wanted_yes hq117 rfl rfl rfl rfl (decide_eq_false (by omega))) rfl rfl fun a119 hq119 => ?_; clear hq117
  refine wq_val hq119 (r_move rfl rfl) (wanted_yes hq119 rfl rfl rfl rfl (decide_eq_false (by omega))) rfl rfl fun a121 hq121 => ?_; clear hq119
  refine wq_val hq121 (r_ixN (s := s20) (q := t) sl_59 ti_46 rfl rfl rfl (fun w h => (h.deep 4 rfl)) (show t < s20.l.length from (by omega))) (wanted_yes hq121 rfl rfl rfl rfl (decide_eq_false (by omega))) rfl rfl fun a123 hq123 => ?_; clear hq121
  refine wq_val hq123 (r_lde (s := s20) (i := t) (v := (nth s20.l t).v) ti_46 rfl rfl rfl (fun w h => (h.deep 4 rfl)) (show t < s20.l.length from (by omega)) (Nat.le_of_ble_eq_true rfl) rfl) (wanted_yes hq123 rfl rfl rfl rfl (decide_eq_false (by omega))) rfl rfl fun a125 hq125 => ?_; clear hq123
  have hl127 : ((nth s20.l t).l).length ≤ 140737488355328 := ((h103.sh.deep 4 rfl).nth t (show t < s20.l.length from (by omega))).len
  refine wq_val hq125 (r_len (s := nth s20.l t) (n := ((nth s20.l t).l).length) sl_46 rfl rfl (fun w h => ((h.deep 4 rfl).nth t (show t < s20.l.length from (by omega)))) rfl) (wanted_yes hq125 rfl rfl rfl rfl (decide_eq_false (by omega))) rfl rfl fun a128 hq128 => ?_; clear hq125
  refine wq_val hq128 (r_fieldB (r := 3) fl_28_3 rfl rfl rfl) (wanted_yes hq128 rfl rfl rfl rfl (decide_eq_false (by omega))) rfl rfl fun a130 hq130 => ?_; clear hq128
  refine wq_val hq130 (r_ldb (i := 7) ti_3 rfl rfl rfl rfl) (wanted_yes hq130 rfl rfl rfl rfl (decide_eq_false (by omega))) rfl rfl fun a132 hq132 => ?_; clear hq130
  refine wq_val hq132 (r_neqI (p := ((((nth s20.l t).l).length : Nat) : Int)) (q := regs) rfl rfl rfl) (wanted_yes hq132 rfl rfl rfl rfl (decide_eq_false (by omega))) rfl rfl fun a134 hq134 => ?_; clear hq132
  refine wq_val hq134 (r_pickF rfl rfl (decide_eq_false (by omega)) rfl) (wanted_none rfl _) rfl rfl fun a135 hq135 => ?_; clear hq134
  refine wpQuiet_nil (hZ106 _ fun w136 hw136 => ?_)
  have h136 : St 147 (fun _ => False) W a135 w136 _ _ := ⟨hq135, hw136⟩
  clear hq135 hw136 h103
  refine hK105 _ _ ?_
  have h137 : St 147 (fun _ => False) W a135 w136 [(1, .pointer (some ⟨b3, 0, none⟩)), (3, s11.v), (5, s20.v), (8, .int .i64 ((t : Nat) : Int)), (9, s90.v), (10, s102.v), (102, .bool (decide (((((nth s20.l t).l).length : Nat) : Int) ≠ regs)))] [.deep 66 s102, .deep 66 s90, .blk b30 31 [.int .i64 ((checkG (pgOf code words locks regs)).code), .int .i64 ((checkG (pgOf code words locks regs)).thread), .int .i64 ((checkG (pgOf code words locks regs)).at_)], .blk b24 31 [.int .i64 0, .int .i64 0, .int .i64 0], .deep 46 s20, .blk b15 31 [.int .i64 0, .int .i64 0, .int .i64 0], .deep 46 s11, .blk b3 28 [code.v, words.v, .int .i64 locks, .int .i64 regs], .at_ code, .at_ words] := h136.nrm ⟨rfl, rfl, rfl, rfl, rfl, rfl, rfl, trivial⟩ [0, 1, 2, 3, 4, 5, 6, 7, 8, 9] (by decide) ⟨rfl, rfl, rfl, rfl, rfl, rfl, rfl, rfl, rfl, rfl, trivial⟩
  clear h136
  refine x_condF h137 rfl (decide_eq_false (by omega)) ?_
  refine wp_skip ?_
  refine hK104 _ _ ?_
  refine wp_seq_k fun K138 hK138 => ?_
  refine wp_seq_k fun K139 hK139 => wp_region_lit ?_
  refine wms 1 h137 rfl fun a140 h140 => ?_; clear h137
  refine wpList_nil (hK139 _ _ ?_)
  refine wp_block ?_
  refine x_loop (fun m a w => ∃ (i : Nat), (i ≤ s90.l.length) ∧ St 147 (fun _ => False) W a w [(1, .pointer (some ⟨b3, 0, none⟩)), (3, s11.v), (5, s20.v), (8, .int .i64 ((t : Nat) : Int)), (9, s90.v), (10, s102.v), (11, .int .i64 ((i : Nat) : Int))] [.deep 66 s102, .deep 66 s90, .blk b30 31 [.int .i64 ((checkG (pgOf code words locks regs)).code), .int .i64 ((checkG (pgOf code words locks regs)).thread), .int .i64 ((checkG (pgOf code words locks regs)).at_)], .blk b24 31 [.int .i64 0, .int .i64 0, .int .i64 0], .deep 46 s20, .blk b15 31 [.int .i64 0, .int .i64 0, .int .i64 0], .deep 46 s11, .blk b3 28 [code.v, words.v, .int .i64 locks, .int .i64 regs], .at_ code, .at_ words] ∧ m = s90.l.length - i) ⟨_, 0, (by omega), h140.nrm ⟨rfl, rfl, rfl, rfl, rfl, rfl, rfl, trivial⟩ [0, 1, 2, 3, 4, 5, 6, 7, 8, 9] (by decide) ⟨rfl, rfl, rfl, rfl, rfl, rfl, rfl, rfl, rfl, rfl, trivial⟩, rfl⟩ ?_
  clear h140
  rintro m141 a141 w141 ⟨i, hi, h141, hm141⟩
  refine wp_seq_k fun K142 hK142 => ?_
  refine wp_seq_k fun K143 hK143 => wp_region_lit ?_
  refine wms 2 h141 rfl fun a144 h144 => ?_; clear h141
  refine wv h144 (r_len (s := s90) (n := s90.l.length) sl_62 rfl rfl (fun w h => (h.deep 1 rfl)) rfl) rfl rfl fun a145 h145 => ?_; clear h144
  refine wv h145 (r_lssN (p := i) (q := s90.l.length) rfl rfl rfl) rfl rfl fun a146 h146 => ?_; clear h145
  refine wpList_nil (hK143 _ _ ?_)
  refine x_cond h146 rfl (fun hb147 => ?_) (fun hb147 => ?_)
  ·
   have hp147 : i < s90.l.length := of_decide_eq_true hb147
   refine wp_skip ?_
   refine hK142 _ _ ?_
   refine wp_seq_k fun K148 hK148 => ?_
   refine wp_block ?_
   refine wp_seq_k fun K149 hK149 => wp_region_lit ?_
   refine wms 2 h146 rfl fun a150 h150 => ?_; clear h146
   refine wv h150 (r_ixN (s := s90) (q := i) sl_62 ti_66 rfl rfl rfl (fun w h => (h.deep 1 rfl)) (show i < s90.l.length from (by omega))) rfl rfl fun a151 h151 => ?_; clear h150
   refine wv h151 (r_lde (s := s90) (i := i) (v := (nth s90.l i).v) ti_66 rfl rfl rfl (fun w h => (h.deep 1 rfl)) (show i < s90.l.length from (by omega)) (Nat.le_of_ble_eq_true rfl) rfl) rfl rfl fun a152 h152 => ?_; clear h151
   refine wl_ex (x_call h152 bd_40 rfl rfl rfl rfl rfl (list_ls (rList_c (nth s90.l i) _ ((h152.sh.deep 1 rfl).nth i (show i < s90.l.length from (by omega))) (by first | (rw [hs2 _ (by omega), List.length_map, List.length_range]; omega) | (rw [hk2 _ (by omega), List.length_map, List.length_range]; omega))))) (wanted_none rfl _) ?_
   rintro a153 w153 ⟨_, ⟨s153, rfl, hs153⟩, hf153⟩
   have h153 := (⟨hf153, h152.sh.call hs153 (by intro A hA b hb; first | (simp at hA; done) | (simp at hA; subst hA; first | exact Flat.noRd hb | exact (hb : False).elim) | (simp at hA; rcases hA with rfl | rfl <;> first | exact Flat.noRd hb | exact (hb : False).elim))⟩ : St 147 (fun _ => False) W a153 w153 _ _)
   clear hf153 hs153
   clear h152
   refine wms 1 h153 rfl fun a154 h154 => ?_; clear h153
   refine wpList_nil (hK149 _ _ ?_)
   have heq : (nth (nth s11.l t).l i).l = listB (nth s90.l i).l := by rw [ha2 i (by omega), hs2 i (by omega)]; exact row_live hov (by omega) (hF t (by omega)) i
   refine wp_seq_k fun K155 hK155 => wp_region_lit ?_
   refine wms 2 h154 rfl fun a156 h156 => ?_; clear h154
   refine wv h156 (r_ixN (s := s11) (q := t) sl_59 ti_46 rfl rfl rfl (fun w h => (h.deep 7 rfl)) (show t < s11.l.length from (by omega))) rfl rfl fun a157 h157 => ?_; clear h156
   refine wv h157 (r_lde (s := s11) (i := t) (v := (nth s11.l t).v) ti_46 rfl rfl rfl (fun w h => (h.deep 7 rfl)) (show t < s11.l.length from (by omega)) (Nat.le_of_ble_eq_true rfl) rfl) rfl rfl fun a158 h158 => ?_; clear h157
   refine wms 1 h158 rfl fun a159 h159 => ?_; clear h158
   refine wv h159 (r_ixN (s := nth s11.l t) (q := i) sl_46 ti_24 rfl rfl rfl (fun w h => ((h.deep 7 rfl).nth t (show t < s11.l.length from (by omega)))) (show i < ((nth s11.l t).l).length from (by omega))) rfl rfl fun a160 h160 => ?_; clear h159
   refine wv h160 (r_lde (s := nth s11.l t) (i := i) (v := (nth ((nth s11.l t).l) i).v) ti_24 rfl rfl rfl (fun w h => ((h.deep 7 rfl).nth t (show t < s11.l.length from (by omega)))) (show i < ((nth s11.l t).l).length from (by omega)) (Nat.le_of_ble_eq_true rfl) rfl) rfl rfl fun a161 h161 => ?_; clear h160
   refine wms 1 h161 rfl fun a162 h162 => ?_; clear h161
   refine wl_ex (x_call h162 bd_41 rfl rfl rfl rfl rfl (ints_c (nth ((nth s11.l t).l) i) (⟨s153.v, listB ((nth s90.l i).l)⟩ : Ls Int) _ (((h162.sh.deep 7 rfl).nth t (show t < s11.l.length from (by omega))).nth i (show i < ((nth s11.l t).l).length from (by omega))) (h162.sh.own 0 rfl))) (wanted_none rfl _) ?_
   rintro a163 w163 ⟨_, ⟨rfl, hs163⟩, hf163⟩
   have h163 : St 147 (fun _ => False) W a163 w163 _ _ := ⟨hf163, h162.sh.call0 hs163⟩
   clear hf163 hs163
   clear h162
   refine wms 1 h163 rfl fun a164 h164 => ?_; clear h163
   refine wpList_nil (hK155 _ _ ?_)
   refine wp_seq_k fun K165 hK165 => wp_region_lit ?_
   refine wms 1 h164 rfl fun a166 h166 => ?_; clear h164
   refine wv h166 (r_not rfl rfl) rfl rfl fun a167 h167 => ?_; clear h166
   refine wpList_nil (hK165 _ _ ?_)
   refine x_condF h167 rfl (by rw [(decide_eq_true (by assumption))]; rfl) ?_
   refine wp_skip ?_
   refine hK148 _ _ ?_
   refine wp_region_lit ?_
   refine wms 1 h167 rfl fun a168 h168 => ?_; clear h167
   refine wv h168 (r_addN (p := i) (q := 1) rfl rfl rfl (show i + 1 < 9223372036854775808 from (by omega))) rfl rfl fun a169 h169 => ?_; clear h168
   refine wms 1 h169 rfl fun a170 h170 => ?_; clear h169
   refine wpList_nil ?_
   refine x_again ⟨_, ?_, i + 1, ?_, h170.nrm ⟨rfl, rfl, rfl, rfl, rfl, rfl, rfl, trivial⟩ [1, 2, 3, 4, 5, 6, 7, 8, 9, 10] (by decide) ⟨rfl, rfl, rfl, rfl, rfl, rfl, rfl, rfl, rfl, rfl, trivial⟩, rfl⟩
   · rw [hm141]; first | omega | (simp only [lens9]; omega)
   · omega
  have hp147 : ¬ (i < s90.l.length) := of_decide_eq_false hb147
  refine wp_exit ?_
  refine hK138 _ _ ?_
  refine wp_seq_k fun K171 hK171 => wp_region_lit ?_
  refine wms 1 h146 rfl fun a172 h172 => ?_; clear h146
  refine wpList_nil (hK171 _ _ ?_)
  refine wp_block ?_
  refine x_loop (fun m a w => ∃ (r : Nat), (r ≤ regs.toNat) ∧ St 147 (fun _ => False) W a w [(1, .pointer (some ⟨b3, 0, none⟩)), (3, s11.v), (5, s20.v), (8, .int .i64 ((t : Nat) : Int)), (10, s102.v), (14, .int .i64 ((r : Nat) : Int))] [.deep 66 s102, .deep 66 s90, .blk b30 31 [.int .i64 ((checkG (pgOf code words locks regs)).code), .int .i64 ((checkG (pgOf code words locks regs)).thread), .int .i64 ((checkG (pgOf code words locks regs)).at_)], .blk b24 31 [.int .i64 0, .int .i64 0, .int .i64 0], .deep 46 s20, .blk b15 31 [.int .i64 0, .int .i64 0, .int .i64 0], .deep 46 s11, .blk b3 28 [code.v, words.v, .int .i64 locks, .int .i64 regs], .at_ code, .at_ words] ∧ m = regs.toNat - r) ⟨_, 0, (by omega), h172.nrm ⟨rfl, rfl, rfl, rfl, rfl, rfl, trivial⟩ [0, 1, 2, 3, 4, 5, 6, 7, 8, 9] (by decide) ⟨rfl, rfl, rfl, rfl, rfl, rfl, rfl, rfl, rfl, rfl, trivial⟩, rfl⟩ ?_
  clear h172
  rintro m173 a173 w173 ⟨r, hr, h173, hm173⟩
  refine wp_seq_k fun K174 hK174 => ?_
  refine wp_seq_k fun K175 hK175 => wp_region_lit ?_
  refine wms 1 h173 rfl fun a176 h176 => ?_; clear h173
  refine wv h176 (r_fieldB (r := 3) fl_28_3 rfl rfl rfl) rfl rfl fun a177 h177 => ?_; clear h176
  refine wv h177 (r_ldb (i := 7) ti_3 rfl rfl rfl rfl) rfl rfl fun a178 h178 => ?_; clear h177
  refine wv h178 (r_lssI (p := ((r : Nat) : Int)) (q := regs) rfl rfl rfl) rfl rfl fun a179 h179 => ?_; clear h178
  refine wpList_nil (hK175 _ _ ?_)
  refine x_cond h179 rfl (fun hb180 => ?_) (fun hb180 => ?_)
  ·
   have hp180 : ((r : Nat) : Int) < regs := of_decide_eq_true hb180
   refine wp_skip ?_
   refine hK174 _ _ ?_
   refine wp_seq_k fun K181 hK181 => ?_
   refine wp_block ?_
   refine wp_seq_k fun K182 hK182 => wp_region_lit ?_
   refine wms 2 h179 rfl fun a183 h183 => ?_; clear h179
   have hl184 : s102.l.length ≤ 140737488355328 := (h183.sh.deep 0 rfl).len
   refine wv h183 (r_ixN (s := s102) (q := r) sl_62 ti_66 rfl rfl rfl (fun w h => (h.deep 0 rfl)) (show r < s102.l.length from (by omega))) rfl rfl fun a185 h185 => ?_; clear h183
   refine wv h185 (r_lde (s := s102) (i := r) (v := (nth s102.l r).v) ti_66 rfl rfl rfl (fun w h => (h.deep 0 rfl)) (show r < s102.l.length from (by omega)) (Nat.le_of_ble_eq_true rfl) rfl) rfl rfl fun a186 h186 => ?_; clear h185
   refine wl_ex (x_call h186 bd_40 rfl rfl rfl rfl rfl (list_ls (rList_c (nth s102.l r) _ ((h186.sh.deep 0 rfl).nth r (show r < s102.l.length from (by omega))) (by first | (rw [hs2 _ (by omega), List.length_map, List.length_range]; omega) | (rw [hk2 _ (by omega), List.length_map, List.length_range]; omega))))) (wanted_none rfl _) ?_
   rintro a187 w187 ⟨_, ⟨s187, rfl, hs187⟩, hf187⟩
   have h187 := (⟨hf187, h186.sh.call hs187 (by intro A hA b hb; first | (simp at hA; done) | (simp at hA; subst hA; first | exact Flat.noRd hb | exact (hb : False).elim) | (simp at hA; rcases hA with rfl | rfl <;> first | exact Flat.noRd hb | exact (hb : False).elim))⟩ : St 147 (fun _ => False) W a187 w187 _ _)
   clear hf187 hs187
   clear h186
   refine wms 1 h187 rfl fun a188 h188 => ?_; clear h187
   refine wpList_nil (hK182 _ _ ?_)
   have heq : (nth (nth s20.l t).l r).l = listB (nth s102.l r).l := by rw [hc2 r (by omega), hk2 r (by omega)]; exact row_clash hov (by omega) (hF t (by omega)) r
   refine wp_seq_k fun K189 hK189 => wp_region_lit ?_
   refine wms 2 h188 rfl fun a190 h190 => ?_; clear h188
   refine wv h190 (r_ixN (s := s20) (q := t) sl_59 ti_46 rfl rfl rfl (fun w h => (h.deep 5 rfl)) (show t < s20.l.length from (by omega))) rfl rfl fun a191 h191 => ?_; clear h190
   refine wv h191 (r_lde (s := s20) (i := t) (v := (nth s20.l t).v) ti_46 rfl rfl rfl (fun w h => (h.deep 5 rfl)) (show t < s20.l.length from (by omega)) (Nat.le_of_ble_eq_true rfl) rfl) rfl rfl fun a192 h192 => ?_; clear h191
   refine wms 1 h192 rfl fun a193 h193 => ?_; clear h192
   refine wv h193 (r_ixN (s := nth s20.l t) (q := r) sl_46 ti_24 rfl rfl rfl (fun w h => ((h.deep 5 rfl).nth t (show t < s20.l.length from (by omega)))) (show r < ((nth s20.l t).l).length from (by omega))) rfl rfl fun a194 h194 => ?_; clear h193
   refine wv h194 (r_lde (s := nth s20.l t) (i := r) (v := (nth ((nth s20.l t).l) r).v) ti_24 rfl rfl rfl (fun w h => ((h.deep 5 rfl).nth t (show t < s20.l.length from (by omega)))) (show r < ((nth s20.l t).l).length from (by omega)) (Nat.le_of_ble_eq_true rfl) rfl) rfl rfl fun a195 h195 => ?_; clear h194
   refine wms 1 h195 rfl fun a196 h196 => ?_; clear h195
   refine wl_ex (x_call h196 bd_41 rfl rfl rfl rfl rfl (ints_c (nth ((nth s20.l t).l) r) (⟨s187.v, listB ((nth s102.l r).l)⟩ : Ls Int) _ (((h196.sh.deep 5 rfl).nth t (show t < s20.l.length from (by omega))).nth r (show r < ((nth s20.l t).l).length from (by omega))) (h196.sh.own 0 rfl))) (wanted_none rfl _) ?_
   rintro a197 w197 ⟨_, ⟨rfl, hs197⟩, hf197⟩
   have h197 : St 147 (fun _ => False) W a197 w197 _ _ := ⟨hf197, h196.sh.call0 hs197⟩
   clear hf197 hs197
   clear h196
   refine wms 1 h197 rfl fun a198 h198 => ?_; clear h197
   refine wpList_nil (hK189 _ _ ?_)
   refine wp_seq_k fun K199 hK199 => wp_region_lit ?_
   refine wms 1 h198 rfl fun a200 h200 => ?_; clear h198
   refine wv h200 (r_not rfl rfl) rfl rfl fun a201 h201 => ?_; clear h200
   refine wpList_nil (hK199 _ _ ?_)
   refine x_condF h201 rfl (by rw [(decide_eq_true (by assumption))]; rfl) ?_
   refine wp_skip ?_
   refine hK181 _ _ ?_
   refine wp_region_lit ?_
   refine wms 1 h201 rfl fun a202 h202 => ?_; clear h201
   refine wv h202 (r_addN (p := r) (q := 1) rfl rfl rfl (show r + 1 < 9223372036854775808 from (by omega))) rfl rfl fun a203 h203 => ?_; clear h202
   refine wms 1 h203 rfl fun a204 h204 => ?_; clear h203
   refine wpList_nil ?_
   refine x_again ⟨_, ?_, r + 1, ?_, h204.nrm ⟨rfl, rfl, rfl, rfl, rfl, rfl, trivial⟩ [1, 2, 3, 4, 5, 6, 7, 8, 9, 10] (by decide) ⟨rfl, rfl, rfl, rfl, rfl, rfl, rfl, rfl, rfl, rfl, trivial⟩, rfl⟩
   · rw [hm173]; first | omega | (simp only [lens9]; omega)
   · omega
  have hp180 : ¬ (((r : Nat) : Int) < regs) := of_decide_eq_false hb180
  refine wp_exit ?_
  refine hK79 _ _ ?_
  refine wp_region_lit ?_
  refine wms 1 h179 rfl fun a205 h205 => ?_; clear h179
  refine wv h205 (r_addN (p := t) (q := 1) rfl rfl rfl (show t + 1 < 9223372036854775808 from (by omega))) rfl rfl fun a206 h206 => ?_; clear h205
  refine wms 1 h206 rfl fun a207 h207 => ?_; clear h206
  refine wpList_nil ?_
  refine x_again ⟨_, ?_, t + 1, ?_, h207.nrm ⟨rfl, rfl, rfl, rfl, trivial⟩ [2, 3, 4, 5, 6, 7, 8, 9] (by decide) ⟨rfl, rfl, rfl, rfl, rfl, rfl, rfl, rfl, trivial⟩, rfl⟩
  · rw [hm70]; first | omega | (simp only [lens9]; omega)
  · omega
 have hp78 : ¬ (t < code.l.length) := of_decide_eq_false hb78
 refine wp_exit ?_
 refine hK67 _ _ ?_
 refine wp_seq_k fun K208 hK208 => wp_region_lit ?_
 refine wms 1 h77 rfl fun a209 h209 => ?_; clear h77
 refine wpList_nil (hK208 _ _ ?_)
 refine wp_ret ?_
 try simp only [Exit.then, Exit.inBlock]
 refine x_ret1 (fn := Try.f13) (t := 2) rfl h209 rfl ?_
 exact ⟨rfl, (h209.sh.sel [] (by decide) trivial)⟩

theorem liveTells_any (code : Ls (Ls Ins)) (words : Ls Int) (locks regs : Int) (W : World) (hcode : code.At W) (hwords : words.At W) : Rets Try.prog 13 [.agg #[code.v, words.v, .int .i64 locks, .int .i64 regs]] W (fun v w' => v = .bool true ∧ Sh0 W w' []) := by
  cases hv : vastG (code.l.map (·.l)) words.l with
  | true => exact liveTells_v code words locks regs W hcode hwords hv
  | false =>
    by_cases hok : OkPg (pgOf code words locks regs)
    · exact liveTells_k code words locks regs W hcode hwords hv hok
    · exact liveTells_b code words locks regs W hcode hwords hv (fun h => hok (checkG_code_pos.1 h))
end Go.Proofs.Ytanhbpofhebbaaa
