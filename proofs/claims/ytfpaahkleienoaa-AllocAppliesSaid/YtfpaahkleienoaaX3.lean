/-
  Contracts of functions of this program and of the references, each walked once.
-/
import Derived.Test.YtfpaahkleienoaaP2
namespace Go.Proofs.Ytfpaahkleienoaa
open Go.RowKit
set_option linter.unusedSimpArgs false
set_option linter.unusedVariables false


theorem own_blk {α : Type} [Enc α] {w : World} {E : TypeId} {v : Value} {l : List α} (h0 : 0 < l.length) (h : w.ownsRow 0 E (Enc.sz α) v l.length (encL l)) : v.ownBlock = some (vblk v) := by
  rcases h.2 with ⟨_, hn⟩ | ⟨g, cap, cur, hv, _⟩
  · omega
  · rw [hv]; rfl
theorem nth_app_ge {α : Type} [Inhabited α] (l m : List α) (i : Nat) (h : l.length ≤ i) : nth (l ++ m) i = nth m (i - l.length) := by simp only [nth, List.getD, List.getElem?_append_right h]
theorem nth_replicate {α : Type} [Inhabited α] (n : Nat) (x : α) (i : Nat) (h : i < n) : nth (List.replicate n x) i = x := by simp [nth, h]
theorem nth_app_lt {α : Type} [Inhabited α] (l m : List α) (i : Nat) (h : i < l.length) : nth (l ++ m) i = nth l i := by simp [nth, List.getElem?_append_left h]

/-- What each order becomes, as a list. -/
def becL (B : Nat → Ins → List Ins) (code : List Ins) : List (List Ins) := (List.range code.length).map fun i => B i (nth code i)
theorem becL_len (B : Nat → Ins → List Ins) (code : List Ins) : (becL B code).length = code.length := by simp [becL]
theorem becL_nth (B : Nat → Ins → List Ins) (code : List Ins) (i : Nat) (h : i < code.length) : nth (becL B code) i = B i (nth code i) := by simp [becL, nth, h]
def fixMv (become : List (List Ins)) (code : List Ins) (i : Nat) (x : Ins) : Ins :=
  if x.op = 14 ∧ ((nth code i).op = 14 ∨ (nth code i).op = 15) then { x with a := placeL become x.a.toNat }
  else if x.op = 15 ∧ (nth code i).op = 15 then { x with b := placeL become x.b.toNat } else x
def outUpto (B : Nat → Ins → List Ins) (code : List Ins) (k : Nat) : List Ins := (List.range k).flatMap fun i => B i (nth code i)
def fromUpto (B : Nat → Ins → List Ins) (code : List Ins) (k : Nat) : List Int := (List.range k).flatMap fun i => List.replicate (B i (nth code i)).length (i : Int)
theorem outUpto_succ (B : Nat → Ins → List Ins) (code : List Ins) (k : Nat) : outUpto B code (k + 1) = outUpto B code k ++ B k (nth code k) := by simp [outUpto, List.range_succ]
theorem fromUpto_succ (B : Nat → Ins → List Ins) (code : List Ins) (k : Nat) : fromUpto B code (k + 1) = fromUpto B code k ++ List.replicate (B k (nth code k)).length (k : Int) := by simp [fromUpto, List.range_succ]
theorem fromUpto_len (B : Nat → Ins → List Ins) (code : List Ins) (k : Nat) : (fromUpto B code k).length = (outUpto B code k).length := by
  induction k with
  | zero => rfl
  | succ k ih => rw [fromUpto_succ, outUpto_succ]; simp [ih]
theorem fromUpto_at (B : Nat → Ins → List Ins) (code : List Ins) (k q : Nat) (h : q < (fromUpto B code k).length) : 0 ≤ nth (fromUpto B code k) q ∧ (nth (fromUpto B code k) q).toNat < k ∧ ∃ j, j < (B (nth (fromUpto B code k) q).toNat (nth code (nth (fromUpto B code k) q).toNat)).length ∧ nth (outUpto B code k) q = nth (B (nth (fromUpto B code k) q).toNat (nth code (nth (fromUpto B code k) q).toNat)) j := by
  induction k with
  | zero => simp [fromUpto] at h
  | succ k ih =>
    rw [fromUpto_succ] at h ⊢
    by_cases hq : q < (fromUpto B code k).length
    · obtain ⟨h1, h2, j, h3, h4⟩ := ih hq
      rw [nth_app_lt _ _ _ hq]
      refine ⟨h1, by omega, j, h3, ?_⟩
      rw [outUpto_succ, nth_app_lt _ _ _ (by rw [← fromUpto_len]; exact hq)]
      exact h4
    · rw [List.length_append, List.length_replicate] at h
      have hn : nth (fromUpto B code k ++ List.replicate (B k (nth code k)).length (k : Int)) q = (k : Int) := by
        have hq2 : q - (fromUpto B code k).length < (B k (nth code k)).length := by omega
        rw [nth_app_ge _ _ _ (by omega), nth_replicate _ _ _ hq2]
      rw [hn]
      refine ⟨by omega, by omega, q - (fromUpto B code k).length, by simp; omega, ?_⟩
      rw [outUpto_succ]
      simp only [nth, List.getD, List.getElem?_append_right (show (outUpto B code k).length ≤ q by rw [← fromUpto_len]; omega), fromUpto_len]
      rfl
theorem placeL_out (B : Nat → Ins → List Ins) (code : List Ins) (k : Nat) (h : k ≤ code.length) : (outUpto B code k).length = placeL (becL B code) k := by
  induction k with
  | zero => rfl
  | succ k ih =>
    rw [outUpto_succ, placeL_succ _ _ (by rw [becL_len]; omega), becL_nth _ _ _ (by omega), List.length_append, ih (by omega)]
def movedL (B : Nat → Ins → List Ins) (code : List Ins) : List Ins := (List.range code.length).flatMap fun i => (B i (nth code i)).map (fixMv (becL B code) code i)
theorem movedL_of (B : Nat → Ins → List Ins) (code : List Ins) (ou : List Ins) (hl : ou.length = (outUpto B code code.length).length)
    (h : ∀ q, q < ou.length → nth ou q = fixMv (becL B code) code (nth (fromUpto B code code.length) q).toNat (nth (outUpto B code code.length) q)) : ou = movedL B code := by
  have key : ∀ k, (List.range k).flatMap (fun i => (B i (nth code i)).map (fixMv (becL B code) code i)) = (List.range (outUpto B code k).length).map fun q => fixMv (becL B code) code (nth (fromUpto B code k) q).toNat (nth (outUpto B code k) q) := by
    intro k
    induction k with
    | zero => rfl
    | succ k ih =>
      rw [List.range_succ, List.flatMap_append, ih]
      apply ext_nth
      · simp [outUpto_succ]
      · intro q hq
        have hql : q < (outUpto B code k).length + (B k (nth code k)).length := by simpa using hq
        have hq2 : q < (outUpto B code (k + 1)).length := by rw [outUpto_succ]; simpa using hql
        have e2 : nth ((List.range (outUpto B code (k + 1)).length).map fun q => fixMv (becL B code) code (nth (fromUpto B code (k + 1)) q).toNat (nth (outUpto B code (k + 1)) q)) q = fixMv (becL B code) code (nth (fromUpto B code (k + 1)) q).toNat (nth (outUpto B code (k + 1)) q) := by simp [nth, hq2]
        rw [e2, fromUpto_succ, outUpto_succ]
        by_cases h1 : q < (outUpto B code k).length
        · rw [nth_app_lt _ _ _ (by simpa using h1), nth_app_lt _ _ _ (by rw [fromUpto_len]; exact h1), nth_app_lt _ _ _ h1]
          simp [nth, h1]
        · have h3 : q - (outUpto B code k).length < (B k (nth code k)).length := by omega
          have e3 : nth (fromUpto B code k ++ List.replicate (B k (nth code k)).length (k : Int)) q = (k : Int) := by
            rw [nth_app_ge _ _ _ (by rw [fromUpto_len]; omega), fromUpto_len, nth_replicate _ _ _ h3]
          have e4 : nth (outUpto B code k ++ B k (nth code k)) q = nth (B k (nth code k)) (q - (outUpto B code k).length) := by
            simp only [nth, List.getD, List.getElem?_append_right (show (outUpto B code k).length ≤ q by omega)]
          rw [e3, e4]
          rw [nth_app_ge _ _ _ (by simp; omega)]
          simp only [List.flatMap_cons, List.flatMap_nil, List.append_nil, List.length_map, List.length_range]
          rw [nth_map' _ _ _ h3]
          simp
  unfold movedL
  rw [key]
  apply ext_nth
  · simpa using hl
  · intro q hq
    rw [h q hq]
    have : q < (outUpto B code code.length).length := by omega
    simp [nth, this]
/-- The jumps of what orders become tell old places. -/
def BecB (B : Nat → Ins → List Ins) (code : List Ins) : Prop := ∀ i, i < code.length → ∀ k, k < (B i (nth code i)).length →
  ((nth (B i (nth code i)) k).op ≠ 14 ∨ ((nth code i).op ≠ 14 ∧ (nth code i).op ≠ 15) ∨ (0 ≤ (nth (B i (nth code i)) k).a ∧ (nth (B i (nth code i)) k).a ≤ code.length)) ∧
  ((nth (B i (nth code i)) k).op ≠ 15 ∨ (nth code i).op ≠ 15 ∨ (0 ≤ (nth (B i (nth code i)) k).b ∧ (nth (B i (nth code i)) k).b ≤ code.length))

set_option maxRecDepth 10000 in
set_option maxHeartbeats 1000000 in
theorem cloneI_c (x : Ls Int) (W : World) (hx : x.At W) (hl : x.l.length ≤ 100000) :
    Rets Try.prog 47 [x.v] W (fun v w' => ∃ s : Ls Int, v = s.v ∧ Sh0 W w' [.own 3 (⟨s.v, x.l⟩ : Ls Int)]) := by
 refine x_enter (N := 8) Try.func47 rfl Try.ntmps47 (Nat.le_of_ble_eq_true rfl) fun a1 hf1 => ?_
 have h1 : St 8 (fun _ => False) W a1 W [(0, x.v)] [.at_ x] := ⟨hf1.sub ⟨rfl, trivial⟩, Sh0.ext1 hx⟩
 clear hf1
 refine wp_seq_k fun K2 hK2 => wp_region_lit <| wms 1 h1 rfl fun a3 h3 => wpList_nil <| hK2 _ _ <| wp_seq_k fun K4 hK4 => wp_seq_k fun K5 hK5 => wp_region_lit <| wms 1 h3 rfl fun a6 h6 => wv h6 (r_eqnil (s := x) sl_23 rfl rfl rfl (fun w h => (h.at 0 rfl))) rfl rfl fun a7 h7 => wpList_nil <| hK5 _ _ <| x_cond h7 rfl (fun hb8 => ?_) (fun hb8 => ?_); clear h1 h3 h6
 ·skip
  refine wp_seq_k fun K9 hK9 => wp_region_lit <| wms 1 h7 rfl fun a10 h10 => wpList_nil <| hK9 _ _ <| wp_ret ?_; clear h7
  try simp only [Exit.then, Exit.inBlock]
  refine x_ret1 (fn := Try.f47) (t := 2) rfl h10 rfl <| ⟨⟨.slice none 0 0, []⟩, rfl, ?_⟩
  rw [nilB_nil hx (by assumption)]
  exact (h10.sh.nil (α := Int) 3).sel (L' := [_]) [0] (by decide) ⟨rfl, trivial⟩
 refine wp_skip <| hK4 _ _ <| wp_seq_k fun K11 hK11 => wp_region_lit <| wl_ex (x_lit0 (α := Int) h7 sl_23 ti_3 rfl rfl rfl) (wanted_none rfl _) ?_
 rintro a12 w12 ⟨v12, h12⟩; clear h7
 refine wms 1 h12 rfl fun a13 h13 => wl_ex (x_app (r := 0) (rm := 1) (s := (⟨v12, []⟩ : Ls Int)) (m := x) h13 sl_23 ti_3 rfl rfl rfl rfl rfl rfl rfl (fun w h => (h.at 1 rfl)) (fun b hb => .inr hb) (fun q hq b hb => .inr ⟨q, hq, hb⟩) rfl rfl rfl inferInstance (show (([]).length + x.l.length) * 8 ≤ 140737488355328 ∧ ([]).length + x.l.length ≤ 140737488355328 from (by first | omega | (simp only [lens9]; omega))) rfl rfl) (wanted_none rfl _) ?_; clear h12
 rintro a14 w14 ⟨v14, h14⟩; clear h13
 refine wms 1 h14 rfl fun a15 h15 => wpList_nil <| hK11 _ _ <| wp_ret ?_; clear h14
 try simp only [Exit.then, Exit.inBlock]
 refine x_ret1 (fn := Try.f47) (t := 2) rfl h15 rfl <| ⟨⟨v14, []⟩, rfl, ?_⟩
 exact (h15.sh.sel (L' := [.own 3 (⟨v14, x.l⟩ : Ls Int)]) [0] (by decide) ⟨rfl, trivial⟩)

set_option maxRecDepth 10000 in
set_option maxHeartbeats 4000000 in
theorem moved_c (code : Ls Ins) (bf : FuncId) (us ws : List Value) (B : Nat → Ins → List Ins) (Env : Asn) (W : World) (hc : code.At W) (hcl : code.l.length ≤ 5000) (hbd : bodyI Try.prog bf = true) (hEf : ∀ b, ¬ Env.fp b) (hEo : Env.ok W) (hbec : ∀ (w : World) (i : Nat), Env.ok w → i < code.l.length → Rets Try.prog bf (us ++ [.int .i64 (i : Int), .agg #[.int .i64 (nth code.l i).op, .int .i64 (nth code.l i).a, .int .i64 (nth code.l i).b, .int .i64 (nth code.l i).c]] ++ ws) w (fun v w' => ∃ s : Ls Ins, v = s.v ∧ Sh0 w w' [.own 32 (⟨s.v, B i (nth code.l i)⟩ : Ls Ins)])) (hB8 : ∀ i, i < code.l.length → (B i (nth code.l i)).length ≤ 8) (hbok : BecB B code.l) :
    Rets Try.prog 50 [code.v, .func (.func bf) us.toArray ws.toArray] W (fun v w' => ∃ s : Ls Ins, v = s.v ∧ s.l = movedL B code.l ∧ Sh0 W w' [.own 32 s]) := by
 refine x_enter (N := 115) Try.func50 rfl Try.ntmps50 (Nat.le_of_ble_eq_true rfl) fun a1 hf1 => ?_
 have h1 : St 115 (fun _ => False) W a1 W [(0, code.v), (1, .func (.func bf) us.toArray ws.toArray)] [.at_ code, Env] := ⟨hf1.sub ⟨rfl, rfl, trivial⟩, Sh0.ext (by intro A hA; simp at hA; rcases hA with rfl | rfl; exact hc; exact hEo) (by intro A hA b hb; simp at hA; rcases hA with rfl | rfl; exact hb; exact hEf b hb)⟩
 clear hf1
 refine wp_seq_k fun K2 hK2 => wp_region_lit <| wms 1 h1 rfl fun a3 h3 => wpList_nil <| hK2 _ _ <| wp_seq_k fun K4 hK4 => wp_region_lit <| wms 1 h3 rfl fun a5 h5 => wpList_nil <| hK4 _ _ <| wp_seq_k fun K6 hK6 => wp_region_lit <| wms 1 h5 rfl fun a7 h7 => ?_; clear h1 h3 h5
 have hl8 : code.l.length ≤ 140737488355328 := (h7.sh.at 0 rfl).len
 refine wv h7 (r_len (s := code) (n := code.l.length) sl_33 rfl rfl (fun w h => (h.at 0 rfl)) rfl) rfl rfl fun a9 h9 => wv h9 (r_addN (p := code.l.length) (q := 1) rfl rfl rfl (show code.l.length + 1 < 9223372036854775808 from (by omega))) rfl rfl fun a10 h10 => wl_ex (x_make (n := code.l.length + 1) (0 : Int) h10 sl_23 ti_3 rfl rfl rfl rfl rfl (show 8 * (code.l.length + 1) ≤ 140737488355328 ∧ code.l.length + 1 ≤ 140737488355328 from (by omega)) (fun w => Flat.inner _ _) (fun b => Flat.on _ _) rfl rfl) (wanted_none rfl _) ?_; clear h7 h9
 rintro a11 w11 ⟨v11, h11⟩; clear h10
 refine wms 1 h11 rfl fun a12 h12 => wpList_nil <| hK6 _ _ <| wp_seq_k fun K13 hK13 => wp_region_lit <| wl_ex (x_lit0 (α := Int) h12 sl_23 ti_3 rfl rfl rfl) (wanted_none rfl _) ?_; clear h11
 rintro a14 w14 ⟨v14, h14⟩; clear h12
 refine wms 1 h14 rfl fun a15 h15 => wpList_nil <| hK13 _ _ <| wp_seq_k fun K16 hK16 => wp_seq_k fun K17 hK17 => wp_region_lit <| wms 1 h15 rfl fun a18 h18 => wv h18 (r_len (s := code) (n := code.l.length) sl_33 rfl rfl (fun w h => (h.at 2 rfl)) rfl) rfl rfl fun a19 h19 => wms 1 h19 rfl fun a20 h20 => wpList_nil <| hK17 _ _ <| wp_block ?_; clear h14 h15 h18 h19
 have h22 := h20.nil (α := Ins) 32
 clear h20
 refine x_loop (fun m a w => ∃ (k : Nat) (out : List Ins) (vo : Value) (fr : List Int) (vf : Value) (pl : List Int), (k ≤ code.l.length) ∧ (out = outUpto B code.l k) ∧ (fr = fromUpto B code.l k) ∧ (pl.length = code.l.length + 1) ∧ (∀ j, j < k → nth pl j = (placeL (becL B code.l) j : Int)) ∧ (out.length ≤ 8 * k) ∧ (fr.length = out.length) ∧ St 115 (fun _ => False) W a w [(0, code.v), (1, .func (.func bf) us.toArray ws.toArray), (5, vo), (6, v11), (7, vf), (18, code.v), (19, .int .i64 ((code.l.length : Nat) : Int)), (20, .int .i64 ((k : Nat) : Int))] [.own 3 (⟨vf, fr⟩ : Ls Int), .own 3 (⟨v11, pl⟩ : Ls Int), .at_ code, Env, .own 32 (⟨vo, out⟩ : Ls Ins)] ∧ m = code.l.length - k) ⟨_, 0, [], (.slice none 0 0), [], v14, List.replicate (code.l.length + 1) 0, (by omega), (rfl), (rfl), (by simp), (fun j hj => absurd hj (by omega)), (by simp), (by simp), h22.nrm ⟨rfl, rfl, rfl, rfl, rfl, rfl, rfl, rfl, trivial⟩ [1, 2, 3, 4, 0] (by decide) ⟨rfl, rfl, rfl, rfl, rfl, trivial⟩, rfl⟩ ?_
 clear h22
 rintro m21 a21 w21 ⟨k, out, vo, fr, vf, pl, hk, hout, hfr, hpl, hplv, ho8, hf8, h21, hm21⟩
 refine wp_seq_k fun K23 hK23 => wp_region_lit <| wv h21 (r_lssN (p := k) (q := code.l.length) rfl rfl rfl) rfl rfl fun a24 h24 => wpList_nil <| hK23 _ _ <| wp_seq_k fun K25 hK25 => x_cond h24 rfl (fun hb26 => ?_) (fun hb26 => ?_); clear h21
 ·have hp26 : k < code.l.length := of_decide_eq_true hb26
  refine wp_skip <| hK25 _ _ <| wp_seq_k fun K27 hK27 => wp_block <| wp_seq_k fun K28 hK28 => wp_region_lit <| wms 1 h24 rfl fun a29 h29 => wv h29 (r_ixN (s := code) (q := k) sl_33 ti_32 rfl rfl rfl (fun w h => (h.at 2 rfl)) (show k < code.l.length from (by omega))) rfl rfl fun a30 h30 => wv h30 (r_ldew (s := code) (i := k) (vs := [.int .i64 ((nth code.l k).op), .int .i64 ((nth code.l k).a), .int .i64 ((nth code.l k).b), .int .i64 ((nth code.l k).c)]) ti_32 rfl rfl rfl (fun w h => (h.at 2 rfl)) (show k < code.l.length from (by omega)) (Nat.le_of_ble_eq_true rfl) rfl) rfl rfl fun a31 h31 => wl_ex (x_alloc h31 ti_32 rfl rfl rfl) (wanted_none rfl _) ?_; clear h24 h29 h30
  rintro a32 w32 ⟨b32, h32⟩; clear h31
  refine wms 1 h32 rfl fun a33 h33 => wl_ex (x_stb (i := 0) (vs := [.int .i64 ((nth code.l k).op), .int .i64 ((nth code.l k).a), .int .i64 ((nth code.l k).b), .int .i64 ((nth code.l k).c)]) (cs' := [.int .i64 ((nth code.l k).op), .int .i64 ((nth code.l k).a), .int .i64 ((nth code.l k).b), .int .i64 ((nth code.l k).c)]) h33 ti_32 rfl rfl rfl rfl rfl rfl rfl (allOne_cons rfl (allOne_cons rfl (allOne_cons rfl (allOne_cons rfl allOne_nil)))) (Nat.le_of_ble_eq_true rfl) rfl) (wanted_none rfl _) ?_; clear h32
  rintro a34 w34 h34
  clear h33
  refine wpList_nil <| hK28 _ _ <| wp_seq_k fun K35 hK35 => wp_region_lit <| wms 3 h34 rfl fun a36 h36 => ?_; clear h34
  have hl37 : out.length ≤ 140737488355328 := (h36.sh.own 5 rfl).len
  refine wv h36 (r_len (s := (⟨vo, out⟩ : Ls Ins)) (n := out.length) sl_33 rfl rfl (fun w h => (h.own 5 rfl)) rfl) rfl rfl fun a38 h38 => ?_; clear h36
  have hl39 : pl.length ≤ 140737488355328 := (h38.sh.own 2 rfl).len
  refine wv h38 (r_ixN (s := (⟨v11, pl⟩ : Ls Int)) (q := k) sl_23 ti_3 rfl rfl rfl (fun w h => (h.own 2 rfl)) (show k < pl.length from (by omega))) rfl rfl fun a40 h40 => wl_ex (x_ste (r := 2) (i := k) (j := 0) (x' := (((out.length : Nat) : Int) : Int)) h40 ti_3 rfl rfl rfl rfl rfl (show k < pl.length from (by omega)) (Nat.le_of_ble_eq_true rfl) rfl rfl rfl (by intro q hq; obtain rfl : q = 0 := (by omega); rfl) (fun w h => Flat.inner _ _) (fun b hb => (Flat.on _ _ hb).elim)) (wanted_none rfl _) ?_; clear h38
  rintro a41 w41 h41
  clear h40
  refine wpList_nil <| hK35 _ _ <| wp_seq_k fun K42 hK42 => wp_seq_k fun K43 hK43 => wp_region_lit <| wms 2 h41 rfl fun a44 h44 => wv h44 (r_ldbw (i := 0) (vs := [.int .i64 ((nth code.l k).op), .int .i64 ((nth code.l k).a), .int .i64 ((nth code.l k).b), .int .i64 ((nth code.l k).c)]) ti_32 rfl rfl rfl rfl rfl) rfl rfl fun a45 h45 => wl_ex (x_call h45 hbd rfl rfl rfl rfl rfl (hbec _ k (h45.sh.ok Env (List.mem_of_getElem? (i := 4) rfl)) (by omega))) (wanted_none rfl _) ?_; clear h41 h44
  rintro a46 w46 ⟨_, ⟨s46, rfl, hs46⟩, hf46⟩
  have h46 := (⟨hf46, h45.sh.call hs46 (by intro A hA b hb; first | (simp at hA; done) | (simp at hA; subst hA; first | exact Flat.noRd hb | exact (hb : False).elim) | (simp at hA; rcases hA with rfl | rfl <;> first | exact Flat.noRd hb | exact (hb : False).elim))⟩ : St 115 (fun _ => False) W a46 w46 _ _)
  clear hf46 hs46
  clear h45
  have hl47 : (B k (nth code.l k)).length ≤ 140737488355328 := (h46.sh.own 0 rfl).len
  refine wv h46 (r_len (s := (⟨s46.v, B k (nth code.l k)⟩ : Ls Ins)) (n := (B k (nth code.l k)).length) sl_33 rfl rfl (fun w h => (h.own 0 rfl)) rfl) rfl rfl fun a48 h48 => wms 1 h48 rfl fun a49 h49 => wpList_nil <| hK43 _ _ <| wp_block <| x_loop (fun m a w => ∃ (q : Nat) (fr2 : List Int) (vf2 : Value), (q ≤ (B k (nth code.l k)).length) ∧ (fr2 = fr ++ List.replicate q (k : Int)) ∧ (fr2.length = fr.length + q) ∧ St 115 (fun _ => False) W a w [(0, code.v), (1, .func (.func bf) us.toArray ws.toArray), (5, vo), (6, v11), (7, vf2), (8, .int .i64 ((k : Nat) : Int)), (9, .pointer (some ⟨b32, 0, none⟩)), (18, code.v), (19, .int .i64 ((code.l.length : Nat) : Int)), (20, .int .i64 ((k : Nat) : Int)), (34, .int .i64 (((B k (nth code.l k)).length : Nat) : Int)), (35, .int .i64 ((q : Nat) : Int))] [.blk b32 32 [.int .i64 ((nth code.l k).op), .int .i64 ((nth code.l k).a), .int .i64 ((nth code.l k).b), .int .i64 ((nth code.l k).c)], .own 3 (⟨vf2, fr2⟩ : Ls Int), .own 3 (⟨v11, pl.set k ((out.length : Nat) : Int)⟩ : Ls Int), .at_ code, Env, .own 32 (⟨vo, out⟩ : Ls Ins)] ∧ m = (B k (nth code.l k)).length - q) ⟨_, 0, fr, vf, (by omega), (by simp), (by simp), h49.nrm ⟨rfl, rfl, rfl, rfl, rfl, rfl, rfl, rfl, rfl, rfl, rfl, rfl, trivial⟩ [1, 2, 3, 4, 5, 6] (by decide) ⟨rfl, rfl, rfl, rfl, rfl, rfl, trivial⟩, rfl⟩ ?_; clear h46 h48
  clear h49
  rintro m50 a50 w50 ⟨q, fr2, vf2, hq, hfr2, hq2, h50, hm50⟩
  have h8k := hB8 k (by omega)
  refine wp_seq_k fun K51 hK51 => wp_region_lit <| wv h50 (r_lssN (p := q) (q := (B k (nth code.l k)).length) rfl rfl rfl) rfl rfl fun a52 h52 => wpList_nil <| hK51 _ _ <| wp_seq_k fun K53 hK53 => x_cond h52 rfl (fun hb54 => ?_) (fun hb54 => ?_); clear h50
  ·have hp54 : q < (B k (nth code.l k)).length := of_decide_eq_true hb54
   refine wp_skip <| hK53 _ _ <| wp_seq_k fun K55 hK55 => wp_block <| wp_region_lit <| wms 2 h52 rfl fun a56 h56 => wl_ex (x_lit (n := 1) (cs := [.int .i64 ((k : Nat) : Int)]) ([((k : Nat) : Int)] : List Int) h56 sl_23 ti_3 rfl rfl rfl (by decide) rfl (by kernel_rfl) rfl (fun q hq w h => Flat.inner _ _) (fun q hq b hb => (Flat.on _ _ hb).elim) rfl rfl) (wanted_none rfl _) ?_; clear h52
   rintro a57 w57 ⟨v57, h57⟩; clear h56
   refine wl_ex (x_app (r := 2) (rm := 0) (s := (⟨vf2, fr2⟩ : Ls Int)) (m := (⟨v57, [((k : Nat) : Int)]⟩ : Ls Int)) h57 sl_23 ti_3 rfl rfl rfl rfl rfl rfl rfl (fun w h => (h.own 0 rfl)) (fun b hb => own_on (h57.sh.ok _ (List.mem_of_getElem? (i := 0) rfl)) hb) (fun q hq b hb => ⟨q, hq, hb⟩) rfl rfl rfl inferInstance (show (fr2.length + ([((k : Nat) : Int)]).length) * 8 ≤ 140737488355328 ∧ fr2.length + ([((k : Nat) : Int)]).length ≤ 140737488355328 from (by first | omega | (simp only [lens9]; omega))) rfl rfl) (wanted_none rfl _) ?_
   rintro a58 w58 ⟨v58, h58⟩; clear h57
   refine wms 1 h58 rfl fun a59 h59 => wpList_nil <| hK55 _ _ <| wp_region_lit <| wv h59 (r_addN (p := q) (q := 1) rfl rfl rfl (show q + 1 < 9223372036854775808 from (by omega))) rfl rfl fun a60 h60 => wms 1 h60 rfl fun a61 h61 => wpList_nil <| x_again ⟨_, ?_, q + 1, fr2 ++ ([((k : Nat) : Int)]), v58, ?_, ?_, ?_, h61.nrm ⟨rfl, rfl, rfl, rfl, rfl, rfl, rfl, rfl, rfl, rfl, rfl, rfl, trivial⟩ [1, 2, 3, 4, 5, 6] (by decide) ⟨rfl, rfl, rfl, rfl, rfl, rfl, trivial⟩, rfl⟩; clear h58 h59 h60
   · rw [hm50]; first | omega | (simp only [lens9]; omega)
   · omega
   · rw [hfr2, List.append_assoc, List.replicate_succ']
   · simp; omega
  have hp54 : ¬ (q < (B k (nth code.l k)).length) := of_decide_eq_false hb54
  refine wp_exit <| hK42 _ _ <| wp_region_lit <| wms 3 h52 rfl fun a62 h62 => wv h62 (r_ldbw (i := 0) (vs := [.int .i64 ((nth code.l k).op), .int .i64 ((nth code.l k).a), .int .i64 ((nth code.l k).b), .int .i64 ((nth code.l k).c)]) ti_32 rfl rfl rfl rfl rfl) rfl rfl fun a63 h63 => wl_ex (x_call h63 hbd rfl rfl rfl rfl rfl (hbec _ k (h63.sh.ok Env (List.mem_of_getElem? (i := 4) rfl)) (by omega))) (wanted_none rfl _) ?_; clear h52 h62
  rintro a64 w64 ⟨_, ⟨s64, rfl, hs64⟩, hf64⟩
  have h64 := (⟨hf64, h63.sh.call hs64 (by intro A hA b hb; first | (simp at hA; done) | (simp at hA; subst hA; first | exact Flat.noRd hb | exact (hb : False).elim) | (simp at hA; rcases hA with rfl | rfl <;> first | exact Flat.noRd hb | exact (hb : False).elim))⟩ : St 115 (fun _ => False) W a64 w64 _ _)
  clear hf64 hs64
  clear h63
  refine wl_ex (x_app (r := 6) (rm := 0) (s := (⟨vo, out⟩ : Ls Ins)) (m := (⟨s64.v, B k (nth code.l k)⟩ : Ls Ins)) h64 sl_33 ti_32 rfl rfl rfl rfl rfl rfl rfl (fun w h => (h.own 0 rfl)) (fun b hb => own_on (h64.sh.ok _ (List.mem_of_getElem? (i := 0) rfl)) hb) (fun q hq b hb => ⟨q, hq, hb⟩) rfl rfl rfl inferInstance (show (out.length + (B k (nth code.l k)).length) * 32 ≤ 140737488355328 ∧ out.length + (B k (nth code.l k)).length ≤ 140737488355328 from (by omega)) rfl rfl) (wanted_none rfl _) ?_
  rintro a65 w65 ⟨v65, h65⟩; clear h64
  refine wms 1 h65 rfl fun a66 h66 => wpList_nil <| hK27 _ _ <| wp_region_lit <| wv h66 (r_addN (p := k) (q := 1) rfl rfl rfl (show k + 1 < 9223372036854775808 from (by omega))) rfl rfl fun a67 h67 => wms 1 h67 rfl fun a68 h68 => wpList_nil <| x_again ⟨_, ?_, k + 1, out ++ (B k (nth code.l k)), v65, fr2, vf2, pl.set k ((out.length : Nat) : Int), ?_, ?_, ?_, ?_, ?_, ?_, ?_, h68.nrm ⟨rfl, rfl, rfl, rfl, rfl, rfl, rfl, rfl, trivial⟩ [2, 3, 4, 5, 6] (by decide) ⟨rfl, rfl, rfl, rfl, rfl, trivial⟩, rfl⟩; clear h65 h66 h67
  · rw [hm21]; first | omega | (simp only [lens9]; omega)
  · omega
  · rw [outUpto_succ, hout]
  · rw [fromUpto_succ, ← hfr, hfr2, show q = (B k (nth code.l k)).length by omega]
  · simpa using hpl
  · intro j hj; rw [nth_set]; split; (rename_i hh; obtain ⟨rfl, _⟩ := hh; rw [hout, placeL_out _ _ _ (by omega)]); exact hplv j (by omega)
  · have := hB8 k (by omega); simp; omega
  · rw [hfr2]; simp; omega
 have hp26 : ¬ (k < code.l.length) := of_decide_eq_false hb26
 refine wp_exit <| hK16 _ _ <| wp_seq_k fun K69 hK69 => wp_region_lit <| wms 2 h24 rfl fun a70 h70 => wv h70 (r_len (s := code) (n := code.l.length) sl_33 rfl rfl (fun w h => (h.at 2 rfl)) rfl) rfl rfl fun a71 h71 => wms 1 h71 rfl fun a72 h72 => ?_; clear h24 h70 h71
 have hl73 : out.length ≤ 140737488355328 := (h72.sh.own 4 rfl).len
 refine wv h72 (r_len (s := (⟨vo, out⟩ : Ls Ins)) (n := out.length) sl_33 rfl rfl (fun w h => (h.own 4 rfl)) rfl) rfl rfl fun a74 h74 => ?_; clear h72
 have hl75 : pl.length ≤ 140737488355328 := (h74.sh.own 1 rfl).len
 refine wv h74 (r_ixN (s := (⟨v11, pl⟩ : Ls Int)) (q := code.l.length) sl_23 ti_3 rfl rfl rfl (fun w h => (h.own 1 rfl)) (show code.l.length < pl.length from (by omega))) rfl rfl fun a76 h76 => wl_ex (x_ste (r := 1) (i := code.l.length) (j := 0) (x' := (((out.length : Nat) : Int) : Int)) h76 ti_3 rfl rfl rfl rfl rfl (show code.l.length < pl.length from (by omega)) (Nat.le_of_ble_eq_true rfl) rfl rfl rfl (by intro q hq; obtain rfl : q = 0 := (by omega); rfl) (fun w h => Flat.inner _ _) (fun b hb => (Flat.on _ _ hb).elim)) (wanted_none rfl _) ?_; clear h74
 rintro a77 w77 h77
 clear h76
 refine wpList_nil <| hK69 _ _ ?_
 have hkk : k = code.l.length := by omega
 have hplw : ∀ j, j ≤ code.l.length → nth (pl.set code.l.length (out.length : Int)) j = (placeL (becL B code.l) j : Int) := by
  intro j hj; rw [nth_set]; split; (rename_i hh; obtain ⟨rfl, _⟩ := hh; rw [hout, hkk, placeL_out _ _ _ (by omega)]); exact hplv j (by omega)
 have hpm0 : (pl.set code.l.length (out.length : Int)).length = code.l.length + 1 := by simpa using hpl
 generalize hpg : pl.set code.l.length (out.length : Int) = pm at *
 rw [hkk] at hout hfr
 have hat := fun q (hq : q < fr.length) => fromUpto_at B code.l code.l.length q (by rw [← hfr]; exact hq)
 rw [← hfr, ← hout] at hat
 clear hplv hpg hpl
 refine wp_seq_k fun K78 hK78 => wp_seq_k fun K79 hK79 => wp_region_lit <| wms 1 h77 rfl fun a80 h80 => wv h80 (r_len (s := (⟨vo, out⟩ : Ls Ins)) (n := out.length) sl_33 rfl rfl (fun w h => (h.own 4 rfl)) rfl) rfl rfl fun a81 h81 => wms 1 h81 rfl fun a82 h82 => wpList_nil <| hK79 _ _ <| wp_block <| x_loop (fun m a w => ∃ (k3 : Nat) (ou : List Ins), (k3 ≤ out.length) ∧ (ou.length = out.length) ∧ (∀ j, j < k3 → nth ou j = fixMv (becL B code.l) code.l (nth fr j).toNat (nth out j)) ∧ (∀ j, k3 ≤ j → nth ou j = nth out j) ∧ St 115 (fun _ => False) W a w [(0, code.v), (5, vo), (6, v11), (7, vf), (56, .int .i64 ((out.length : Nat) : Int)), (57, .int .i64 ((k3 : Nat) : Int))] [.own 3 (⟨vf, fr⟩ : Ls Int), .own 3 (⟨v11, pm⟩ : Ls Int), .at_ code, Env, .own 32 (⟨vo, ou⟩ : Ls Ins)] ∧ m = out.length - k3) ⟨_, 0, out, (by omega), (rfl), (fun j hj => absurd hj (by omega)), (fun j hj => rfl), h82.nrm ⟨rfl, rfl, rfl, rfl, rfl, rfl, trivial⟩ [0, 1, 2, 3, 4] (by decide) ⟨rfl, rfl, rfl, rfl, rfl, trivial⟩, rfl⟩ ?_; clear h77 h80 h81
 clear h82
 rintro m83 a83 w83 ⟨k3, ou, hk3, hol, hdone, hrest, h83, hm83⟩
 refine wp_seq_k fun K84 hK84 => wp_region_lit <| wv h83 (r_lssN (p := k3) (q := out.length) rfl rfl rfl) rfl rfl fun a85 h85 => wpList_nil <| hK84 _ _ <| wp_seq_k fun K86 hK86 => x_cond h85 rfl (fun hb87 => ?_) (fun hb87 => ?_); clear h83
 ·have hp87 : k3 < out.length := of_decide_eq_true hb87
  refine wp_skip <| hK86 _ _ <| wp_seq_k fun K88 hK88 => wp_block <| wp_seq_k fun K89 hK89 => wp_region_lit <| wms 2 h85 rfl fun a90 h90 => wpList_nil <| hK89 _ _ ?_; clear h85
  have hr3 := hrest k3 (by omega)
  obtain ⟨hf0, hf1, jj, hj1, hj2⟩ := hat k3 (by omega)
  have hbk := hbok _ hf1 jj hj1
  rw [← hj2, ← hr3] at hbk
  refine wp_seq_k fun K91 hK91 => wp_region_lit <| wms 3 h90 rfl fun a92 h92 => ?_; clear h90
  have hl93 : fr.length ≤ 140737488355328 := (h92.sh.own 0 rfl).len
  refine wv h92 (r_ixN (s := (⟨vf, fr⟩ : Ls Int)) (q := k3) sl_23 ti_3 rfl rfl rfl (fun w h => (h.own 0 rfl)) (show k3 < fr.length from (by omega))) rfl rfl fun a94 h94 => wv h94 (r_lde (s := (⟨vf, fr⟩ : Ls Int)) (i := k3) (v := .int .i64 (nth fr k3)) ti_3 rfl rfl rfl (fun w h => (h.own 0 rfl)) (show k3 < fr.length from (by omega)) (Nat.le_of_ble_eq_true rfl) rfl) rfl rfl fun a95 h95 => wv h95 (r_ixI (s := code) (q := nth fr k3) sl_33 ti_32 rfl rfl rfl (fun w h => (h.at 2 rfl)) (show 0 ≤ nth fr k3 ∧ nth fr k3 < code.l.length from (by omega))) rfl rfl fun a96 h96 => wv h96 (r_fieldE (r := 0) fl_32_0 rfl rfl rfl) rfl rfl fun a97 h97 => wv h97 (r_lde (s := code) (i := (nth fr k3).toNat) (v := .int .i64 ((nth code.l ((nth fr k3).toNat)).op)) ti_3 rfl rfl rfl (fun w h => (h.at 2 rfl)) (show (nth fr k3).toNat < code.l.length from (by omega)) (Nat.le_of_ble_eq_true rfl) rfl) rfl rfl fun a98 h98 => wms 1 h98 rfl fun a99 h99 => wpList_nil <| hK91 _ _ <| wp_seq_k fun K100 hK100 => wp_region_lit <| wms 2 h99 rfl fun a101 h101 => ?_; clear h92 h94 h95 h96 h97 h98 h99
  have hl102 : ou.length ≤ 140737488355328 := (h101.sh.own 4 rfl).len
  refine wv h101 (r_ixN (s := (⟨vo, ou⟩ : Ls Ins)) (q := k3) sl_33 ti_32 rfl rfl rfl (fun w h => (h.own 4 rfl)) (show k3 < ou.length from (by omega))) rfl rfl fun a103 h103 => wms 1 h103 rfl fun a104 h104 => wpList_nil <| hK100 _ _ <| wp_seq_k fun K105 hK105 => wp_region_lit <| wms 1 h104 rfl fun a106 h106 => wv h106 (r_nil rfl rfl) rfl rfl fun a107 h107 => wv h107 (r_fieldE (r := 0) fl_32_0 rfl rfl rfl) rfl rfl fun a108 h108 => wv h108 (r_lde (s := (⟨vo, ou⟩ : Ls Ins)) (i := k3) (v := .int .i64 ((nth ou k3).op)) ti_3 rfl rfl rfl (fun w h => (h.own 4 rfl)) (show k3 < ou.length from (by omega)) (Nat.le_of_ble_eq_true rfl) rfl) rfl rfl fun a109 h109 => wv h109 (r_eqlI (p := (nth ou k3).op) (q := 14) rfl rfl rfl) rfl rfl fun a110 h110 => wms 1 h110 rfl fun a111 h111 => ?_; clear h101 h103 h104 h106 h107 h108 h109 h110
  rcases Bool.eq_false_or_eq_true (decide ((nth ou k3).op = 14)) with hb112 | hb112
  ·have hp112 : (nth ou k3).op = 14 := of_decide_eq_true hb112
   refine wl_val h111 (r_move rfl rfl) (wanted_yes h111.fr rfl rfl rfl rfl hb112) rfl rfl fun a113 h113 => wl_val h113 (r_eqlI (p := (nth code.l ((nth fr k3).toNat)).op) (q := 14) rfl rfl rfl) (wanted_yes h113.fr rfl rfl rfl rfl hb112) rfl rfl fun a114 h114 => wl_val h114 (r_move rfl rfl) (wanted_yes h114.fr rfl rfl rfl rfl hb112) rfl rfl fun a115 h115 => ?_; clear h111 h113 h114
   rcases Bool.eq_false_or_eq_true (decide ((nth code.l ((nth fr k3).toNat)).op = 14)) with hb116 | hb116
   ·have hp116 : (nth code.l ((nth fr k3).toNat)).op = 14 := of_decide_eq_true hb116
    refine wl_skip h115 (wanted_no h115.fr rfl rfl rfl rfl hb116) rfl rfl fun a117 h117 => wl_skip h117 (wanted_no h117.fr rfl rfl rfl rfl hb116) rfl rfl fun a118 h118 => wl_val h118 (r_pickT rfl rfl hb116 rfl) (wanted_yes h118.fr rfl rfl rfl rfl hb112) rfl rfl fun a119 h119 => wv h119 (r_pickT rfl rfl hb112 rfl) rfl rfl fun a120 h120 => wpList_nil <| hK105 _ _ ?_; clear h115 h117 h118 h119
    have h121 : St 115 (fun _ => False) W a120 w83 [(0, code.v), (5, vo), (6, v11), (7, vf), (11, .int .i64 ((nth code.l ((nth fr k3).toNat)).op)), (12, .pointer (some (padr vo 4 k3 0))), (56, .int .i64 ((out.length : Nat) : Int)), (57, .int .i64 ((k3 : Nat) : Int)), (83, .bool true)] [.own 3 (⟨vf, fr⟩ : Ls Int), .own 3 (⟨v11, pm⟩ : Ls Int), .at_ code, Env, .own 32 (⟨vo, ou⟩ : Ls Ins)] := h120.nrm ⟨rfl, rfl, rfl, rfl, rfl, rfl, rfl, rfl, rfl, trivial⟩ [0, 1, 2, 3, 4] (by decide) ⟨rfl, rfl, rfl, rfl, rfl, trivial⟩
    clear h120
    refine x_condT h121 rfl rfl <| wp_region_lit <| wms 3 h121 rfl fun a122 h122 => wv h122 (r_nil rfl rfl) rfl rfl fun a123 h123 => wv h123 (r_fieldE (r := 1) fl_32_1 rfl rfl rfl) rfl rfl fun a124 h124 => wv h124 (r_lde (s := (⟨vo, ou⟩ : Ls Ins)) (i := k3) (v := .int .i64 ((nth ou k3).a)) ti_3 rfl rfl rfl (fun w h => (h.own 4 rfl)) (show k3 < ou.length from (by omega)) (Nat.le_of_ble_eq_true rfl) rfl) rfl rfl fun a125 h125 => ?_; clear h121 h122 h123 h124
    have hl126 : pm.length ≤ 140737488355328 := (h125.sh.own 1 rfl).len
    refine wv h125 (r_ixI (s := (⟨v11, pm⟩ : Ls Int)) (q := (nth ou k3).a) sl_23 ti_3 rfl rfl rfl (fun w h => (h.own 1 rfl)) (show 0 ≤ (nth ou k3).a ∧ (nth ou k3).a < pm.length from (by omega))) rfl rfl fun a127 h127 => wv h127 (r_lde (s := (⟨v11, pm⟩ : Ls Int)) (i := ((nth ou k3).a).toNat) (v := .int .i64 (nth pm (((nth ou k3).a).toNat))) ti_3 rfl rfl rfl (fun w h => (h.own 1 rfl)) (show ((nth ou k3).a).toNat < pm.length from (by omega)) (Nat.le_of_ble_eq_true rfl) rfl) rfl rfl fun a128 h128 => wv h128 (r_nil rfl rfl) rfl rfl fun a129 h129 => wv h129 (r_fieldE (r := 1) fl_32_1 rfl rfl rfl) rfl rfl fun a130 h130 => wl_ex (x_ste (r := 4) (i := k3) (j := 1) (x' := ({ nth ou k3 with a := nth pm (((nth ou k3).a).toNat) } : Ins)) h130 ti_3 rfl rfl rfl rfl rfl (show k3 < ou.length from (by omega)) (Nat.le_of_ble_eq_true rfl) rfl rfl rfl (by intro q hq; rcases q with _ | _ | _ | _ | q <;> first | rfl | omega) (fun w h => Flat.inner _ _) (fun b hb => (Flat.on _ _ hb).elim)) (wanted_none rfl _) ?_; clear h125 h127 h128 h129
    rintro a131 w131 h131
    clear h130
    refine wpList_nil <| hK88 _ _ <| wp_region_lit <| wv h131 (r_addN (p := k3) (q := 1) rfl rfl rfl (show k3 + 1 < 9223372036854775808 from (by omega))) rfl rfl fun a132 h132 => wms 1 h132 rfl fun a133 h133 => wpList_nil <| x_again ⟨_, ?_, k3 + 1, ou.set k3 ({ nth ou k3 with a := nth pm (((nth ou k3).a).toNat) }), ?_, ?_, ?_, ?_, h133.nrm ⟨rfl, rfl, rfl, rfl, rfl, rfl, trivial⟩ [0, 1, 2, 3, 4] (by decide) ⟨rfl, rfl, rfl, rfl, rfl, trivial⟩, rfl⟩; clear h131 h132
    · rw [hm83]; first | omega | (simp only [lens9]; omega)
    · omega
    · first | simpa using hol | exact hol
    · intro j hj; rcases Nat.lt_or_ge j k3 with h | h; (first | (rw [nth_set, if_neg (by omega)]; exact hdone j h) | exact hdone j h); obtain rfl : j = k3 := (by omega); have hr := hrest j (by omega); have hr1 := congrArg Ins.op hr; have hr2 := congrArg Ins.a hr; have hr4 := congrArg Ins.b hr; (try (rw [nth_set, if_pos ⟨rfl, by omega⟩])); rw [hr]; unfold fixMv; (repeat' split) <;> first | (exfalso; omega) | rfl | (rw [hplw _ (by omega)])
    · intro j hj; first | (rw [nth_set, if_neg (by omega)]; exact hrest j (by omega)) | exact hrest j (by omega)
   have hp116 : ¬ ((nth code.l ((nth fr k3).toNat)).op = 14) := of_decide_eq_false hb116
   refine wl_val h115 (r_move rfl rfl) (wanted_yes h115.fr rfl rfl rfl rfl hb116) rfl rfl fun a134 h134 => wl_val h134 (r_eqlI (p := (nth code.l ((nth fr k3).toNat)).op) (q := 15) rfl rfl rfl) (wanted_yes h134.fr rfl rfl rfl rfl hb116) rfl rfl fun a135 h135 => wl_val h135 (r_pickF rfl rfl hb116 rfl) (wanted_yes h135.fr rfl rfl rfl rfl hb112) rfl rfl fun a136 h136 => wv h136 (r_pickT rfl rfl hb112 rfl) rfl rfl fun a137 h137 => wpList_nil <| hK105 _ _ ?_; clear h115 h134 h135 h136
   have h138 : St 115 (fun _ => False) W a137 w83 [(0, code.v), (5, vo), (6, v11), (7, vf), (11, .int .i64 ((nth code.l ((nth fr k3).toNat)).op)), (12, .pointer (some (padr vo 4 k3 0))), (56, .int .i64 ((out.length : Nat) : Int)), (57, .int .i64 ((k3 : Nat) : Int)), (83, .bool (decide ((nth code.l ((nth fr k3).toNat)).op = 15)))] [.own 3 (⟨vf, fr⟩ : Ls Int), .own 3 (⟨v11, pm⟩ : Ls Int), .at_ code, Env, .own 32 (⟨vo, ou⟩ : Ls Ins)] := h137.nrm ⟨rfl, rfl, rfl, rfl, rfl, rfl, rfl, rfl, rfl, trivial⟩ [0, 1, 2, 3, 4] (by decide) ⟨rfl, rfl, rfl, rfl, rfl, trivial⟩
   clear h137
   refine x_cond h138 rfl (fun hb139 => ?_) (fun hb139 => ?_)
   ·have hp139 : (nth code.l ((nth fr k3).toNat)).op = 15 := of_decide_eq_true hb139
    refine wp_region_lit <| wms 3 h138 rfl fun a140 h140 => wv h140 (r_nil rfl rfl) rfl rfl fun a141 h141 => wv h141 (r_fieldE (r := 1) fl_32_1 rfl rfl rfl) rfl rfl fun a142 h142 => wv h142 (r_lde (s := (⟨vo, ou⟩ : Ls Ins)) (i := k3) (v := .int .i64 ((nth ou k3).a)) ti_3 rfl rfl rfl (fun w h => (h.own 4 rfl)) (show k3 < ou.length from (by omega)) (Nat.le_of_ble_eq_true rfl) rfl) rfl rfl fun a143 h143 => ?_; clear h138 h140 h141 h142
    have hl144 : pm.length ≤ 140737488355328 := (h143.sh.own 1 rfl).len
    refine wv h143 (r_ixI (s := (⟨v11, pm⟩ : Ls Int)) (q := (nth ou k3).a) sl_23 ti_3 rfl rfl rfl (fun w h => (h.own 1 rfl)) (show 0 ≤ (nth ou k3).a ∧ (nth ou k3).a < pm.length from (by omega))) rfl rfl fun a145 h145 => wv h145 (r_lde (s := (⟨v11, pm⟩ : Ls Int)) (i := ((nth ou k3).a).toNat) (v := .int .i64 (nth pm (((nth ou k3).a).toNat))) ti_3 rfl rfl rfl (fun w h => (h.own 1 rfl)) (show ((nth ou k3).a).toNat < pm.length from (by omega)) (Nat.le_of_ble_eq_true rfl) rfl) rfl rfl fun a146 h146 => wv h146 (r_nil rfl rfl) rfl rfl fun a147 h147 => wv h147 (r_fieldE (r := 1) fl_32_1 rfl rfl rfl) rfl rfl fun a148 h148 => wl_ex (x_ste (r := 4) (i := k3) (j := 1) (x' := ({ nth ou k3 with a := nth pm (((nth ou k3).a).toNat) } : Ins)) h148 ti_3 rfl rfl rfl rfl rfl (show k3 < ou.length from (by omega)) (Nat.le_of_ble_eq_true rfl) rfl rfl rfl (by intro q hq; rcases q with _ | _ | _ | _ | q <;> first | rfl | omega) (fun w h => Flat.inner _ _) (fun b hb => (Flat.on _ _ hb).elim)) (wanted_none rfl _) ?_; clear h143 h145 h146 h147
    rintro a149 w149 h149
    clear h148
    refine wpList_nil <| hK88 _ _ <| wp_region_lit <| wv h149 (r_addN (p := k3) (q := 1) rfl rfl rfl (show k3 + 1 < 9223372036854775808 from (by omega))) rfl rfl fun a150 h150 => wms 1 h150 rfl fun a151 h151 => wpList_nil <| x_again ⟨_, ?_, k3 + 1, ou.set k3 ({ nth ou k3 with a := nth pm (((nth ou k3).a).toNat) }), ?_, ?_, ?_, ?_, h151.nrm ⟨rfl, rfl, rfl, rfl, rfl, rfl, trivial⟩ [0, 1, 2, 3, 4] (by decide) ⟨rfl, rfl, rfl, rfl, rfl, trivial⟩, rfl⟩; clear h149 h150
    · rw [hm83]; first | omega | (simp only [lens9]; omega)
    · omega
    · first | simpa using hol | exact hol
    · intro j hj; rcases Nat.lt_or_ge j k3 with h | h; (first | (rw [nth_set, if_neg (by omega)]; exact hdone j h) | exact hdone j h); obtain rfl : j = k3 := (by omega); have hr := hrest j (by omega); have hr1 := congrArg Ins.op hr; have hr2 := congrArg Ins.a hr; have hr4 := congrArg Ins.b hr; (try (rw [nth_set, if_pos ⟨rfl, by omega⟩])); rw [hr]; unfold fixMv; (repeat' split) <;> first | (exfalso; omega) | rfl | (rw [hplw _ (by omega)])
    · intro j hj; first | (rw [nth_set, if_neg (by omega)]; exact hrest j (by omega)) | exact hrest j (by omega)
   have hp139 : ¬ ((nth code.l ((nth fr k3).toNat)).op = 15) := of_decide_eq_false hb139
   refine wp_seq_k fun K152 hK152 => wp_region_lit <| wms 1 h138 rfl fun a153 h153 => wv h153 (r_nil rfl rfl) rfl rfl fun a154 h154 => wv h154 (r_fieldE (r := 0) fl_32_0 rfl rfl rfl) rfl rfl fun a155 h155 => wv h155 (r_lde (s := (⟨vo, ou⟩ : Ls Ins)) (i := k3) (v := .int .i64 ((nth ou k3).op)) ti_3 rfl rfl rfl (fun w h => (h.own 4 rfl)) (show k3 < ou.length from (by omega)) (Nat.le_of_ble_eq_true rfl) rfl) rfl rfl fun a156 h156 => wv h156 (r_eqlI (p := (nth ou k3).op) (q := 15) rfl rfl rfl) rfl rfl fun a157 h157 => wms 1 h157 rfl fun a158 h158 => wl_skip h158 (wanted_no h158.fr rfl rfl rfl rfl (decide_eq_false (by omega))) rfl rfl fun a159 h159 => wl_skip h159 (wanted_no h159.fr rfl rfl rfl rfl (decide_eq_false (by omega))) rfl rfl fun a160 h160 => wv h160 (r_pickF rfl rfl (decide_eq_false (by omega)) rfl) rfl rfl fun a161 h161 => wpList_nil <| hK152 _ _ <| x_condF h161 rfl rfl ?_; clear h138 h153 h154 h155 h156 h157 h158 h159 h160
   refine wp_skip <| hK88 _ _ <| wp_region_lit <| wv h161 (r_addN (p := k3) (q := 1) rfl rfl rfl (show k3 + 1 < 9223372036854775808 from (by omega))) rfl rfl fun a162 h162 => wms 1 h162 rfl fun a163 h163 => wpList_nil <| x_again ⟨_, ?_, k3 + 1, ou, ?_, ?_, ?_, ?_, h163.nrm ⟨rfl, rfl, rfl, rfl, rfl, rfl, trivial⟩ [0, 1, 2, 3, 4] (by decide) ⟨rfl, rfl, rfl, rfl, rfl, trivial⟩, rfl⟩; clear h161 h162
   · rw [hm83]; first | omega | (simp only [lens9]; omega)
   · omega
   · first | simpa using hol | exact hol
   · intro j hj; rcases Nat.lt_or_ge j k3 with h | h; (first | (rw [nth_set, if_neg (by omega)]; exact hdone j h) | exact hdone j h); obtain rfl : j = k3 := (by omega); have hr := hrest j (by omega); have hr1 := congrArg Ins.op hr; have hr2 := congrArg Ins.a hr; have hr4 := congrArg Ins.b hr; (try (rw [nth_set, if_pos ⟨rfl, by omega⟩])); rw [hr]; unfold fixMv; (repeat' split) <;> first | (exfalso; omega) | rfl | (rw [hplw _ (by omega)])
   · intro j hj; first | (rw [nth_set, if_neg (by omega)]; exact hrest j (by omega)) | exact hrest j (by omega)
  have hp112 : ¬ ((nth ou k3).op = 14) := of_decide_eq_false hb112
  refine wl_skip h111 (wanted_no h111.fr rfl rfl rfl rfl hb112) rfl rfl fun a164 h164 => wl_skip h164 (wanted_no h164.fr rfl rfl rfl rfl hb112) rfl rfl fun a165 h165 => wl_skip h165 (wanted_no h165.fr rfl rfl rfl rfl hb112) rfl rfl fun a166 h166 => wl_skip h166 (wanted_no2 h166.fr rfl rfl rfl rfl) rfl rfl fun a167 h167 => wl_skip h167 (wanted_no2 h167.fr rfl rfl rfl rfl) rfl rfl fun a168 h168 => wl_skip h168 (wanted_no h168.fr rfl rfl rfl rfl hb112) rfl rfl fun a169 h169 => wv h169 (r_pickF rfl rfl hb112 rfl) rfl rfl fun a170 h170 => wpList_nil <| hK105 _ _ ?_; clear h111 h164 h165 h166 h167 h168 h169
  have h171 : St 115 (fun _ => False) W a170 w83 [(0, code.v), (5, vo), (6, v11), (7, vf), (11, .int .i64 ((nth code.l ((nth fr k3).toNat)).op)), (12, .pointer (some (padr vo 4 k3 0))), (56, .int .i64 ((out.length : Nat) : Int)), (57, .int .i64 ((k3 : Nat) : Int)), (83, .bool false)] [.own 3 (⟨vf, fr⟩ : Ls Int), .own 3 (⟨v11, pm⟩ : Ls Int), .at_ code, Env, .own 32 (⟨vo, ou⟩ : Ls Ins)] := h170.nrm ⟨rfl, rfl, rfl, rfl, rfl, rfl, rfl, rfl, rfl, trivial⟩ [0, 1, 2, 3, 4] (by decide) ⟨rfl, rfl, rfl, rfl, rfl, trivial⟩
  clear h170
  refine x_condF h171 rfl rfl <| wp_seq_k fun K172 hK172 => wp_region_lit <| wms 1 h171 rfl fun a173 h173 => wv h173 (r_nil rfl rfl) rfl rfl fun a174 h174 => wv h174 (r_fieldE (r := 0) fl_32_0 rfl rfl rfl) rfl rfl fun a175 h175 => wv h175 (r_lde (s := (⟨vo, ou⟩ : Ls Ins)) (i := k3) (v := .int .i64 ((nth ou k3).op)) ti_3 rfl rfl rfl (fun w h => (h.own 4 rfl)) (show k3 < ou.length from (by omega)) (Nat.le_of_ble_eq_true rfl) rfl) rfl rfl fun a176 h176 => wv h176 (r_eqlI (p := (nth ou k3).op) (q := 15) rfl rfl rfl) rfl rfl fun a177 h177 => wms 1 h177 rfl fun a178 h178 => ?_; clear h171 h173 h174 h175 h176 h177
  rcases Bool.eq_false_or_eq_true (decide ((nth ou k3).op = 15)) with hb179 | hb179
  ·have hp179 : (nth ou k3).op = 15 := of_decide_eq_true hb179
   refine wl_val h178 (r_move rfl rfl) (wanted_yes h178.fr rfl rfl rfl rfl hb179) rfl rfl fun a180 h180 => wl_val h180 (r_eqlI (p := (nth code.l ((nth fr k3).toNat)).op) (q := 15) rfl rfl rfl) (wanted_yes h180.fr rfl rfl rfl rfl hb179) rfl rfl fun a181 h181 => wv h181 (r_pickT rfl rfl hb179 rfl) rfl rfl fun a182 h182 => wpList_nil <| hK172 _ _ <| x_cond h182 rfl (fun hb183 => ?_) (fun hb183 => ?_); clear h178 h180 h181
   ·have hp183 : (nth code.l ((nth fr k3).toNat)).op = 15 := of_decide_eq_true hb183
    refine wp_region_lit <| wms 3 h182 rfl fun a184 h184 => wv h184 (r_nil rfl rfl) rfl rfl fun a185 h185 => wv h185 (r_fieldE (r := 2) fl_32_2 rfl rfl rfl) rfl rfl fun a186 h186 => wv h186 (r_lde (s := (⟨vo, ou⟩ : Ls Ins)) (i := k3) (v := .int .i64 ((nth ou k3).b)) ti_3 rfl rfl rfl (fun w h => (h.own 4 rfl)) (show k3 < ou.length from (by omega)) (Nat.le_of_ble_eq_true rfl) rfl) rfl rfl fun a187 h187 => ?_; clear h182 h184 h185 h186
    have hl188 : pm.length ≤ 140737488355328 := (h187.sh.own 1 rfl).len
    refine wv h187 (r_ixI (s := (⟨v11, pm⟩ : Ls Int)) (q := (nth ou k3).b) sl_23 ti_3 rfl rfl rfl (fun w h => (h.own 1 rfl)) (show 0 ≤ (nth ou k3).b ∧ (nth ou k3).b < pm.length from (by omega))) rfl rfl fun a189 h189 => wv h189 (r_lde (s := (⟨v11, pm⟩ : Ls Int)) (i := ((nth ou k3).b).toNat) (v := .int .i64 (nth pm (((nth ou k3).b).toNat))) ti_3 rfl rfl rfl (fun w h => (h.own 1 rfl)) (show ((nth ou k3).b).toNat < pm.length from (by omega)) (Nat.le_of_ble_eq_true rfl) rfl) rfl rfl fun a190 h190 => wv h190 (r_nil rfl rfl) rfl rfl fun a191 h191 => wv h191 (r_fieldE (r := 2) fl_32_2 rfl rfl rfl) rfl rfl fun a192 h192 => wl_ex (x_ste (r := 4) (i := k3) (j := 2) (x' := ({ nth ou k3 with b := nth pm (((nth ou k3).b).toNat) } : Ins)) h192 ti_3 rfl rfl rfl rfl rfl (show k3 < ou.length from (by omega)) (Nat.le_of_ble_eq_true rfl) rfl rfl rfl (by intro q hq; rcases q with _ | _ | _ | _ | q <;> first | rfl | omega) (fun w h => Flat.inner _ _) (fun b hb => (Flat.on _ _ hb).elim)) (wanted_none rfl _) ?_; clear h187 h189 h190 h191
    rintro a193 w193 h193
    clear h192
    refine wpList_nil <| hK88 _ _ <| wp_region_lit <| wv h193 (r_addN (p := k3) (q := 1) rfl rfl rfl (show k3 + 1 < 9223372036854775808 from (by omega))) rfl rfl fun a194 h194 => wms 1 h194 rfl fun a195 h195 => wpList_nil <| x_again ⟨_, ?_, k3 + 1, ou.set k3 ({ nth ou k3 with b := nth pm (((nth ou k3).b).toNat) }), ?_, ?_, ?_, ?_, h195.nrm ⟨rfl, rfl, rfl, rfl, rfl, rfl, trivial⟩ [0, 1, 2, 3, 4] (by decide) ⟨rfl, rfl, rfl, rfl, rfl, trivial⟩, rfl⟩; clear h193 h194
    · rw [hm83]; first | omega | (simp only [lens9]; omega)
    · omega
    · first | simpa using hol | exact hol
    · intro j hj; rcases Nat.lt_or_ge j k3 with h | h; (first | (rw [nth_set, if_neg (by omega)]; exact hdone j h) | exact hdone j h); obtain rfl : j = k3 := (by omega); have hr := hrest j (by omega); have hr1 := congrArg Ins.op hr; have hr2 := congrArg Ins.a hr; have hr4 := congrArg Ins.b hr; (try (rw [nth_set, if_pos ⟨rfl, by omega⟩])); rw [hr]; unfold fixMv; (repeat' split) <;> first | (exfalso; omega) | rfl | (rw [hplw _ (by omega)])
    · intro j hj; first | (rw [nth_set, if_neg (by omega)]; exact hrest j (by omega)) | exact hrest j (by omega)
   have hp183 : ¬ ((nth code.l ((nth fr k3).toNat)).op = 15) := of_decide_eq_false hb183
   refine wp_skip <| hK88 _ _ <| wp_region_lit <| wv h182 (r_addN (p := k3) (q := 1) rfl rfl rfl (show k3 + 1 < 9223372036854775808 from (by omega))) rfl rfl fun a196 h196 => wms 1 h196 rfl fun a197 h197 => wpList_nil <| x_again ⟨_, ?_, k3 + 1, ou, ?_, ?_, ?_, ?_, h197.nrm ⟨rfl, rfl, rfl, rfl, rfl, rfl, trivial⟩ [0, 1, 2, 3, 4] (by decide) ⟨rfl, rfl, rfl, rfl, rfl, trivial⟩, rfl⟩; clear h182 h196
   · rw [hm83]; first | omega | (simp only [lens9]; omega)
   · omega
   · first | simpa using hol | exact hol
   · intro j hj; rcases Nat.lt_or_ge j k3 with h | h; (first | (rw [nth_set, if_neg (by omega)]; exact hdone j h) | exact hdone j h); obtain rfl : j = k3 := (by omega); have hr := hrest j (by omega); have hr1 := congrArg Ins.op hr; have hr2 := congrArg Ins.a hr; have hr4 := congrArg Ins.b hr; (try (rw [nth_set, if_pos ⟨rfl, by omega⟩])); rw [hr]; unfold fixMv; (repeat' split) <;> first | (exfalso; omega) | rfl | (rw [hplw _ (by omega)])
   · intro j hj; first | (rw [nth_set, if_neg (by omega)]; exact hrest j (by omega)) | exact hrest j (by omega)
  have hp179 : ¬ ((nth ou k3).op = 15) := of_decide_eq_false hb179
  refine wl_skip h178 (wanted_no h178.fr rfl rfl rfl rfl hb179) rfl rfl fun a198 h198 => wl_skip h198 (wanted_no h198.fr rfl rfl rfl rfl hb179) rfl rfl fun a199 h199 => wv h199 (r_pickF rfl rfl hb179 rfl) rfl rfl fun a200 h200 => wpList_nil <| hK172 _ _ <| x_condF h200 rfl rfl <| wp_skip <| hK88 _ _ <| wp_region_lit <| wv h200 (r_addN (p := k3) (q := 1) rfl rfl rfl (show k3 + 1 < 9223372036854775808 from (by omega))) rfl rfl fun a201 h201 => wms 1 h201 rfl fun a202 h202 => wpList_nil <| x_again ⟨_, ?_, k3 + 1, ou, ?_, ?_, ?_, ?_, h202.nrm ⟨rfl, rfl, rfl, rfl, rfl, rfl, trivial⟩ [0, 1, 2, 3, 4] (by decide) ⟨rfl, rfl, rfl, rfl, rfl, trivial⟩, rfl⟩; clear h178 h198 h199 h200 h201
  · rw [hm83]; first | omega | (simp only [lens9]; omega)
  · omega
  · first | simpa using hol | exact hol
  · intro j hj; rcases Nat.lt_or_ge j k3 with h | h; (first | (rw [nth_set, if_neg (by omega)]; exact hdone j h) | exact hdone j h); obtain rfl : j = k3 := (by omega); have hr := hrest j (by omega); have hr1 := congrArg Ins.op hr; have hr2 := congrArg Ins.a hr; have hr4 := congrArg Ins.b hr; (try (rw [nth_set, if_pos ⟨rfl, by omega⟩])); rw [hr]; unfold fixMv; (repeat' split) <;> first | (exfalso; omega) | rfl | (rw [hplw _ (by omega)])
  · intro j hj; first | (rw [nth_set, if_neg (by omega)]; exact hrest j (by omega)) | exact hrest j (by omega)
 have hp87 : ¬ (k3 < out.length) := of_decide_eq_false hb87
 refine wp_exit <| hK78 _ _ <| wp_seq_k fun K203 hK203 => wp_region_lit <| wms 2 h85 rfl fun a204 h204 => wpList_nil <| hK203 _ _ <| wp_ret ?_; clear h85
 try simp only [Exit.then, Exit.inBlock]
 refine x_ret1 (fn := Try.f50) (t := 4) rfl h204 rfl <| ⟨⟨vo, ou⟩, rfl, ?_, (h204.sh.sel (L' := [.own 32 (⟨vo, ou⟩ : Ls Ins)]) [4] (by decide) ⟨rfl, trivial⟩)⟩
 refine movedL_of B code.l ou (by rw [← hout]; exact hol) fun q hq => ?_
 rw [← hfr, ← hout]; exact hdone q (by omega)

end Go.Proofs.Ytfpaahkleienoaa
