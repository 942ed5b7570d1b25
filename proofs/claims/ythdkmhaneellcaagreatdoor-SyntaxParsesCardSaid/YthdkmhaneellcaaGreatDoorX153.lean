/-
  The document's parser: a token looked at, taken; a fault; a node.
-/
import Derived.Test.YthdkmhaneellcaaGreatDoorX152
namespace Go.Proofs.YthdkmhaneellcaaGreatDoor
open Go.RowKit
set_option linter.unusedSimpArgs false
set_option linter.unusedVariables false
set_option maxRecDepth 100000
set_option maxHeartbeats 1000000


section
variable {X : TE} {i d : Nat} {x : ByteArray} {l : List Nd}
theorem isT_len {tx : List ByteArray} : isL X X.T.length tx = false := isL_f (fun h => absurd h.1 (Nat.lt_irrefl _))
theorem is1_t (h : i < X.T.length) (h2 : (nth X.T i).k = 2 ∨ (nth X.T i).k = 4) : isT X i x = decide ((nth X.T i).t = x) := by
  unfold isT
  rw [isL_t h h2]
  unfold inS
  simp only [List.any_cons, List.any_nil, Bool.or_false]
  exact decide_eq_decide.2 ⟨fun h => h.symm, fun h => h.symm⟩
theorem is1_f (h : ¬ (i < X.T.length ∧ ((nth X.T i).k = 2 ∨ (nth X.T i).k = 4))) : isT X i x = false := isL_f h
/-- How tight a sign binds, as the document says it. -/
def levI (s : ByteArray) : Int :=
  if s = ⟨#[124, 124]⟩ then 0 else if s = ⟨#[38, 38]⟩ then 1
  else if s = ⟨#[61, 61]⟩ ∨ s = ⟨#[33, 61]⟩ ∨ s = ⟨#[60]⟩ ∨ s = ⟨#[60, 61]⟩ ∨ s = ⟨#[62]⟩ ∨ s = ⟨#[62, 61]⟩ then 2
  else if s = ⟨#[43]⟩ ∨ s = ⟨#[45]⟩ then 3 else if s = ⟨#[42]⟩ then 4 else -1
end

theorem dAt_c (g : Nat) (X : TE) (tv dv v4 vc v6 va : Value) (i : Nat)  (W : World) (hB : Blk W g 52 #[tv, .int .i64 X.e, .int .i64 (i : Int), dv, v4, vc, v6, va]) (hT : (⟨tv, X.T⟩ : Ls Tok).At W) :
    Rets Tryz.prog 21 [.pointer (some ⟨g, 0, none⟩)] W (fun v w' => v = .int .i64 (atT X i) ∧ Sh0 W w' []) := by
 refine gen Tryz.func21 Tryz.ntmps21 (Sh0.ext (by intro A hA; simp only [List.mem_cons, List.not_mem_nil, or_false] at hA; rcases hA with rfl | rfl; exact hB; exact hT) (by intro A hA b hb; simp only [List.mem_cons, List.not_mem_nil, or_false] at hA; rcases hA with rfl | rfl <;> exact hb) : Sh (fun _ => False) W W [.rblk g 52 [tv, .int .i64 X.e, .int .i64 ((i : Nat) : Int), dv, v4, vc, v6, va], .at_ (⟨tv, X.T⟩ : Ls Tok)]) rfl fun a10 h10 => gG h10<|sG (oM 1 rfl<|.nl)<|gK fun _ k12 => gK fun _ k13 => gNl (aA 1 rfl) fun (hl14 : X.T.length ≤ 140737488355328) => rQ (oM 1 rfl<|onf fl_52_2 rfl<|olR 0 ti_3 rfl rfl<|oM 1 rfl<|onf fl_52_0 rfl<|olR 0 ti_42 rfl rfl<|oln (n := X.T.length) sl_42 (aA 1 rfl) rfl<|oltN _ _ rfl<|.nl)<|hK k13<|?_; clear h10
 refine gcd rfl (fun hb15 hp15 => ?_) fun hb15 hp15 => ?_
 ·skip
  refine gK fun _ k16 => rQ (oM 1 rfl<|onf fl_52_0 rfl<|olR 0 ti_42 rfl rfl<|oM 1 rfl<|onf fl_52_2 rfl<|olR 0 ti_3 rfl rfl<|oxN sl_42 ti_81 (aA 1 rfl) _ om9 rfl<|ofE fl_81_2 rfl<|olE (.int .i64 ((nth X.T i).a)) ti_3 (aA 1 rfl) om9 rfl<|oM 1 rfl<|.nl)<|hK k16<|gR<|uT<|fun a17 w17 h17 => x_ret1 (fn := Tryz.f21) (t := 2) rfl h17 rfl ?_
  exact ⟨congrArg (Value.int .i64) (atT_t (by assumption)).symm, (h17.sh.sel [] rfl)⟩
 refine gS<|hK k12<|sG (oM 1 rfl<|onf fl_52_1 rfl<|olR 0 ti_3 rfl rfl<|oM 1 rfl<|.nl)<|gR<|fun a19 w19 h19 => x_ret1 (fn := Tryz.f21) (t := 2) rfl h19 rfl ?_
 exact ⟨congrArg (Value.int .i64) (atT_f (by assumption)).symm, (h19.sh.sel [] rfl)⟩

theorem dIs_c (g : Nat) (X : TE) (tv dv v4 vc v6 va : Value) (i : Nat)  (W : World) (hB : Blk W g 52 #[tv, .int .i64 X.e, .int .i64 (i : Int), dv, v4, vc, v6, va]) (hT : (⟨tv, X.T⟩ : Ls Tok).At W) (xs : ByteArray) :
    Rets Tryz.prog 19 [.pointer (some ⟨g, 0, none⟩), .string xs] W (fun v w' => v = .bool (isT X i xs) ∧ Sh0 W w' []) := by
 refine gen Tryz.func19 Tryz.ntmps19 (Sh0.ext (by intro A hA; simp only [List.mem_cons, List.not_mem_nil, or_false] at hA; rcases hA with rfl | rfl; exact hB; exact hT) (by intro A hA b hb; simp only [List.mem_cons, List.not_mem_nil, or_false] at hA; rcases hA with rfl | rfl <;> exact hb) : Sh (fun _ => False) W W [.rblk g 52 [tv, .int .i64 X.e, .int .i64 ((i : Nat) : Int), dv, v4, vc, v6, va], .at_ (⟨tv, X.T⟩ : Ls Tok)]) rfl fun a10 h10 => gG h10<|sG (oM 1 rfl<|.nl)<|gK fun _ k12 => gK fun _ k13 => gNl (aA 1 rfl) fun (hl14 : X.T.length ≤ 140737488355328) => rQ (oM 1 rfl<|onf fl_52_2 rfl<|olR 0 ti_3 rfl rfl<|oM 1 rfl<|onf fl_52_0 rfl<|olR 0 ti_42 rfl rfl<|oln (n := X.T.length) sl_42 (aA 1 rfl) rfl<|ogeN _ _ rfl<|.nl)<|hK k13<|?_; clear h10
 refine gcd rfl (fun hb15 hp15 => ?_) fun hb15 hp15 => ?_
 ·skip
  refine sG (oM 1 rfl<|.nl)<|gR<|uT<|fun a17 w17 h17 => x_ret1 (fn := Tryz.f19) (t := 4) rfl h17 rfl <| ⟨congrArg Value.bool ?_, (h17.sh.sel [] rfl)⟩
  exact (is1_f (fun h9 => by omega)).symm
 refine gS<|hK k12<|gK fun _ k18 => rC [10, 11] rfl<|pR [0, 1, 2, 3, 4, 5, 6, 7, 8, 9] rfl (oM 1 rfl<|onf fl_52_0 rfl<|olR 0 ti_42 rfl rfl<|oM 1 rfl<|onf fl_52_2 rfl<|olR 0 ti_3 rfl rfl<|oxN sl_42 ti_81 (aA 1 rfl) _ om9 rfl<|olw2 [.int .i64 ((nth X.T i).k), .int .i64 ((nth X.T i).n), .int .i64 ((nth X.T i).a), .string ((nth X.T i).t)] ti_81 (aA 1 rfl) om9 rfl<|.nl) rfl<|pX (fun _ _ h_ => x_alloc h_ ti_81 rfl rfl rfl) rfl fun b19 => pR [0, 1, 2, 3, 4, 5, 6, 7, 8, 9] rfl (oM 1 rfl<|onf fl_52_0 rfl<|olR 1 ti_42 rfl rfl<|oM 1 rfl<|onf fl_52_2 rfl<|olR 1 ti_3 rfl rfl<|oxN sl_42 ti_81 (aA 2 rfl) _ om9 rfl<|olw2 [.int .i64 ((nth X.T i).k), .int .i64 ((nth X.T i).n), .int .i64 ((nth X.T i).a), .string ((nth X.T i).t)] ti_81 (aA 2 rfl) om9 rfl<|.nl) rfl<|pS (fun _ _ h_ => x_stb (i := 0) (vs := [.int .i64 ((nth X.T i).k), .int .i64 ((nth X.T i).n), .int .i64 ((nth X.T i).a), .string ((nth X.T i).t)]) (cs' := [.int .i64 ((nth X.T i).k), .int .i64 ((nth X.T i).n), .int .i64 ((nth X.T i).a), .string ((nth X.T i).t)]) h_ ti_81 rfl rfl rfl rfl rfl rfl rfl (allOne_cons rfl (allOne_cons rfl (allOne_cons rfl (allOne_cons rfl allOne_nil)))) (Nat.le_of_ble_eq_true rfl) rfl) rfl<|pE [] rfl (.nl) rfl<|hK k18<|sK fun _ k21 => gRn (ofB fl_81_0 rfl<|olB 0 ti_3 rfl rfl<|oeqI _ _ rfl<|oM 1 rfl<|.nl)<|?_
 rcases dsp ((nth X.T i).k = 2) with ⟨hb22, hp22⟩ | ⟨hb22, hp22⟩
 ·skip
  refine gRn (oKs 3 hb22 rfl rfl<|opT hb22 rfl<|oM 1 rfl<|oG rfl (r_fieldB (r := 3) fl_81_3 rfl rfl rfl) rfl<|oG rfl (r_ldb (i := 0) ti_9 rfl rfl rfl rfl) rfl<|oG rfl (r_move rfl rfl) rfl<|oG rfl (r_eqlStr (s := ((nth X.T i).t)) (t := xs) rfl rfl rfl) rfl<|opT rfl rfl<|oM 1 rfl<|.nl)<|nK k21<|gF [4] rfl<|gR<|fun a23 w23 h23 => x_ret1 (fn := Tryz.f19) (t := 4) rfl h23 rfl <| ⟨congrArg Value.bool ?_, (h23.sh.sel [] rfl)⟩
  exact (is1_t (by omega) (by omega)).symm
 refine gRn (oG hb22 (r_fieldB (r := 0) fl_81_0 rfl rfl rfl) rfl<|oG hb22 (r_ldb (i := 0) ti_3 rfl rfl rfl rfl) rfl<|oG hb22 (r_eqlI (p := (nth X.T i).k) (q := 4) rfl rfl rfl) rfl<|opF hb22 rfl<|oM 1 rfl<|.nl)<|?_
 rcases dsp ((nth X.T i).k = 4) with ⟨hb24, hp24⟩ | ⟨hb24, hp24⟩
 ·skip
  refine gRn (oG hb24 (r_fieldB (r := 3) fl_81_3 rfl rfl rfl) rfl<|oG hb24 (r_ldb (i := 0) ti_9 rfl rfl rfl rfl) rfl<|oG hb24 (r_move rfl rfl) rfl<|oG hb24 (r_eqlStr (s := ((nth X.T i).t)) (t := xs) rfl rfl rfl) rfl<|opT hb24 rfl<|oM 1 rfl<|.nl)<|nK k21<|gF [4] rfl<|gR<|fun a25 w25 h25 => x_ret1 (fn := Tryz.f19) (t := 4) rfl h25 rfl <| ⟨congrArg Value.bool ?_, (h25.sh.sel [] rfl)⟩
  exact (is1_t (by omega) (by omega)).symm
 refine gRn (oKs 4 hb24 rfl rfl<|opF hb24 rfl<|oM 1 rfl<|.nl)<|nK k21<|gF [4] rfl<|gR<|fun a26 w26 h26 => x_ret1 (fn := Tryz.f19) (t := 4) rfl h26 rfl <| ⟨congrArg Value.bool ?_, (h26.sh.sel [] rfl)⟩
 exact (is1_f (fun h9 => by omega)).symm

theorem dFail_c (K : Nat → Prop) (g : Nat) (X : TE) (tv nv : Value) (i d : Nat) (nl : List NdL)  (W : World) (hS : Sh K W W [.blk g 52 [tv, .int .i64 X.e, .int .i64 ((i : Nat) : Int), .int .i64 ((d : Nat) : Int), nv, .int .i64 0, .int .i64 0, .int .i64 0], .deep 57 (⟨nv, nl⟩ : Ls NdL), .own 81 (⟨tv, X.T⟩ : Ls Tok)]) (hTl : X.T.length ≤ 4000) (e9 : Int) :
    Rets Tryz.prog 42 [.pointer (some ⟨g, 0, none⟩), .int .i64 e9] W (fun v w' => v = .int .i64 0 ∧ Sh K W w' [.blk g 52 [tv, .int .i64 X.e, .int .i64 ((X.T.length : Nat) : Int), .int .i64 ((d : Nat) : Int), nv, .int .i64 e9, .int .i64 0, .int .i64 (atT X i)], .deep 57 (⟨nv, nl⟩ : Ls NdL), .own 81 (⟨tv, X.T⟩ : Ls Tok)]) := by
 refine gen Tryz.func42 Tryz.ntmps42 hS rfl fun a10 h10 => gG h10<|sG (oM 1 rfl<|.nl)<|gK fun _ k12 => sG (oM 1 rfl<|onf fl_52_5 rfl<|oV (r_fieldB (r := 5) fl_25_0 rfl rfl rfl) rfl<|olB 0 ti_23 rfl rfl<|oeqN 0 0 rfl<|.nl)<|gcT rfl (by decide)<|sK fun _ k14 => gRn (oM 1 rfl<|.nl)<|gP (fun _ _ h_ => xCl h_ bd_21 rfl (dAt_c g _ _ _ _ _ _ _ i _ (h_.sh.blk 0 rfl) (h_.sh.own 2 rfl))) rfl<|gRn (oM 1 rfl<|.nl)<|nK k14<|sK fun _ k16 => gRn (oM 3 rfl<|oV (r_build (cs := [.int .i64 e9, .int .i64 0, .int .i64 (atT X i)]) rfl rfl (by kernel_rfl)) rfl<|onf fl_52_5 rfl<|.nl)<|gsw 0 ti_25 rfl rfl rfl<|nK k16<|gL<|gNl (aO 2 rfl) fun (hl18 : X.T.length ≤ 140737488355328) => gRn (oM 2 rfl<|onfl 0 fl_52_0 ti_42 rfl rfl<|oln (n := X.T.length) sl_42 (aO 2 rfl) rfl<|onf fl_52_2 rfl<|.nl)<|gst 0 ti_3 rfl rfl rfl<|nK k12<|gF [] rfl<|sG (oM 1 rfl<|.nl)<|gR<|fun a21 w21 h21 => x_ret1 (fn := Tryz.f42) (t := 4) rfl h21 rfl ?_; clear h10
 exact ⟨rfl, h21.sh⟩

theorem dFail_b (K : Nat → Prop) (g : Nat) (X : TE) (tv nv : Value) (nl : List NdL) (dz c ea : Int)  (W : World) (hS : Sh K W W [.blk g 52 [tv, .int .i64 X.e, .int .i64 ((X.T.length : Nat) : Int), .int .i64 dz, nv, .int .i64 c, .int .i64 0, .int .i64 ea], .deep 57 (⟨nv, nl⟩ : Ls NdL), .own 81 (⟨tv, X.T⟩ : Ls Tok)]) (hTl : X.T.length ≤ 4000) (hc : ¬ c = 0) (e9 : Int) :
    Rets Tryz.prog 42 [.pointer (some ⟨g, 0, none⟩), .int .i64 e9] W (fun v w' => v = .int .i64 0 ∧ Sh K W w' [.blk g 52 [tv, .int .i64 X.e, .int .i64 ((X.T.length : Nat) : Int), .int .i64 dz, nv, .int .i64 c, .int .i64 0, .int .i64 ea], .deep 57 (⟨nv, nl⟩ : Ls NdL), .own 81 (⟨tv, X.T⟩ : Ls Tok)]) := by
 refine gen Tryz.func42 Tryz.ntmps42 hS rfl fun a10 h10 => gG h10<|sG (oM 1 rfl<|.nl)<|gK fun _ k12 => sG (oM 1 rfl<|onf fl_52_5 rfl<|oV (r_fieldB (r := 5) fl_25_0 rfl rfl rfl) rfl<|olB 0 ti_23 rfl rfl<|oeqI _ _ rfl<|.nl)<|?_; clear h10
 refine gcd rfl (fun hb14 hp14 => ?_) fun hb14 hp14 => ?_
 ·skip
  exfalso
  exact hc (by assumption)
 refine gS<|hK k12<|sG (oM 1 rfl<|.nl)<|gR<|fun a16 w16 h16 => x_ret1 (fn := Tryz.f42) (t := 4) rfl h16 rfl ?_
 exact ⟨rfl, h16.sh⟩

theorem dTake_c (K : Nat → Prop) (g : Nat) (X : TE) (tv nv : Value) (i d : Nat) (nl : List NdL)  (W : World) (hS : Sh K W W [.blk g 52 [tv, .int .i64 X.e, .int .i64 ((i : Nat) : Int), .int .i64 ((d : Nat) : Int), nv, .int .i64 0, .int .i64 0, .int .i64 0], .deep 57 (⟨nv, nl⟩ : Ls NdL), .own 81 (⟨tv, X.T⟩ : Ls Tok)]) (hTl : X.T.length ≤ 4000) (xs : ByteArray) :
    Rets Tryz.prog 22 [.pointer (some ⟨g, 0, none⟩), .string xs] W (fun v w' => (∃ y : Int, takeP X xs ⟨i, d, nl.map NdL.nd⟩ = .ok (y, ⟨i + 1, d, nl.map NdL.nd⟩) ∧ i < X.T.length ∧ v = .tuple #[] ∧ Sh K W w' [.blk g 52 [tv, .int .i64 X.e, .int .i64 ((i + 1 : Nat) : Int), .int .i64 ((d : Nat) : Int), nv, .int .i64 0, .int .i64 0, .int .i64 0], .deep 57 (⟨nv, nl⟩ : Ls NdL), .own 81 (⟨tv, X.T⟩ : Ls Tok)]) ∨ (∃ (c a dz : Int), takeP X xs ⟨i, d, nl.map NdL.nd⟩ = .error (c, a) ∧ ¬ c = 0 ∧ v = .tuple #[] ∧ Sh K W w' [.blk g 52 [tv, .int .i64 X.e, .int .i64 ((X.T.length : Nat) : Int), .int .i64 dz, nv, .int .i64 c, .int .i64 0, .int .i64 a], .deep 57 (⟨nv, nl⟩ : Ls NdL), .own 81 (⟨tv, X.T⟩ : Ls Tok)])) := by
 refine gen Tryz.func22 Tryz.ntmps22 hS rfl fun a10 h10 => gG h10<|sK fun _ k11 => gRn (oM 2 rfl<|.nl)<|gP (fun _ _ h_ => xCl h_ bd_19 rfl (dIs_c g _ _ _ _ _ _ _ i _ (h_.sh.blk 0 rfl) (h_.sh.own 2 rfl) xs)) rfl<|gRn (oM 1 rfl<|.nl)<|nK k11<|sG (oM 1 rfl<|.nl)<|?_; clear h10
 refine gCb rfl (fun hb14 => ?_) fun hb14 => ?_
 ·skip
  have hlz : i < X.T.length := isl_lt (by assumption)
  refine gL<|gRn (oM 1 rfl<|onfl 0 fl_52_2 ti_3 rfl rfl<|oadN _ 1 om9 rfl<|onf fl_52_2 rfl<|.nl)<|gst 0 ti_3 rfl rfl rfl<|nN<|fun a16 w16 h16 => ?_
  try simp only [Exit.then, Exit.inBlock, if_true]
  refine x_end0 (fn := Tryz.f22) rfl h16 ?_
  exact .inl ⟨_, take_ok (by assumption), by first | assumption | exact isl_lt (by assumption) | exact kd_lt (by assumption), rfl, h16.sh⟩
 refine gL<|gRn (oM 1 rfl<|.nl)<|fun a17 w17 h17 => ?_
 have hp18 := h17.sh.passL (Lp := [_, _, _])
 refine wl_ex (x_call h17 bd_42 rfl rfl rfl rfl rfl (dFail_c _ _ X tv nv i d nl _ hp18 hTl 5)) (wanted_none rfl _) ?_
 rintro a19 w19 ⟨_, ⟨rfl, hs19⟩, hf19⟩
 have hcn19 : ¬ (5 : Int) = 0 := (by omega)
 have h19 : St _ K W a19 w19 _ [_, _, _] := ⟨hf19, h17.sh.backI (Lp := [_, _, _]) hs19⟩
 clear hf19 hs19 h17 hp18
 refine gG h19<|nN<|fun a20 w20 h20 => ?_; clear h19
 try simp only [Exit.then, Exit.inBlock, if_true]
 refine x_end0 (fn := Tryz.f22) rfl h20 ?_
 exact .inr ⟨5, (atT X i), ((d : Nat) : Int), take_no (by assumption), hcn19, rfl, h20.sh⟩

theorem dTake_b (K : Nat → Prop) (g : Nat) (X : TE) (tv nv : Value) (nl : List NdL) (dz c ea : Int)  (W : World) (hS : Sh K W W [.blk g 52 [tv, .int .i64 X.e, .int .i64 ((X.T.length : Nat) : Int), .int .i64 dz, nv, .int .i64 c, .int .i64 0, .int .i64 ea], .deep 57 (⟨nv, nl⟩ : Ls NdL), .own 81 (⟨tv, X.T⟩ : Ls Tok)]) (hTl : X.T.length ≤ 4000) (hc : ¬ c = 0) (xs : ByteArray) :
    Rets Tryz.prog 22 [.pointer (some ⟨g, 0, none⟩), .string xs] W (fun v w' => ∃ dz' : Int, v = .tuple #[] ∧ Sh K W w' [.blk g 52 [tv, .int .i64 X.e, .int .i64 ((X.T.length : Nat) : Int), .int .i64 dz', nv, .int .i64 c, .int .i64 0, .int .i64 ea], .deep 57 (⟨nv, nl⟩ : Ls NdL), .own 81 (⟨tv, X.T⟩ : Ls Tok)]) := by
 refine gen Tryz.func22 Tryz.ntmps22 hS rfl fun a10 h10 => gG h10<|sK fun _ k11 => gRn (oM 2 rfl<|.nl)<|gP (fun _ _ h_ => xCl h_ bd_19 rfl (dIs_c g _ _ _ _ _ _ _ X.T.length _ (h_.sh.blk 0 rfl) (h_.sh.own 2 rfl) xs)) rfl<|gRn (oM 1 rfl<|.nl)<|nK k11<|sG (oM 1 rfl<|.nl)<|gcF rfl isT_len<|gL<|gRn (oM 1 rfl<|.nl)<|fun a14 w14 h14 => ?_; clear h10
 have hp15 := h14.sh.passL (Lp := [_, _, _])
 refine wl_ex (x_call h14 bd_42 rfl rfl rfl rfl rfl (dFail_b _ _ X tv nv nl dz c ea _ hp15 hTl hc 5)) (wanted_none rfl _) ?_
 rintro a16 w16 ⟨_, ⟨rfl, hs16⟩, hf16⟩
 have h16 : St _ K W a16 w16 _ [_, _, _] := ⟨hf16, h14.sh.backI (Lp := [_, _, _]) hs16⟩
 clear hf16 hs16 h14 hp15
 refine gG h16<|nN<|fun a17 w17 h17 => ?_; clear h16
 try simp only [Exit.then, Exit.inBlock, if_true]
 refine x_end0 (fn := Tryz.f22) rfl h17 ?_
 exact ⟨_, rfl, h17.sh⟩

theorem dName_c (K : Nat → Prop) (g : Nat) (X : TE) (tv nv : Value) (i d : Nat) (nl : List NdL)  (W : World) (hS : Sh K W W [.blk g 52 [tv, .int .i64 X.e, .int .i64 ((i : Nat) : Int), .int .i64 ((d : Nat) : Int), nv, .int .i64 0, .int .i64 0, .int .i64 0], .deep 57 (⟨nv, nl⟩ : Ls NdL), .own 81 (⟨tv, X.T⟩ : Ls Tok)]) (hTl : X.T.length ≤ 4000) :
    Rets Tryz.prog 41 [.pointer (some ⟨g, 0, none⟩)] W (fun v w' => (∃ y : Tok, nameP X ⟨i, d, nl.map NdL.nd⟩ = .ok (y, ⟨i + 1, d, nl.map NdL.nd⟩) ∧ i < X.T.length ∧ v = .string y.t ∧ Sh K W w' [.blk g 52 [tv, .int .i64 X.e, .int .i64 ((i + 1 : Nat) : Int), .int .i64 ((d : Nat) : Int), nv, .int .i64 0, .int .i64 0, .int .i64 0], .deep 57 (⟨nv, nl⟩ : Ls NdL), .own 81 (⟨tv, X.T⟩ : Ls Tok)]) ∨ (∃ (c a dz : Int), nameP X ⟨i, d, nl.map NdL.nd⟩ = .error (c, a) ∧ ¬ c = 0 ∧ v = .string { data := #[] } ∧ Sh K W w' [.blk g 52 [tv, .int .i64 X.e, .int .i64 ((X.T.length : Nat) : Int), .int .i64 dz, nv, .int .i64 c, .int .i64 0, .int .i64 a], .deep 57 (⟨nv, nl⟩ : Ls NdL), .own 81 (⟨tv, X.T⟩ : Ls Tok)])) := by
 refine gen Tryz.func41 Tryz.ntmps41 hS rfl fun a10 h10 => gG h10<|sG (oM 1 rfl<|.nl)<|gK fun _ k12 => gK fun _ k13 => fun a15 w15 h15 => x_quiet (by kernel_rfl) (by kernel_rfl) h15 fun _ z16 => qQ h15.fr<|qRn (oM 1 rfl<|onfl 0 fl_52_2 ti_3 rfl rfl<|oM 1 rfl<|onfl 0 fl_52_0 ti_42 rfl rfl<|.nl)<|?_; clear h10
 have hl17 : X.T.length ≤ 140737488355328 := (h15.sh.own 2 rfl).len
 refine qRn (oln (n := X.T.length) sl_42 (aO 2 rfl) rfl<|oltN _ _ rfl<|oM 1 rfl<|.nl)<|?_
 rcases dsp (i < X.T.length) with ⟨hb18, hp18⟩ | ⟨hb18, hp18⟩
 ·skip
  refine qRn (oG hb18 (r_move rfl rfl) rfl<|oG hb18 (r_nil rfl rfl) rfl<|oG hb18 (r_fieldB (r := 0) fl_52_0 rfl rfl rfl) rfl<|oG hb18 (r_ldb (i := 0) ti_42 rfl rfl rfl rfl) rfl<|oG hb18 (r_move rfl rfl) rfl<|oG hb18 (r_nil rfl rfl) rfl<|oG hb18 (r_fieldB (r := 2) fl_52_2 rfl rfl rfl) rfl<|oG hb18 (r_ldb (i := 0) ti_3 rfl rfl rfl rfl) rfl<|oG hb18 (r_ixN (s := (⟨tv, X.T⟩ : Ls Tok)) (q := i) sl_42 ti_81 rfl rfl rfl (fun w h => (h.own 2 rfl)) (show i < X.T.length from om9)) rfl<|oG hb18 (r_fieldE (r := 0) fl_81_0 rfl rfl rfl) rfl<|oG hb18 (r_lde (s := (⟨tv, X.T⟩ : Ls Tok)) (i := i) (v := .int .i64 ((nth X.T i).k)) ti_3 rfl rfl rfl (fun w h => (h.own 2 rfl)) (show i < X.T.length from om9) (Nat.le_of_ble_eq_true rfl) rfl) rfl<|oG hb18 (r_eqlI (p := (nth X.T i).k) (q := 1) rfl rfl rfl) rfl<|opT hb18 rfl<|.nl)<|qN z16<|?_; clear h15
  refine hK k13<|gF [0, 26] rfl<|gcd rfl (fun hb31 hp31 => ?_) fun hb31 hp31 => ?_
  ·skip
   refine sK fun _ k32 => gRn (oM 1 rfl<|onfl 0 fl_52_2 ti_3 rfl rfl<|oadN _ 1 om9 rfl<|onf fl_52_2 rfl<|.nl)<|gst 0 ti_3 rfl rfl rfl<|nK k32<|gK fun _ k34 => rQ (oM 1 rfl<|onfl 0 fl_52_0 ti_42 rfl rfl<|oM 1 rfl<|onfl 0 fl_52_2 ti_3 rfl rfl<|osbN _ 1 om9 rfl<|oxN sl_42 ti_81 (aO 2 rfl) _ om9 rfl<|ofE fl_81_3 rfl<|olE (.string ((nth X.T ((i + 1) - 1)).t)) ti_9 (aO 2 rfl) om9 rfl<|oM 1 rfl<|.nl)<|hK k34<|gR<|uT<|fun a35 w35 h35 => x_ret1 (fn := Tryz.f41) (t := 2) rfl h35 rfl ?_
   exact .inl ⟨_, name_ok ((kindT_e (by assumption)).trans (decide_eq_true (by assumption))), by first | assumption | exact isl_lt (by assumption) | exact kd_lt (by assumption), rfl, h35.sh⟩
  refine gS<|hK k12<|sK fun _ k36 => gRn (oM 1 rfl<|.nl)<|fun a37 w37 h37 => ?_
  have hp38 := h37.sh.passL (Lp := [_, _, _])
  refine wl_ex (x_call h37 bd_42 rfl rfl rfl rfl rfl (dFail_c _ _ X tv nv i d nl _ hp38 hTl 5)) (wanted_none rfl _) ?_
  rintro a39 w39 ⟨_, ⟨rfl, hs39⟩, hf39⟩
  have hcn39 : ¬ (5 : Int) = 0 := (by omega)
  have h39 : St _ K W a39 w39 _ [_, _, _] := ⟨hf39, h37.sh.backI (Lp := [_, _, _]) hs39⟩
  clear hf39 hs39 h37 hp38
  refine gG h39<|nK k36<|sG (oM 1 rfl<|.nl)<|gR<|fun a41 w41 h41 => x_ret1 (fn := Tryz.f41) (t := 2) rfl h41 rfl ?_; clear h39
  exact .inr ⟨5, (atT X i), ((d : Nat) : Int), name_no (kindT_f (fun h9 => by first | exact absurd h9.1 (by assumption) | exact absurd h9.2 (by assumption))), hcn39, rfl, h41.sh⟩
 refine qRn (oKs 12 hb18 rfl rfl<|opF hb18 rfl<|.nl)<|qN z16<|?_; clear h15
 refine hK k13<|gF [0, 26] rfl<|gcF rfl rfl<|gS<|hK k12<|sK fun _ k43 => gRn (oM 1 rfl<|.nl)<|fun a44 w44 h44 => ?_
 have hp45 := h44.sh.passL (Lp := [_, _, _])
 refine wl_ex (x_call h44 bd_42 rfl rfl rfl rfl rfl (dFail_c _ _ X tv nv i d nl _ hp45 hTl 5)) (wanted_none rfl _) ?_
 rintro a46 w46 ⟨_, ⟨rfl, hs46⟩, hf46⟩
 have hcn46 : ¬ (5 : Int) = 0 := (by omega)
 have h46 : St _ K W a46 w46 _ [_, _, _] := ⟨hf46, h44.sh.backI (Lp := [_, _, _]) hs46⟩
 clear hf46 hs46 h44 hp45
 refine gG h46<|nK k43<|sG (oM 1 rfl<|.nl)<|gR<|fun a48 w48 h48 => x_ret1 (fn := Tryz.f41) (t := 2) rfl h48 rfl ?_; clear h46
 exact .inr ⟨5, (atT X i), ((d : Nat) : Int), name_no (kindT_f (fun h9 => by first | exact absurd h9.1 (by assumption) | exact absurd h9.2 (by assumption))), hcn46, rfl, h48.sh⟩

theorem dName_b (K : Nat → Prop) (g : Nat) (X : TE) (tv nv : Value) (nl : List NdL) (dz c ea : Int)  (W : World) (hS : Sh K W W [.blk g 52 [tv, .int .i64 X.e, .int .i64 ((X.T.length : Nat) : Int), .int .i64 dz, nv, .int .i64 c, .int .i64 0, .int .i64 ea], .deep 57 (⟨nv, nl⟩ : Ls NdL), .own 81 (⟨tv, X.T⟩ : Ls Tok)]) (hTl : X.T.length ≤ 4000) (hc : ¬ c = 0) :
    Rets Tryz.prog 41 [.pointer (some ⟨g, 0, none⟩)] W (fun v w' => ∃ dz' : Int, v = .string { data := #[] } ∧ Sh K W w' [.blk g 52 [tv, .int .i64 X.e, .int .i64 ((X.T.length : Nat) : Int), .int .i64 dz', nv, .int .i64 c, .int .i64 0, .int .i64 ea], .deep 57 (⟨nv, nl⟩ : Ls NdL), .own 81 (⟨tv, X.T⟩ : Ls Tok)]) := by
 refine gen Tryz.func41 Tryz.ntmps41 hS rfl fun a10 h10 => gG h10<|sG (oM 1 rfl<|.nl)<|gK fun _ k12 => gK fun _ k13 => gNl (aO 2 rfl) fun (hl14 : X.T.length ≤ 140737488355328) => rQ (oM 1 rfl<|onfl 0 fl_52_2 ti_3 rfl rfl<|oM 1 rfl<|onfl 0 fl_52_0 ti_42 rfl rfl<|oln (n := X.T.length) sl_42 (aO 2 rfl) rfl<|oltN _ _ rfl<|oM 1 rfl<|oK (decide_eq_false (Nat.lt_irrefl _)) rfl<|oK (decide_eq_false (Nat.lt_irrefl _)) rfl<|oK (decide_eq_false (Nat.lt_irrefl _)) rfl<|oK (decide_eq_false (Nat.lt_irrefl _)) rfl<|oK (decide_eq_false (Nat.lt_irrefl _)) rfl<|oK (decide_eq_false (Nat.lt_irrefl _)) rfl<|oK (decide_eq_false (Nat.lt_irrefl _)) rfl<|oK (decide_eq_false (Nat.lt_irrefl _)) rfl<|oK (decide_eq_false (Nat.lt_irrefl _)) rfl<|oK (decide_eq_false (Nat.lt_irrefl _)) rfl<|oK (decide_eq_false (Nat.lt_irrefl _)) rfl<|oK (decide_eq_false (Nat.lt_irrefl _)) rfl<|opF (decide_eq_false (Nat.lt_irrefl _)) rfl<|.nl)<|hK k13<|gF [0, 26] rfl<|gcF rfl rfl<|gS<|hK k12<|sK fun _ k15 => gRn (oM 1 rfl<|.nl)<|fun a16 w16 h16 => ?_; clear h10
 have hp17 := h16.sh.passL (Lp := [_, _, _])
 refine wl_ex (x_call h16 bd_42 rfl rfl rfl rfl rfl (dFail_b _ _ X tv nv nl dz c ea _ hp17 hTl hc 5)) (wanted_none rfl _) ?_
 rintro a18 w18 ⟨_, ⟨rfl, hs18⟩, hf18⟩
 have h18 : St _ K W a18 w18 _ [_, _, _] := ⟨hf18, h16.sh.backI (Lp := [_, _, _]) hs18⟩
 clear hf18 hs18 h16 hp17
 refine gG h18<|nK k15<|sG (oM 1 rfl<|.nl)<|gR<|fun a20 w20 h20 => x_ret1 (fn := Tryz.f41) (t := 2) rfl h20 rfl ?_; clear h18
 exact ⟨_, rfl, h20.sh⟩

theorem dOpen_c (K : Nat → Prop) (g : Nat) (X : TE) (tv nv : Value) (i d : Nat) (nl : List NdL)  (W : World) (hS : Sh K W W [.blk g 52 [tv, .int .i64 X.e, .int .i64 ((i : Nat) : Int), .int .i64 ((d : Nat) : Int), nv, .int .i64 0, .int .i64 0, .int .i64 0], .deep 57 (⟨nv, nl⟩ : Ls NdL), .own 81 (⟨tv, X.T⟩ : Ls Tok)]) (hTl : X.T.length ≤ 4000) (hd : d ≤ 20) (xs : ByteArray) :
    Rets Tryz.prog 43 [.pointer (some ⟨g, 0, none⟩), .string xs] W (fun v w' => (∃ y : Int, openP X xs ⟨i, d, nl.map NdL.nd⟩ = .ok (y, ⟨i + 1, d + 1, nl.map NdL.nd⟩) ∧ i < X.T.length ∧ v = .tuple #[] ∧ Sh K W w' [.blk g 52 [tv, .int .i64 X.e, .int .i64 ((i + 1 : Nat) : Int), .int .i64 ((d + 1 : Nat) : Int), nv, .int .i64 0, .int .i64 0, .int .i64 0], .deep 57 (⟨nv, nl⟩ : Ls NdL), .own 81 (⟨tv, X.T⟩ : Ls Tok)]) ∨ (∃ (c a dz : Int), openP X xs ⟨i, d, nl.map NdL.nd⟩ = .error (c, a) ∧ ¬ c = 0 ∧ v = .tuple #[] ∧ Sh K W w' [.blk g 52 [tv, .int .i64 X.e, .int .i64 ((X.T.length : Nat) : Int), .int .i64 dz, nv, .int .i64 c, .int .i64 0, .int .i64 a], .deep 57 (⟨nv, nl⟩ : Ls NdL), .own 81 (⟨tv, X.T⟩ : Ls Tok)])) := by
 refine gen Tryz.func43 Tryz.ntmps43 hS rfl fun a10 h10 => gG h10<|sK fun _ k11 => gRn (oM 2 rfl<|.nl)<|gP (fun _ _ h_ => xCl h_ bd_19 rfl (dIs_c g _ _ _ _ _ _ _ i _ (h_.sh.blk 0 rfl) (h_.sh.own 2 rfl) xs)) rfl<|gRn (oM 1 rfl<|.nl)<|nK k11<|gK fun _ k13 => sK fun _ k14 => gRn (oM 2 rfl<|.nl)<|?_; clear h10
 rcases Bool.eq_false_or_eq_true (isT X i xs) with hb15 | hb15
 ·skip
  refine gRn (oG hb15 (r_move rfl rfl) rfl<|oG hb15 (r_nil rfl rfl) rfl<|oG hb15 (r_fieldB (r := 3) fl_52_3 rfl rfl rfl) rfl<|oG hb15 (r_ldb (i := 0) ti_3 rfl rfl rfl rfl) rfl<|oG hb15 (r_eqlN (p := d) (q := 20) rfl rfl rfl) rfl<|opT hb15 rfl<|.nl)<|nK k14<|gcd rfl (fun hb16 hp16 => ?_) fun hb16 hp16 => ?_
  ·skip
   refine sK fun _ k17 => gRn (oM 1 rfl<|.nl)<|fun a18 w18 h18 => ?_
   have hp19 := h18.sh.passL (Lp := [_, _, _])
   refine wl_ex (x_call h18 bd_42 rfl rfl rfl rfl rfl (dFail_c _ _ X tv nv i d nl _ hp19 hTl 6)) (wanted_none rfl _) ?_
   rintro a20 w20 ⟨_, ⟨rfl, hs20⟩, hf20⟩
   have hcn20 : ¬ (6 : Int) = 0 := (by omega)
   have h20 : St _ K W a20 w20 _ [_, _, _] := ⟨hf20, h18.sh.backI (Lp := [_, _, _]) hs20⟩
   clear hf20 hs20 h18 hp19
   refine gG h20<|nK k17<|gR<|uT<|fun a21 w21 h21 => x_ret0 (fn := Tryz.f43) rfl h21 ?_; clear h20
   exact .inr ⟨6, (atT X i), ((d : Nat) : Int), open_deep (by assumption) (by assumption), hcn20, rfl, h21.sh⟩
  refine gS<|hK k13<|sK fun _ k22 => gRn (oM 2 rfl<|.nl)<|fun a23 w23 h23 => ?_
  have hp24 := h23.sh.passL (Lp := [_, _, _])
  refine wl_ex (x_call h23 bd_22 rfl rfl rfl rfl rfl (dTake_c _ _ X tv nv i d nl _ hp24 hTl xs)) (wanted_none rfl _) ?_
  rintro a25 w25 ⟨_, (⟨y25, hr25, hi25, rfl, hs25⟩ | ⟨c25, e25, dz25, hr25, hcn25, rfl, hs25⟩), hf25⟩
  ·skip
   have hl25 : i < X.T.length := hi25
   have h25 : St _ K W a25 w25 _ [_, _, _] := ⟨hf25, h23.sh.backI (Lp := [_, _, _]) hs25⟩
   clear hf25 hs25 h23 hp24
   refine gG h25<|nK k22<|gL<|gRn (oM 1 rfl<|onfl 0 fl_52_3 ti_3 rfl rfl<|oadN _ 1 om9 rfl<|onf fl_52_3 rfl<|.nl)<|gst 0 ti_3 rfl rfl rfl<|nN<|fun a27 w27 h27 => ?_; clear h25
   try simp only [Exit.then, Exit.inBlock, if_true]
   refine x_end0 (fn := Tryz.f43) rfl h27 ?_
   exact .inl ⟨_, open_ok (by first | exact fun h9 => absurd h9.2 (by assumption) | exact fun h9 => by have := h9.1; simp_all) hr25, by first | assumption | exact isl_lt (by assumption) | exact kd_lt (by assumption), rfl, h27.sh⟩
  have h25 : St _ K W a25 w25 _ [_, _, _] := ⟨hf25, h23.sh.backI (Lp := [_, _, _]) hs25⟩
  clear hf25 hs25 h23 hp24
  refine gG h25<|nK k22<|gL<|gRn (oM 1 rfl<|onfl 0 fl_52_3 ti_3 rfl rfl<|oV (r_addW (p := dz25) (q := 1) rfl rfl rfl) rfl<|onf fl_52_3 rfl<|.nl)<|gst 0 ti_3 rfl rfl rfl<|nN<|fun a29 w29 h29 => ?_; clear h25
  try simp only [Exit.then, Exit.inBlock, if_true]
  refine x_end0 (fn := Tryz.f43) rfl h29 ?_
  exact .inr ⟨c25, e25, (wrap64 (dz25 + 1)), open_no (by first | exact fun h9 => absurd h9.2 (by assumption) | exact fun h9 => by have := h9.1; simp_all) hr25, hcn25, rfl, h29.sh⟩
 refine gRn (oKs 5 hb15 rfl rfl<|opF hb15 rfl<|.nl)<|nK k14<|gcF rfl rfl<|gS<|hK k13<|sK fun _ k30 => gRn (oM 2 rfl<|.nl)<|fun a31 w31 h31 => ?_
 have hp32 := h31.sh.passL (Lp := [_, _, _])
 refine wl_ex (x_call h31 bd_22 rfl rfl rfl rfl rfl (dTake_c _ _ X tv nv i d nl _ hp32 hTl xs)) (wanted_none rfl _) ?_
 rintro a33 w33 ⟨_, (⟨y33, hr33, hi33, rfl, hs33⟩ | ⟨c33, e33, dz33, hr33, hcn33, rfl, hs33⟩), hf33⟩
 ·skip
  have hl33 : i < X.T.length := hi33
  have h33 : St _ K W a33 w33 _ [_, _, _] := ⟨hf33, h31.sh.backI (Lp := [_, _, _]) hs33⟩
  clear hf33 hs33 h31 hp32
  refine gG h33<|nK k30<|gL<|gRn (oM 1 rfl<|onfl 0 fl_52_3 ti_3 rfl rfl<|oadN _ 1 om9 rfl<|onf fl_52_3 rfl<|.nl)<|gst 0 ti_3 rfl rfl rfl<|nN<|fun a35 w35 h35 => ?_; clear h33
  try simp only [Exit.then, Exit.inBlock, if_true]
  refine x_end0 (fn := Tryz.f43) rfl h35 ?_
  exact .inl ⟨_, open_ok (by first | exact fun h9 => absurd h9.2 (by assumption) | exact fun h9 => by have := h9.1; simp_all) hr33, by first | assumption | exact isl_lt (by assumption) | exact kd_lt (by assumption), rfl, h35.sh⟩
 have h33 : St _ K W a33 w33 _ [_, _, _] := ⟨hf33, h31.sh.backI (Lp := [_, _, _]) hs33⟩
 clear hf33 hs33 h31 hp32
 refine gG h33<|nK k30<|gL<|gRn (oM 1 rfl<|onfl 0 fl_52_3 ti_3 rfl rfl<|oV (r_addW (p := dz33) (q := 1) rfl rfl rfl) rfl<|onf fl_52_3 rfl<|.nl)<|gst 0 ti_3 rfl rfl rfl<|nN<|fun a37 w37 h37 => ?_; clear h33
 try simp only [Exit.then, Exit.inBlock, if_true]
 refine x_end0 (fn := Tryz.f43) rfl h37 ?_
 exact .inr ⟨c33, e33, (wrap64 (dz33 + 1)), open_no (by first | exact fun h9 => absurd h9.2 (by assumption) | exact fun h9 => by have := h9.1; simp_all) hr33, hcn33, rfl, h37.sh⟩

theorem dOpen_b (K : Nat → Prop) (g : Nat) (X : TE) (tv nv : Value) (nl : List NdL) (dz c ea : Int)  (W : World) (hS : Sh K W W [.blk g 52 [tv, .int .i64 X.e, .int .i64 ((X.T.length : Nat) : Int), .int .i64 dz, nv, .int .i64 c, .int .i64 0, .int .i64 ea], .deep 57 (⟨nv, nl⟩ : Ls NdL), .own 81 (⟨tv, X.T⟩ : Ls Tok)]) (hTl : X.T.length ≤ 4000) (hc : ¬ c = 0) (xs : ByteArray) :
    Rets Tryz.prog 43 [.pointer (some ⟨g, 0, none⟩), .string xs] W (fun v w' => ∃ dz' : Int, v = .tuple #[] ∧ Sh K W w' [.blk g 52 [tv, .int .i64 X.e, .int .i64 ((X.T.length : Nat) : Int), .int .i64 dz', nv, .int .i64 c, .int .i64 0, .int .i64 ea], .deep 57 (⟨nv, nl⟩ : Ls NdL), .own 81 (⟨tv, X.T⟩ : Ls Tok)]) := by
 refine gen Tryz.func43 Tryz.ntmps43 hS rfl fun a10 h10 => gG h10<|sK fun _ k11 => gRn (oM 2 rfl<|.nl)<|gP (fun _ _ h_ => xCl h_ bd_19 rfl (dIs_c g _ _ _ _ _ _ _ X.T.length _ (h_.sh.blk 0 rfl) (h_.sh.own 2 rfl) xs)) rfl<|gRn (oM 1 rfl<|.nl)<|nK k11<|gK fun _ k13 => sG (oM 2 rfl<|oKs 5 isT_len rfl rfl<|opF isT_len rfl<|.nl)<|gcF rfl rfl<|gS<|hK k13<|sK fun _ k15 => gRn (oM 2 rfl<|.nl)<|fun a16 w16 h16 => ?_; clear h10
 have hp17 := h16.sh.passL (Lp := [_, _, _])
 refine wl_ex (x_call h16 bd_22 rfl rfl rfl rfl rfl (dTake_b _ _ X tv nv nl dz c ea _ hp17 hTl hc xs)) (wanted_none rfl _) ?_
 rintro a18 w18 ⟨_, ⟨dz18, rfl, hs18⟩, hf18⟩
 have h18 : St _ K W a18 w18 _ [_, _, _] := ⟨hf18, h16.sh.backI (Lp := [_, _, _]) hs18⟩
 clear hf18 hs18 h16 hp17
 refine gG h18<|nK k15<|gL<|gRn (oM 1 rfl<|onfl 0 fl_52_3 ti_3 rfl rfl<|oV (r_addW (p := dz18) (q := 1) rfl rfl rfl) rfl<|onf fl_52_3 rfl<|.nl)<|gst 0 ti_3 rfl rfl rfl<|nN<|fun a20 w20 h20 => ?_; clear h18
 try simp only [Exit.then, Exit.inBlock, if_true]
 refine x_end0 (fn := Tryz.f43) rfl h20 ?_
 exact ⟨_, rfl, h20.sh⟩

theorem dShut_c (K : Nat → Prop) (g : Nat) (X : TE) (tv nv : Value) (i d : Nat) (nl : List NdL)  (W : World) (hS : Sh K W W [.blk g 52 [tv, .int .i64 X.e, .int .i64 ((i : Nat) : Int), .int .i64 ((d : Nat) : Int), nv, .int .i64 0, .int .i64 0, .int .i64 0], .deep 57 (⟨nv, nl⟩ : Ls NdL), .own 81 (⟨tv, X.T⟩ : Ls Tok)]) (hTl : X.T.length ≤ 4000) (hd1 : 1 ≤ d ∧ d ≤ 20) (xs : ByteArray) :
    Rets Tryz.prog 45 [.pointer (some ⟨g, 0, none⟩), .string xs] W (fun v w' => (∃ y : Int, shutP X xs ⟨i, d, nl.map NdL.nd⟩ = .ok (y, ⟨i + 1, d - 1, nl.map NdL.nd⟩) ∧ i < X.T.length ∧ v = .tuple #[] ∧ Sh K W w' [.blk g 52 [tv, .int .i64 X.e, .int .i64 ((i + 1 : Nat) : Int), .int .i64 ((d - 1 : Nat) : Int), nv, .int .i64 0, .int .i64 0, .int .i64 0], .deep 57 (⟨nv, nl⟩ : Ls NdL), .own 81 (⟨tv, X.T⟩ : Ls Tok)]) ∨ (∃ (c a dz : Int), shutP X xs ⟨i, d, nl.map NdL.nd⟩ = .error (c, a) ∧ ¬ c = 0 ∧ v = .tuple #[] ∧ Sh K W w' [.blk g 52 [tv, .int .i64 X.e, .int .i64 ((X.T.length : Nat) : Int), .int .i64 dz, nv, .int .i64 c, .int .i64 0, .int .i64 a], .deep 57 (⟨nv, nl⟩ : Ls NdL), .own 81 (⟨tv, X.T⟩ : Ls Tok)])) := by
 refine gen Tryz.func45 Tryz.ntmps45 hS rfl fun a10 h10 => gG h10<|sK fun _ k11 => gRn (oM 2 rfl<|.nl)<|fun a12 w12 h12 => ?_; clear h10
 have hp13 := h12.sh.passL (Lp := [_, _, _])
 refine wl_ex (x_call h12 bd_22 rfl rfl rfl rfl rfl (dTake_c _ _ X tv nv i d nl _ hp13 hTl xs)) (wanted_none rfl _) ?_
 rintro a14 w14 ⟨_, (⟨y14, hr14, hi14, rfl, hs14⟩ | ⟨c14, e14, dz14, hr14, hcn14, rfl, hs14⟩), hf14⟩
 ·skip
  have hl14 : i < X.T.length := hi14
  have h14 : St _ K W a14 w14 _ [_, _, _] := ⟨hf14, h12.sh.backI (Lp := [_, _, _]) hs14⟩
  clear hf14 hs14 h12 hp13
  refine gG h14<|nK k11<|gL<|gRn (oM 1 rfl<|onfl 0 fl_52_3 ti_3 rfl rfl<|osbN _ 1 om9 rfl<|onf fl_52_3 rfl<|.nl)<|gst 0 ti_3 rfl rfl rfl<|nN<|fun a16 w16 h16 => ?_; clear h14
  try simp only [Exit.then, Exit.inBlock, if_true]
  refine x_end0 (fn := Tryz.f45) rfl h16 ?_
  exact .inl ⟨_, shut_ok hr14, by first | assumption | exact isl_lt (by assumption) | exact kd_lt (by assumption), rfl, h16.sh⟩
 have h14 : St _ K W a14 w14 _ [_, _, _] := ⟨hf14, h12.sh.backI (Lp := [_, _, _]) hs14⟩
 clear hf14 hs14 h12 hp13
 refine gG h14<|nK k11<|gL<|gRn (oM 1 rfl<|onfl 0 fl_52_3 ti_3 rfl rfl<|oV (r_subW (p := dz14) (q := 1) rfl rfl rfl) rfl<|onf fl_52_3 rfl<|.nl)<|gst 0 ti_3 rfl rfl rfl<|nN<|fun a18 w18 h18 => ?_; clear h14
 try simp only [Exit.then, Exit.inBlock, if_true]
 refine x_end0 (fn := Tryz.f45) rfl h18 ?_
 exact .inr ⟨c14, e14, (wrap64 (dz14 - 1)), shut_no hr14, hcn14, rfl, h18.sh⟩

theorem dShut_b (K : Nat → Prop) (g : Nat) (X : TE) (tv nv : Value) (nl : List NdL) (dz c ea : Int)  (W : World) (hS : Sh K W W [.blk g 52 [tv, .int .i64 X.e, .int .i64 ((X.T.length : Nat) : Int), .int .i64 dz, nv, .int .i64 c, .int .i64 0, .int .i64 ea], .deep 57 (⟨nv, nl⟩ : Ls NdL), .own 81 (⟨tv, X.T⟩ : Ls Tok)]) (hTl : X.T.length ≤ 4000) (hc : ¬ c = 0) (xs : ByteArray) :
    Rets Tryz.prog 45 [.pointer (some ⟨g, 0, none⟩), .string xs] W (fun v w' => ∃ dz' : Int, v = .tuple #[] ∧ Sh K W w' [.blk g 52 [tv, .int .i64 X.e, .int .i64 ((X.T.length : Nat) : Int), .int .i64 dz', nv, .int .i64 c, .int .i64 0, .int .i64 ea], .deep 57 (⟨nv, nl⟩ : Ls NdL), .own 81 (⟨tv, X.T⟩ : Ls Tok)]) := by
 refine gen Tryz.func45 Tryz.ntmps45 hS rfl fun a10 h10 => gG h10<|sK fun _ k11 => gRn (oM 2 rfl<|.nl)<|fun a12 w12 h12 => ?_; clear h10
 have hp13 := h12.sh.passL (Lp := [_, _, _])
 refine wl_ex (x_call h12 bd_22 rfl rfl rfl rfl rfl (dTake_b _ _ X tv nv nl dz c ea _ hp13 hTl hc xs)) (wanted_none rfl _) ?_
 rintro a14 w14 ⟨_, ⟨dz14, rfl, hs14⟩, hf14⟩
 have h14 : St _ K W a14 w14 _ [_, _, _] := ⟨hf14, h12.sh.backI (Lp := [_, _, _]) hs14⟩
 clear hf14 hs14 h12 hp13
 refine gG h14<|nK k11<|gL<|gRn (oM 1 rfl<|onfl 0 fl_52_3 ti_3 rfl rfl<|oV (r_subW (p := dz14) (q := 1) rfl rfl rfl) rfl<|onf fl_52_3 rfl<|.nl)<|gst 0 ti_3 rfl rfl rfl<|nN<|fun a16 w16 h16 => ?_; clear h14
 try simp only [Exit.then, Exit.inBlock, if_true]
 refine x_end0 (fn := Tryz.f45) rfl h16 ?_
 exact ⟨_, rfl, h16.sh⟩

theorem dNode_c (K : Nat → Prop) (g : Nat) (X : TE) (tv nv : Value) (nl : List NdL) (i : Nat) (dv cv av : Value)  (W : World) (k : Int) (m : Int) (a : Int) (s : ByteArray) (kd : Ls Int) (hS : Sh K W W [.blk g 52 [tv, .int .i64 X.e, .int .i64 ((i : Nat) : Int), dv, nv, cv, .int .i64 0, av], .deep 57 (⟨nv, nl⟩ : Ls NdL), .own 81 (⟨tv, X.T⟩ : Ls Tok), .own 3 kd]) (hnl : nl.length ≤ 1000000000000) :
    Rets Tryz.prog 24 [.pointer (some ⟨g, 0, none⟩), .agg #[.int .i64 k, .int .i64 m, .int .i64 a, .string s, kd.v]] W (fun v w' => ∃ nv' : Value, v = .int .i64 ((nl.length : Nat) : Int) ∧ Sh K W w' [.blk g 52 [tv, .int .i64 X.e, .int .i64 ((i : Nat) : Int), dv, nv', cv, .int .i64 0, av], .deep 57 (⟨nv', nl ++ [⟨k, m, a, s, kd⟩]⟩ : Ls NdL), .own 81 (⟨tv, X.T⟩ : Ls Tok)]) := by
 refine gen Tryz.func24 Tryz.ntmps24 hS rfl fun a10 h10 => gG h10<|sK fun _ k11 => gbx rfl rfl fun b12 => gRn (oM 1 rfl<|.nl)<|nK k11<|gK fun _ k13 => rC [6, 7, 10] rfl<|pR [0, 1, 2, 3, 4, 5] rfl (oM 2 rfl<|onfl 1 fl_52_4 ti_22 rfl rfl<|olw 0 ti_57 rfl rfl<|.nl) rfl<|pO [4, 0, 1, 2, 3] rfl<|pX (fun _ _ h_ => x_litN (cs := [.int .i64 k, .int .i64 m, .int .i64 a, .string s, kd.v]) (⟨k, m, a, s, kd⟩ : NdL) h_ sl_22 ti_57 rfl rfl (by decide) rfl (by obtain ⟨A15, n15, c15, (e15 : kd.v = _)⟩ := ((h_.sh.own 0 rfl)).form; rw [e15]; kernel_rfl) rfl (h_.sh.own 0 rfl) (own_fp (h_.sh.ok _ (List.mem_of_getElem? (i := 0) rfl))) rfl rfl) rfl fun v16 => pR [0, 1, 2, 3, 4] rfl (oM 2 rfl<|onfl 2 fl_52_4 ti_22 rfl rfl<|.nl) rfl<|pO [3, 0, 1, 2, 4] rfl<|pX (fun _ _ h_ => x_appD (s := (⟨nv, nl⟩ : Ls NdL)) (m := (⟨v16, [(⟨k, m, a, s, kd⟩ : NdL)]⟩ : Ls NdL)) h_ sl_22 ti_57 rfl rfl rfl rfl rfl rfl rfl inferInstance (show (nl.length + ([(⟨k, m, a, s, kd⟩ : NdL)]).length) * 64 ≤ 140737488355328 ∧ nl.length + ([(⟨k, m, a, s, kd⟩ : NdL)]).length ≤ 140737488355328 from (by simp only [List.length_cons, List.length_nil]; omega)) rfl rfl) rfl fun v18 => pR [0, 8, 9] rfl (oM 1 rfl<|onf fl_52_4 rfl<|.nl) rfl<|pS (fun _ _ h_ => x_stb (i := 2) (vs := [v18]) (cs' := [tv, .int .i64 X.e, .int .i64 ((i : Nat) : Int), dv, v18, cv, .int .i64 0, av]) h_ ti_22 rfl rfl rfl rfl rfl (cells_oneL ((h_.sh.deep 0 rfl)).one) rfl (allOne_cons ((h_.sh.deep 0 rfl)).one allOne_nil) (Nat.le_of_ble_eq_true rfl) rfl) rfl<|pE [] rfl (.nl) rfl<|hK k13<|sG (oM 1 rfl<|onfl 2 fl_52_4 ti_22 rfl rfl<|oln (n := (nl ++ ([(⟨k, m, a, s, kd⟩ : NdL)])).length) sl_22 (aD 0 rfl) rfl<|osbN _ 1 (show 1 ≤ (nl ++ ([(⟨k, m, a, s, kd⟩ : NdL)])).length ∧ (nl ++ ([(⟨k, m, a, s, kd⟩ : NdL)])).length < 9223372036854775808 from om9) rfl<|oM 1 rfl<|.nl)<|gR<|fun a21 w21 h21 => x_ret1 (fn := Tryz.f24) (t := 4) rfl h21 rfl <| ⟨_, ?_, (h21.sh.sel [2, 0, 3] rfl)⟩; clear h10
 congr 1; simp only [lens9]; omega

theorem dLevel_c (s : ByteArray) (W : World) :
    Rets Tryz.prog 109 [.string s] W (fun v w' => v = .int .i64 (levI s) ∧ Sh0 W w' []) := by
 refine gen Tryz.func109 Tryz.ntmps109 (Sh0.start W : Sh (fun _ => False) W W []) rfl fun a10 h10 => gG h10<|sG (oM 1 rfl<|.nl)<|gK fun _ k12 => sG (oM 1 rfl<|.nl)<|gB<|sG (oV (r_eqlStr (s := s) (t := ({ data := #[124, 124] })) rfl rfl rfl) rfl<|oM 1 rfl<|.nl)<|?_; clear h10
 refine gcd rfl (fun hb15 hp15 => ?_) fun hb15 hp15 => ?_
 ·skip
  refine sG (oM 1 rfl<|.nl)<|gR<|uB<|uT<|fun a17 w17 h17 => x_ret1 (fn := Tryz.f109) (t := 2) rfl h17 rfl <| ⟨congrArg (Value.int .i64) ?_, (h17.sh.sel [] rfl)⟩
  unfold levI; simp [*]
 refine sG (oV (r_eqlStr (s := s) (t := ({ data := #[38, 38] })) rfl rfl rfl) rfl<|oM 1 rfl<|.nl)<|gcd rfl (fun hb19 hp19 => ?_) fun hb19 hp19 => ?_
 ·skip
  refine sG (oM 1 rfl<|.nl)<|gR<|uB<|uT<|fun a21 w21 h21 => x_ret1 (fn := Tryz.f109) (t := 2) rfl h21 rfl <| ⟨congrArg (Value.int .i64) ?_, (h21.sh.sel [] rfl)⟩
  unfold levI; simp [*]
 refine gK fun _ k22 => sG (oV (r_eqlStr (s := s) (t := ({ data := #[61, 61] })) rfl rfl rfl) rfl<|oM 1 rfl<|.nl)<|gcd rfl (fun hb24 hp24 => ?_) fun hb24 hp24 => ?_
 ·skip
  refine gS<|hK k22<|gcT rfl hb24<|sG (oM 1 rfl<|.nl)<|gR<|uB<|uT<|fun a26 w26 h26 => x_ret1 (fn := Tryz.f109) (t := 2) rfl h26 rfl <| ⟨congrArg (Value.int .i64) ?_, (h26.sh.sel [] rfl)⟩
  unfold levI; simp [*]
 refine sG (oV (r_eqlStr (s := s) (t := ({ data := #[33, 61] })) rfl rfl rfl) rfl<|oM 1 rfl<|.nl)<|gcd rfl (fun hb28 hp28 => ?_) fun hb28 hp28 => ?_
 ·skip
  refine gS<|hK k22<|gcT rfl hb28<|sG (oM 1 rfl<|.nl)<|gR<|uB<|uT<|fun a30 w30 h30 => x_ret1 (fn := Tryz.f109) (t := 2) rfl h30 rfl <| ⟨congrArg (Value.int .i64) ?_, (h30.sh.sel [] rfl)⟩
  unfold levI; simp [*]
 refine sG (oV (r_eqlStr (s := s) (t := ({ data := #[60] })) rfl rfl rfl) rfl<|oM 1 rfl<|.nl)<|gcd rfl (fun hb32 hp32 => ?_) fun hb32 hp32 => ?_
 ·skip
  refine gS<|hK k22<|gcT rfl hb32<|sG (oM 1 rfl<|.nl)<|gR<|uB<|uT<|fun a34 w34 h34 => x_ret1 (fn := Tryz.f109) (t := 2) rfl h34 rfl <| ⟨congrArg (Value.int .i64) ?_, (h34.sh.sel [] rfl)⟩
  unfold levI; simp [*]
 refine sG (oV (r_eqlStr (s := s) (t := ({ data := #[60, 61] })) rfl rfl rfl) rfl<|oM 1 rfl<|.nl)<|gcd rfl (fun hb36 hp36 => ?_) fun hb36 hp36 => ?_
 ·skip
  refine gS<|hK k22<|gcT rfl hb36<|sG (oM 1 rfl<|.nl)<|gR<|uB<|uT<|fun a38 w38 h38 => x_ret1 (fn := Tryz.f109) (t := 2) rfl h38 rfl <| ⟨congrArg (Value.int .i64) ?_, (h38.sh.sel [] rfl)⟩
  unfold levI; simp [*]
 refine sG (oV (r_eqlStr (s := s) (t := ({ data := #[62] })) rfl rfl rfl) rfl<|oM 1 rfl<|.nl)<|gcd rfl (fun hb40 hp40 => ?_) fun hb40 hp40 => ?_
 ·skip
  refine gS<|hK k22<|gcT rfl hb40<|sG (oM 1 rfl<|.nl)<|gR<|uB<|uT<|fun a42 w42 h42 => x_ret1 (fn := Tryz.f109) (t := 2) rfl h42 rfl <| ⟨congrArg (Value.int .i64) ?_, (h42.sh.sel [] rfl)⟩
  unfold levI; simp [*]
 refine gL<|gRn (oV (r_eqlStr (s := s) (t := ({ data := #[62, 61] })) rfl rfl rfl) rfl<|oM 1 rfl<|.nl)<|nK k22<|gcd rfl (fun hb43 hp43 => ?_) fun hb43 hp43 => ?_
 ·skip
  refine sG (oM 1 rfl<|.nl)<|gR<|uB<|uT<|fun a45 w45 h45 => x_ret1 (fn := Tryz.f109) (t := 2) rfl h45 rfl <| ⟨congrArg (Value.int .i64) ?_, (h45.sh.sel [] rfl)⟩
  unfold levI; simp [*]
 refine gK fun _ k46 => sG (oV (r_eqlStr (s := s) (t := ({ data := #[43] })) rfl rfl rfl) rfl<|oM 1 rfl<|.nl)<|gcd rfl (fun hb48 hp48 => ?_) fun hb48 hp48 => ?_
 ·skip
  refine gS<|hK k46<|gcT rfl hb48<|sG (oM 1 rfl<|.nl)<|gR<|uB<|uT<|fun a50 w50 h50 => x_ret1 (fn := Tryz.f109) (t := 2) rfl h50 rfl <| ⟨congrArg (Value.int .i64) ?_, (h50.sh.sel [] rfl)⟩
  unfold levI; simp [*]
 refine gL<|gRn (oV (r_eqlStr (s := s) (t := ({ data := #[45] })) rfl rfl rfl) rfl<|oM 1 rfl<|.nl)<|nK k46<|gcd rfl (fun hb51 hp51 => ?_) fun hb51 hp51 => ?_
 ·skip
  refine sG (oM 1 rfl<|.nl)<|gR<|uB<|uT<|fun a53 w53 h53 => x_ret1 (fn := Tryz.f109) (t := 2) rfl h53 rfl <| ⟨congrArg (Value.int .i64) ?_, (h53.sh.sel [] rfl)⟩
  unfold levI; simp [*]
 refine sG (oV (r_eqlStr (s := s) (t := ({ data := #[42] })) rfl rfl rfl) rfl<|oM 1 rfl<|.nl)<|gcd rfl (fun hb55 hp55 => ?_) fun hb55 hp55 => ?_
 ·skip
  refine sG (oM 1 rfl<|.nl)<|gR<|uB<|uT<|fun a57 w57 h57 => x_ret1 (fn := Tryz.f109) (t := 2) rfl h57 rfl <| ⟨congrArg (Value.int .i64) ?_, (h57.sh.sel [] rfl)⟩
  unfold levI; simp [*]
 refine gS<|hK k12<|sG (oM 1 rfl<|.nl)<|gR<|fun a59 w59 h59 => x_ret1 (fn := Tryz.f109) (t := 2) rfl h59 rfl <| ⟨congrArg (Value.int .i64) ?_, (h59.sh.sel [] rfl)⟩
 unfold levI; simp [*]

end Go.Proofs.YthdkmhaneellcaaGreatDoor
