/-
  The parser: expressions, blocks, statements; each given that what it calls is as the plain parser says.
-/
import Derived.Test.YthdkmhaneellcaaGreatDoorX150
import Derived.Test.YthdkmhaneellcaaGreatDoorS14
namespace Go.Proofs.YthdkmhaneellcaaGreatDoor
open Go.RowKit
set_option linter.unusedSimpArgs false
set_option linter.unusedVariables false
set_option maxRecDepth 100000
set_option maxHeartbeats 4000000


theorem msi_93 : MapTSI Tryz.prog 93 9 3 := ⟨Tryz.underlying93, Tryz.underlying9, Tryz.zeroValue3⟩
/-- The program reads something as the plain parser says. -/
def OkT (X : TE) (f : Nat) (fn : FuncId) (ex : List Value) (nt : NT) : Prop := ∀ (K : Nat → Prop) (g : Nat) (tv nv : Value) (i d : Nat) (nl : List NdL) (W : World), Sh K W W [.blk g 49 [tv, .int .i64 X.e, .int .i64 ((i : Nat) : Int), .int .i64 ((d : Nat) : Int), nv], .deep 57 (⟨nv, nl⟩ : Ls NdL), .own 81 (⟨tv, X.T⟩ : Ls Tok)] → X.T.length ≤ 4000 → d ≤ 20 → i ≤ X.T.length → nl.length ≤ 2 * i → 20 * (X.T.length - i) + rankT nt ≤ f →
    RetsP Tryz.prog fn (.pointer (some ⟨g, 0, none⟩) :: ex) W (fun v w' => ∃ (a : Int) (i' : Nat) (nv' : Value) (nl' : List NdL), parseP X f nt ⟨i, d, nl.map NdL.nd⟩ = .ok (a, ⟨i', d, nl'.map NdL.nd⟩) ∧ v = .int .i64 a ∧ Sh K W w' [.blk g 49 [tv, .int .i64 X.e, .int .i64 ((i' : Nat) : Int), .int .i64 ((d : Nat) : Int), nv'], .deep 57 (⟨nv', nl'⟩ : Ls NdL), .own 81 (⟨tv, X.T⟩ : Ls Tok)])
      (fun x w' => ∃ c a : Int, parseP X f nt ⟨i, d, nl.map NdL.nd⟩ = .error (c, a) ∧ x = wrongS c a ∧ Sh K W w' [])
structure AllT (X : TE) (f : Nat) : Prop where
  ex : ∀ k : Nat, k ≤ 5 → OkT X f 105 [.int .i64 (k : Int)] (.expr k)
  un : OkT X f 128 [] .unary
  he : OkT X f 106 [] .held
  bl : OkT X f 38 [] .block
  st : OkT X f 75 [] .stmt
theorem lv_len {lv : Ls (Ls ByteArray)} (h : lv.l.map (·.l) = levL) : lv.l.length = 5 := by
  have := congrArg List.length h
  rw [List.length_map] at this
  exact this
theorem lv_nth {lv : Ls (Ls ByteArray)} (h : lv.l.map (·.l) = levL) {k : Nat} (hk : k < 5) : (nth lv.l k).l = nth levL k := by
  rw [← h, nth_map' _ _ _ (by rw [lv_len h]; exact hk)]
theorem lev_le {k : Nat} (hk : k < 5) : (nth levL k).length ≤ 1000 := by
  rcases (by omega : k = 0 ∨ k = 1 ∨ k = 2 ∨ k = 3 ∨ k = 4) with rfl | rfl | rfl | rfl | rfl <;> decide
theorem neg_kind {X : TE} {i : Nat} (h : isL X i [⟨#[45]⟩, ⟨#[33]⟩] = true) : (getSI (nth X.T i).t ([(⟨#[45]⟩, 17)] ++ [(⟨#[33]⟩, 18)])).getD 0 = if (nth X.T i).t = ⟨#[45]⟩ then 17 else 18 := by
  simp only [isL, Bool.and_eq_true, inS_iff, List.mem_cons, List.not_mem_nil, or_false] at h
  obtain ⟨_, _, h⟩ := h
  rcases h with h | h <;> rw [h] <;> rfl

theorem levels_c (W : World) :
    Rets Tryz.prog 127 [] W (fun v w' => ∃ lv : Ls (Ls ByteArray), v = lv.v ∧ lv.l.map (·.l) = levL ∧ Sh0 W w' [.deep 103 lv]) := by
 refine gen Tryz.func127 Tryz.ntmps127 (Sh0.start W : Sh (fun _ => False) W W []) rfl fun a10 h10 => gG h10<|sG (oM 1 rfl<|.nl)<|sK fun _ k12 => gE1 (fun _ _ h_ => x_lit (n := 1) (cs := [.string ({ data := #[124, 124] })]) ([{ data := #[124, 124] }] : List ByteArray) h_ sl_103 ti_9 rfl rfl rfl (by decide) rfl (by kernel_rfl) rfl (fun q hq w h => Flat.inner _ _) (fun q hq b hb => (Flat.on _ _ hb).elim) rfl rfl) rfl fun v13 => gE1 (fun _ _ h_ => x_lit (n := 1) (cs := [.string ({ data := #[38, 38] })]) ([{ data := #[38, 38] }] : List ByteArray) h_ sl_103 ti_9 rfl rfl rfl (by decide) rfl (by kernel_rfl) rfl (fun q hq w h => Flat.inner _ _) (fun q hq b hb => (Flat.on _ _ hb).elim) rfl rfl) rfl fun v14 => gE1 (fun _ _ h_ => x_lit (n := 6) (cs := [.string ({ data := #[61, 61] }), .string ({ data := #[33, 61] }), .string ({ data := #[60] }), .string ({ data := #[60, 61] }), .string ({ data := #[62] }), .string ({ data := #[62, 61] })]) ([{ data := #[61, 61] }, { data := #[33, 61] }, { data := #[60] }, { data := #[60, 61] }, { data := #[62] }, { data := #[62, 61] }] : List ByteArray) h_ sl_103 ti_9 rfl rfl rfl (by decide) rfl (by kernel_rfl) rfl (fun q hq w h => Flat.inner _ _) (fun q hq b hb => (Flat.on _ _ hb).elim) rfl rfl) rfl fun v15 => gE1 (fun _ _ h_ => x_lit (n := 2) (cs := [.string ({ data := #[43] }), .string ({ data := #[45] })]) ([{ data := #[43] }, { data := #[45] }] : List ByteArray) h_ sl_103 ti_9 rfl rfl rfl (by decide) rfl (by kernel_rfl) rfl (fun q hq w h => Flat.inner _ _) (fun q hq b hb => (Flat.on _ _ hb).elim) rfl rfl) rfl fun v16 => gE1 (fun _ _ h_ => x_lit (n := 1) (cs := [.string ({ data := #[42] })]) ([{ data := #[42] }] : List ByteArray) h_ sl_103 ti_9 rfl rfl rfl (by decide) rfl (by kernel_rfl) rfl (fun q hq w h => Flat.inner _ _) (fun q hq b hb => (Flat.on _ _ hb).elim) rfl rfl) rfl fun v17 => fun a25 w25 h25 => wl_ex (x_lit (n := 5) (cs := [v13, v14, v15, v16, v17]) ([⟨v13⟩, ⟨v14⟩, ⟨v15⟩, ⟨v16⟩, ⟨v17⟩] : List RV) h25 sl_144 ti_103 rfl rfl rfl (by decide) rfl (by obtain ⟨A29, n29, c29, (e29 : v13 = _)⟩ := ((h25.sh.own 4 rfl)).form; rw [e29]; obtain ⟨A28, n28, c28, (e28 : v14 = _)⟩ := ((h25.sh.own 3 rfl)).form; rw [e28]; obtain ⟨A27, n27, c27, (e27 : v15 = _)⟩ := ((h25.sh.own 2 rfl)).form; rw [e27]; obtain ⟨A26, n26, c26, (e26 : v16 = _)⟩ := ((h25.sh.own 1 rfl)).form; rw [e26]; obtain ⟨A24, n24, c24, (e24 : v17 = _)⟩ := ((h25.sh.own 0 rfl)).form; rw [e24]; kernel_rfl) rfl (fun _ _ _ _ => trivial) (fun q hq b hb => (Flat.on _ _ hb).elim) rfl rfl) (wanted_none rfl _) ?_; clear h10
 rintro a30 w30 ⟨v30, h30⟩
 have h31 := h30.sel (L' := [_, _, _, _, _, _]) [0, 5, 4, 3, 2, 1] rfl
 have h32 : St 7 (fun _ => False) W a30 w30 _ _ := ⟨h31.fr, (Sh.close (B := matX (.own 9) 103 v30 [(⟨v13, [{ data := #[124, 124] }]⟩ : Ls ByteArray), (⟨v14, [{ data := #[38, 38] }]⟩ : Ls ByteArray), (⟨v15, [{ data := #[61, 61] }, { data := #[33, 61] }, { data := #[60] }, { data := #[60, 61] }, { data := #[62] }, { data := #[62, 61] }]⟩ : Ls ByteArray), (⟨v16, [{ data := #[43] }, { data := #[45] }]⟩ : Ls ByteArray), (⟨v17, [{ data := #[42] }]⟩ : Ls ByteArray)]) h31.sh).matDeep own_mat⟩
 clear h31
 clear h25
 refine gG h32<|gRn (oM 1 rfl<|.nl)<|nK k12<|gR<|fun a33 w33 h33 => x_ret1 (fn := Tryz.f127) (t := 0) rfl h33 rfl ?_; clear h32
 exact ⟨(⟨v30, [(⟨v13, [{ data := #[124, 124] }]⟩ : Ls ByteArray), (⟨v14, [{ data := #[38, 38] }]⟩ : Ls ByteArray), (⟨v15, [{ data := #[61, 61] }, { data := #[33, 61] }, { data := #[60] }, { data := #[60, 61] }, { data := #[62] }, { data := #[62, 61] }]⟩ : Ls ByteArray), (⟨v16, [{ data := #[43] }, { data := #[45] }]⟩ : Ls ByteArray), (⟨v17, [{ data := #[42] }]⟩ : Ls ByteArray)]⟩ : Ls (Ls ByteArray)), rfl, rfl, h33.sh⟩

theorem pCas_c (K : Nat → Prop) (g : Nat) (X : TE) (tv nv : Value) (i d : Nat) (nl : List NdL) (f : Nat)  (W : World) (hS : Sh K W W [.blk g 49 [tv, .int .i64 X.e, .int .i64 ((i : Nat) : Int), .int .i64 ((d : Nat) : Int), nv], .deep 57 (⟨nv, nl⟩ : Ls NdL), .own 81 (⟨tv, X.T⟩ : Ls Tok)]) (hTl : X.T.length ≤ 4000) (hd : d ≤ 20) (hi : i ≤ X.T.length) (hnl : nl.length ≤ 2 * i) (ih : ∀ f', f' ≤ f → AllT X f') (hi2 : i < X.T.length) (hf : 20 * (X.T.length - i) ≤ f) :
    RetsP Tryz.prog 107 [.pointer (some ⟨g, 0, none⟩)] W (fun v w' => ∃ (kw : Value) (kk : List Int) (i' : Nat) (nv' : Value) (nl' : List NdL), casP X (parseP X f) ⟨i, d, nl.map NdL.nd⟩ = .ok (kk, ⟨i', d, nl'.map NdL.nd⟩) ∧ kw = v ∧ Sh K W w' [.blk g 49 [tv, .int .i64 X.e, .int .i64 ((i' : Nat) : Int), .int .i64 ((d : Nat) : Int), nv'], .deep 57 (⟨nv', nl'⟩ : Ls NdL), .own 81 (⟨tv, X.T⟩ : Ls Tok), .own 3 (⟨kw, kk⟩ : Ls Int)]) (fun x w' => ∃ c a : Int, casP X (parseP X f) ⟨i, d, nl.map NdL.nd⟩ = .error (c, a) ∧ x = wrongS c a ∧ Sh K W w' []) := by
 refine genP Tryz.func107 Tryz.ntmps107 hS rfl fun a10 h10 => gG h10<|sG (oM 1 rfl<|.nl)<|sK fun _ k12 => gRn (oM 1 rfl<|.nl)<|?_; clear h10
 have hl13 : i < X.T.length := (by first | assumption | exact isl_lt (by assumption) | exact kd_lt (by assumption))
 intro a15 w15 h15
 have hp14 := h15.sh.passL (Lp := [_, _, _])
 refine wl_ex (x_call h15 bd_70 rfl rfl rfl rfl rfl (pNext_c _ _ X tv nv i d nl _ hp14 hTl (by first | assumption | exact isl_lt (by assumption) | exact kd_lt (by assumption)))) (wanted_none rfl _) ?_
 rintro a16 w16 ⟨_, ⟨rfl, hs16⟩, hf16⟩
 have h16 : St _ K W a16 w16 _ [_, _, _] := ⟨hf16, h15.sh.backI (Lp := [_, _, _]) hs16⟩
 clear hf16 hs16
 clear h15
 refine gG h16<|nK k12<|sK fun _ k17 => gRn (oM 1 rfl<|.nl)<|fun a18 w18 h18 => ?_; clear h16
 have hp20 := h18.sh.passL (Lp := [_, _, _])
 refine wl_callP h18 bd_74 rfl rfl rfl rfl rfl (wanted_none rfl _) (pOpen_c _ _ X tv nv (i + 1) d nl _ hp20 hTl (by omega) ({ data := #[40] })) ?_ ?_
 ·rintro x9 w9 ⟨xc, xa, hrx, rfl, hs9⟩
  exact pnF (P := Tryz.prog) (fn := Tryz.f107) h18.fr ⟨xc, xa, (by simp only [stepP, asgP, andP, isT, lvT, ↓reduceIte, Bool.false_eq_true, eq_self, Nat.add_sub_cancel, List.cons_append, List.nil_append, casP, casR, hrx]), rfl, ((h18.sh.backI (Lp := [_, _, _]) hs9).sel [] rfl)⟩
 rintro a19 w19 ⟨_, ⟨y19, hr19, hi19, rfl, hs19⟩, hf19⟩
 have hl19 : (i + 1) < X.T.length := hi19
 have hd19 := open_d20 hr19
 have h19 : St _ K W a19 w19 _ [_, _, _] := ⟨hf19, h18.sh.backI (Lp := [_, _, _]) hs19⟩
 clear hf19 hs19 h18 hp20
 refine gG h19<|nK k17<|sK fun _ k21 => gRn (oM 1 rfl<|.nl)<|fun a22 w22 h22 => ?_; clear h19
 have hp24 := h22.sh.passL (Lp := [_, _, _])
 refine wl_callP h22 bd_71 rfl rfl rfl rfl rfl (wanted_none rfl _) (pName_c _ _ X tv nv ((i + 1) + 1) (d + 1) nl _ hp24 hTl) ?_ ?_
 ·rintro x9 w9 ⟨xc, xa, hrx, rfl, hs9⟩
  exact pnF (P := Tryz.prog) (fn := Tryz.f107) h22.fr ⟨xc, xa, (by simp only [stepP, asgP, andP, isT, lvT, ↓reduceIte, Bool.false_eq_true, eq_self, Nat.add_sub_cancel, List.cons_append, List.nil_append, casP, casR, hr19, hrx]), rfl, ((h22.sh.backI (Lp := [_, _, _]) hs9).sel [] rfl)⟩
 rintro a23 w23 ⟨_, ⟨y23, hr23, hi23, rfl, hs23⟩, hf23⟩
 have hl23 : ((i + 1) + 1) < X.T.length := hi23
 have h23 : St _ K W a23 w23 _ [_, _, _] := ⟨hf23, h22.sh.backI (Lp := [_, _, _]) hs23⟩
 clear hf23 hs23 h22 hp24
 refine gG h23<|gal ti_81 rfl fun b25 => gsw 0 ti_81 rfl rfl rfl<|nK k21<|sK fun _ k27 => gRn (oM 1 rfl<|ofB fl_81_2 rfl<|olB 0 ti_3 rfl rfl<|ofB fl_81_3 rfl<|olB 0 ti_9 rfl rfl<|.nl)<|fun a30 w30 h30 => ?_; clear h23
 have h29 := h30.nil (α := Int) 3
 clear h30
 have h31 := h29.sel (L' := [_, _, _, _, _]) [2, 3, 4, 0, 1] rfl
 have hp32 := h31.sh.passL (Lp := [_, _, _, _])
 refine wl_ex (x_call h31 bd_37 rfl rfl rfl rfl rfl (pPut_c _ _ X tv nv (((i + 1) + 1) + 1) (d + 1) nl _ 16 y23.a 0 y23.t (⟨.slice none 0 0, []⟩ : Ls Int) hp32 (by first | omega | (simp only [lens9]; omega)))) (wanted_none rfl _) ?_
 rintro a33 w33 ⟨_, ⟨nv33, rfl, hs33⟩, hf33⟩
 have hr33 : putP (⟨16, 0, y23.a, y23.t, []⟩ : Nd) ⟨(((i + 1) + 1) + 1), (d + 1), nl.map NdL.nd⟩ = .ok (((nl.length : Nat) : Int), ⟨(((i + 1) + 1) + 1), (d + 1), (nl ++ [(⟨16, 0, y23.a, y23.t, (⟨.slice none 0 0, []⟩ : Ls Int)⟩ : NdL)]).map NdL.nd⟩) := put_eq (x := (⟨16, 0, y23.a, y23.t, (⟨.slice none 0 0, []⟩ : Ls Int)⟩ : NdL))
 have h33 : St _ K W a33 w33 _ [_, _, _, _] := ⟨hf33, h31.sh.backI (Lp := [_, _, _, _]) hs33⟩
 clear hf33 hs33
 clear h31
 refine gG h33<|gE1 (fun _ _ h_ => x_lit (n := 1) (cs := [.int .i64 ((nl.length : Nat) : Int)]) ([((nl.length : Nat) : Int)] : List Int) h_ sl_30 ti_3 rfl rfl rfl (by decide) rfl (by kernel_rfl) rfl (fun q hq w h => Flat.inner _ _) (fun q hq b hb => (Flat.on _ _ hb).elim) rfl rfl) rfl fun v34 => gRn (oM 1 rfl<|.nl)<|nK k27<|gK fun _ k35 => sG (oM 1 rfl<|.nl)<|gB<|?_; clear h33
 have hb9 : casP X (parseP X f) ⟨i, d, nl.map NdL.nd⟩ = casR X (parseP X f) 2 [((nl.length : Nat) : Int)] ⟨(((i + 1) + 1) + 1), (d + 1), (nl ++ [(⟨16, 0, y23.a, y23.t, (⟨.slice none 0 0, []⟩ : Ls Int)⟩ : NdL)]).map NdL.nd⟩ := by simp only [casP, stepP, asgP, andP, isT, lvT, ↓reduceIte, Bool.false_eq_true, eq_self, Nat.add_sub_cancel, List.cons_append, List.nil_append, hr19, hr23, hr33]
 intro a38 w38 h38
 refine x_loop (fun m a w => ∃ (q : Nat) (kv : Value) (kl : List Int) (i2 : Nat) (nv2 : Value) (nl2 : List NdL), (q ≤ 2 ∧ i < i2 ∧ i2 ≤ X.T.length ∧ nl2.length ≤ 2 * i2 ∧ kl.length ≤ 10 + q) ∧ (casP X (parseP X f) ⟨i, d, nl.map NdL.nd⟩ = casR X (parseP X f) (2 - q) kl ⟨i2, (d + 1), nl2.map NdL.nd⟩) ∧ St 31 K W a w [(0, .pointer (some ⟨g, 0, none⟩)), (4, kv), (18, .int .i64 ((q : Nat) : Int))] [.own 3 (⟨kv, kl⟩ : Ls Int), .blk g 49 [tv, .int .i64 X.e, .int .i64 ((i2 : Nat) : Int), .int .i64 (((d + 1) : Nat) : Int), nv2], .deep 57 (⟨nv2, nl2⟩ : Ls NdL), .own 81 (⟨tv, X.T⟩ : Ls Tok)] ∧ m = 2 - q) ⟨_, 0, _, _, (((i + 1) + 1) + 1), nv33, (nl ++ [(⟨16, 0, y23.a, y23.t, (⟨.slice none 0 0, []⟩ : Ls Int)⟩ : NdL)]), (⟨by omega, by omega, by omega, by simp only [lens9]; omega, by simp only [lens9]; omega⟩), (hb9), h38.nrm ⟨rfl, rfl, rfl, trivial⟩ [0, 1, 2, 3] rfl, rfl⟩ ?_
 clear h38
 rintro m37 a37 w37 ⟨q, kv, kl, i2, nv2, nl2, hk2, hrel, h37, hm37⟩
 refine gG h37<|sG (oltN _ 2 rfl<|.nl)<|gK fun _ k40 => gcd rfl (fun hb41 hp41 => ?_) fun hb41 hp41 => ?_; clear h37
 ·skip
  refine gS<|hK k40<|gK fun _ k42 => gB<|sK fun _ k43 => gRn (oM 1 rfl<|.nl)<|fun a44 w44 h44 => ?_
  have h46 := h44.sel (L' := [_, _, _, _]) [1, 2, 3, 0] rfl
  have hp47 := h46.sh.passL (Lp := [_, _, _])
  refine wl_callP h46 bd_36 rfl rfl rfl rfl rfl (wanted_none rfl _) (pTake_c _ _ X tv nv2 i2 (d + 1) nl2 _ hp47 hTl ({ data := #[44] })) ?_ ?_
  ·rintro x9 w9 ⟨xc, xa, hrx, rfl, hs9⟩
   exact pnF (P := Tryz.prog) (fn := Tryz.f107) h46.fr ⟨xc, xa, (hrel.trans (by rw [show 2 - q = (2 - (q + 1)) + 1 by omega]; simp only [stepP, asgP, andP, isT, lvT, ↓reduceIte, Bool.false_eq_true, eq_self, Nat.add_sub_cancel, List.cons_append, List.nil_append, casP, casR, hrx])), rfl, ((h46.sh.backI (Lp := [_, _, _]) hs9).sel [] rfl)⟩
  rintro a45 w45 ⟨_, ⟨y45, hr45, hi45, rfl, hs45⟩, hf45⟩
  have hl45 : i2 < X.T.length := hi45
  have h45 : St _ K W a45 w45 _ [_, _, _, _] := ⟨hf45, h46.sh.backI (Lp := [_, _, _]) hs45⟩
  clear hf45 hs45 h46 hp47
  refine gG h45<|nK k43<|gL<|gRn (oM 2 rfl<|.nl)<|fun a48 w48 h48 => ?_; clear h45
  have hp50 := h48.sh.passL (Lp := [_, _, _])
  refine wl_callP h48 bd_105 rfl rfl rfl rfl rfl (wanted_none rfl _) ((ih f (by omega)).ex 0 (by omega) _ _ tv nv2 (i2 + 1) (d + 1) nl2 _ hp50 hTl (by omega) (by omega) (by first | omega | (simp only [lens9]; omega)) (show 20 * (X.T.length - (i2 + 1)) + (3 + (5 - 0)) ≤ f by omega)) ?_ ?_
  ·rintro x9 w9 ⟨xc, xa, hrx, rfl, hs9⟩
   exact pnF (P := Tryz.prog) (fn := Tryz.f107) h48.fr ⟨xc, xa, (hrel.trans (by rw [show 2 - q = (2 - (q + 1)) + 1 by omega]; simp only [stepP, asgP, andP, isT, lvT, ↓reduceIte, Bool.false_eq_true, eq_self, Nat.add_sub_cancel, List.cons_append, List.nil_append, casP, casR, hr45, hrx])), rfl, ((h48.sh.backI (Lp := [_, _, _]) hs9).sel [] rfl)⟩
  rintro a49 w49 ⟨_, ⟨y49, i49, nv49, nl49, hr49, rfl, hs49⟩, hf49⟩
  have hv49 := adv_parse (X := X) f (.expr 0) ⟨(i2 + 1), (d + 1), nl2.map NdL.nd⟩ (fun h => by cases h) _ _ hr49; simp only [minT, dT, qT, List.length_map] at hv49
  have h49 : St _ K W a49 w49 _ [_, _, _, _] := ⟨hf49, h48.sh.backI (Lp := [_, _, _]) hs49⟩
  clear hf49 hs49 h48 hp50
  refine gG h49<|gE1 (fun _ _ h_ => x_lit (n := 1) (cs := [.int .i64 y49]) ([y49] : List Int) h_ sl_30 ti_3 rfl rfl rfl (by decide) rfl (by kernel_rfl) rfl (fun q hq w h => Flat.inner _ _) (fun q hq b hb => (Flat.on _ _ hb).elim) rfl rfl) rfl fun v51 => gE1 (fun _ _ h_ => x_app (r := 4) (rm := 0) (s := (⟨kv, kl⟩ : Ls Int)) (m := (⟨v51, [y49]⟩ : Ls Int)) h_ sl_30 ti_3 rfl rfl rfl rfl rfl rfl rfl (fun w h => (h.own 0 rfl)) (fun b hb => own_on (h_.sh.ok _ (List.mem_of_getElem? (i := 0) rfl)) hb) (fun q hq b hb => ⟨q, hq, hb⟩) rfl rfl rfl inferInstance (show (kl.length + ([y49]).length) * 8 ≤ 140737488355328 ∧ kl.length + ([y49]).length ≤ 140737488355328 from om9) rfl rfl) rfl fun v52 => gRn (oM 1 rfl<|.nl)<|nK k42<|gL<|gRn (oadN _ 1 om9 rfl<|oM 1 rfl<|.nl)<|nN<|fun a53 w53 h53 => x_again ⟨_, ?_, q + 1, _, _, i49, nv49, nl49, ?_, ?_, h53.nrm ⟨rfl, rfl, rfl, trivial⟩ [4, 1, 2, 3] rfl, rfl⟩; clear h49
  · rw [hm37]; first | omega | (simp only [lens9]; omega)
  · refine ⟨by omega, by omega, by omega, by first | omega | (simp only [lens9]; omega), by simp only [lens9]; omega⟩
  · exact (hrel.trans (by rw [show 2 - q = (2 - (q + 1)) + 1 by omega]; simp only [stepP, asgP, andP, isT, lvT, ↓reduceIte, Bool.false_eq_true, eq_self, Nat.add_sub_cancel, List.cons_append, List.nil_append, casP, casR, hr45, hr49]))
 refine gX<|hK k35<|sK fun _ k54 => gRn (oM 1 rfl<|.nl)<|fun a55 w55 h55 => ?_
 have h57 := h55.sel (L' := [_, _, _, _]) [1, 2, 3, 0] rfl
 have hp58 := h57.sh.passL (Lp := [_, _, _])
 refine wl_callP h57 bd_76 rfl rfl rfl rfl rfl (wanted_none rfl _) (pShut_c _ _ X tv nv2 i2 (d + 1) nl2 _ hp58 hTl (by omega) ({ data := #[41] })) ?_ ?_
 ·rintro x9 w9 ⟨xc, xa, hrx, rfl, hs9⟩
  exact pnF (P := Tryz.prog) (fn := Tryz.f107) h57.fr ⟨xc, xa, (hrel.trans (by rw [show 2 - q = 0 by omega]; simp only [stepP, asgP, andP, isT, lvT, ↓reduceIte, Bool.false_eq_true, eq_self, Nat.add_sub_cancel, List.cons_append, List.nil_append, casP, casR, hrx])), rfl, ((h57.sh.backI (Lp := [_, _, _]) hs9).sel [] rfl)⟩
 rintro a56 w56 ⟨_, ⟨y56, hr56, hi56, rfl, hs56⟩, hf56⟩
 have hl56 : i2 < X.T.length := hi56
 have h56 : St _ K W a56 w56 _ [_, _, _, _] := ⟨hf56, h57.sh.backI (Lp := [_, _, _]) hs56⟩
 clear hf56 hs56 h57 hp58
 refine gG h56<|nK k54<|sG (oM 2 rfl<|.nl)<|gR<|fun a60 w60 h60 => rP <| x_ret1 (fn := Tryz.f107) (t := 2) rfl h60 rfl <| ⟨_, kl, (i2 + 1), nv2, nl2, ?_, rfl, h60.sh⟩; clear h56
 exact (hrel.trans (by rw [show 2 - q = 0 by omega]; simp only [stepP, asgP, andP, isT, lvT, ↓reduceIte, Bool.false_eq_true, eq_self, Nat.add_sub_cancel, List.cons_append, List.nil_append, casP, casR, hr56]))

theorem pExpr_c (K : Nat → Prop) (g : Nat) (X : TE) (tv nv : Value) (i d : Nat) (nl : List NdL) (f : Nat)  (W : World) (k : Nat) (hk : k ≤ 5) (hS : Sh K W W [.blk g 49 [tv, .int .i64 X.e, .int .i64 ((i : Nat) : Int), .int .i64 ((d : Nat) : Int), nv], .deep 57 (⟨nv, nl⟩ : Ls NdL), .own 81 (⟨tv, X.T⟩ : Ls Tok)]) (hTl : X.T.length ≤ 4000) (hd : d ≤ 20) (hi : i ≤ X.T.length) (hnl : nl.length ≤ 2 * i) (ih : ∀ f', f' ≤ f → AllT X f') (hf : 20 * (X.T.length - i) + (3 + (5 - k)) ≤ f + 1) :
    RetsP Tryz.prog 105 [.pointer (some ⟨g, 0, none⟩), .int .i64 ((k : Nat) : Int)] W (fun v w' => ∃ (a : Int) (i' : Nat) (nv' : Value) (nl' : List NdL), parseP X (f + 1) (.expr k) ⟨i, d, nl.map NdL.nd⟩ = .ok (a, ⟨i', d, nl'.map NdL.nd⟩) ∧ v = .int .i64 a ∧ Sh K W w' [.blk g 49 [tv, .int .i64 X.e, .int .i64 ((i' : Nat) : Int), .int .i64 ((d : Nat) : Int), nv'], .deep 57 (⟨nv', nl'⟩ : Ls NdL), .own 81 (⟨tv, X.T⟩ : Ls Tok)]) (fun x w' => ∃ c a : Int, parseP X (f + 1) (.expr k) ⟨i, d, nl.map NdL.nd⟩ = .error (c, a) ∧ x = wrongS c a ∧ Sh K W w' []) := by
 refine genP Tryz.func105 Tryz.ntmps105 hS rfl fun a10 h10 => gG h10<|sG (oM 1 rfl<|.nl)<|sK fun _ k12 => gC (fun _ _ h_ => xCl h_ bd_127 rfl (levels_c _)) rfl<|?_; clear h10
 rintro _ _ w13 ⟨lv13, rfl, hlv13, hs13⟩
 refine gWk hs13 rfl<|gU<|gRn (oM 1 rfl<|.nl)<|nK k12<|gK fun _ k14 => sK fun _ k15 => gNl (aD 0 rfl) fun hl16 => gRn (oM 2 rfl<|oln sl_144 (aD 0 rfl) rfl<|oeqN _ _ rfl<|.nl)<|nK k15<|?_; clear hs13
 refine gcd rfl (fun hb17 hp17 => ?_) fun hb17 hp17 => ?_
 ·skip
  have hk9 : k = 5 := (by have := lv_len hlv13; omega)
  refine sK fun _ k18 => gRn (oM 1 rfl<|.nl)<|fun a19 w19 h19 => ?_
  have h21 := h19.sel (L' := [_, _, _, _]) [1, 2, 3, 0] rfl
  have hp22 := h21.sh.passL (Lp := [_, _, _])
  refine wl_callP h21 bd_128 rfl rfl rfl rfl rfl (wanted_none rfl _) ((ih f (by omega)).un _ _ tv nv i d nl _ hp22 hTl (by omega) (by omega) (by first | omega | (simp only [lens9]; omega)) (show 20 * (X.T.length - i) + 2 ≤ f by omega)) ?_ ?_
  ·rintro x9 w9 ⟨xc, xa, hrx, rfl, hs9⟩
   exact pnF (P := Tryz.prog) (fn := Tryz.f105) h21.fr ⟨xc, xa, (by show stepP X _ _ _ = _; simp only [stepP, asgP, andP, isT, lvT, ↓reduceIte, Bool.false_eq_true, eq_self, Nat.add_sub_cancel, List.cons_append, List.nil_append, hrx, hk9]), rfl, ((h21.sh.backI (Lp := [_, _, _]) hs9).sel [] rfl)⟩
  rintro a20 w20 ⟨_, ⟨y20, i20, nv20, nl20, hr20, rfl, hs20⟩, hf20⟩
  have hv20 := adv_parse (X := X) f .unary ⟨i, d, nl.map NdL.nd⟩ (fun h => by cases h) _ _ hr20; simp only [minT, dT, qT, List.length_map] at hv20
  have h20 : St _ K W a20 w20 _ [_, _, _, _] := ⟨hf20, h21.sh.backI (Lp := [_, _, _]) hs20⟩
  clear hf20 hs20 h21 hp22
  refine gG h20<|gRn (oM 1 rfl<|.nl)<|nK k18<|gR<|uT<|fun a23 w23 h23 => rP <| x_ret1 (fn := Tryz.f105) (t := 4) rfl h23 rfl <| ⟨y20, i20, nv20, nl20, ?_, rfl, (h23.sh.sel [0, 1, 2] rfl)⟩; clear h20
  exact (by show stepP X _ _ _ = _; simp only [stepP, asgP, andP, isT, lvT, ↓reduceIte, Bool.false_eq_true, eq_self, Nat.add_sub_cancel, List.cons_append, List.nil_append, hr20, hk9])
 have hk9 : ¬ k = 5 := (by have := lv_len hlv13; omega)
 have hk5 : k < 5 := (by omega)
 have hlk := lv_nth hlv13 hk5
 have hk8 := lv_len hlv13
 refine gS<|hK k14<|sK fun _ k24 => gRn (oM 2 rfl<|oadN _ 1 om9 rfl<|.nl)<|fun a25 w25 h25 => ?_
 have h27 := h25.sel (L' := [_, _, _, _]) [1, 2, 3, 0] rfl
 have hp28 := h27.sh.passL (Lp := [_, _, _])
 refine wl_callP h27 bd_105 rfl rfl rfl rfl rfl (wanted_none rfl _) ((ih f (by omega)).ex (k + 1) (by omega) _ _ tv nv i d nl _ hp28 hTl (by omega) (by omega) (by first | omega | (simp only [lens9]; omega)) (show 20 * (X.T.length - i) + (3 + (5 - (k + 1))) ≤ f by omega)) ?_ ?_
 ·rintro x9 w9 ⟨xc, xa, hrx, rfl, hs9⟩
  exact pnF (P := Tryz.prog) (fn := Tryz.f105) h27.fr ⟨xc, xa, (by show stepP X _ _ _ = _; simp only [stepP, asgP, andP, isT, lvT, ↓reduceIte, Bool.false_eq_true, eq_self, Nat.add_sub_cancel, List.cons_append, List.nil_append, hrx, hk9]), rfl, ((h27.sh.backI (Lp := [_, _, _]) hs9).sel [] rfl)⟩
 rintro a26 w26 ⟨_, ⟨y26, i26, nv26, nl26, hr26, rfl, hs26⟩, hf26⟩
 have hv26 := adv_parse (X := X) f (.expr (k + 1)) ⟨i, d, nl.map NdL.nd⟩ (fun h => by cases h) _ _ hr26; simp only [minT, dT, qT, List.length_map] at hv26
 have h26 : St _ K W a26 w26 _ [_, _, _, _] := ⟨hf26, h27.sh.backI (Lp := [_, _, _]) hs26⟩
 clear hf26 hs26 h27 hp28
 refine gG h26<|gRn (oM 1 rfl<|.nl)<|nK k24<|gK fun _ k29 => gB<|?_; clear h26
 have hb9 : parseP X (f + 1) (.expr k) ⟨i, d, nl.map NdL.nd⟩ = parseP X f (.bin k y26) ⟨i26, d, nl26.map NdL.nd⟩ := by show stepP X _ _ _ = _; simp only [stepP, asgP, andP, isT, lvT, ↓reduceIte, Bool.false_eq_true, eq_self, Nat.add_sub_cancel, List.cons_append, List.nil_append, hk9, ↓reduceIte, hr26]
 intro a31 w31 h31
 refine x_loop (fun m a w => ∃ (f2 : Nat) (lf : Int) (i2 : Nat) (nv2 : Value) (nl2 : List NdL), (f2 ≤ f ∧ 20 * (X.T.length - i2) + 1 ≤ f2 ∧ i2 ≤ X.T.length ∧ nl2.length ≤ 2 * i2) ∧ (parseP X (f + 1) (.expr k) ⟨i, d, nl.map NdL.nd⟩ = parseP X f2 (.bin k lf) ⟨i2, d, nl2.map NdL.nd⟩) ∧ St 42 K W a w [(0, .pointer (some ⟨g, 0, none⟩)), (1, .int .i64 ((k : Nat) : Int)), (5, lv13.v), (6, .int .i64 lf)] [.blk g 49 [tv, .int .i64 X.e, .int .i64 ((i2 : Nat) : Int), .int .i64 ((d : Nat) : Int), nv2], .deep 57 (⟨nv2, nl2⟩ : Ls NdL), .own 81 (⟨tv, X.T⟩ : Ls Tok), .deep 103 lv13] ∧ m = f2) ⟨_, f, y26, i26, nv26, nl26, (⟨by omega, by omega, by omega, by omega⟩), (hb9), h31.nf ⟨rfl, rfl, rfl, rfl, trivial⟩, rfl⟩ ?_
 clear h31
 rintro m30 a30 w30 ⟨f2, lf, i2, nv2, nl2, hk2, hrel, h30, hm30⟩
 obtain ⟨f3, rfl⟩ : ∃ f3, f2 = f3 + 1 := ⟨f2 - 1, by omega⟩
 refine gG h30<|gK fun _ k32 => sK fun _ k33 => gRn (oM 3 rfl<|oxN sl_144 ti_103 (aD 3 rfl) _ om9 rfl<|olE ((nth lv13.l k).v) ti_103 (aD 3 rfl) om9 rfl<|.nl)<|gP (fun _ _ h_ => xCl h_ bd_34 rfl (pIs_c g _ _ _ _ i2 _ (h_.sh.blk 0 rfl) (h_.sh.own 2 rfl) (nth lv13.l k) ((h_.sh.deep 3 rfl).nth k (show k < lv13.l.length from (by omega))) (by rw [hlk]; exact lev_le hk5))) rfl<|nK k33<|?_; clear h30
 refine gCb rfl (fun hb35 => ?_) fun hb35 => ?_
 ·skip
  have hc36 : isL X i2 (nth levL k) = true := (by rw [← hlk]; assumption)
  refine gS<|hK k32<|gB<|sK fun _ k37 => gRn (oM 1 rfl<|.nl)<|?_
  have hl38 : i2 < X.T.length := (by first | assumption | exact isl_lt (by assumption) | exact kd_lt (by assumption))
  intro a40 w40 h40
  have hp39 := h40.sh.passL (Lp := [_, _, _])
  refine wl_ex (x_call h40 bd_70 rfl rfl rfl rfl rfl (pNext_c _ _ X tv nv2 i2 d nl2 _ hp39 hTl (by first | assumption | exact isl_lt (by assumption) | exact kd_lt (by assumption)))) (wanted_none rfl _) ?_
  rintro a41 w41 ⟨_, ⟨rfl, hs41⟩, hf41⟩
  have h41 : St _ K W a41 w41 _ [_, _, _, _] := ⟨hf41, h40.sh.backI (Lp := [_, _, _]) hs41⟩
  clear hf41 hs41
  clear h40
  refine gG h41<|gal ti_81 rfl fun b42 => gsw 0 ti_81 rfl rfl rfl<|nK k37<|sK fun _ k44 => gRn (oM 2 rfl<|oadN _ 1 om9 rfl<|.nl)<|fun a45 w45 h45 => ?_; clear h41
  have h47 := h45.sel (L' := [_, _, _, _, _]) [1, 2, 3, 0, 4] rfl
  have hp48 := h47.sh.passL (Lp := [_, _, _])
  refine wl_callP h47 bd_105 rfl rfl rfl rfl rfl (wanted_none rfl _) ((ih f3 (by omega)).ex (k + 1) (by omega) _ _ tv nv2 (i2 + 1) d nl2 _ hp48 hTl (by omega) (by omega) (by first | omega | (simp only [lens9]; omega)) (show 20 * (X.T.length - (i2 + 1)) + (3 + (5 - (k + 1))) ≤ f3 by omega)) ?_ ?_
  ·rintro x9 w9 ⟨xc, xa, hrx, rfl, hs9⟩
   exact pnF (P := Tryz.prog) (fn := Tryz.f105) h47.fr ⟨xc, xa, (hrel.trans (by show stepP X (parseP X f3) (.bin k lf) _ = _; simp only [stepP, asgP, andP, isT, lvT, ↓reduceIte, Bool.false_eq_true, eq_self, Nat.add_sub_cancel, List.cons_append, List.nil_append, hrx, hc36])), rfl, ((h47.sh.backI (Lp := [_, _, _]) hs9).sel [] rfl)⟩
  rintro a46 w46 ⟨_, ⟨y46, i46, nv46, nl46, hr46, rfl, hs46⟩, hf46⟩
  have hv46 := adv_parse (X := X) f3 (.expr (k + 1)) ⟨(i2 + 1), d, nl2.map NdL.nd⟩ (fun h => by cases h) _ _ hr46; simp only [minT, dT, qT, List.length_map] at hv46
  have h46 : St _ K W a46 w46 _ [_, _, _, _, _] := ⟨hf46, h47.sh.backI (Lp := [_, _, _]) hs46⟩
  clear hf46 hs46 h47 hp48
  refine gG h46<|gRn (oM 1 rfl<|.nl)<|nK k44<|gL<|gRn (oM 1 rfl<|ofB fl_81_2 rfl<|olB 3 ti_3 rfl rfl<|ofB fl_81_3 rfl<|olB 3 ti_9 rfl rfl<|oM 2 rfl<|.nl)<|gE1 (fun _ _ h_ => x_lit (n := 2) (cs := [.int .i64 lf, .int .i64 y46]) ([lf, y46] : List Int) h_ sl_30 ti_3 rfl rfl rfl (by decide) rfl (by kernel_rfl) rfl (fun q hq w h => Flat.inner _ _) (fun q hq b hb => (Flat.on _ _ hb).elim) rfl rfl) rfl fun v49 => gO [1, 2, 3, 0, 4, 5] rfl<|fun a55 w55 h55 => ?_; clear h46
  have hp54 := h55.sh.passL (Lp := [_, _, _, _])
  refine wl_ex (x_call h55 bd_37 rfl rfl rfl rfl rfl (pPut_c _ _ X tv nv46 i46 d nl46 _ 19 ((nth X.T i2).a) 0 ((nth X.T i2).t) (⟨v49, [lf, y46]⟩ : Ls Int) hp54 (by first | omega | (simp only [lens9]; omega)))) (wanted_none rfl _) ?_
  rintro a56 w56 ⟨_, ⟨nv56, rfl, hs56⟩, hf56⟩
  have hr56 : putP (⟨19, 0, (nth X.T i2).a, (nth X.T i2).t, [lf, y46]⟩ : Nd) ⟨i46, d, nl46.map NdL.nd⟩ = .ok (((nl46.length : Nat) : Int), ⟨i46, d, (nl46 ++ [(⟨19, 0, (nth X.T i2).a, (nth X.T i2).t, (⟨v49, [lf, y46]⟩ : Ls Int)⟩ : NdL)]).map NdL.nd⟩) := put_eq (x := (⟨19, 0, (nth X.T i2).a, (nth X.T i2).t, (⟨v49, [lf, y46]⟩ : Ls Int)⟩ : NdL))
  have h56 : St _ K W a56 w56 _ [_, _, _, _, _] := ⟨hf56, h55.sh.backI (Lp := [_, _, _, _]) hs56⟩
  clear hf56 hs56
  clear h55
  refine gG h56<|gRn (oM 1 rfl<|.nl)<|nN<|fun a57 w57 h57 => ?_; clear h56
  change ∃ _m, _m < _ ∧ _
  refine ⟨_, ?_, f3, ((nl46.length : Nat) : Int), i46, nv56, (nl46 ++ [(⟨19, 0, (nth X.T i2).a, (nth X.T i2).t, (⟨v49, [lf, y46]⟩ : Ls Int)⟩ : NdL)]), ?_, ?_, h57.nrm ⟨rfl, rfl, rfl, rfl, trivial⟩ [0, 1, 2, 4] rfl, rfl⟩
  · rw [hm30]; first | omega | (simp only [lens9]; omega)
  · refine ⟨by omega, by omega, by omega, by first | omega | (simp only [lens9]; omega)⟩
  · exact (hrel.trans (by show stepP X (parseP X f3) (.bin k lf) _ = _; simp only [stepP, asgP, andP, isT, lvT, ↓reduceIte, Bool.false_eq_true, eq_self, Nat.add_sub_cancel, List.cons_append, List.nil_append, hr46, hr56, hc36]))
 have hc58 : isL X i2 (nth levL k) = false := (by rw [← hlk]; assumption)
 refine gX<|hK k29<|sG (oM 2 rfl<|.nl)<|gR<|fun a60 w60 h60 => rP <| x_ret1 (fn := Tryz.f105) (t := 4) rfl h60 rfl <| ⟨lf, i2, nv2, nl2, ?_, rfl, (h60.sh.sel [0, 1, 2] rfl)⟩
 exact (hrel.trans (by show stepP X (parseP X f3) (.bin k lf) _ = _; simp only [stepP, asgP, andP, isT, lvT, ↓reduceIte, Bool.false_eq_true, eq_self, Nat.add_sub_cancel, List.cons_append, List.nil_append, hc58]))

theorem pUnary_c (K : Nat → Prop) (g : Nat) (X : TE) (tv nv : Value) (i d : Nat) (nl : List NdL) (f : Nat)  (W : World) (hS : Sh K W W [.blk g 49 [tv, .int .i64 X.e, .int .i64 ((i : Nat) : Int), .int .i64 ((d : Nat) : Int), nv], .deep 57 (⟨nv, nl⟩ : Ls NdL), .own 81 (⟨tv, X.T⟩ : Ls Tok)]) (hTl : X.T.length ≤ 4000) (hd : d ≤ 20) (hi : i ≤ X.T.length) (hnl : nl.length ≤ 2 * i) (ih : ∀ f', f' ≤ f → AllT X f') (hf : 20 * (X.T.length - i) + 2 ≤ f + 1) :
    RetsP Tryz.prog 128 [.pointer (some ⟨g, 0, none⟩)] W (fun v w' => ∃ (a : Int) (i' : Nat) (nv' : Value) (nl' : List NdL), parseP X (f + 1) .unary ⟨i, d, nl.map NdL.nd⟩ = .ok (a, ⟨i', d, nl'.map NdL.nd⟩) ∧ v = .int .i64 a ∧ Sh K W w' [.blk g 49 [tv, .int .i64 X.e, .int .i64 ((i' : Nat) : Int), .int .i64 ((d : Nat) : Int), nv'], .deep 57 (⟨nv', nl'⟩ : Ls NdL), .own 81 (⟨tv, X.T⟩ : Ls Tok)]) (fun x w' => ∃ c a : Int, parseP X (f + 1) .unary ⟨i, d, nl.map NdL.nd⟩ = .error (c, a) ∧ x = wrongS c a ∧ Sh K W w' []) := by
 refine genP Tryz.func128 Tryz.ntmps128 hS rfl fun a10 h10 => gG h10<|sG (oM 1 rfl<|.nl)<|sK fun _ k12 => gRn (oM 1 rfl<|.nl)<|gP (fun _ _ h_ => xCl h_ bd_104 rfl (pAt_c g _ _ _ _ i _ (h_.sh.blk 0 rfl) (h_.sh.own 2 rfl))) rfl<|gRn (oM 1 rfl<|.nl)<|nK k12<|gK fun _ k14 => gB<|sK fun _ k15 => gRn (oM 1 rfl<|.nl)<|gE1 (fun _ _ h_ => x_lit (n := 2) (cs := [.string ({ data := #[45] }), .string ({ data := #[33] })]) ([{ data := #[45] }, { data := #[33] }] : List ByteArray) h_ sl_103 ti_9 rfl rfl rfl (by decide) rfl (by kernel_rfl) rfl (fun q hq w h => Flat.inner _ _) (fun q hq b hb => (Flat.on _ _ hb).elim) rfl rfl) rfl fun v16 => gP (fun _ _ h_ => xCl h_ bd_34 rfl (pIs_c g _ _ _ _ i _ (h_.sh.blk 1 rfl) (h_.sh.own 3 rfl) (⟨v16, [{ data := #[45] }, { data := #[33] }]⟩ : Ls ByteArray) (h_.sh.own 0 rfl) (by first | exact Nat.le_of_ble_eq_true rfl | omega))) rfl<|gRn (oM 1 rfl<|.nl)<|nK k15<|?_; clear h10
 refine gCb rfl (fun hb18 => ?_) fun hb18 => ?_
 ·skip
  have hc19 : isL X i ([{ data := #[45] }, { data := #[33] }]) = true := (by assumption)
  have hl19 := isl_lt hc19
  refine gK fun _ k20 => gNl (aO 3 rfl) fun (hl21 : X.T.length ≤ 140737488355328) => rQ (oM 1 rfl<|onfl 1 fl_49_0 ti_42 rfl rfl<|oM 1 rfl<|onfl 1 fl_49_2 ti_3 rfl rfl<|oxN sl_42 ti_81 (aO 3 rfl) _ om9 rfl<|ofE fl_81_3 rfl<|olE (.string ((nth X.T i).t)) ti_9 (aO 3 rfl) om9 rfl<|oM 1 rfl<|.nl)<|hK k20<|sK fun _ k22 => gRn (oM 2 rfl<|.nl)<|fun a23 w23 h23 => ?_
  have h25 := h23.sel (L' := [_, _, _, _]) [1, 2, 3, 0] rfl
  have hp26 := h25.sh.passL (Lp := [_, _, _])
  refine wl_callP h25 bd_74 rfl rfl rfl rfl rfl (wanted_none rfl _) (pOpen_c _ _ X tv nv i d nl _ hp26 hTl (by omega) ((nth X.T i).t)) ?_ ?_
  ·rintro x9 w9 ⟨xc, xa, hrx, rfl, hs9⟩
   exact pnF (P := Tryz.prog) (fn := Tryz.f128) h25.fr ⟨xc, xa, (by show stepP X _ _ _ = _; simp only [stepP, asgP, andP, isT, lvT, ↓reduceIte, Bool.false_eq_true, eq_self, Nat.add_sub_cancel, List.cons_append, List.nil_append, hrx, hc19]), rfl, ((h25.sh.backI (Lp := [_, _, _]) hs9).sel [] rfl)⟩
  rintro a24 w24 ⟨_, ⟨y24, hr24, hi24, rfl, hs24⟩, hf24⟩
  have hl24 : i < X.T.length := hi24
  have hd24 := open_d20 hr24
  have h24 : St _ K W a24 w24 _ [_, _, _, _] := ⟨hf24, h25.sh.backI (Lp := [_, _, _]) hs24⟩
  clear hf24 hs24 h25 hp26
  refine gG h24<|nK k22<|sK fun _ k27 => gRn (oM 1 rfl<|.nl)<|fun a28 w28 h28 => ?_; clear h24
  have hp30 := h28.sh.passL (Lp := [_, _, _])
  refine wl_callP h28 bd_128 rfl rfl rfl rfl rfl (wanted_none rfl _) ((ih f (by omega)).un _ _ tv nv (i + 1) (d + 1) nl _ hp30 hTl (by omega) (by omega) (by first | omega | (simp only [lens9]; omega)) (show 20 * (X.T.length - (i + 1)) + 2 ≤ f by omega)) ?_ ?_
  ·rintro x9 w9 ⟨xc, xa, hrx, rfl, hs9⟩
   exact pnF (P := Tryz.prog) (fn := Tryz.f128) h28.fr ⟨xc, xa, (by show stepP X _ _ _ = _; simp only [stepP, asgP, andP, isT, lvT, ↓reduceIte, Bool.false_eq_true, eq_self, Nat.add_sub_cancel, List.cons_append, List.nil_append, hr24, hrx, hc19]), rfl, ((h28.sh.backI (Lp := [_, _, _]) hs9).sel [] rfl)⟩
  rintro a29 w29 ⟨_, ⟨y29, i29, nv29, nl29, hr29, rfl, hs29⟩, hf29⟩
  have hv29 := adv_parse (X := X) f .unary ⟨(i + 1), (d + 1), nl.map NdL.nd⟩ (fun h => by cases h) _ _ hr29; simp only [minT, dT, qT, List.length_map] at hv29
  have h29 : St _ K W a29 w29 _ [_, _, _, _] := ⟨hf29, h28.sh.backI (Lp := [_, _, _]) hs29⟩
  clear hf29 hs29 h28 hp30
  refine gG h29<|gRn (oM 1 rfl<|.nl)<|nK k27<|gF [0, 3, 4, 5] rfl<|sK fun _ k31 => gRn (oM 1 rfl<|onfl 0 fl_49_3 ti_3 rfl rfl<|osbN _ 1 om9 rfl<|onf fl_49_3 rfl<|.nl)<|gst 0 ti_3 rfl rfl rfl<|nK k31<|sK fun _ k33 => gRn (oM 1 rfl<|.nl)<|gE1 (fun _ _ h_ => x_makeSI (T := 93) h_ rfl rfl rfl) rfl fun g34 => gE (fun _ _ h_ => x_updSI (i := 0) (k := ({ data := #[45] })) (l := ([])) h_ msi_93 (.inr rfl) rfl rfl rfl rfl rfl (by decide)) rfl<|gE (fun _ _ h_ => x_updSI (i := 0) (k := ({ data := #[33] })) (l := ([(({ data := #[45] } : ByteArray), (17 : Int))])) h_ msi_93 (.inr rfl) rfl rfl rfl rfl rfl (by decide)) rfl<|gRn (oM 2 rfl<|oV (r_lookSI (k := ((nth X.T i).t)) (l := (([(({ data := #[45] } : ByteArray), (17 : Int))]) ++ [(({ data := #[33] } : ByteArray), (18 : Int))])) msi_93 rfl rfl rfl (fun w h => h.ok _ (List.mem_of_getElem? (i := 0) rfl))) rfl<|oM 2 rfl<|.nl)<|gE1 (fun _ _ h_ => x_lit (n := 1) (cs := [.int .i64 y29]) ([y29] : List Int) h_ sl_30 ti_3 rfl rfl rfl (by decide) rfl (by kernel_rfl) rfl (fun q hq w h => Flat.inner _ _) (fun q hq b hb => (Flat.on _ _ hb).elim) rfl rfl) rfl fun v37 => gO [2, 3, 4, 0, 1, 5] rfl<|fun a43 w43 h43 => ?_; clear h29
  have hp42 := h43.sh.passL (Lp := [_, _, _, _])
  refine wl_ex (x_call h43 bd_37 rfl rfl rfl rfl rfl (pPut_c _ _ X tv nv29 i29 d nl29 _ ((getSI ((nth X.T i).t) (([(({ data := #[45] } : ByteArray), (17 : Int))]) ++ [(({ data := #[33] } : ByteArray), (18 : Int))])).getD 0) (atT X i) 0 ({ data := #[] }) (⟨v37, [y29]⟩ : Ls Int) hp42 (by first | omega | (simp only [lens9]; omega)))) (wanted_none rfl _) ?_
  rintro a44 w44 ⟨_, ⟨nv44, rfl, hs44⟩, hf44⟩
  have hr44 : putP (⟨((getSI ((nth X.T i).t) (([(({ data := #[45] } : ByteArray), (17 : Int))]) ++ [(({ data := #[33] } : ByteArray), (18 : Int))])).getD 0), 0, (atT X i), { data := #[] }, [y29]⟩ : Nd) ⟨i29, d, nl29.map NdL.nd⟩ = .ok (((nl29.length : Nat) : Int), ⟨i29, d, (nl29 ++ [(⟨((getSI ((nth X.T i).t) (([(({ data := #[45] } : ByteArray), (17 : Int))]) ++ [(({ data := #[33] } : ByteArray), (18 : Int))])).getD 0), 0, (atT X i), { data := #[] }, (⟨v37, [y29]⟩ : Ls Int)⟩ : NdL)]).map NdL.nd⟩) := put_eq (x := (⟨((getSI ((nth X.T i).t) (([(({ data := #[45] } : ByteArray), (17 : Int))]) ++ [(({ data := #[33] } : ByteArray), (18 : Int))])).getD 0), 0, (atT X i), { data := #[] }, (⟨v37, [y29]⟩ : Ls Int)⟩ : NdL))
  have h44 : St _ K W a44 w44 _ [_, _, _, _, _] := ⟨hf44, h43.sh.backI (Lp := [_, _, _, _]) hs44⟩
  clear hf44 hs44
  clear h43
  refine gG h44<|gRn (oM 1 rfl<|.nl)<|nK k33<|gR<|uB<|uT<|fun a45 w45 h45 => rP <| x_ret1 (fn := Tryz.f128) (t := 2) rfl h45 rfl <| ⟨((nl29.length : Nat) : Int), i29, nv44, (nl29 ++ [(⟨((getSI ((nth X.T i).t) (([(({ data := #[45] } : ByteArray), (17 : Int))]) ++ [(({ data := #[33] } : ByteArray), (18 : Int))])).getD 0), 0, (atT X i), { data := #[] }, (⟨v37, [y29]⟩ : Ls Int)⟩ : NdL)]), ?_, rfl, (h45.sh.sel [0, 1, 2] rfl)⟩; clear h44
  rw [neg_kind (by assumption)] at hr44 ⊢
  exact (by show stepP X _ _ _ = _; simp only [stepP, asgP, andP, isT, lvT, ↓reduceIte, Bool.false_eq_true, eq_self, Nat.add_sub_cancel, List.cons_append, List.nil_append, hr24, hr29, hr44, hc19])
 have hc46 : isL X i ([{ data := #[45] }, { data := #[33] }]) = false := (by assumption)
 refine sK fun _ k47 => gRn (oM 1 rfl<|.nl)<|gE1 (fun _ _ h_ => x_lit (n := 1) (cs := [.string ({ data := #[40] })]) ([{ data := #[40] }] : List ByteArray) h_ sl_103 ti_9 rfl rfl rfl (by decide) rfl (by kernel_rfl) rfl (fun q hq w h => Flat.inner _ _) (fun q hq b hb => (Flat.on _ _ hb).elim) rfl rfl) rfl fun v48 => gP (fun _ _ h_ => xCl h_ bd_34 rfl (pIs_c g _ _ _ _ i _ (h_.sh.blk 2 rfl) (h_.sh.own 4 rfl) (⟨v48, [{ data := #[40] }]⟩ : Ls ByteArray) (h_.sh.own 0 rfl) (by first | exact Nat.le_of_ble_eq_true rfl | omega))) rfl<|gRn (oM 1 rfl<|.nl)<|nK k47<|gCb rfl (fun hb50 => ?_) fun hb50 => ?_
 ·skip
  have hc51 : isL X i ([{ data := #[40] }]) = true := (by assumption)
  have hl51 := isl_lt hc51
  refine sK fun _ k52 => gRn (oM 1 rfl<|.nl)<|fun a53 w53 h53 => ?_
  have h55 := h53.sel (L' := [_, _, _, _, _]) [2, 3, 4, 0, 1] rfl
  have hp56 := h55.sh.passL (Lp := [_, _, _])
  refine wl_callP h55 bd_106 rfl rfl rfl rfl rfl (wanted_none rfl _) ((ih f (by omega)).he _ _ tv nv i d nl _ hp56 hTl (by omega) (by omega) (by first | omega | (simp only [lens9]; omega)) (show 20 * (X.T.length - i) + 1 ≤ f by omega)) ?_ ?_
  ·rintro x9 w9 ⟨xc, xa, hrx, rfl, hs9⟩
   exact pnF (P := Tryz.prog) (fn := Tryz.f128) h55.fr ⟨xc, xa, (by show stepP X _ _ _ = _; simp only [stepP, asgP, andP, isT, lvT, ↓reduceIte, Bool.false_eq_true, eq_self, Nat.add_sub_cancel, List.cons_append, List.nil_append, hrx, hc46, hc51]), rfl, ((h55.sh.backI (Lp := [_, _, _]) hs9).sel [] rfl)⟩
  rintro a54 w54 ⟨_, ⟨y54, i54, nv54, nl54, hr54, rfl, hs54⟩, hf54⟩
  have hv54 := adv_parse (X := X) f .held ⟨i, d, nl.map NdL.nd⟩ (fun h => by cases h) _ _ hr54; simp only [minT, dT, qT, List.length_map] at hv54
  have h54 : St _ K W a54 w54 _ [_, _, _, _, _] := ⟨hf54, h55.sh.backI (Lp := [_, _, _]) hs54⟩
  clear hf54 hs54 h55 hp56
  refine gG h54<|gRn (oM 1 rfl<|.nl)<|nK k52<|gR<|uB<|uT<|fun a57 w57 h57 => rP <| x_ret1 (fn := Tryz.f128) (t := 2) rfl h57 rfl <| ⟨y54, i54, nv54, nl54, ?_, rfl, (h57.sh.sel [0, 1, 2] rfl)⟩; clear h54
  exact (by show stepP X _ _ _ = _; simp only [stepP, asgP, andP, isT, lvT, ↓reduceIte, Bool.false_eq_true, eq_self, Nat.add_sub_cancel, List.cons_append, List.nil_append, hr54, hc46, hc51])
 have hc58 : isL X i ([{ data := #[40] }]) = false := (by assumption)
 refine sK fun _ k59 => gRn (oM 1 rfl<|.nl)<|gP (fun _ _ h_ => xCl h_ bd_72 rfl (pKind_c g _ _ _ _ i _ (h_.sh.blk 2 rfl) (h_.sh.own 4 rfl) 3)) rfl<|gRn (oM 1 rfl<|.nl)<|nK k59<|gCb rfl (fun hb61 => ?_) fun hb61 => ?_
 ·skip
  have hc62 : kindT X i 3 = true := (by assumption)
  have hl62 := kd_lt hc62
  refine sK fun _ k63 => gRn (oM 3 rfl<|.nl)<|?_
  have hl64 : i < X.T.length := (by first | assumption | exact isl_lt (by assumption) | exact kd_lt (by assumption))
  refine gO [2, 3, 4, 0, 1] rfl<|fun a67 w67 h67 => ?_
  have hp66 := h67.sh.passL (Lp := [_, _, _])
  refine wl_ex (x_call h67 bd_70 rfl rfl rfl rfl rfl (pNext_c _ _ X tv nv i d nl _ hp66 hTl (by first | assumption | exact isl_lt (by assumption) | exact kd_lt (by assumption)))) (wanted_none rfl _) ?_
  rintro a68 w68 ⟨_, ⟨rfl, hs68⟩, hf68⟩
  have h68 : St _ K W a68 w68 _ [_, _, _, _, _] := ⟨hf68, h67.sh.backI (Lp := [_, _, _]) hs68⟩
  clear hf68 hs68
  clear h67
  refine gG h68<|gRn (oV (r_fieldG (u := .int .i64 ((nth X.T i).n)) rfl rfl (fun w => by kernel_rfl)) rfl<|.nl)<|fun a71 w71 h71 => ?_; clear h68
  have h70 := h71.nil (α := Int) 3
  clear h71
  have h72 := h70.sel (L' := [_, _, _, _, _, _]) [1, 2, 3, 0, 4, 5] rfl
  have hp73 := h72.sh.passL (Lp := [_, _, _, _])
  refine wl_ex (x_call h72 bd_37 rfl rfl rfl rfl rfl (pPut_c _ _ X tv nv (i + 1) d nl _ 15 (atT X i) ((nth X.T i).n) ({ data := #[] }) (⟨.slice none 0 0, []⟩ : Ls Int) hp73 (by first | omega | (simp only [lens9]; omega)))) (wanted_none rfl _) ?_
  rintro a74 w74 ⟨_, ⟨nv74, rfl, hs74⟩, hf74⟩
  have hr74 : putP (⟨15, (nth X.T i).n, (atT X i), { data := #[] }, []⟩ : Nd) ⟨(i + 1), d, nl.map NdL.nd⟩ = .ok (((nl.length : Nat) : Int), ⟨(i + 1), d, (nl ++ [(⟨15, (nth X.T i).n, (atT X i), { data := #[] }, (⟨.slice none 0 0, []⟩ : Ls Int)⟩ : NdL)]).map NdL.nd⟩) := put_eq (x := (⟨15, (nth X.T i).n, (atT X i), { data := #[] }, (⟨.slice none 0 0, []⟩ : Ls Int)⟩ : NdL))
  have h74 : St _ K W a74 w74 _ [_, _, _, _, _] := ⟨hf74, h72.sh.backI (Lp := [_, _, _, _]) hs74⟩
  clear hf74 hs74
  clear h72
  refine gG h74<|gRn (oM 1 rfl<|.nl)<|nK k63<|gR<|uB<|uT<|fun a75 w75 h75 => rP <| x_ret1 (fn := Tryz.f128) (t := 2) rfl h75 rfl <| ⟨((nl.length : Nat) : Int), (i + 1), nv74, (nl ++ [(⟨15, (nth X.T i).n, (atT X i), { data := #[] }, (⟨.slice none 0 0, []⟩ : Ls Int)⟩ : NdL)]), ?_, rfl, (h75.sh.sel [0, 1, 2] rfl)⟩; clear h74
  exact (by show stepP X _ _ _ = _; simp only [stepP, asgP, andP, isT, lvT, ↓reduceIte, Bool.false_eq_true, eq_self, Nat.add_sub_cancel, List.cons_append, List.nil_append, hr74, hc46, hc58, hc62])
 have hc76 : kindT X i 3 = false := (by assumption)
 refine gS<|hK k14<|sK fun _ k77 => gRn (oM 1 rfl<|.nl)<|fun a78 w78 h78 => ?_
 have h80 := h78.sel (L' := [_, _, _, _, _]) [2, 3, 4, 0, 1] rfl
 have hp81 := h80.sh.passL (Lp := [_, _, _])
 refine wl_callP h80 bd_71 rfl rfl rfl rfl rfl (wanted_none rfl _) (pName_c _ _ X tv nv i d nl _ hp81 hTl) ?_ ?_
 ·rintro x9 w9 ⟨xc, xa, hrx, rfl, hs9⟩
  exact pnF (P := Tryz.prog) (fn := Tryz.f128) h80.fr ⟨xc, xa, (by show stepP X _ _ _ = _; simp only [stepP, asgP, andP, isT, lvT, ↓reduceIte, Bool.false_eq_true, eq_self, Nat.add_sub_cancel, List.cons_append, List.nil_append, hrx, hc46, hc58, hc76]), rfl, ((h80.sh.backI (Lp := [_, _, _]) hs9).sel [] rfl)⟩
 rintro a79 w79 ⟨_, ⟨y79, hr79, hi79, rfl, hs79⟩, hf79⟩
 have hl79 : i < X.T.length := hi79
 have h79 : St _ K W a79 w79 _ [_, _, _, _, _] := ⟨hf79, h80.sh.backI (Lp := [_, _, _]) hs79⟩
 clear hf79 hs79 h80 hp81
 refine gG h79<|gal ti_81 rfl fun b82 => gsw 0 ti_81 rfl rfl rfl<|nK k77<|sK fun _ k84 => gRn (oM 2 rfl<|ofB fl_81_3 rfl<|olB 0 ti_9 rfl rfl<|.nl)<|fun a87 w87 h87 => ?_; clear h79
 have h86 := h87.nil (α := Int) 3
 clear h87
 have h88 := h86.sel (L' := [_, _, _, _, _, _, _]) [2, 3, 4, 0, 1, 5, 6] rfl
 have hp89 := h88.sh.passL (Lp := [_, _, _, _])
 refine wl_ex (x_call h88 bd_37 rfl rfl rfl rfl rfl (pPut_c _ _ X tv nv (i + 1) d nl _ 16 (atT X i) 0 y79.t (⟨.slice none 0 0, []⟩ : Ls Int) hp89 (by first | omega | (simp only [lens9]; omega)))) (wanted_none rfl _) ?_
 rintro a90 w90 ⟨_, ⟨nv90, rfl, hs90⟩, hf90⟩
 have hr90 : putP (⟨16, 0, (atT X i), y79.t, []⟩ : Nd) ⟨(i + 1), d, nl.map NdL.nd⟩ = .ok (((nl.length : Nat) : Int), ⟨(i + 1), d, (nl ++ [(⟨16, 0, (atT X i), y79.t, (⟨.slice none 0 0, []⟩ : Ls Int)⟩ : NdL)]).map NdL.nd⟩) := put_eq (x := (⟨16, 0, (atT X i), y79.t, (⟨.slice none 0 0, []⟩ : Ls Int)⟩ : NdL))
 have h90 : St _ K W a90 w90 _ [_, _, _, _, _, _] := ⟨hf90, h88.sh.backI (Lp := [_, _, _, _]) hs90⟩
 clear hf90 hs90
 clear h88
 refine gG h90<|gRn (oM 1 rfl<|.nl)<|nK k84<|gF [2] rfl<|gR<|fun a91 w91 h91 => rP <| x_ret1 (fn := Tryz.f128) (t := 2) rfl h91 rfl <| ⟨((nl.length : Nat) : Int), (i + 1), nv90, (nl ++ [(⟨16, 0, (atT X i), y79.t, (⟨.slice none 0 0, []⟩ : Ls Int)⟩ : NdL)]), ?_, rfl, (h91.sh.sel [0, 1, 2] rfl)⟩; clear h90
 exact (by show stepP X _ _ _ = _; simp only [stepP, asgP, andP, isT, lvT, ↓reduceIte, Bool.false_eq_true, eq_self, Nat.add_sub_cancel, List.cons_append, List.nil_append, hr79, hr90, hc46, hc58, hc76])

theorem pHeld_c (K : Nat → Prop) (g : Nat) (X : TE) (tv nv : Value) (i d : Nat) (nl : List NdL) (f : Nat)  (W : World) (hS : Sh K W W [.blk g 49 [tv, .int .i64 X.e, .int .i64 ((i : Nat) : Int), .int .i64 ((d : Nat) : Int), nv], .deep 57 (⟨nv, nl⟩ : Ls NdL), .own 81 (⟨tv, X.T⟩ : Ls Tok)]) (hTl : X.T.length ≤ 4000) (hd : d ≤ 20) (hi : i ≤ X.T.length) (hnl : nl.length ≤ 2 * i) (ih : ∀ f', f' ≤ f → AllT X f') (hf : 20 * (X.T.length - i) + 1 ≤ f + 1) :
    RetsP Tryz.prog 106 [.pointer (some ⟨g, 0, none⟩)] W (fun v w' => ∃ (a : Int) (i' : Nat) (nv' : Value) (nl' : List NdL), parseP X (f + 1) .held ⟨i, d, nl.map NdL.nd⟩ = .ok (a, ⟨i', d, nl'.map NdL.nd⟩) ∧ v = .int .i64 a ∧ Sh K W w' [.blk g 49 [tv, .int .i64 X.e, .int .i64 ((i' : Nat) : Int), .int .i64 ((d : Nat) : Int), nv'], .deep 57 (⟨nv', nl'⟩ : Ls NdL), .own 81 (⟨tv, X.T⟩ : Ls Tok)]) (fun x w' => ∃ c a : Int, parseP X (f + 1) .held ⟨i, d, nl.map NdL.nd⟩ = .error (c, a) ∧ x = wrongS c a ∧ Sh K W w' []) := by
 refine genP Tryz.func106 Tryz.ntmps106 hS rfl fun a10 h10 => gG h10<|sG (oM 1 rfl<|.nl)<|sK fun _ k12 => gRn (oM 1 rfl<|.nl)<|fun a13 w13 h13 => ?_; clear h10
 have hp15 := h13.sh.passL (Lp := [_, _, _])
 refine wl_callP h13 bd_74 rfl rfl rfl rfl rfl (wanted_none rfl _) (pOpen_c _ _ X tv nv i d nl _ hp15 hTl (by omega) ({ data := #[40] })) ?_ ?_
 ·rintro x9 w9 ⟨xc, xa, hrx, rfl, hs9⟩
  exact pnF (P := Tryz.prog) (fn := Tryz.f106) h13.fr ⟨xc, xa, (by show stepP X _ _ _ = _; simp only [stepP, asgP, andP, isT, lvT, ↓reduceIte, Bool.false_eq_true, eq_self, Nat.add_sub_cancel, List.cons_append, List.nil_append, hrx]), rfl, ((h13.sh.backI (Lp := [_, _, _]) hs9).sel [] rfl)⟩
 rintro a14 w14 ⟨_, ⟨y14, hr14, hi14, rfl, hs14⟩, hf14⟩
 have hl14 : i < X.T.length := hi14
 have hd14 := open_d20 hr14
 have h14 : St _ K W a14 w14 _ [_, _, _] := ⟨hf14, h13.sh.backI (Lp := [_, _, _]) hs14⟩
 clear hf14 hs14 h13 hp15
 refine gG h14<|nK k12<|sK fun _ k16 => gRn (oM 1 rfl<|.nl)<|fun a17 w17 h17 => ?_; clear h14
 have hp19 := h17.sh.passL (Lp := [_, _, _])
 refine wl_callP h17 bd_105 rfl rfl rfl rfl rfl (wanted_none rfl _) ((ih f (by omega)).ex 0 (by omega) _ _ tv nv (i + 1) (d + 1) nl _ hp19 hTl (by omega) (by omega) (by first | omega | (simp only [lens9]; omega)) (show 20 * (X.T.length - (i + 1)) + (3 + (5 - 0)) ≤ f by omega)) ?_ ?_
 ·rintro x9 w9 ⟨xc, xa, hrx, rfl, hs9⟩
  exact pnF (P := Tryz.prog) (fn := Tryz.f106) h17.fr ⟨xc, xa, (by show stepP X _ _ _ = _; simp only [stepP, asgP, andP, isT, lvT, ↓reduceIte, Bool.false_eq_true, eq_self, Nat.add_sub_cancel, List.cons_append, List.nil_append, hr14, hrx]), rfl, ((h17.sh.backI (Lp := [_, _, _]) hs9).sel [] rfl)⟩
 rintro a18 w18 ⟨_, ⟨y18, i18, nv18, nl18, hr18, rfl, hs18⟩, hf18⟩
 have hv18 := adv_parse (X := X) f (.expr 0) ⟨(i + 1), (d + 1), nl.map NdL.nd⟩ (fun h => by cases h) _ _ hr18; simp only [minT, dT, qT, List.length_map] at hv18
 have h18 : St _ K W a18 w18 _ [_, _, _] := ⟨hf18, h17.sh.backI (Lp := [_, _, _]) hs18⟩
 clear hf18 hs18 h17 hp19
 refine gG h18<|gRn (oM 1 rfl<|.nl)<|nK k16<|sK fun _ k20 => gRn (oM 1 rfl<|.nl)<|fun a21 w21 h21 => ?_; clear h18
 have hp23 := h21.sh.passL (Lp := [_, _, _])
 refine wl_callP h21 bd_76 rfl rfl rfl rfl rfl (wanted_none rfl _) (pShut_c _ _ X tv nv18 i18 (d + 1) nl18 _ hp23 hTl (by omega) ({ data := #[41] })) ?_ ?_
 ·rintro x9 w9 ⟨xc, xa, hrx, rfl, hs9⟩
  exact pnF (P := Tryz.prog) (fn := Tryz.f106) h21.fr ⟨xc, xa, (by show stepP X _ _ _ = _; simp only [stepP, asgP, andP, isT, lvT, ↓reduceIte, Bool.false_eq_true, eq_self, Nat.add_sub_cancel, List.cons_append, List.nil_append, hr14, hr18, hrx]), rfl, ((h21.sh.backI (Lp := [_, _, _]) hs9).sel [] rfl)⟩
 rintro a22 w22 ⟨_, ⟨y22, hr22, hi22, rfl, hs22⟩, hf22⟩
 have hl22 : i18 < X.T.length := hi22
 have h22 : St _ K W a22 w22 _ [_, _, _] := ⟨hf22, h21.sh.backI (Lp := [_, _, _]) hs22⟩
 clear hf22 hs22 h21 hp23
 refine gG h22<|nK k20<|sG (oM 2 rfl<|.nl)<|gR<|fun a25 w25 h25 => rP <| x_ret1 (fn := Tryz.f106) (t := 2) rfl h25 rfl <| ⟨y18, (i18 + 1), nv18, nl18, ?_, rfl, h25.sh⟩; clear h22
 exact (by show stepP X _ _ _ = _; simp only [stepP, asgP, andP, isT, lvT, ↓reduceIte, Bool.false_eq_true, eq_self, Nat.add_sub_cancel, List.cons_append, List.nil_append, hr14, hr18, hr22])

theorem pBlock_c (K : Nat → Prop) (g : Nat) (X : TE) (tv nv : Value) (i d : Nat) (nl : List NdL) (f : Nat)  (W : World) (hS : Sh K W W [.blk g 49 [tv, .int .i64 X.e, .int .i64 ((i : Nat) : Int), .int .i64 ((d : Nat) : Int), nv], .deep 57 (⟨nv, nl⟩ : Ls NdL), .own 81 (⟨tv, X.T⟩ : Ls Tok)]) (hTl : X.T.length ≤ 4000) (hd : d ≤ 20) (hi : i ≤ X.T.length) (hnl : nl.length ≤ 2 * i) (ih : ∀ f', f' ≤ f → AllT X f') (hf : 20 * (X.T.length - i) + 1 ≤ f + 1) :
    RetsP Tryz.prog 38 [.pointer (some ⟨g, 0, none⟩)] W (fun v w' => ∃ (a : Int) (i' : Nat) (nv' : Value) (nl' : List NdL), parseP X (f + 1) .block ⟨i, d, nl.map NdL.nd⟩ = .ok (a, ⟨i', d, nl'.map NdL.nd⟩) ∧ v = .int .i64 a ∧ Sh K W w' [.blk g 49 [tv, .int .i64 X.e, .int .i64 ((i' : Nat) : Int), .int .i64 ((d : Nat) : Int), nv'], .deep 57 (⟨nv', nl'⟩ : Ls NdL), .own 81 (⟨tv, X.T⟩ : Ls Tok)]) (fun x w' => ∃ c a : Int, parseP X (f + 1) .block ⟨i, d, nl.map NdL.nd⟩ = .error (c, a) ∧ x = wrongS c a ∧ Sh K W w' []) := by
 refine genP Tryz.func38 Tryz.ntmps38 hS rfl fun a10 h10 => gG h10<|sG (oM 1 rfl<|.nl)<|sK fun _ k12 => gRn (oM 1 rfl<|.nl)<|fun a13 w13 h13 => ?_; clear h10
 have hp15 := h13.sh.passL (Lp := [_, _, _])
 refine wl_callP h13 bd_74 rfl rfl rfl rfl rfl (wanted_none rfl _) (pOpen_c _ _ X tv nv i d nl _ hp15 hTl (by omega) ({ data := #[123] })) ?_ ?_
 ·rintro x9 w9 ⟨xc, xa, hrx, rfl, hs9⟩
  exact pnF (P := Tryz.prog) (fn := Tryz.f38) h13.fr ⟨xc, xa, (by show stepP X _ _ _ = _; simp only [stepP, asgP, andP, isT, lvT, ↓reduceIte, Bool.false_eq_true, eq_self, Nat.add_sub_cancel, List.cons_append, List.nil_append, hrx]), rfl, ((h13.sh.backI (Lp := [_, _, _]) hs9).sel [] rfl)⟩
 rintro a14 w14 ⟨_, ⟨y14, hr14, hi14, rfl, hs14⟩, hf14⟩
 have hl14 : i < X.T.length := hi14
 have hd14 := open_d20 hr14
 have h14 : St _ K W a14 w14 _ [_, _, _] := ⟨hf14, h13.sh.backI (Lp := [_, _, _]) hs14⟩
 clear hf14 hs14 h13 hp15
 refine gG h14<|gRn (oM 1 rfl<|.nl)<|nK k12<|sG (oM 1 rfl<|.nl)<|gK fun _ k17 => gB<|fun a20 w20 h20 => ?_; clear h14
 have h19 := h20.nil (α := Int) 3
 clear h20
 have hb9 : parseP X (f + 1) .block ⟨i, d, nl.map NdL.nd⟩ = parseP X f (.stmts y14 []) ⟨i + 1, d + 1, nl.map NdL.nd⟩ := by show stepP X _ _ _ = _; simp only [stepP, asgP, andP, isT, lvT, ↓reduceIte, Bool.false_eq_true, eq_self, Nat.add_sub_cancel, List.cons_append, List.nil_append, hr14]
 refine x_loop (fun m a w => ∃ (f2 : Nat) (kv : Value) (kl : List Int) (i2 : Nat) (nv2 : Value) (nl2 : List NdL), (f2 ≤ f ∧ 20 * (X.T.length - i2) + 11 ≤ f2 ∧ i2 ≤ X.T.length ∧ nl2.length ≤ 2 * i2 ∧ kl.length ≤ i2) ∧ (parseP X (f + 1) .block ⟨i, d, nl.map NdL.nd⟩ = parseP X f2 (.stmts y14 kl) ⟨i2, d + 1, nl2.map NdL.nd⟩) ∧ St 22 K W a w [(0, .pointer (some ⟨g, 0, none⟩)), (3, .int .i64 y14), (4, kv)] [.blk g 49 [tv, .int .i64 X.e, .int .i64 ((i2 : Nat) : Int), .int .i64 ((d + 1 : Nat) : Int), nv2], .deep 57 (⟨nv2, nl2⟩ : Ls NdL), .own 81 (⟨tv, X.T⟩ : Ls Tok), .own 3 (⟨kv, kl⟩ : Ls Int)] ∧ m = f2) ⟨_, f, _, _, i + 1, nv, nl, (⟨by omega, by omega, by omega, by omega, by simp only [List.length_nil]; omega⟩), (hb9), h19.nrm ⟨rfl, rfl, rfl, trivial⟩ [1, 2, 3, 0] rfl, rfl⟩ ?_
 clear h19
 rintro m18 a18 w18 ⟨f2, kv, kl, i2, nv2, nl2, hk2, hrel, h18, hm18⟩
 obtain ⟨f3, rfl⟩ : ∃ f3, f2 = f3 + 1 := ⟨f2 - 1, by omega⟩
 refine gG h18<|gK fun _ k21 => sK fun _ k22 => gRn (oM 1 rfl<|.nl)<|gE1 (fun _ _ h_ => x_lit (n := 1) (cs := [.string ({ data := #[125] })]) ([{ data := #[125] }] : List ByteArray) h_ sl_103 ti_9 rfl rfl rfl (by decide) rfl (by kernel_rfl) rfl (fun q hq w h => Flat.inner _ _) (fun q hq b hb => (Flat.on _ _ hb).elim) rfl rfl) rfl fun v23 => gP (fun _ _ h_ => xCl h_ bd_34 rfl (pIs_c g _ _ _ _ i2 _ (h_.sh.blk 1 rfl) (h_.sh.own 3 rfl) (⟨v23, [{ data := #[125] }]⟩ : Ls ByteArray) (h_.sh.own 0 rfl) (by first | exact Nat.le_of_ble_eq_true rfl | omega))) rfl<|gRn (ont rfl<|.nl)<|nK k22<|?_; clear h18
 refine gCb rfl (fun hb25 => ?_) fun hb25 => ?_
 ·have hn25 : isL X i2 ([{ data := #[125] }]) = false := (Bool.not_eq_true' _).mp hb25
  have hc26 : isL X i2 ([{ data := #[125] }]) = false := (by assumption)
  refine gS<|hK k21<|gB<|gL<|gRn (oM 2 rfl<|.nl)<|fun a27 w27 h27 => ?_
  have h29 := h27.sel (L' := [_, _, _, _, _]) [1, 2, 3, 0, 4] rfl
  have hp30 := h29.sh.passL (Lp := [_, _, _])
  refine wl_callP h29 bd_75 rfl rfl rfl rfl rfl (wanted_none rfl _) ((ih f3 (by omega)).st _ _ tv nv2 i2 (d + 1) nl2 _ hp30 hTl (by omega) (by omega) (by first | omega | (simp only [lens9]; omega)) (show 20 * (X.T.length - i2) + 10 ≤ f3 by omega)) ?_ ?_
  ·rintro x9 w9 ⟨xc, xa, hrx, rfl, hs9⟩
   exact pnF (P := Tryz.prog) (fn := Tryz.f38) h29.fr ⟨xc, xa, (hrel.trans (by show stepP X (parseP X f3) (.stmts y14 kl) _ = _; simp only [stepP, asgP, andP, isT, lvT, ↓reduceIte, Bool.false_eq_true, eq_self, Nat.add_sub_cancel, List.cons_append, List.nil_append, hrx, hc26])), rfl, ((h29.sh.backI (Lp := [_, _, _]) hs9).sel [] rfl)⟩
  rintro a28 w28 ⟨_, ⟨y28, i28, nv28, nl28, hr28, rfl, hs28⟩, hf28⟩
  have hv28 := adv_parse (X := X) f3 .stmt ⟨i2, (d + 1), nl2.map NdL.nd⟩ (fun h => by cases h) _ _ hr28; simp only [minT, dT, qT, List.length_map] at hv28
  have h28 : St _ K W a28 w28 _ [_, _, _, _, _] := ⟨hf28, h29.sh.backI (Lp := [_, _, _]) hs28⟩
  clear hf28 hs28 h29 hp30
  refine gG h28<|gE1 (fun _ _ h_ => x_lit (n := 1) (cs := [.int .i64 y28]) ([y28] : List Int) h_ sl_30 ti_3 rfl rfl rfl (by decide) rfl (by kernel_rfl) rfl (fun q hq w h => Flat.inner _ _) (fun q hq b hb => (Flat.on _ _ hb).elim) rfl rfl) rfl fun v31 => gE1 (fun _ _ h_ => x_app (r := 5) (rm := 0) (s := (⟨kv, kl⟩ : Ls Int)) (m := (⟨v31, [y28]⟩ : Ls Int)) h_ sl_30 ti_3 rfl rfl rfl rfl rfl rfl rfl (fun w h => (h.own 0 rfl)) (fun b hb => own_on (h_.sh.ok _ (List.mem_of_getElem? (i := 0) rfl)) hb) (fun q hq b hb => ⟨q, hq, hb⟩) rfl rfl rfl inferInstance (show (kl.length + ([y28]).length) * 8 ≤ 140737488355328 ∧ kl.length + ([y28]).length ≤ 140737488355328 from om9) rfl rfl) rfl fun v32 => gRn (oM 1 rfl<|.nl)<|nN<|fun a33 w33 h33 => ?_; clear h28
  change ∃ _m, _m < _ ∧ _
  refine ⟨_, ?_, f3, _, _, i28, nv28, nl28, ?_, ?_, h33.nrm ⟨rfl, rfl, rfl, trivial⟩ [1, 2, 3, 5] rfl, rfl⟩
  · rw [hm18]; first | omega | (simp only [lens9]; omega)
  · refine ⟨by omega, by omega, by omega, by first | omega | (simp only [lens9]; omega), by simp only [lens9]; omega⟩
  · exact (hrel.trans (by show stepP X (parseP X f3) (.stmts y14 kl) _ = _; simp only [stepP, asgP, andP, isT, lvT, ↓reduceIte, Bool.false_eq_true, eq_self, Nat.add_sub_cancel, List.cons_append, List.nil_append, hr28, hc26]))
 have hn25 : isL X i2 ([{ data := #[125] }]) = true := (Bool.not_eq_false' _).mp hb25
 have hc34 : isL X i2 ([{ data := #[125] }]) = true := (by assumption)
 have hl34 := isl_lt hc34
 refine gX<|hK k17<|sK fun _ k35 => gRn (oM 1 rfl<|.nl)<|fun a36 w36 h36 => ?_
 have h38 := h36.sel (L' := [_, _, _, _, _]) [1, 2, 3, 0, 4] rfl
 have hp39 := h38.sh.passL (Lp := [_, _, _])
 refine wl_callP h38 bd_76 rfl rfl rfl rfl rfl (wanted_none rfl _) (pShut_c _ _ X tv nv2 i2 (d + 1) nl2 _ hp39 hTl (by omega) ({ data := #[125] })) ?_ ?_
 ·rintro x9 w9 ⟨xc, xa, hrx, rfl, hs9⟩
  exact pnF (P := Tryz.prog) (fn := Tryz.f38) h38.fr ⟨xc, xa, (hrel.trans (by show stepP X (parseP X f3) (.stmts y14 kl) _ = _; simp only [stepP, asgP, andP, isT, lvT, ↓reduceIte, Bool.false_eq_true, eq_self, Nat.add_sub_cancel, List.cons_append, List.nil_append, hrx, hc34])), rfl, ((h38.sh.backI (Lp := [_, _, _]) hs9).sel [] rfl)⟩
 rintro a37 w37 ⟨_, ⟨y37, hr37, hi37, rfl, hs37⟩, hf37⟩
 have hl37 : i2 < X.T.length := hi37
 have h37 : St _ K W a37 w37 _ [_, _, _, _, _] := ⟨hf37, h38.sh.backI (Lp := [_, _, _]) hs37⟩
 clear hf37 hs37 h38 hp39
 refine gG h37<|nK k35<|sK fun _ k40 => gRn (oM 3 rfl<|.nl)<|gO [0, 1, 2, 4, 3] rfl<|fun a46 w46 h46 => ?_; clear h37
 have hp45 := h46.sh.passL (Lp := [_, _, _, _])
 refine wl_ex (x_call h46 bd_37 rfl rfl rfl rfl rfl (pPut_c _ _ X tv nv2 (i2 + 1) d nl2 _ 5 y14 0 ({ data := #[] }) (⟨kv, kl⟩ : Ls Int) hp45 (by first | omega | (simp only [lens9]; omega)))) (wanted_none rfl _) ?_
 rintro a47 w47 ⟨_, ⟨nv47, rfl, hs47⟩, hf47⟩
 have hr47 : putP (⟨5, 0, y14, { data := #[] }, kl⟩ : Nd) ⟨(i2 + 1), d, nl2.map NdL.nd⟩ = .ok (((nl2.length : Nat) : Int), ⟨(i2 + 1), d, (nl2 ++ [(⟨5, 0, y14, { data := #[] }, (⟨kv, kl⟩ : Ls Int)⟩ : NdL)]).map NdL.nd⟩) := put_eq (x := (⟨5, 0, y14, { data := #[] }, (⟨kv, kl⟩ : Ls Int)⟩ : NdL))
 have h47 : St _ K W a47 w47 _ [_, _, _, _] := ⟨hf47, h46.sh.backI (Lp := [_, _, _, _]) hs47⟩
 clear hf47 hs47
 clear h46
 refine gG h47<|gRn (oM 1 rfl<|.nl)<|nK k40<|gR<|fun a48 w48 h48 => rP <| x_ret1 (fn := Tryz.f38) (t := 2) rfl h48 rfl <| ⟨((nl2.length : Nat) : Int), (i2 + 1), nv47, (nl2 ++ [(⟨5, 0, y14, { data := #[] }, (⟨kv, kl⟩ : Ls Int)⟩ : NdL)]), ?_, rfl, (h48.sh.sel [0, 1, 2] rfl)⟩; clear h47
 exact (hrel.trans (by show stepP X (parseP X f3) (.stmts y14 kl) _ = _; simp only [stepP, asgP, andP, isT, lvT, ↓reduceIte, Bool.false_eq_true, eq_self, Nat.add_sub_cancel, List.cons_append, List.nil_append, hr37, hr47, hc34]))

theorem pStmt_c (K : Nat → Prop) (g : Nat) (X : TE) (tv nv : Value) (i d : Nat) (nl : List NdL) (f : Nat)  (W : World) (hS : Sh K W W [.blk g 49 [tv, .int .i64 X.e, .int .i64 ((i : Nat) : Int), .int .i64 ((d : Nat) : Int), nv], .deep 57 (⟨nv, nl⟩ : Ls NdL), .own 81 (⟨tv, X.T⟩ : Ls Tok)]) (hTl : X.T.length ≤ 4000) (hd : d ≤ 20) (hi : i ≤ X.T.length) (hnl : nl.length ≤ 2 * i) (ih : ∀ f', f' ≤ f → AllT X f') (hf : 20 * (X.T.length - i) + 10 ≤ f + 1) :
    RetsP Tryz.prog 75 [.pointer (some ⟨g, 0, none⟩)] W (fun v w' => ∃ (a : Int) (i' : Nat) (nv' : Value) (nl' : List NdL), parseP X (f + 1) .stmt ⟨i, d, nl.map NdL.nd⟩ = .ok (a, ⟨i', d, nl'.map NdL.nd⟩) ∧ v = .int .i64 a ∧ Sh K W w' [.blk g 49 [tv, .int .i64 X.e, .int .i64 ((i' : Nat) : Int), .int .i64 ((d : Nat) : Int), nv'], .deep 57 (⟨nv', nl'⟩ : Ls NdL), .own 81 (⟨tv, X.T⟩ : Ls Tok)]) (fun x w' => ∃ c a : Int, parseP X (f + 1) .stmt ⟨i, d, nl.map NdL.nd⟩ = .error (c, a) ∧ x = wrongS c a ∧ Sh K W w' []) := by
 refine genP Tryz.func75 Tryz.ntmps75 hS rfl fun a10 h10 => gG h10<|sG (oM 1 rfl<|.nl)<|sK fun _ k12 => gRn (oM 1 rfl<|.nl)<|gP (fun _ _ h_ => xCl h_ bd_104 rfl (pAt_c g _ _ _ _ i _ (h_.sh.blk 0 rfl) (h_.sh.own 2 rfl))) rfl<|gRn (oM 1 rfl<|.nl)<|nK k12<|gK fun _ k14 => gB<|sK fun _ k15 => gRn (oM 1 rfl<|.nl)<|gE1 (fun _ _ h_ => x_lit (n := 1) (cs := [.string ({ data := #[105, 110, 116] })]) ([{ data := #[105, 110, 116] }] : List ByteArray) h_ sl_103 ti_9 rfl rfl rfl (by decide) rfl (by kernel_rfl) rfl (fun q hq w h => Flat.inner _ _) (fun q hq b hb => (Flat.on _ _ hb).elim) rfl rfl) rfl fun v16 => gP (fun _ _ h_ => xCl h_ bd_34 rfl (pIs_c g _ _ _ _ i _ (h_.sh.blk 1 rfl) (h_.sh.own 3 rfl) (⟨v16, [{ data := #[105, 110, 116] }]⟩ : Ls ByteArray) (h_.sh.own 0 rfl) (by first | exact Nat.le_of_ble_eq_true rfl | omega))) rfl<|gRn (oM 1 rfl<|.nl)<|nK k15<|?_; clear h10
 refine gCb rfl (fun hb18 => ?_) fun hb18 => ?_
 ·skip
  have hc19 : isL X i ([{ data := #[105, 110, 116] }]) = true := (by assumption)
  have hl19 := isl_lt hc19
  refine sK fun _ k20 => gRn (oM 1 rfl<|.nl)<|?_
  have hl21 : i < X.T.length := (by first | assumption | exact isl_lt (by assumption) | exact kd_lt (by assumption))
  refine gO [1, 2, 3, 0] rfl<|fun a24 w24 h24 => ?_
  have hp23 := h24.sh.passL (Lp := [_, _, _])
  refine wl_ex (x_call h24 bd_70 rfl rfl rfl rfl rfl (pNext_c _ _ X tv nv i d nl _ hp23 hTl (by first | assumption | exact isl_lt (by assumption) | exact kd_lt (by assumption)))) (wanted_none rfl _) ?_
  rintro a25 w25 ⟨_, ⟨rfl, hs25⟩, hf25⟩
  have h25 : St _ K W a25 w25 _ [_, _, _, _] := ⟨hf25, h24.sh.backI (Lp := [_, _, _]) hs25⟩
  clear hf25 hs25
  clear h24
  refine gG h25<|nK k20<|sK fun _ k26 => gRn (oM 1 rfl<|.nl)<|fun a27 w27 h27 => ?_; clear h25
  have hp29 := h27.sh.passL (Lp := [_, _, _])
  refine wl_callP h27 bd_71 rfl rfl rfl rfl rfl (wanted_none rfl _) (pName_c _ _ X tv nv (i + 1) d nl _ hp29 hTl) ?_ ?_
  ·rintro x9 w9 ⟨xc, xa, hrx, rfl, hs9⟩
   exact pnF (P := Tryz.prog) (fn := Tryz.f75) h27.fr ⟨xc, xa, (by show stepP X _ _ _ = _; simp only [stepP, asgP, andP, isT, lvT, ↓reduceIte, Bool.false_eq_true, eq_self, Nat.add_sub_cancel, List.cons_append, List.nil_append, hrx, hc19]), rfl, ((h27.sh.backI (Lp := [_, _, _]) hs9).sel [] rfl)⟩
  rintro a28 w28 ⟨_, ⟨y28, hr28, hi28, rfl, hs28⟩, hf28⟩
  have hl28 : (i + 1) < X.T.length := hi28
  have h28 : St _ K W a28 w28 _ [_, _, _, _] := ⟨hf28, h27.sh.backI (Lp := [_, _, _]) hs28⟩
  clear hf28 hs28 h27 hp29
  refine gG h28<|gal ti_81 rfl fun b30 => gsw 0 ti_81 rfl rfl rfl<|nK k26<|sK fun _ k32 => gRn (oM 1 rfl<|.nl)<|fun a33 w33 h33 => ?_; clear h28
  have h35 := h33.sel (L' := [_, _, _, _, _]) [1, 2, 3, 0, 4] rfl
  have hp36 := h35.sh.passL (Lp := [_, _, _])
  refine wl_callP h35 bd_36 rfl rfl rfl rfl rfl (wanted_none rfl _) (pTake_c _ _ X tv nv ((i + 1) + 1) d nl _ hp36 hTl ({ data := #[61] })) ?_ ?_
  ·rintro x9 w9 ⟨xc, xa, hrx, rfl, hs9⟩
   exact pnF (P := Tryz.prog) (fn := Tryz.f75) h35.fr ⟨xc, xa, (by show stepP X _ _ _ = _; simp only [stepP, asgP, andP, isT, lvT, ↓reduceIte, Bool.false_eq_true, eq_self, Nat.add_sub_cancel, List.cons_append, List.nil_append, hr28, hrx, hc19]), rfl, ((h35.sh.backI (Lp := [_, _, _]) hs9).sel [] rfl)⟩
  rintro a34 w34 ⟨_, ⟨y34, hr34, hi34, rfl, hs34⟩, hf34⟩
  have hl34 : ((i + 1) + 1) < X.T.length := hi34
  have h34 : St _ K W a34 w34 _ [_, _, _, _, _] := ⟨hf34, h35.sh.backI (Lp := [_, _, _]) hs34⟩
  clear hf34 hs34 h35 hp36
  refine gG h34<|nK k32<|sK fun _ k37 => gRn (oM 1 rfl<|.nl)<|fun a38 w38 h38 => ?_; clear h34
  have hp40 := h38.sh.passL (Lp := [_, _, _])
  refine wl_callP h38 bd_105 rfl rfl rfl rfl rfl (wanted_none rfl _) ((ih f (by omega)).ex 0 (by omega) _ _ tv nv (((i + 1) + 1) + 1) d nl _ hp40 hTl (by omega) (by omega) (by first | omega | (simp only [lens9]; omega)) (show 20 * (X.T.length - (((i + 1) + 1) + 1)) + (3 + (5 - 0)) ≤ f by omega)) ?_ ?_
  ·rintro x9 w9 ⟨xc, xa, hrx, rfl, hs9⟩
   exact pnF (P := Tryz.prog) (fn := Tryz.f75) h38.fr ⟨xc, xa, (by show stepP X _ _ _ = _; simp only [stepP, asgP, andP, isT, lvT, ↓reduceIte, Bool.false_eq_true, eq_self, Nat.add_sub_cancel, List.cons_append, List.nil_append, hr28, hr34, hrx, hc19]), rfl, ((h38.sh.backI (Lp := [_, _, _]) hs9).sel [] rfl)⟩
  rintro a39 w39 ⟨_, ⟨y39, i39, nv39, nl39, hr39, rfl, hs39⟩, hf39⟩
  have hv39 := adv_parse (X := X) f (.expr 0) ⟨(((i + 1) + 1) + 1), d, nl.map NdL.nd⟩ (fun h => by cases h) _ _ hr39; simp only [minT, dT, qT, List.length_map] at hv39
  have h39 : St _ K W a39 w39 _ [_, _, _, _, _] := ⟨hf39, h38.sh.backI (Lp := [_, _, _]) hs39⟩
  clear hf39 hs39 h38 hp40
  refine gG h39<|gRn (oM 1 rfl<|.nl)<|nK k37<|sK fun _ k41 => gRn (oM 1 rfl<|.nl)<|fun a42 w42 h42 => ?_; clear h39
  have hp44 := h42.sh.passL (Lp := [_, _, _])
  refine wl_callP h42 bd_36 rfl rfl rfl rfl rfl (wanted_none rfl _) (pTake_c _ _ X tv nv39 i39 d nl39 _ hp44 hTl ({ data := #[59] })) ?_ ?_
  ·rintro x9 w9 ⟨xc, xa, hrx, rfl, hs9⟩
   exact pnF (P := Tryz.prog) (fn := Tryz.f75) h42.fr ⟨xc, xa, (by show stepP X _ _ _ = _; simp only [stepP, asgP, andP, isT, lvT, ↓reduceIte, Bool.false_eq_true, eq_self, Nat.add_sub_cancel, List.cons_append, List.nil_append, hr28, hr34, hr39, hrx, hc19]), rfl, ((h42.sh.backI (Lp := [_, _, _]) hs9).sel [] rfl)⟩
  rintro a43 w43 ⟨_, ⟨y43, hr43, hi43, rfl, hs43⟩, hf43⟩
  have hl43 : i39 < X.T.length := hi43
  have h43 : St _ K W a43 w43 _ [_, _, _, _, _] := ⟨hf43, h42.sh.backI (Lp := [_, _, _]) hs43⟩
  clear hf43 hs43 h42 hp44
  refine gG h43<|nK k41<|sK fun _ k45 => gRn (oM 2 rfl<|ofB fl_81_3 rfl<|olB 3 ti_9 rfl rfl<|oM 1 rfl<|.nl)<|gE1 (fun _ _ h_ => x_lit (n := 1) (cs := [.int .i64 y39]) ([y39] : List Int) h_ sl_30 ti_3 rfl rfl rfl (by decide) rfl (by kernel_rfl) rfl (fun q hq w h => Flat.inner _ _) (fun q hq b hb => (Flat.on _ _ hb).elim) rfl rfl) rfl fun v46 => gO [1, 2, 3, 0, 4, 5] rfl<|fun a52 w52 h52 => ?_; clear h43
  have hp51 := h52.sh.passL (Lp := [_, _, _, _])
  refine wl_ex (x_call h52 bd_37 rfl rfl rfl rfl rfl (pPut_c _ _ X tv nv39 (i39 + 1) d nl39 _ 6 (atT X i) 0 y28.t (⟨v46, [y39]⟩ : Ls Int) hp51 (by first | omega | (simp only [lens9]; omega)))) (wanted_none rfl _) ?_
  rintro a53 w53 ⟨_, ⟨nv53, rfl, hs53⟩, hf53⟩
  have hr53 : putP (⟨6, 0, (atT X i), y28.t, [y39]⟩ : Nd) ⟨(i39 + 1), d, nl39.map NdL.nd⟩ = .ok (((nl39.length : Nat) : Int), ⟨(i39 + 1), d, (nl39 ++ [(⟨6, 0, (atT X i), y28.t, (⟨v46, [y39]⟩ : Ls Int)⟩ : NdL)]).map NdL.nd⟩) := put_eq (x := (⟨6, 0, (atT X i), y28.t, (⟨v46, [y39]⟩ : Ls Int)⟩ : NdL))
  have h53 : St _ K W a53 w53 _ [_, _, _, _, _] := ⟨hf53, h52.sh.backI (Lp := [_, _, _, _]) hs53⟩
  clear hf53 hs53
  clear h52
  refine gG h53<|gRn (oM 1 rfl<|.nl)<|nK k45<|gF [2] rfl<|gR<|uB<|uT<|fun a54 w54 h54 => rP <| x_ret1 (fn := Tryz.f75) (t := 2) rfl h54 rfl <| ⟨((nl39.length : Nat) : Int), (i39 + 1), nv53, (nl39 ++ [(⟨6, 0, (atT X i), y28.t, (⟨v46, [y39]⟩ : Ls Int)⟩ : NdL)]), ?_, rfl, (h54.sh.sel [0, 1, 2] rfl)⟩; clear h53
  exact (by show stepP X _ _ _ = _; simp only [stepP, asgP, andP, isT, lvT, ↓reduceIte, Bool.false_eq_true, eq_self, Nat.add_sub_cancel, List.cons_append, List.nil_append, hr28, hr34, hr39, hr43, hr53, hc19])
 have hc55 : isL X i ([{ data := #[105, 110, 116] }]) = false := (by assumption)
 refine sK fun _ k56 => gRn (oM 1 rfl<|.nl)<|gE1 (fun _ _ h_ => x_lit (n := 1) (cs := [.string ({ data := #[105, 102] })]) ([{ data := #[105, 102] }] : List ByteArray) h_ sl_103 ti_9 rfl rfl rfl (by decide) rfl (by kernel_rfl) rfl (fun q hq w h => Flat.inner _ _) (fun q hq b hb => (Flat.on _ _ hb).elim) rfl rfl) rfl fun v57 => gP (fun _ _ h_ => xCl h_ bd_34 rfl (pIs_c g _ _ _ _ i _ (h_.sh.blk 2 rfl) (h_.sh.own 4 rfl) (⟨v57, [{ data := #[105, 102] }]⟩ : Ls ByteArray) (h_.sh.own 0 rfl) (by first | exact Nat.le_of_ble_eq_true rfl | omega))) rfl<|gRn (oM 1 rfl<|.nl)<|nK k56<|gCb rfl (fun hb59 => ?_) fun hb59 => ?_
 ·skip
  have hc60 : isL X i ([{ data := #[105, 102] }]) = true := (by assumption)
  have hl60 := isl_lt hc60
  refine sK fun _ k61 => gRn (oM 1 rfl<|.nl)<|?_
  have hl62 : i < X.T.length := (by first | assumption | exact isl_lt (by assumption) | exact kd_lt (by assumption))
  refine gO [2, 3, 4, 0, 1] rfl<|fun a65 w65 h65 => ?_
  have hp64 := h65.sh.passL (Lp := [_, _, _])
  refine wl_ex (x_call h65 bd_70 rfl rfl rfl rfl rfl (pNext_c _ _ X tv nv i d nl _ hp64 hTl (by first | assumption | exact isl_lt (by assumption) | exact kd_lt (by assumption)))) (wanted_none rfl _) ?_
  rintro a66 w66 ⟨_, ⟨rfl, hs66⟩, hf66⟩
  have h66 : St _ K W a66 w66 _ [_, _, _, _, _] := ⟨hf66, h65.sh.backI (Lp := [_, _, _]) hs66⟩
  clear hf66 hs66
  clear h65
  refine gG h66<|nK k61<|sK fun _ k67 => gRn (oM 1 rfl<|.nl)<|fun a68 w68 h68 => ?_; clear h66
  have hp70 := h68.sh.passL (Lp := [_, _, _])
  refine wl_callP h68 bd_106 rfl rfl rfl rfl rfl (wanted_none rfl _) ((ih f (by omega)).he _ _ tv nv (i + 1) d nl _ hp70 hTl (by omega) (by omega) (by first | omega | (simp only [lens9]; omega)) (show 20 * (X.T.length - (i + 1)) + 1 ≤ f by omega)) ?_ ?_
  ·rintro x9 w9 ⟨xc, xa, hrx, rfl, hs9⟩
   exact pnF (P := Tryz.prog) (fn := Tryz.f75) h68.fr ⟨xc, xa, (by show stepP X _ _ _ = _; simp only [stepP, asgP, andP, isT, lvT, ↓reduceIte, Bool.false_eq_true, eq_self, Nat.add_sub_cancel, List.cons_append, List.nil_append, hrx, hc55, hc60]), rfl, ((h68.sh.backI (Lp := [_, _, _]) hs9).sel [] rfl)⟩
  rintro a69 w69 ⟨_, ⟨y69, i69, nv69, nl69, hr69, rfl, hs69⟩, hf69⟩
  have hv69 := adv_parse (X := X) f .held ⟨(i + 1), d, nl.map NdL.nd⟩ (fun h => by cases h) _ _ hr69; simp only [minT, dT, qT, List.length_map] at hv69
  have h69 : St _ K W a69 w69 _ [_, _, _, _, _] := ⟨hf69, h68.sh.backI (Lp := [_, _, _]) hs69⟩
  clear hf69 hs69 h68 hp70
  refine gG h69<|gRn (oM 1 rfl<|.nl)<|fun a71 w71 h71 => ?_; clear h69
  have hp73 := h71.sh.passL (Lp := [_, _, _])
  refine wl_callP h71 bd_38 rfl rfl rfl rfl rfl (wanted_none rfl _) ((ih f (by omega)).bl _ _ tv nv69 i69 d nl69 _ hp73 hTl (by omega) (by omega) (by first | omega | (simp only [lens9]; omega)) (show 20 * (X.T.length - i69) + 1 ≤ f by omega)) ?_ ?_
  ·rintro x9 w9 ⟨xc, xa, hrx, rfl, hs9⟩
   exact pnF (P := Tryz.prog) (fn := Tryz.f75) h71.fr ⟨xc, xa, (by show stepP X _ _ _ = _; simp only [stepP, asgP, andP, isT, lvT, ↓reduceIte, Bool.false_eq_true, eq_self, Nat.add_sub_cancel, List.cons_append, List.nil_append, hr69, hrx, hc55, hc60]), rfl, ((h71.sh.backI (Lp := [_, _, _]) hs9).sel [] rfl)⟩
  rintro a72 w72 ⟨_, ⟨y72, i72, nv72, nl72, hr72, rfl, hs72⟩, hf72⟩
  have hv72 := adv_parse (X := X) f .block ⟨i69, d, nl69.map NdL.nd⟩ (fun h => by cases h) _ _ hr72; simp only [minT, dT, qT, List.length_map] at hv72
  have h72 : St _ K W a72 w72 _ [_, _, _, _, _] := ⟨hf72, h71.sh.backI (Lp := [_, _, _]) hs72⟩
  clear hf72 hs72 h71 hp73
  refine gG h72<|gE1 (fun _ _ h_ => x_lit (n := 2) (cs := [.int .i64 y69, .int .i64 y72]) ([y69, y72] : List Int) h_ sl_30 ti_3 rfl rfl rfl (by decide) rfl (by kernel_rfl) rfl (fun q hq w h => Flat.inner _ _) (fun q hq b hb => (Flat.on _ _ hb).elim) rfl rfl) rfl fun v74 => gRn (oM 1 rfl<|.nl)<|nK k67<|gK fun _ k75 => sK fun _ k76 => gRn (oM 1 rfl<|.nl)<|gE1 (fun _ _ h_ => x_lit (n := 1) (cs := [.string ({ data := #[101, 108, 115, 101] })]) ([{ data := #[101, 108, 115, 101] }] : List ByteArray) h_ sl_103 ti_9 rfl rfl rfl (by decide) rfl (by kernel_rfl) rfl (fun q hq w h => Flat.inner _ _) (fun q hq b hb => (Flat.on _ _ hb).elim) rfl rfl) rfl fun v77 => gP (fun _ _ h_ => xCl h_ bd_34 rfl (pIs_c g _ _ _ _ i72 _ (h_.sh.blk 2 rfl) (h_.sh.own 4 rfl) (⟨v77, [{ data := #[101, 108, 115, 101] }]⟩ : Ls ByteArray) (h_.sh.own 0 rfl) (by first | exact Nat.le_of_ble_eq_true rfl | omega))) rfl<|nK k76<|?_; clear h72
  refine gCb rfl (fun hb79 => ?_) fun hb79 => ?_
  ·skip
   have hc80 : isL X i72 ([{ data := #[101, 108, 115, 101] }]) = true := (by assumption)
   have hl80 := isl_lt hc80
   refine sK fun _ k81 => gRn (oM 1 rfl<|.nl)<|?_
   have hl82 : i72 < X.T.length := (by first | assumption | exact isl_lt (by assumption) | exact kd_lt (by assumption))
   refine gO [2, 3, 4, 0, 1, 5, 6] rfl<|fun a85 w85 h85 => ?_
   have hp84 := h85.sh.passL (Lp := [_, _, _])
   refine wl_ex (x_call h85 bd_70 rfl rfl rfl rfl rfl (pNext_c _ _ X tv nv72 i72 d nl72 _ hp84 hTl (by first | assumption | exact isl_lt (by assumption) | exact kd_lt (by assumption)))) (wanted_none rfl _) ?_
   rintro a86 w86 ⟨_, ⟨rfl, hs86⟩, hf86⟩
   have h86 : St _ K W a86 w86 _ [_, _, _, _, _, _, _] := ⟨hf86, h85.sh.backI (Lp := [_, _, _]) hs86⟩
   clear hf86 hs86
   clear h85
   refine gG h86<|nK k81<|gF [0, 3, 6] rfl<|gL<|gRn (oM 2 rfl<|.nl)<|fun a87 w87 h87 => ?_; clear h86
   have hp89 := h87.sh.passL (Lp := [_, _, _])
   refine wl_callP h87 bd_38 rfl rfl rfl rfl rfl (wanted_none rfl _) ((ih f (by omega)).bl _ _ tv nv72 (i72 + 1) d nl72 _ hp89 hTl (by omega) (by omega) (by first | omega | (simp only [lens9]; omega)) (show 20 * (X.T.length - (i72 + 1)) + 1 ≤ f by omega)) ?_ ?_
   ·rintro x9 w9 ⟨xc, xa, hrx, rfl, hs9⟩
    exact pnF (P := Tryz.prog) (fn := Tryz.f75) h87.fr ⟨xc, xa, (by show stepP X _ _ _ = _; simp only [stepP, asgP, andP, isT, lvT, ↓reduceIte, Bool.false_eq_true, eq_self, Nat.add_sub_cancel, List.cons_append, List.nil_append, hr69, hr72, hrx, hc55, hc60, hc80]), rfl, ((h87.sh.backI (Lp := [_, _, _]) hs9).sel [] rfl)⟩
   rintro a88 w88 ⟨_, ⟨y88, i88, nv88, nl88, hr88, rfl, hs88⟩, hf88⟩
   have hv88 := adv_parse (X := X) f .block ⟨(i72 + 1), d, nl72.map NdL.nd⟩ (fun h => by cases h) _ _ hr88; simp only [minT, dT, qT, List.length_map] at hv88
   have h88 : St _ K W a88 w88 _ [_, _, _, _, _, _, _] := ⟨hf88, h87.sh.backI (Lp := [_, _, _]) hs88⟩
   clear hf88 hs88 h87 hp89
   refine gG h88<|gE1 (fun _ _ h_ => x_lit (n := 1) (cs := [.int .i64 y88]) ([y88] : List Int) h_ sl_30 ti_3 rfl rfl rfl (by decide) rfl (by kernel_rfl) rfl (fun q hq w h => Flat.inner _ _) (fun q hq b hb => (Flat.on _ _ hb).elim) rfl rfl) rfl fun v90 => gE1 (fun _ _ h_ => x_app (r := 5) (rm := 0) (s := (⟨v74, [y69, y72]⟩ : Ls Int)) (m := (⟨v90, [y88]⟩ : Ls Int)) h_ sl_30 ti_3 rfl rfl rfl rfl rfl rfl rfl (fun w h => (h.own 0 rfl)) (fun b hb => own_on (h_.sh.ok _ (List.mem_of_getElem? (i := 0) rfl)) hb) (fun q hq b hb => ⟨q, hq, hb⟩) rfl rfl rfl inferInstance (show (([y69, y72]).length + ([y88]).length) * 8 ≤ 140737488355328 ∧ ([y69, y72]).length + ([y88]).length ≤ 140737488355328 from om9) rfl rfl) rfl fun v91 => gRn (oM 1 rfl<|.nl)<|nK k75<|sK fun _ k92 => gRn (oM 3 rfl<|.nl)<|gO [1, 2, 3, 5, 0, 4, 6, 7] rfl<|fun a98 w98 h98 => ?_; clear h88
   have hp97 := h98.sh.passL (Lp := [_, _, _, _])
   refine wl_ex (x_call h98 bd_37 rfl rfl rfl rfl rfl (pPut_c _ _ X tv nv88 i88 d nl88 _ 9 (atT X i) 0 ({ data := #[] }) (⟨v91, ([y69, y72]) ++ ([y88])⟩ : Ls Int) hp97 (by first | omega | (simp only [lens9]; omega)))) (wanted_none rfl _) ?_
   rintro a99 w99 ⟨_, ⟨nv99, rfl, hs99⟩, hf99⟩
   have hr99 : putP (⟨9, 0, (atT X i), { data := #[] }, [y69, y72, y88]⟩ : Nd) ⟨i88, d, nl88.map NdL.nd⟩ = .ok (((nl88.length : Nat) : Int), ⟨i88, d, (nl88 ++ [(⟨9, 0, (atT X i), { data := #[] }, (⟨v91, ([y69, y72]) ++ ([y88])⟩ : Ls Int)⟩ : NdL)]).map NdL.nd⟩) := put_eq (x := (⟨9, 0, (atT X i), { data := #[] }, (⟨v91, ([y69, y72]) ++ ([y88])⟩ : Ls Int)⟩ : NdL))
   have h99 : St _ K W a99 w99 _ [_, _, _, _, _, _, _] := ⟨hf99, h98.sh.backI (Lp := [_, _, _, _]) hs99⟩
   clear hf99 hs99
   clear h98
   refine gG h99<|gRn (oM 1 rfl<|.nl)<|nK k92<|gR<|uB<|uT<|fun a100 w100 h100 => rP <| x_ret1 (fn := Tryz.f75) (t := 2) rfl h100 rfl <| ⟨((nl88.length : Nat) : Int), i88, nv99, (nl88 ++ [(⟨9, 0, (atT X i), { data := #[] }, (⟨v91, ([y69, y72]) ++ ([y88])⟩ : Ls Int)⟩ : NdL)]), ?_, rfl, (h100.sh.sel [0, 1, 2] rfl)⟩; clear h99
   exact (by show stepP X _ _ _ = _; simp only [stepP, asgP, andP, isT, lvT, ↓reduceIte, Bool.false_eq_true, eq_self, Nat.add_sub_cancel, List.cons_append, List.nil_append, hr69, hr72, hr88, hr99, hc55, hc60, hc80])
  have hc101 : isL X i72 ([{ data := #[101, 108, 115, 101] }]) = false := (by assumption)
  refine gS<|hK k75<|sK fun _ k102 => gRn (oM 3 rfl<|.nl)<|gO [2, 3, 4, 1, 0, 5, 6] rfl<|fun a108 w108 h108 => ?_
  have hp107 := h108.sh.passL (Lp := [_, _, _, _])
  refine wl_ex (x_call h108 bd_37 rfl rfl rfl rfl rfl (pPut_c _ _ X tv nv72 i72 d nl72 _ 9 (atT X i) 0 ({ data := #[] }) (⟨v74, [y69, y72]⟩ : Ls Int) hp107 (by first | omega | (simp only [lens9]; omega)))) (wanted_none rfl _) ?_
  rintro a109 w109 ⟨_, ⟨nv109, rfl, hs109⟩, hf109⟩
  have hr109 : putP (⟨9, 0, (atT X i), { data := #[] }, [y69, y72]⟩ : Nd) ⟨i72, d, nl72.map NdL.nd⟩ = .ok (((nl72.length : Nat) : Int), ⟨i72, d, (nl72 ++ [(⟨9, 0, (atT X i), { data := #[] }, (⟨v74, [y69, y72]⟩ : Ls Int)⟩ : NdL)]).map NdL.nd⟩) := put_eq (x := (⟨9, 0, (atT X i), { data := #[] }, (⟨v74, [y69, y72]⟩ : Ls Int)⟩ : NdL))
  have h109 : St _ K W a109 w109 _ [_, _, _, _, _, _] := ⟨hf109, h108.sh.backI (Lp := [_, _, _, _]) hs109⟩
  clear hf109 hs109
  clear h108
  refine gG h109<|gRn (oM 1 rfl<|.nl)<|nK k102<|gF [2] rfl<|gR<|uB<|uT<|fun a110 w110 h110 => rP <| x_ret1 (fn := Tryz.f75) (t := 2) rfl h110 rfl <| ⟨((nl72.length : Nat) : Int), i72, nv109, (nl72 ++ [(⟨9, 0, (atT X i), { data := #[] }, (⟨v74, [y69, y72]⟩ : Ls Int)⟩ : NdL)]), ?_, rfl, (h110.sh.sel [0, 1, 2] rfl)⟩; clear h109
  exact (by show stepP X _ _ _ = _; simp only [stepP, asgP, andP, isT, lvT, ↓reduceIte, Bool.false_eq_true, eq_self, Nat.add_sub_cancel, List.cons_append, List.nil_append, hr69, hr72, hr109, hc55, hc60, hc101])
 have hc111 : isL X i ([{ data := #[105, 102] }]) = false := (by assumption)
 refine sK fun _ k112 => gRn (oM 1 rfl<|.nl)<|gE1 (fun _ _ h_ => x_lit (n := 1) (cs := [.string ({ data := #[119, 104, 105, 108, 101] })]) ([{ data := #[119, 104, 105, 108, 101] }] : List ByteArray) h_ sl_103 ti_9 rfl rfl rfl (by decide) rfl (by kernel_rfl) rfl (fun q hq w h => Flat.inner _ _) (fun q hq b hb => (Flat.on _ _ hb).elim) rfl rfl) rfl fun v113 => gP (fun _ _ h_ => xCl h_ bd_34 rfl (pIs_c g _ _ _ _ i _ (h_.sh.blk 3 rfl) (h_.sh.own 5 rfl) (⟨v113, [{ data := #[119, 104, 105, 108, 101] }]⟩ : Ls ByteArray) (h_.sh.own 0 rfl) (by first | exact Nat.le_of_ble_eq_true rfl | omega))) rfl<|gRn (oM 1 rfl<|.nl)<|nK k112<|gCb rfl (fun hb115 => ?_) fun hb115 => ?_
 ·skip
  have hc116 : isL X i ([{ data := #[119, 104, 105, 108, 101] }]) = true := (by assumption)
  have hl116 := isl_lt hc116
  refine sK fun _ k117 => gRn (oM 1 rfl<|.nl)<|?_
  have hl118 : i < X.T.length := (by first | assumption | exact isl_lt (by assumption) | exact kd_lt (by assumption))
  refine gO [3, 4, 5, 0, 1, 2] rfl<|fun a121 w121 h121 => ?_
  have hp120 := h121.sh.passL (Lp := [_, _, _])
  refine wl_ex (x_call h121 bd_70 rfl rfl rfl rfl rfl (pNext_c _ _ X tv nv i d nl _ hp120 hTl (by first | assumption | exact isl_lt (by assumption) | exact kd_lt (by assumption)))) (wanted_none rfl _) ?_
  rintro a122 w122 ⟨_, ⟨rfl, hs122⟩, hf122⟩
  have h122 : St _ K W a122 w122 _ [_, _, _, _, _, _] := ⟨hf122, h121.sh.backI (Lp := [_, _, _]) hs122⟩
  clear hf122 hs122
  clear h121
  refine gG h122<|nK k117<|sK fun _ k123 => gRn (oM 1 rfl<|.nl)<|fun a124 w124 h124 => ?_; clear h122
  have hp126 := h124.sh.passL (Lp := [_, _, _])
  refine wl_callP h124 bd_106 rfl rfl rfl rfl rfl (wanted_none rfl _) ((ih f (by omega)).he _ _ tv nv (i + 1) d nl _ hp126 hTl (by omega) (by omega) (by first | omega | (simp only [lens9]; omega)) (show 20 * (X.T.length - (i + 1)) + 1 ≤ f by omega)) ?_ ?_
  ·rintro x9 w9 ⟨xc, xa, hrx, rfl, hs9⟩
   exact pnF (P := Tryz.prog) (fn := Tryz.f75) h124.fr ⟨xc, xa, (by show stepP X _ _ _ = _; simp only [stepP, asgP, andP, isT, lvT, ↓reduceIte, Bool.false_eq_true, eq_self, Nat.add_sub_cancel, List.cons_append, List.nil_append, hrx, hc55, hc111, hc116]), rfl, ((h124.sh.backI (Lp := [_, _, _]) hs9).sel [] rfl)⟩
  rintro a125 w125 ⟨_, ⟨y125, i125, nv125, nl125, hr125, rfl, hs125⟩, hf125⟩
  have hv125 := adv_parse (X := X) f .held ⟨(i + 1), d, nl.map NdL.nd⟩ (fun h => by cases h) _ _ hr125; simp only [minT, dT, qT, List.length_map] at hv125
  have h125 : St _ K W a125 w125 _ [_, _, _, _, _, _] := ⟨hf125, h124.sh.backI (Lp := [_, _, _]) hs125⟩
  clear hf125 hs125 h124 hp126
  refine gG h125<|gRn (oM 1 rfl<|.nl)<|nK k123<|sK fun _ k127 => gRn (oM 4 rfl<|.nl)<|fun a128 w128 h128 => ?_; clear h125
  have hp130 := h128.sh.passL (Lp := [_, _, _])
  refine wl_callP h128 bd_38 rfl rfl rfl rfl rfl (wanted_none rfl _) ((ih f (by omega)).bl _ _ tv nv125 i125 d nl125 _ hp130 hTl (by omega) (by omega) (by first | omega | (simp only [lens9]; omega)) (show 20 * (X.T.length - i125) + 1 ≤ f by omega)) ?_ ?_
  ·rintro x9 w9 ⟨xc, xa, hrx, rfl, hs9⟩
   exact pnF (P := Tryz.prog) (fn := Tryz.f75) h128.fr ⟨xc, xa, (by show stepP X _ _ _ = _; simp only [stepP, asgP, andP, isT, lvT, ↓reduceIte, Bool.false_eq_true, eq_self, Nat.add_sub_cancel, List.cons_append, List.nil_append, hr125, hrx, hc55, hc111, hc116]), rfl, ((h128.sh.backI (Lp := [_, _, _]) hs9).sel [] rfl)⟩
  rintro a129 w129 ⟨_, ⟨y129, i129, nv129, nl129, hr129, rfl, hs129⟩, hf129⟩
  have hv129 := adv_parse (X := X) f .block ⟨i125, d, nl125.map NdL.nd⟩ (fun h => by cases h) _ _ hr129; simp only [minT, dT, qT, List.length_map] at hv129
  have h129 : St _ K W a129 w129 _ [_, _, _, _, _, _] := ⟨hf129, h128.sh.backI (Lp := [_, _, _]) hs129⟩
  clear hf129 hs129 h128 hp130
  refine gG h129<|gE1 (fun _ _ h_ => x_lit (n := 2) (cs := [.int .i64 y125, .int .i64 y129]) ([y125, y129] : List Int) h_ sl_30 ti_3 rfl rfl rfl (by decide) rfl (by kernel_rfl) rfl (fun q hq w h => Flat.inner _ _) (fun q hq b hb => (Flat.on _ _ hb).elim) rfl rfl) rfl fun v131 => gO [1, 2, 3, 0, 4, 5, 6] rfl<|fun a137 w137 h137 => ?_; clear h129
  have hp136 := h137.sh.passL (Lp := [_, _, _, _])
  refine wl_ex (x_call h137 bd_37 rfl rfl rfl rfl rfl (pPut_c _ _ X tv nv129 i129 d nl129 _ 10 (atT X i) 0 ({ data := #[] }) (⟨v131, [y125, y129]⟩ : Ls Int) hp136 (by first | omega | (simp only [lens9]; omega)))) (wanted_none rfl _) ?_
  rintro a138 w138 ⟨_, ⟨nv138, rfl, hs138⟩, hf138⟩
  have hr138 : putP (⟨10, 0, (atT X i), { data := #[] }, [y125, y129]⟩ : Nd) ⟨i129, d, nl129.map NdL.nd⟩ = .ok (((nl129.length : Nat) : Int), ⟨i129, d, (nl129 ++ [(⟨10, 0, (atT X i), { data := #[] }, (⟨v131, [y125, y129]⟩ : Ls Int)⟩ : NdL)]).map NdL.nd⟩) := put_eq (x := (⟨10, 0, (atT X i), { data := #[] }, (⟨v131, [y125, y129]⟩ : Ls Int)⟩ : NdL))
  have h138 : St _ K W a138 w138 _ [_, _, _, _, _, _] := ⟨hf138, h137.sh.backI (Lp := [_, _, _, _]) hs138⟩
  clear hf138 hs138
  clear h137
  refine gG h138<|gRn (oM 1 rfl<|.nl)<|nK k127<|gF [2] rfl<|gR<|uB<|uT<|fun a139 w139 h139 => rP <| x_ret1 (fn := Tryz.f75) (t := 2) rfl h139 rfl <| ⟨((nl129.length : Nat) : Int), i129, nv138, (nl129 ++ [(⟨10, 0, (atT X i), { data := #[] }, (⟨v131, [y125, y129]⟩ : Ls Int)⟩ : NdL)]), ?_, rfl, (h139.sh.sel [0, 1, 2] rfl)⟩; clear h138
  exact (by show stepP X _ _ _ = _; simp only [stepP, asgP, andP, isT, lvT, ↓reduceIte, Bool.false_eq_true, eq_self, Nat.add_sub_cancel, List.cons_append, List.nil_append, hr125, hr129, hr138, hc55, hc111, hc116])
 have hc140 : isL X i ([{ data := #[119, 104, 105, 108, 101] }]) = false := (by assumption)
 refine sK fun _ k141 => gRn (oM 1 rfl<|.nl)<|gE1 (fun _ _ h_ => x_lit (n := 1) (cs := [.string ({ data := #[112, 114, 105, 110, 116] })]) ([{ data := #[112, 114, 105, 110, 116] }] : List ByteArray) h_ sl_103 ti_9 rfl rfl rfl (by decide) rfl (by kernel_rfl) rfl (fun q hq w h => Flat.inner _ _) (fun q hq b hb => (Flat.on _ _ hb).elim) rfl rfl) rfl fun v142 => gP (fun _ _ h_ => xCl h_ bd_34 rfl (pIs_c g _ _ _ _ i _ (h_.sh.blk 4 rfl) (h_.sh.own 6 rfl) (⟨v142, [{ data := #[112, 114, 105, 110, 116] }]⟩ : Ls ByteArray) (h_.sh.own 0 rfl) (by first | exact Nat.le_of_ble_eq_true rfl | omega))) rfl<|gRn (oM 1 rfl<|.nl)<|nK k141<|gCb rfl (fun hb144 => ?_) fun hb144 => ?_
 ·skip
  have hc145 : isL X i ([{ data := #[112, 114, 105, 110, 116] }]) = true := (by assumption)
  have hl145 := isl_lt hc145
  refine sK fun _ k146 => gRn (oM 1 rfl<|.nl)<|?_
  have hl147 : i < X.T.length := (by first | assumption | exact isl_lt (by assumption) | exact kd_lt (by assumption))
  refine gO [4, 5, 6, 0, 1, 2, 3] rfl<|fun a150 w150 h150 => ?_
  have hp149 := h150.sh.passL (Lp := [_, _, _])
  refine wl_ex (x_call h150 bd_70 rfl rfl rfl rfl rfl (pNext_c _ _ X tv nv i d nl _ hp149 hTl (by first | assumption | exact isl_lt (by assumption) | exact kd_lt (by assumption)))) (wanted_none rfl _) ?_
  rintro a151 w151 ⟨_, ⟨rfl, hs151⟩, hf151⟩
  have h151 : St _ K W a151 w151 _ [_, _, _, _, _, _, _] := ⟨hf151, h150.sh.backI (Lp := [_, _, _]) hs151⟩
  clear hf151 hs151
  clear h150
  refine gG h151<|nK k146<|sK fun _ k152 => gRn (oM 1 rfl<|.nl)<|fun a153 w153 h153 => ?_; clear h151
  have hp155 := h153.sh.passL (Lp := [_, _, _])
  refine wl_callP h153 bd_106 rfl rfl rfl rfl rfl (wanted_none rfl _) ((ih f (by omega)).he _ _ tv nv (i + 1) d nl _ hp155 hTl (by omega) (by omega) (by first | omega | (simp only [lens9]; omega)) (show 20 * (X.T.length - (i + 1)) + 1 ≤ f by omega)) ?_ ?_
  ·rintro x9 w9 ⟨xc, xa, hrx, rfl, hs9⟩
   exact pnF (P := Tryz.prog) (fn := Tryz.f75) h153.fr ⟨xc, xa, (by show stepP X _ _ _ = _; simp only [stepP, asgP, andP, isT, lvT, ↓reduceIte, Bool.false_eq_true, eq_self, Nat.add_sub_cancel, List.cons_append, List.nil_append, hrx, hc55, hc111, hc140, hc145]), rfl, ((h153.sh.backI (Lp := [_, _, _]) hs9).sel [] rfl)⟩
  rintro a154 w154 ⟨_, ⟨y154, i154, nv154, nl154, hr154, rfl, hs154⟩, hf154⟩
  have hv154 := adv_parse (X := X) f .held ⟨(i + 1), d, nl.map NdL.nd⟩ (fun h => by cases h) _ _ hr154; simp only [minT, dT, qT, List.length_map] at hv154
  have h154 : St _ K W a154 w154 _ [_, _, _, _, _, _, _] := ⟨hf154, h153.sh.backI (Lp := [_, _, _]) hs154⟩
  clear hf154 hs154 h153 hp155
  refine gG h154<|gRn (oM 1 rfl<|.nl)<|nK k152<|gF [0, 3, 8] rfl<|sK fun _ k156 => gRn (oM 1 rfl<|.nl)<|fun a157 w157 h157 => ?_; clear h154
  have hp159 := h157.sh.passL (Lp := [_, _, _])
  refine wl_callP h157 bd_36 rfl rfl rfl rfl rfl (wanted_none rfl _) (pTake_c _ _ X tv nv154 i154 d nl154 _ hp159 hTl ({ data := #[59] })) ?_ ?_
  ·rintro x9 w9 ⟨xc, xa, hrx, rfl, hs9⟩
   exact pnF (P := Tryz.prog) (fn := Tryz.f75) h157.fr ⟨xc, xa, (by show stepP X _ _ _ = _; simp only [stepP, asgP, andP, isT, lvT, ↓reduceIte, Bool.false_eq_true, eq_self, Nat.add_sub_cancel, List.cons_append, List.nil_append, hr154, hrx, hc55, hc111, hc140, hc145]), rfl, ((h157.sh.backI (Lp := [_, _, _]) hs9).sel [] rfl)⟩
  rintro a158 w158 ⟨_, ⟨y158, hr158, hi158, rfl, hs158⟩, hf158⟩
  have hl158 : i154 < X.T.length := hi158
  have h158 : St _ K W a158 w158 _ [_, _, _, _, _, _, _] := ⟨hf158, h157.sh.backI (Lp := [_, _, _]) hs158⟩
  clear hf158 hs158 h157 hp159
  refine gG h158<|nK k156<|sK fun _ k160 => gRn (oM 3 rfl<|.nl)<|gE1 (fun _ _ h_ => x_lit (n := 1) (cs := [.int .i64 y154]) ([y154] : List Int) h_ sl_30 ti_3 rfl rfl rfl (by decide) rfl (by kernel_rfl) rfl (fun q hq w h => Flat.inner _ _) (fun q hq b hb => (Flat.on _ _ hb).elim) rfl rfl) rfl fun v161 => gO [1, 2, 3, 0, 4, 5, 6, 7] rfl<|fun a167 w167 h167 => ?_; clear h158
  have hp166 := h167.sh.passL (Lp := [_, _, _, _])
  refine wl_ex (x_call h167 bd_37 rfl rfl rfl rfl rfl (pPut_c _ _ X tv nv154 (i154 + 1) d nl154 _ 11 (atT X i) 0 ({ data := #[] }) (⟨v161, [y154]⟩ : Ls Int) hp166 (by first | omega | (simp only [lens9]; omega)))) (wanted_none rfl _) ?_
  rintro a168 w168 ⟨_, ⟨nv168, rfl, hs168⟩, hf168⟩
  have hr168 : putP (⟨11, 0, (atT X i), { data := #[] }, [y154]⟩ : Nd) ⟨(i154 + 1), d, nl154.map NdL.nd⟩ = .ok (((nl154.length : Nat) : Int), ⟨(i154 + 1), d, (nl154 ++ [(⟨11, 0, (atT X i), { data := #[] }, (⟨v161, [y154]⟩ : Ls Int)⟩ : NdL)]).map NdL.nd⟩) := put_eq (x := (⟨11, 0, (atT X i), { data := #[] }, (⟨v161, [y154]⟩ : Ls Int)⟩ : NdL))
  have h168 : St _ K W a168 w168 _ [_, _, _, _, _, _, _] := ⟨hf168, h167.sh.backI (Lp := [_, _, _, _]) hs168⟩
  clear hf168 hs168
  clear h167
  refine gG h168<|gRn (oM 1 rfl<|.nl)<|nK k160<|gR<|uB<|uT<|fun a169 w169 h169 => rP <| x_ret1 (fn := Tryz.f75) (t := 2) rfl h169 rfl <| ⟨((nl154.length : Nat) : Int), (i154 + 1), nv168, (nl154 ++ [(⟨11, 0, (atT X i), { data := #[] }, (⟨v161, [y154]⟩ : Ls Int)⟩ : NdL)]), ?_, rfl, (h169.sh.sel [0, 1, 2] rfl)⟩; clear h168
  exact (by show stepP X _ _ _ = _; simp only [stepP, asgP, andP, isT, lvT, ↓reduceIte, Bool.false_eq_true, eq_self, Nat.add_sub_cancel, List.cons_append, List.nil_append, hr154, hr158, hr168, hc55, hc111, hc140, hc145])
 have hc170 : isL X i ([{ data := #[112, 114, 105, 110, 116] }]) = false := (by assumption)
 refine sK fun _ k171 => gRn (oM 1 rfl<|.nl)<|gE1 (fun _ _ h_ => x_lit (n := 2) (cs := [.string ({ data := #[108, 111, 99, 107] }), .string ({ data := #[117, 110, 108, 111, 99, 107] })]) ([{ data := #[108, 111, 99, 107] }, { data := #[117, 110, 108, 111, 99, 107] }] : List ByteArray) h_ sl_103 ti_9 rfl rfl rfl (by decide) rfl (by kernel_rfl) rfl (fun q hq w h => Flat.inner _ _) (fun q hq b hb => (Flat.on _ _ hb).elim) rfl rfl) rfl fun v172 => gP (fun _ _ h_ => xCl h_ bd_34 rfl (pIs_c g _ _ _ _ i _ (h_.sh.blk 5 rfl) (h_.sh.own 7 rfl) (⟨v172, [{ data := #[108, 111, 99, 107] }, { data := #[117, 110, 108, 111, 99, 107] }]⟩ : Ls ByteArray) (h_.sh.own 0 rfl) (by first | exact Nat.le_of_ble_eq_true rfl | omega))) rfl<|gRn (oM 1 rfl<|.nl)<|nK k171<|gCb rfl (fun hb174 => ?_) fun hb174 => ?_
 ·skip
  have hc175 : isL X i ([{ data := #[108, 111, 99, 107] }, { data := #[117, 110, 108, 111, 99, 107] }]) = true := (by assumption)
  have hl175 := isl_lt hc175
  refine sG (oM 1 rfl<|.nl)<|gF [0, 3, 9] rfl<|gK fun _ k177 => sK fun _ k178 => gRn (oM 1 rfl<|.nl)<|?_
  have hl179 : i < X.T.length := (by first | assumption | exact isl_lt (by assumption) | exact kd_lt (by assumption))
  refine gO [5, 6, 7, 0, 1, 2, 3, 4] rfl<|fun a182 w182 h182 => ?_
  have hp181 := h182.sh.passL (Lp := [_, _, _])
  refine wl_ex (x_call h182 bd_70 rfl rfl rfl rfl rfl (pNext_c _ _ X tv nv i d nl _ hp181 hTl (by first | assumption | exact isl_lt (by assumption) | exact kd_lt (by assumption)))) (wanted_none rfl _) ?_
  rintro a183 w183 ⟨_, ⟨rfl, hs183⟩, hf183⟩
  have h183 : St _ K W a183 w183 _ [_, _, _, _, _, _, _, _] := ⟨hf183, h182.sh.backI (Lp := [_, _, _]) hs183⟩
  clear hf183 hs183
  clear h182
  refine gG h183<|gRn (oV (r_fieldG (u := .string ((nth X.T i).t)) rfl rfl (fun w => by kernel_rfl)) rfl<|oV (r_eqlStr (s := ((nth X.T i).t)) (t := ({ data := #[117, 110, 108, 111, 99, 107] })) rfl rfl rfl) rfl<|.nl)<|nK k178<|?_; clear h183
  refine gcd rfl (fun hb184 hp184 => ?_) fun hb184 hp184 => ?_
  ·skip
   have hc185 : ((nth X.T i).t = { data := #[117, 110, 108, 111, 99, 107] }) := (by assumption)
   refine gL<|gRn (oM 1 rfl<|.nl)<|nK k177<|sK fun _ k186 => gRn (oM 1 rfl<|.nl)<|fun a187 w187 h187 => ?_
   have hp189 := h187.sh.passL (Lp := [_, _, _])
   refine wl_callP h187 bd_74 rfl rfl rfl rfl rfl (wanted_none rfl _) (pOpen_c _ _ X tv nv (i + 1) d nl _ hp189 hTl (by omega) ({ data := #[40] })) ?_ ?_
   ·rintro x9 w9 ⟨xc, xa, hrx, rfl, hs9⟩
    exact pnF (P := Tryz.prog) (fn := Tryz.f75) h187.fr ⟨xc, xa, (by show stepP X _ _ _ = _; simp only [stepP, asgP, andP, isT, lvT, ↓reduceIte, Bool.false_eq_true, eq_self, Nat.add_sub_cancel, List.cons_append, List.nil_append, hrx, hc55, hc111, hc140, hc170, hc175, hc185]), rfl, ((h187.sh.backI (Lp := [_, _, _]) hs9).sel [] rfl)⟩
   rintro a188 w188 ⟨_, ⟨y188, hr188, hi188, rfl, hs188⟩, hf188⟩
   have hl188 : (i + 1) < X.T.length := hi188
   have hd188 := open_d20 hr188
   have h188 : St _ K W a188 w188 _ [_, _, _, _, _, _, _, _] := ⟨hf188, h187.sh.backI (Lp := [_, _, _]) hs188⟩
   clear hf188 hs188 h187 hp189
   refine gG h188<|nK k186<|sK fun _ k190 => gRn (oM 1 rfl<|.nl)<|fun a191 w191 h191 => ?_; clear h188
   have hp193 := h191.sh.passL (Lp := [_, _, _])
   refine wl_callP h191 bd_71 rfl rfl rfl rfl rfl (wanted_none rfl _) (pName_c _ _ X tv nv ((i + 1) + 1) (d + 1) nl _ hp193 hTl) ?_ ?_
   ·rintro x9 w9 ⟨xc, xa, hrx, rfl, hs9⟩
    exact pnF (P := Tryz.prog) (fn := Tryz.f75) h191.fr ⟨xc, xa, (by show stepP X _ _ _ = _; simp only [stepP, asgP, andP, isT, lvT, ↓reduceIte, Bool.false_eq_true, eq_self, Nat.add_sub_cancel, List.cons_append, List.nil_append, hr188, hrx, hc55, hc111, hc140, hc170, hc175, hc185]), rfl, ((h191.sh.backI (Lp := [_, _, _]) hs9).sel [] rfl)⟩
   rintro a192 w192 ⟨_, ⟨y192, hr192, hi192, rfl, hs192⟩, hf192⟩
   have hl192 : ((i + 1) + 1) < X.T.length := hi192
   have h192 : St _ K W a192 w192 _ [_, _, _, _, _, _, _, _] := ⟨hf192, h191.sh.backI (Lp := [_, _, _]) hs192⟩
   clear hf192 hs192 h191 hp193
   refine gG h192<|gal ti_81 rfl fun b194 => gsw 0 ti_81 rfl rfl rfl<|nK k190<|sK fun _ k196 => gRn (oM 1 rfl<|.nl)<|fun a197 w197 h197 => ?_; clear h192
   have h199 := h197.sel (L' := [_, _, _, _, _, _, _, _, _]) [1, 2, 3, 0, 4, 5, 6, 7, 8] rfl
   have hp200 := h199.sh.passL (Lp := [_, _, _])
   refine wl_callP h199 bd_76 rfl rfl rfl rfl rfl (wanted_none rfl _) (pShut_c _ _ X tv nv (((i + 1) + 1) + 1) (d + 1) nl _ hp200 hTl (by omega) ({ data := #[41] })) ?_ ?_
   ·rintro x9 w9 ⟨xc, xa, hrx, rfl, hs9⟩
    exact pnF (P := Tryz.prog) (fn := Tryz.f75) h199.fr ⟨xc, xa, (by show stepP X _ _ _ = _; simp only [stepP, asgP, andP, isT, lvT, ↓reduceIte, Bool.false_eq_true, eq_self, Nat.add_sub_cancel, List.cons_append, List.nil_append, hr188, hr192, hrx, hc55, hc111, hc140, hc170, hc175, hc185]), rfl, ((h199.sh.backI (Lp := [_, _, _]) hs9).sel [] rfl)⟩
   rintro a198 w198 ⟨_, ⟨y198, hr198, hi198, rfl, hs198⟩, hf198⟩
   have hl198 : (((i + 1) + 1) + 1) < X.T.length := hi198
   have h198 : St _ K W a198 w198 _ [_, _, _, _, _, _, _, _, _] := ⟨hf198, h199.sh.backI (Lp := [_, _, _]) hs198⟩
   clear hf198 hs198 h199 hp200
   refine gG h198<|nK k196<|sK fun _ k201 => gRn (oM 1 rfl<|.nl)<|fun a202 w202 h202 => ?_; clear h198
   have hp204 := h202.sh.passL (Lp := [_, _, _])
   refine wl_callP h202 bd_36 rfl rfl rfl rfl rfl (wanted_none rfl _) (pTake_c _ _ X tv nv ((((i + 1) + 1) + 1) + 1) d nl _ hp204 hTl ({ data := #[59] })) ?_ ?_
   ·rintro x9 w9 ⟨xc, xa, hrx, rfl, hs9⟩
    exact pnF (P := Tryz.prog) (fn := Tryz.f75) h202.fr ⟨xc, xa, (by show stepP X _ _ _ = _; simp only [stepP, asgP, andP, isT, lvT, ↓reduceIte, Bool.false_eq_true, eq_self, Nat.add_sub_cancel, List.cons_append, List.nil_append, hr188, hr192, hr198, hrx, hc55, hc111, hc140, hc170, hc175, hc185]), rfl, ((h202.sh.backI (Lp := [_, _, _]) hs9).sel [] rfl)⟩
   rintro a203 w203 ⟨_, ⟨y203, hr203, hi203, rfl, hs203⟩, hf203⟩
   have hl203 : ((((i + 1) + 1) + 1) + 1) < X.T.length := hi203
   have h203 : St _ K W a203 w203 _ [_, _, _, _, _, _, _, _, _] := ⟨hf203, h202.sh.backI (Lp := [_, _, _]) hs203⟩
   clear hf203 hs203 h202 hp204
   refine gG h203<|nK k201<|sK fun _ k205 => gRn (oM 3 rfl<|ofB fl_81_3 rfl<|olB 3 ti_9 rfl rfl<|.nl)<|fun a208 w208 h208 => ?_; clear h203
   have h207 := h208.nil (α := Int) 3
   clear h208
   have h209 := h207.sel (L' := [_, _, _, _, _, _, _, _, _, _]) [1, 2, 3, 0, 4, 5, 6, 7, 8, 9] rfl
   have hp210 := h209.sh.passL (Lp := [_, _, _, _])
   refine wl_ex (x_call h209 bd_37 rfl rfl rfl rfl rfl (pPut_c _ _ X tv nv (((((i + 1) + 1) + 1) + 1) + 1) d nl _ 13 (atT X i) 0 y192.t (⟨.slice none 0 0, []⟩ : Ls Int) hp210 (by first | omega | (simp only [lens9]; omega)))) (wanted_none rfl _) ?_
   rintro a211 w211 ⟨_, ⟨nv211, rfl, hs211⟩, hf211⟩
   have hr211 : putP (⟨13, 0, (atT X i), y192.t, []⟩ : Nd) ⟨(((((i + 1) + 1) + 1) + 1) + 1), d, nl.map NdL.nd⟩ = .ok (((nl.length : Nat) : Int), ⟨(((((i + 1) + 1) + 1) + 1) + 1), d, (nl ++ [(⟨13, 0, (atT X i), y192.t, (⟨.slice none 0 0, []⟩ : Ls Int)⟩ : NdL)]).map NdL.nd⟩) := put_eq (x := (⟨13, 0, (atT X i), y192.t, (⟨.slice none 0 0, []⟩ : Ls Int)⟩ : NdL))
   have h211 : St _ K W a211 w211 _ [_, _, _, _, _, _, _, _, _] := ⟨hf211, h209.sh.backI (Lp := [_, _, _, _]) hs211⟩
   clear hf211 hs211
   clear h209
   refine gG h211<|gRn (oM 1 rfl<|.nl)<|nK k205<|gR<|uB<|uT<|fun a212 w212 h212 => rP <| x_ret1 (fn := Tryz.f75) (t := 2) rfl h212 rfl <| ⟨((nl.length : Nat) : Int), (((((i + 1) + 1) + 1) + 1) + 1), nv211, (nl ++ [(⟨13, 0, (atT X i), y192.t, (⟨.slice none 0 0, []⟩ : Ls Int)⟩ : NdL)]), ?_, rfl, (h212.sh.sel [0, 1, 2] rfl)⟩; clear h211
   exact (by show stepP X _ _ _ = _; simp only [stepP, asgP, andP, isT, lvT, ↓reduceIte, Bool.false_eq_true, eq_self, Nat.add_sub_cancel, List.cons_append, List.nil_append, hr188, hr192, hr198, hr203, hr211, hc55, hc111, hc140, hc170, hc175, hc185])
  have hc213 : ¬((nth X.T i).t = { data := #[117, 110, 108, 111, 99, 107] }) := (by assumption)
  refine gS<|hK k177<|sK fun _ k214 => gRn (oM 1 rfl<|.nl)<|fun a215 w215 h215 => ?_
  have hp217 := h215.sh.passL (Lp := [_, _, _])
  refine wl_callP h215 bd_74 rfl rfl rfl rfl rfl (wanted_none rfl _) (pOpen_c _ _ X tv nv (i + 1) d nl _ hp217 hTl (by omega) ({ data := #[40] })) ?_ ?_
  ·rintro x9 w9 ⟨xc, xa, hrx, rfl, hs9⟩
   exact pnF (P := Tryz.prog) (fn := Tryz.f75) h215.fr ⟨xc, xa, (by show stepP X _ _ _ = _; simp only [stepP, asgP, andP, isT, lvT, ↓reduceIte, Bool.false_eq_true, eq_self, Nat.add_sub_cancel, List.cons_append, List.nil_append, hrx, hc55, hc111, hc140, hc170, hc175, hc213]), rfl, ((h215.sh.backI (Lp := [_, _, _]) hs9).sel [] rfl)⟩
  rintro a216 w216 ⟨_, ⟨y216, hr216, hi216, rfl, hs216⟩, hf216⟩
  have hl216 : (i + 1) < X.T.length := hi216
  have hd216 := open_d20 hr216
  have h216 : St _ K W a216 w216 _ [_, _, _, _, _, _, _, _] := ⟨hf216, h215.sh.backI (Lp := [_, _, _]) hs216⟩
  clear hf216 hs216 h215 hp217
  refine gG h216<|nK k214<|sK fun _ k218 => gRn (oM 1 rfl<|.nl)<|fun a219 w219 h219 => ?_; clear h216
  have hp221 := h219.sh.passL (Lp := [_, _, _])
  refine wl_callP h219 bd_71 rfl rfl rfl rfl rfl (wanted_none rfl _) (pName_c _ _ X tv nv ((i + 1) + 1) (d + 1) nl _ hp221 hTl) ?_ ?_
  ·rintro x9 w9 ⟨xc, xa, hrx, rfl, hs9⟩
   exact pnF (P := Tryz.prog) (fn := Tryz.f75) h219.fr ⟨xc, xa, (by show stepP X _ _ _ = _; simp only [stepP, asgP, andP, isT, lvT, ↓reduceIte, Bool.false_eq_true, eq_self, Nat.add_sub_cancel, List.cons_append, List.nil_append, hr216, hrx, hc55, hc111, hc140, hc170, hc175, hc213]), rfl, ((h219.sh.backI (Lp := [_, _, _]) hs9).sel [] rfl)⟩
  rintro a220 w220 ⟨_, ⟨y220, hr220, hi220, rfl, hs220⟩, hf220⟩
  have hl220 : ((i + 1) + 1) < X.T.length := hi220
  have h220 : St _ K W a220 w220 _ [_, _, _, _, _, _, _, _] := ⟨hf220, h219.sh.backI (Lp := [_, _, _]) hs220⟩
  clear hf220 hs220 h219 hp221
  refine gG h220<|gal ti_81 rfl fun b222 => gsw 0 ti_81 rfl rfl rfl<|nK k218<|sK fun _ k224 => gRn (oM 1 rfl<|.nl)<|fun a225 w225 h225 => ?_; clear h220
  have h227 := h225.sel (L' := [_, _, _, _, _, _, _, _, _]) [1, 2, 3, 0, 4, 5, 6, 7, 8] rfl
  have hp228 := h227.sh.passL (Lp := [_, _, _])
  refine wl_callP h227 bd_76 rfl rfl rfl rfl rfl (wanted_none rfl _) (pShut_c _ _ X tv nv (((i + 1) + 1) + 1) (d + 1) nl _ hp228 hTl (by omega) ({ data := #[41] })) ?_ ?_
  ·rintro x9 w9 ⟨xc, xa, hrx, rfl, hs9⟩
   exact pnF (P := Tryz.prog) (fn := Tryz.f75) h227.fr ⟨xc, xa, (by show stepP X _ _ _ = _; simp only [stepP, asgP, andP, isT, lvT, ↓reduceIte, Bool.false_eq_true, eq_self, Nat.add_sub_cancel, List.cons_append, List.nil_append, hr216, hr220, hrx, hc55, hc111, hc140, hc170, hc175, hc213]), rfl, ((h227.sh.backI (Lp := [_, _, _]) hs9).sel [] rfl)⟩
  rintro a226 w226 ⟨_, ⟨y226, hr226, hi226, rfl, hs226⟩, hf226⟩
  have hl226 : (((i + 1) + 1) + 1) < X.T.length := hi226
  have h226 : St _ K W a226 w226 _ [_, _, _, _, _, _, _, _, _] := ⟨hf226, h227.sh.backI (Lp := [_, _, _]) hs226⟩
  clear hf226 hs226 h227 hp228
  refine gG h226<|nK k224<|sK fun _ k229 => gRn (oM 1 rfl<|.nl)<|fun a230 w230 h230 => ?_; clear h226
  have hp232 := h230.sh.passL (Lp := [_, _, _])
  refine wl_callP h230 bd_36 rfl rfl rfl rfl rfl (wanted_none rfl _) (pTake_c _ _ X tv nv ((((i + 1) + 1) + 1) + 1) d nl _ hp232 hTl ({ data := #[59] })) ?_ ?_
  ·rintro x9 w9 ⟨xc, xa, hrx, rfl, hs9⟩
   exact pnF (P := Tryz.prog) (fn := Tryz.f75) h230.fr ⟨xc, xa, (by show stepP X _ _ _ = _; simp only [stepP, asgP, andP, isT, lvT, ↓reduceIte, Bool.false_eq_true, eq_self, Nat.add_sub_cancel, List.cons_append, List.nil_append, hr216, hr220, hr226, hrx, hc55, hc111, hc140, hc170, hc175, hc213]), rfl, ((h230.sh.backI (Lp := [_, _, _]) hs9).sel [] rfl)⟩
  rintro a231 w231 ⟨_, ⟨y231, hr231, hi231, rfl, hs231⟩, hf231⟩
  have hl231 : ((((i + 1) + 1) + 1) + 1) < X.T.length := hi231
  have h231 : St _ K W a231 w231 _ [_, _, _, _, _, _, _, _, _] := ⟨hf231, h230.sh.backI (Lp := [_, _, _]) hs231⟩
  clear hf231 hs231 h230 hp232
  refine gG h231<|nK k229<|sK fun _ k233 => gRn (oM 3 rfl<|ofB fl_81_3 rfl<|olB 3 ti_9 rfl rfl<|.nl)<|fun a236 w236 h236 => ?_; clear h231
  have h235 := h236.nil (α := Int) 3
  clear h236
  have h237 := h235.sel (L' := [_, _, _, _, _, _, _, _, _, _]) [1, 2, 3, 0, 4, 5, 6, 7, 8, 9] rfl
  have hp238 := h237.sh.passL (Lp := [_, _, _, _])
  refine wl_ex (x_call h237 bd_37 rfl rfl rfl rfl rfl (pPut_c _ _ X tv nv (((((i + 1) + 1) + 1) + 1) + 1) d nl _ 12 (atT X i) 0 y220.t (⟨.slice none 0 0, []⟩ : Ls Int) hp238 (by first | omega | (simp only [lens9]; omega)))) (wanted_none rfl _) ?_
  rintro a239 w239 ⟨_, ⟨nv239, rfl, hs239⟩, hf239⟩
  have hr239 : putP (⟨12, 0, (atT X i), y220.t, []⟩ : Nd) ⟨(((((i + 1) + 1) + 1) + 1) + 1), d, nl.map NdL.nd⟩ = .ok (((nl.length : Nat) : Int), ⟨(((((i + 1) + 1) + 1) + 1) + 1), d, (nl ++ [(⟨12, 0, (atT X i), y220.t, (⟨.slice none 0 0, []⟩ : Ls Int)⟩ : NdL)]).map NdL.nd⟩) := put_eq (x := (⟨12, 0, (atT X i), y220.t, (⟨.slice none 0 0, []⟩ : Ls Int)⟩ : NdL))
  have h239 : St _ K W a239 w239 _ [_, _, _, _, _, _, _, _, _] := ⟨hf239, h237.sh.backI (Lp := [_, _, _, _]) hs239⟩
  clear hf239 hs239
  clear h237
  refine gG h239<|gRn (oM 1 rfl<|.nl)<|nK k233<|gR<|uB<|uT<|fun a240 w240 h240 => rP <| x_ret1 (fn := Tryz.f75) (t := 2) rfl h240 rfl <| ⟨((nl.length : Nat) : Int), (((((i + 1) + 1) + 1) + 1) + 1), nv239, (nl ++ [(⟨12, 0, (atT X i), y220.t, (⟨.slice none 0 0, []⟩ : Ls Int)⟩ : NdL)]), ?_, rfl, (h240.sh.sel [0, 1, 2] rfl)⟩; clear h239
  exact (by show stepP X _ _ _ = _; simp only [stepP, asgP, andP, isT, lvT, ↓reduceIte, Bool.false_eq_true, eq_self, Nat.add_sub_cancel, List.cons_append, List.nil_append, hr216, hr220, hr226, hr231, hr239, hc55, hc111, hc140, hc170, hc175, hc213])
 have hc241 : isL X i ([{ data := #[108, 111, 99, 107] }, { data := #[117, 110, 108, 111, 99, 107] }]) = false := (by assumption)
 refine sK fun _ k242 => gRn (oM 1 rfl<|.nl)<|gE1 (fun _ _ h_ => x_lit (n := 1) (cs := [.string ({ data := #[102, 101, 110, 99, 101] })]) ([{ data := #[102, 101, 110, 99, 101] }] : List ByteArray) h_ sl_103 ti_9 rfl rfl rfl (by decide) rfl (by kernel_rfl) rfl (fun q hq w h => Flat.inner _ _) (fun q hq b hb => (Flat.on _ _ hb).elim) rfl rfl) rfl fun v243 => gP (fun _ _ h_ => xCl h_ bd_34 rfl (pIs_c g _ _ _ _ i _ (h_.sh.blk 6 rfl) (h_.sh.own 8 rfl) (⟨v243, [{ data := #[102, 101, 110, 99, 101] }]⟩ : Ls ByteArray) (h_.sh.own 0 rfl) (by first | exact Nat.le_of_ble_eq_true rfl | omega))) rfl<|gRn (oM 1 rfl<|.nl)<|nK k242<|gF [0, 3, 114] rfl<|gCb rfl (fun hb245 => ?_) fun hb245 => ?_
 ·skip
  have hc246 : isL X i ([{ data := #[102, 101, 110, 99, 101] }]) = true := (by assumption)
  have hl246 := isl_lt hc246
  refine sK fun _ k247 => gRn (oM 1 rfl<|.nl)<|?_
  have hl248 : i < X.T.length := (by first | assumption | exact isl_lt (by assumption) | exact kd_lt (by assumption))
  refine gO [6, 7, 8, 0, 1, 2, 3, 4, 5] rfl<|fun a251 w251 h251 => ?_
  have hp250 := h251.sh.passL (Lp := [_, _, _])
  refine wl_ex (x_call h251 bd_70 rfl rfl rfl rfl rfl (pNext_c _ _ X tv nv i d nl _ hp250 hTl (by first | assumption | exact isl_lt (by assumption) | exact kd_lt (by assumption)))) (wanted_none rfl _) ?_
  rintro a252 w252 ⟨_, ⟨rfl, hs252⟩, hf252⟩
  have h252 : St _ K W a252 w252 _ [_, _, _, _, _, _, _, _, _] := ⟨hf252, h251.sh.backI (Lp := [_, _, _]) hs252⟩
  clear hf252 hs252
  clear h251
  refine gG h252<|nK k247<|sK fun _ k253 => gRn (oM 1 rfl<|.nl)<|fun a254 w254 h254 => ?_; clear h252
  have hp256 := h254.sh.passL (Lp := [_, _, _])
  refine wl_callP h254 bd_36 rfl rfl rfl rfl rfl (wanted_none rfl _) (pTake_c _ _ X tv nv (i + 1) d nl _ hp256 hTl ({ data := #[59] })) ?_ ?_
  ·rintro x9 w9 ⟨xc, xa, hrx, rfl, hs9⟩
   exact pnF (P := Tryz.prog) (fn := Tryz.f75) h254.fr ⟨xc, xa, (by show stepP X _ _ _ = _; simp only [stepP, asgP, andP, isT, lvT, ↓reduceIte, Bool.false_eq_true, eq_self, Nat.add_sub_cancel, List.cons_append, List.nil_append, hrx, hc55, hc111, hc140, hc170, hc241, hc246]), rfl, ((h254.sh.backI (Lp := [_, _, _]) hs9).sel [] rfl)⟩
  rintro a255 w255 ⟨_, ⟨y255, hr255, hi255, rfl, hs255⟩, hf255⟩
  have hl255 : (i + 1) < X.T.length := hi255
  have h255 : St _ K W a255 w255 _ [_, _, _, _, _, _, _, _, _] := ⟨hf255, h254.sh.backI (Lp := [_, _, _]) hs255⟩
  clear hf255 hs255 h254 hp256
  refine gG h255<|nK k253<|sK fun _ k257 => gRn (oM 2 rfl<|.nl)<|fun a260 w260 h260 => ?_; clear h255
  have h259 := h260.nil (α := Int) 3
  clear h260
  have h261 := h259.sel (L' := [_, _, _, _, _, _, _, _, _, _]) [1, 2, 3, 0, 4, 5, 6, 7, 8, 9] rfl
  have hp262 := h261.sh.passL (Lp := [_, _, _, _])
  refine wl_ex (x_call h261 bd_37 rfl rfl rfl rfl rfl (pPut_c _ _ X tv nv ((i + 1) + 1) d nl _ 14 (atT X i) 0 ({ data := #[] }) (⟨.slice none 0 0, []⟩ : Ls Int) hp262 (by first | omega | (simp only [lens9]; omega)))) (wanted_none rfl _) ?_
  rintro a263 w263 ⟨_, ⟨nv263, rfl, hs263⟩, hf263⟩
  have hr263 : putP (⟨14, 0, (atT X i), { data := #[] }, []⟩ : Nd) ⟨((i + 1) + 1), d, nl.map NdL.nd⟩ = .ok (((nl.length : Nat) : Int), ⟨((i + 1) + 1), d, (nl ++ [(⟨14, 0, (atT X i), { data := #[] }, (⟨.slice none 0 0, []⟩ : Ls Int)⟩ : NdL)]).map NdL.nd⟩) := put_eq (x := (⟨14, 0, (atT X i), { data := #[] }, (⟨.slice none 0 0, []⟩ : Ls Int)⟩ : NdL))
  have h263 : St _ K W a263 w263 _ [_, _, _, _, _, _, _, _, _] := ⟨hf263, h261.sh.backI (Lp := [_, _, _, _]) hs263⟩
  clear hf263 hs263
  clear h261
  refine gG h263<|gRn (oM 1 rfl<|.nl)<|nK k257<|gR<|uB<|uT<|fun a264 w264 h264 => rP <| x_ret1 (fn := Tryz.f75) (t := 2) rfl h264 rfl <| ⟨((nl.length : Nat) : Int), ((i + 1) + 1), nv263, (nl ++ [(⟨14, 0, (atT X i), { data := #[] }, (⟨.slice none 0 0, []⟩ : Ls Int)⟩ : NdL)]), ?_, rfl, (h264.sh.sel [0, 1, 2] rfl)⟩; clear h263
  exact (by show stepP X _ _ _ = _; simp only [stepP, asgP, andP, isT, lvT, ↓reduceIte, Bool.false_eq_true, eq_self, Nat.add_sub_cancel, List.cons_append, List.nil_append, hr255, hr263, hc55, hc111, hc140, hc170, hc241, hc246])
 have hc265 : isL X i ([{ data := #[102, 101, 110, 99, 101] }]) = false := (by assumption)
 refine gS<|hK k14<|sK fun _ k266 => gRn (oM 1 rfl<|.nl)<|fun a267 w267 h267 => ?_
 have h269 := h267.sel (L' := [_, _, _, _, _, _, _, _, _]) [6, 7, 8, 0, 1, 2, 3, 4, 5] rfl
 have hp270 := h269.sh.passL (Lp := [_, _, _])
 refine wl_callP h269 bd_71 rfl rfl rfl rfl rfl (wanted_none rfl _) (pName_c _ _ X tv nv i d nl _ hp270 hTl) ?_ ?_
 ·rintro x9 w9 ⟨xc, xa, hrx, rfl, hs9⟩
  exact pnF (P := Tryz.prog) (fn := Tryz.f75) h269.fr ⟨xc, xa, (by show stepP X _ _ _ = _; simp only [stepP, asgP, andP, isT, lvT, ↓reduceIte, Bool.false_eq_true, eq_self, Nat.add_sub_cancel, List.cons_append, List.nil_append, hrx, hc55, hc111, hc140, hc170, hc241, hc265]), rfl, ((h269.sh.backI (Lp := [_, _, _]) hs9).sel [] rfl)⟩
 rintro a268 w268 ⟨_, ⟨y268, hr268, hi268, rfl, hs268⟩, hf268⟩
 have hl268 : i < X.T.length := hi268
 have h268 : St _ K W a268 w268 _ [_, _, _, _, _, _, _, _, _] := ⟨hf268, h269.sh.backI (Lp := [_, _, _]) hs268⟩
 clear hf268 hs268 h269 hp270
 refine gG h268<|gal ti_81 rfl fun b271 => gsw 0 ti_81 rfl rfl rfl<|nK k266<|sK fun _ k273 => gRn (oM 1 rfl<|.nl)<|fun a274 w274 h274 => ?_; clear h268
 have h276 := h274.sel (L' := [_, _, _, _, _, _, _, _, _, _]) [1, 2, 3, 0, 4, 5, 6, 7, 8, 9] rfl
 have hp277 := h276.sh.passL (Lp := [_, _, _])
 refine wl_callP h276 bd_36 rfl rfl rfl rfl rfl (wanted_none rfl _) (pTake_c _ _ X tv nv (i + 1) d nl _ hp277 hTl ({ data := #[61] })) ?_ ?_
 ·rintro x9 w9 ⟨xc, xa, hrx, rfl, hs9⟩
  exact pnF (P := Tryz.prog) (fn := Tryz.f75) h276.fr ⟨xc, xa, (by show stepP X _ _ _ = _; simp only [stepP, asgP, andP, isT, lvT, ↓reduceIte, Bool.false_eq_true, eq_self, Nat.add_sub_cancel, List.cons_append, List.nil_append, hr268, hrx, hc55, hc111, hc140, hc170, hc241, hc265]), rfl, ((h276.sh.backI (Lp := [_, _, _]) hs9).sel [] rfl)⟩
 rintro a275 w275 ⟨_, ⟨y275, hr275, hi275, rfl, hs275⟩, hf275⟩
 have hl275 : (i + 1) < X.T.length := hi275
 have h275 : St _ K W a275 w275 _ [_, _, _, _, _, _, _, _, _, _] := ⟨hf275, h276.sh.backI (Lp := [_, _, _]) hs275⟩
 clear hf275 hs275 h276 hp277
 refine gG h275<|nK k273<|gK fun _ k278 => sK fun _ k279 => gRn (oM 1 rfl<|.nl)<|gE1 (fun _ _ h_ => x_lit (n := 1) (cs := [.string ({ data := #[99, 97, 115] })]) ([{ data := #[99, 97, 115] }] : List ByteArray) h_ sl_103 ti_9 rfl rfl rfl (by decide) rfl (by kernel_rfl) rfl (fun q hq w h => Flat.inner _ _) (fun q hq b hb => (Flat.on _ _ hb).elim) rfl rfl) rfl fun v280 => gP (fun _ _ h_ => xCl h_ bd_34 rfl (pIs_c g _ _ _ _ ((i + 1) + 1) _ (h_.sh.blk 1 rfl) (h_.sh.own 3 rfl) (⟨v280, [{ data := #[99, 97, 115] }]⟩ : Ls ByteArray) (h_.sh.own 0 rfl) (by first | exact Nat.le_of_ble_eq_true rfl | omega))) rfl<|nK k279<|?_; clear h275
 refine gCb rfl (fun hb282 => ?_) fun hb282 => ?_
 ·skip
  have hc283 : isL X ((i + 1) + 1) ([{ data := #[99, 97, 115] }]) = true := (by assumption)
  have hl283 := isl_lt hc283
  refine sK fun _ k284 => gRn (oM 1 rfl<|.nl)<|fun a285 w285 h285 => ?_
  have h287 := h285.sel (L' := [_, _, _, _, _, _, _, _, _, _, _]) [1, 2, 3, 0, 4, 5, 6, 7, 8, 9, 10] rfl
  have hp288 := h287.sh.passL (Lp := [_, _, _])
  refine wl_callP h287 bd_107 rfl rfl rfl rfl rfl (wanted_none rfl _) (pCas_c _ _ X tv nv ((i + 1) + 1) d nl f _ hp288 hTl (by omega) (by omega) (by first | omega | (simp only [lens9]; omega)) ih (isl_lt (by assumption)) (by omega)) ?_ ?_
  ·rintro x9 w9 ⟨xc, xa, hrx, rfl, hs9⟩
   exact pnF (P := Tryz.prog) (fn := Tryz.f75) h287.fr ⟨xc, xa, (by show stepP X _ _ _ = _; simp only [stepP, asgP, andP, isT, lvT, ↓reduceIte, Bool.false_eq_true, eq_self, Nat.add_sub_cancel, List.cons_append, List.nil_append, hr268, hr275, hrx, hc55, hc111, hc140, hc170, hc241, hc265, hc283]), rfl, ((h287.sh.backI (Lp := [_, _, _]) hs9).sel [] rfl)⟩
  rintro a286 w286 ⟨_, ⟨kw286, kk286, i286, nv286, nl286, hr286, rfl, hs286⟩, hf286⟩
  have hv286 := adv_cas (adv_parse f) (s := ⟨((i + 1) + 1), d, nl.map NdL.nd⟩) (isl_lt (by assumption)) _ _ hr286; simp only [List.length_map] at hv286
  have h286 : St _ K W a286 w286 _ [_, _, _, _, _, _, _, _, _, _, _, _] := ⟨hf286, h287.sh.backI (Lp := [_, _, _]) hs286⟩
  clear hf286 hs286 h287 hp288
  refine gG h286<|gRn (oM 1 rfl<|.nl)<|nK k284<|sK fun _ k289 => gRn (oM 1 rfl<|.nl)<|fun a290 w290 h290 => ?_; clear h286
  have hp292 := h290.sh.passL (Lp := [_, _, _])
  refine wl_callP h290 bd_36 rfl rfl rfl rfl rfl (wanted_none rfl _) (pTake_c _ _ X tv nv286 i286 d nl286 _ hp292 hTl ({ data := #[59] })) ?_ ?_
  ·rintro x9 w9 ⟨xc, xa, hrx, rfl, hs9⟩
   exact pnF (P := Tryz.prog) (fn := Tryz.f75) h290.fr ⟨xc, xa, (by show stepP X _ _ _ = _; simp only [stepP, asgP, andP, isT, lvT, ↓reduceIte, Bool.false_eq_true, eq_self, Nat.add_sub_cancel, List.cons_append, List.nil_append, hr268, hr275, hr286, hrx, hc55, hc111, hc140, hc170, hc241, hc265, hc283]), rfl, ((h290.sh.backI (Lp := [_, _, _]) hs9).sel [] rfl)⟩
  rintro a291 w291 ⟨_, ⟨y291, hr291, hi291, rfl, hs291⟩, hf291⟩
  have hl291 : i286 < X.T.length := hi291
  have h291 : St _ K W a291 w291 _ [_, _, _, _, _, _, _, _, _, _, _, _] := ⟨hf291, h290.sh.backI (Lp := [_, _, _]) hs291⟩
  clear hf291 hs291 h290 hp292
  refine gG h291<|nK k289<|sK fun _ k293 => gRn (oM 2 rfl<|ofB fl_81_3 rfl<|olB 5 ti_9 rfl rfl<|oM 1 rfl<|.nl)<|fun a297 w297 h297 => ?_; clear h291
  have hp296 := h297.sh.passL (Lp := [_, _, _, _])
  refine wl_ex (x_call h297 bd_37 rfl rfl rfl rfl rfl (pPut_c _ _ X tv nv286 (i286 + 1) d nl286 _ 8 (atT X i) 0 y268.t (⟨kw286, kk286⟩ : Ls Int) hp296 (by first | omega | (simp only [lens9]; omega)))) (wanted_none rfl _) ?_
  rintro a298 w298 ⟨_, ⟨nv298, rfl, hs298⟩, hf298⟩
  have hr298 : putP (⟨8, 0, (atT X i), y268.t, kk286⟩ : Nd) ⟨(i286 + 1), d, nl286.map NdL.nd⟩ = .ok (((nl286.length : Nat) : Int), ⟨(i286 + 1), d, (nl286 ++ [(⟨8, 0, (atT X i), y268.t, (⟨kw286, kk286⟩ : Ls Int)⟩ : NdL)]).map NdL.nd⟩) := put_eq (x := (⟨8, 0, (atT X i), y268.t, (⟨kw286, kk286⟩ : Ls Int)⟩ : NdL))
  have h298 : St _ K W a298 w298 _ [_, _, _, _, _, _, _, _, _, _, _] := ⟨hf298, h297.sh.backI (Lp := [_, _, _, _]) hs298⟩
  clear hf298 hs298
  clear h297
  refine gG h298<|gRn (oM 1 rfl<|.nl)<|nK k293<|gR<|uT<|fun a299 w299 h299 => rP <| x_ret1 (fn := Tryz.f75) (t := 2) rfl h299 rfl <| ⟨((nl286.length : Nat) : Int), (i286 + 1), nv298, (nl286 ++ [(⟨8, 0, (atT X i), y268.t, (⟨kw286, kk286⟩ : Ls Int)⟩ : NdL)]), ?_, rfl, (h299.sh.sel [0, 1, 2] rfl)⟩; clear h298
  exact (by show stepP X _ _ _ = _; simp only [stepP, asgP, andP, isT, lvT, ↓reduceIte, Bool.false_eq_true, eq_self, Nat.add_sub_cancel, List.cons_append, List.nil_append, hr268, hr275, hr286, hr291, hr298, hc55, hc111, hc140, hc170, hc241, hc265, hc283])
 have hc300 : isL X ((i + 1) + 1) ([{ data := #[99, 97, 115] }]) = false := (by assumption)
 refine gS<|hK k278<|sK fun _ k301 => gRn (oM 1 rfl<|.nl)<|fun a302 w302 h302 => ?_
 have h304 := h302.sel (L' := [_, _, _, _, _, _, _, _, _, _, _]) [1, 2, 3, 0, 4, 5, 6, 7, 8, 9, 10] rfl
 have hp305 := h304.sh.passL (Lp := [_, _, _])
 refine wl_callP h304 bd_105 rfl rfl rfl rfl rfl (wanted_none rfl _) ((ih f (by omega)).ex 0 (by omega) _ _ tv nv ((i + 1) + 1) d nl _ hp305 hTl (by omega) (by omega) (by first | omega | (simp only [lens9]; omega)) (show 20 * (X.T.length - ((i + 1) + 1)) + (3 + (5 - 0)) ≤ f by omega)) ?_ ?_
 ·rintro x9 w9 ⟨xc, xa, hrx, rfl, hs9⟩
  exact pnF (P := Tryz.prog) (fn := Tryz.f75) h304.fr ⟨xc, xa, (by show stepP X _ _ _ = _; simp only [stepP, asgP, andP, isT, lvT, ↓reduceIte, Bool.false_eq_true, eq_self, Nat.add_sub_cancel, List.cons_append, List.nil_append, hr268, hr275, hrx, hc55, hc111, hc140, hc170, hc241, hc265, hc300]), rfl, ((h304.sh.backI (Lp := [_, _, _]) hs9).sel [] rfl)⟩
 rintro a303 w303 ⟨_, ⟨y303, i303, nv303, nl303, hr303, rfl, hs303⟩, hf303⟩
 have hv303 := adv_parse (X := X) f (.expr 0) ⟨((i + 1) + 1), d, nl.map NdL.nd⟩ (fun h => by cases h) _ _ hr303; simp only [minT, dT, qT, List.length_map] at hv303
 have h303 : St _ K W a303 w303 _ [_, _, _, _, _, _, _, _, _, _, _] := ⟨hf303, h304.sh.backI (Lp := [_, _, _]) hs303⟩
 clear hf303 hs303 h304 hp305
 refine gG h303<|gRn (oM 1 rfl<|.nl)<|nK k301<|sK fun _ k306 => gRn (oM 1 rfl<|.nl)<|fun a307 w307 h307 => ?_; clear h303
 have hp309 := h307.sh.passL (Lp := [_, _, _])
 refine wl_callP h307 bd_36 rfl rfl rfl rfl rfl (wanted_none rfl _) (pTake_c _ _ X tv nv303 i303 d nl303 _ hp309 hTl ({ data := #[59] })) ?_ ?_
 ·rintro x9 w9 ⟨xc, xa, hrx, rfl, hs9⟩
  exact pnF (P := Tryz.prog) (fn := Tryz.f75) h307.fr ⟨xc, xa, (by show stepP X _ _ _ = _; simp only [stepP, asgP, andP, isT, lvT, ↓reduceIte, Bool.false_eq_true, eq_self, Nat.add_sub_cancel, List.cons_append, List.nil_append, hr268, hr275, hr303, hrx, hc55, hc111, hc140, hc170, hc241, hc265, hc300]), rfl, ((h307.sh.backI (Lp := [_, _, _]) hs9).sel [] rfl)⟩
 rintro a308 w308 ⟨_, ⟨y308, hr308, hi308, rfl, hs308⟩, hf308⟩
 have hl308 : i303 < X.T.length := hi308
 have h308 : St _ K W a308 w308 _ [_, _, _, _, _, _, _, _, _, _, _] := ⟨hf308, h307.sh.backI (Lp := [_, _, _]) hs308⟩
 clear hf308 hs308 h307 hp309
 refine gG h308<|nK k306<|sK fun _ k310 => gRn (oM 2 rfl<|ofB fl_81_3 rfl<|olB 4 ti_9 rfl rfl<|oM 1 rfl<|.nl)<|gE1 (fun _ _ h_ => x_lit (n := 1) (cs := [.int .i64 y303]) ([y303] : List Int) h_ sl_30 ti_3 rfl rfl rfl (by decide) rfl (by kernel_rfl) rfl (fun q hq w h => Flat.inner _ _) (fun q hq b hb => (Flat.on _ _ hb).elim) rfl rfl) rfl fun v311 => gO [1, 2, 3, 0, 4, 5, 6, 7, 8, 9, 10, 11] rfl<|fun a317 w317 h317 => ?_; clear h308
 have hp316 := h317.sh.passL (Lp := [_, _, _, _])
 refine wl_ex (x_call h317 bd_37 rfl rfl rfl rfl rfl (pPut_c _ _ X tv nv303 (i303 + 1) d nl303 _ 7 (atT X i) 0 y268.t (⟨v311, [y303]⟩ : Ls Int) hp316 (by first | omega | (simp only [lens9]; omega)))) (wanted_none rfl _) ?_
 rintro a318 w318 ⟨_, ⟨nv318, rfl, hs318⟩, hf318⟩
 have hr318 : putP (⟨7, 0, (atT X i), y268.t, [y303]⟩ : Nd) ⟨(i303 + 1), d, nl303.map NdL.nd⟩ = .ok (((nl303.length : Nat) : Int), ⟨(i303 + 1), d, (nl303 ++ [(⟨7, 0, (atT X i), y268.t, (⟨v311, [y303]⟩ : Ls Int)⟩ : NdL)]).map NdL.nd⟩) := put_eq (x := (⟨7, 0, (atT X i), y268.t, (⟨v311, [y303]⟩ : Ls Int)⟩ : NdL))
 have h318 : St _ K W a318 w318 _ [_, _, _, _, _, _, _, _, _, _, _] := ⟨hf318, h317.sh.backI (Lp := [_, _, _, _]) hs318⟩
 clear hf318 hs318
 clear h317
 refine gG h318<|gRn (oM 1 rfl<|.nl)<|nK k310<|gF [2] rfl<|gR<|fun a319 w319 h319 => rP <| x_ret1 (fn := Tryz.f75) (t := 2) rfl h319 rfl <| ⟨((nl303.length : Nat) : Int), (i303 + 1), nv318, (nl303 ++ [(⟨7, 0, (atT X i), y268.t, (⟨v311, [y303]⟩ : Ls Int)⟩ : NdL)]), ?_, rfl, (h319.sh.sel [0, 1, 2] rfl)⟩; clear h318
 exact (by show stepP X _ _ _ = _; simp only [stepP, asgP, andP, isT, lvT, ↓reduceIte, Bool.false_eq_true, eq_self, Nat.add_sub_cancel, List.cons_append, List.nil_append, hr268, hr275, hr303, hr308, hr318, hc55, hc111, hc140, hc170, hc241, hc265, hc300])

theorem allT (X : TE) : ∀ f, AllT X f := by
  intro f
  induction f using Nat.strongRecOn with
  | ind f ih =>
    cases f with
    | zero =>
      have key : ∀ fn ex nt, 1 ≤ rankT nt → OkT X 0 fn ex nt := fun fn ex nt h1 => fun _ _ _ _ _ _ _ _ _ _ _ _ _ h => absurd h (by omega)
      exact ⟨fun k _ => key _ _ _ (by show 1 ≤ 3 + (5 - k); omega), key _ _ _ (by decide), key _ _ _ (by decide), key _ _ _ (by decide), key _ _ _ (by decide)⟩
    | succ f =>
      have ih' : ∀ f', f' ≤ f → AllT X f' := fun f' h => ih f' (by omega)
      exact ⟨fun k hk K g tv nv i d nl W hS hT hd hi hn hf => pExpr_c K g X tv nv i d nl f W k hk hS hT hd hi hn ih' hf, fun K g tv nv i d nl W hS hT hd hi hn hf => pUnary_c K g X tv nv i d nl f W hS hT hd hi hn ih' hf, fun K g tv nv i d nl W hS hT hd hi hn hf => pHeld_c K g X tv nv i d nl f W hS hT hd hi hn ih' hf,
        fun K g tv nv i d nl W hS hT hd hi hn hf => pBlock_c K g X tv nv i d nl f W hS hT hd hi hn ih' hf, fun K g tv nv i d nl W hS hT hd hi hn hf => pStmt_c K g X tv nv i d nl f W hS hT hd hi hn ih' hf⟩

end Go.Proofs.YthdkmhaneellcaaGreatDoor
