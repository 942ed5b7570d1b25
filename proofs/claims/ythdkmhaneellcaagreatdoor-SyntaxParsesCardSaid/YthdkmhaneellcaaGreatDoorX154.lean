/-
  The document's parser: expressions, blocks, statements; in good order, and behind a fault.
-/
import Derived.Test.YthdkmhaneellcaaGreatDoorX153
namespace Go.Proofs.YthdkmhaneellcaaGreatDoor
open Go.RowKit
set_option linter.unusedSimpArgs false
set_option linter.unusedVariables false
set_option maxRecDepth 100000
set_option maxHeartbeats 4000000


/-- In good order: as the plain parser says; or a fault. -/
def OkD (X : TE) (f : Nat) (fn : FuncId) (ex : List Value) (nt : NT) : Prop := ∀ (K : Nat → Prop) (g : Nat) (tv nv : Value) (i d : Nat) (nl : List NdL) (W : World), Sh K W W [.blk g 52 [tv, .int .i64 X.e, .int .i64 ((i : Nat) : Int), .int .i64 ((d : Nat) : Int), nv, .int .i64 0, .int .i64 0, .int .i64 0], .deep 57 (⟨nv, nl⟩ : Ls NdL), .own 81 (⟨tv, X.T⟩ : Ls Tok)] → X.T.length ≤ 4000 → d ≤ 20 → i ≤ X.T.length → nl.length ≤ 2 * i → f ≤ 1000000 → 20 * (X.T.length - i) + rankT nt ≤ f →
    Rets Tryz.prog fn (.pointer (some ⟨g, 0, none⟩) :: ex) W (fun v w' => (∃ (a : Int) (i' : Nat) (nv' : Value) (nl' : List NdL), parseP X f nt ⟨i, d, nl.map NdL.nd⟩ = .ok (a, ⟨i', d, nl'.map NdL.nd⟩) ∧ v = .int .i64 a ∧ Sh K W w' [.blk g 52 [tv, .int .i64 X.e, .int .i64 ((i' : Nat) : Int), .int .i64 ((d : Nat) : Int), nv', .int .i64 0, .int .i64 0, .int .i64 0], .deep 57 (⟨nv', nl'⟩ : Ls NdL), .own 81 (⟨tv, X.T⟩ : Ls Tok)])
      ∨ ∃ (c a dz y : Int) (nv' : Value) (nl' : List NdL), parseP X f nt ⟨i, d, nl.map NdL.nd⟩ = .error (c, a) ∧ ¬ c = 0 ∧ v = .int .i64 y ∧ nl'.length ≤ 10000 + 10 * f ∧ Sh K W w' [.blk g 52 [tv, .int .i64 X.e, .int .i64 ((X.T.length : Nat) : Int), .int .i64 dz, nv', .int .i64 c, .int .i64 0, .int .i64 a], .deep 57 (⟨nv', nl'⟩ : Ls NdL), .own 81 (⟨tv, X.T⟩ : Ls Tok)])
/-- Behind a fault: nothing but nodes. -/
def BadD (X : TE) (fn : FuncId) (ex : List Value) (q : Nat) : Prop := ∀ (K : Nat → Prop) (g : Nat) (tv nv : Value) (nl : List NdL) (dz c ea : Int) (W : World), Sh K W W [.blk g 52 [tv, .int .i64 X.e, .int .i64 ((X.T.length : Nat) : Int), .int .i64 dz, nv, .int .i64 c, .int .i64 0, .int .i64 ea], .deep 57 (⟨nv, nl⟩ : Ls NdL), .own 81 (⟨tv, X.T⟩ : Ls Tok)] → X.T.length ≤ 4000 → ¬ c = 0 → nl.length ≤ 100000000000 →
    Rets Tryz.prog fn (.pointer (some ⟨g, 0, none⟩) :: ex) W (fun v w' => ∃ (dz' y : Int) (nv' : Value) (nl' : List NdL), v = .int .i64 y ∧ nl'.length ≤ nl.length + q ∧ Sh K W w' [.blk g 52 [tv, .int .i64 X.e, .int .i64 ((X.T.length : Nat) : Int), .int .i64 dz', nv', .int .i64 c, .int .i64 0, .int .i64 ea], .deep 57 (⟨nv', nl'⟩ : Ls NdL), .own 81 (⟨tv, X.T⟩ : Ls Tok)])
structure AllD (X : TE) (f : Nat) : Prop where
  ex : ∀ k : Nat, k ≤ 5 → OkD X f 83 [.int .i64 (k : Int)] (.expr k)
  un : OkD X f 108 [] .unary
  he : OkD X f 84 [] .held
  bl : OkD X f 23 [] .block
  st : OkD X f 44 [] .stmt
section
variable {X : TE} {i k : Nat} {a b : ByteArray}
theorem isL2 : isL X i [a, b] = (isT X i a || isT X i b) := by
  unfold isT isL inS
  simp only [List.any_cons, List.any_nil, Bool.or_false]
  cases decide (i < X.T.length) <;> cases (decide ((nth X.T i).k = 2) || decide ((nth X.T i).k = 4)) <;> simp
theorem word_sign {t : ByteArray} (h : t ∈ wordL) : t ∉ signL := by
  have key : (wordL.all fun t => !inS signL t) = true := by decide
  intro h9
  have := List.all_eq_true.1 key t h
  rw [inS_iff.2 h9] at this
  cases this
theorem isw_no {x : ByteArray} (hT : i < X.T.length → TokOK (nth X.T i)) (h : ¬ (i < X.T.length ∧ (nth X.T i).k = 2)) (hx : x ∈ wordL) : isT X i x = false := by
  by_cases hi : i < X.T.length
  · by_cases h4 : (nth X.T i).k = 4
    · rw [is1_t hi (.inr h4), decide_eq_false]
      intro e
      exact word_sign hx (e ▸ (hT hi).2.1 h4)
    · exact is1_f fun h9 => by rcases h9.2 with h9 | h9; exact h ⟨hi, h9⟩; exact h4 h9
  · exact is1_f fun h9 => hi h9.1
theorem lev_word {t : ByteArray} (h : t ∈ wordL) {k : Nat} (hk : k < 5) : inS (nth levL k) t = false := by
  have key : ((List.range 5).all fun k => wordL.all fun t => !inS (nth levL k) t) = true := by decide
  have := List.all_eq_true.1 (List.all_eq_true.1 key k (List.mem_range.2 hk)) t h
  simpa using this
theorem lev_in {t : ByteArray} {k : Nat} (hk : k < 5) : inS (nth levL k) t = decide (levI t = (k : Int)) := by
  rw [Bool.eq_iff_iff, inS_iff, decide_eq_true_eq]
  have e : (k : Int) = 0 ∨ (k : Int) = 1 ∨ (k : Int) = 2 ∨ (k : Int) = 3 ∨ (k : Int) = 4 := by omega
  rcases (by omega : k = 0 ∨ k = 1 ∨ k = 2 ∨ k = 3 ∨ k = 4) with rfl | rfl | rfl | rfl | rfl <;> unfold levI levL <;> simp only [nth, List.getD_cons_zero, List.getD_cons_succ, List.mem_cons, List.not_mem_nil, or_false]
  all_goals
    by_cases h0 : t = ⟨#[124, 124]⟩
    · subst h0; decide
    by_cases h1 : t = ⟨#[38, 38]⟩
    · subst h1; decide
    by_cases h2 : t = ⟨#[61, 61]⟩ ∨ t = ⟨#[33, 61]⟩ ∨ t = ⟨#[60]⟩ ∨ t = ⟨#[60, 61]⟩ ∨ t = ⟨#[62]⟩ ∨ t = ⟨#[62, 61]⟩
    · rcases h2 with h2 | h2 | h2 | h2 | h2 | h2 <;> subst h2 <;> decide
    by_cases h3 : t = ⟨#[43]⟩ ∨ t = ⟨#[45]⟩
    · rcases h3 with h3 | h3 <;> subst h3 <;> decide
    by_cases h4 : t = ⟨#[42]⟩
    · subst h4; decide
    simp only [h0, h1, h2, h3, h4, if_false, false_iff, not_or, or_self]
    first | decide | (intro h9; exact absurd h9 (by decide)) | trivial
theorem open_at {d : Nat} {l : List Nd} {y : Int} {s' : PS} (h : openP X a ⟨i, d, l⟩ = .ok (y, s')) : y = atT X i := by
  unfold openP takeP at h
  split at h
  · cases h
  · split at h
    · cases h
    · rename_i h2
      split at h2
      · rename_i h3; cases h2; cases h; exact (atT_t (is_lt h3)).symm
      · cases h2
theorem name_at {d : Nat} {l : List Nd} {y : Tok} {s' : PS} (h : nameP X ⟨i, d, l⟩ = .ok (y, s')) : y.a = atT X i := by
  unfold nameP at h
  split at h
  · rename_i h2; cases h; exact (atT_t (kd_lt h2)).symm
  · cases h
theorem ne_lock : ((⟨#[108, 111, 99, 107]⟩ : ByteArray) = ⟨#[117, 110, 108, 111, 99, 107]⟩) = False := eq_false (by decide)
theorem isT_len1 {x : ByteArray} : isT X X.T.length x = false := isT_len
theorem isT_text (h : isT X i a = true) : (nth X.T i).t = a := by
  simp only [isT, isL, Bool.and_eq_true, inS_iff, List.mem_singleton] at h
  exact h.2.2
theorem ne_3345 : ((⟨#[33]⟩ : ByteArray) = ⟨#[45]⟩) = False := eq_false (by decide)
theorem lv_no1 (h : ¬ i < X.T.length) : lvT X i k = false := isL_f fun h9 => h h9.1
theorem lv_no2 (hT : i < X.T.length → TokOK (nth X.T i)) (hk : k < 5) (h : ¬ (nth X.T i).k = 4) : lvT X i k = false := by
  by_cases hi : i < X.T.length
  · by_cases h2 : (nth X.T i).k = 2
    · unfold lvT; rw [isL_t hi (.inl h2)]; exact lev_word ((hT hi).1 h2) hk
    · exact isL_f fun h9 => by rcases h9.2 with h9 | h9; exact h2 h9; exact h h9
  · exact lv_no1 hi
theorem lv_sign (hi : i < X.T.length) (hk : k < 5) (h : (nth X.T i).k = 4) : lvT X i k = decide (levI (nth X.T i).t = (k : Int)) := by
  unfold lvT; rw [isL_t hi (.inr h)]; exact lev_in hk
end

theorem dUnary_b (K : Nat → Prop) (g : Nat) (X : TE) (tv nv : Value) (nl : List NdL) (dz c ea : Int)  (W : World) (hS : Sh K W W [.blk g 52 [tv, .int .i64 X.e, .int .i64 ((X.T.length : Nat) : Int), .int .i64 dz, nv, .int .i64 c, .int .i64 0, .int .i64 ea], .deep 57 (⟨nv, nl⟩ : Ls NdL), .own 81 (⟨tv, X.T⟩ : Ls Tok)]) (hTl : X.T.length ≤ 4000) (hc : ¬ c = 0) (hnl : nl.length ≤ 100000000000) :
    Rets Tryz.prog 108 [.pointer (some ⟨g, 0, none⟩)] W (fun v w' => ∃ (dz' y : Int) (nv' : Value) (nl' : List NdL), v = .int .i64 y ∧ nl'.length ≤ nl.length + 1 ∧ Sh K W w' [.blk g 52 [tv, .int .i64 X.e, .int .i64 ((X.T.length : Nat) : Int), .int .i64 dz', nv', .int .i64 c, .int .i64 0, .int .i64 ea], .deep 57 (⟨nv', nl'⟩ : Ls NdL), .own 81 (⟨tv, X.T⟩ : Ls Tok)]) := by
 refine gen Tryz.func108 Tryz.ntmps108 hS rfl fun a10 h10 => gG h10<|sG (oM 1 rfl<|.nl)<|sK fun _ k12 => gRn (oM 1 rfl<|.nl)<|gP (fun _ _ h_ => xCl h_ bd_21 rfl (dAt_c g _ _ _ _ _ _ _ X.T.length _ (h_.sh.blk 0 rfl) (h_.sh.own 2 rfl))) rfl<|gRn (oM 1 rfl<|.nl)<|nK k12<|sK fun _ k14 => gRn (oM 1 rfl<|.nl)<|gP (fun _ _ h_ => xCl h_ bd_19 rfl (dIs_c g _ _ _ _ _ _ _ X.T.length _ (h_.sh.blk 0 rfl) (h_.sh.own 2 rfl) ({ data := #[45] }))) rfl<|gRn (oM 1 rfl<|.nl)<|nK k14<|sK fun _ k16 => gRn (oM 1 rfl<|.nl)<|gP (fun _ _ h_ => xCl h_ bd_19 rfl (dIs_c g _ _ _ _ _ _ _ X.T.length _ (h_.sh.blk 0 rfl) (h_.sh.own 2 rfl) ({ data := #[33] }))) rfl<|gRn (oM 1 rfl<|.nl)<|nK k16<|gK fun _ k18 => sG (oM 2 rfl<|oG isT_len1 (r_move rfl rfl) rfl<|opF isT_len1 rfl<|.nl)<|gcF rfl isT_len1<|gS<|hK k18<|sK fun _ k20 => gRn (oM 1 rfl<|.nl)<|gP (fun _ _ h_ => xCl h_ bd_19 rfl (dIs_c g _ _ _ _ _ _ _ X.T.length _ (h_.sh.blk 0 rfl) (h_.sh.own 2 rfl) ({ data := #[40] }))) rfl<|gRn (oM 1 rfl<|.nl)<|nK k20<|gK fun _ k22 => sG (oM 1 rfl<|.nl)<|gcF rfl isT_len1<|gS<|hK k22<|gK fun _ k24 => gK fun _ k25 => gNl (aO 2 rfl) fun (hl26 : X.T.length ≤ 140737488355328) => rQ (oM 1 rfl<|onfl 0 fl_52_2 ti_3 rfl rfl<|oM 1 rfl<|onfl 0 fl_52_0 ti_42 rfl rfl<|oln (n := X.T.length) sl_42 (aO 2 rfl) rfl<|oltN _ _ rfl<|oM 1 rfl<|oK (decide_eq_false (Nat.lt_irrefl _)) rfl<|oK (decide_eq_false (Nat.lt_irrefl _)) rfl<|oK (decide_eq_false (Nat.lt_irrefl _)) rfl<|oK (decide_eq_false (Nat.lt_irrefl _)) rfl<|oK (decide_eq_false (Nat.lt_irrefl _)) rfl<|oK (decide_eq_false (Nat.lt_irrefl _)) rfl<|oK (decide_eq_false (Nat.lt_irrefl _)) rfl<|oK (decide_eq_false (Nat.lt_irrefl _)) rfl<|oK (decide_eq_false (Nat.lt_irrefl _)) rfl<|oK (decide_eq_false (Nat.lt_irrefl _)) rfl<|oK (decide_eq_false (Nat.lt_irrefl _)) rfl<|oK (decide_eq_false (Nat.lt_irrefl _)) rfl<|opF (decide_eq_false (Nat.lt_irrefl _)) rfl<|.nl)<|hK k25<|gF [0, 3, 77] rfl<|gcF rfl rfl<|gS<|hK k24<|sK fun _ k27 => gRn (oM 1 rfl<|.nl)<|fun a28 w28 h28 => ?_; clear h10
 have hp29 := h28.sh.passL (Lp := [_, _, _])
 refine wl_ex (x_call h28 bd_41 rfl rfl rfl rfl rfl (dName_b _ _ X tv nv nl dz c ea _ hp29 hTl hc)) (wanted_none rfl _) ?_
 rintro a30 w30 ⟨_, ⟨dz30, rfl, hs30⟩, hf30⟩
 have h30 : St _ K W a30 w30 _ [_, _, _] := ⟨hf30, h28.sh.backI (Lp := [_, _, _]) hs30⟩
 clear hf30 hs30 h28 hp29
 refine gG h30<|gRn (oM 1 rfl<|.nl)<|nK k27<|sK fun _ k31 => gRn (oM 3 rfl<|oV (r_build (cs := [.int .i64 16, .int .i64 0, .int .i64 (atT X X.T.length), .string ({ data := #[] }), (.slice none 0 0)]) rfl rfl (by kernel_rfl)) rfl<|.nl)<|fun a32 w32 h32 => ?_; clear h30
 have h34 := h32.nil (α := Int) 3
 clear h32
 have h35 := h34.sel (L' := [_, _, _, _]) [1, 2, 3, 0] rfl
 have hp36 := h35.sh.passL (Lp := [_, _, _, _])
 refine wl_ex (x_call h35 bd_24 rfl rfl rfl rfl rfl (dNode_c _ _ X tv nv nl X.T.length _ _ _ _ 16 0 (atT X X.T.length) ({ data := #[] }) (⟨.slice none 0 0, []⟩ : Ls Int) hp36 (by first | omega | (simp only [lens9]; omega)))) (wanted_none rfl _) ?_
 rintro a37 w37 ⟨_, ⟨nv37, rfl, hs37⟩, hf37⟩
 have hm37 : (nl ++ [(⟨16, 0, (atT X X.T.length), { data := #[] }, (⟨.slice none 0 0, []⟩ : Ls Int)⟩ : NdL)]).length = nl.length + 1 := (by simp only [lens9])
 have h37 : St _ K W a37 w37 _ [_, _, _] := ⟨hf37, h35.sh.backI (Lp := [_, _, _, _]) hs37⟩
 clear hf37 hs37 h35 hp36
 refine gG h37<|gRn (oM 1 rfl<|.nl)<|nK k31<|gR<|fun a38 w38 h38 => x_ret1 (fn := Tryz.f108) (t := 2) rfl h38 rfl ?_; clear h37
 exact ⟨dz30, ((nl.length : Nat) : Int), nv37, (nl ++ [(⟨16, 0, (atT X X.T.length), { data := #[] }, (⟨.slice none 0 0, []⟩ : Ls Int)⟩ : NdL)]), rfl, (by first | omega | (simp only [lens9] at *; omega)), h38.sh⟩

theorem badUnary (X : TE) : BadD X 108 [] 1 := fun K g tv nv nl dz c a W hS hT hc hn => dUnary_b K g X tv nv nl dz c a W hS hT hc hn

theorem dExpr_b (K : Nat → Prop) (g : Nat) (X : TE) (tv nv : Value) (nl : List NdL) (dz c ea : Int)  (W : World) (k : Nat) (hk : k ≤ 5) (ihb : ∀ k' : Nat, k < k' → k' ≤ 5 → BadD X 83 [.int .i64 (k' : Int)] 1) (hS : Sh K W W [.blk g 52 [tv, .int .i64 X.e, .int .i64 ((X.T.length : Nat) : Int), .int .i64 dz, nv, .int .i64 c, .int .i64 0, .int .i64 ea], .deep 57 (⟨nv, nl⟩ : Ls NdL), .own 81 (⟨tv, X.T⟩ : Ls Tok)]) (hTl : X.T.length ≤ 4000) (hc : ¬ c = 0) (hnl : nl.length ≤ 100000000000) :
    Rets Tryz.prog 83 [.pointer (some ⟨g, 0, none⟩), .int .i64 ((k : Nat) : Int)] W (fun v w' => ∃ (dz' y : Int) (nv' : Value) (nl' : List NdL), v = .int .i64 y ∧ nl'.length ≤ nl.length + 1 ∧ Sh K W w' [.blk g 52 [tv, .int .i64 X.e, .int .i64 ((X.T.length : Nat) : Int), .int .i64 dz', nv', .int .i64 c, .int .i64 0, .int .i64 ea], .deep 57 (⟨nv', nl'⟩ : Ls NdL), .own 81 (⟨tv, X.T⟩ : Ls Tok)]) := by
 refine gen Tryz.func83 Tryz.ntmps83 hS rfl fun a10 h10 => gG h10<|sG (oM 1 rfl<|.nl)<|gK fun _ k12 => sG (oM 1 rfl<|oeqN _ 5 rfl<|.nl)<|?_; clear h10
 refine gcd rfl (fun hb14 hp14 => ?_) fun hb14 hp14 => ?_
 ·skip
  refine sK fun _ k15 => gRn (oM 1 rfl<|.nl)<|fun a16 w16 h16 => ?_
  have hp17 := h16.sh.passL (Lp := [_, _, _])
  refine wl_ex (x_call h16 bd_108 rfl rfl rfl rfl rfl ((badUnary _) _ _ tv nv nl dz c ea _ hp17 hTl hc (by first | omega | (simp only [lens9] at *; omega)))) (wanted_none rfl _) ?_
  rintro a18 w18 ⟨_, ⟨dz18, y18, nv18, nl18, rfl, hq918, hs18⟩, hf18⟩
  have hq18 : nl18.length ≤ nl.length + 1 := hq918
  have h18 : St _ K W a18 w18 _ [_, _, _] := ⟨hf18, h16.sh.backI (Lp := [_, _, _]) hs18⟩
  clear hf18 hs18 h16 hp17
  refine gG h18<|gRn (oM 1 rfl<|.nl)<|nK k15<|gR<|uT<|fun a19 w19 h19 => x_ret1 (fn := Tryz.f83) (t := 4) rfl h19 rfl ?_; clear h18
  exact ⟨dz18, y18, nv18, nl18, rfl, (by first | omega | (simp only [lens9] at *; omega)), h19.sh⟩
 refine gS<|hK k12<|sK fun _ k20 => gRn (oM 2 rfl<|oadN _ 1 om9 rfl<|.nl)<|fun a21 w21 h21 => ?_
 have hp22 := h21.sh.passL (Lp := [_, _, _])
 refine wl_ex (x_call h21 bd_83 rfl rfl rfl rfl rfl ((ihb (k + 1) (by omega) (by omega)) _ _ tv nv nl dz c ea _ hp22 hTl hc (by first | omega | (simp only [lens9] at *; omega)))) (wanted_none rfl _) ?_
 rintro a23 w23 ⟨_, ⟨dz23, y23, nv23, nl23, rfl, hq923, hs23⟩, hf23⟩
 have hq23 : nl23.length ≤ nl.length + 1 := hq923
 have h23 : St _ K W a23 w23 _ [_, _, _] := ⟨hf23, h21.sh.backI (Lp := [_, _, _]) hs23⟩
 clear hf23 hs23 h21 hp22
 refine gG h23<|gRn (oM 1 rfl<|.nl)<|nK k20<|gK fun _ k24 => gB<|fun a26 w26 h26 => x_loop (fun m a w => St 87 K W a w [(0, .pointer (some ⟨g, 0, none⟩)), (1, .int .i64 ((k : Nat) : Int)), (5, .int .i64 y23)] [.blk g 52 [tv, .int .i64 X.e, .int .i64 ((X.T.length : Nat) : Int), .int .i64 dz23, nv23, .int .i64 c, .int .i64 0, .int .i64 ea], .deep 57 (⟨nv23, nl23⟩ : Ls NdL), .own 81 (⟨tv, X.T⟩ : Ls Tok)] ∧ m = 0) ⟨_, h26.nf ⟨rfl, rfl, rfl, trivial⟩, rfl⟩ ?_; clear h23
 clear h26
 rintro m25 a25 w25 ⟨h25, hm25⟩
 refine gG h25<|gK fun _ k27 => gK fun _ k28 => rQ (oM 1 rfl<|onf fl_52_5 rfl<|oV (r_fieldB (r := 5) fl_25_0 rfl rfl rfl) rfl<|olB 0 ti_23 rfl rfl<|oeqI _ _ rfl<|oM 1 rfl<|oK (decide_eq_false (by first | exact hc | assumption)) rfl<|oK (decide_eq_false (by first | exact hc | assumption)) rfl<|oK (decide_eq_false (by first | exact hc | assumption)) rfl<|oK (decide_eq_false (by first | exact hc | assumption)) rfl<|oK (decide_eq_false (by first | exact hc | assumption)) rfl<|oK (decide_eq_false (by first | exact hc | assumption)) rfl<|oK (decide_eq_false (by first | exact hc | assumption)) rfl<|oK (decide_eq_false (by first | exact hc | assumption)) rfl<|oK (decide_eq_false (by first | exact hc | assumption)) rfl<|oK (decide_eq_false (by first | exact hc | assumption)) rfl<|opF (decide_eq_false (by first | exact hc | assumption)) rfl<|oM 1 rfl<|oK rfl rfl<|oK rfl rfl<|oK rfl rfl<|oK rfl rfl<|oK rfl rfl<|oK rfl rfl<|oK rfl rfl<|oK rfl rfl<|oK rfl rfl<|oK rfl rfl<|oK rfl rfl<|oK rfl rfl<|opF rfl rfl<|.nl)<|hK k28<|gF [0, 1, 5, 48] rfl<|gcF rfl rfl<|gX<|hK k24<|sG (oM 2 rfl<|.nl)<|gR<|fun a30 w30 h30 => x_ret1 (fn := Tryz.f83) (t := 4) rfl h30 rfl ?_; clear h25
 exact ⟨dz23, y23, nv23, nl23, rfl, (by first | omega | (simp only [lens9] at *; omega)), h30.sh⟩

theorem badExpr (X : TE) (k : Nat) (hk : k ≤ 5) : BadD X 83 [.int .i64 (k : Int)] 1 := by
  have key : ∀ m k : Nat, k + m = 5 → BadD X 83 [.int .i64 (k : Int)] 1 := by
    intro m
    induction m using Nat.strongRecOn with
    | ind m ih => exact fun k hk K g tv nv nl dz c a W hS hT hc hn => dExpr_b K g X tv nv nl dz c a W k (by omega) (fun k' h1 h2 => ih (5 - k') (by omega) k' (by omega)) hS hT hc hn
  exact key (5 - k) k (by omega)

theorem dBlock_b (K : Nat → Prop) (g : Nat) (X : TE) (tv nv : Value) (nl : List NdL) (dz c ea : Int)  (W : World) (hS : Sh K W W [.blk g 52 [tv, .int .i64 X.e, .int .i64 ((X.T.length : Nat) : Int), .int .i64 dz, nv, .int .i64 c, .int .i64 0, .int .i64 ea], .deep 57 (⟨nv, nl⟩ : Ls NdL), .own 81 (⟨tv, X.T⟩ : Ls Tok)]) (hTl : X.T.length ≤ 4000) (hc : ¬ c = 0) (hnl : nl.length ≤ 100000000000) :
    Rets Tryz.prog 23 [.pointer (some ⟨g, 0, none⟩)] W (fun v w' => ∃ (dz' y : Int) (nv' : Value) (nl' : List NdL), v = .int .i64 y ∧ nl'.length ≤ nl.length + 1 ∧ Sh K W w' [.blk g 52 [tv, .int .i64 X.e, .int .i64 ((X.T.length : Nat) : Int), .int .i64 dz', nv', .int .i64 c, .int .i64 0, .int .i64 ea], .deep 57 (⟨nv', nl'⟩ : Ls NdL), .own 81 (⟨tv, X.T⟩ : Ls Tok)]) := by
 refine gen Tryz.func23 Tryz.ntmps23 hS rfl fun a10 h10 => gG h10<|sG (oM 1 rfl<|.nl)<|sK fun _ k12 => gRn (oM 1 rfl<|.nl)<|gP (fun _ _ h_ => xCl h_ bd_21 rfl (dAt_c g _ _ _ _ _ _ _ X.T.length _ (h_.sh.blk 0 rfl) (h_.sh.own 2 rfl))) rfl<|gRn (oM 1 rfl<|.nl)<|nK k12<|sK fun _ k14 => gRn (oM 1 rfl<|.nl)<|fun a15 w15 h15 => ?_; clear h10
 have hp16 := h15.sh.passL (Lp := [_, _, _])
 refine wl_ex (x_call h15 bd_43 rfl rfl rfl rfl rfl (dOpen_b _ _ X tv nv nl dz c ea _ hp16 hTl hc ({ data := #[123] }))) (wanted_none rfl _) ?_
 rintro a17 w17 ⟨_, ⟨dz17, rfl, hs17⟩, hf17⟩
 have h17 : St _ K W a17 w17 _ [_, _, _] := ⟨hf17, h15.sh.backI (Lp := [_, _, _]) hs17⟩
 clear hf17 hs17 h15 hp16
 refine gG h17<|nK k14<|sG (oM 1 rfl<|.nl)<|gK fun _ k19 => gB<|fun a21 w21 h21 => x_loop (fun m a w => St 33 K W a w [(0, .pointer (some ⟨g, 0, none⟩)), (3, .int .i64 (atT X X.T.length)), (4, (.slice none 0 0))] [.blk g 52 [tv, .int .i64 X.e, .int .i64 ((X.T.length : Nat) : Int), .int .i64 dz17, nv, .int .i64 c, .int .i64 0, .int .i64 ea], .deep 57 (⟨nv, nl⟩ : Ls NdL), .own 81 (⟨tv, X.T⟩ : Ls Tok)] ∧ m = 0) ⟨_, h21.nf ⟨rfl, rfl, rfl, trivial⟩, rfl⟩ ?_; clear h17
 clear h21
 rintro m20 a20 w20 ⟨h20, hm20⟩
 refine gG h20<|gK fun _ k22 => sG (oM 1 rfl<|onf fl_52_5 rfl<|oV (r_fieldB (r := 5) fl_25_0 rfl rfl rfl) rfl<|olB 0 ti_23 rfl rfl<|oeqI _ _ rfl<|.nl)<|gcF rfl (decide_eq_false (by first | exact hc | assumption))<|gX<|hK k19<|sK fun _ k24 => gRn (oM 1 rfl<|.nl)<|fun a25 w25 h25 => ?_; clear h20
 have hp26 := h25.sh.passL (Lp := [_, _, _])
 refine wl_ex (x_call h25 bd_45 rfl rfl rfl rfl rfl (dShut_b _ _ X tv nv nl dz17 c ea _ hp26 hTl hc ({ data := #[125] }))) (wanted_none rfl _) ?_
 rintro a27 w27 ⟨_, ⟨dz27, rfl, hs27⟩, hf27⟩
 have h27 : St _ K W a27 w27 _ [_, _, _] := ⟨hf27, h25.sh.backI (Lp := [_, _, _]) hs27⟩
 clear hf27 hs27 h25 hp26
 refine gG h27<|nK k24<|sK fun _ k28 => gRn (oM 3 rfl<|oV (r_build (cs := [.int .i64 5, .int .i64 0, .int .i64 (atT X X.T.length), .string (⟨#[]⟩), (.slice none 0 0)]) rfl rfl (by kernel_rfl)) rfl<|.nl)<|fun a29 w29 h29 => ?_; clear h27
 have h31 := h29.nil (α := Int) 3
 clear h29
 have h32 := h31.sel (L' := [_, _, _, _]) [1, 2, 3, 0] rfl
 have hp33 := h32.sh.passL (Lp := [_, _, _, _])
 refine wl_ex (x_call h32 bd_24 rfl rfl rfl rfl rfl (dNode_c _ _ X tv nv nl X.T.length _ _ _ _ 5 0 (atT X X.T.length) (⟨#[]⟩) (⟨.slice none 0 0, []⟩ : Ls Int) hp33 (by first | omega | (simp only [lens9]; omega)))) (wanted_none rfl _) ?_
 rintro a34 w34 ⟨_, ⟨nv34, rfl, hs34⟩, hf34⟩
 have hm34 : (nl ++ [(⟨5, 0, (atT X X.T.length), ⟨#[]⟩, (⟨.slice none 0 0, []⟩ : Ls Int)⟩ : NdL)]).length = nl.length + 1 := (by simp only [lens9])
 have h34 : St _ K W a34 w34 _ [_, _, _] := ⟨hf34, h32.sh.backI (Lp := [_, _, _, _]) hs34⟩
 clear hf34 hs34 h32 hp33
 refine gG h34<|gRn (oM 1 rfl<|.nl)<|nK k28<|gR<|fun a35 w35 h35 => x_ret1 (fn := Tryz.f23) (t := 2) rfl h35 rfl ?_; clear h34
 exact ⟨dz27, ((nl.length : Nat) : Int), nv34, (nl ++ [(⟨5, 0, (atT X X.T.length), ⟨#[]⟩, (⟨.slice none 0 0, []⟩ : Ls Int)⟩ : NdL)]), rfl, (by first | omega | (simp only [lens9] at *; omega)), h35.sh⟩

theorem badBlock (X : TE) : BadD X 23 [] 1 := fun K g tv nv nl dz c a W hS hT hc hn => dBlock_b K g X tv nv nl dz c a W hS hT hc hn

theorem dHeld_c (K : Nat → Prop) (g : Nat) (X : TE) (tv nv : Value) (i d : Nat) (nl : List NdL) (f : Nat)  (W : World) (hS : Sh K W W [.blk g 52 [tv, .int .i64 X.e, .int .i64 ((i : Nat) : Int), .int .i64 ((d : Nat) : Int), nv, .int .i64 0, .int .i64 0, .int .i64 0], .deep 57 (⟨nv, nl⟩ : Ls NdL), .own 81 (⟨tv, X.T⟩ : Ls Tok)]) (hTl : X.T.length ≤ 4000) (hd : d ≤ 20) (hi : i ≤ X.T.length) (hnl : nl.length ≤ 2 * i) (ih : ∀ f', f' ≤ f → AllD X f') (hTo : ∀ q, q < X.T.length → TokOK (nth X.T q)) (hfb : f + 1 ≤ 1000000) (hf : 20 * (X.T.length - i) + 1 ≤ f + 1) :
    Rets Tryz.prog 84 [.pointer (some ⟨g, 0, none⟩)] W (fun v w' => (∃ (a : Int) (i' : Nat) (nv' : Value) (nl' : List NdL), parseP X (f + 1) .held ⟨i, d, nl.map NdL.nd⟩ = .ok (a, ⟨i', d, nl'.map NdL.nd⟩) ∧ v = .int .i64 a ∧ Sh K W w' [.blk g 52 [tv, .int .i64 X.e, .int .i64 ((i' : Nat) : Int), .int .i64 ((d : Nat) : Int), nv', .int .i64 0, .int .i64 0, .int .i64 0], .deep 57 (⟨nv', nl'⟩ : Ls NdL), .own 81 (⟨tv, X.T⟩ : Ls Tok)]) ∨ ∃ (c a dz y : Int) (nv' : Value) (nl' : List NdL), parseP X (f + 1) .held ⟨i, d, nl.map NdL.nd⟩ = .error (c, a) ∧ ¬ c = 0 ∧ v = .int .i64 y ∧ nl'.length ≤ 10000 + 10 * (f + 1) ∧ Sh K W w' [.blk g 52 [tv, .int .i64 X.e, .int .i64 ((X.T.length : Nat) : Int), .int .i64 dz, nv', .int .i64 c, .int .i64 0, .int .i64 a], .deep 57 (⟨nv', nl'⟩ : Ls NdL), .own 81 (⟨tv, X.T⟩ : Ls Tok)]) := by
 refine gen Tryz.func84 Tryz.ntmps84 hS rfl fun a10 h10 => gG h10<|sG (oM 1 rfl<|.nl)<|sK fun _ k12 => gRn (oM 1 rfl<|.nl)<|fun a13 w13 h13 => ?_; clear h10
 have hp14 := h13.sh.passL (Lp := [_, _, _])
 refine wl_ex (x_call h13 bd_43 rfl rfl rfl rfl rfl (dOpen_c _ _ X tv nv i d nl _ hp14 hTl (by omega) ({ data := #[40] }))) (wanted_none rfl _) ?_
 rintro a15 w15 ⟨_, (⟨y15, hr15, hi15, rfl, hs15⟩ | ⟨c15, e15, dz15, hr15, hcn15, rfl, hs15⟩), hf15⟩
 ·skip
  have hl15 : i < X.T.length := hi15
  have hd15 := open_d20 hr15
  have h15 : St _ K W a15 w15 _ [_, _, _] := ⟨hf15, h13.sh.backI (Lp := [_, _, _]) hs15⟩
  clear hf15 hs15 h13 hp14
  refine gG h15<|nK k12<|sK fun _ k16 => gRn (oM 1 rfl<|.nl)<|fun a17 w17 h17 => ?_; clear h15
  have hp18 := h17.sh.passL (Lp := [_, _, _])
  refine wl_ex (x_call h17 bd_83 rfl rfl rfl rfl rfl ((ih f (by omega)).ex 0 (by omega) _ _ tv nv (i + 1) (d + 1) nl _ hp18 hTl (by omega) (by omega) (by first | omega | (simp only [lens9] at *; omega)) (by omega) (show 20 * (X.T.length - (i + 1)) + (3 + (5 - 0)) ≤ f by omega))) (wanted_none rfl _) ?_
  rintro a19 w19 ⟨_, (⟨y19, i19, nv19, nl19, hr19, rfl, hs19⟩ | ⟨c19, e19, dz19, y19, nv19, nl19, hr19, hcn19, rfl, hq919, hs19⟩), hf19⟩
  ·skip
   have hv19 := adv_parse (X := X) f (.expr 0) ⟨(i + 1), (d + 1), nl.map NdL.nd⟩ (fun h => by cases h) _ _ hr19; simp only [minT, dT, qT, List.length_map] at hv19
   have h19 : St _ K W a19 w19 _ [_, _, _] := ⟨hf19, h17.sh.backI (Lp := [_, _, _]) hs19⟩
   clear hf19 hs19 h17 hp18
   refine gG h19<|gRn (oM 1 rfl<|.nl)<|nK k16<|sK fun _ k20 => gRn (oM 1 rfl<|.nl)<|fun a21 w21 h21 => ?_; clear h19
   have hp22 := h21.sh.passL (Lp := [_, _, _])
   refine wl_ex (x_call h21 bd_45 rfl rfl rfl rfl rfl (dShut_c _ _ X tv nv19 i19 (d + 1) nl19 _ hp22 hTl (by omega) ({ data := #[41] }))) (wanted_none rfl _) ?_
   rintro a23 w23 ⟨_, (⟨y23, hr23, hi23, rfl, hs23⟩ | ⟨c23, e23, dz23, hr23, hcn23, rfl, hs23⟩), hf23⟩
   ·skip
    have hl23 : i19 < X.T.length := hi23
    have h23 : St _ K W a23 w23 _ [_, _, _] := ⟨hf23, h21.sh.backI (Lp := [_, _, _]) hs23⟩
    clear hf23 hs23 h21 hp22
    refine gG h23<|nK k20<|sG (oM 2 rfl<|.nl)<|gR<|fun a25 w25 h25 => x_ret1 (fn := Tryz.f84) (t := 2) rfl h25 rfl <| .inl ⟨y19, (i19 + 1), nv19, nl19, ?_, rfl, h25.sh⟩; clear h23
    exact (by show stepP X _ _ _ = _; simp only [stepP, andP, ne_lock, isL2, ↓reduceIte, Bool.false_eq_true, eq_self, Nat.add_sub_cancel, List.cons_append, List.nil_append, Bool.or_false, Bool.or_true, Bool.true_or, Bool.false_or, Bool.or_self, ne_3345, hr15, hr19, hr23])
   have h23 : St _ K W a23 w23 _ [_, _, _] := ⟨hf23, h21.sh.backI (Lp := [_, _, _]) hs23⟩
   clear hf23 hs23 h21 hp22
   refine gG h23<|nK k20<|sG (oM 2 rfl<|.nl)<|gR<|fun a27 w27 h27 => x_ret1 (fn := Tryz.f84) (t := 2) rfl h27 rfl <| .inr ⟨c23, e23, dz23, y19, nv19, nl19, ?_, hcn23, rfl, (by first | omega | (simp only [lens9] at *; omega)), h27.sh⟩; clear h23
   exact (by show stepP X _ _ _ = _; simp only [stepP, andP, ne_lock, isL2, ↓reduceIte, Bool.false_eq_true, eq_self, Nat.add_sub_cancel, List.cons_append, List.nil_append, Bool.or_false, Bool.or_true, Bool.true_or, Bool.false_or, Bool.or_self, ne_3345, hr15, hr19, hr23])
  have hq19 : nl19.length ≤ 10000 + 10 * f := hq919
  have h19 : St _ K W a19 w19 _ [_, _, _] := ⟨hf19, h17.sh.backI (Lp := [_, _, _]) hs19⟩
  clear hf19 hs19 h17 hp18
  refine gG h19<|gRn (oM 1 rfl<|.nl)<|nK k16<|sK fun _ k28 => gRn (oM 1 rfl<|.nl)<|fun a29 w29 h29 => ?_; clear h19
  have hp30 := h29.sh.passL (Lp := [_, _, _])
  refine wl_ex (x_call h29 bd_45 rfl rfl rfl rfl rfl (dShut_b _ _ X tv nv19 nl19 dz19 c19 e19 _ hp30 hTl hcn19 ({ data := #[41] }))) (wanted_none rfl _) ?_
  rintro a31 w31 ⟨_, ⟨dz31, rfl, hs31⟩, hf31⟩
  have h31 : St _ K W a31 w31 _ [_, _, _] := ⟨hf31, h29.sh.backI (Lp := [_, _, _]) hs31⟩
  clear hf31 hs31 h29 hp30
  refine gG h31<|nK k28<|sG (oM 2 rfl<|.nl)<|gR<|fun a33 w33 h33 => x_ret1 (fn := Tryz.f84) (t := 2) rfl h33 rfl <| .inr ⟨c19, e19, dz31, y19, nv19, nl19, ?_, hcn19, rfl, (by first | omega | (simp only [lens9] at *; omega)), h33.sh⟩; clear h31
  exact (by show stepP X _ _ _ = _; simp only [stepP, andP, ne_lock, isL2, ↓reduceIte, Bool.false_eq_true, eq_self, Nat.add_sub_cancel, List.cons_append, List.nil_append, Bool.or_false, Bool.or_true, Bool.true_or, Bool.false_or, Bool.or_self, ne_3345, hr15, hr19])
 have h15 : St _ K W a15 w15 _ [_, _, _] := ⟨hf15, h13.sh.backI (Lp := [_, _, _]) hs15⟩
 clear hf15 hs15 h13 hp14
 refine gG h15<|nK k12<|sK fun _ k34 => gRn (oM 1 rfl<|.nl)<|fun a35 w35 h35 => ?_; clear h15
 have hp36 := h35.sh.passL (Lp := [_, _, _])
 refine wl_ex (x_call h35 bd_83 rfl rfl rfl rfl rfl ((badExpr _ 0 (by omega)) _ _ tv nv nl dz15 c15 e15 _ hp36 hTl hcn15 (by first | omega | (simp only [lens9] at *; omega)))) (wanted_none rfl _) ?_
 rintro a37 w37 ⟨_, ⟨dz37, y37, nv37, nl37, rfl, hq937, hs37⟩, hf37⟩
 have hq37 : nl37.length ≤ nl.length + 1 := hq937
 have h37 : St _ K W a37 w37 _ [_, _, _] := ⟨hf37, h35.sh.backI (Lp := [_, _, _]) hs37⟩
 clear hf37 hs37 h35 hp36
 refine gG h37<|gRn (oM 1 rfl<|.nl)<|nK k34<|sK fun _ k38 => gRn (oM 1 rfl<|.nl)<|fun a39 w39 h39 => ?_; clear h37
 have hp40 := h39.sh.passL (Lp := [_, _, _])
 refine wl_ex (x_call h39 bd_45 rfl rfl rfl rfl rfl (dShut_b _ _ X tv nv37 nl37 dz37 c15 e15 _ hp40 hTl hcn15 ({ data := #[41] }))) (wanted_none rfl _) ?_
 rintro a41 w41 ⟨_, ⟨dz41, rfl, hs41⟩, hf41⟩
 have h41 : St _ K W a41 w41 _ [_, _, _] := ⟨hf41, h39.sh.backI (Lp := [_, _, _]) hs41⟩
 clear hf41 hs41 h39 hp40
 refine gG h41<|nK k38<|sG (oM 2 rfl<|.nl)<|gR<|fun a43 w43 h43 => x_ret1 (fn := Tryz.f84) (t := 2) rfl h43 rfl <| .inr ⟨c15, e15, dz41, y37, nv37, nl37, ?_, hcn15, rfl, (by first | omega | (simp only [lens9] at *; omega)), h43.sh⟩; clear h41
 exact (by show stepP X _ _ _ = _; simp only [stepP, andP, ne_lock, isL2, ↓reduceIte, Bool.false_eq_true, eq_self, Nat.add_sub_cancel, List.cons_append, List.nil_append, Bool.or_false, Bool.or_true, Bool.true_or, Bool.false_or, Bool.or_self, ne_3345, hr15])

theorem dUnary_c (K : Nat → Prop) (g : Nat) (X : TE) (tv nv : Value) (i d : Nat) (nl : List NdL) (f : Nat)  (W : World) (hS : Sh K W W [.blk g 52 [tv, .int .i64 X.e, .int .i64 ((i : Nat) : Int), .int .i64 ((d : Nat) : Int), nv, .int .i64 0, .int .i64 0, .int .i64 0], .deep 57 (⟨nv, nl⟩ : Ls NdL), .own 81 (⟨tv, X.T⟩ : Ls Tok)]) (hTl : X.T.length ≤ 4000) (hd : d ≤ 20) (hi : i ≤ X.T.length) (hnl : nl.length ≤ 2 * i) (ih : ∀ f', f' ≤ f → AllD X f') (hTo : ∀ q, q < X.T.length → TokOK (nth X.T q)) (hfb : f + 1 ≤ 1000000) (hf : 20 * (X.T.length - i) + 2 ≤ f + 1) :
    Rets Tryz.prog 108 [.pointer (some ⟨g, 0, none⟩)] W (fun v w' => (∃ (a : Int) (i' : Nat) (nv' : Value) (nl' : List NdL), parseP X (f + 1) .unary ⟨i, d, nl.map NdL.nd⟩ = .ok (a, ⟨i', d, nl'.map NdL.nd⟩) ∧ v = .int .i64 a ∧ Sh K W w' [.blk g 52 [tv, .int .i64 X.e, .int .i64 ((i' : Nat) : Int), .int .i64 ((d : Nat) : Int), nv', .int .i64 0, .int .i64 0, .int .i64 0], .deep 57 (⟨nv', nl'⟩ : Ls NdL), .own 81 (⟨tv, X.T⟩ : Ls Tok)]) ∨ ∃ (c a dz y : Int) (nv' : Value) (nl' : List NdL), parseP X (f + 1) .unary ⟨i, d, nl.map NdL.nd⟩ = .error (c, a) ∧ ¬ c = 0 ∧ v = .int .i64 y ∧ nl'.length ≤ 10000 + 10 * (f + 1) ∧ Sh K W w' [.blk g 52 [tv, .int .i64 X.e, .int .i64 ((X.T.length : Nat) : Int), .int .i64 dz, nv', .int .i64 c, .int .i64 0, .int .i64 a], .deep 57 (⟨nv', nl'⟩ : Ls NdL), .own 81 (⟨tv, X.T⟩ : Ls Tok)]) := by
 refine gen Tryz.func108 Tryz.ntmps108 hS rfl fun a10 h10 => gG h10<|sG (oM 1 rfl<|.nl)<|sK fun _ k12 => gRn (oM 1 rfl<|.nl)<|gP (fun _ _ h_ => xCl h_ bd_21 rfl (dAt_c g _ _ _ _ _ _ _ i _ (h_.sh.blk 0 rfl) (h_.sh.own 2 rfl))) rfl<|gRn (oM 1 rfl<|.nl)<|nK k12<|sK fun _ k14 => gRn (oM 1 rfl<|.nl)<|gP (fun _ _ h_ => xCl h_ bd_19 rfl (dIs_c g _ _ _ _ _ _ _ i _ (h_.sh.blk 0 rfl) (h_.sh.own 2 rfl) ({ data := #[45] }))) rfl<|gRn (oM 1 rfl<|.nl)<|nK k14<|sK fun _ k16 => gRn (oM 1 rfl<|.nl)<|gP (fun _ _ h_ => xCl h_ bd_19 rfl (dIs_c g _ _ _ _ _ _ _ i _ (h_.sh.blk 0 rfl) (h_.sh.own 2 rfl) ({ data := #[33] }))) rfl<|gRn (oM 1 rfl<|.nl)<|nK k16<|gK fun _ k18 => sK fun _ k19 => gRn (oM 2 rfl<|.nl)<|?_; clear h10
 rcases Bool.eq_false_or_eq_true (isT X i ({ data := #[45] })) with hb20 | hb20
 ·skip
  refine gRn (oK hb20 rfl<|opT hb20 rfl<|.nl)<|nK k19<|gcT rfl rfl<|?_
  have hc21 : isT X i ({ data := #[45] }) = true := (by assumption)
  have hl21 := isl_lt hc21
  have hu21 := isT_text hc21
  refine sK fun _ k22 => gRn (oM 1 rfl<|oV (r_build (cs := [.int .i64 17, .int .i64 0, .int .i64 (atT X i), .string (⟨#[]⟩), (.slice none 0 0)]) rfl rfl (by kernel_rfl)) rfl<|.nl)<|gal ti_57 rfl fun b23 => gsw 0 ti_57 rfl rfl rfl<|nK k22<|gK fun _ k25 => sG (oM 1 rfl<|.nl)<|gCb rfl (fun hb27 => ?_) fun hb27 => ?_
  ·skip
   have hc28 : isT X i ({ data := #[33] }) = true := (by assumption)
   have hl28 := isl_lt hc28
   have hu28 := isT_text hc28
   exact absurd (hu21.symm.trans hu28) (by decide)
  have hc29 : isT X i ({ data := #[33] }) = false := (by assumption)
  refine gL<|gRn (oM 1 rfl<|.nl)<|fun a30 w30 h30 => ?_
  have h31 := h30.sel (L' := [_, _, _, _]) [1, 2, 3, 0] rfl
  have hp32 := h31.sh.passL (Lp := [_, _, _])
  refine wl_ex (x_call h31 bd_43 rfl rfl rfl rfl rfl (dOpen_c _ _ X tv nv i d nl _ hp32 hTl (by omega) ({ data := #[45] }))) (wanted_none rfl _) ?_
  rintro a33 w33 ⟨_, (⟨y33, hr33, hi33, rfl, hs33⟩ | ⟨c33, e33, dz33, hr33, hcn33, rfl, hs33⟩), hf33⟩
  ·skip
   have hl33 : i < X.T.length := hi33
   have hd33 := open_d20 hr33
   have h33 : St _ K W a33 w33 _ [_, _, _, _] := ⟨hf33, h31.sh.backI (Lp := [_, _, _]) hs33⟩
   clear hf33 hs33 h31 hp32
   refine gG h33<|nK k25<|gK fun _ k34 => sG (oM 1 rfl<|onf fl_52_5 rfl<|oV (r_fieldB (r := 5) fl_25_0 rfl rfl rfl) rfl<|olB 0 ti_23 rfl rfl<|oneN 0 0 rfl<|.nl)<|gF [0, 6, 33] rfl<|gcF rfl (by decide)<|gS<|hK k34<|sK fun _ k36 => gRn (oM 1 rfl<|.nl)<|fun a37 w37 h37 => ?_; clear h33
   have hp38 := h37.sh.passL (Lp := [_, _, _])
   refine wl_ex (x_call h37 bd_108 rfl rfl rfl rfl rfl ((ih f (by omega)).un _ _ tv nv (i + 1) (d + 1) nl _ hp38 hTl (by omega) (by omega) (by first | omega | (simp only [lens9] at *; omega)) (by omega) (show 20 * (X.T.length - (i + 1)) + 2 ≤ f by omega))) (wanted_none rfl _) ?_
   rintro a39 w39 ⟨_, (⟨y39, i39, nv39, nl39, hr39, rfl, hs39⟩ | ⟨c39, e39, dz39, y39, nv39, nl39, hr39, hcn39, rfl, hq939, hs39⟩), hf39⟩
   ·skip
    have hv39 := adv_parse (X := X) f .unary ⟨(i + 1), (d + 1), nl.map NdL.nd⟩ (fun h => by cases h) _ _ hr39; simp only [minT, dT, qT, List.length_map] at hv39
    have h39 : St _ K W a39 w39 _ [_, _, _, _] := ⟨hf39, h37.sh.backI (Lp := [_, _, _]) hs39⟩
    clear hf39 hs39 h37 hp38
    refine gG h39<|gRn (oM 1 rfl<|.nl)<|nK k36<|sK fun _ k40 => gRn (oM 1 rfl<|onfl 0 fl_52_3 ti_3 rfl rfl<|osbN _ 1 om9 rfl<|onf fl_52_3 rfl<|.nl)<|gst 0 ti_3 rfl rfl rfl<|nK k40<|sK fun _ k42 => gRn (oM 1 rfl<|.nl)<|gE1 (fun _ _ h_ => x_lit (n := 1) (cs := [.int .i64 y39]) ([y39] : List Int) h_ sl_30 ti_3 rfl rfl rfl (by decide) rfl (by kernel_rfl) rfl (fun q hq w h => Flat.inner _ _) (fun q hq b hb => (Flat.on _ _ hb).elim) rfl rfl) rfl fun v43 => gRn (ofB fl_57_4 rfl<|.nl)<|gsr 4 ti_30 rfl (aO 0 rfl) rfl<|nK k42<|sK fun _ k45 => gRn (oM 1 rfl<|olw 4 ti_57 rfl rfl<|.nl)<|fun a46 w46 h46 => ?_; clear h39
    have h47 := h46.sel (L' := [_, _, _, _, _]) [1, 2, 3, 0, 4] rfl
    have hp48 := h47.sh.passL (Lp := [_, _, _, _])
    refine wl_ex (x_call h47 bd_24 rfl rfl rfl rfl rfl (dNode_c _ _ X tv nv39 nl39 i39 _ _ _ _ 17 0 (atT X i) (⟨#[]⟩) (⟨v43, [y39]⟩ : Ls Int) hp48 (by first | omega | (simp only [lens9]; omega)))) (wanted_none rfl _) ?_
    rintro a49 w49 ⟨_, ⟨nv49, rfl, hs49⟩, hf49⟩
    have hm49 : (nl39 ++ [(⟨17, 0, (atT X i), ⟨#[]⟩, (⟨v43, [y39]⟩ : Ls Int)⟩ : NdL)]).length = nl39.length + 1 := (by simp only [lens9])
    have hr49 : putP (⟨17, 0, (atT X i), ⟨#[]⟩, [y39]⟩ : Nd) ⟨i39, d, nl39.map NdL.nd⟩ = .ok (((nl39.length : Nat) : Int), ⟨i39, d, (nl39 ++ [(⟨17, 0, (atT X i), ⟨#[]⟩, (⟨v43, [y39]⟩ : Ls Int)⟩ : NdL)]).map NdL.nd⟩) := put_eq (x := (⟨17, 0, (atT X i), ⟨#[]⟩, (⟨v43, [y39]⟩ : Ls Int)⟩ : NdL))
    have h49 : St _ K W a49 w49 _ [_, _, _, _] := ⟨hf49, h47.sh.backI (Lp := [_, _, _, _]) hs49⟩
    clear hf49 hs49 h47 hp48
    refine gG h49<|gRn (oM 1 rfl<|.nl)<|nK k45<|gR<|uT<|fun a50 w50 h50 => x_ret1 (fn := Tryz.f108) (t := 2) rfl h50 rfl <| .inl ⟨((nl39.length : Nat) : Int), i39, nv49, (nl39 ++ [(⟨17, 0, (atT X i), ⟨#[]⟩, (⟨v43, [y39]⟩ : Ls Int)⟩ : NdL)]), ?_, rfl, (h50.sh.sel [0, 1, 2] rfl)⟩; clear h49
    exact (by show stepP X _ _ _ = _; simp only [stepP, andP, ne_lock, isL2, ↓reduceIte, Bool.false_eq_true, eq_self, Nat.add_sub_cancel, List.cons_append, List.nil_append, Bool.or_false, Bool.or_true, Bool.true_or, Bool.false_or, Bool.or_self, ne_3345, hr33, hr39, hr49, hu21, hc21, hc29])
   have hq39 : nl39.length ≤ 10000 + 10 * f := hq939
   have h39 : St _ K W a39 w39 _ [_, _, _, _] := ⟨hf39, h37.sh.backI (Lp := [_, _, _]) hs39⟩
   clear hf39 hs39 h37 hp38
   refine gG h39<|gRn (oM 1 rfl<|.nl)<|nK k36<|sK fun _ k51 => gRn (oM 1 rfl<|onfl 0 fl_52_3 ti_3 rfl rfl<|oV (r_subW (p := dz39) (q := 1) rfl rfl rfl) rfl<|onf fl_52_3 rfl<|.nl)<|gst 0 ti_3 rfl rfl rfl<|nK k51<|sK fun _ k53 => gRn (oM 1 rfl<|.nl)<|gE1 (fun _ _ h_ => x_lit (n := 1) (cs := [.int .i64 y39]) ([y39] : List Int) h_ sl_30 ti_3 rfl rfl rfl (by decide) rfl (by kernel_rfl) rfl (fun q hq w h => Flat.inner _ _) (fun q hq b hb => (Flat.on _ _ hb).elim) rfl rfl) rfl fun v54 => gRn (ofB fl_57_4 rfl<|.nl)<|gsr 4 ti_30 rfl (aO 0 rfl) rfl<|nK k53<|sK fun _ k56 => gRn (oM 1 rfl<|olw 4 ti_57 rfl rfl<|.nl)<|fun a57 w57 h57 => ?_; clear h39
   have h58 := h57.sel (L' := [_, _, _, _, _]) [1, 2, 3, 0, 4] rfl
   have hp59 := h58.sh.passL (Lp := [_, _, _, _])
   refine wl_ex (x_call h58 bd_24 rfl rfl rfl rfl rfl (dNode_c _ _ X tv nv39 nl39 X.T.length _ _ _ _ 17 0 (atT X i) (⟨#[]⟩) (⟨v54, [y39]⟩ : Ls Int) hp59 (by first | omega | (simp only [lens9]; omega)))) (wanted_none rfl _) ?_
   rintro a60 w60 ⟨_, ⟨nv60, rfl, hs60⟩, hf60⟩
   have hm60 : (nl39 ++ [(⟨17, 0, (atT X i), ⟨#[]⟩, (⟨v54, [y39]⟩ : Ls Int)⟩ : NdL)]).length = nl39.length + 1 := (by simp only [lens9])
   have h60 : St _ K W a60 w60 _ [_, _, _, _] := ⟨hf60, h58.sh.backI (Lp := [_, _, _, _]) hs60⟩
   clear hf60 hs60 h58 hp59
   refine gG h60<|gRn (oM 1 rfl<|.nl)<|nK k56<|gR<|uT<|fun a61 w61 h61 => x_ret1 (fn := Tryz.f108) (t := 2) rfl h61 rfl <| .inr ⟨c39, e39, (wrap64 (dz39 - 1)), ((nl39.length : Nat) : Int), nv60, (nl39 ++ [(⟨17, 0, (atT X i), ⟨#[]⟩, (⟨v54, [y39]⟩ : Ls Int)⟩ : NdL)]), ?_, hcn39, rfl, (by first | omega | (simp only [lens9] at *; omega)), (h61.sh.sel [0, 1, 2] rfl)⟩; clear h60
   exact (by show stepP X _ _ _ = _; simp only [stepP, andP, ne_lock, isL2, ↓reduceIte, Bool.false_eq_true, eq_self, Nat.add_sub_cancel, List.cons_append, List.nil_append, Bool.or_false, Bool.or_true, Bool.true_or, Bool.false_or, Bool.or_self, ne_3345, hr33, hr39, hu21, hc21, hc29])
  have h33 : St _ K W a33 w33 _ [_, _, _, _] := ⟨hf33, h31.sh.backI (Lp := [_, _, _]) hs33⟩
  clear hf33 hs33 h31 hp32
  refine gG h33<|nK k25<|gK fun _ k62 => sG (oM 1 rfl<|onf fl_52_5 rfl<|oV (r_fieldB (r := 5) fl_25_0 rfl rfl rfl) rfl<|olB 0 ti_23 rfl rfl<|oneI _ _ rfl<|.nl)<|gF [0, 6, 33] rfl<|gcT rfl (decide_eq_true (by first | exact hc | assumption))<|sG (oM 1 rfl<|.nl)<|gR<|uT<|uT<|fun a65 w65 h65 => x_ret1 (fn := Tryz.f108) (t := 2) rfl h65 rfl <| .inr ⟨c33, e33, dz33, 0, nv, nl, ?_, hcn33, rfl, (by first | omega | (simp only [lens9] at *; omega)), (h65.sh.sel [0, 1, 2] rfl)⟩; clear h33
  exact (by show stepP X _ _ _ = _; simp only [stepP, andP, ne_lock, isL2, ↓reduceIte, Bool.false_eq_true, eq_self, Nat.add_sub_cancel, List.cons_append, List.nil_append, Bool.or_false, Bool.or_true, Bool.true_or, Bool.false_or, Bool.or_self, ne_3345, hr33, hu21, hc21, hc29])
 refine gRn (oG hb20 (r_move rfl rfl) rfl<|opF hb20 rfl<|.nl)<|nK k19<|gCb rfl (fun hb66 => ?_) fun hb66 => ?_
 ·skip
  have hc67 : isT X i ({ data := #[45] }) = false := (by assumption)
  have hc68 : isT X i ({ data := #[33] }) = true := (by assumption)
  have hl68 := isl_lt hc68
  have hu68 := isT_text hc68
  refine sK fun _ k69 => gRn (oM 1 rfl<|oV (r_build (cs := [.int .i64 17, .int .i64 0, .int .i64 (atT X i), .string (⟨#[]⟩), (.slice none 0 0)]) rfl rfl (by kernel_rfl)) rfl<|.nl)<|gal ti_57 rfl fun b70 => gsw 0 ti_57 rfl rfl rfl<|nK k69<|gK fun _ k72 => sG (oM 1 rfl<|.nl)<|gcT rfl hb66<|sK fun _ k74 => gRn (ofB fl_57_0 rfl<|.nl)<|gst 0 ti_3 rfl rfl rfl<|nK k74<|gL<|gRn (oM 1 rfl<|.nl)<|fun a76 w76 h76 => ?_
  have h77 := h76.sel (L' := [_, _, _, _]) [1, 2, 3, 0] rfl
  have hp78 := h77.sh.passL (Lp := [_, _, _])
  refine wl_ex (x_call h77 bd_43 rfl rfl rfl rfl rfl (dOpen_c _ _ X tv nv i d nl _ hp78 hTl (by omega) ({ data := #[33] }))) (wanted_none rfl _) ?_
  rintro a79 w79 ⟨_, (⟨y79, hr79, hi79, rfl, hs79⟩ | ⟨c79, e79, dz79, hr79, hcn79, rfl, hs79⟩), hf79⟩
  ·skip
   have hl79 : i < X.T.length := hi79
   have hd79 := open_d20 hr79
   have h79 : St _ K W a79 w79 _ [_, _, _, _] := ⟨hf79, h77.sh.backI (Lp := [_, _, _]) hs79⟩
   clear hf79 hs79 h77 hp78
   refine gG h79<|nK k72<|gK fun _ k80 => sG (oM 1 rfl<|onf fl_52_5 rfl<|oV (r_fieldB (r := 5) fl_25_0 rfl rfl rfl) rfl<|olB 0 ti_23 rfl rfl<|oneN 0 0 rfl<|.nl)<|gF [0, 6, 33] rfl<|gcF rfl (by decide)<|gS<|hK k80<|sK fun _ k82 => gRn (oM 1 rfl<|.nl)<|fun a83 w83 h83 => ?_; clear h79
   have hp84 := h83.sh.passL (Lp := [_, _, _])
   refine wl_ex (x_call h83 bd_108 rfl rfl rfl rfl rfl ((ih f (by omega)).un _ _ tv nv (i + 1) (d + 1) nl _ hp84 hTl (by omega) (by omega) (by first | omega | (simp only [lens9] at *; omega)) (by omega) (show 20 * (X.T.length - (i + 1)) + 2 ≤ f by omega))) (wanted_none rfl _) ?_
   rintro a85 w85 ⟨_, (⟨y85, i85, nv85, nl85, hr85, rfl, hs85⟩ | ⟨c85, e85, dz85, y85, nv85, nl85, hr85, hcn85, rfl, hq985, hs85⟩), hf85⟩
   ·skip
    have hv85 := adv_parse (X := X) f .unary ⟨(i + 1), (d + 1), nl.map NdL.nd⟩ (fun h => by cases h) _ _ hr85; simp only [minT, dT, qT, List.length_map] at hv85
    have h85 : St _ K W a85 w85 _ [_, _, _, _] := ⟨hf85, h83.sh.backI (Lp := [_, _, _]) hs85⟩
    clear hf85 hs85 h83 hp84
    refine gG h85<|gRn (oM 1 rfl<|.nl)<|nK k82<|sK fun _ k86 => gRn (oM 1 rfl<|onfl 0 fl_52_3 ti_3 rfl rfl<|osbN _ 1 om9 rfl<|onf fl_52_3 rfl<|.nl)<|gst 0 ti_3 rfl rfl rfl<|nK k86<|sK fun _ k88 => gRn (oM 1 rfl<|.nl)<|gE1 (fun _ _ h_ => x_lit (n := 1) (cs := [.int .i64 y85]) ([y85] : List Int) h_ sl_30 ti_3 rfl rfl rfl (by decide) rfl (by kernel_rfl) rfl (fun q hq w h => Flat.inner _ _) (fun q hq b hb => (Flat.on _ _ hb).elim) rfl rfl) rfl fun v89 => gRn (ofB fl_57_4 rfl<|.nl)<|gsr 4 ti_30 rfl (aO 0 rfl) rfl<|nK k88<|sK fun _ k91 => gRn (oM 1 rfl<|olw 4 ti_57 rfl rfl<|.nl)<|fun a92 w92 h92 => ?_; clear h85
    have h93 := h92.sel (L' := [_, _, _, _, _]) [1, 2, 3, 0, 4] rfl
    have hp94 := h93.sh.passL (Lp := [_, _, _, _])
    refine wl_ex (x_call h93 bd_24 rfl rfl rfl rfl rfl (dNode_c _ _ X tv nv85 nl85 i85 _ _ _ _ 18 0 (atT X i) (⟨#[]⟩) (⟨v89, [y85]⟩ : Ls Int) hp94 (by first | omega | (simp only [lens9]; omega)))) (wanted_none rfl _) ?_
    rintro a95 w95 ⟨_, ⟨nv95, rfl, hs95⟩, hf95⟩
    have hm95 : (nl85 ++ [(⟨18, 0, (atT X i), ⟨#[]⟩, (⟨v89, [y85]⟩ : Ls Int)⟩ : NdL)]).length = nl85.length + 1 := (by simp only [lens9])
    have hr95 : putP (⟨18, 0, (atT X i), ⟨#[]⟩, [y85]⟩ : Nd) ⟨i85, d, nl85.map NdL.nd⟩ = .ok (((nl85.length : Nat) : Int), ⟨i85, d, (nl85 ++ [(⟨18, 0, (atT X i), ⟨#[]⟩, (⟨v89, [y85]⟩ : Ls Int)⟩ : NdL)]).map NdL.nd⟩) := put_eq (x := (⟨18, 0, (atT X i), ⟨#[]⟩, (⟨v89, [y85]⟩ : Ls Int)⟩ : NdL))
    have h95 : St _ K W a95 w95 _ [_, _, _, _] := ⟨hf95, h93.sh.backI (Lp := [_, _, _, _]) hs95⟩
    clear hf95 hs95 h93 hp94
    refine gG h95<|gRn (oM 1 rfl<|.nl)<|nK k91<|gR<|uT<|fun a96 w96 h96 => x_ret1 (fn := Tryz.f108) (t := 2) rfl h96 rfl <| .inl ⟨((nl85.length : Nat) : Int), i85, nv95, (nl85 ++ [(⟨18, 0, (atT X i), ⟨#[]⟩, (⟨v89, [y85]⟩ : Ls Int)⟩ : NdL)]), ?_, rfl, (h96.sh.sel [0, 1, 2] rfl)⟩; clear h95
    exact (by show stepP X _ _ _ = _; simp only [stepP, andP, ne_lock, isL2, ↓reduceIte, Bool.false_eq_true, eq_self, Nat.add_sub_cancel, List.cons_append, List.nil_append, Bool.or_false, Bool.or_true, Bool.true_or, Bool.false_or, Bool.or_self, ne_3345, hr79, hr85, hr95, hc67, hu68, hc68])
   have hq85 : nl85.length ≤ 10000 + 10 * f := hq985
   have h85 : St _ K W a85 w85 _ [_, _, _, _] := ⟨hf85, h83.sh.backI (Lp := [_, _, _]) hs85⟩
   clear hf85 hs85 h83 hp84
   refine gG h85<|gRn (oM 1 rfl<|.nl)<|nK k82<|sK fun _ k97 => gRn (oM 1 rfl<|onfl 0 fl_52_3 ti_3 rfl rfl<|oV (r_subW (p := dz85) (q := 1) rfl rfl rfl) rfl<|onf fl_52_3 rfl<|.nl)<|gst 0 ti_3 rfl rfl rfl<|nK k97<|sK fun _ k99 => gRn (oM 1 rfl<|.nl)<|gE1 (fun _ _ h_ => x_lit (n := 1) (cs := [.int .i64 y85]) ([y85] : List Int) h_ sl_30 ti_3 rfl rfl rfl (by decide) rfl (by kernel_rfl) rfl (fun q hq w h => Flat.inner _ _) (fun q hq b hb => (Flat.on _ _ hb).elim) rfl rfl) rfl fun v100 => gRn (ofB fl_57_4 rfl<|.nl)<|gsr 4 ti_30 rfl (aO 0 rfl) rfl<|nK k99<|sK fun _ k102 => gRn (oM 1 rfl<|olw 4 ti_57 rfl rfl<|.nl)<|fun a103 w103 h103 => ?_; clear h85
   have h104 := h103.sel (L' := [_, _, _, _, _]) [1, 2, 3, 0, 4] rfl
   have hp105 := h104.sh.passL (Lp := [_, _, _, _])
   refine wl_ex (x_call h104 bd_24 rfl rfl rfl rfl rfl (dNode_c _ _ X tv nv85 nl85 X.T.length _ _ _ _ 18 0 (atT X i) (⟨#[]⟩) (⟨v100, [y85]⟩ : Ls Int) hp105 (by first | omega | (simp only [lens9]; omega)))) (wanted_none rfl _) ?_
   rintro a106 w106 ⟨_, ⟨nv106, rfl, hs106⟩, hf106⟩
   have hm106 : (nl85 ++ [(⟨18, 0, (atT X i), ⟨#[]⟩, (⟨v100, [y85]⟩ : Ls Int)⟩ : NdL)]).length = nl85.length + 1 := (by simp only [lens9])
   have h106 : St _ K W a106 w106 _ [_, _, _, _] := ⟨hf106, h104.sh.backI (Lp := [_, _, _, _]) hs106⟩
   clear hf106 hs106 h104 hp105
   refine gG h106<|gRn (oM 1 rfl<|.nl)<|nK k102<|gR<|uT<|fun a107 w107 h107 => x_ret1 (fn := Tryz.f108) (t := 2) rfl h107 rfl <| .inr ⟨c85, e85, (wrap64 (dz85 - 1)), ((nl85.length : Nat) : Int), nv106, (nl85 ++ [(⟨18, 0, (atT X i), ⟨#[]⟩, (⟨v100, [y85]⟩ : Ls Int)⟩ : NdL)]), ?_, hcn85, rfl, (by first | omega | (simp only [lens9] at *; omega)), (h107.sh.sel [0, 1, 2] rfl)⟩; clear h106
   exact (by show stepP X _ _ _ = _; simp only [stepP, andP, ne_lock, isL2, ↓reduceIte, Bool.false_eq_true, eq_self, Nat.add_sub_cancel, List.cons_append, List.nil_append, Bool.or_false, Bool.or_true, Bool.true_or, Bool.false_or, Bool.or_self, ne_3345, hr79, hr85, hc67, hu68, hc68])
  have h79 : St _ K W a79 w79 _ [_, _, _, _] := ⟨hf79, h77.sh.backI (Lp := [_, _, _]) hs79⟩
  clear hf79 hs79 h77 hp78
  refine gG h79<|nK k72<|gK fun _ k108 => sG (oM 1 rfl<|onf fl_52_5 rfl<|oV (r_fieldB (r := 5) fl_25_0 rfl rfl rfl) rfl<|olB 0 ti_23 rfl rfl<|oneI _ _ rfl<|.nl)<|gF [0, 6, 33] rfl<|gcT rfl (decide_eq_true (by first | exact hc | assumption))<|sG (oM 1 rfl<|.nl)<|gR<|uT<|uT<|fun a111 w111 h111 => x_ret1 (fn := Tryz.f108) (t := 2) rfl h111 rfl <| .inr ⟨c79, e79, dz79, 0, nv, nl, ?_, hcn79, rfl, (by first | omega | (simp only [lens9] at *; omega)), (h111.sh.sel [0, 1, 2] rfl)⟩; clear h79
  exact (by show stepP X _ _ _ = _; simp only [stepP, andP, ne_lock, isL2, ↓reduceIte, Bool.false_eq_true, eq_self, Nat.add_sub_cancel, List.cons_append, List.nil_append, Bool.or_false, Bool.or_true, Bool.true_or, Bool.false_or, Bool.or_self, ne_3345, hr79, hc67, hu68, hc68])
 have hc112 : isT X i ({ data := #[45] }) = false := (by assumption)
 have hc113 : isT X i ({ data := #[33] }) = false := (by assumption)
 refine gS<|hK k18<|sK fun _ k114 => gRn (oM 1 rfl<|.nl)<|gP (fun _ _ h_ => xCl h_ bd_19 rfl (dIs_c g _ _ _ _ _ _ _ i _ (h_.sh.blk 0 rfl) (h_.sh.own 2 rfl) ({ data := #[40] }))) rfl<|gRn (oM 1 rfl<|.nl)<|nK k114<|gK fun _ k116 => sG (oM 1 rfl<|.nl)<|gCb rfl (fun hb118 => ?_) fun hb118 => ?_
 ·skip
  have hc119 : isT X i ({ data := #[40] }) = true := (by assumption)
  have hl119 := isl_lt hc119
  refine sK fun _ k120 => gRn (oM 1 rfl<|.nl)<|fun a121 w121 h121 => ?_
  have hp122 := h121.sh.passL (Lp := [_, _, _])
  refine wl_ex (x_call h121 bd_84 rfl rfl rfl rfl rfl ((ih f (by omega)).he _ _ tv nv i d nl _ hp122 hTl (by omega) (by omega) (by first | omega | (simp only [lens9] at *; omega)) (by omega) (show 20 * (X.T.length - i) + 1 ≤ f by omega))) (wanted_none rfl _) ?_
  rintro a123 w123 ⟨_, (⟨y123, i123, nv123, nl123, hr123, rfl, hs123⟩ | ⟨c123, e123, dz123, y123, nv123, nl123, hr123, hcn123, rfl, hq9123, hs123⟩), hf123⟩
  ·skip
   have hv123 := adv_parse (X := X) f .held ⟨i, d, nl.map NdL.nd⟩ (fun h => by cases h) _ _ hr123; simp only [minT, dT, qT, List.length_map] at hv123
   have h123 : St _ K W a123 w123 _ [_, _, _] := ⟨hf123, h121.sh.backI (Lp := [_, _, _]) hs123⟩
   clear hf123 hs123 h121 hp122
   refine gG h123<|gRn (oM 1 rfl<|.nl)<|nK k120<|gR<|uT<|fun a124 w124 h124 => x_ret1 (fn := Tryz.f108) (t := 2) rfl h124 rfl <| .inl ⟨y123, i123, nv123, nl123, ?_, rfl, h124.sh⟩; clear h123
   exact (by show stepP X _ _ _ = _; simp only [stepP, andP, ne_lock, isL2, ↓reduceIte, Bool.false_eq_true, eq_self, Nat.add_sub_cancel, List.cons_append, List.nil_append, Bool.or_false, Bool.or_true, Bool.true_or, Bool.false_or, Bool.or_self, ne_3345, hr123, hc112, hc113, hc119])
  have hq123 : nl123.length ≤ 10000 + 10 * f := hq9123
  have h123 : St _ K W a123 w123 _ [_, _, _] := ⟨hf123, h121.sh.backI (Lp := [_, _, _]) hs123⟩
  clear hf123 hs123 h121 hp122
  refine gG h123<|gRn (oM 1 rfl<|.nl)<|nK k120<|gR<|uT<|fun a125 w125 h125 => x_ret1 (fn := Tryz.f108) (t := 2) rfl h125 rfl <| .inr ⟨c123, e123, dz123, y123, nv123, nl123, ?_, hcn123, rfl, (by first | omega | (simp only [lens9] at *; omega)), h125.sh⟩; clear h123
  exact (by show stepP X _ _ _ = _; simp only [stepP, andP, ne_lock, isL2, ↓reduceIte, Bool.false_eq_true, eq_self, Nat.add_sub_cancel, List.cons_append, List.nil_append, Bool.or_false, Bool.or_true, Bool.true_or, Bool.false_or, Bool.or_self, ne_3345, hr123, hc112, hc113, hc119])
 have hc126 : isT X i ({ data := #[40] }) = false := (by assumption)
 refine gS<|hK k116<|gK fun _ k127 => gK fun _ k128 => fun a130 w130 h130 => x_quiet (by kernel_rfl) (by kernel_rfl) h130 fun _ z131 => qQ h130.fr<|qRn (oM 1 rfl<|onfl 0 fl_52_2 ti_3 rfl rfl<|oM 1 rfl<|onfl 0 fl_52_0 ti_42 rfl rfl<|.nl)<|?_
 have hl132 : X.T.length ≤ 140737488355328 := (h130.sh.own 2 rfl).len
 refine qRn (oln (n := X.T.length) sl_42 (aO 2 rfl) rfl<|oltN _ _ rfl<|oM 1 rfl<|.nl)<|?_
 rcases dsp (i < X.T.length) with ⟨hb133, hp133⟩ | ⟨hb133, hp133⟩
 ·skip
  refine qRn (oG hb133 (r_move rfl rfl) rfl<|oG hb133 (r_nil rfl rfl) rfl<|oG hb133 (r_fieldB (r := 0) fl_52_0 rfl rfl rfl) rfl<|oG hb133 (r_ldb (i := 0) ti_42 rfl rfl rfl rfl) rfl<|oG hb133 (r_move rfl rfl) rfl<|oG hb133 (r_nil rfl rfl) rfl<|oG hb133 (r_fieldB (r := 2) fl_52_2 rfl rfl rfl) rfl<|oG hb133 (r_ldb (i := 0) ti_3 rfl rfl rfl rfl) rfl<|oG hb133 (r_ixN (s := (⟨tv, X.T⟩ : Ls Tok)) (q := i) sl_42 ti_81 rfl rfl rfl (fun w h => (h.own 2 rfl)) (show i < X.T.length from om9)) rfl<|oG hb133 (r_fieldE (r := 0) fl_81_0 rfl rfl rfl) rfl<|oG hb133 (r_lde (s := (⟨tv, X.T⟩ : Ls Tok)) (i := i) (v := .int .i64 ((nth X.T i).k)) ti_3 rfl rfl rfl (fun w h => (h.own 2 rfl)) (show i < X.T.length from om9) (Nat.le_of_ble_eq_true rfl) rfl) rfl<|oG hb133 (r_eqlI (p := (nth X.T i).k) (q := 3) rfl rfl rfl) rfl<|opT hb133 rfl<|.nl)<|qN z131<|?_; clear h130
  refine hK k128<|gF [0, 3, 77] rfl<|gcd rfl (fun hb146 hp146 => ?_) fun hb146 hp146 => ?_
  ·skip
   have hc148 : kindT X i 3 = true := (kindT_e (by assumption)).trans (decide_eq_true (by assumption))
   refine sK fun _ k149 => gRn (oM 1 rfl<|onfl 0 fl_52_2 ti_3 rfl rfl<|oadN _ 1 om9 rfl<|onf fl_52_2 rfl<|.nl)<|gst 0 ti_3 rfl rfl rfl<|nK k149<|gK fun _ k151 => rT 15 [] (oM 3 rfl<|onfl 0 fl_52_0 ti_42 rfl rfl<|oM 1 rfl<|onfl 0 fl_52_2 ti_3 rfl rfl<|osbN _ 1 om9 rfl<|oxN sl_42 ti_81 (aO 2 rfl) _ om9 rfl<|ofE fl_81_1 rfl<|olE (.int .i64 ((nth X.T ((i + 1) - 1)).n)) ti_3 (aO 2 rfl) om9 rfl<|oV (r_build (cs := [.int .i64 15, .int .i64 ((nth X.T ((i + 1) - 1)).n), .int .i64 (atT X i), .string (⟨#[]⟩), (.slice none 0 0)]) rfl rfl (by kernel_rfl)) rfl<|.nl)<|fun a152 w152 h152 => ?_
   have h154 := h152.nil (α := Int) 3
   clear h152
   have h155 := h154.sel (L' := [_, _, _, _]) [1, 2, 3, 0] rfl
   have hp156 := h155.sh.passL (Lp := [_, _, _, _])
   refine wl_ex (x_call h155 bd_24 rfl rfl rfl rfl rfl (dNode_c _ _ X tv nv nl (i + 1) _ _ _ _ 15 ((nth X.T i).n) (atT X i) (⟨#[]⟩) (⟨.slice none 0 0, []⟩ : Ls Int) hp156 (by first | omega | (simp only [lens9]; omega)))) (wanted_none rfl _) ?_
   rintro a157 w157 ⟨_, ⟨nv157, rfl, hs157⟩, hf157⟩
   have hm157 : (nl ++ [(⟨15, (nth X.T i).n, (atT X i), ⟨#[]⟩, (⟨.slice none 0 0, []⟩ : Ls Int)⟩ : NdL)]).length = nl.length + 1 := (by simp only [lens9])
   have hr157 : putP (⟨15, (nth X.T i).n, (atT X i), ⟨#[]⟩, []⟩ : Nd) ⟨(i + 1), d, nl.map NdL.nd⟩ = .ok (((nl.length : Nat) : Int), ⟨(i + 1), d, (nl ++ [(⟨15, (nth X.T i).n, (atT X i), ⟨#[]⟩, (⟨.slice none 0 0, []⟩ : Ls Int)⟩ : NdL)]).map NdL.nd⟩) := put_eq (x := (⟨15, (nth X.T i).n, (atT X i), ⟨#[]⟩, (⟨.slice none 0 0, []⟩ : Ls Int)⟩ : NdL))
   have h157 : St _ K W a157 w157 _ [_, _, _] := ⟨hf157, h155.sh.backI (Lp := [_, _, _, _]) hs157⟩
   clear hf157 hs157 h155 hp156
   refine gG h157<|gRn (oM 1 rfl<|.nl)<|nK k151<|gF [2] rfl<|gR<|uT<|fun a158 w158 h158 => x_ret1 (fn := Tryz.f108) (t := 2) rfl h158 rfl <| .inl ⟨((nl.length : Nat) : Int), (i + 1), nv157, (nl ++ [(⟨15, (nth X.T i).n, (atT X i), ⟨#[]⟩, (⟨.slice none 0 0, []⟩ : Ls Int)⟩ : NdL)]), ?_, rfl, h158.sh⟩; clear h157
   exact (by show stepP X _ _ _ = _; simp only [stepP, andP, ne_lock, isL2, ↓reduceIte, Bool.false_eq_true, eq_self, Nat.add_sub_cancel, List.cons_append, List.nil_append, Bool.or_false, Bool.or_true, Bool.true_or, Bool.false_or, Bool.or_self, ne_3345, hr157, hc112, hc113, hc126, hc148])
  have hc160 : kindT X i 3 = false := (kindT_e (by assumption)).trans (decide_eq_false (by assumption))
  refine gS<|hK k127<|sK fun _ k161 => gRn (oM 1 rfl<|.nl)<|fun a162 w162 h162 => ?_
  have hp163 := h162.sh.passL (Lp := [_, _, _])
  refine wl_ex (x_call h162 bd_41 rfl rfl rfl rfl rfl (dName_c _ _ X tv nv i d nl _ hp163 hTl)) (wanted_none rfl _) ?_
  rintro a164 w164 ⟨_, (⟨y164, hr164, hi164, rfl, hs164⟩ | ⟨c164, e164, dz164, hr164, hcn164, rfl, hs164⟩), hf164⟩
  ·skip
   have hl164 : i < X.T.length := hi164
   have h164 : St _ K W a164 w164 _ [_, _, _] := ⟨hf164, h162.sh.backI (Lp := [_, _, _]) hs164⟩
   clear hf164 hs164 h162 hp163
   refine gG h164<|gRn (oM 1 rfl<|.nl)<|nK k161<|sK fun _ k165 => gRn (oM 3 rfl<|oV (r_build (cs := [.int .i64 16, .int .i64 0, .int .i64 (atT X i), .string y164.t, (.slice none 0 0)]) rfl rfl (by kernel_rfl)) rfl<|.nl)<|fun a166 w166 h166 => ?_; clear h164
   have h168 := h166.nil (α := Int) 3
   clear h166
   have h169 := h168.sel (L' := [_, _, _, _]) [1, 2, 3, 0] rfl
   have hp170 := h169.sh.passL (Lp := [_, _, _, _])
   refine wl_ex (x_call h169 bd_24 rfl rfl rfl rfl rfl (dNode_c _ _ X tv nv nl (i + 1) _ _ _ _ 16 0 (atT X i) y164.t (⟨.slice none 0 0, []⟩ : Ls Int) hp170 (by first | omega | (simp only [lens9]; omega)))) (wanted_none rfl _) ?_
   rintro a171 w171 ⟨_, ⟨nv171, rfl, hs171⟩, hf171⟩
   have hm171 : (nl ++ [(⟨16, 0, (atT X i), y164.t, (⟨.slice none 0 0, []⟩ : Ls Int)⟩ : NdL)]).length = nl.length + 1 := (by simp only [lens9])
   have hr171 : putP (⟨16, 0, (atT X i), y164.t, []⟩ : Nd) ⟨(i + 1), d, nl.map NdL.nd⟩ = .ok (((nl.length : Nat) : Int), ⟨(i + 1), d, (nl ++ [(⟨16, 0, (atT X i), y164.t, (⟨.slice none 0 0, []⟩ : Ls Int)⟩ : NdL)]).map NdL.nd⟩) := put_eq (x := (⟨16, 0, (atT X i), y164.t, (⟨.slice none 0 0, []⟩ : Ls Int)⟩ : NdL))
   have h171 : St _ K W a171 w171 _ [_, _, _] := ⟨hf171, h169.sh.backI (Lp := [_, _, _, _]) hs171⟩
   clear hf171 hs171 h169 hp170
   refine gG h171<|gRn (oM 1 rfl<|.nl)<|nK k165<|gR<|fun a172 w172 h172 => x_ret1 (fn := Tryz.f108) (t := 2) rfl h172 rfl <| .inl ⟨((nl.length : Nat) : Int), (i + 1), nv171, (nl ++ [(⟨16, 0, (atT X i), y164.t, (⟨.slice none 0 0, []⟩ : Ls Int)⟩ : NdL)]), ?_, rfl, h172.sh⟩; clear h171
   exact (by show stepP X _ _ _ = _; simp only [stepP, andP, ne_lock, isL2, ↓reduceIte, Bool.false_eq_true, eq_self, Nat.add_sub_cancel, List.cons_append, List.nil_append, Bool.or_false, Bool.or_true, Bool.true_or, Bool.false_or, Bool.or_self, ne_3345, hr164, hr171, hc112, hc113, hc126, hc160])
  have h164 : St _ K W a164 w164 _ [_, _, _] := ⟨hf164, h162.sh.backI (Lp := [_, _, _]) hs164⟩
  clear hf164 hs164 h162 hp163
  refine gG h164<|gRn (oM 1 rfl<|.nl)<|nK k161<|sK fun _ k173 => gRn (oM 3 rfl<|oV (r_build (cs := [.int .i64 16, .int .i64 0, .int .i64 (atT X i), .string ({ data := #[] }), (.slice none 0 0)]) rfl rfl (by kernel_rfl)) rfl<|.nl)<|fun a174 w174 h174 => ?_; clear h164
  have h176 := h174.nil (α := Int) 3
  clear h174
  have h177 := h176.sel (L' := [_, _, _, _]) [1, 2, 3, 0] rfl
  have hp178 := h177.sh.passL (Lp := [_, _, _, _])
  refine wl_ex (x_call h177 bd_24 rfl rfl rfl rfl rfl (dNode_c _ _ X tv nv nl X.T.length _ _ _ _ 16 0 (atT X i) ({ data := #[] }) (⟨.slice none 0 0, []⟩ : Ls Int) hp178 (by first | omega | (simp only [lens9]; omega)))) (wanted_none rfl _) ?_
  rintro a179 w179 ⟨_, ⟨nv179, rfl, hs179⟩, hf179⟩
  have hm179 : (nl ++ [(⟨16, 0, (atT X i), { data := #[] }, (⟨.slice none 0 0, []⟩ : Ls Int)⟩ : NdL)]).length = nl.length + 1 := (by simp only [lens9])
  have h179 : St _ K W a179 w179 _ [_, _, _] := ⟨hf179, h177.sh.backI (Lp := [_, _, _, _]) hs179⟩
  clear hf179 hs179 h177 hp178
  refine gG h179<|gRn (oM 1 rfl<|.nl)<|nK k173<|gR<|fun a180 w180 h180 => x_ret1 (fn := Tryz.f108) (t := 2) rfl h180 rfl <| .inr ⟨c164, e164, dz164, ((nl.length : Nat) : Int), nv179, (nl ++ [(⟨16, 0, (atT X i), { data := #[] }, (⟨.slice none 0 0, []⟩ : Ls Int)⟩ : NdL)]), ?_, hcn164, rfl, (by first | omega | (simp only [lens9] at *; omega)), h180.sh⟩; clear h179
  exact (by show stepP X _ _ _ = _; simp only [stepP, andP, ne_lock, isL2, ↓reduceIte, Bool.false_eq_true, eq_self, Nat.add_sub_cancel, List.cons_append, List.nil_append, Bool.or_false, Bool.or_true, Bool.true_or, Bool.false_or, Bool.or_self, ne_3345, hr164, hc112, hc113, hc126, hc160])
 refine qRn (oKs 12 hb133 rfl rfl<|opF hb133 rfl<|.nl)<|qN z131<|?_; clear h130
 refine hK k128<|gF [0, 3, 77] rfl<|gcF rfl rfl<|?_
 have hc182 : kindT X i 3 = false := kindT_f (fun h9 => absurd h9.1 (by assumption))
 refine gS<|hK k127<|sK fun _ k183 => gRn (oM 1 rfl<|.nl)<|fun a184 w184 h184 => ?_
 have hp185 := h184.sh.passL (Lp := [_, _, _])
 refine wl_ex (x_call h184 bd_41 rfl rfl rfl rfl rfl (dName_c _ _ X tv nv i d nl _ hp185 hTl)) (wanted_none rfl _) ?_
 rintro a186 w186 ⟨_, (⟨y186, hr186, hi186, rfl, hs186⟩ | ⟨c186, e186, dz186, hr186, hcn186, rfl, hs186⟩), hf186⟩
 ·skip
  have hl186 : i < X.T.length := hi186
  have h186 : St _ K W a186 w186 _ [_, _, _] := ⟨hf186, h184.sh.backI (Lp := [_, _, _]) hs186⟩
  clear hf186 hs186 h184 hp185
  refine gG h186<|gRn (oM 1 rfl<|.nl)<|nK k183<|sK fun _ k187 => gRn (oM 3 rfl<|oV (r_build (cs := [.int .i64 16, .int .i64 0, .int .i64 (atT X i), .string y186.t, (.slice none 0 0)]) rfl rfl (by kernel_rfl)) rfl<|.nl)<|fun a188 w188 h188 => ?_; clear h186
  have h190 := h188.nil (α := Int) 3
  clear h188
  have h191 := h190.sel (L' := [_, _, _, _]) [1, 2, 3, 0] rfl
  have hp192 := h191.sh.passL (Lp := [_, _, _, _])
  refine wl_ex (x_call h191 bd_24 rfl rfl rfl rfl rfl (dNode_c _ _ X tv nv nl (i + 1) _ _ _ _ 16 0 (atT X i) y186.t (⟨.slice none 0 0, []⟩ : Ls Int) hp192 (by first | omega | (simp only [lens9]; omega)))) (wanted_none rfl _) ?_
  rintro a193 w193 ⟨_, ⟨nv193, rfl, hs193⟩, hf193⟩
  have hm193 : (nl ++ [(⟨16, 0, (atT X i), y186.t, (⟨.slice none 0 0, []⟩ : Ls Int)⟩ : NdL)]).length = nl.length + 1 := (by simp only [lens9])
  have hr193 : putP (⟨16, 0, (atT X i), y186.t, []⟩ : Nd) ⟨(i + 1), d, nl.map NdL.nd⟩ = .ok (((nl.length : Nat) : Int), ⟨(i + 1), d, (nl ++ [(⟨16, 0, (atT X i), y186.t, (⟨.slice none 0 0, []⟩ : Ls Int)⟩ : NdL)]).map NdL.nd⟩) := put_eq (x := (⟨16, 0, (atT X i), y186.t, (⟨.slice none 0 0, []⟩ : Ls Int)⟩ : NdL))
  have h193 : St _ K W a193 w193 _ [_, _, _] := ⟨hf193, h191.sh.backI (Lp := [_, _, _, _]) hs193⟩
  clear hf193 hs193 h191 hp192
  refine gG h193<|gRn (oM 1 rfl<|.nl)<|nK k187<|gR<|fun a194 w194 h194 => x_ret1 (fn := Tryz.f108) (t := 2) rfl h194 rfl <| .inl ⟨((nl.length : Nat) : Int), (i + 1), nv193, (nl ++ [(⟨16, 0, (atT X i), y186.t, (⟨.slice none 0 0, []⟩ : Ls Int)⟩ : NdL)]), ?_, rfl, h194.sh⟩; clear h193
  exact (by show stepP X _ _ _ = _; simp only [stepP, andP, ne_lock, isL2, ↓reduceIte, Bool.false_eq_true, eq_self, Nat.add_sub_cancel, List.cons_append, List.nil_append, Bool.or_false, Bool.or_true, Bool.true_or, Bool.false_or, Bool.or_self, ne_3345, hr186, hr193, hc112, hc113, hc126, hc182])
 have h186 : St _ K W a186 w186 _ [_, _, _] := ⟨hf186, h184.sh.backI (Lp := [_, _, _]) hs186⟩
 clear hf186 hs186 h184 hp185
 refine gG h186<|gRn (oM 1 rfl<|.nl)<|nK k183<|sK fun _ k195 => gRn (oM 3 rfl<|oV (r_build (cs := [.int .i64 16, .int .i64 0, .int .i64 (atT X i), .string ({ data := #[] }), (.slice none 0 0)]) rfl rfl (by kernel_rfl)) rfl<|.nl)<|fun a196 w196 h196 => ?_; clear h186
 have h198 := h196.nil (α := Int) 3
 clear h196
 have h199 := h198.sel (L' := [_, _, _, _]) [1, 2, 3, 0] rfl
 have hp200 := h199.sh.passL (Lp := [_, _, _, _])
 refine wl_ex (x_call h199 bd_24 rfl rfl rfl rfl rfl (dNode_c _ _ X tv nv nl X.T.length _ _ _ _ 16 0 (atT X i) ({ data := #[] }) (⟨.slice none 0 0, []⟩ : Ls Int) hp200 (by first | omega | (simp only [lens9]; omega)))) (wanted_none rfl _) ?_
 rintro a201 w201 ⟨_, ⟨nv201, rfl, hs201⟩, hf201⟩
 have hm201 : (nl ++ [(⟨16, 0, (atT X i), { data := #[] }, (⟨.slice none 0 0, []⟩ : Ls Int)⟩ : NdL)]).length = nl.length + 1 := (by simp only [lens9])
 have h201 : St _ K W a201 w201 _ [_, _, _] := ⟨hf201, h199.sh.backI (Lp := [_, _, _, _]) hs201⟩
 clear hf201 hs201 h199 hp200
 refine gG h201<|gRn (oM 1 rfl<|.nl)<|nK k195<|gR<|fun a202 w202 h202 => x_ret1 (fn := Tryz.f108) (t := 2) rfl h202 rfl <| .inr ⟨c186, e186, dz186, ((nl.length : Nat) : Int), nv201, (nl ++ [(⟨16, 0, (atT X i), { data := #[] }, (⟨.slice none 0 0, []⟩ : Ls Int)⟩ : NdL)]), ?_, hcn186, rfl, (by first | omega | (simp only [lens9] at *; omega)), h202.sh⟩; clear h201
 exact (by show stepP X _ _ _ = _; simp only [stepP, andP, ne_lock, isL2, ↓reduceIte, Bool.false_eq_true, eq_self, Nat.add_sub_cancel, List.cons_append, List.nil_append, Bool.or_false, Bool.or_true, Bool.true_or, Bool.false_or, Bool.or_self, ne_3345, hr186, hc112, hc113, hc126, hc182])

theorem dExpr_c (K : Nat → Prop) (g : Nat) (X : TE) (tv nv : Value) (i d : Nat) (nl : List NdL) (f : Nat)  (W : World) (k : Nat) (hk : k ≤ 5) (hS : Sh K W W [.blk g 52 [tv, .int .i64 X.e, .int .i64 ((i : Nat) : Int), .int .i64 ((d : Nat) : Int), nv, .int .i64 0, .int .i64 0, .int .i64 0], .deep 57 (⟨nv, nl⟩ : Ls NdL), .own 81 (⟨tv, X.T⟩ : Ls Tok)]) (hTl : X.T.length ≤ 4000) (hd : d ≤ 20) (hi : i ≤ X.T.length) (hnl : nl.length ≤ 2 * i) (ih : ∀ f', f' ≤ f → AllD X f') (hTo : ∀ q, q < X.T.length → TokOK (nth X.T q)) (hfb : f + 1 ≤ 1000000) (hf : 20 * (X.T.length - i) + (3 + (5 - k)) ≤ f + 1) :
    Rets Tryz.prog 83 [.pointer (some ⟨g, 0, none⟩), .int .i64 ((k : Nat) : Int)] W (fun v w' => (∃ (a : Int) (i' : Nat) (nv' : Value) (nl' : List NdL), parseP X (f + 1) (.expr k) ⟨i, d, nl.map NdL.nd⟩ = .ok (a, ⟨i', d, nl'.map NdL.nd⟩) ∧ v = .int .i64 a ∧ Sh K W w' [.blk g 52 [tv, .int .i64 X.e, .int .i64 ((i' : Nat) : Int), .int .i64 ((d : Nat) : Int), nv', .int .i64 0, .int .i64 0, .int .i64 0], .deep 57 (⟨nv', nl'⟩ : Ls NdL), .own 81 (⟨tv, X.T⟩ : Ls Tok)]) ∨ ∃ (c a dz y : Int) (nv' : Value) (nl' : List NdL), parseP X (f + 1) (.expr k) ⟨i, d, nl.map NdL.nd⟩ = .error (c, a) ∧ ¬ c = 0 ∧ v = .int .i64 y ∧ nl'.length ≤ 10000 + 10 * (f + 1) ∧ Sh K W w' [.blk g 52 [tv, .int .i64 X.e, .int .i64 ((X.T.length : Nat) : Int), .int .i64 dz, nv', .int .i64 c, .int .i64 0, .int .i64 a], .deep 57 (⟨nv', nl'⟩ : Ls NdL), .own 81 (⟨tv, X.T⟩ : Ls Tok)]) := by
 refine gen Tryz.func83 Tryz.ntmps83 hS rfl fun a10 h10 => gG h10<|sG (oM 1 rfl<|.nl)<|gK fun _ k12 => sG (oM 1 rfl<|oeqN _ 5 rfl<|.nl)<|?_; clear h10
 refine gcd rfl (fun hb14 hp14 => ?_) fun hb14 hp14 => ?_
 ·skip
  have hk9 : k = 5 := (by omega)
  refine sK fun _ k16 => gRn (oM 1 rfl<|.nl)<|fun a17 w17 h17 => ?_
  have hp18 := h17.sh.passL (Lp := [_, _, _])
  refine wl_ex (x_call h17 bd_108 rfl rfl rfl rfl rfl ((ih f (by omega)).un _ _ tv nv i d nl _ hp18 hTl (by omega) (by omega) (by first | omega | (simp only [lens9] at *; omega)) (by omega) (show 20 * (X.T.length - i) + 2 ≤ f by omega))) (wanted_none rfl _) ?_
  rintro a19 w19 ⟨_, (⟨y19, i19, nv19, nl19, hr19, rfl, hs19⟩ | ⟨c19, e19, dz19, y19, nv19, nl19, hr19, hcn19, rfl, hq919, hs19⟩), hf19⟩
  ·skip
   have hv19 := adv_parse (X := X) f .unary ⟨i, d, nl.map NdL.nd⟩ (fun h => by cases h) _ _ hr19; simp only [minT, dT, qT, List.length_map] at hv19
   have h19 : St _ K W a19 w19 _ [_, _, _] := ⟨hf19, h17.sh.backI (Lp := [_, _, _]) hs19⟩
   clear hf19 hs19 h17 hp18
   refine gG h19<|gRn (oM 1 rfl<|.nl)<|nK k16<|gR<|uT<|fun a20 w20 h20 => x_ret1 (fn := Tryz.f83) (t := 4) rfl h20 rfl <| .inl ⟨y19, i19, nv19, nl19, ?_, rfl, h20.sh⟩; clear h19
   exact (by show stepP X _ _ _ = _; simp only [stepP, andP, ne_lock, isL2, ↓reduceIte, Bool.false_eq_true, eq_self, Nat.add_sub_cancel, List.cons_append, List.nil_append, Bool.or_false, Bool.or_true, Bool.true_or, Bool.false_or, Bool.or_self, ne_3345, hr19, hk9])
  have hq19 : nl19.length ≤ 10000 + 10 * f := hq919
  have h19 : St _ K W a19 w19 _ [_, _, _] := ⟨hf19, h17.sh.backI (Lp := [_, _, _]) hs19⟩
  clear hf19 hs19 h17 hp18
  refine gG h19<|gRn (oM 1 rfl<|.nl)<|nK k16<|gR<|uT<|fun a21 w21 h21 => x_ret1 (fn := Tryz.f83) (t := 4) rfl h21 rfl <| .inr ⟨c19, e19, dz19, y19, nv19, nl19, ?_, hcn19, rfl, (by first | omega | (simp only [lens9] at *; omega)), h21.sh⟩; clear h19
  exact (by show stepP X _ _ _ = _; simp only [stepP, andP, ne_lock, isL2, ↓reduceIte, Bool.false_eq_true, eq_self, Nat.add_sub_cancel, List.cons_append, List.nil_append, Bool.or_false, Bool.or_true, Bool.true_or, Bool.false_or, Bool.or_self, ne_3345, hr19, hk9])
 have hk9 : ¬k = 5 := (by omega)
 have hk5 : k < 5 := (by omega)
 refine gS<|hK k12<|sK fun _ k23 => gRn (oM 2 rfl<|oadN _ 1 om9 rfl<|.nl)<|fun a24 w24 h24 => ?_
 have hp25 := h24.sh.passL (Lp := [_, _, _])
 refine wl_ex (x_call h24 bd_83 rfl rfl rfl rfl rfl ((ih f (by omega)).ex (k + 1) (by omega) _ _ tv nv i d nl _ hp25 hTl (by omega) (by omega) (by first | omega | (simp only [lens9] at *; omega)) (by omega) (show 20 * (X.T.length - i) + (3 + (5 - (k + 1))) ≤ f by omega))) (wanted_none rfl _) ?_
 rintro a26 w26 ⟨_, (⟨y26, i26, nv26, nl26, hr26, rfl, hs26⟩ | ⟨c26, e26, dz26, y26, nv26, nl26, hr26, hcn26, rfl, hq926, hs26⟩), hf26⟩
 ·skip
  have hv26 := adv_parse (X := X) f (.expr (k + 1)) ⟨i, d, nl.map NdL.nd⟩ (fun h => by cases h) _ _ hr26; simp only [minT, dT, qT, List.length_map] at hv26
  have h26 : St _ K W a26 w26 _ [_, _, _] := ⟨hf26, h24.sh.backI (Lp := [_, _, _]) hs26⟩
  clear hf26 hs26 h24 hp25
  refine gG h26<|gRn (oM 1 rfl<|.nl)<|nK k23<|gK fun _ k27 => gB<|?_; clear h26
  have hb9 : parseP X (f + 1) (.expr k) ⟨i, d, nl.map NdL.nd⟩ = parseP X f (.bin k y26) ⟨i26, d, nl26.map NdL.nd⟩ := by show stepP X _ _ _ = _; simp only [stepP, andP, ne_lock, isL2, ↓reduceIte, Bool.false_eq_true, eq_self, Nat.add_sub_cancel, List.cons_append, List.nil_append, Bool.or_false, Bool.or_true, Bool.true_or, Bool.false_or, Bool.or_self, ne_3345, hk9, hr26]
  intro a29 w29 h29
  refine x_loop (fun m a w => (∃ (f2 : Nat) (lf : Int) (i2 : Nat) (nv2 : Value) (nl2 : List NdL), (f2 ≤ f ∧ 20 * (X.T.length - i2) + 1 ≤ f2 ∧ i2 ≤ X.T.length ∧ nl2.length ≤ 2 * i2) ∧ (parseP X (f + 1) (.expr k) ⟨i, d, nl.map NdL.nd⟩ = parseP X f2 (.bin k lf) ⟨i2, d, nl2.map NdL.nd⟩) ∧ St 87 K W a w [(0, .pointer (some ⟨g, 0, none⟩)), (1, .int .i64 ((k : Nat) : Int)), (5, .int .i64 lf)] [.blk g 52 [tv, .int .i64 X.e, .int .i64 ((i2 : Nat) : Int), .int .i64 ((d : Nat) : Int), nv2, .int .i64 0, .int .i64 0, .int .i64 0], .deep 57 (⟨nv2, nl2⟩ : Ls NdL), .own 81 (⟨tv, X.T⟩ : Ls Tok)] ∧ m = f2) ∨ (∃ (c2 ea2 dz2 lf2 : Int) (nv2 : Value) (nl2 : List NdL), (parseP X (f + 1) (.expr k) ⟨i, d, nl.map NdL.nd⟩ = .error (c2, ea2)) ∧ (¬ c2 = 0) ∧ (nl2.length ≤ 10000 + 10 * f + 5) ∧ St 87 K W a w [(0, .pointer (some ⟨g, 0, none⟩)), (1, .int .i64 ((k : Nat) : Int)), (5, .int .i64 lf2)] [.blk g 52 [tv, .int .i64 X.e, .int .i64 ((X.T.length : Nat) : Int), .int .i64 dz2, nv2, .int .i64 c2, .int .i64 0, .int .i64 ea2], .deep 57 (⟨nv2, nl2⟩ : Ls NdL), .own 81 (⟨tv, X.T⟩ : Ls Tok)] ∧ m = 0)) ⟨_, Or.inl ⟨f, y26, i26, nv26, nl26, (⟨by omega, by omega, by omega, by omega⟩), (hb9), h29.nf ⟨rfl, rfl, rfl, trivial⟩, rfl⟩⟩ ?_
  clear h29
  rintro m28 a28 w28 (⟨f2, lf, i2, nv2, nl2, hk2, hrel, h28, hm28⟩ | ⟨c2, ea2, dz2, lf2, nv2, nl2, hrelb, hcn2, hq2, h28, hm28⟩)
  ·skip
   obtain ⟨f3, rfl⟩ : ∃ f3, f2 = f3 + 1 := ⟨f2 - 1, by omega⟩
   refine gG h28<|gK fun _ k30 => gK fun _ k31 => fun a33 w33 h33 => x_quiet (by kernel_rfl) (by kernel_rfl) h33 fun _ z34 => qQ h33.fr<|qRn (oM 1 rfl<|onf fl_52_5 rfl<|oV (r_fieldB (r := 5) fl_25_0 rfl rfl rfl) rfl<|olB 0 ti_23 rfl rfl<|oeqN 0 0 rfl<|oM 1 rfl<|oG (by decide) (r_move rfl rfl) rfl<|oG (by decide) (r_nil rfl rfl) rfl<|oG (by decide) (r_fieldB (r := 2) fl_52_2 rfl rfl rfl) rfl<|oG (by decide) (r_ldb (i := 0) ti_3 rfl rfl rfl rfl) rfl<|oG (by decide) (r_move rfl rfl) rfl<|oG (by decide) (r_nil rfl rfl) rfl<|oG (by decide) (r_fieldB (r := 0) fl_52_0 rfl rfl rfl) rfl<|oG (by decide) (r_ldb (i := 0) ti_42 rfl rfl rfl rfl) rfl<|.nl)<|?_; clear h28
   have hl44 : X.T.length ≤ 140737488355328 := (h33.sh.own 2 rfl).len
   refine qRn (oG (by decide) (r_len (s := (⟨tv, X.T⟩ : Ls Tok)) (n := X.T.length) sl_42 rfl rfl (fun w h => (h.own 2 rfl)) rfl) rfl<|oG (by decide) (r_lssN (p := i2) (q := X.T.length) rfl rfl rfl) rfl<|opT (by decide) rfl<|oM 1 rfl<|.nl)<|?_
   rcases dsp (i2 < X.T.length) with ⟨hb46, hp46⟩ | ⟨hb46, hp46⟩
   ·skip
    refine qRn (oG hb46 (r_move rfl rfl) rfl<|oG hb46 (r_nil rfl rfl) rfl<|oG hb46 (r_fieldB (r := 0) fl_52_0 rfl rfl rfl) rfl<|oG hb46 (r_ldb (i := 0) ti_42 rfl rfl rfl rfl) rfl<|oG hb46 (r_move rfl rfl) rfl<|oG hb46 (r_nil rfl rfl) rfl<|oG hb46 (r_fieldB (r := 2) fl_52_2 rfl rfl rfl) rfl<|oG hb46 (r_ldb (i := 0) ti_3 rfl rfl rfl rfl) rfl<|oG hb46 (r_ixN (s := (⟨tv, X.T⟩ : Ls Tok)) (q := i2) sl_42 ti_81 rfl rfl rfl (fun w h => (h.own 2 rfl)) (show i2 < X.T.length from om9)) rfl<|oG hb46 (r_fieldE (r := 0) fl_81_0 rfl rfl rfl) rfl<|oG hb46 (r_lde (s := (⟨tv, X.T⟩ : Ls Tok)) (i := i2) (v := .int .i64 ((nth X.T i2).k)) ti_3 rfl rfl rfl (fun w h => (h.own 2 rfl)) (show i2 < X.T.length from om9) (Nat.le_of_ble_eq_true rfl) rfl) rfl<|oG hb46 (r_eqlI (p := (nth X.T i2).k) (q := 4) rfl rfl rfl) rfl<|opT hb46 rfl<|.nl)<|qN z34<|?_; clear h33
    refine hK k31<|gF [0, 1, 5, 48] rfl<|gcd rfl (fun hb59 hp59 => ?_) fun hb59 hp59 => ?_
    ·skip
     refine gS<|hK k30<|gB<|gK fun _ k63 => rC [10, 11] rfl<|pR [0, 1, 2, 3, 4, 5, 6, 7, 8, 9] rfl (oM 1 rfl<|onfl 0 fl_52_0 ti_42 rfl rfl<|oM 1 rfl<|onfl 0 fl_52_2 ti_3 rfl rfl<|oxN sl_42 ti_81 (aO 2 rfl) _ om9 rfl<|olw2 [.int .i64 ((nth X.T i2).k), .int .i64 ((nth X.T i2).n), .int .i64 ((nth X.T i2).a), .string ((nth X.T i2).t)] ti_81 (aO 2 rfl) om9 rfl<|.nl) rfl<|pX (fun _ _ h_ => x_alloc h_ ti_81 rfl rfl rfl) rfl fun b64 => pR [0, 1, 2, 3, 4, 5, 6, 7, 8, 9] rfl (oM 1 rfl<|onfl 1 fl_52_0 ti_42 rfl rfl<|oM 1 rfl<|onfl 1 fl_52_2 ti_3 rfl rfl<|oxN sl_42 ti_81 (aO 3 rfl) _ om9 rfl<|olw2 [.int .i64 ((nth X.T i2).k), .int .i64 ((nth X.T i2).n), .int .i64 ((nth X.T i2).a), .string ((nth X.T i2).t)] ti_81 (aO 3 rfl) om9 rfl<|.nl) rfl<|pS (fun _ _ h_ => x_stb (i := 0) (vs := [.int .i64 ((nth X.T i2).k), .int .i64 ((nth X.T i2).n), .int .i64 ((nth X.T i2).a), .string ((nth X.T i2).t)]) (cs' := [.int .i64 ((nth X.T i2).k), .int .i64 ((nth X.T i2).n), .int .i64 ((nth X.T i2).a), .string ((nth X.T i2).t)]) h_ ti_81 rfl rfl rfl rfl rfl rfl rfl (allOne_cons rfl (allOne_cons rfl (allOne_cons rfl (allOne_cons rfl allOne_nil)))) (Nat.le_of_ble_eq_true rfl) rfl) rfl<|pE [] rfl (.nl) rfl<|hK k63<|sK fun _ k66 => gRn (ofB fl_81_3 rfl<|olB 0 ti_9 rfl rfl<|.nl)<|gP (fun _ _ h_ => xCl h_ bd_109 rfl (dLevel_c ((nth X.T i2).t) _)) rfl<|gRn (oM 1 rfl<|.nl)<|nK k66<|gK fun _ k68 => sG (oM 2 rfl<|oneI _ _ rfl<|.nl)<|gcd rfl (fun hb70 hp70 => ?_) fun hb70 hp70 => ?_
     ·skip
      have hc72 : lvT X i2 k = false := (lv_sign (by assumption) hk5 (by assumption)).trans (by first | exact decide_eq_true (by omega) | exact decide_eq_false (by omega))
      refine gX<|hK k27<|sG (oM 2 rfl<|.nl)<|gF [4] rfl<|gR<|fun a74 w74 h74 => x_ret1 (fn := Tryz.f83) (t := 4) rfl h74 rfl <| .inl ⟨lf, i2, nv2, nl2, ?_, rfl, (h74.sh.sel [1, 2, 3] rfl)⟩
      exact (hrel.trans (by show stepP X (parseP X f3) (.bin k lf) _ = _; simp only [stepP, andP, ne_lock, isL2, ↓reduceIte, Bool.false_eq_true, eq_self, Nat.add_sub_cancel, List.cons_append, List.nil_append, Bool.or_false, Bool.or_true, Bool.true_or, Bool.false_or, Bool.or_self, ne_3345, hc72]))
     have hc76 : lvT X i2 k = true := (lv_sign (by assumption) hk5 (by assumption)).trans (by first | exact decide_eq_true (by omega) | exact decide_eq_false (by omega))
     refine gS<|hK k68<|sK fun _ k77 => gRn (oM 1 rfl<|onfl 1 fl_52_2 ti_3 rfl rfl<|oadN _ 1 om9 rfl<|onf fl_52_2 rfl<|.nl)<|gst 1 ti_3 rfl rfl rfl<|nK k77<|gF [0, 1, 5, 6] rfl<|sK fun _ k79 => gRn (oM 2 rfl<|oadN _ 1 om9 rfl<|.nl)<|fun a80 w80 h80 => ?_
     have h81 := h80.sel (L' := [_, _, _, _]) [1, 2, 3, 0] rfl
     have hp82 := h81.sh.passL (Lp := [_, _, _])
     refine wl_ex (x_call h81 bd_83 rfl rfl rfl rfl rfl ((ih f3 (by omega)).ex (k + 1) (by omega) _ _ tv nv2 (i2 + 1) d nl2 _ hp82 hTl (by omega) (by omega) (by first | omega | (simp only [lens9] at *; omega)) (by omega) (show 20 * (X.T.length - (i2 + 1)) + (3 + (5 - (k + 1))) ≤ f3 by omega))) (wanted_none rfl _) ?_
     rintro a83 w83 ⟨_, (⟨y83, i83, nv83, nl83, hr83, rfl, hs83⟩ | ⟨c83, e83, dz83, y83, nv83, nl83, hr83, hcn83, rfl, hq983, hs83⟩), hf83⟩
     ·skip
      have hv83 := adv_parse (X := X) f3 (.expr (k + 1)) ⟨(i2 + 1), d, nl2.map NdL.nd⟩ (fun h => by cases h) _ _ hr83; simp only [minT, dT, qT, List.length_map] at hv83
      have h83 : St _ K W a83 w83 _ [_, _, _, _] := ⟨hf83, h81.sh.backI (Lp := [_, _, _]) hs83⟩
      clear hf83 hs83 h81 hp82
      refine gG h83<|gRn (oM 1 rfl<|.nl)<|nK k79<|gL<|gRn (oM 1 rfl<|ofB fl_81_2 rfl<|olB 3 ti_3 rfl rfl<|ofB fl_81_3 rfl<|olB 3 ti_9 rfl rfl<|oM 2 rfl<|.nl)<|gE1 (fun _ _ h_ => x_lit (n := 2) (cs := [.int .i64 lf, .int .i64 y83]) ([lf, y83] : List Int) h_ sl_30 ti_3 rfl rfl rfl (by decide) rfl (by kernel_rfl) rfl (fun q hq w h => Flat.inner _ _) (fun q hq b hb => (Flat.on _ _ hb).elim) rfl rfl) rfl fun v84 => gRn (oV (r_buildS (cs := [.int .i64 19, .int .i64 0, .int .i64 ((nth X.T i2).a), .string ((nth X.T i2).t), v84]) rfl rfl (fun w h => by obtain ⟨A85, n85, c85, (e85 : v84 = _)⟩ := ((h.own 0 rfl)).form; rw [e85]; kernel_rfl)) rfl<|.nl)<|fun a86 w86 h86 => ?_; clear h83
      have h87 := h86.sel (L' := [_, _, _, _, _]) [1, 2, 3, 0, 4] rfl
      have hp88 := h87.sh.passL (Lp := [_, _, _, _])
      refine wl_ex (x_call h87 bd_24 rfl rfl rfl rfl rfl (dNode_c _ _ X tv nv83 nl83 i83 _ _ _ _ 19 0 ((nth X.T i2).a) ((nth X.T i2).t) (⟨v84, [lf, y83]⟩ : Ls Int) hp88 (by first | omega | (simp only [lens9]; omega)))) (wanted_none rfl _) ?_
      rintro a89 w89 ⟨_, ⟨nv89, rfl, hs89⟩, hf89⟩
      have hm89 : (nl83 ++ [(⟨19, 0, (nth X.T i2).a, (nth X.T i2).t, (⟨v84, [lf, y83]⟩ : Ls Int)⟩ : NdL)]).length = nl83.length + 1 := (by simp only [lens9])
      have hr89 : putP (⟨19, 0, (nth X.T i2).a, (nth X.T i2).t, [lf, y83]⟩ : Nd) ⟨i83, d, nl83.map NdL.nd⟩ = .ok (((nl83.length : Nat) : Int), ⟨i83, d, (nl83 ++ [(⟨19, 0, (nth X.T i2).a, (nth X.T i2).t, (⟨v84, [lf, y83]⟩ : Ls Int)⟩ : NdL)]).map NdL.nd⟩) := put_eq (x := (⟨19, 0, (nth X.T i2).a, (nth X.T i2).t, (⟨v84, [lf, y83]⟩ : Ls Int)⟩ : NdL))
      have h89 : St _ K W a89 w89 _ [_, _, _, _] := ⟨hf89, h87.sh.backI (Lp := [_, _, _, _]) hs89⟩
      clear hf89 hs89 h87 hp88
      refine gG h89<|gRn (oM 1 rfl<|.nl)<|nN<|fun a90 w90 h90 => ?_; clear h89
      change ∃ _m, _m < _ ∧ _
      refine ⟨_, ?_, Or.inl ⟨f3, ((nl83.length : Nat) : Int), i83, nv89, (nl83 ++ [(⟨19, 0, (nth X.T i2).a, (nth X.T i2).t, (⟨v84, [lf, y83]⟩ : Ls Int)⟩ : NdL)]), ?_, ?_, h90.nrm ⟨rfl, rfl, rfl, trivial⟩ [0, 1, 2] rfl, rfl⟩⟩
      · rw [hm28]; first | omega | (simp only [lens9]; omega)
      · refine ⟨by omega, by omega, by omega, by first | omega | (simp only [lens9]; omega)⟩
      · exact (hrel.trans (by show stepP X (parseP X f3) (.bin k lf) _ = _; simp only [stepP, andP, ne_lock, isL2, ↓reduceIte, Bool.false_eq_true, eq_self, Nat.add_sub_cancel, List.cons_append, List.nil_append, Bool.or_false, Bool.or_true, Bool.true_or, Bool.false_or, Bool.or_self, ne_3345, hr83, hr89, hc76]))
     have hq83 : nl83.length ≤ 10000 + 10 * f3 := hq983
     have h83 : St _ K W a83 w83 _ [_, _, _, _] := ⟨hf83, h81.sh.backI (Lp := [_, _, _]) hs83⟩
     clear hf83 hs83 h81 hp82
     refine gG h83<|gRn (oM 1 rfl<|.nl)<|nK k79<|gL<|gRn (oM 1 rfl<|ofB fl_81_2 rfl<|olB 3 ti_3 rfl rfl<|ofB fl_81_3 rfl<|olB 3 ti_9 rfl rfl<|oM 2 rfl<|.nl)<|gE1 (fun _ _ h_ => x_lit (n := 2) (cs := [.int .i64 lf, .int .i64 y83]) ([lf, y83] : List Int) h_ sl_30 ti_3 rfl rfl rfl (by decide) rfl (by kernel_rfl) rfl (fun q hq w h => Flat.inner _ _) (fun q hq b hb => (Flat.on _ _ hb).elim) rfl rfl) rfl fun v91 => gRn (oV (r_buildS (cs := [.int .i64 19, .int .i64 0, .int .i64 ((nth X.T i2).a), .string ((nth X.T i2).t), v91]) rfl rfl (fun w h => by obtain ⟨A92, n92, c92, (e92 : v91 = _)⟩ := ((h.own 0 rfl)).form; rw [e92]; kernel_rfl)) rfl<|.nl)<|fun a93 w93 h93 => ?_; clear h83
     have h94 := h93.sel (L' := [_, _, _, _, _]) [1, 2, 3, 0, 4] rfl
     have hp95 := h94.sh.passL (Lp := [_, _, _, _])
     refine wl_ex (x_call h94 bd_24 rfl rfl rfl rfl rfl (dNode_c _ _ X tv nv83 nl83 X.T.length _ _ _ _ 19 0 ((nth X.T i2).a) ((nth X.T i2).t) (⟨v91, [lf, y83]⟩ : Ls Int) hp95 (by first | omega | (simp only [lens9]; omega)))) (wanted_none rfl _) ?_
     rintro a96 w96 ⟨_, ⟨nv96, rfl, hs96⟩, hf96⟩
     have hm96 : (nl83 ++ [(⟨19, 0, (nth X.T i2).a, (nth X.T i2).t, (⟨v91, [lf, y83]⟩ : Ls Int)⟩ : NdL)]).length = nl83.length + 1 := (by simp only [lens9])
     have h96 : St _ K W a96 w96 _ [_, _, _, _] := ⟨hf96, h94.sh.backI (Lp := [_, _, _, _]) hs96⟩
     clear hf96 hs96 h94 hp95
     refine gG h96<|gRn (oM 1 rfl<|.nl)<|nN<|fun a97 w97 h97 => ?_; clear h96
     change ∃ _m, _m < _ ∧ _
     refine ⟨_, ?_, Or.inr ⟨c83, e83, dz83, ((nl83.length : Nat) : Int), nv96, (nl83 ++ [(⟨19, 0, (nth X.T i2).a, (nth X.T i2).t, (⟨v91, [lf, y83]⟩ : Ls Int)⟩ : NdL)]), ?_, ?_, ?_, h97.nrm ⟨rfl, rfl, rfl, trivial⟩ [0, 1, 2] rfl, rfl⟩⟩
     · rw [hm28]; first | omega | (simp only [lens9]; omega)
     · exact (hrel.trans (by show stepP X (parseP X f3) (.bin k lf) _ = _; simp only [stepP, andP, ne_lock, isL2, ↓reduceIte, Bool.false_eq_true, eq_self, Nat.add_sub_cancel, List.cons_append, List.nil_append, Bool.or_false, Bool.or_true, Bool.true_or, Bool.false_or, Bool.or_self, ne_3345, hr83, hc76]))
     · assumption
     · first | omega | (simp only [lens9] at *; omega)
    have hc100 : lvT X i2 k = false := lv_no2 (hTo _) hk5 (by assumption)
    refine gX<|hK k27<|sG (oM 2 rfl<|.nl)<|gR<|fun a102 w102 h102 => x_ret1 (fn := Tryz.f83) (t := 4) rfl h102 rfl <| .inl ⟨lf, i2, nv2, nl2, ?_, rfl, h102.sh⟩
    exact (hrel.trans (by show stepP X (parseP X f3) (.bin k lf) _ = _; simp only [stepP, andP, ne_lock, isL2, ↓reduceIte, Bool.false_eq_true, eq_self, Nat.add_sub_cancel, List.cons_append, List.nil_append, Bool.or_false, Bool.or_true, Bool.true_or, Bool.false_or, Bool.or_self, ne_3345, hc100]))
   refine qRn (oKs 12 hb46 rfl rfl<|opF hb46 rfl<|.nl)<|qN z34<|?_; clear h33
   refine hK k31<|gF [0, 1, 5, 48] rfl<|gcF rfl rfl<|?_
   have hc105 : lvT X i2 k = false := lv_no1 (by assumption)
   refine gX<|hK k27<|sG (oM 2 rfl<|.nl)<|gR<|fun a107 w107 h107 => x_ret1 (fn := Tryz.f83) (t := 4) rfl h107 rfl <| .inl ⟨lf, i2, nv2, nl2, ?_, rfl, h107.sh⟩
   exact (hrel.trans (by show stepP X (parseP X f3) (.bin k lf) _ = _; simp only [stepP, andP, ne_lock, isL2, ↓reduceIte, Bool.false_eq_true, eq_self, Nat.add_sub_cancel, List.cons_append, List.nil_append, Bool.or_false, Bool.or_true, Bool.true_or, Bool.false_or, Bool.or_self, ne_3345, hc105]))
  refine gG h28<|gK fun _ k108 => gK fun _ k109 => rQ (oM 1 rfl<|onf fl_52_5 rfl<|oV (r_fieldB (r := 5) fl_25_0 rfl rfl rfl) rfl<|olB 0 ti_23 rfl rfl<|oeqI _ _ rfl<|oM 1 rfl<|oK (decide_eq_false (by first | exact hc | assumption)) rfl<|oK (decide_eq_false (by first | exact hc | assumption)) rfl<|oK (decide_eq_false (by first | exact hc | assumption)) rfl<|oK (decide_eq_false (by first | exact hc | assumption)) rfl<|oK (decide_eq_false (by first | exact hc | assumption)) rfl<|oK (decide_eq_false (by first | exact hc | assumption)) rfl<|oK (decide_eq_false (by first | exact hc | assumption)) rfl<|oK (decide_eq_false (by first | exact hc | assumption)) rfl<|oK (decide_eq_false (by first | exact hc | assumption)) rfl<|oK (decide_eq_false (by first | exact hc | assumption)) rfl<|opF (decide_eq_false (by first | exact hc | assumption)) rfl<|oM 1 rfl<|oK rfl rfl<|oK rfl rfl<|oK rfl rfl<|oK rfl rfl<|oK rfl rfl<|oK rfl rfl<|oK rfl rfl<|oK rfl rfl<|oK rfl rfl<|oK rfl rfl<|oK rfl rfl<|oK rfl rfl<|opF rfl rfl<|.nl)<|hK k109<|gF [0, 1, 5, 48] rfl<|gcF rfl rfl<|gX<|hK k27<|sG (oM 2 rfl<|.nl)<|gR<|fun a112 w112 h112 => x_ret1 (fn := Tryz.f83) (t := 4) rfl h112 rfl <| .inr ⟨c2, ea2, dz2, lf2, nv2, nl2, ?_, hcn2, rfl, (by first | omega | (simp only [lens9] at *; omega)), h112.sh⟩; clear h28
  exact hrelb
 have hq26 : nl26.length ≤ 10000 + 10 * f := hq926
 have h26 : St _ K W a26 w26 _ [_, _, _] := ⟨hf26, h24.sh.backI (Lp := [_, _, _]) hs26⟩
 clear hf26 hs26 h24 hp25
 refine gG h26<|gRn (oM 1 rfl<|.nl)<|nK k23<|gK fun _ k113 => gB<|fun a115 w115 h115 => x_loop (fun m a w => St 87 K W a w [(0, .pointer (some ⟨g, 0, none⟩)), (1, .int .i64 ((k : Nat) : Int)), (5, .int .i64 y26)] [.blk g 52 [tv, .int .i64 X.e, .int .i64 ((X.T.length : Nat) : Int), .int .i64 dz26, nv26, .int .i64 c26, .int .i64 0, .int .i64 e26], .deep 57 (⟨nv26, nl26⟩ : Ls NdL), .own 81 (⟨tv, X.T⟩ : Ls Tok)] ∧ m = 0) ⟨_, h115.nf ⟨rfl, rfl, rfl, trivial⟩, rfl⟩ ?_; clear h26
 clear h115
 rintro m114 a114 w114 ⟨h114, hm114⟩
 refine gG h114<|gK fun _ k116 => gK fun _ k117 => rQ (oM 1 rfl<|onf fl_52_5 rfl<|oV (r_fieldB (r := 5) fl_25_0 rfl rfl rfl) rfl<|olB 0 ti_23 rfl rfl<|oeqI _ _ rfl<|oM 1 rfl<|oK (decide_eq_false (by first | exact hc | assumption)) rfl<|oK (decide_eq_false (by first | exact hc | assumption)) rfl<|oK (decide_eq_false (by first | exact hc | assumption)) rfl<|oK (decide_eq_false (by first | exact hc | assumption)) rfl<|oK (decide_eq_false (by first | exact hc | assumption)) rfl<|oK (decide_eq_false (by first | exact hc | assumption)) rfl<|oK (decide_eq_false (by first | exact hc | assumption)) rfl<|oK (decide_eq_false (by first | exact hc | assumption)) rfl<|oK (decide_eq_false (by first | exact hc | assumption)) rfl<|oK (decide_eq_false (by first | exact hc | assumption)) rfl<|opF (decide_eq_false (by first | exact hc | assumption)) rfl<|oM 1 rfl<|oK rfl rfl<|oK rfl rfl<|oK rfl rfl<|oK rfl rfl<|oK rfl rfl<|oK rfl rfl<|oK rfl rfl<|oK rfl rfl<|oK rfl rfl<|oK rfl rfl<|oK rfl rfl<|oK rfl rfl<|opF rfl rfl<|.nl)<|hK k117<|gF [0, 1, 5, 48] rfl<|gcF rfl rfl<|gX<|hK k113<|sG (oM 2 rfl<|.nl)<|gR<|fun a120 w120 h120 => x_ret1 (fn := Tryz.f83) (t := 4) rfl h120 rfl <| .inr ⟨c26, e26, dz26, y26, nv26, nl26, ?_, hcn26, rfl, (by first | omega | (simp only [lens9] at *; omega)), h120.sh⟩; clear h114
 exact (by show stepP X _ _ _ = _; simp only [stepP, andP, ne_lock, isL2, ↓reduceIte, Bool.false_eq_true, eq_self, Nat.add_sub_cancel, List.cons_append, List.nil_append, Bool.or_false, Bool.or_true, Bool.true_or, Bool.false_or, Bool.or_self, ne_3345, hr26, hk9])

theorem dBlock_c (K : Nat → Prop) (g : Nat) (X : TE) (tv nv : Value) (i d : Nat) (nl : List NdL) (f : Nat)  (W : World) (hS : Sh K W W [.blk g 52 [tv, .int .i64 X.e, .int .i64 ((i : Nat) : Int), .int .i64 ((d : Nat) : Int), nv, .int .i64 0, .int .i64 0, .int .i64 0], .deep 57 (⟨nv, nl⟩ : Ls NdL), .own 81 (⟨tv, X.T⟩ : Ls Tok)]) (hTl : X.T.length ≤ 4000) (hd : d ≤ 20) (hi : i ≤ X.T.length) (hnl : nl.length ≤ 2 * i) (ih : ∀ f', f' ≤ f → AllD X f') (hTo : ∀ q, q < X.T.length → TokOK (nth X.T q)) (hfb : f + 1 ≤ 1000000) (hf : 20 * (X.T.length - i) + 1 ≤ f + 1) :
    Rets Tryz.prog 23 [.pointer (some ⟨g, 0, none⟩)] W (fun v w' => (∃ (a : Int) (i' : Nat) (nv' : Value) (nl' : List NdL), parseP X (f + 1) .block ⟨i, d, nl.map NdL.nd⟩ = .ok (a, ⟨i', d, nl'.map NdL.nd⟩) ∧ v = .int .i64 a ∧ Sh K W w' [.blk g 52 [tv, .int .i64 X.e, .int .i64 ((i' : Nat) : Int), .int .i64 ((d : Nat) : Int), nv', .int .i64 0, .int .i64 0, .int .i64 0], .deep 57 (⟨nv', nl'⟩ : Ls NdL), .own 81 (⟨tv, X.T⟩ : Ls Tok)]) ∨ ∃ (c a dz y : Int) (nv' : Value) (nl' : List NdL), parseP X (f + 1) .block ⟨i, d, nl.map NdL.nd⟩ = .error (c, a) ∧ ¬ c = 0 ∧ v = .int .i64 y ∧ nl'.length ≤ 10000 + 10 * (f + 1) ∧ Sh K W w' [.blk g 52 [tv, .int .i64 X.e, .int .i64 ((X.T.length : Nat) : Int), .int .i64 dz, nv', .int .i64 c, .int .i64 0, .int .i64 a], .deep 57 (⟨nv', nl'⟩ : Ls NdL), .own 81 (⟨tv, X.T⟩ : Ls Tok)]) := by
 refine gen Tryz.func23 Tryz.ntmps23 hS rfl fun a10 h10 => gG h10<|sG (oM 1 rfl<|.nl)<|sK fun _ k12 => gRn (oM 1 rfl<|.nl)<|gP (fun _ _ h_ => xCl h_ bd_21 rfl (dAt_c g _ _ _ _ _ _ _ i _ (h_.sh.blk 0 rfl) (h_.sh.own 2 rfl))) rfl<|gRn (oM 1 rfl<|.nl)<|nK k12<|sK fun _ k14 => gRn (oM 1 rfl<|.nl)<|fun a15 w15 h15 => ?_; clear h10
 have hp16 := h15.sh.passL (Lp := [_, _, _])
 refine wl_ex (x_call h15 bd_43 rfl rfl rfl rfl rfl (dOpen_c _ _ X tv nv i d nl _ hp16 hTl (by omega) ({ data := #[123] }))) (wanted_none rfl _) ?_
 rintro a17 w17 ⟨_, (⟨y17, hr17, hi17, rfl, hs17⟩ | ⟨c17, e17, dz17, hr17, hcn17, rfl, hs17⟩), hf17⟩
 ·skip
  have hl17 : i < X.T.length := hi17
  have hd17 := open_d20 hr17
  have h17 : St _ K W a17 w17 _ [_, _, _] := ⟨hf17, h15.sh.backI (Lp := [_, _, _]) hs17⟩
  clear hf17 hs17 h15 hp16
  refine gG h17<|nK k14<|sG (oM 1 rfl<|.nl)<|gK fun _ k19 => gB<|fun a22 w22 h22 => ?_; clear h17
  have h21 := h22.nil (α := Int) 3
  clear h22
  have hya := open_at hr17
  have hb9 : parseP X (f + 1) .block ⟨i, d, nl.map NdL.nd⟩ = parseP X f (.stmts (atT X i) []) ⟨i + 1, d + 1, nl.map NdL.nd⟩ := by show stepP X _ _ _ = _; simp only [stepP, andP, ne_lock, isL2, ↓reduceIte, Bool.false_eq_true, eq_self, Nat.add_sub_cancel, List.cons_append, List.nil_append, Bool.or_false, Bool.or_true, Bool.true_or, Bool.false_or, Bool.or_self, ne_3345, hr17, hya]
  refine x_loop (fun m a w => (∃ (f2 : Nat) (kv : Value) (kl : List Int) (i2 : Nat) (nv2 : Value) (nl2 : List NdL), (f2 ≤ f ∧ 20 * (X.T.length - i2) + 11 ≤ f2 ∧ i2 ≤ X.T.length ∧ nl2.length ≤ 2 * i2 ∧ kl.length ≤ i2) ∧ (parseP X (f + 1) .block ⟨i, d, nl.map NdL.nd⟩ = parseP X f2 (.stmts (atT X i) kl) ⟨i2, d + 1, nl2.map NdL.nd⟩) ∧ St 33 K W a w [(0, .pointer (some ⟨g, 0, none⟩)), (3, .int .i64 (atT X i)), (4, kv)] [.blk g 52 [tv, .int .i64 X.e, .int .i64 ((i2 : Nat) : Int), .int .i64 ((d + 1 : Nat) : Int), nv2, .int .i64 0, .int .i64 0, .int .i64 0], .deep 57 (⟨nv2, nl2⟩ : Ls NdL), .own 81 (⟨tv, X.T⟩ : Ls Tok), .own 3 (⟨kv, kl⟩ : Ls Int)] ∧ m = f2) ∨ (∃ (c2 ea2 dz2 : Int) (nv2 : Value) (nl2 : List NdL) (kv2 : Value) (kl2 : List Int), (parseP X (f + 1) .block ⟨i, d, nl.map NdL.nd⟩ = .error (c2, ea2)) ∧ (¬ c2 = 0) ∧ (nl2.length ≤ 10000 + 10 * f + 5) ∧ (kl2.length ≤ 5000) ∧ St 33 K W a w [(0, .pointer (some ⟨g, 0, none⟩)), (3, .int .i64 (atT X i)), (4, kv2)] [.blk g 52 [tv, .int .i64 X.e, .int .i64 ((X.T.length : Nat) : Int), .int .i64 dz2, nv2, .int .i64 c2, .int .i64 0, .int .i64 ea2], .deep 57 (⟨nv2, nl2⟩ : Ls NdL), .own 81 (⟨tv, X.T⟩ : Ls Tok), .own 3 (⟨kv2, kl2⟩ : Ls Int)] ∧ m = 0)) ⟨_, Or.inl ⟨f, _, _, i + 1, nv, nl, (⟨by omega, by omega, by omega, by omega, by simp only [List.length_nil]; omega⟩), (hb9), h21.nrm ⟨rfl, rfl, rfl, trivial⟩ [1, 2, 3, 0] rfl, rfl⟩⟩ ?_
  clear h21
  rintro m20 a20 w20 (⟨f2, kv, kl, i2, nv2, nl2, hk2, hrel, h20, hm20⟩ | ⟨c2, ea2, dz2, nv2, nl2, kv2, kl2, hrelb, hcn2, hq2, hkl2, h20, hm20⟩)
  ·skip
   obtain ⟨f3, rfl⟩ : ∃ f3, f2 = f3 + 1 := ⟨f2 - 1, by omega⟩
   refine gG h20<|gK fun _ k23 => sG (oM 1 rfl<|onf fl_52_5 rfl<|oV (r_fieldB (r := 5) fl_25_0 rfl rfl rfl) rfl<|olB 0 ti_23 rfl rfl<|oeqN 0 0 rfl<|.nl)<|gcT rfl (by decide)<|gS<|hK k23<|gB<|sK fun _ k25 => gRn (oM 1 rfl<|.nl)<|gP (fun _ _ h_ => xCl h_ bd_19 rfl (dIs_c g _ _ _ _ _ _ _ i2 _ (h_.sh.blk 0 rfl) (h_.sh.own 2 rfl) ({ data := #[125] }))) rfl<|gRn (oM 1 rfl<|.nl)<|nK k25<|gK fun _ k27 => sG (oM 1 rfl<|.nl)<|?_; clear h20
   refine gCb rfl (fun hb29 => ?_) fun hb29 => ?_
   ·skip
    have hc30 : isT X i2 ({ data := #[125] }) = true := (by assumption)
    have hl30 := isl_lt hc30
    refine gX<|hK k19<|sK fun _ k31 => gRn (oM 1 rfl<|.nl)<|fun a32 w32 h32 => ?_
    have hp33 := h32.sh.passL (Lp := [_, _, _])
    refine wl_ex (x_call h32 bd_45 rfl rfl rfl rfl rfl (dShut_c _ _ X tv nv2 i2 (d + 1) nl2 _ hp33 hTl (by omega) ({ data := #[125] }))) (wanted_none rfl _) ?_
    rintro a34 w34 ⟨_, (⟨y34, hr34, hi34, rfl, hs34⟩ | ⟨c34, e34, dz34, hr34, hcn34, rfl, hs34⟩), hf34⟩
    ·skip
     have hl34 : i2 < X.T.length := hi34
     have h34 : St _ K W a34 w34 _ [_, _, _, _] := ⟨hf34, h32.sh.backI (Lp := [_, _, _]) hs34⟩
     clear hf34 hs34 h32 hp33
     refine gG h34<|nK k31<|sK fun _ k35 => gRn (oM 3 rfl<|oV (r_buildS (cs := [.int .i64 5, .int .i64 0, .int .i64 (atT X i), .string (⟨#[]⟩), kv]) rfl rfl (fun w h => by obtain ⟨A36, n36, c36, (e36 : kv = _)⟩ := ((h.own 3 rfl)).form; rw [e36]; kernel_rfl)) rfl<|.nl)<|fun a37 w37 h37 => ?_; clear h34
     have hp38 := h37.sh.passL (Lp := [_, _, _, _])
     refine wl_ex (x_call h37 bd_24 rfl rfl rfl rfl rfl (dNode_c _ _ X tv nv2 nl2 (i2 + 1) _ _ _ _ 5 0 (atT X i) (⟨#[]⟩) (⟨kv, kl⟩ : Ls Int) hp38 (by first | omega | (simp only [lens9]; omega)))) (wanted_none rfl _) ?_
     rintro a39 w39 ⟨_, ⟨nv39, rfl, hs39⟩, hf39⟩
     have hm39 : (nl2 ++ [(⟨5, 0, (atT X i), ⟨#[]⟩, (⟨kv, kl⟩ : Ls Int)⟩ : NdL)]).length = nl2.length + 1 := (by simp only [lens9])
     have hr39 : putP (⟨5, 0, (atT X i), ⟨#[]⟩, kl⟩ : Nd) ⟨(i2 + 1), d, nl2.map NdL.nd⟩ = .ok (((nl2.length : Nat) : Int), ⟨(i2 + 1), d, (nl2 ++ [(⟨5, 0, (atT X i), ⟨#[]⟩, (⟨kv, kl⟩ : Ls Int)⟩ : NdL)]).map NdL.nd⟩) := put_eq (x := (⟨5, 0, (atT X i), ⟨#[]⟩, (⟨kv, kl⟩ : Ls Int)⟩ : NdL))
     have h39 : St _ K W a39 w39 _ [_, _, _] := ⟨hf39, h37.sh.backI (Lp := [_, _, _, _]) hs39⟩
     clear hf39 hs39 h37 hp38
     refine gG h39<|gRn (oM 1 rfl<|.nl)<|nK k35<|gR<|fun a40 w40 h40 => x_ret1 (fn := Tryz.f23) (t := 2) rfl h40 rfl <| .inl ⟨((nl2.length : Nat) : Int), (i2 + 1), nv39, (nl2 ++ [(⟨5, 0, (atT X i), ⟨#[]⟩, (⟨kv, kl⟩ : Ls Int)⟩ : NdL)]), ?_, rfl, h40.sh⟩; clear h39
     exact (hrel.trans (by show stepP X (parseP X f3) (.stmts (atT X i) kl) _ = _; simp only [stepP, andP, ne_lock, isL2, ↓reduceIte, Bool.false_eq_true, eq_self, Nat.add_sub_cancel, List.cons_append, List.nil_append, Bool.or_false, Bool.or_true, Bool.true_or, Bool.false_or, Bool.or_self, ne_3345, hr34, hr39, hc30]))
    have h34 : St _ K W a34 w34 _ [_, _, _, _] := ⟨hf34, h32.sh.backI (Lp := [_, _, _]) hs34⟩
    clear hf34 hs34 h32 hp33
    refine gG h34<|nK k31<|sK fun _ k41 => gRn (oM 3 rfl<|oV (r_buildS (cs := [.int .i64 5, .int .i64 0, .int .i64 (atT X i), .string (⟨#[]⟩), kv]) rfl rfl (fun w h => by obtain ⟨A42, n42, c42, (e42 : kv = _)⟩ := ((h.own 3 rfl)).form; rw [e42]; kernel_rfl)) rfl<|.nl)<|fun a43 w43 h43 => ?_; clear h34
    have hp44 := h43.sh.passL (Lp := [_, _, _, _])
    refine wl_ex (x_call h43 bd_24 rfl rfl rfl rfl rfl (dNode_c _ _ X tv nv2 nl2 X.T.length _ _ _ _ 5 0 (atT X i) (⟨#[]⟩) (⟨kv, kl⟩ : Ls Int) hp44 (by first | omega | (simp only [lens9]; omega)))) (wanted_none rfl _) ?_
    rintro a45 w45 ⟨_, ⟨nv45, rfl, hs45⟩, hf45⟩
    have hm45 : (nl2 ++ [(⟨5, 0, (atT X i), ⟨#[]⟩, (⟨kv, kl⟩ : Ls Int)⟩ : NdL)]).length = nl2.length + 1 := (by simp only [lens9])
    have h45 : St _ K W a45 w45 _ [_, _, _] := ⟨hf45, h43.sh.backI (Lp := [_, _, _, _]) hs45⟩
    clear hf45 hs45 h43 hp44
    refine gG h45<|gRn (oM 1 rfl<|.nl)<|nK k41<|gR<|fun a46 w46 h46 => x_ret1 (fn := Tryz.f23) (t := 2) rfl h46 rfl <| .inr ⟨c34, e34, dz34, ((nl2.length : Nat) : Int), nv45, (nl2 ++ [(⟨5, 0, (atT X i), ⟨#[]⟩, (⟨kv, kl⟩ : Ls Int)⟩ : NdL)]), ?_, hcn34, rfl, (by first | omega | (simp only [lens9] at *; omega)), h46.sh⟩; clear h45
    exact (hrel.trans (by show stepP X (parseP X f3) (.stmts (atT X i) kl) _ = _; simp only [stepP, andP, ne_lock, isL2, ↓reduceIte, Bool.false_eq_true, eq_self, Nat.add_sub_cancel, List.cons_append, List.nil_append, Bool.or_false, Bool.or_true, Bool.true_or, Bool.false_or, Bool.or_self, ne_3345, hr34, hc30]))
   have hc47 : isT X i2 ({ data := #[125] }) = false := (by assumption)
   refine gS<|hK k27<|sK fun _ k48 => gRn (oM 1 rfl<|.nl)<|fun a49 w49 h49 => ?_
   have hp50 := h49.sh.passL (Lp := [_, _, _])
   refine wl_ex (x_call h49 bd_44 rfl rfl rfl rfl rfl ((ih f3 (by omega)).st _ _ tv nv2 i2 (d + 1) nl2 _ hp50 hTl (by omega) (by omega) (by first | omega | (simp only [lens9] at *; omega)) (by omega) (show 20 * (X.T.length - i2) + 10 ≤ f3 by omega))) (wanted_none rfl _) ?_
   rintro a51 w51 ⟨_, (⟨y51, i51, nv51, nl51, hr51, rfl, hs51⟩ | ⟨c51, e51, dz51, y51, nv51, nl51, hr51, hcn51, rfl, hq951, hs51⟩), hf51⟩
   ·skip
    have hv51 := adv_parse (X := X) f3 .stmt ⟨i2, (d + 1), nl2.map NdL.nd⟩ (fun h => by cases h) _ _ hr51; simp only [minT, dT, qT, List.length_map] at hv51
    have h51 : St _ K W a51 w51 _ [_, _, _, _] := ⟨hf51, h49.sh.backI (Lp := [_, _, _]) hs51⟩
    clear hf51 hs51 h49 hp50
    refine gG h51<|gRn (oM 1 rfl<|.nl)<|nK k48<|gL<|gRn (oM 2 rfl<|.nl)<|gE1 (fun _ _ h_ => x_lit (n := 1) (cs := [.int .i64 y51]) ([y51] : List Int) h_ sl_30 ti_3 rfl rfl rfl (by decide) rfl (by kernel_rfl) rfl (fun q hq w h => Flat.inner _ _) (fun q hq b hb => (Flat.on _ _ hb).elim) rfl rfl) rfl fun v52 => gE1 (fun _ _ h_ => x_app (r := 4) (rm := 0) (s := (⟨kv, kl⟩ : Ls Int)) (m := (⟨v52, [y51]⟩ : Ls Int)) h_ sl_30 ti_3 rfl rfl rfl rfl rfl rfl rfl (fun w h => (h.own 0 rfl)) (fun b hb => own_on (h_.sh.ok _ (List.mem_of_getElem? (i := 0) rfl)) hb) (fun q hq b hb => ⟨q, hq, hb⟩) rfl rfl rfl inferInstance (show (kl.length + ([y51]).length) * 8 ≤ 140737488355328 ∧ kl.length + ([y51]).length ≤ 140737488355328 from om9) rfl rfl) rfl fun v53 => gRn (oM 1 rfl<|.nl)<|nN<|fun a54 w54 h54 => ?_; clear h51
    change ∃ _m, _m < _ ∧ _
    refine ⟨_, ?_, Or.inl ⟨f3, _, _, i51, nv51, nl51, ?_, ?_, h54.nrm ⟨rfl, rfl, rfl, trivial⟩ [1, 2, 3, 4] rfl, rfl⟩⟩
    · rw [hm20]; first | omega | (simp only [lens9]; omega)
    · refine ⟨by omega, by omega, by omega, by first | omega | (simp only [lens9]; omega), by simp only [lens9]; omega⟩
    · exact (hrel.trans (by show stepP X (parseP X f3) (.stmts (atT X i) kl) _ = _; simp only [stepP, andP, ne_lock, isL2, ↓reduceIte, Bool.false_eq_true, eq_self, Nat.add_sub_cancel, List.cons_append, List.nil_append, Bool.or_false, Bool.or_true, Bool.true_or, Bool.false_or, Bool.or_self, ne_3345, hr51, hc47]))
   have hq51 : nl51.length ≤ 10000 + 10 * f3 := hq951
   have h51 : St _ K W a51 w51 _ [_, _, _, _] := ⟨hf51, h49.sh.backI (Lp := [_, _, _]) hs51⟩
   clear hf51 hs51 h49 hp50
   refine gG h51<|gRn (oM 1 rfl<|.nl)<|nK k48<|gL<|gRn (oM 2 rfl<|.nl)<|gE1 (fun _ _ h_ => x_lit (n := 1) (cs := [.int .i64 y51]) ([y51] : List Int) h_ sl_30 ti_3 rfl rfl rfl (by decide) rfl (by kernel_rfl) rfl (fun q hq w h => Flat.inner _ _) (fun q hq b hb => (Flat.on _ _ hb).elim) rfl rfl) rfl fun v55 => gE1 (fun _ _ h_ => x_app (r := 4) (rm := 0) (s := (⟨kv, kl⟩ : Ls Int)) (m := (⟨v55, [y51]⟩ : Ls Int)) h_ sl_30 ti_3 rfl rfl rfl rfl rfl rfl rfl (fun w h => (h.own 0 rfl)) (fun b hb => own_on (h_.sh.ok _ (List.mem_of_getElem? (i := 0) rfl)) hb) (fun q hq b hb => ⟨q, hq, hb⟩) rfl rfl rfl inferInstance (show (kl.length + ([y51]).length) * 8 ≤ 140737488355328 ∧ kl.length + ([y51]).length ≤ 140737488355328 from om9) rfl rfl) rfl fun v56 => gRn (oM 1 rfl<|.nl)<|nN<|fun a57 w57 h57 => ?_; clear h51
   change ∃ _m, _m < _ ∧ _
   refine ⟨_, ?_, Or.inr ⟨c51, e51, dz51, nv51, nl51, _, _, ?_, ?_, ?_, ?_, h57.nrm ⟨rfl, rfl, rfl, trivial⟩ [1, 2, 3, 4] rfl, rfl⟩⟩
   · rw [hm20]; first | omega | (simp only [lens9]; omega)
   · exact (hrel.trans (by show stepP X (parseP X f3) (.stmts (atT X i) kl) _ = _; simp only [stepP, andP, ne_lock, isL2, ↓reduceIte, Bool.false_eq_true, eq_self, Nat.add_sub_cancel, List.cons_append, List.nil_append, Bool.or_false, Bool.or_true, Bool.true_or, Bool.false_or, Bool.or_self, ne_3345, hr51, hc47]))
   · assumption
   · first | omega | (simp only [lens9] at *; omega)
   · simp only [lens9]; omega
  refine gG h20<|gK fun _ k58 => sG (oM 1 rfl<|onf fl_52_5 rfl<|oV (r_fieldB (r := 5) fl_25_0 rfl rfl rfl) rfl<|olB 0 ti_23 rfl rfl<|oeqI _ _ rfl<|.nl)<|gcF rfl (decide_eq_false (by first | exact hc | assumption))<|gX<|hK k19<|sK fun _ k60 => gRn (oM 1 rfl<|.nl)<|fun a61 w61 h61 => ?_; clear h20
  have hp62 := h61.sh.passL (Lp := [_, _, _])
  refine wl_ex (x_call h61 bd_45 rfl rfl rfl rfl rfl (dShut_b _ _ X tv nv2 nl2 dz2 c2 ea2 _ hp62 hTl hcn2 ({ data := #[125] }))) (wanted_none rfl _) ?_
  rintro a63 w63 ⟨_, ⟨dz63, rfl, hs63⟩, hf63⟩
  have h63 : St _ K W a63 w63 _ [_, _, _, _] := ⟨hf63, h61.sh.backI (Lp := [_, _, _]) hs63⟩
  clear hf63 hs63 h61 hp62
  refine gG h63<|nK k60<|sK fun _ k64 => gRn (oM 3 rfl<|oV (r_buildS (cs := [.int .i64 5, .int .i64 0, .int .i64 (atT X i), .string (⟨#[]⟩), kv2]) rfl rfl (fun w h => by obtain ⟨A65, n65, c65, (e65 : kv2 = _)⟩ := ((h.own 3 rfl)).form; rw [e65]; kernel_rfl)) rfl<|.nl)<|fun a66 w66 h66 => ?_; clear h63
  have hp67 := h66.sh.passL (Lp := [_, _, _, _])
  refine wl_ex (x_call h66 bd_24 rfl rfl rfl rfl rfl (dNode_c _ _ X tv nv2 nl2 X.T.length _ _ _ _ 5 0 (atT X i) (⟨#[]⟩) (⟨kv2, kl2⟩ : Ls Int) hp67 (by first | omega | (simp only [lens9]; omega)))) (wanted_none rfl _) ?_
  rintro a68 w68 ⟨_, ⟨nv68, rfl, hs68⟩, hf68⟩
  have hm68 : (nl2 ++ [(⟨5, 0, (atT X i), ⟨#[]⟩, (⟨kv2, kl2⟩ : Ls Int)⟩ : NdL)]).length = nl2.length + 1 := (by simp only [lens9])
  have h68 : St _ K W a68 w68 _ [_, _, _] := ⟨hf68, h66.sh.backI (Lp := [_, _, _, _]) hs68⟩
  clear hf68 hs68 h66 hp67
  refine gG h68<|gRn (oM 1 rfl<|.nl)<|nK k64<|gR<|fun a69 w69 h69 => x_ret1 (fn := Tryz.f23) (t := 2) rfl h69 rfl <| .inr ⟨c2, ea2, dz63, ((nl2.length : Nat) : Int), nv68, (nl2 ++ [(⟨5, 0, (atT X i), ⟨#[]⟩, (⟨kv2, kl2⟩ : Ls Int)⟩ : NdL)]), ?_, hcn2, rfl, (by first | omega | (simp only [lens9] at *; omega)), h69.sh⟩; clear h68
  exact hrelb
 have h17 : St _ K W a17 w17 _ [_, _, _] := ⟨hf17, h15.sh.backI (Lp := [_, _, _]) hs17⟩
 clear hf17 hs17 h15 hp16
 refine gG h17<|nK k14<|sG (oM 1 rfl<|.nl)<|gK fun _ k71 => gB<|fun a73 w73 h73 => x_loop (fun m a w => St 33 K W a w [(0, .pointer (some ⟨g, 0, none⟩)), (3, .int .i64 (atT X i)), (4, (.slice none 0 0))] [.blk g 52 [tv, .int .i64 X.e, .int .i64 ((X.T.length : Nat) : Int), .int .i64 dz17, nv, .int .i64 c17, .int .i64 0, .int .i64 e17], .deep 57 (⟨nv, nl⟩ : Ls NdL), .own 81 (⟨tv, X.T⟩ : Ls Tok)] ∧ m = 0) ⟨_, h73.nf ⟨rfl, rfl, rfl, trivial⟩, rfl⟩ ?_; clear h17
 clear h73
 rintro m72 a72 w72 ⟨h72, hm72⟩
 refine gG h72<|gK fun _ k74 => sG (oM 1 rfl<|onf fl_52_5 rfl<|oV (r_fieldB (r := 5) fl_25_0 rfl rfl rfl) rfl<|olB 0 ti_23 rfl rfl<|oeqI _ _ rfl<|.nl)<|gcF rfl (decide_eq_false (by first | exact hc | assumption))<|gX<|hK k71<|sK fun _ k76 => gRn (oM 1 rfl<|.nl)<|fun a77 w77 h77 => ?_; clear h72
 have hp78 := h77.sh.passL (Lp := [_, _, _])
 refine wl_ex (x_call h77 bd_45 rfl rfl rfl rfl rfl (dShut_b _ _ X tv nv nl dz17 c17 e17 _ hp78 hTl hcn17 ({ data := #[125] }))) (wanted_none rfl _) ?_
 rintro a79 w79 ⟨_, ⟨dz79, rfl, hs79⟩, hf79⟩
 have h79 : St _ K W a79 w79 _ [_, _, _] := ⟨hf79, h77.sh.backI (Lp := [_, _, _]) hs79⟩
 clear hf79 hs79 h77 hp78
 refine gG h79<|nK k76<|sK fun _ k80 => gRn (oM 3 rfl<|oV (r_build (cs := [.int .i64 5, .int .i64 0, .int .i64 (atT X i), .string (⟨#[]⟩), (.slice none 0 0)]) rfl rfl (by kernel_rfl)) rfl<|.nl)<|fun a81 w81 h81 => ?_; clear h79
 have h83 := h81.nil (α := Int) 3
 clear h81
 have h84 := h83.sel (L' := [_, _, _, _]) [1, 2, 3, 0] rfl
 have hp85 := h84.sh.passL (Lp := [_, _, _, _])
 refine wl_ex (x_call h84 bd_24 rfl rfl rfl rfl rfl (dNode_c _ _ X tv nv nl X.T.length _ _ _ _ 5 0 (atT X i) (⟨#[]⟩) (⟨.slice none 0 0, []⟩ : Ls Int) hp85 (by first | omega | (simp only [lens9]; omega)))) (wanted_none rfl _) ?_
 rintro a86 w86 ⟨_, ⟨nv86, rfl, hs86⟩, hf86⟩
 have hm86 : (nl ++ [(⟨5, 0, (atT X i), ⟨#[]⟩, (⟨.slice none 0 0, []⟩ : Ls Int)⟩ : NdL)]).length = nl.length + 1 := (by simp only [lens9])
 have h86 : St _ K W a86 w86 _ [_, _, _] := ⟨hf86, h84.sh.backI (Lp := [_, _, _, _]) hs86⟩
 clear hf86 hs86 h84 hp85
 refine gG h86<|gRn (oM 1 rfl<|.nl)<|nK k80<|gR<|fun a87 w87 h87 => x_ret1 (fn := Tryz.f23) (t := 2) rfl h87 rfl <| .inr ⟨c17, e17, dz79, ((nl.length : Nat) : Int), nv86, (nl ++ [(⟨5, 0, (atT X i), ⟨#[]⟩, (⟨.slice none 0 0, []⟩ : Ls Int)⟩ : NdL)]), ?_, hcn17, rfl, (by first | omega | (simp only [lens9] at *; omega)), h87.sh⟩; clear h86
 exact (by show stepP X _ _ _ = _; simp only [stepP, andP, ne_lock, isL2, ↓reduceIte, Bool.false_eq_true, eq_self, Nat.add_sub_cancel, List.cons_append, List.nil_append, Bool.or_false, Bool.or_true, Bool.true_or, Bool.false_or, Bool.or_self, ne_3345, hr17])

theorem dAssign_c (K : Nat → Prop) (g : Nat) (X : TE) (tv nv : Value) (i d : Nat) (nl : List NdL) (f : Nat) (gn : Nat) (an : Int)  (W : World) (hS : Sh K W W [.blk g 52 [tv, .int .i64 X.e, .int .i64 ((i : Nat) : Int), .int .i64 ((d : Nat) : Int), nv, .int .i64 0, .int .i64 0, .int .i64 0], .deep 57 (⟨nv, nl⟩ : Ls NdL), .own 81 (⟨tv, X.T⟩ : Ls Tok), .blk gn 57 [.int .i64 0, .int .i64 0, .int .i64 an, .string { data := #[] }, .slice none 0 0]]) (hTl : X.T.length ≤ 4000) (hd : d ≤ 20) (hi : i ≤ X.T.length) (hnl : nl.length ≤ 2 * i) (ih : ∀ f', f' ≤ f → AllD X f') (hTo : ∀ q, q < X.T.length → TokOK (nth X.T q)) (hfb : f + 1 ≤ 1000000) (hf : 20 * (X.T.length - i) ≤ f) :
    Rets Tryz.prog 85 [.pointer (some ⟨g, 0, none⟩), .pointer (some ⟨gn, 0, none⟩)] W (fun v w' => (∃ (k' : Int) (t' : ByteArray) (kw : Value) (kk : List Int) (i' : Nat) (nv' : Value) (nl' : List NdL), asgP X (parseP X f) ⟨i, d, nl.map NdL.nd⟩ = .ok ((k', t', kk), ⟨i', d, nl'.map NdL.nd⟩) ∧ (nl'.length ≤ 2 * i' ∧ i' ≤ X.T.length) ∧ v = .tuple #[] ∧ Sh K W w' [.blk g 52 [tv, .int .i64 X.e, .int .i64 ((i' : Nat) : Int), .int .i64 ((d : Nat) : Int), nv', .int .i64 0, .int .i64 0, .int .i64 0], .deep 57 (⟨nv', nl'⟩ : Ls NdL), .own 81 (⟨tv, X.T⟩ : Ls Tok), .blk gn 57 [.int .i64 k', .int .i64 0, .int .i64 an, .string t', kw], .own 3 (⟨kw, kk⟩ : Ls Int)]) ∨ ∃ (c a dz k' : Int) (t' : ByteArray) (kw : Value) (kk : List Int) (nv' : Value) (nl' : List NdL), asgP X (parseP X f) ⟨i, d, nl.map NdL.nd⟩ = .error (c, a) ∧ ¬ c = 0 ∧ v = .tuple #[] ∧ nl'.length ≤ 10000 + 10 * f + 8 ∧ Sh K W w' [.blk g 52 [tv, .int .i64 X.e, .int .i64 ((X.T.length : Nat) : Int), .int .i64 dz, nv', .int .i64 c, .int .i64 0, .int .i64 a], .deep 57 (⟨nv', nl'⟩ : Ls NdL), .own 81 (⟨tv, X.T⟩ : Ls Tok), .blk gn 57 [.int .i64 k', .int .i64 0, .int .i64 an, .string t', kw], .own 3 (⟨kw, kk⟩ : Ls Int)]) := by
 refine gen Tryz.func85 Tryz.ntmps85 hS rfl fun a10 h10 => gG h10<|sK fun _ k11 => gRn (oM 1 rfl<|onf fl_57_0 rfl<|.nl)<|gst 3 ti_3 rfl rfl rfl<|nK k11<|sK fun _ k13 => gRn (oM 2 rfl<|.nl)<|fun a14 w14 h14 => ?_; clear h10
 have hp15 := h14.sh.passL (Lp := [_, _, _])
 refine wl_ex (x_call h14 bd_41 rfl rfl rfl rfl rfl (dName_c _ _ X tv nv i d nl _ hp15 hTl)) (wanted_none rfl _) ?_
 rintro a16 w16 ⟨_, (⟨y16, hr16, hi16, rfl, hs16⟩ | ⟨c16, e16, dz16, hr16, hcn16, rfl, hs16⟩), hf16⟩
 ·skip
  have hl16 : i < X.T.length := hi16
  have hya16 := name_at hr16
  have h16 : St _ K W a16 w16 _ [_, _, _, _] := ⟨hf16, h14.sh.backI (Lp := [_, _, _]) hs16⟩
  clear hf16 hs16 h14 hp15
  refine gG h16<|gRn (onf fl_57_3 rfl<|.nl)<|gst 3 ti_9 rfl rfl rfl<|nK k13<|sK fun _ k18 => gRn (oM 1 rfl<|.nl)<|fun a19 w19 h19 => ?_; clear h16
  have hp20 := h19.sh.passL (Lp := [_, _, _])
  refine wl_ex (x_call h19 bd_22 rfl rfl rfl rfl rfl (dTake_c _ _ X tv nv (i + 1) d nl _ hp20 hTl ({ data := #[61] }))) (wanted_none rfl _) ?_
  rintro a21 w21 ⟨_, (⟨y21, hr21, hi21, rfl, hs21⟩ | ⟨c21, e21, dz21, hr21, hcn21, rfl, hs21⟩), hf21⟩
  ·skip
   have hl21 : (i + 1) < X.T.length := hi21
   have h21 : St _ K W a21 w21 _ [_, _, _, _] := ⟨hf21, h19.sh.backI (Lp := [_, _, _]) hs21⟩
   clear hf21 hs21 h19 hp20
   refine gG h21<|nK k18<|sK fun _ k22 => gRn (oM 1 rfl<|.nl)<|gP (fun _ _ h_ => xCl h_ bd_19 rfl (dIs_c g _ _ _ _ _ _ _ ((i + 1) + 1) _ (h_.sh.blk 0 rfl) (h_.sh.own 2 rfl) ({ data := #[99, 97, 115] }))) rfl<|gRn (oM 1 rfl<|.nl)<|nK k22<|gK fun _ k24 => sG (oM 1 rfl<|ont rfl<|.nl)<|?_; clear h21
   refine gCb rfl (fun hb26 => ?_) fun hb26 => ?_
   ·have hn26 : isT X ((i + 1) + 1) ({ data := #[99, 97, 115] }) = false := (Bool.not_eq_true' _).mp hb26
    have hc27 : isT X ((i + 1) + 1) ({ data := #[99, 97, 115] }) = false := (by assumption)
    have hc28 : isT X ((i + 1) + 1) ({ data := #[99, 97, 115] }) = false := (by assumption)
    refine sK fun _ k29 => gRn (oM 1 rfl<|.nl)<|fun a30 w30 h30 => ?_
    have hp31 := h30.sh.passL (Lp := [_, _, _])
    refine wl_ex (x_call h30 bd_83 rfl rfl rfl rfl rfl ((ih f (by omega)).ex 0 (by omega) _ _ tv nv ((i + 1) + 1) d nl _ hp31 hTl (by omega) (by omega) (by first | omega | (simp only [lens9] at *; omega)) (by omega) (show 20 * (X.T.length - ((i + 1) + 1)) + (3 + (5 - 0)) ≤ f by omega))) (wanted_none rfl _) ?_
    rintro a32 w32 ⟨_, (⟨y32, i32, nv32, nl32, hr32, rfl, hs32⟩ | ⟨c32, e32, dz32, y32, nv32, nl32, hr32, hcn32, rfl, hq932, hs32⟩), hf32⟩
    ·skip
     have hv32 := adv_parse (X := X) f (.expr 0) ⟨((i + 1) + 1), d, nl.map NdL.nd⟩ (fun h => by cases h) _ _ hr32; simp only [minT, dT, qT, List.length_map] at hv32
     have h32 : St _ K W a32 w32 _ [_, _, _, _] := ⟨hf32, h30.sh.backI (Lp := [_, _, _]) hs32⟩
     clear hf32 hs32 h30 hp31
     refine gG h32<|gRn (oM 1 rfl<|.nl)<|nK k29<|sK fun _ k33 => gRn (oM 2 rfl<|.nl)<|gE1 (fun _ _ h_ => x_lit (n := 1) (cs := [.int .i64 y32]) ([y32] : List Int) h_ sl_30 ti_3 rfl rfl rfl (by decide) rfl (by kernel_rfl) rfl (fun q hq w h => Flat.inner _ _) (fun q hq b hb => (Flat.on _ _ hb).elim) rfl rfl) rfl fun v34 => gRn (onf fl_57_4 rfl<|.nl)<|gsr 4 ti_30 rfl (aO 0 rfl) rfl<|nK k33<|gF [0] rfl<|sK fun _ k36 => gRn (oM 1 rfl<|.nl)<|fun a37 w37 h37 => ?_; clear h32
     have h38 := h37.sel (L' := [_, _, _, _, _]) [1, 2, 3, 0, 4] rfl
     have hp39 := h38.sh.passL (Lp := [_, _, _])
     refine wl_ex (x_call h38 bd_22 rfl rfl rfl rfl rfl (dTake_c _ _ X tv nv32 i32 d nl32 _ hp39 hTl ({ data := #[59] }))) (wanted_none rfl _) ?_
     rintro a40 w40 ⟨_, (⟨y40, hr40, hi40, rfl, hs40⟩ | ⟨c40, e40, dz40, hr40, hcn40, rfl, hs40⟩), hf40⟩
     ·skip
      have hl40 : i32 < X.T.length := hi40
      have h40 : St _ K W a40 w40 _ [_, _, _, _, _] := ⟨hf40, h38.sh.backI (Lp := [_, _, _]) hs40⟩
      clear hf40 hs40 h38 hp39
      refine gG h40<|nK k36<|gR<|uT<|fun a41 w41 h41 => x_ret0 (fn := Tryz.f85) rfl h41 <| .inl ⟨7, y16.t, v34, [y32], (i32 + 1), nv32, nl32, ?_, ⟨(by first | omega | (simp only [lens9] at *; omega)), by omega⟩, rfl, (h41.sh.sel [0, 1, 2, 4, 3] rfl)⟩; clear h40
      exact (by simp only [asgP, casP, casR, stepP, andP, ne_lock, isL2, ↓reduceIte, Bool.false_eq_true, eq_self, Nat.add_sub_cancel, List.cons_append, List.nil_append, Bool.or_false, Bool.or_true, Bool.true_or, Bool.false_or, Bool.or_self, ne_3345, hr16, hr21, hr32, hr40, hya16, hc27, hc28])
     have h40 : St _ K W a40 w40 _ [_, _, _, _, _] := ⟨hf40, h38.sh.backI (Lp := [_, _, _]) hs40⟩
     clear hf40 hs40 h38 hp39
     refine gG h40<|nK k36<|gR<|uT<|fun a42 w42 h42 => x_ret0 (fn := Tryz.f85) rfl h42 <| .inr ⟨c40, e40, dz40, 7, y16.t, v34, [y32], nv32, nl32, ?_, hcn40, rfl, (by first | omega | (simp only [lens9] at *; omega)), (h42.sh.sel [0, 1, 2, 4, 3] rfl)⟩; clear h40
     exact (by simp only [asgP, casP, casR, stepP, andP, ne_lock, isL2, ↓reduceIte, Bool.false_eq_true, eq_self, Nat.add_sub_cancel, List.cons_append, List.nil_append, Bool.or_false, Bool.or_true, Bool.true_or, Bool.false_or, Bool.or_self, ne_3345, hr16, hr21, hr32, hr40, hya16, hc27, hc28])
    have hq32 : nl32.length ≤ 10000 + 10 * f := hq932
    have h32 : St _ K W a32 w32 _ [_, _, _, _] := ⟨hf32, h30.sh.backI (Lp := [_, _, _]) hs32⟩
    clear hf32 hs32 h30 hp31
    refine gG h32<|gRn (oM 1 rfl<|.nl)<|nK k29<|sK fun _ k43 => gRn (oM 2 rfl<|.nl)<|gE1 (fun _ _ h_ => x_lit (n := 1) (cs := [.int .i64 y32]) ([y32] : List Int) h_ sl_30 ti_3 rfl rfl rfl (by decide) rfl (by kernel_rfl) rfl (fun q hq w h => Flat.inner _ _) (fun q hq b hb => (Flat.on _ _ hb).elim) rfl rfl) rfl fun v44 => gRn (onf fl_57_4 rfl<|.nl)<|gsr 4 ti_30 rfl (aO 0 rfl) rfl<|nK k43<|gF [0] rfl<|sK fun _ k46 => gRn (oM 1 rfl<|.nl)<|fun a47 w47 h47 => ?_; clear h32
    have h48 := h47.sel (L' := [_, _, _, _, _]) [1, 2, 3, 0, 4] rfl
    have hp49 := h48.sh.passL (Lp := [_, _, _])
    refine wl_ex (x_call h48 bd_22 rfl rfl rfl rfl rfl (dTake_b _ _ X tv nv32 nl32 dz32 c32 e32 _ hp49 hTl hcn32 ({ data := #[59] }))) (wanted_none rfl _) ?_
    rintro a50 w50 ⟨_, ⟨dz50, rfl, hs50⟩, hf50⟩
    have h50 : St _ K W a50 w50 _ [_, _, _, _, _] := ⟨hf50, h48.sh.backI (Lp := [_, _, _]) hs50⟩
    clear hf50 hs50 h48 hp49
    refine gG h50<|nK k46<|gR<|uT<|fun a51 w51 h51 => x_ret0 (fn := Tryz.f85) rfl h51 <| .inr ⟨c32, e32, dz50, 7, y16.t, v44, [y32], nv32, nl32, ?_, hcn32, rfl, (by first | omega | (simp only [lens9] at *; omega)), (h51.sh.sel [0, 1, 2, 4, 3] rfl)⟩; clear h50
    exact (by simp only [asgP, casP, casR, stepP, andP, ne_lock, isL2, ↓reduceIte, Bool.false_eq_true, eq_self, Nat.add_sub_cancel, List.cons_append, List.nil_append, Bool.or_false, Bool.or_true, Bool.true_or, Bool.false_or, Bool.or_self, ne_3345, hr16, hr21, hr32, hya16, hc27, hc28])
   have hn26 : isT X ((i + 1) + 1) ({ data := #[99, 97, 115] }) = true := (Bool.not_eq_false' _).mp hb26
   have hc52 : isT X ((i + 1) + 1) ({ data := #[99, 97, 115] }) = true := (by assumption)
   have hl52 := isl_lt hc52
   have hc53 : isT X ((i + 1) + 1) ({ data := #[99, 97, 115] }) = true := (by assumption)
   have hl53 := isl_lt hc53
   refine gS<|hK k24<|sK fun _ k54 => gRn (oM 1 rfl<|onf fl_57_0 rfl<|.nl)<|gst 3 ti_3 rfl rfl rfl<|nK k54<|sK fun _ k56 => gRn (oM 1 rfl<|.nl)<|fun a57 w57 h57 => ?_
   have hp58 := h57.sh.passL (Lp := [_, _, _])
   refine wl_ex (x_call h57 bd_22 rfl rfl rfl rfl rfl (dTake_c _ _ X tv nv ((i + 1) + 1) d nl _ hp58 hTl ({ data := #[99, 97, 115] }))) (wanted_none rfl _) ?_
   rintro a59 w59 ⟨_, (⟨y59, hr59, hi59, rfl, hs59⟩ | ⟨c59, e59, dz59, hr59, hcn59, rfl, hs59⟩), hf59⟩
   ·skip
    have hl59 : ((i + 1) + 1) < X.T.length := hi59
    have h59 : St _ K W a59 w59 _ [_, _, _, _] := ⟨hf59, h57.sh.backI (Lp := [_, _, _]) hs59⟩
    clear hf59 hs59 h57 hp58
    refine gG h59<|nK k56<|sK fun _ k60 => gRn (oM 1 rfl<|.nl)<|fun a61 w61 h61 => ?_; clear h59
    have hp62 := h61.sh.passL (Lp := [_, _, _])
    refine wl_ex (x_call h61 bd_43 rfl rfl rfl rfl rfl (dOpen_c _ _ X tv nv (((i + 1) + 1) + 1) d nl _ hp62 hTl (by omega) ({ data := #[40] }))) (wanted_none rfl _) ?_
    rintro a63 w63 ⟨_, (⟨y63, hr63, hi63, rfl, hs63⟩ | ⟨c63, e63, dz63, hr63, hcn63, rfl, hs63⟩), hf63⟩
    ·skip
     have hl63 : (((i + 1) + 1) + 1) < X.T.length := hi63
     have hd63 := open_d20 hr63
     have h63 : St _ K W a63 w63 _ [_, _, _, _] := ⟨hf63, h61.sh.backI (Lp := [_, _, _]) hs63⟩
     clear hf63 hs63 h61 hp62
     refine gG h63<|nK k60<|sK fun _ k64 => gRn (oM 1 rfl<|.nl)<|gP (fun _ _ h_ => xCl h_ bd_21 rfl (dAt_c g _ _ _ _ _ _ _ ((((i + 1) + 1) + 1) + 1) _ (h_.sh.blk 0 rfl) (h_.sh.own 2 rfl))) rfl<|gRn (oM 1 rfl<|.nl)<|nK k64<|gF [0, 1, 6] rfl<|sK fun _ k66 => gRn (oM 1 rfl<|.nl)<|fun a67 w67 h67 => ?_; clear h63
     have hp68 := h67.sh.passL (Lp := [_, _, _])
     refine wl_ex (x_call h67 bd_41 rfl rfl rfl rfl rfl (dName_c _ _ X tv nv ((((i + 1) + 1) + 1) + 1) (d + 1) nl _ hp68 hTl)) (wanted_none rfl _) ?_
     rintro a69 w69 ⟨_, (⟨y69, hr69, hi69, rfl, hs69⟩ | ⟨c69, e69, dz69, hr69, hcn69, rfl, hs69⟩), hf69⟩
     ·skip
      have hl69 : ((((i + 1) + 1) + 1) + 1) < X.T.length := hi69
      have hya69 := name_at hr69
      have h69 : St _ K W a69 w69 _ [_, _, _, _] := ⟨hf69, h67.sh.backI (Lp := [_, _, _]) hs69⟩
      clear hf69 hs69 h67 hp68
      refine gG h69<|gRn (oM 1 rfl<|.nl)<|nK k66<|sK fun _ k70 => gRn (oM 3 rfl<|oV (r_build (cs := [.int .i64 16, .int .i64 0, .int .i64 (atT X ((((i + 1) + 1) + 1) + 1)), .string y69.t, (.slice none 0 0)]) rfl rfl (by kernel_rfl)) rfl<|.nl)<|fun a71 w71 h71 => ?_; clear h69
      have h73 := h71.nil (α := Int) 3
      clear h71
      have h74 := h73.sel (L' := [_, _, _, _, _]) [1, 2, 3, 0, 4] rfl
      have hp75 := h74.sh.passL (Lp := [_, _, _, _])
      refine wl_ex (x_call h74 bd_24 rfl rfl rfl rfl rfl (dNode_c _ _ X tv nv nl (((((i + 1) + 1) + 1) + 1) + 1) _ _ _ _ 16 0 (atT X ((((i + 1) + 1) + 1) + 1)) y69.t (⟨.slice none 0 0, []⟩ : Ls Int) hp75 (by first | omega | (simp only [lens9]; omega)))) (wanted_none rfl _) ?_
      rintro a76 w76 ⟨_, ⟨nv76, rfl, hs76⟩, hf76⟩
      have hm76 : (nl ++ [(⟨16, 0, (atT X ((((i + 1) + 1) + 1) + 1)), y69.t, (⟨.slice none 0 0, []⟩ : Ls Int)⟩ : NdL)]).length = nl.length + 1 := (by simp only [lens9])
      have hr76 : putP (⟨16, 0, (atT X ((((i + 1) + 1) + 1) + 1)), y69.t, []⟩ : Nd) ⟨(((((i + 1) + 1) + 1) + 1) + 1), (d + 1), nl.map NdL.nd⟩ = .ok (((nl.length : Nat) : Int), ⟨(((((i + 1) + 1) + 1) + 1) + 1), (d + 1), (nl ++ [(⟨16, 0, (atT X ((((i + 1) + 1) + 1) + 1)), y69.t, (⟨.slice none 0 0, []⟩ : Ls Int)⟩ : NdL)]).map NdL.nd⟩) := put_eq (x := (⟨16, 0, (atT X ((((i + 1) + 1) + 1) + 1)), y69.t, (⟨.slice none 0 0, []⟩ : Ls Int)⟩ : NdL))
      have h76 : St _ K W a76 w76 _ [_, _, _, _] := ⟨hf76, h74.sh.backI (Lp := [_, _, _, _]) hs76⟩
      clear hf76 hs76 h74 hp75
      refine gG h76<|gRn (oM 1 rfl<|.nl)<|nK k70<|sK fun _ k77 => gRn (oM 1 rfl<|.nl)<|fun a78 w78 h78 => ?_; clear h76
      have hp79 := h78.sh.passL (Lp := [_, _, _])
      refine wl_ex (x_call h78 bd_22 rfl rfl rfl rfl rfl (dTake_c _ _ X tv nv76 (((((i + 1) + 1) + 1) + 1) + 1) (d + 1) (nl ++ [(⟨16, 0, (atT X ((((i + 1) + 1) + 1) + 1)), y69.t, (⟨.slice none 0 0, []⟩ : Ls Int)⟩ : NdL)]) _ hp79 hTl ({ data := #[44] }))) (wanted_none rfl _) ?_
      rintro a80 w80 ⟨_, (⟨y80, hr80, hi80, rfl, hs80⟩ | ⟨c80, e80, dz80, hr80, hcn80, rfl, hs80⟩), hf80⟩
      ·skip
       have hl80 : (((((i + 1) + 1) + 1) + 1) + 1) < X.T.length := hi80
       have h80 : St _ K W a80 w80 _ [_, _, _, _] := ⟨hf80, h78.sh.backI (Lp := [_, _, _]) hs80⟩
       clear hf80 hs80 h78 hp79
       refine gG h80<|nK k77<|sK fun _ k81 => gRn (oM 1 rfl<|.nl)<|fun a82 w82 h82 => ?_; clear h80
       have hp83 := h82.sh.passL (Lp := [_, _, _])
       refine wl_ex (x_call h82 bd_83 rfl rfl rfl rfl rfl ((ih f (by omega)).ex 0 (by omega) _ _ tv nv76 ((((((i + 1) + 1) + 1) + 1) + 1) + 1) (d + 1) (nl ++ [(⟨16, 0, (atT X ((((i + 1) + 1) + 1) + 1)), y69.t, (⟨.slice none 0 0, []⟩ : Ls Int)⟩ : NdL)]) _ hp83 hTl (by omega) (by omega) (by first | omega | (simp only [lens9] at *; omega)) (by omega) (show 20 * (X.T.length - ((((((i + 1) + 1) + 1) + 1) + 1) + 1)) + (3 + (5 - 0)) ≤ f by omega))) (wanted_none rfl _) ?_
       rintro a84 w84 ⟨_, (⟨y84, i84, nv84, nl84, hr84, rfl, hs84⟩ | ⟨c84, e84, dz84, y84, nv84, nl84, hr84, hcn84, rfl, hq984, hs84⟩), hf84⟩
       ·skip
        have hv84 := adv_parse (X := X) f (.expr 0) ⟨((((((i + 1) + 1) + 1) + 1) + 1) + 1), (d + 1), (nl ++ [(⟨16, 0, (atT X ((((i + 1) + 1) + 1) + 1)), y69.t, (⟨.slice none 0 0, []⟩ : Ls Int)⟩ : NdL)]).map NdL.nd⟩ (fun h => by cases h) _ _ hr84; simp only [minT, dT, qT, List.length_map] at hv84
        have h84 : St _ K W a84 w84 _ [_, _, _, _] := ⟨hf84, h82.sh.backI (Lp := [_, _, _]) hs84⟩
        clear hf84 hs84 h82 hp83
        refine gG h84<|gRn (oM 1 rfl<|.nl)<|nK k81<|sK fun _ k85 => gRn (oM 1 rfl<|.nl)<|fun a86 w86 h86 => ?_; clear h84
        have hp87 := h86.sh.passL (Lp := [_, _, _])
        refine wl_ex (x_call h86 bd_22 rfl rfl rfl rfl rfl (dTake_c _ _ X tv nv84 i84 (d + 1) nl84 _ hp87 hTl ({ data := #[44] }))) (wanted_none rfl _) ?_
        rintro a88 w88 ⟨_, (⟨y88, hr88, hi88, rfl, hs88⟩ | ⟨c88, e88, dz88, hr88, hcn88, rfl, hs88⟩), hf88⟩
        ·skip
         have hl88 : i84 < X.T.length := hi88
         have h88 : St _ K W a88 w88 _ [_, _, _, _] := ⟨hf88, h86.sh.backI (Lp := [_, _, _]) hs88⟩
         clear hf88 hs88 h86 hp87
         refine gG h88<|nK k85<|sK fun _ k89 => gRn (oM 1 rfl<|.nl)<|fun a90 w90 h90 => ?_; clear h88
         have hp91 := h90.sh.passL (Lp := [_, _, _])
         refine wl_ex (x_call h90 bd_83 rfl rfl rfl rfl rfl ((ih f (by omega)).ex 0 (by omega) _ _ tv nv84 (i84 + 1) (d + 1) nl84 _ hp91 hTl (by omega) (by omega) (by first | omega | (simp only [lens9] at *; omega)) (by omega) (show 20 * (X.T.length - (i84 + 1)) + (3 + (5 - 0)) ≤ f by omega))) (wanted_none rfl _) ?_
         rintro a92 w92 ⟨_, (⟨y92, i92, nv92, nl92, hr92, rfl, hs92⟩ | ⟨c92, e92, dz92, y92, nv92, nl92, hr92, hcn92, rfl, hq992, hs92⟩), hf92⟩
         ·skip
          have hv92 := adv_parse (X := X) f (.expr 0) ⟨(i84 + 1), (d + 1), nl84.map NdL.nd⟩ (fun h => by cases h) _ _ hr92; simp only [minT, dT, qT, List.length_map] at hv92
          have h92 : St _ K W a92 w92 _ [_, _, _, _] := ⟨hf92, h90.sh.backI (Lp := [_, _, _]) hs92⟩
          clear hf92 hs92 h90 hp91
          refine gG h92<|gRn (oM 1 rfl<|.nl)<|nK k89<|sK fun _ k93 => gRn (oM 1 rfl<|.nl)<|fun a94 w94 h94 => ?_; clear h92
          have hp95 := h94.sh.passL (Lp := [_, _, _])
          refine wl_ex (x_call h94 bd_45 rfl rfl rfl rfl rfl (dShut_c _ _ X tv nv92 i92 (d + 1) nl92 _ hp95 hTl (by omega) ({ data := #[41] }))) (wanted_none rfl _) ?_
          rintro a96 w96 ⟨_, (⟨y96, hr96, hi96, rfl, hs96⟩ | ⟨c96, e96, dz96, hr96, hcn96, rfl, hs96⟩), hf96⟩
          ·skip
           have hl96 : i92 < X.T.length := hi96
           have h96 : St _ K W a96 w96 _ [_, _, _, _] := ⟨hf96, h94.sh.backI (Lp := [_, _, _]) hs96⟩
           clear hf96 hs96 h94 hp95
           refine gG h96<|nK k93<|sK fun _ k97 => gRn (oM 1 rfl<|.nl)<|fun a98 w98 h98 => ?_; clear h96
           have hp99 := h98.sh.passL (Lp := [_, _, _])
           refine wl_ex (x_call h98 bd_22 rfl rfl rfl rfl rfl (dTake_c _ _ X tv nv92 (i92 + 1) d nl92 _ hp99 hTl ({ data := #[59] }))) (wanted_none rfl _) ?_
           rintro a100 w100 ⟨_, (⟨y100, hr100, hi100, rfl, hs100⟩ | ⟨c100, e100, dz100, hr100, hcn100, rfl, hs100⟩), hf100⟩
           ·skip
            have hl100 : (i92 + 1) < X.T.length := hi100
            have h100 : St _ K W a100 w100 _ [_, _, _, _] := ⟨hf100, h98.sh.backI (Lp := [_, _, _]) hs100⟩
            clear hf100 hs100 h98 hp99
            refine gG h100<|nK k97<|gL<|gRn (oM 4 rfl<|.nl)<|gE1 (fun _ _ h_ => x_lit (n := 3) (cs := [.int .i64 ((nl.length : Nat) : Int), .int .i64 y84, .int .i64 y92]) ([((nl.length : Nat) : Int), y84, y92] : List Int) h_ sl_30 ti_3 rfl rfl rfl (by decide) rfl (by kernel_rfl) rfl (fun q hq w h => Flat.inner _ _) (fun q hq b hb => (Flat.on _ _ hb).elim) rfl rfl) rfl fun v101 => gRn (onf fl_57_4 rfl<|.nl)<|gsr 4 ti_30 rfl (aO 0 rfl) rfl<|nN<|fun a103 w103 h103 => ?_; clear h100
            try simp only [Exit.then, Exit.inBlock, if_true]
            refine x_end0 (fn := Tryz.f85) rfl h103 <| .inl ⟨8, y16.t, v101, [((nl.length : Nat) : Int), y84, y92], ((i92 + 1) + 1), nv92, nl92, ?_, ⟨(by first | omega | (simp only [lens9] at *; omega)), by omega⟩, rfl, (h103.sh.sel [1, 2, 3, 4, 0] rfl)⟩
            exact (by simp only [asgP, casP, casR, stepP, andP, ne_lock, isL2, ↓reduceIte, Bool.false_eq_true, eq_self, Nat.add_sub_cancel, List.cons_append, List.nil_append, Bool.or_false, Bool.or_true, Bool.true_or, Bool.false_or, Bool.or_self, ne_3345, hr16, hr21, hr59, hr63, hr69, hr76, hr80, hr84, hr88, hr92, hr96, hr100, hya16, hc52, hc53, hya69])
           have h100 : St _ K W a100 w100 _ [_, _, _, _] := ⟨hf100, h98.sh.backI (Lp := [_, _, _]) hs100⟩
           clear hf100 hs100 h98 hp99
           refine gG h100<|nK k97<|gL<|gRn (oM 4 rfl<|.nl)<|gE1 (fun _ _ h_ => x_lit (n := 3) (cs := [.int .i64 ((nl.length : Nat) : Int), .int .i64 y84, .int .i64 y92]) ([((nl.length : Nat) : Int), y84, y92] : List Int) h_ sl_30 ti_3 rfl rfl rfl (by decide) rfl (by kernel_rfl) rfl (fun q hq w h => Flat.inner _ _) (fun q hq b hb => (Flat.on _ _ hb).elim) rfl rfl) rfl fun v104 => gRn (onf fl_57_4 rfl<|.nl)<|gsr 4 ti_30 rfl (aO 0 rfl) rfl<|nN<|fun a106 w106 h106 => ?_; clear h100
           try simp only [Exit.then, Exit.inBlock, if_true]
           refine x_end0 (fn := Tryz.f85) rfl h106 <| .inr ⟨c100, e100, dz100, 8, y16.t, v104, [((nl.length : Nat) : Int), y84, y92], nv92, nl92, ?_, hcn100, rfl, (by first | omega | (simp only [lens9] at *; omega)), (h106.sh.sel [1, 2, 3, 4, 0] rfl)⟩
           exact (by simp only [asgP, casP, casR, stepP, andP, ne_lock, isL2, ↓reduceIte, Bool.false_eq_true, eq_self, Nat.add_sub_cancel, List.cons_append, List.nil_append, Bool.or_false, Bool.or_true, Bool.true_or, Bool.false_or, Bool.or_self, ne_3345, hr16, hr21, hr59, hr63, hr69, hr76, hr80, hr84, hr88, hr92, hr96, hr100, hya16, hc52, hc53, hya69])
          have h96 : St _ K W a96 w96 _ [_, _, _, _] := ⟨hf96, h94.sh.backI (Lp := [_, _, _]) hs96⟩
          clear hf96 hs96 h94 hp95
          refine gG h96<|nK k93<|sK fun _ k107 => gRn (oM 1 rfl<|.nl)<|fun a108 w108 h108 => ?_; clear h96
          have hp109 := h108.sh.passL (Lp := [_, _, _])
          refine wl_ex (x_call h108 bd_22 rfl rfl rfl rfl rfl (dTake_b _ _ X tv nv92 nl92 dz96 c96 e96 _ hp109 hTl hcn96 ({ data := #[59] }))) (wanted_none rfl _) ?_
          rintro a110 w110 ⟨_, ⟨dz110, rfl, hs110⟩, hf110⟩
          have h110 : St _ K W a110 w110 _ [_, _, _, _] := ⟨hf110, h108.sh.backI (Lp := [_, _, _]) hs110⟩
          clear hf110 hs110 h108 hp109
          refine gG h110<|nK k107<|gL<|gRn (oM 4 rfl<|.nl)<|gE1 (fun _ _ h_ => x_lit (n := 3) (cs := [.int .i64 ((nl.length : Nat) : Int), .int .i64 y84, .int .i64 y92]) ([((nl.length : Nat) : Int), y84, y92] : List Int) h_ sl_30 ti_3 rfl rfl rfl (by decide) rfl (by kernel_rfl) rfl (fun q hq w h => Flat.inner _ _) (fun q hq b hb => (Flat.on _ _ hb).elim) rfl rfl) rfl fun v111 => gRn (onf fl_57_4 rfl<|.nl)<|gsr 4 ti_30 rfl (aO 0 rfl) rfl<|nN<|fun a113 w113 h113 => ?_; clear h110
          try simp only [Exit.then, Exit.inBlock, if_true]
          refine x_end0 (fn := Tryz.f85) rfl h113 <| .inr ⟨c96, e96, dz110, 8, y16.t, v111, [((nl.length : Nat) : Int), y84, y92], nv92, nl92, ?_, hcn96, rfl, (by first | omega | (simp only [lens9] at *; omega)), (h113.sh.sel [1, 2, 3, 4, 0] rfl)⟩
          exact (by simp only [asgP, casP, casR, stepP, andP, ne_lock, isL2, ↓reduceIte, Bool.false_eq_true, eq_self, Nat.add_sub_cancel, List.cons_append, List.nil_append, Bool.or_false, Bool.or_true, Bool.true_or, Bool.false_or, Bool.or_self, ne_3345, hr16, hr21, hr59, hr63, hr69, hr76, hr80, hr84, hr88, hr92, hr96, hya16, hc52, hc53, hya69])
         have hq92 : nl92.length ≤ 10000 + 10 * f := hq992
         have h92 : St _ K W a92 w92 _ [_, _, _, _] := ⟨hf92, h90.sh.backI (Lp := [_, _, _]) hs92⟩
         clear hf92 hs92 h90 hp91
         refine gG h92<|gRn (oM 1 rfl<|.nl)<|nK k89<|sK fun _ k114 => gRn (oM 1 rfl<|.nl)<|fun a115 w115 h115 => ?_; clear h92
         have hp116 := h115.sh.passL (Lp := [_, _, _])
         refine wl_ex (x_call h115 bd_45 rfl rfl rfl rfl rfl (dShut_b _ _ X tv nv92 nl92 dz92 c92 e92 _ hp116 hTl hcn92 ({ data := #[41] }))) (wanted_none rfl _) ?_
         rintro a117 w117 ⟨_, ⟨dz117, rfl, hs117⟩, hf117⟩
         have h117 : St _ K W a117 w117 _ [_, _, _, _] := ⟨hf117, h115.sh.backI (Lp := [_, _, _]) hs117⟩
         clear hf117 hs117 h115 hp116
         refine gG h117<|nK k114<|sK fun _ k118 => gRn (oM 1 rfl<|.nl)<|fun a119 w119 h119 => ?_; clear h117
         have hp120 := h119.sh.passL (Lp := [_, _, _])
         refine wl_ex (x_call h119 bd_22 rfl rfl rfl rfl rfl (dTake_b _ _ X tv nv92 nl92 dz117 c92 e92 _ hp120 hTl hcn92 ({ data := #[59] }))) (wanted_none rfl _) ?_
         rintro a121 w121 ⟨_, ⟨dz121, rfl, hs121⟩, hf121⟩
         have h121 : St _ K W a121 w121 _ [_, _, _, _] := ⟨hf121, h119.sh.backI (Lp := [_, _, _]) hs121⟩
         clear hf121 hs121 h119 hp120
         refine gG h121<|nK k118<|gL<|gRn (oM 4 rfl<|.nl)<|gE1 (fun _ _ h_ => x_lit (n := 3) (cs := [.int .i64 ((nl.length : Nat) : Int), .int .i64 y84, .int .i64 y92]) ([((nl.length : Nat) : Int), y84, y92] : List Int) h_ sl_30 ti_3 rfl rfl rfl (by decide) rfl (by kernel_rfl) rfl (fun q hq w h => Flat.inner _ _) (fun q hq b hb => (Flat.on _ _ hb).elim) rfl rfl) rfl fun v122 => gRn (onf fl_57_4 rfl<|.nl)<|gsr 4 ti_30 rfl (aO 0 rfl) rfl<|nN<|fun a124 w124 h124 => ?_; clear h121
         try simp only [Exit.then, Exit.inBlock, if_true]
         refine x_end0 (fn := Tryz.f85) rfl h124 <| .inr ⟨c92, e92, dz121, 8, y16.t, v122, [((nl.length : Nat) : Int), y84, y92], nv92, nl92, ?_, hcn92, rfl, (by first | omega | (simp only [lens9] at *; omega)), (h124.sh.sel [1, 2, 3, 4, 0] rfl)⟩
         exact (by simp only [asgP, casP, casR, stepP, andP, ne_lock, isL2, ↓reduceIte, Bool.false_eq_true, eq_self, Nat.add_sub_cancel, List.cons_append, List.nil_append, Bool.or_false, Bool.or_true, Bool.true_or, Bool.false_or, Bool.or_self, ne_3345, hr16, hr21, hr59, hr63, hr69, hr76, hr80, hr84, hr88, hr92, hya16, hc52, hc53, hya69])
        have h88 : St _ K W a88 w88 _ [_, _, _, _] := ⟨hf88, h86.sh.backI (Lp := [_, _, _]) hs88⟩
        clear hf88 hs88 h86 hp87
        refine gG h88<|nK k85<|sK fun _ k125 => gRn (oM 1 rfl<|.nl)<|fun a126 w126 h126 => ?_; clear h88
        have hp127 := h126.sh.passL (Lp := [_, _, _])
        refine wl_ex (x_call h126 bd_83 rfl rfl rfl rfl rfl ((badExpr _ 0 (by omega)) _ _ tv nv84 nl84 dz88 c88 e88 _ hp127 hTl hcn88 (by first | omega | (simp only [lens9] at *; omega)))) (wanted_none rfl _) ?_
        rintro a128 w128 ⟨_, ⟨dz128, y128, nv128, nl128, rfl, hq9128, hs128⟩, hf128⟩
        have hq128 : nl128.length ≤ nl84.length + 1 := hq9128
        have h128 : St _ K W a128 w128 _ [_, _, _, _] := ⟨hf128, h126.sh.backI (Lp := [_, _, _]) hs128⟩
        clear hf128 hs128 h126 hp127
        refine gG h128<|gRn (oM 1 rfl<|.nl)<|nK k125<|sK fun _ k129 => gRn (oM 1 rfl<|.nl)<|fun a130 w130 h130 => ?_; clear h128
        have hp131 := h130.sh.passL (Lp := [_, _, _])
        refine wl_ex (x_call h130 bd_45 rfl rfl rfl rfl rfl (dShut_b _ _ X tv nv128 nl128 dz128 c88 e88 _ hp131 hTl hcn88 ({ data := #[41] }))) (wanted_none rfl _) ?_
        rintro a132 w132 ⟨_, ⟨dz132, rfl, hs132⟩, hf132⟩
        have h132 : St _ K W a132 w132 _ [_, _, _, _] := ⟨hf132, h130.sh.backI (Lp := [_, _, _]) hs132⟩
        clear hf132 hs132 h130 hp131
        refine gG h132<|nK k129<|sK fun _ k133 => gRn (oM 1 rfl<|.nl)<|fun a134 w134 h134 => ?_; clear h132
        have hp135 := h134.sh.passL (Lp := [_, _, _])
        refine wl_ex (x_call h134 bd_22 rfl rfl rfl rfl rfl (dTake_b _ _ X tv nv128 nl128 dz132 c88 e88 _ hp135 hTl hcn88 ({ data := #[59] }))) (wanted_none rfl _) ?_
        rintro a136 w136 ⟨_, ⟨dz136, rfl, hs136⟩, hf136⟩
        have h136 : St _ K W a136 w136 _ [_, _, _, _] := ⟨hf136, h134.sh.backI (Lp := [_, _, _]) hs136⟩
        clear hf136 hs136 h134 hp135
        refine gG h136<|nK k133<|gL<|gRn (oM 4 rfl<|.nl)<|gE1 (fun _ _ h_ => x_lit (n := 3) (cs := [.int .i64 ((nl.length : Nat) : Int), .int .i64 y84, .int .i64 y128]) ([((nl.length : Nat) : Int), y84, y128] : List Int) h_ sl_30 ti_3 rfl rfl rfl (by decide) rfl (by kernel_rfl) rfl (fun q hq w h => Flat.inner _ _) (fun q hq b hb => (Flat.on _ _ hb).elim) rfl rfl) rfl fun v137 => gRn (onf fl_57_4 rfl<|.nl)<|gsr 4 ti_30 rfl (aO 0 rfl) rfl<|nN<|fun a139 w139 h139 => ?_; clear h136
        try simp only [Exit.then, Exit.inBlock, if_true]
        refine x_end0 (fn := Tryz.f85) rfl h139 <| .inr ⟨c88, e88, dz136, 8, y16.t, v137, [((nl.length : Nat) : Int), y84, y128], nv128, nl128, ?_, hcn88, rfl, (by first | omega | (simp only [lens9] at *; omega)), (h139.sh.sel [1, 2, 3, 4, 0] rfl)⟩
        exact (by simp only [asgP, casP, casR, stepP, andP, ne_lock, isL2, ↓reduceIte, Bool.false_eq_true, eq_self, Nat.add_sub_cancel, List.cons_append, List.nil_append, Bool.or_false, Bool.or_true, Bool.true_or, Bool.false_or, Bool.or_self, ne_3345, hr16, hr21, hr59, hr63, hr69, hr76, hr80, hr84, hr88, hya16, hc52, hc53, hya69])
       have hq84 : nl84.length ≤ 10000 + 10 * f := hq984
       have h84 : St _ K W a84 w84 _ [_, _, _, _] := ⟨hf84, h82.sh.backI (Lp := [_, _, _]) hs84⟩
       clear hf84 hs84 h82 hp83
       refine gG h84<|gRn (oM 1 rfl<|.nl)<|nK k81<|sK fun _ k140 => gRn (oM 1 rfl<|.nl)<|fun a141 w141 h141 => ?_; clear h84
       have hp142 := h141.sh.passL (Lp := [_, _, _])
       refine wl_ex (x_call h141 bd_22 rfl rfl rfl rfl rfl (dTake_b _ _ X tv nv84 nl84 dz84 c84 e84 _ hp142 hTl hcn84 ({ data := #[44] }))) (wanted_none rfl _) ?_
       rintro a143 w143 ⟨_, ⟨dz143, rfl, hs143⟩, hf143⟩
       have h143 : St _ K W a143 w143 _ [_, _, _, _] := ⟨hf143, h141.sh.backI (Lp := [_, _, _]) hs143⟩
       clear hf143 hs143 h141 hp142
       refine gG h143<|nK k140<|sK fun _ k144 => gRn (oM 1 rfl<|.nl)<|fun a145 w145 h145 => ?_; clear h143
       have hp146 := h145.sh.passL (Lp := [_, _, _])
       refine wl_ex (x_call h145 bd_83 rfl rfl rfl rfl rfl ((badExpr _ 0 (by omega)) _ _ tv nv84 nl84 dz143 c84 e84 _ hp146 hTl hcn84 (by first | omega | (simp only [lens9] at *; omega)))) (wanted_none rfl _) ?_
       rintro a147 w147 ⟨_, ⟨dz147, y147, nv147, nl147, rfl, hq9147, hs147⟩, hf147⟩
       have hq147 : nl147.length ≤ nl84.length + 1 := hq9147
       have h147 : St _ K W a147 w147 _ [_, _, _, _] := ⟨hf147, h145.sh.backI (Lp := [_, _, _]) hs147⟩
       clear hf147 hs147 h145 hp146
       refine gG h147<|gRn (oM 1 rfl<|.nl)<|nK k144<|sK fun _ k148 => gRn (oM 1 rfl<|.nl)<|fun a149 w149 h149 => ?_; clear h147
       have hp150 := h149.sh.passL (Lp := [_, _, _])
       refine wl_ex (x_call h149 bd_45 rfl rfl rfl rfl rfl (dShut_b _ _ X tv nv147 nl147 dz147 c84 e84 _ hp150 hTl hcn84 ({ data := #[41] }))) (wanted_none rfl _) ?_
       rintro a151 w151 ⟨_, ⟨dz151, rfl, hs151⟩, hf151⟩
       have h151 : St _ K W a151 w151 _ [_, _, _, _] := ⟨hf151, h149.sh.backI (Lp := [_, _, _]) hs151⟩
       clear hf151 hs151 h149 hp150
       refine gG h151<|nK k148<|sK fun _ k152 => gRn (oM 1 rfl<|.nl)<|fun a153 w153 h153 => ?_; clear h151
       have hp154 := h153.sh.passL (Lp := [_, _, _])
       refine wl_ex (x_call h153 bd_22 rfl rfl rfl rfl rfl (dTake_b _ _ X tv nv147 nl147 dz151 c84 e84 _ hp154 hTl hcn84 ({ data := #[59] }))) (wanted_none rfl _) ?_
       rintro a155 w155 ⟨_, ⟨dz155, rfl, hs155⟩, hf155⟩
       have h155 : St _ K W a155 w155 _ [_, _, _, _] := ⟨hf155, h153.sh.backI (Lp := [_, _, _]) hs155⟩
       clear hf155 hs155 h153 hp154
       refine gG h155<|nK k152<|gL<|gRn (oM 4 rfl<|.nl)<|gE1 (fun _ _ h_ => x_lit (n := 3) (cs := [.int .i64 ((nl.length : Nat) : Int), .int .i64 y84, .int .i64 y147]) ([((nl.length : Nat) : Int), y84, y147] : List Int) h_ sl_30 ti_3 rfl rfl rfl (by decide) rfl (by kernel_rfl) rfl (fun q hq w h => Flat.inner _ _) (fun q hq b hb => (Flat.on _ _ hb).elim) rfl rfl) rfl fun v156 => gRn (onf fl_57_4 rfl<|.nl)<|gsr 4 ti_30 rfl (aO 0 rfl) rfl<|nN<|fun a158 w158 h158 => ?_; clear h155
       try simp only [Exit.then, Exit.inBlock, if_true]
       refine x_end0 (fn := Tryz.f85) rfl h158 <| .inr ⟨c84, e84, dz155, 8, y16.t, v156, [((nl.length : Nat) : Int), y84, y147], nv147, nl147, ?_, hcn84, rfl, (by first | omega | (simp only [lens9] at *; omega)), (h158.sh.sel [1, 2, 3, 4, 0] rfl)⟩
       exact (by simp only [asgP, casP, casR, stepP, andP, ne_lock, isL2, ↓reduceIte, Bool.false_eq_true, eq_self, Nat.add_sub_cancel, List.cons_append, List.nil_append, Bool.or_false, Bool.or_true, Bool.true_or, Bool.false_or, Bool.or_self, ne_3345, hr16, hr21, hr59, hr63, hr69, hr76, hr80, hr84, hya16, hc52, hc53, hya69])
      have h80 : St _ K W a80 w80 _ [_, _, _, _] := ⟨hf80, h78.sh.backI (Lp := [_, _, _]) hs80⟩
      clear hf80 hs80 h78 hp79
      refine gG h80<|nK k77<|sK fun _ k159 => gRn (oM 1 rfl<|.nl)<|fun a160 w160 h160 => ?_; clear h80
      have hp161 := h160.sh.passL (Lp := [_, _, _])
      refine wl_ex (x_call h160 bd_83 rfl rfl rfl rfl rfl ((badExpr _ 0 (by omega)) _ _ tv nv76 (nl ++ [(⟨16, 0, (atT X ((((i + 1) + 1) + 1) + 1)), y69.t, (⟨.slice none 0 0, []⟩ : Ls Int)⟩ : NdL)]) dz80 c80 e80 _ hp161 hTl hcn80 (by first | omega | (simp only [lens9] at *; omega)))) (wanted_none rfl _) ?_
      rintro a162 w162 ⟨_, ⟨dz162, y162, nv162, nl162, rfl, hq9162, hs162⟩, hf162⟩
      have hq162 : nl162.length ≤ (nl ++ [(⟨16, 0, (atT X ((((i + 1) + 1) + 1) + 1)), y69.t, (⟨.slice none 0 0, []⟩ : Ls Int)⟩ : NdL)]).length + 1 := hq9162
      have h162 : St _ K W a162 w162 _ [_, _, _, _] := ⟨hf162, h160.sh.backI (Lp := [_, _, _]) hs162⟩
      clear hf162 hs162 h160 hp161
      refine gG h162<|gRn (oM 1 rfl<|.nl)<|nK k159<|sK fun _ k163 => gRn (oM 1 rfl<|.nl)<|fun a164 w164 h164 => ?_; clear h162
      have hp165 := h164.sh.passL (Lp := [_, _, _])
      refine wl_ex (x_call h164 bd_22 rfl rfl rfl rfl rfl (dTake_b _ _ X tv nv162 nl162 dz162 c80 e80 _ hp165 hTl hcn80 ({ data := #[44] }))) (wanted_none rfl _) ?_
      rintro a166 w166 ⟨_, ⟨dz166, rfl, hs166⟩, hf166⟩
      have h166 : St _ K W a166 w166 _ [_, _, _, _] := ⟨hf166, h164.sh.backI (Lp := [_, _, _]) hs166⟩
      clear hf166 hs166 h164 hp165
      refine gG h166<|nK k163<|sK fun _ k167 => gRn (oM 1 rfl<|.nl)<|fun a168 w168 h168 => ?_; clear h166
      have hp169 := h168.sh.passL (Lp := [_, _, _])
      refine wl_ex (x_call h168 bd_83 rfl rfl rfl rfl rfl ((badExpr _ 0 (by omega)) _ _ tv nv162 nl162 dz166 c80 e80 _ hp169 hTl hcn80 (by first | omega | (simp only [lens9] at *; omega)))) (wanted_none rfl _) ?_
      rintro a170 w170 ⟨_, ⟨dz170, y170, nv170, nl170, rfl, hq9170, hs170⟩, hf170⟩
      have hq170 : nl170.length ≤ nl162.length + 1 := hq9170
      have h170 : St _ K W a170 w170 _ [_, _, _, _] := ⟨hf170, h168.sh.backI (Lp := [_, _, _]) hs170⟩
      clear hf170 hs170 h168 hp169
      refine gG h170<|gRn (oM 1 rfl<|.nl)<|nK k167<|sK fun _ k171 => gRn (oM 1 rfl<|.nl)<|fun a172 w172 h172 => ?_; clear h170
      have hp173 := h172.sh.passL (Lp := [_, _, _])
      refine wl_ex (x_call h172 bd_45 rfl rfl rfl rfl rfl (dShut_b _ _ X tv nv170 nl170 dz170 c80 e80 _ hp173 hTl hcn80 ({ data := #[41] }))) (wanted_none rfl _) ?_
      rintro a174 w174 ⟨_, ⟨dz174, rfl, hs174⟩, hf174⟩
      have h174 : St _ K W a174 w174 _ [_, _, _, _] := ⟨hf174, h172.sh.backI (Lp := [_, _, _]) hs174⟩
      clear hf174 hs174 h172 hp173
      refine gG h174<|nK k171<|sK fun _ k175 => gRn (oM 1 rfl<|.nl)<|fun a176 w176 h176 => ?_; clear h174
      have hp177 := h176.sh.passL (Lp := [_, _, _])
      refine wl_ex (x_call h176 bd_22 rfl rfl rfl rfl rfl (dTake_b _ _ X tv nv170 nl170 dz174 c80 e80 _ hp177 hTl hcn80 ({ data := #[59] }))) (wanted_none rfl _) ?_
      rintro a178 w178 ⟨_, ⟨dz178, rfl, hs178⟩, hf178⟩
      have h178 : St _ K W a178 w178 _ [_, _, _, _] := ⟨hf178, h176.sh.backI (Lp := [_, _, _]) hs178⟩
      clear hf178 hs178 h176 hp177
      refine gG h178<|nK k175<|gL<|gRn (oM 4 rfl<|.nl)<|gE1 (fun _ _ h_ => x_lit (n := 3) (cs := [.int .i64 ((nl.length : Nat) : Int), .int .i64 y162, .int .i64 y170]) ([((nl.length : Nat) : Int), y162, y170] : List Int) h_ sl_30 ti_3 rfl rfl rfl (by decide) rfl (by kernel_rfl) rfl (fun q hq w h => Flat.inner _ _) (fun q hq b hb => (Flat.on _ _ hb).elim) rfl rfl) rfl fun v179 => gRn (onf fl_57_4 rfl<|.nl)<|gsr 4 ti_30 rfl (aO 0 rfl) rfl<|nN<|fun a181 w181 h181 => ?_; clear h178
      try simp only [Exit.then, Exit.inBlock, if_true]
      refine x_end0 (fn := Tryz.f85) rfl h181 <| .inr ⟨c80, e80, dz178, 8, y16.t, v179, [((nl.length : Nat) : Int), y162, y170], nv170, nl170, ?_, hcn80, rfl, (by first | omega | (simp only [lens9] at *; omega)), (h181.sh.sel [1, 2, 3, 4, 0] rfl)⟩
      exact (by simp only [asgP, casP, casR, stepP, andP, ne_lock, isL2, ↓reduceIte, Bool.false_eq_true, eq_self, Nat.add_sub_cancel, List.cons_append, List.nil_append, Bool.or_false, Bool.or_true, Bool.true_or, Bool.false_or, Bool.or_self, ne_3345, hr16, hr21, hr59, hr63, hr69, hr76, hr80, hya16, hc52, hc53, hya69])
     have h69 : St _ K W a69 w69 _ [_, _, _, _] := ⟨hf69, h67.sh.backI (Lp := [_, _, _]) hs69⟩
     clear hf69 hs69 h67 hp68
     refine gG h69<|gRn (oM 1 rfl<|.nl)<|nK k66<|sK fun _ k182 => gRn (oM 3 rfl<|oV (r_build (cs := [.int .i64 16, .int .i64 0, .int .i64 (atT X ((((i + 1) + 1) + 1) + 1)), .string ({ data := #[] }), (.slice none 0 0)]) rfl rfl (by kernel_rfl)) rfl<|.nl)<|fun a183 w183 h183 => ?_; clear h69
     have h185 := h183.nil (α := Int) 3
     clear h183
     have h186 := h185.sel (L' := [_, _, _, _, _]) [1, 2, 3, 0, 4] rfl
     have hp187 := h186.sh.passL (Lp := [_, _, _, _])
     refine wl_ex (x_call h186 bd_24 rfl rfl rfl rfl rfl (dNode_c _ _ X tv nv nl X.T.length _ _ _ _ 16 0 (atT X ((((i + 1) + 1) + 1) + 1)) ({ data := #[] }) (⟨.slice none 0 0, []⟩ : Ls Int) hp187 (by first | omega | (simp only [lens9]; omega)))) (wanted_none rfl _) ?_
     rintro a188 w188 ⟨_, ⟨nv188, rfl, hs188⟩, hf188⟩
     have hm188 : (nl ++ [(⟨16, 0, (atT X ((((i + 1) + 1) + 1) + 1)), { data := #[] }, (⟨.slice none 0 0, []⟩ : Ls Int)⟩ : NdL)]).length = nl.length + 1 := (by simp only [lens9])
     have h188 : St _ K W a188 w188 _ [_, _, _, _] := ⟨hf188, h186.sh.backI (Lp := [_, _, _, _]) hs188⟩
     clear hf188 hs188 h186 hp187
     refine gG h188<|gRn (oM 1 rfl<|.nl)<|nK k182<|sK fun _ k189 => gRn (oM 1 rfl<|.nl)<|fun a190 w190 h190 => ?_; clear h188
     have hp191 := h190.sh.passL (Lp := [_, _, _])
     refine wl_ex (x_call h190 bd_22 rfl rfl rfl rfl rfl (dTake_b _ _ X tv nv188 (nl ++ [(⟨16, 0, (atT X ((((i + 1) + 1) + 1) + 1)), { data := #[] }, (⟨.slice none 0 0, []⟩ : Ls Int)⟩ : NdL)]) dz69 c69 e69 _ hp191 hTl hcn69 ({ data := #[44] }))) (wanted_none rfl _) ?_
     rintro a192 w192 ⟨_, ⟨dz192, rfl, hs192⟩, hf192⟩
     have h192 : St _ K W a192 w192 _ [_, _, _, _] := ⟨hf192, h190.sh.backI (Lp := [_, _, _]) hs192⟩
     clear hf192 hs192 h190 hp191
     refine gG h192<|nK k189<|sK fun _ k193 => gRn (oM 1 rfl<|.nl)<|fun a194 w194 h194 => ?_; clear h192
     have hp195 := h194.sh.passL (Lp := [_, _, _])
     refine wl_ex (x_call h194 bd_83 rfl rfl rfl rfl rfl ((badExpr _ 0 (by omega)) _ _ tv nv188 (nl ++ [(⟨16, 0, (atT X ((((i + 1) + 1) + 1) + 1)), { data := #[] }, (⟨.slice none 0 0, []⟩ : Ls Int)⟩ : NdL)]) dz192 c69 e69 _ hp195 hTl hcn69 (by first | omega | (simp only [lens9] at *; omega)))) (wanted_none rfl _) ?_
     rintro a196 w196 ⟨_, ⟨dz196, y196, nv196, nl196, rfl, hq9196, hs196⟩, hf196⟩
     have hq196 : nl196.length ≤ (nl ++ [(⟨16, 0, (atT X ((((i + 1) + 1) + 1) + 1)), { data := #[] }, (⟨.slice none 0 0, []⟩ : Ls Int)⟩ : NdL)]).length + 1 := hq9196
     have h196 : St _ K W a196 w196 _ [_, _, _, _] := ⟨hf196, h194.sh.backI (Lp := [_, _, _]) hs196⟩
     clear hf196 hs196 h194 hp195
     refine gG h196<|gRn (oM 1 rfl<|.nl)<|nK k193<|sK fun _ k197 => gRn (oM 1 rfl<|.nl)<|fun a198 w198 h198 => ?_; clear h196
     have hp199 := h198.sh.passL (Lp := [_, _, _])
     refine wl_ex (x_call h198 bd_22 rfl rfl rfl rfl rfl (dTake_b _ _ X tv nv196 nl196 dz196 c69 e69 _ hp199 hTl hcn69 ({ data := #[44] }))) (wanted_none rfl _) ?_
     rintro a200 w200 ⟨_, ⟨dz200, rfl, hs200⟩, hf200⟩
     have h200 : St _ K W a200 w200 _ [_, _, _, _] := ⟨hf200, h198.sh.backI (Lp := [_, _, _]) hs200⟩
     clear hf200 hs200 h198 hp199
     refine gG h200<|nK k197<|sK fun _ k201 => gRn (oM 1 rfl<|.nl)<|fun a202 w202 h202 => ?_; clear h200
     have hp203 := h202.sh.passL (Lp := [_, _, _])
     refine wl_ex (x_call h202 bd_83 rfl rfl rfl rfl rfl ((badExpr _ 0 (by omega)) _ _ tv nv196 nl196 dz200 c69 e69 _ hp203 hTl hcn69 (by first | omega | (simp only [lens9] at *; omega)))) (wanted_none rfl _) ?_
     rintro a204 w204 ⟨_, ⟨dz204, y204, nv204, nl204, rfl, hq9204, hs204⟩, hf204⟩
     have hq204 : nl204.length ≤ nl196.length + 1 := hq9204
     have h204 : St _ K W a204 w204 _ [_, _, _, _] := ⟨hf204, h202.sh.backI (Lp := [_, _, _]) hs204⟩
     clear hf204 hs204 h202 hp203
     refine gG h204<|gRn (oM 1 rfl<|.nl)<|nK k201<|sK fun _ k205 => gRn (oM 1 rfl<|.nl)<|fun a206 w206 h206 => ?_; clear h204
     have hp207 := h206.sh.passL (Lp := [_, _, _])
     refine wl_ex (x_call h206 bd_45 rfl rfl rfl rfl rfl (dShut_b _ _ X tv nv204 nl204 dz204 c69 e69 _ hp207 hTl hcn69 ({ data := #[41] }))) (wanted_none rfl _) ?_
     rintro a208 w208 ⟨_, ⟨dz208, rfl, hs208⟩, hf208⟩
     have h208 : St _ K W a208 w208 _ [_, _, _, _] := ⟨hf208, h206.sh.backI (Lp := [_, _, _]) hs208⟩
     clear hf208 hs208 h206 hp207
     refine gG h208<|nK k205<|sK fun _ k209 => gRn (oM 1 rfl<|.nl)<|fun a210 w210 h210 => ?_; clear h208
     have hp211 := h210.sh.passL (Lp := [_, _, _])
     refine wl_ex (x_call h210 bd_22 rfl rfl rfl rfl rfl (dTake_b _ _ X tv nv204 nl204 dz208 c69 e69 _ hp211 hTl hcn69 ({ data := #[59] }))) (wanted_none rfl _) ?_
     rintro a212 w212 ⟨_, ⟨dz212, rfl, hs212⟩, hf212⟩
     have h212 : St _ K W a212 w212 _ [_, _, _, _] := ⟨hf212, h210.sh.backI (Lp := [_, _, _]) hs212⟩
     clear hf212 hs212 h210 hp211
     refine gG h212<|nK k209<|gL<|gRn (oM 4 rfl<|.nl)<|gE1 (fun _ _ h_ => x_lit (n := 3) (cs := [.int .i64 ((nl.length : Nat) : Int), .int .i64 y196, .int .i64 y204]) ([((nl.length : Nat) : Int), y196, y204] : List Int) h_ sl_30 ti_3 rfl rfl rfl (by decide) rfl (by kernel_rfl) rfl (fun q hq w h => Flat.inner _ _) (fun q hq b hb => (Flat.on _ _ hb).elim) rfl rfl) rfl fun v213 => gRn (onf fl_57_4 rfl<|.nl)<|gsr 4 ti_30 rfl (aO 0 rfl) rfl<|nN<|fun a215 w215 h215 => ?_; clear h212
     try simp only [Exit.then, Exit.inBlock, if_true]
     refine x_end0 (fn := Tryz.f85) rfl h215 <| .inr ⟨c69, e69, dz212, 8, y16.t, v213, [((nl.length : Nat) : Int), y196, y204], nv204, nl204, ?_, hcn69, rfl, (by first | omega | (simp only [lens9] at *; omega)), (h215.sh.sel [1, 2, 3, 4, 0] rfl)⟩
     exact (by simp only [asgP, casP, casR, stepP, andP, ne_lock, isL2, ↓reduceIte, Bool.false_eq_true, eq_self, Nat.add_sub_cancel, List.cons_append, List.nil_append, Bool.or_false, Bool.or_true, Bool.true_or, Bool.false_or, Bool.or_self, ne_3345, hr16, hr21, hr59, hr63, hr69, hya16, hc52, hc53])
    have h63 : St _ K W a63 w63 _ [_, _, _, _] := ⟨hf63, h61.sh.backI (Lp := [_, _, _]) hs63⟩
    clear hf63 hs63 h61 hp62
    refine gG h63<|nK k60<|sK fun _ k216 => gRn (oM 1 rfl<|.nl)<|gP (fun _ _ h_ => xCl h_ bd_21 rfl (dAt_c g _ _ _ _ _ _ _ X.T.length _ (h_.sh.blk 0 rfl) (h_.sh.own 2 rfl))) rfl<|gRn (oM 1 rfl<|.nl)<|nK k216<|gF [0, 1, 6] rfl<|sK fun _ k218 => gRn (oM 1 rfl<|.nl)<|fun a219 w219 h219 => ?_; clear h63
    have hp220 := h219.sh.passL (Lp := [_, _, _])
    refine wl_ex (x_call h219 bd_41 rfl rfl rfl rfl rfl (dName_b _ _ X tv nv nl dz63 c63 e63 _ hp220 hTl hcn63)) (wanted_none rfl _) ?_
    rintro a221 w221 ⟨_, ⟨dz221, rfl, hs221⟩, hf221⟩
    have h221 : St _ K W a221 w221 _ [_, _, _, _] := ⟨hf221, h219.sh.backI (Lp := [_, _, _]) hs221⟩
    clear hf221 hs221 h219 hp220
    refine gG h221<|gRn (oM 1 rfl<|.nl)<|nK k218<|sK fun _ k222 => gRn (oM 3 rfl<|oV (r_build (cs := [.int .i64 16, .int .i64 0, .int .i64 (atT X X.T.length), .string ({ data := #[] }), (.slice none 0 0)]) rfl rfl (by kernel_rfl)) rfl<|.nl)<|fun a223 w223 h223 => ?_; clear h221
    have h225 := h223.nil (α := Int) 3
    clear h223
    have h226 := h225.sel (L' := [_, _, _, _, _]) [1, 2, 3, 0, 4] rfl
    have hp227 := h226.sh.passL (Lp := [_, _, _, _])
    refine wl_ex (x_call h226 bd_24 rfl rfl rfl rfl rfl (dNode_c _ _ X tv nv nl X.T.length _ _ _ _ 16 0 (atT X X.T.length) ({ data := #[] }) (⟨.slice none 0 0, []⟩ : Ls Int) hp227 (by first | omega | (simp only [lens9]; omega)))) (wanted_none rfl _) ?_
    rintro a228 w228 ⟨_, ⟨nv228, rfl, hs228⟩, hf228⟩
    have hm228 : (nl ++ [(⟨16, 0, (atT X X.T.length), { data := #[] }, (⟨.slice none 0 0, []⟩ : Ls Int)⟩ : NdL)]).length = nl.length + 1 := (by simp only [lens9])
    have h228 : St _ K W a228 w228 _ [_, _, _, _] := ⟨hf228, h226.sh.backI (Lp := [_, _, _, _]) hs228⟩
    clear hf228 hs228 h226 hp227
    refine gG h228<|gRn (oM 1 rfl<|.nl)<|nK k222<|sK fun _ k229 => gRn (oM 1 rfl<|.nl)<|fun a230 w230 h230 => ?_; clear h228
    have hp231 := h230.sh.passL (Lp := [_, _, _])
    refine wl_ex (x_call h230 bd_22 rfl rfl rfl rfl rfl (dTake_b _ _ X tv nv228 (nl ++ [(⟨16, 0, (atT X X.T.length), { data := #[] }, (⟨.slice none 0 0, []⟩ : Ls Int)⟩ : NdL)]) dz221 c63 e63 _ hp231 hTl hcn63 ({ data := #[44] }))) (wanted_none rfl _) ?_
    rintro a232 w232 ⟨_, ⟨dz232, rfl, hs232⟩, hf232⟩
    have h232 : St _ K W a232 w232 _ [_, _, _, _] := ⟨hf232, h230.sh.backI (Lp := [_, _, _]) hs232⟩
    clear hf232 hs232 h230 hp231
    refine gG h232<|nK k229<|sK fun _ k233 => gRn (oM 1 rfl<|.nl)<|fun a234 w234 h234 => ?_; clear h232
    have hp235 := h234.sh.passL (Lp := [_, _, _])
    refine wl_ex (x_call h234 bd_83 rfl rfl rfl rfl rfl ((badExpr _ 0 (by omega)) _ _ tv nv228 (nl ++ [(⟨16, 0, (atT X X.T.length), { data := #[] }, (⟨.slice none 0 0, []⟩ : Ls Int)⟩ : NdL)]) dz232 c63 e63 _ hp235 hTl hcn63 (by first | omega | (simp only [lens9] at *; omega)))) (wanted_none rfl _) ?_
    rintro a236 w236 ⟨_, ⟨dz236, y236, nv236, nl236, rfl, hq9236, hs236⟩, hf236⟩
    have hq236 : nl236.length ≤ (nl ++ [(⟨16, 0, (atT X X.T.length), { data := #[] }, (⟨.slice none 0 0, []⟩ : Ls Int)⟩ : NdL)]).length + 1 := hq9236
    have h236 : St _ K W a236 w236 _ [_, _, _, _] := ⟨hf236, h234.sh.backI (Lp := [_, _, _]) hs236⟩
    clear hf236 hs236 h234 hp235
    refine gG h236<|gRn (oM 1 rfl<|.nl)<|nK k233<|sK fun _ k237 => gRn (oM 1 rfl<|.nl)<|fun a238 w238 h238 => ?_; clear h236
    have hp239 := h238.sh.passL (Lp := [_, _, _])
    refine wl_ex (x_call h238 bd_22 rfl rfl rfl rfl rfl (dTake_b _ _ X tv nv236 nl236 dz236 c63 e63 _ hp239 hTl hcn63 ({ data := #[44] }))) (wanted_none rfl _) ?_
    rintro a240 w240 ⟨_, ⟨dz240, rfl, hs240⟩, hf240⟩
    have h240 : St _ K W a240 w240 _ [_, _, _, _] := ⟨hf240, h238.sh.backI (Lp := [_, _, _]) hs240⟩
    clear hf240 hs240 h238 hp239
    refine gG h240<|nK k237<|sK fun _ k241 => gRn (oM 1 rfl<|.nl)<|fun a242 w242 h242 => ?_; clear h240
    have hp243 := h242.sh.passL (Lp := [_, _, _])
    refine wl_ex (x_call h242 bd_83 rfl rfl rfl rfl rfl ((badExpr _ 0 (by omega)) _ _ tv nv236 nl236 dz240 c63 e63 _ hp243 hTl hcn63 (by first | omega | (simp only [lens9] at *; omega)))) (wanted_none rfl _) ?_
    rintro a244 w244 ⟨_, ⟨dz244, y244, nv244, nl244, rfl, hq9244, hs244⟩, hf244⟩
    have hq244 : nl244.length ≤ nl236.length + 1 := hq9244
    have h244 : St _ K W a244 w244 _ [_, _, _, _] := ⟨hf244, h242.sh.backI (Lp := [_, _, _]) hs244⟩
    clear hf244 hs244 h242 hp243
    refine gG h244<|gRn (oM 1 rfl<|.nl)<|nK k241<|sK fun _ k245 => gRn (oM 1 rfl<|.nl)<|fun a246 w246 h246 => ?_; clear h244
    have hp247 := h246.sh.passL (Lp := [_, _, _])
    refine wl_ex (x_call h246 bd_45 rfl rfl rfl rfl rfl (dShut_b _ _ X tv nv244 nl244 dz244 c63 e63 _ hp247 hTl hcn63 ({ data := #[41] }))) (wanted_none rfl _) ?_
    rintro a248 w248 ⟨_, ⟨dz248, rfl, hs248⟩, hf248⟩
    have h248 : St _ K W a248 w248 _ [_, _, _, _] := ⟨hf248, h246.sh.backI (Lp := [_, _, _]) hs248⟩
    clear hf248 hs248 h246 hp247
    refine gG h248<|nK k245<|sK fun _ k249 => gRn (oM 1 rfl<|.nl)<|fun a250 w250 h250 => ?_; clear h248
    have hp251 := h250.sh.passL (Lp := [_, _, _])
    refine wl_ex (x_call h250 bd_22 rfl rfl rfl rfl rfl (dTake_b _ _ X tv nv244 nl244 dz248 c63 e63 _ hp251 hTl hcn63 ({ data := #[59] }))) (wanted_none rfl _) ?_
    rintro a252 w252 ⟨_, ⟨dz252, rfl, hs252⟩, hf252⟩
    have h252 : St _ K W a252 w252 _ [_, _, _, _] := ⟨hf252, h250.sh.backI (Lp := [_, _, _]) hs252⟩
    clear hf252 hs252 h250 hp251
    refine gG h252<|nK k249<|gL<|gRn (oM 4 rfl<|.nl)<|gE1 (fun _ _ h_ => x_lit (n := 3) (cs := [.int .i64 ((nl.length : Nat) : Int), .int .i64 y236, .int .i64 y244]) ([((nl.length : Nat) : Int), y236, y244] : List Int) h_ sl_30 ti_3 rfl rfl rfl (by decide) rfl (by kernel_rfl) rfl (fun q hq w h => Flat.inner _ _) (fun q hq b hb => (Flat.on _ _ hb).elim) rfl rfl) rfl fun v253 => gRn (onf fl_57_4 rfl<|.nl)<|gsr 4 ti_30 rfl (aO 0 rfl) rfl<|nN<|fun a255 w255 h255 => ?_; clear h252
    try simp only [Exit.then, Exit.inBlock, if_true]
    refine x_end0 (fn := Tryz.f85) rfl h255 <| .inr ⟨c63, e63, dz252, 8, y16.t, v253, [((nl.length : Nat) : Int), y236, y244], nv244, nl244, ?_, hcn63, rfl, (by first | omega | (simp only [lens9] at *; omega)), (h255.sh.sel [1, 2, 3, 4, 0] rfl)⟩
    exact (by simp only [asgP, casP, casR, stepP, andP, ne_lock, isL2, ↓reduceIte, Bool.false_eq_true, eq_self, Nat.add_sub_cancel, List.cons_append, List.nil_append, Bool.or_false, Bool.or_true, Bool.true_or, Bool.false_or, Bool.or_self, ne_3345, hr16, hr21, hr59, hr63, hya16, hc52, hc53])
   exact absurd (hr59.symm.trans (take_ok (by assumption))) (by simp)
  have h21 : St _ K W a21 w21 _ [_, _, _, _] := ⟨hf21, h19.sh.backI (Lp := [_, _, _]) hs21⟩
  clear hf21 hs21 h19 hp20
  refine gG h21<|nK k18<|sK fun _ k256 => gRn (oM 1 rfl<|.nl)<|gP (fun _ _ h_ => xCl h_ bd_19 rfl (dIs_c g _ _ _ _ _ _ _ X.T.length _ (h_.sh.blk 0 rfl) (h_.sh.own 2 rfl) ({ data := #[99, 97, 115] }))) rfl<|gRn (oM 1 rfl<|.nl)<|nK k256<|gK fun _ k258 => sG (oM 1 rfl<|ont rfl<|.nl)<|gcT rfl (by rw [isT_len1]; rfl)<|sK fun _ k260 => gRn (oM 1 rfl<|.nl)<|fun a261 w261 h261 => ?_; clear h21
  have hp262 := h261.sh.passL (Lp := [_, _, _])
  refine wl_ex (x_call h261 bd_83 rfl rfl rfl rfl rfl ((badExpr _ 0 (by omega)) _ _ tv nv nl dz21 c21 e21 _ hp262 hTl hcn21 (by first | omega | (simp only [lens9] at *; omega)))) (wanted_none rfl _) ?_
  rintro a263 w263 ⟨_, ⟨dz263, y263, nv263, nl263, rfl, hq9263, hs263⟩, hf263⟩
  have hq263 : nl263.length ≤ nl.length + 1 := hq9263
  have h263 : St _ K W a263 w263 _ [_, _, _, _] := ⟨hf263, h261.sh.backI (Lp := [_, _, _]) hs263⟩
  clear hf263 hs263 h261 hp262
  refine gG h263<|gRn (oM 1 rfl<|.nl)<|nK k260<|sK fun _ k264 => gRn (oM 2 rfl<|.nl)<|gE1 (fun _ _ h_ => x_lit (n := 1) (cs := [.int .i64 y263]) ([y263] : List Int) h_ sl_30 ti_3 rfl rfl rfl (by decide) rfl (by kernel_rfl) rfl (fun q hq w h => Flat.inner _ _) (fun q hq b hb => (Flat.on _ _ hb).elim) rfl rfl) rfl fun v265 => gRn (onf fl_57_4 rfl<|.nl)<|gsr 4 ti_30 rfl (aO 0 rfl) rfl<|nK k264<|gF [0] rfl<|sK fun _ k267 => gRn (oM 1 rfl<|.nl)<|fun a268 w268 h268 => ?_; clear h263
  have h269 := h268.sel (L' := [_, _, _, _, _]) [1, 2, 3, 0, 4] rfl
  have hp270 := h269.sh.passL (Lp := [_, _, _])
  refine wl_ex (x_call h269 bd_22 rfl rfl rfl rfl rfl (dTake_b _ _ X tv nv263 nl263 dz263 c21 e21 _ hp270 hTl hcn21 ({ data := #[59] }))) (wanted_none rfl _) ?_
  rintro a271 w271 ⟨_, ⟨dz271, rfl, hs271⟩, hf271⟩
  have h271 : St _ K W a271 w271 _ [_, _, _, _, _] := ⟨hf271, h269.sh.backI (Lp := [_, _, _]) hs271⟩
  clear hf271 hs271 h269 hp270
  refine gG h271<|nK k267<|gR<|uT<|fun a272 w272 h272 => x_ret0 (fn := Tryz.f85) rfl h272 <| .inr ⟨c21, e21, dz271, 7, y16.t, v265, [y263], nv263, nl263, ?_, hcn21, rfl, (by first | omega | (simp only [lens9] at *; omega)), (h272.sh.sel [0, 1, 2, 4, 3] rfl)⟩; clear h271
  exact (by simp only [asgP, casP, casR, stepP, andP, ne_lock, isL2, ↓reduceIte, Bool.false_eq_true, eq_self, Nat.add_sub_cancel, List.cons_append, List.nil_append, Bool.or_false, Bool.or_true, Bool.true_or, Bool.false_or, Bool.or_self, ne_3345, hr16, hr21, hya16])
 have h16 : St _ K W a16 w16 _ [_, _, _, _] := ⟨hf16, h14.sh.backI (Lp := [_, _, _]) hs16⟩
 clear hf16 hs16 h14 hp15
 refine gG h16<|gRn (onf fl_57_3 rfl<|.nl)<|gst 3 ti_9 rfl rfl rfl<|nK k13<|sK fun _ k274 => gRn (oM 1 rfl<|.nl)<|fun a275 w275 h275 => ?_; clear h16
 have hp276 := h275.sh.passL (Lp := [_, _, _])
 refine wl_ex (x_call h275 bd_22 rfl rfl rfl rfl rfl (dTake_b _ _ X tv nv nl dz16 c16 e16 _ hp276 hTl hcn16 ({ data := #[61] }))) (wanted_none rfl _) ?_
 rintro a277 w277 ⟨_, ⟨dz277, rfl, hs277⟩, hf277⟩
 have h277 : St _ K W a277 w277 _ [_, _, _, _] := ⟨hf277, h275.sh.backI (Lp := [_, _, _]) hs277⟩
 clear hf277 hs277 h275 hp276
 refine gG h277<|nK k274<|sK fun _ k278 => gRn (oM 1 rfl<|.nl)<|gP (fun _ _ h_ => xCl h_ bd_19 rfl (dIs_c g _ _ _ _ _ _ _ X.T.length _ (h_.sh.blk 0 rfl) (h_.sh.own 2 rfl) ({ data := #[99, 97, 115] }))) rfl<|gRn (oM 1 rfl<|.nl)<|nK k278<|gK fun _ k280 => sG (oM 1 rfl<|ont rfl<|.nl)<|gcT rfl (by rw [isT_len1]; rfl)<|sK fun _ k282 => gRn (oM 1 rfl<|.nl)<|fun a283 w283 h283 => ?_; clear h277
 have hp284 := h283.sh.passL (Lp := [_, _, _])
 refine wl_ex (x_call h283 bd_83 rfl rfl rfl rfl rfl ((badExpr _ 0 (by omega)) _ _ tv nv nl dz277 c16 e16 _ hp284 hTl hcn16 (by first | omega | (simp only [lens9] at *; omega)))) (wanted_none rfl _) ?_
 rintro a285 w285 ⟨_, ⟨dz285, y285, nv285, nl285, rfl, hq9285, hs285⟩, hf285⟩
 have hq285 : nl285.length ≤ nl.length + 1 := hq9285
 have h285 : St _ K W a285 w285 _ [_, _, _, _] := ⟨hf285, h283.sh.backI (Lp := [_, _, _]) hs285⟩
 clear hf285 hs285 h283 hp284
 refine gG h285<|gRn (oM 1 rfl<|.nl)<|nK k282<|sK fun _ k286 => gRn (oM 2 rfl<|.nl)<|gE1 (fun _ _ h_ => x_lit (n := 1) (cs := [.int .i64 y285]) ([y285] : List Int) h_ sl_30 ti_3 rfl rfl rfl (by decide) rfl (by kernel_rfl) rfl (fun q hq w h => Flat.inner _ _) (fun q hq b hb => (Flat.on _ _ hb).elim) rfl rfl) rfl fun v287 => gRn (onf fl_57_4 rfl<|.nl)<|gsr 4 ti_30 rfl (aO 0 rfl) rfl<|nK k286<|gF [0] rfl<|sK fun _ k289 => gRn (oM 1 rfl<|.nl)<|fun a290 w290 h290 => ?_; clear h285
 have h291 := h290.sel (L' := [_, _, _, _, _]) [1, 2, 3, 0, 4] rfl
 have hp292 := h291.sh.passL (Lp := [_, _, _])
 refine wl_ex (x_call h291 bd_22 rfl rfl rfl rfl rfl (dTake_b _ _ X tv nv285 nl285 dz285 c16 e16 _ hp292 hTl hcn16 ({ data := #[59] }))) (wanted_none rfl _) ?_
 rintro a293 w293 ⟨_, ⟨dz293, rfl, hs293⟩, hf293⟩
 have h293 : St _ K W a293 w293 _ [_, _, _, _, _] := ⟨hf293, h291.sh.backI (Lp := [_, _, _]) hs293⟩
 clear hf293 hs293 h291 hp292
 refine gG h293<|nK k289<|gR<|uT<|fun a294 w294 h294 => x_ret0 (fn := Tryz.f85) rfl h294 <| .inr ⟨c16, e16, dz293, 7, { data := #[] }, v287, [y285], nv285, nl285, ?_, hcn16, rfl, (by first | omega | (simp only [lens9] at *; omega)), (h294.sh.sel [0, 1, 2, 4, 3] rfl)⟩; clear h293
 exact (by simp only [asgP, casP, casR, stepP, andP, ne_lock, isL2, ↓reduceIte, Bool.false_eq_true, eq_self, Nat.add_sub_cancel, List.cons_append, List.nil_append, Bool.or_false, Bool.or_true, Bool.true_or, Bool.false_or, Bool.or_self, ne_3345, hr16])

theorem dStmt_c (K : Nat → Prop) (g : Nat) (X : TE) (tv nv : Value) (i d : Nat) (nl : List NdL) (f : Nat)  (W : World) (hS : Sh K W W [.blk g 52 [tv, .int .i64 X.e, .int .i64 ((i : Nat) : Int), .int .i64 ((d : Nat) : Int), nv, .int .i64 0, .int .i64 0, .int .i64 0], .deep 57 (⟨nv, nl⟩ : Ls NdL), .own 81 (⟨tv, X.T⟩ : Ls Tok)]) (hTl : X.T.length ≤ 4000) (hd : d ≤ 20) (hi : i ≤ X.T.length) (hnl : nl.length ≤ 2 * i) (ih : ∀ f', f' ≤ f → AllD X f') (hTo : ∀ q, q < X.T.length → TokOK (nth X.T q)) (hfb : f + 1 ≤ 1000000) (hf : 20 * (X.T.length - i) + 10 ≤ f + 1) :
    Rets Tryz.prog 44 [.pointer (some ⟨g, 0, none⟩)] W (fun v w' => (∃ (a : Int) (i' : Nat) (nv' : Value) (nl' : List NdL), parseP X (f + 1) .stmt ⟨i, d, nl.map NdL.nd⟩ = .ok (a, ⟨i', d, nl'.map NdL.nd⟩) ∧ v = .int .i64 a ∧ Sh K W w' [.blk g 52 [tv, .int .i64 X.e, .int .i64 ((i' : Nat) : Int), .int .i64 ((d : Nat) : Int), nv', .int .i64 0, .int .i64 0, .int .i64 0], .deep 57 (⟨nv', nl'⟩ : Ls NdL), .own 81 (⟨tv, X.T⟩ : Ls Tok)]) ∨ ∃ (c a dz y : Int) (nv' : Value) (nl' : List NdL), parseP X (f + 1) .stmt ⟨i, d, nl.map NdL.nd⟩ = .error (c, a) ∧ ¬ c = 0 ∧ v = .int .i64 y ∧ nl'.length ≤ 10000 + 10 * (f + 1) ∧ Sh K W w' [.blk g 52 [tv, .int .i64 X.e, .int .i64 ((X.T.length : Nat) : Int), .int .i64 dz, nv', .int .i64 c, .int .i64 0, .int .i64 a], .deep 57 (⟨nv', nl'⟩ : Ls NdL), .own 81 (⟨tv, X.T⟩ : Ls Tok)]) := by
 refine gen Tryz.func44 Tryz.ntmps44 hS rfl fun a10 h10 => gG h10<|sG (oM 1 rfl<|.nl)<|sK fun _ k12 => gRn (oM 1 rfl<|.nl)<|gP (fun _ _ h_ => xCl h_ bd_21 rfl (dAt_c g _ _ _ _ _ _ _ i _ (h_.sh.blk 0 rfl) (h_.sh.own 2 rfl))) rfl<|gRn (oM 1 rfl<|.nl)<|nK k12<|sG (oM 1 rfl<|.nl)<|gK fun _ k15 => gK fun _ k16 => fun a18 w18 h18 => x_quiet (by kernel_rfl) (by kernel_rfl) h18 fun _ z19 => qQ h18.fr<|qRn (oM 1 rfl<|onfl 0 fl_52_2 ti_3 rfl rfl<|oM 1 rfl<|onfl 0 fl_52_0 ti_42 rfl rfl<|.nl)<|?_; clear h10
 have hl20 : X.T.length ≤ 140737488355328 := (h18.sh.own 2 rfl).len
 refine qRn (oln (n := X.T.length) sl_42 (aO 2 rfl) rfl<|oltN _ _ rfl<|oM 1 rfl<|.nl)<|?_
 rcases dsp (i < X.T.length) with ⟨hb21, hp21⟩ | ⟨hb21, hp21⟩
 ·skip
  refine qRn (oG hb21 (r_move rfl rfl) rfl<|oG hb21 (r_nil rfl rfl) rfl<|oG hb21 (r_fieldB (r := 0) fl_52_0 rfl rfl rfl) rfl<|oG hb21 (r_ldb (i := 0) ti_42 rfl rfl rfl rfl) rfl<|oG hb21 (r_move rfl rfl) rfl<|oG hb21 (r_nil rfl rfl) rfl<|oG hb21 (r_fieldB (r := 2) fl_52_2 rfl rfl rfl) rfl<|oG hb21 (r_ldb (i := 0) ti_3 rfl rfl rfl rfl) rfl<|oG hb21 (r_ixN (s := (⟨tv, X.T⟩ : Ls Tok)) (q := i) sl_42 ti_81 rfl rfl rfl (fun w h => (h.own 2 rfl)) (show i < X.T.length from om9)) rfl<|oG hb21 (r_fieldE (r := 0) fl_81_0 rfl rfl rfl) rfl<|oG hb21 (r_lde (s := (⟨tv, X.T⟩ : Ls Tok)) (i := i) (v := .int .i64 ((nth X.T i).k)) ti_3 rfl rfl rfl (fun w h => (h.own 2 rfl)) (show i < X.T.length from om9) (Nat.le_of_ble_eq_true rfl) rfl) rfl<|oG hb21 (r_eqlI (p := (nth X.T i).k) (q := 2) rfl rfl rfl) rfl<|opT hb21 rfl<|.nl)<|qN z19<|?_; clear h18
  refine hK k16<|gF [0, 3, 4, 39] rfl<|gcd rfl (fun hb34 hp34 => ?_) fun hb34 hp34 => ?_
  ·skip
   have hl9 : i < X.T.length := (by assumption)
   have hk9 : (nth X.T i).k = 2 := (by assumption)
   refine rQ (oM 1 rfl<|onfl 0 fl_52_0 ti_42 rfl rfl<|oM 1 rfl<|onfl 0 fl_52_2 ti_3 rfl rfl<|oxN sl_42 ti_81 (aO 2 rfl) _ om9 rfl<|ofE fl_81_3 rfl<|olE (.string ((nth X.T i).t)) ti_9 (aO 2 rfl) om9 rfl<|oM 1 rfl<|.nl)<|hK k15<|sK fun _ k35 => gRn (oM 1 rfl<|oV (r_build (cs := [.int .i64 0, .int .i64 0, .int .i64 (atT X i), .string (⟨#[]⟩), (.slice none 0 0)]) rfl rfl (by kernel_rfl)) rfl<|.nl)<|gal ti_57 rfl fun b36 => gsw 0 ti_57 rfl rfl rfl<|nK k35<|gK fun _ k38 => sG (oM 1 rfl<|.nl)<|gB<|sG (oV (r_eqlStr (s := ((nth X.T i).t)) (t := ({ data := #[105, 110, 116] })) rfl rfl rfl) rfl<|oM 1 rfl<|.nl)<|gcd rfl (fun hb41 hp41 => ?_) fun hb41 hp41 => ?_
   ·skip
    have hc42 : isT X i ({ data := #[105, 110, 116] }) = true := (is1_t hl9 (.inl hk9)).trans (decide_eq_true (by assumption))
    refine sK fun _ k43 => gRn (oM 1 rfl<|.nl)<|fun a44 w44 h44 => ?_
    have h45 := h44.sel (L' := [_, _, _, _]) [1, 2, 3, 0] rfl
    have hp46 := h45.sh.passL (Lp := [_, _, _])
    refine wl_ex (x_call h45 bd_22 rfl rfl rfl rfl rfl (dTake_c _ _ X tv nv i d nl _ hp46 hTl ({ data := #[105, 110, 116] }))) (wanted_none rfl _) ?_
    rintro a47 w47 ⟨_, (⟨y47, hr47, hi47, rfl, hs47⟩ | ⟨c47, e47, dz47, hr47, hcn47, rfl, hs47⟩), hf47⟩
    ·skip
     have hl47 : i < X.T.length := hi47
     have h47 : St _ K W a47 w47 _ [_, _, _, _] := ⟨hf47, h45.sh.backI (Lp := [_, _, _]) hs47⟩
     clear hf47 hs47 h45 hp46
     refine gG h47<|nK k43<|sK fun _ k48 => gRn (ofB fl_57_0 rfl<|.nl)<|gst 3 ti_3 rfl rfl rfl<|nK k48<|sK fun _ k50 => gRn (oM 1 rfl<|.nl)<|fun a51 w51 h51 => ?_; clear h47
     have hp52 := h51.sh.passL (Lp := [_, _, _])
     refine wl_ex (x_call h51 bd_41 rfl rfl rfl rfl rfl (dName_c _ _ X tv nv (i + 1) d nl _ hp52 hTl)) (wanted_none rfl _) ?_
     rintro a53 w53 ⟨_, (⟨y53, hr53, hi53, rfl, hs53⟩ | ⟨c53, e53, dz53, hr53, hcn53, rfl, hs53⟩), hf53⟩
     ·skip
      have hl53 : (i + 1) < X.T.length := hi53
      have h53 : St _ K W a53 w53 _ [_, _, _, _] := ⟨hf53, h51.sh.backI (Lp := [_, _, _]) hs53⟩
      clear hf53 hs53 h51 hp52
      refine gG h53<|gRn (ofB fl_57_3 rfl<|.nl)<|gst 3 ti_9 rfl rfl rfl<|nK k50<|gF [0, 5] rfl<|sK fun _ k55 => gRn (oM 1 rfl<|.nl)<|fun a56 w56 h56 => ?_; clear h53
      have hp57 := h56.sh.passL (Lp := [_, _, _])
      refine wl_ex (x_call h56 bd_22 rfl rfl rfl rfl rfl (dTake_c _ _ X tv nv ((i + 1) + 1) d nl _ hp57 hTl ({ data := #[61] }))) (wanted_none rfl _) ?_
      rintro a58 w58 ⟨_, (⟨y58, hr58, hi58, rfl, hs58⟩ | ⟨c58, e58, dz58, hr58, hcn58, rfl, hs58⟩), hf58⟩
      ·skip
       have hl58 : ((i + 1) + 1) < X.T.length := hi58
       have h58 : St _ K W a58 w58 _ [_, _, _, _] := ⟨hf58, h56.sh.backI (Lp := [_, _, _]) hs58⟩
       clear hf58 hs58 h56 hp57
       refine gG h58<|nK k55<|sK fun _ k59 => gRn (oM 1 rfl<|.nl)<|fun a60 w60 h60 => ?_; clear h58
       have hp61 := h60.sh.passL (Lp := [_, _, _])
       refine wl_ex (x_call h60 bd_83 rfl rfl rfl rfl rfl ((ih f (by omega)).ex 0 (by omega) _ _ tv nv (((i + 1) + 1) + 1) d nl _ hp61 hTl (by omega) (by omega) (by first | omega | (simp only [lens9] at *; omega)) (by omega) (show 20 * (X.T.length - (((i + 1) + 1) + 1)) + (3 + (5 - 0)) ≤ f by omega))) (wanted_none rfl _) ?_
       rintro a62 w62 ⟨_, (⟨y62, i62, nv62, nl62, hr62, rfl, hs62⟩ | ⟨c62, e62, dz62, y62, nv62, nl62, hr62, hcn62, rfl, hq962, hs62⟩), hf62⟩
       ·skip
        have hv62 := adv_parse (X := X) f (.expr 0) ⟨(((i + 1) + 1) + 1), d, nl.map NdL.nd⟩ (fun h => by cases h) _ _ hr62; simp only [minT, dT, qT, List.length_map] at hv62
        have h62 : St _ K W a62 w62 _ [_, _, _, _] := ⟨hf62, h60.sh.backI (Lp := [_, _, _]) hs62⟩
        clear hf62 hs62 h60 hp61
        refine gG h62<|gRn (oM 1 rfl<|.nl)<|nK k59<|sK fun _ k63 => gRn (oM 1 rfl<|.nl)<|gE1 (fun _ _ h_ => x_lit (n := 1) (cs := [.int .i64 y62]) ([y62] : List Int) h_ sl_30 ti_3 rfl rfl rfl (by decide) rfl (by kernel_rfl) rfl (fun q hq w h => Flat.inner _ _) (fun q hq b hb => (Flat.on _ _ hb).elim) rfl rfl) rfl fun v64 => gRn (ofB fl_57_4 rfl<|.nl)<|gsr 4 ti_30 rfl (aO 0 rfl) rfl<|nK k63<|gL<|gRn (oM 1 rfl<|.nl)<|fun a66 w66 h66 => ?_; clear h62
        have h67 := h66.sel (L' := [_, _, _, _, _]) [1, 2, 3, 0, 4] rfl
        have hp68 := h67.sh.passL (Lp := [_, _, _])
        refine wl_ex (x_call h67 bd_22 rfl rfl rfl rfl rfl (dTake_c _ _ X tv nv62 i62 d nl62 _ hp68 hTl ({ data := #[59] }))) (wanted_none rfl _) ?_
        rintro a69 w69 ⟨_, (⟨y69, hr69, hi69, rfl, hs69⟩ | ⟨c69, e69, dz69, hr69, hcn69, rfl, hs69⟩), hf69⟩
        ·skip
         have hl69 : i62 < X.T.length := hi69
         have h69 : St _ K W a69 w69 _ [_, _, _, _, _] := ⟨hf69, h67.sh.backI (Lp := [_, _, _]) hs69⟩
         clear hf69 hs69 h67 hp68
         refine gG h69<|nK k38<|sK fun _ k70 => gRn (oM 1 rfl<|olw 4 ti_57 rfl rfl<|.nl)<|fun a71 w71 h71 => ?_; clear h69
         have hp72 := h71.sh.passL (Lp := [_, _, _, _])
         refine wl_ex (x_call h71 bd_24 rfl rfl rfl rfl rfl (dNode_c _ _ X tv nv62 nl62 (i62 + 1) _ _ _ _ 6 0 (atT X i) y53.t (⟨v64, [y62]⟩ : Ls Int) hp72 (by first | omega | (simp only [lens9]; omega)))) (wanted_none rfl _) ?_
         rintro a73 w73 ⟨_, ⟨nv73, rfl, hs73⟩, hf73⟩
         have hm73 : (nl62 ++ [(⟨6, 0, (atT X i), y53.t, (⟨v64, [y62]⟩ : Ls Int)⟩ : NdL)]).length = nl62.length + 1 := (by simp only [lens9])
         have hr73 : putP (⟨6, 0, (atT X i), y53.t, [y62]⟩ : Nd) ⟨(i62 + 1), d, nl62.map NdL.nd⟩ = .ok (((nl62.length : Nat) : Int), ⟨(i62 + 1), d, (nl62 ++ [(⟨6, 0, (atT X i), y53.t, (⟨v64, [y62]⟩ : Ls Int)⟩ : NdL)]).map NdL.nd⟩) := put_eq (x := (⟨6, 0, (atT X i), y53.t, (⟨v64, [y62]⟩ : Ls Int)⟩ : NdL))
         have h73 : St _ K W a73 w73 _ [_, _, _, _] := ⟨hf73, h71.sh.backI (Lp := [_, _, _, _]) hs73⟩
         clear hf73 hs73 h71 hp72
         refine gG h73<|gRn (oM 1 rfl<|.nl)<|nK k70<|gR<|fun a74 w74 h74 => x_ret1 (fn := Tryz.f44) (t := 2) rfl h74 rfl <| .inl ⟨((nl62.length : Nat) : Int), (i62 + 1), nv73, (nl62 ++ [(⟨6, 0, (atT X i), y53.t, (⟨v64, [y62]⟩ : Ls Int)⟩ : NdL)]), ?_, rfl, (h74.sh.sel [0, 1, 2] rfl)⟩; clear h73
         exact (by show stepP X _ _ _ = _; simp only [stepP, andP, ne_lock, isL2, ↓reduceIte, Bool.false_eq_true, eq_self, Nat.add_sub_cancel, List.cons_append, List.nil_append, Bool.or_false, Bool.or_true, Bool.true_or, Bool.false_or, Bool.or_self, ne_3345, hr47, hr53, hr58, hr62, hr69, hr73, hc42])
        have h69 : St _ K W a69 w69 _ [_, _, _, _, _] := ⟨hf69, h67.sh.backI (Lp := [_, _, _]) hs69⟩
        clear hf69 hs69 h67 hp68
        refine gG h69<|nK k38<|sK fun _ k75 => gRn (oM 1 rfl<|olw 4 ti_57 rfl rfl<|.nl)<|fun a76 w76 h76 => ?_; clear h69
        have hp77 := h76.sh.passL (Lp := [_, _, _, _])
        refine wl_ex (x_call h76 bd_24 rfl rfl rfl rfl rfl (dNode_c _ _ X tv nv62 nl62 X.T.length _ _ _ _ 6 0 (atT X i) y53.t (⟨v64, [y62]⟩ : Ls Int) hp77 (by first | omega | (simp only [lens9]; omega)))) (wanted_none rfl _) ?_
        rintro a78 w78 ⟨_, ⟨nv78, rfl, hs78⟩, hf78⟩
        have hm78 : (nl62 ++ [(⟨6, 0, (atT X i), y53.t, (⟨v64, [y62]⟩ : Ls Int)⟩ : NdL)]).length = nl62.length + 1 := (by simp only [lens9])
        have h78 : St _ K W a78 w78 _ [_, _, _, _] := ⟨hf78, h76.sh.backI (Lp := [_, _, _, _]) hs78⟩
        clear hf78 hs78 h76 hp77
        refine gG h78<|gRn (oM 1 rfl<|.nl)<|nK k75<|gR<|fun a79 w79 h79 => x_ret1 (fn := Tryz.f44) (t := 2) rfl h79 rfl <| .inr ⟨c69, e69, dz69, ((nl62.length : Nat) : Int), nv78, (nl62 ++ [(⟨6, 0, (atT X i), y53.t, (⟨v64, [y62]⟩ : Ls Int)⟩ : NdL)]), ?_, hcn69, rfl, (by first | omega | (simp only [lens9] at *; omega)), (h79.sh.sel [0, 1, 2] rfl)⟩; clear h78
        exact (by show stepP X _ _ _ = _; simp only [stepP, andP, ne_lock, isL2, ↓reduceIte, Bool.false_eq_true, eq_self, Nat.add_sub_cancel, List.cons_append, List.nil_append, Bool.or_false, Bool.or_true, Bool.true_or, Bool.false_or, Bool.or_self, ne_3345, hr47, hr53, hr58, hr62, hr69, hc42])
       have hq62 : nl62.length ≤ 10000 + 10 * f := hq962
       have h62 : St _ K W a62 w62 _ [_, _, _, _] := ⟨hf62, h60.sh.backI (Lp := [_, _, _]) hs62⟩
       clear hf62 hs62 h60 hp61
       refine gG h62<|gRn (oM 1 rfl<|.nl)<|nK k59<|sK fun _ k80 => gRn (oM 1 rfl<|.nl)<|gE1 (fun _ _ h_ => x_lit (n := 1) (cs := [.int .i64 y62]) ([y62] : List Int) h_ sl_30 ti_3 rfl rfl rfl (by decide) rfl (by kernel_rfl) rfl (fun q hq w h => Flat.inner _ _) (fun q hq b hb => (Flat.on _ _ hb).elim) rfl rfl) rfl fun v81 => gRn (ofB fl_57_4 rfl<|.nl)<|gsr 4 ti_30 rfl (aO 0 rfl) rfl<|nK k80<|gL<|gRn (oM 1 rfl<|.nl)<|fun a83 w83 h83 => ?_; clear h62
       have h84 := h83.sel (L' := [_, _, _, _, _]) [1, 2, 3, 0, 4] rfl
       have hp85 := h84.sh.passL (Lp := [_, _, _])
       refine wl_ex (x_call h84 bd_22 rfl rfl rfl rfl rfl (dTake_b _ _ X tv nv62 nl62 dz62 c62 e62 _ hp85 hTl hcn62 ({ data := #[59] }))) (wanted_none rfl _) ?_
       rintro a86 w86 ⟨_, ⟨dz86, rfl, hs86⟩, hf86⟩
       have h86 : St _ K W a86 w86 _ [_, _, _, _, _] := ⟨hf86, h84.sh.backI (Lp := [_, _, _]) hs86⟩
       clear hf86 hs86 h84 hp85
       refine gG h86<|nK k38<|sK fun _ k87 => gRn (oM 1 rfl<|olw 4 ti_57 rfl rfl<|.nl)<|fun a88 w88 h88 => ?_; clear h86
       have hp89 := h88.sh.passL (Lp := [_, _, _, _])
       refine wl_ex (x_call h88 bd_24 rfl rfl rfl rfl rfl (dNode_c _ _ X tv nv62 nl62 X.T.length _ _ _ _ 6 0 (atT X i) y53.t (⟨v81, [y62]⟩ : Ls Int) hp89 (by first | omega | (simp only [lens9]; omega)))) (wanted_none rfl _) ?_
       rintro a90 w90 ⟨_, ⟨nv90, rfl, hs90⟩, hf90⟩
       have hm90 : (nl62 ++ [(⟨6, 0, (atT X i), y53.t, (⟨v81, [y62]⟩ : Ls Int)⟩ : NdL)]).length = nl62.length + 1 := (by simp only [lens9])
       have h90 : St _ K W a90 w90 _ [_, _, _, _] := ⟨hf90, h88.sh.backI (Lp := [_, _, _, _]) hs90⟩
       clear hf90 hs90 h88 hp89
       refine gG h90<|gRn (oM 1 rfl<|.nl)<|nK k87<|gR<|fun a91 w91 h91 => x_ret1 (fn := Tryz.f44) (t := 2) rfl h91 rfl <| .inr ⟨c62, e62, dz86, ((nl62.length : Nat) : Int), nv90, (nl62 ++ [(⟨6, 0, (atT X i), y53.t, (⟨v81, [y62]⟩ : Ls Int)⟩ : NdL)]), ?_, hcn62, rfl, (by first | omega | (simp only [lens9] at *; omega)), (h91.sh.sel [0, 1, 2] rfl)⟩; clear h90
       exact (by show stepP X _ _ _ = _; simp only [stepP, andP, ne_lock, isL2, ↓reduceIte, Bool.false_eq_true, eq_self, Nat.add_sub_cancel, List.cons_append, List.nil_append, Bool.or_false, Bool.or_true, Bool.true_or, Bool.false_or, Bool.or_self, ne_3345, hr47, hr53, hr58, hr62, hc42])
      have h58 : St _ K W a58 w58 _ [_, _, _, _] := ⟨hf58, h56.sh.backI (Lp := [_, _, _]) hs58⟩
      clear hf58 hs58 h56 hp57
      refine gG h58<|nK k55<|sK fun _ k92 => gRn (oM 1 rfl<|.nl)<|fun a93 w93 h93 => ?_; clear h58
      have hp94 := h93.sh.passL (Lp := [_, _, _])
      refine wl_ex (x_call h93 bd_83 rfl rfl rfl rfl rfl ((badExpr _ 0 (by omega)) _ _ tv nv nl dz58 c58 e58 _ hp94 hTl hcn58 (by first | omega | (simp only [lens9] at *; omega)))) (wanted_none rfl _) ?_
      rintro a95 w95 ⟨_, ⟨dz95, y95, nv95, nl95, rfl, hq995, hs95⟩, hf95⟩
      have hq95 : nl95.length ≤ nl.length + 1 := hq995
      have h95 : St _ K W a95 w95 _ [_, _, _, _] := ⟨hf95, h93.sh.backI (Lp := [_, _, _]) hs95⟩
      clear hf95 hs95 h93 hp94
      refine gG h95<|gRn (oM 1 rfl<|.nl)<|nK k92<|sK fun _ k96 => gRn (oM 1 rfl<|.nl)<|gE1 (fun _ _ h_ => x_lit (n := 1) (cs := [.int .i64 y95]) ([y95] : List Int) h_ sl_30 ti_3 rfl rfl rfl (by decide) rfl (by kernel_rfl) rfl (fun q hq w h => Flat.inner _ _) (fun q hq b hb => (Flat.on _ _ hb).elim) rfl rfl) rfl fun v97 => gRn (ofB fl_57_4 rfl<|.nl)<|gsr 4 ti_30 rfl (aO 0 rfl) rfl<|nK k96<|gL<|gRn (oM 1 rfl<|.nl)<|fun a99 w99 h99 => ?_; clear h95
      have h100 := h99.sel (L' := [_, _, _, _, _]) [1, 2, 3, 0, 4] rfl
      have hp101 := h100.sh.passL (Lp := [_, _, _])
      refine wl_ex (x_call h100 bd_22 rfl rfl rfl rfl rfl (dTake_b _ _ X tv nv95 nl95 dz95 c58 e58 _ hp101 hTl hcn58 ({ data := #[59] }))) (wanted_none rfl _) ?_
      rintro a102 w102 ⟨_, ⟨dz102, rfl, hs102⟩, hf102⟩
      have h102 : St _ K W a102 w102 _ [_, _, _, _, _] := ⟨hf102, h100.sh.backI (Lp := [_, _, _]) hs102⟩
      clear hf102 hs102 h100 hp101
      refine gG h102<|nK k38<|sK fun _ k103 => gRn (oM 1 rfl<|olw 4 ti_57 rfl rfl<|.nl)<|fun a104 w104 h104 => ?_; clear h102
      have hp105 := h104.sh.passL (Lp := [_, _, _, _])
      refine wl_ex (x_call h104 bd_24 rfl rfl rfl rfl rfl (dNode_c _ _ X tv nv95 nl95 X.T.length _ _ _ _ 6 0 (atT X i) y53.t (⟨v97, [y95]⟩ : Ls Int) hp105 (by first | omega | (simp only [lens9]; omega)))) (wanted_none rfl _) ?_
      rintro a106 w106 ⟨_, ⟨nv106, rfl, hs106⟩, hf106⟩
      have hm106 : (nl95 ++ [(⟨6, 0, (atT X i), y53.t, (⟨v97, [y95]⟩ : Ls Int)⟩ : NdL)]).length = nl95.length + 1 := (by simp only [lens9])
      have h106 : St _ K W a106 w106 _ [_, _, _, _] := ⟨hf106, h104.sh.backI (Lp := [_, _, _, _]) hs106⟩
      clear hf106 hs106 h104 hp105
      refine gG h106<|gRn (oM 1 rfl<|.nl)<|nK k103<|gR<|fun a107 w107 h107 => x_ret1 (fn := Tryz.f44) (t := 2) rfl h107 rfl <| .inr ⟨c58, e58, dz102, ((nl95.length : Nat) : Int), nv106, (nl95 ++ [(⟨6, 0, (atT X i), y53.t, (⟨v97, [y95]⟩ : Ls Int)⟩ : NdL)]), ?_, hcn58, rfl, (by first | omega | (simp only [lens9] at *; omega)), (h107.sh.sel [0, 1, 2] rfl)⟩; clear h106
      exact (by show stepP X _ _ _ = _; simp only [stepP, andP, ne_lock, isL2, ↓reduceIte, Bool.false_eq_true, eq_self, Nat.add_sub_cancel, List.cons_append, List.nil_append, Bool.or_false, Bool.or_true, Bool.true_or, Bool.false_or, Bool.or_self, ne_3345, hr47, hr53, hr58, hc42])
     have h53 : St _ K W a53 w53 _ [_, _, _, _] := ⟨hf53, h51.sh.backI (Lp := [_, _, _]) hs53⟩
     clear hf53 hs53 h51 hp52
     refine gG h53<|gRn (ofB fl_57_3 rfl<|.nl)<|gst 3 ti_9 rfl rfl rfl<|nK k50<|gF [0, 5] rfl<|sK fun _ k109 => gRn (oM 1 rfl<|.nl)<|fun a110 w110 h110 => ?_; clear h53
     have hp111 := h110.sh.passL (Lp := [_, _, _])
     refine wl_ex (x_call h110 bd_22 rfl rfl rfl rfl rfl (dTake_b _ _ X tv nv nl dz53 c53 e53 _ hp111 hTl hcn53 ({ data := #[61] }))) (wanted_none rfl _) ?_
     rintro a112 w112 ⟨_, ⟨dz112, rfl, hs112⟩, hf112⟩
     have h112 : St _ K W a112 w112 _ [_, _, _, _] := ⟨hf112, h110.sh.backI (Lp := [_, _, _]) hs112⟩
     clear hf112 hs112 h110 hp111
     refine gG h112<|nK k109<|sK fun _ k113 => gRn (oM 1 rfl<|.nl)<|fun a114 w114 h114 => ?_; clear h112
     have hp115 := h114.sh.passL (Lp := [_, _, _])
     refine wl_ex (x_call h114 bd_83 rfl rfl rfl rfl rfl ((badExpr _ 0 (by omega)) _ _ tv nv nl dz112 c53 e53 _ hp115 hTl hcn53 (by first | omega | (simp only [lens9] at *; omega)))) (wanted_none rfl _) ?_
     rintro a116 w116 ⟨_, ⟨dz116, y116, nv116, nl116, rfl, hq9116, hs116⟩, hf116⟩
     have hq116 : nl116.length ≤ nl.length + 1 := hq9116
     have h116 : St _ K W a116 w116 _ [_, _, _, _] := ⟨hf116, h114.sh.backI (Lp := [_, _, _]) hs116⟩
     clear hf116 hs116 h114 hp115
     refine gG h116<|gRn (oM 1 rfl<|.nl)<|nK k113<|sK fun _ k117 => gRn (oM 1 rfl<|.nl)<|gE1 (fun _ _ h_ => x_lit (n := 1) (cs := [.int .i64 y116]) ([y116] : List Int) h_ sl_30 ti_3 rfl rfl rfl (by decide) rfl (by kernel_rfl) rfl (fun q hq w h => Flat.inner _ _) (fun q hq b hb => (Flat.on _ _ hb).elim) rfl rfl) rfl fun v118 => gRn (ofB fl_57_4 rfl<|.nl)<|gsr 4 ti_30 rfl (aO 0 rfl) rfl<|nK k117<|gL<|gRn (oM 1 rfl<|.nl)<|fun a120 w120 h120 => ?_; clear h116
     have h121 := h120.sel (L' := [_, _, _, _, _]) [1, 2, 3, 0, 4] rfl
     have hp122 := h121.sh.passL (Lp := [_, _, _])
     refine wl_ex (x_call h121 bd_22 rfl rfl rfl rfl rfl (dTake_b _ _ X tv nv116 nl116 dz116 c53 e53 _ hp122 hTl hcn53 ({ data := #[59] }))) (wanted_none rfl _) ?_
     rintro a123 w123 ⟨_, ⟨dz123, rfl, hs123⟩, hf123⟩
     have h123 : St _ K W a123 w123 _ [_, _, _, _, _] := ⟨hf123, h121.sh.backI (Lp := [_, _, _]) hs123⟩
     clear hf123 hs123 h121 hp122
     refine gG h123<|nK k38<|sK fun _ k124 => gRn (oM 1 rfl<|olw 4 ti_57 rfl rfl<|.nl)<|fun a125 w125 h125 => ?_; clear h123
     have hp126 := h125.sh.passL (Lp := [_, _, _, _])
     refine wl_ex (x_call h125 bd_24 rfl rfl rfl rfl rfl (dNode_c _ _ X tv nv116 nl116 X.T.length _ _ _ _ 6 0 (atT X i) ({ data := #[] }) (⟨v118, [y116]⟩ : Ls Int) hp126 (by first | omega | (simp only [lens9]; omega)))) (wanted_none rfl _) ?_
     rintro a127 w127 ⟨_, ⟨nv127, rfl, hs127⟩, hf127⟩
     have hm127 : (nl116 ++ [(⟨6, 0, (atT X i), { data := #[] }, (⟨v118, [y116]⟩ : Ls Int)⟩ : NdL)]).length = nl116.length + 1 := (by simp only [lens9])
     have h127 : St _ K W a127 w127 _ [_, _, _, _] := ⟨hf127, h125.sh.backI (Lp := [_, _, _, _]) hs127⟩
     clear hf127 hs127 h125 hp126
     refine gG h127<|gRn (oM 1 rfl<|.nl)<|nK k124<|gR<|fun a128 w128 h128 => x_ret1 (fn := Tryz.f44) (t := 2) rfl h128 rfl <| .inr ⟨c53, e53, dz123, ((nl116.length : Nat) : Int), nv127, (nl116 ++ [(⟨6, 0, (atT X i), { data := #[] }, (⟨v118, [y116]⟩ : Ls Int)⟩ : NdL)]), ?_, hcn53, rfl, (by first | omega | (simp only [lens9] at *; omega)), (h128.sh.sel [0, 1, 2] rfl)⟩; clear h127
     exact (by show stepP X _ _ _ = _; simp only [stepP, andP, ne_lock, isL2, ↓reduceIte, Bool.false_eq_true, eq_self, Nat.add_sub_cancel, List.cons_append, List.nil_append, Bool.or_false, Bool.or_true, Bool.true_or, Bool.false_or, Bool.or_self, ne_3345, hr47, hr53, hc42])
    exact absurd (hr47.symm.trans (take_ok (by assumption))) (by simp)
   have hc129 : isT X i ({ data := #[105, 110, 116] }) = false := (is1_t hl9 (.inl hk9)).trans (decide_eq_false (by assumption))
   refine sG (oV (r_eqlStr (s := ((nth X.T i).t)) (t := ({ data := #[105, 102] })) rfl rfl rfl) rfl<|oM 1 rfl<|.nl)<|gcd rfl (fun hb131 hp131 => ?_) fun hb131 hp131 => ?_
   ·skip
    have hc132 : isT X i ({ data := #[105, 102] }) = true := (is1_t hl9 (.inl hk9)).trans (decide_eq_true (by assumption))
    refine sK fun _ k133 => gRn (oM 1 rfl<|.nl)<|fun a134 w134 h134 => ?_
    have h135 := h134.sel (L' := [_, _, _, _]) [1, 2, 3, 0] rfl
    have hp136 := h135.sh.passL (Lp := [_, _, _])
    refine wl_ex (x_call h135 bd_22 rfl rfl rfl rfl rfl (dTake_c _ _ X tv nv i d nl _ hp136 hTl ({ data := #[105, 102] }))) (wanted_none rfl _) ?_
    rintro a137 w137 ⟨_, (⟨y137, hr137, hi137, rfl, hs137⟩ | ⟨c137, e137, dz137, hr137, hcn137, rfl, hs137⟩), hf137⟩
    ·skip
     have hl137 : i < X.T.length := hi137
     have h137 : St _ K W a137 w137 _ [_, _, _, _] := ⟨hf137, h135.sh.backI (Lp := [_, _, _]) hs137⟩
     clear hf137 hs137 h135 hp136
     refine gG h137<|nK k133<|gF [0, 5] rfl<|sK fun _ k138 => gRn (ofB fl_57_0 rfl<|.nl)<|gst 3 ti_3 rfl rfl rfl<|nK k138<|sK fun _ k140 => gRn (oM 1 rfl<|.nl)<|fun a141 w141 h141 => ?_; clear h137
     have hp142 := h141.sh.passL (Lp := [_, _, _])
     refine wl_ex (x_call h141 bd_84 rfl rfl rfl rfl rfl ((ih f (by omega)).he _ _ tv nv (i + 1) d nl _ hp142 hTl (by omega) (by omega) (by first | omega | (simp only [lens9] at *; omega)) (by omega) (show 20 * (X.T.length - (i + 1)) + 1 ≤ f by omega))) (wanted_none rfl _) ?_
     rintro a143 w143 ⟨_, (⟨y143, i143, nv143, nl143, hr143, rfl, hs143⟩ | ⟨c143, e143, dz143, y143, nv143, nl143, hr143, hcn143, rfl, hq9143, hs143⟩), hf143⟩
     ·skip
      have hv143 := adv_parse (X := X) f .held ⟨(i + 1), d, nl.map NdL.nd⟩ (fun h => by cases h) _ _ hr143; simp only [minT, dT, qT, List.length_map] at hv143
      have h143 : St _ K W a143 w143 _ [_, _, _, _] := ⟨hf143, h141.sh.backI (Lp := [_, _, _]) hs143⟩
      clear hf143 hs143 h141 hp142
      refine gG h143<|gRn (oM 1 rfl<|.nl)<|nK k140<|sK fun _ k144 => gRn (oM 1 rfl<|.nl)<|fun a145 w145 h145 => ?_; clear h143
      have hp146 := h145.sh.passL (Lp := [_, _, _])
      refine wl_ex (x_call h145 bd_23 rfl rfl rfl rfl rfl ((ih f (by omega)).bl _ _ tv nv143 i143 d nl143 _ hp146 hTl (by omega) (by omega) (by first | omega | (simp only [lens9] at *; omega)) (by omega) (show 20 * (X.T.length - i143) + 1 ≤ f by omega))) (wanted_none rfl _) ?_
      rintro a147 w147 ⟨_, (⟨y147, i147, nv147, nl147, hr147, rfl, hs147⟩ | ⟨c147, e147, dz147, y147, nv147, nl147, hr147, hcn147, rfl, hq9147, hs147⟩), hf147⟩
      ·skip
       have hv147 := adv_parse (X := X) f .block ⟨i143, d, nl143.map NdL.nd⟩ (fun h => by cases h) _ _ hr147; simp only [minT, dT, qT, List.length_map] at hv147
       have h147 : St _ K W a147 w147 _ [_, _, _, _] := ⟨hf147, h145.sh.backI (Lp := [_, _, _]) hs147⟩
       clear hf147 hs147 h145 hp146
       refine gG h147<|gRn (oM 1 rfl<|.nl)<|nK k144<|sK fun _ k148 => gRn (oM 2 rfl<|.nl)<|gE1 (fun _ _ h_ => x_lit (n := 2) (cs := [.int .i64 y143, .int .i64 y147]) ([y143, y147] : List Int) h_ sl_30 ti_3 rfl rfl rfl (by decide) rfl (by kernel_rfl) rfl (fun q hq w h => Flat.inner _ _) (fun q hq b hb => (Flat.on _ _ hb).elim) rfl rfl) rfl fun v149 => gRn (ofB fl_57_4 rfl<|.nl)<|gsr 4 ti_30 rfl (aO 0 rfl) rfl<|nK k148<|sK fun _ k151 => gRn (oM 1 rfl<|.nl)<|gP (fun _ _ h_ => xCl h_ bd_19 rfl (dIs_c g _ _ _ _ _ _ _ i147 _ (h_.sh.blk 1 rfl) (h_.sh.own 3 rfl) ({ data := #[101, 108, 115, 101] }))) rfl<|gRn (oM 1 rfl<|.nl)<|nK k151<|sG (oM 1 rfl<|.nl)<|?_; clear h147
       refine gCb rfl (fun hb154 => ?_) fun hb154 => ?_
       ·skip
        have hc155 : isT X i147 ({ data := #[101, 108, 115, 101] }) = true := (by assumption)
        have hl155 := isl_lt hc155
        refine sK fun _ k156 => gRn (oM 1 rfl<|.nl)<|fun a157 w157 h157 => ?_
        have h158 := h157.sel (L' := [_, _, _, _, _]) [1, 2, 3, 0, 4] rfl
        have hp159 := h158.sh.passL (Lp := [_, _, _])
        refine wl_ex (x_call h158 bd_22 rfl rfl rfl rfl rfl (dTake_c _ _ X tv nv147 i147 d nl147 _ hp159 hTl ({ data := #[101, 108, 115, 101] }))) (wanted_none rfl _) ?_
        rintro a160 w160 ⟨_, (⟨y160, hr160, hi160, rfl, hs160⟩ | ⟨c160, e160, dz160, hr160, hcn160, rfl, hs160⟩), hf160⟩
        ·skip
         have hl160 : i147 < X.T.length := hi160
         have h160 : St _ K W a160 w160 _ [_, _, _, _, _] := ⟨hf160, h158.sh.backI (Lp := [_, _, _]) hs160⟩
         clear hf160 hs160 h158 hp159
         refine gG h160<|nK k156<|sK fun _ k161 => gRn (oM 1 rfl<|.nl)<|fun a162 w162 h162 => ?_; clear h160
         have hp163 := h162.sh.passL (Lp := [_, _, _])
         refine wl_ex (x_call h162 bd_23 rfl rfl rfl rfl rfl ((ih f (by omega)).bl _ _ tv nv147 (i147 + 1) d nl147 _ hp163 hTl (by omega) (by omega) (by first | omega | (simp only [lens9] at *; omega)) (by omega) (show 20 * (X.T.length - (i147 + 1)) + 1 ≤ f by omega))) (wanted_none rfl _) ?_
         rintro a164 w164 ⟨_, (⟨y164, i164, nv164, nl164, hr164, rfl, hs164⟩ | ⟨c164, e164, dz164, y164, nv164, nl164, hr164, hcn164, rfl, hq9164, hs164⟩), hf164⟩
         ·skip
          have hv164 := adv_parse (X := X) f .block ⟨(i147 + 1), d, nl147.map NdL.nd⟩ (fun h => by cases h) _ _ hr164; simp only [minT, dT, qT, List.length_map] at hv164
          have h164 : St _ K W a164 w164 _ [_, _, _, _, _] := ⟨hf164, h162.sh.backI (Lp := [_, _, _]) hs164⟩
          clear hf164 hs164 h162 hp163
          refine gG h164<|gRn (oM 1 rfl<|.nl)<|nK k161<|gL<|gRn (ofB fl_57_4 rfl<|olB 4 ti_30 rfl rfl<|oM 1 rfl<|.nl)<|gE1 (fun _ _ h_ => x_lit (n := 1) (cs := [.int .i64 y164]) ([y164] : List Int) h_ sl_30 ti_3 rfl rfl rfl (by decide) rfl (by kernel_rfl) rfl (fun q hq w h => Flat.inner _ _) (fun q hq b hb => (Flat.on _ _ hb).elim) rfl rfl) rfl fun v165 => gE1 (fun _ _ h_ => x_app (r := 4) (rm := 0) (s := (⟨v149, [y143, y147]⟩ : Ls Int)) (m := (⟨v165, [y164]⟩ : Ls Int)) h_ sl_30 ti_3 rfl rfl rfl rfl rfl rfl rfl (fun w h => (h.own 0 rfl)) (fun b hb => own_on (h_.sh.ok _ (List.mem_of_getElem? (i := 0) rfl)) hb) (fun q hq b hb => ⟨q, hq, hb⟩) rfl rfl rfl inferInstance (show (([y143, y147]).length + ([y164]).length) * 8 ≤ 140737488355328 ∧ ([y143, y147]).length + ([y164]).length ≤ 140737488355328 from om9) rfl rfl) rfl fun v166 => gRn (ofB fl_57_4 rfl<|.nl)<|gsr 5 ti_30 rfl (aO 4 rfl) rfl<|nK k38<|gF [0, 5] rfl<|sK fun _ k168 => gRn (oM 1 rfl<|olw 5 ti_57 rfl rfl<|.nl)<|fun a169 w169 h169 => ?_; clear h164
          have h170 := h169.sel (L' := [_, _, _, _, _, _]) [1, 2, 3, 4, 0, 5] rfl
          have hp171 := h170.sh.passL (Lp := [_, _, _, _])
          refine wl_ex (x_call h170 bd_24 rfl rfl rfl rfl rfl (dNode_c _ _ X tv nv164 nl164 i164 _ _ _ _ 9 0 (atT X i) (⟨#[]⟩) (⟨v166, ([y143, y147]) ++ ([y164])⟩ : Ls Int) hp171 (by first | omega | (simp only [lens9]; omega)))) (wanted_none rfl _) ?_
          rintro a172 w172 ⟨_, ⟨nv172, rfl, hs172⟩, hf172⟩
          have hm172 : (nl164 ++ [(⟨9, 0, (atT X i), ⟨#[]⟩, (⟨v166, ([y143, y147]) ++ ([y164])⟩ : Ls Int)⟩ : NdL)]).length = nl164.length + 1 := (by simp only [lens9])
          have hr172 : putP (⟨9, 0, (atT X i), ⟨#[]⟩, [y143, y147, y164]⟩ : Nd) ⟨i164, d, nl164.map NdL.nd⟩ = .ok (((nl164.length : Nat) : Int), ⟨i164, d, (nl164 ++ [(⟨9, 0, (atT X i), ⟨#[]⟩, (⟨v166, ([y143, y147]) ++ ([y164])⟩ : Ls Int)⟩ : NdL)]).map NdL.nd⟩) := put_eq (x := (⟨9, 0, (atT X i), ⟨#[]⟩, (⟨v166, ([y143, y147]) ++ ([y164])⟩ : Ls Int)⟩ : NdL))
          have h172 : St _ K W a172 w172 _ [_, _, _, _, _] := ⟨hf172, h170.sh.backI (Lp := [_, _, _, _]) hs172⟩
          clear hf172 hs172 h170 hp171
          refine gG h172<|gRn (oM 1 rfl<|.nl)<|nK k168<|gR<|fun a173 w173 h173 => x_ret1 (fn := Tryz.f44) (t := 2) rfl h173 rfl <| .inl ⟨((nl164.length : Nat) : Int), i164, nv172, (nl164 ++ [(⟨9, 0, (atT X i), ⟨#[]⟩, (⟨v166, ([y143, y147]) ++ ([y164])⟩ : Ls Int)⟩ : NdL)]), ?_, rfl, (h173.sh.sel [0, 1, 2] rfl)⟩; clear h172
          exact (by show stepP X _ _ _ = _; simp only [stepP, andP, ne_lock, isL2, ↓reduceIte, Bool.false_eq_true, eq_self, Nat.add_sub_cancel, List.cons_append, List.nil_append, Bool.or_false, Bool.or_true, Bool.true_or, Bool.false_or, Bool.or_self, ne_3345, hr137, hr143, hr147, hr160, hr164, hr172, hc129, hc132, hc155])
         have hq164 : nl164.length ≤ 10000 + 10 * f := hq9164
         have h164 : St _ K W a164 w164 _ [_, _, _, _, _] := ⟨hf164, h162.sh.backI (Lp := [_, _, _]) hs164⟩
         clear hf164 hs164 h162 hp163
         refine gG h164<|gRn (oM 1 rfl<|.nl)<|nK k161<|gL<|gRn (ofB fl_57_4 rfl<|olB 4 ti_30 rfl rfl<|oM 1 rfl<|.nl)<|gE1 (fun _ _ h_ => x_lit (n := 1) (cs := [.int .i64 y164]) ([y164] : List Int) h_ sl_30 ti_3 rfl rfl rfl (by decide) rfl (by kernel_rfl) rfl (fun q hq w h => Flat.inner _ _) (fun q hq b hb => (Flat.on _ _ hb).elim) rfl rfl) rfl fun v174 => gE1 (fun _ _ h_ => x_app (r := 4) (rm := 0) (s := (⟨v149, [y143, y147]⟩ : Ls Int)) (m := (⟨v174, [y164]⟩ : Ls Int)) h_ sl_30 ti_3 rfl rfl rfl rfl rfl rfl rfl (fun w h => (h.own 0 rfl)) (fun b hb => own_on (h_.sh.ok _ (List.mem_of_getElem? (i := 0) rfl)) hb) (fun q hq b hb => ⟨q, hq, hb⟩) rfl rfl rfl inferInstance (show (([y143, y147]).length + ([y164]).length) * 8 ≤ 140737488355328 ∧ ([y143, y147]).length + ([y164]).length ≤ 140737488355328 from om9) rfl rfl) rfl fun v175 => gRn (ofB fl_57_4 rfl<|.nl)<|gsr 5 ti_30 rfl (aO 4 rfl) rfl<|nK k38<|gF [0, 5] rfl<|sK fun _ k177 => gRn (oM 1 rfl<|olw 5 ti_57 rfl rfl<|.nl)<|fun a178 w178 h178 => ?_; clear h164
         have h179 := h178.sel (L' := [_, _, _, _, _, _]) [1, 2, 3, 4, 0, 5] rfl
         have hp180 := h179.sh.passL (Lp := [_, _, _, _])
         refine wl_ex (x_call h179 bd_24 rfl rfl rfl rfl rfl (dNode_c _ _ X tv nv164 nl164 X.T.length _ _ _ _ 9 0 (atT X i) (⟨#[]⟩) (⟨v175, ([y143, y147]) ++ ([y164])⟩ : Ls Int) hp180 (by first | omega | (simp only [lens9]; omega)))) (wanted_none rfl _) ?_
         rintro a181 w181 ⟨_, ⟨nv181, rfl, hs181⟩, hf181⟩
         have hm181 : (nl164 ++ [(⟨9, 0, (atT X i), ⟨#[]⟩, (⟨v175, ([y143, y147]) ++ ([y164])⟩ : Ls Int)⟩ : NdL)]).length = nl164.length + 1 := (by simp only [lens9])
         have h181 : St _ K W a181 w181 _ [_, _, _, _, _] := ⟨hf181, h179.sh.backI (Lp := [_, _, _, _]) hs181⟩
         clear hf181 hs181 h179 hp180
         refine gG h181<|gRn (oM 1 rfl<|.nl)<|nK k177<|gR<|fun a182 w182 h182 => x_ret1 (fn := Tryz.f44) (t := 2) rfl h182 rfl <| .inr ⟨c164, e164, dz164, ((nl164.length : Nat) : Int), nv181, (nl164 ++ [(⟨9, 0, (atT X i), ⟨#[]⟩, (⟨v175, ([y143, y147]) ++ ([y164])⟩ : Ls Int)⟩ : NdL)]), ?_, hcn164, rfl, (by first | omega | (simp only [lens9] at *; omega)), (h182.sh.sel [0, 1, 2] rfl)⟩; clear h181
         exact (by show stepP X _ _ _ = _; simp only [stepP, andP, ne_lock, isL2, ↓reduceIte, Bool.false_eq_true, eq_self, Nat.add_sub_cancel, List.cons_append, List.nil_append, Bool.or_false, Bool.or_true, Bool.true_or, Bool.false_or, Bool.or_self, ne_3345, hr137, hr143, hr147, hr160, hr164, hc129, hc132, hc155])
        exact absurd (hr160.symm.trans (take_ok (by assumption))) (by simp)
       have hc183 : isT X i147 ({ data := #[101, 108, 115, 101] }) = false := (by assumption)
       refine gS<|hK k38<|sK fun _ k184 => gRn (oM 1 rfl<|olw 4 ti_57 rfl rfl<|.nl)<|fun a185 w185 h185 => ?_
       have h186 := h185.sel (L' := [_, _, _, _, _]) [1, 2, 3, 0, 4] rfl
       have hp187 := h186.sh.passL (Lp := [_, _, _, _])
       refine wl_ex (x_call h186 bd_24 rfl rfl rfl rfl rfl (dNode_c _ _ X tv nv147 nl147 i147 _ _ _ _ 9 0 (atT X i) (⟨#[]⟩) (⟨v149, [y143, y147]⟩ : Ls Int) hp187 (by first | omega | (simp only [lens9]; omega)))) (wanted_none rfl _) ?_
       rintro a188 w188 ⟨_, ⟨nv188, rfl, hs188⟩, hf188⟩
       have hm188 : (nl147 ++ [(⟨9, 0, (atT X i), ⟨#[]⟩, (⟨v149, [y143, y147]⟩ : Ls Int)⟩ : NdL)]).length = nl147.length + 1 := (by simp only [lens9])
       have hr188 : putP (⟨9, 0, (atT X i), ⟨#[]⟩, [y143, y147]⟩ : Nd) ⟨i147, d, nl147.map NdL.nd⟩ = .ok (((nl147.length : Nat) : Int), ⟨i147, d, (nl147 ++ [(⟨9, 0, (atT X i), ⟨#[]⟩, (⟨v149, [y143, y147]⟩ : Ls Int)⟩ : NdL)]).map NdL.nd⟩) := put_eq (x := (⟨9, 0, (atT X i), ⟨#[]⟩, (⟨v149, [y143, y147]⟩ : Ls Int)⟩ : NdL))
       have h188 : St _ K W a188 w188 _ [_, _, _, _] := ⟨hf188, h186.sh.backI (Lp := [_, _, _, _]) hs188⟩
       clear hf188 hs188 h186 hp187
       refine gG h188<|gRn (oM 1 rfl<|.nl)<|nK k184<|gR<|fun a189 w189 h189 => x_ret1 (fn := Tryz.f44) (t := 2) rfl h189 rfl <| .inl ⟨((nl147.length : Nat) : Int), i147, nv188, (nl147 ++ [(⟨9, 0, (atT X i), ⟨#[]⟩, (⟨v149, [y143, y147]⟩ : Ls Int)⟩ : NdL)]), ?_, rfl, (h189.sh.sel [0, 1, 2] rfl)⟩; clear h188
       exact (by show stepP X _ _ _ = _; simp only [stepP, andP, ne_lock, isL2, ↓reduceIte, Bool.false_eq_true, eq_self, Nat.add_sub_cancel, List.cons_append, List.nil_append, Bool.or_false, Bool.or_true, Bool.true_or, Bool.false_or, Bool.or_self, ne_3345, hr137, hr143, hr147, hr188, hc129, hc132, hc183])
      have hq147 : nl147.length ≤ 10000 + 10 * f := hq9147
      have h147 : St _ K W a147 w147 _ [_, _, _, _] := ⟨hf147, h145.sh.backI (Lp := [_, _, _]) hs147⟩
      clear hf147 hs147 h145 hp146
      refine gG h147<|gRn (oM 1 rfl<|.nl)<|nK k144<|sK fun _ k190 => gRn (oM 2 rfl<|.nl)<|gE1 (fun _ _ h_ => x_lit (n := 2) (cs := [.int .i64 y143, .int .i64 y147]) ([y143, y147] : List Int) h_ sl_30 ti_3 rfl rfl rfl (by decide) rfl (by kernel_rfl) rfl (fun q hq w h => Flat.inner _ _) (fun q hq b hb => (Flat.on _ _ hb).elim) rfl rfl) rfl fun v191 => gRn (ofB fl_57_4 rfl<|.nl)<|gsr 4 ti_30 rfl (aO 0 rfl) rfl<|nK k190<|sK fun _ k193 => gRn (oM 1 rfl<|.nl)<|gP (fun _ _ h_ => xCl h_ bd_19 rfl (dIs_c g _ _ _ _ _ _ _ X.T.length _ (h_.sh.blk 1 rfl) (h_.sh.own 3 rfl) ({ data := #[101, 108, 115, 101] }))) rfl<|gRn (oM 1 rfl<|.nl)<|nK k193<|sG (oM 1 rfl<|.nl)<|gcF rfl isT_len1<|gS<|hK k38<|sK fun _ k196 => gRn (oM 1 rfl<|olw 4 ti_57 rfl rfl<|.nl)<|fun a197 w197 h197 => ?_; clear h147
      have h198 := h197.sel (L' := [_, _, _, _, _]) [1, 2, 3, 0, 4] rfl
      have hp199 := h198.sh.passL (Lp := [_, _, _, _])
      refine wl_ex (x_call h198 bd_24 rfl rfl rfl rfl rfl (dNode_c _ _ X tv nv147 nl147 X.T.length _ _ _ _ 9 0 (atT X i) (⟨#[]⟩) (⟨v191, [y143, y147]⟩ : Ls Int) hp199 (by first | omega | (simp only [lens9]; omega)))) (wanted_none rfl _) ?_
      rintro a200 w200 ⟨_, ⟨nv200, rfl, hs200⟩, hf200⟩
      have hm200 : (nl147 ++ [(⟨9, 0, (atT X i), ⟨#[]⟩, (⟨v191, [y143, y147]⟩ : Ls Int)⟩ : NdL)]).length = nl147.length + 1 := (by simp only [lens9])
      have h200 : St _ K W a200 w200 _ [_, _, _, _] := ⟨hf200, h198.sh.backI (Lp := [_, _, _, _]) hs200⟩
      clear hf200 hs200 h198 hp199
      refine gG h200<|gRn (oM 1 rfl<|.nl)<|nK k196<|gR<|fun a201 w201 h201 => x_ret1 (fn := Tryz.f44) (t := 2) rfl h201 rfl <| .inr ⟨c147, e147, dz147, ((nl147.length : Nat) : Int), nv200, (nl147 ++ [(⟨9, 0, (atT X i), ⟨#[]⟩, (⟨v191, [y143, y147]⟩ : Ls Int)⟩ : NdL)]), ?_, hcn147, rfl, (by first | omega | (simp only [lens9] at *; omega)), (h201.sh.sel [0, 1, 2] rfl)⟩; clear h200
      exact (by show stepP X _ _ _ = _; simp only [stepP, andP, ne_lock, isL2, ↓reduceIte, Bool.false_eq_true, eq_self, Nat.add_sub_cancel, List.cons_append, List.nil_append, Bool.or_false, Bool.or_true, Bool.true_or, Bool.false_or, Bool.or_self, ne_3345, hr137, hr143, hr147, hc129, hc132])
     have hq143 : nl143.length ≤ 10000 + 10 * f := hq9143
     have h143 : St _ K W a143 w143 _ [_, _, _, _] := ⟨hf143, h141.sh.backI (Lp := [_, _, _]) hs143⟩
     clear hf143 hs143 h141 hp142
     refine gG h143<|gRn (oM 1 rfl<|.nl)<|nK k140<|sK fun _ k202 => gRn (oM 1 rfl<|.nl)<|fun a203 w203 h203 => ?_; clear h143
     have hp204 := h203.sh.passL (Lp := [_, _, _])
     refine wl_ex (x_call h203 bd_23 rfl rfl rfl rfl rfl ((badBlock _) _ _ tv nv143 nl143 dz143 c143 e143 _ hp204 hTl hcn143 (by first | omega | (simp only [lens9] at *; omega)))) (wanted_none rfl _) ?_
     rintro a205 w205 ⟨_, ⟨dz205, y205, nv205, nl205, rfl, hq9205, hs205⟩, hf205⟩
     have hq205 : nl205.length ≤ nl143.length + 1 := hq9205
     have h205 : St _ K W a205 w205 _ [_, _, _, _] := ⟨hf205, h203.sh.backI (Lp := [_, _, _]) hs205⟩
     clear hf205 hs205 h203 hp204
     refine gG h205<|gRn (oM 1 rfl<|.nl)<|nK k202<|sK fun _ k206 => gRn (oM 2 rfl<|.nl)<|gE1 (fun _ _ h_ => x_lit (n := 2) (cs := [.int .i64 y143, .int .i64 y205]) ([y143, y205] : List Int) h_ sl_30 ti_3 rfl rfl rfl (by decide) rfl (by kernel_rfl) rfl (fun q hq w h => Flat.inner _ _) (fun q hq b hb => (Flat.on _ _ hb).elim) rfl rfl) rfl fun v207 => gRn (ofB fl_57_4 rfl<|.nl)<|gsr 4 ti_30 rfl (aO 0 rfl) rfl<|nK k206<|sK fun _ k209 => gRn (oM 1 rfl<|.nl)<|gP (fun _ _ h_ => xCl h_ bd_19 rfl (dIs_c g _ _ _ _ _ _ _ X.T.length _ (h_.sh.blk 1 rfl) (h_.sh.own 3 rfl) ({ data := #[101, 108, 115, 101] }))) rfl<|gRn (oM 1 rfl<|.nl)<|nK k209<|sG (oM 1 rfl<|.nl)<|gcF rfl isT_len1<|gS<|hK k38<|sK fun _ k212 => gRn (oM 1 rfl<|olw 4 ti_57 rfl rfl<|.nl)<|fun a213 w213 h213 => ?_; clear h205
     have h214 := h213.sel (L' := [_, _, _, _, _]) [1, 2, 3, 0, 4] rfl
     have hp215 := h214.sh.passL (Lp := [_, _, _, _])
     refine wl_ex (x_call h214 bd_24 rfl rfl rfl rfl rfl (dNode_c _ _ X tv nv205 nl205 X.T.length _ _ _ _ 9 0 (atT X i) (⟨#[]⟩) (⟨v207, [y143, y205]⟩ : Ls Int) hp215 (by first | omega | (simp only [lens9]; omega)))) (wanted_none rfl _) ?_
     rintro a216 w216 ⟨_, ⟨nv216, rfl, hs216⟩, hf216⟩
     have hm216 : (nl205 ++ [(⟨9, 0, (atT X i), ⟨#[]⟩, (⟨v207, [y143, y205]⟩ : Ls Int)⟩ : NdL)]).length = nl205.length + 1 := (by simp only [lens9])
     have h216 : St _ K W a216 w216 _ [_, _, _, _] := ⟨hf216, h214.sh.backI (Lp := [_, _, _, _]) hs216⟩
     clear hf216 hs216 h214 hp215
     refine gG h216<|gRn (oM 1 rfl<|.nl)<|nK k212<|gR<|fun a217 w217 h217 => x_ret1 (fn := Tryz.f44) (t := 2) rfl h217 rfl <| .inr ⟨c143, e143, dz205, ((nl205.length : Nat) : Int), nv216, (nl205 ++ [(⟨9, 0, (atT X i), ⟨#[]⟩, (⟨v207, [y143, y205]⟩ : Ls Int)⟩ : NdL)]), ?_, hcn143, rfl, (by first | omega | (simp only [lens9] at *; omega)), (h217.sh.sel [0, 1, 2] rfl)⟩; clear h216
     exact (by show stepP X _ _ _ = _; simp only [stepP, andP, ne_lock, isL2, ↓reduceIte, Bool.false_eq_true, eq_self, Nat.add_sub_cancel, List.cons_append, List.nil_append, Bool.or_false, Bool.or_true, Bool.true_or, Bool.false_or, Bool.or_self, ne_3345, hr137, hr143, hc129, hc132])
    exact absurd (hr137.symm.trans (take_ok (by assumption))) (by simp)
   have hc218 : isT X i ({ data := #[105, 102] }) = false := (is1_t hl9 (.inl hk9)).trans (decide_eq_false (by assumption))
   refine sG (oV (r_eqlStr (s := ((nth X.T i).t)) (t := ({ data := #[119, 104, 105, 108, 101] })) rfl rfl rfl) rfl<|oM 1 rfl<|.nl)<|gcd rfl (fun hb220 hp220 => ?_) fun hb220 hp220 => ?_
   ·skip
    have hc221 : isT X i ({ data := #[119, 104, 105, 108, 101] }) = true := (is1_t hl9 (.inl hk9)).trans (decide_eq_true (by assumption))
    refine sK fun _ k222 => gRn (oM 1 rfl<|.nl)<|fun a223 w223 h223 => ?_
    have h224 := h223.sel (L' := [_, _, _, _]) [1, 2, 3, 0] rfl
    have hp225 := h224.sh.passL (Lp := [_, _, _])
    refine wl_ex (x_call h224 bd_22 rfl rfl rfl rfl rfl (dTake_c _ _ X tv nv i d nl _ hp225 hTl ({ data := #[119, 104, 105, 108, 101] }))) (wanted_none rfl _) ?_
    rintro a226 w226 ⟨_, (⟨y226, hr226, hi226, rfl, hs226⟩ | ⟨c226, e226, dz226, hr226, hcn226, rfl, hs226⟩), hf226⟩
    ·skip
     have hl226 : i < X.T.length := hi226
     have h226 : St _ K W a226 w226 _ [_, _, _, _] := ⟨hf226, h224.sh.backI (Lp := [_, _, _]) hs226⟩
     clear hf226 hs226 h224 hp225
     refine gG h226<|nK k222<|gF [0, 5] rfl<|sK fun _ k227 => gRn (ofB fl_57_0 rfl<|.nl)<|gst 3 ti_3 rfl rfl rfl<|nK k227<|sK fun _ k229 => gRn (oM 1 rfl<|.nl)<|fun a230 w230 h230 => ?_; clear h226
     have hp231 := h230.sh.passL (Lp := [_, _, _])
     refine wl_ex (x_call h230 bd_84 rfl rfl rfl rfl rfl ((ih f (by omega)).he _ _ tv nv (i + 1) d nl _ hp231 hTl (by omega) (by omega) (by first | omega | (simp only [lens9] at *; omega)) (by omega) (show 20 * (X.T.length - (i + 1)) + 1 ≤ f by omega))) (wanted_none rfl _) ?_
     rintro a232 w232 ⟨_, (⟨y232, i232, nv232, nl232, hr232, rfl, hs232⟩ | ⟨c232, e232, dz232, y232, nv232, nl232, hr232, hcn232, rfl, hq9232, hs232⟩), hf232⟩
     ·skip
      have hv232 := adv_parse (X := X) f .held ⟨(i + 1), d, nl.map NdL.nd⟩ (fun h => by cases h) _ _ hr232; simp only [minT, dT, qT, List.length_map] at hv232
      have h232 : St _ K W a232 w232 _ [_, _, _, _] := ⟨hf232, h230.sh.backI (Lp := [_, _, _]) hs232⟩
      clear hf232 hs232 h230 hp231
      refine gG h232<|gRn (oM 1 rfl<|.nl)<|nK k229<|sK fun _ k233 => gRn (oM 1 rfl<|.nl)<|fun a234 w234 h234 => ?_; clear h232
      have hp235 := h234.sh.passL (Lp := [_, _, _])
      refine wl_ex (x_call h234 bd_23 rfl rfl rfl rfl rfl ((ih f (by omega)).bl _ _ tv nv232 i232 d nl232 _ hp235 hTl (by omega) (by omega) (by first | omega | (simp only [lens9] at *; omega)) (by omega) (show 20 * (X.T.length - i232) + 1 ≤ f by omega))) (wanted_none rfl _) ?_
      rintro a236 w236 ⟨_, (⟨y236, i236, nv236, nl236, hr236, rfl, hs236⟩ | ⟨c236, e236, dz236, y236, nv236, nl236, hr236, hcn236, rfl, hq9236, hs236⟩), hf236⟩
      ·skip
       have hv236 := adv_parse (X := X) f .block ⟨i232, d, nl232.map NdL.nd⟩ (fun h => by cases h) _ _ hr236; simp only [minT, dT, qT, List.length_map] at hv236
       have h236 : St _ K W a236 w236 _ [_, _, _, _] := ⟨hf236, h234.sh.backI (Lp := [_, _, _]) hs236⟩
       clear hf236 hs236 h234 hp235
       refine gG h236<|gRn (oM 1 rfl<|.nl)<|nK k233<|gL<|gRn (oM 2 rfl<|.nl)<|gE1 (fun _ _ h_ => x_lit (n := 2) (cs := [.int .i64 y232, .int .i64 y236]) ([y232, y236] : List Int) h_ sl_30 ti_3 rfl rfl rfl (by decide) rfl (by kernel_rfl) rfl (fun q hq w h => Flat.inner _ _) (fun q hq b hb => (Flat.on _ _ hb).elim) rfl rfl) rfl fun v237 => gRn (ofB fl_57_4 rfl<|.nl)<|gsr 4 ti_30 rfl (aO 0 rfl) rfl<|nK k38<|sK fun _ k239 => gRn (oM 1 rfl<|olw 4 ti_57 rfl rfl<|.nl)<|fun a240 w240 h240 => ?_; clear h236
       have h241 := h240.sel (L' := [_, _, _, _, _]) [1, 2, 3, 0, 4] rfl
       have hp242 := h241.sh.passL (Lp := [_, _, _, _])
       refine wl_ex (x_call h241 bd_24 rfl rfl rfl rfl rfl (dNode_c _ _ X tv nv236 nl236 i236 _ _ _ _ 10 0 (atT X i) (⟨#[]⟩) (⟨v237, [y232, y236]⟩ : Ls Int) hp242 (by first | omega | (simp only [lens9]; omega)))) (wanted_none rfl _) ?_
       rintro a243 w243 ⟨_, ⟨nv243, rfl, hs243⟩, hf243⟩
       have hm243 : (nl236 ++ [(⟨10, 0, (atT X i), ⟨#[]⟩, (⟨v237, [y232, y236]⟩ : Ls Int)⟩ : NdL)]).length = nl236.length + 1 := (by simp only [lens9])
       have hr243 : putP (⟨10, 0, (atT X i), ⟨#[]⟩, [y232, y236]⟩ : Nd) ⟨i236, d, nl236.map NdL.nd⟩ = .ok (((nl236.length : Nat) : Int), ⟨i236, d, (nl236 ++ [(⟨10, 0, (atT X i), ⟨#[]⟩, (⟨v237, [y232, y236]⟩ : Ls Int)⟩ : NdL)]).map NdL.nd⟩) := put_eq (x := (⟨10, 0, (atT X i), ⟨#[]⟩, (⟨v237, [y232, y236]⟩ : Ls Int)⟩ : NdL))
       have h243 : St _ K W a243 w243 _ [_, _, _, _] := ⟨hf243, h241.sh.backI (Lp := [_, _, _, _]) hs243⟩
       clear hf243 hs243 h241 hp242
       refine gG h243<|gRn (oM 1 rfl<|.nl)<|nK k239<|gR<|fun a244 w244 h244 => x_ret1 (fn := Tryz.f44) (t := 2) rfl h244 rfl <| .inl ⟨((nl236.length : Nat) : Int), i236, nv243, (nl236 ++ [(⟨10, 0, (atT X i), ⟨#[]⟩, (⟨v237, [y232, y236]⟩ : Ls Int)⟩ : NdL)]), ?_, rfl, (h244.sh.sel [0, 1, 2] rfl)⟩; clear h243
       exact (by show stepP X _ _ _ = _; simp only [stepP, andP, ne_lock, isL2, ↓reduceIte, Bool.false_eq_true, eq_self, Nat.add_sub_cancel, List.cons_append, List.nil_append, Bool.or_false, Bool.or_true, Bool.true_or, Bool.false_or, Bool.or_self, ne_3345, hr226, hr232, hr236, hr243, hc129, hc218, hc221])
      have hq236 : nl236.length ≤ 10000 + 10 * f := hq9236
      have h236 : St _ K W a236 w236 _ [_, _, _, _] := ⟨hf236, h234.sh.backI (Lp := [_, _, _]) hs236⟩
      clear hf236 hs236 h234 hp235
      refine gG h236<|gRn (oM 1 rfl<|.nl)<|nK k233<|gL<|gRn (oM 2 rfl<|.nl)<|gE1 (fun _ _ h_ => x_lit (n := 2) (cs := [.int .i64 y232, .int .i64 y236]) ([y232, y236] : List Int) h_ sl_30 ti_3 rfl rfl rfl (by decide) rfl (by kernel_rfl) rfl (fun q hq w h => Flat.inner _ _) (fun q hq b hb => (Flat.on _ _ hb).elim) rfl rfl) rfl fun v245 => gRn (ofB fl_57_4 rfl<|.nl)<|gsr 4 ti_30 rfl (aO 0 rfl) rfl<|nK k38<|sK fun _ k247 => gRn (oM 1 rfl<|olw 4 ti_57 rfl rfl<|.nl)<|fun a248 w248 h248 => ?_; clear h236
      have h249 := h248.sel (L' := [_, _, _, _, _]) [1, 2, 3, 0, 4] rfl
      have hp250 := h249.sh.passL (Lp := [_, _, _, _])
      refine wl_ex (x_call h249 bd_24 rfl rfl rfl rfl rfl (dNode_c _ _ X tv nv236 nl236 X.T.length _ _ _ _ 10 0 (atT X i) (⟨#[]⟩) (⟨v245, [y232, y236]⟩ : Ls Int) hp250 (by first | omega | (simp only [lens9]; omega)))) (wanted_none rfl _) ?_
      rintro a251 w251 ⟨_, ⟨nv251, rfl, hs251⟩, hf251⟩
      have hm251 : (nl236 ++ [(⟨10, 0, (atT X i), ⟨#[]⟩, (⟨v245, [y232, y236]⟩ : Ls Int)⟩ : NdL)]).length = nl236.length + 1 := (by simp only [lens9])
      have h251 : St _ K W a251 w251 _ [_, _, _, _] := ⟨hf251, h249.sh.backI (Lp := [_, _, _, _]) hs251⟩
      clear hf251 hs251 h249 hp250
      refine gG h251<|gRn (oM 1 rfl<|.nl)<|nK k247<|gR<|fun a252 w252 h252 => x_ret1 (fn := Tryz.f44) (t := 2) rfl h252 rfl <| .inr ⟨c236, e236, dz236, ((nl236.length : Nat) : Int), nv251, (nl236 ++ [(⟨10, 0, (atT X i), ⟨#[]⟩, (⟨v245, [y232, y236]⟩ : Ls Int)⟩ : NdL)]), ?_, hcn236, rfl, (by first | omega | (simp only [lens9] at *; omega)), (h252.sh.sel [0, 1, 2] rfl)⟩; clear h251
      exact (by show stepP X _ _ _ = _; simp only [stepP, andP, ne_lock, isL2, ↓reduceIte, Bool.false_eq_true, eq_self, Nat.add_sub_cancel, List.cons_append, List.nil_append, Bool.or_false, Bool.or_true, Bool.true_or, Bool.false_or, Bool.or_self, ne_3345, hr226, hr232, hr236, hc129, hc218, hc221])
     have hq232 : nl232.length ≤ 10000 + 10 * f := hq9232
     have h232 : St _ K W a232 w232 _ [_, _, _, _] := ⟨hf232, h230.sh.backI (Lp := [_, _, _]) hs232⟩
     clear hf232 hs232 h230 hp231
     refine gG h232<|gRn (oM 1 rfl<|.nl)<|nK k229<|sK fun _ k253 => gRn (oM 1 rfl<|.nl)<|fun a254 w254 h254 => ?_; clear h232
     have hp255 := h254.sh.passL (Lp := [_, _, _])
     refine wl_ex (x_call h254 bd_23 rfl rfl rfl rfl rfl ((badBlock _) _ _ tv nv232 nl232 dz232 c232 e232 _ hp255 hTl hcn232 (by first | omega | (simp only [lens9] at *; omega)))) (wanted_none rfl _) ?_
     rintro a256 w256 ⟨_, ⟨dz256, y256, nv256, nl256, rfl, hq9256, hs256⟩, hf256⟩
     have hq256 : nl256.length ≤ nl232.length + 1 := hq9256
     have h256 : St _ K W a256 w256 _ [_, _, _, _] := ⟨hf256, h254.sh.backI (Lp := [_, _, _]) hs256⟩
     clear hf256 hs256 h254 hp255
     refine gG h256<|gRn (oM 1 rfl<|.nl)<|nK k253<|gL<|gRn (oM 2 rfl<|.nl)<|gE1 (fun _ _ h_ => x_lit (n := 2) (cs := [.int .i64 y232, .int .i64 y256]) ([y232, y256] : List Int) h_ sl_30 ti_3 rfl rfl rfl (by decide) rfl (by kernel_rfl) rfl (fun q hq w h => Flat.inner _ _) (fun q hq b hb => (Flat.on _ _ hb).elim) rfl rfl) rfl fun v257 => gRn (ofB fl_57_4 rfl<|.nl)<|gsr 4 ti_30 rfl (aO 0 rfl) rfl<|nK k38<|sK fun _ k259 => gRn (oM 1 rfl<|olw 4 ti_57 rfl rfl<|.nl)<|fun a260 w260 h260 => ?_; clear h256
     have h261 := h260.sel (L' := [_, _, _, _, _]) [1, 2, 3, 0, 4] rfl
     have hp262 := h261.sh.passL (Lp := [_, _, _, _])
     refine wl_ex (x_call h261 bd_24 rfl rfl rfl rfl rfl (dNode_c _ _ X tv nv256 nl256 X.T.length _ _ _ _ 10 0 (atT X i) (⟨#[]⟩) (⟨v257, [y232, y256]⟩ : Ls Int) hp262 (by first | omega | (simp only [lens9]; omega)))) (wanted_none rfl _) ?_
     rintro a263 w263 ⟨_, ⟨nv263, rfl, hs263⟩, hf263⟩
     have hm263 : (nl256 ++ [(⟨10, 0, (atT X i), ⟨#[]⟩, (⟨v257, [y232, y256]⟩ : Ls Int)⟩ : NdL)]).length = nl256.length + 1 := (by simp only [lens9])
     have h263 : St _ K W a263 w263 _ [_, _, _, _] := ⟨hf263, h261.sh.backI (Lp := [_, _, _, _]) hs263⟩
     clear hf263 hs263 h261 hp262
     refine gG h263<|gRn (oM 1 rfl<|.nl)<|nK k259<|gR<|fun a264 w264 h264 => x_ret1 (fn := Tryz.f44) (t := 2) rfl h264 rfl <| .inr ⟨c232, e232, dz256, ((nl256.length : Nat) : Int), nv263, (nl256 ++ [(⟨10, 0, (atT X i), ⟨#[]⟩, (⟨v257, [y232, y256]⟩ : Ls Int)⟩ : NdL)]), ?_, hcn232, rfl, (by first | omega | (simp only [lens9] at *; omega)), (h264.sh.sel [0, 1, 2] rfl)⟩; clear h263
     exact (by show stepP X _ _ _ = _; simp only [stepP, andP, ne_lock, isL2, ↓reduceIte, Bool.false_eq_true, eq_self, Nat.add_sub_cancel, List.cons_append, List.nil_append, Bool.or_false, Bool.or_true, Bool.true_or, Bool.false_or, Bool.or_self, ne_3345, hr226, hr232, hc129, hc218, hc221])
    exact absurd (hr226.symm.trans (take_ok (by assumption))) (by simp)
   have hc265 : isT X i ({ data := #[119, 104, 105, 108, 101] }) = false := (is1_t hl9 (.inl hk9)).trans (decide_eq_false (by assumption))
   refine sG (oV (r_eqlStr (s := ((nth X.T i).t)) (t := ({ data := #[112, 114, 105, 110, 116] })) rfl rfl rfl) rfl<|oM 1 rfl<|.nl)<|gcd rfl (fun hb267 hp267 => ?_) fun hb267 hp267 => ?_
   ·skip
    have hc268 : isT X i ({ data := #[112, 114, 105, 110, 116] }) = true := (is1_t hl9 (.inl hk9)).trans (decide_eq_true (by assumption))
    refine sK fun _ k269 => gRn (oM 1 rfl<|.nl)<|fun a270 w270 h270 => ?_
    have h271 := h270.sel (L' := [_, _, _, _]) [1, 2, 3, 0] rfl
    have hp272 := h271.sh.passL (Lp := [_, _, _])
    refine wl_ex (x_call h271 bd_22 rfl rfl rfl rfl rfl (dTake_c _ _ X tv nv i d nl _ hp272 hTl ({ data := #[112, 114, 105, 110, 116] }))) (wanted_none rfl _) ?_
    rintro a273 w273 ⟨_, (⟨y273, hr273, hi273, rfl, hs273⟩ | ⟨c273, e273, dz273, hr273, hcn273, rfl, hs273⟩), hf273⟩
    ·skip
     have hl273 : i < X.T.length := hi273
     have h273 : St _ K W a273 w273 _ [_, _, _, _] := ⟨hf273, h271.sh.backI (Lp := [_, _, _]) hs273⟩
     clear hf273 hs273 h271 hp272
     refine gG h273<|nK k269<|gF [0, 5] rfl<|sK fun _ k274 => gRn (ofB fl_57_0 rfl<|.nl)<|gst 3 ti_3 rfl rfl rfl<|nK k274<|sK fun _ k276 => gRn (oM 1 rfl<|.nl)<|fun a277 w277 h277 => ?_; clear h273
     have hp278 := h277.sh.passL (Lp := [_, _, _])
     refine wl_ex (x_call h277 bd_84 rfl rfl rfl rfl rfl ((ih f (by omega)).he _ _ tv nv (i + 1) d nl _ hp278 hTl (by omega) (by omega) (by first | omega | (simp only [lens9] at *; omega)) (by omega) (show 20 * (X.T.length - (i + 1)) + 1 ≤ f by omega))) (wanted_none rfl _) ?_
     rintro a279 w279 ⟨_, (⟨y279, i279, nv279, nl279, hr279, rfl, hs279⟩ | ⟨c279, e279, dz279, y279, nv279, nl279, hr279, hcn279, rfl, hq9279, hs279⟩), hf279⟩
     ·skip
      have hv279 := adv_parse (X := X) f .held ⟨(i + 1), d, nl.map NdL.nd⟩ (fun h => by cases h) _ _ hr279; simp only [minT, dT, qT, List.length_map] at hv279
      have h279 : St _ K W a279 w279 _ [_, _, _, _] := ⟨hf279, h277.sh.backI (Lp := [_, _, _]) hs279⟩
      clear hf279 hs279 h277 hp278
      refine gG h279<|gRn (oM 1 rfl<|.nl)<|nK k276<|sK fun _ k280 => gRn (oM 1 rfl<|.nl)<|gE1 (fun _ _ h_ => x_lit (n := 1) (cs := [.int .i64 y279]) ([y279] : List Int) h_ sl_30 ti_3 rfl rfl rfl (by decide) rfl (by kernel_rfl) rfl (fun q hq w h => Flat.inner _ _) (fun q hq b hb => (Flat.on _ _ hb).elim) rfl rfl) rfl fun v281 => gRn (ofB fl_57_4 rfl<|.nl)<|gsr 4 ti_30 rfl (aO 0 rfl) rfl<|nK k280<|gL<|gRn (oM 1 rfl<|.nl)<|fun a283 w283 h283 => ?_; clear h279
      have h284 := h283.sel (L' := [_, _, _, _, _]) [1, 2, 3, 0, 4] rfl
      have hp285 := h284.sh.passL (Lp := [_, _, _])
      refine wl_ex (x_call h284 bd_22 rfl rfl rfl rfl rfl (dTake_c _ _ X tv nv279 i279 d nl279 _ hp285 hTl ({ data := #[59] }))) (wanted_none rfl _) ?_
      rintro a286 w286 ⟨_, (⟨y286, hr286, hi286, rfl, hs286⟩ | ⟨c286, e286, dz286, hr286, hcn286, rfl, hs286⟩), hf286⟩
      ·skip
       have hl286 : i279 < X.T.length := hi286
       have h286 : St _ K W a286 w286 _ [_, _, _, _, _] := ⟨hf286, h284.sh.backI (Lp := [_, _, _]) hs286⟩
       clear hf286 hs286 h284 hp285
       refine gG h286<|nK k38<|sK fun _ k287 => gRn (oM 1 rfl<|olw 4 ti_57 rfl rfl<|.nl)<|fun a288 w288 h288 => ?_; clear h286
       have hp289 := h288.sh.passL (Lp := [_, _, _, _])
       refine wl_ex (x_call h288 bd_24 rfl rfl rfl rfl rfl (dNode_c _ _ X tv nv279 nl279 (i279 + 1) _ _ _ _ 11 0 (atT X i) (⟨#[]⟩) (⟨v281, [y279]⟩ : Ls Int) hp289 (by first | omega | (simp only [lens9]; omega)))) (wanted_none rfl _) ?_
       rintro a290 w290 ⟨_, ⟨nv290, rfl, hs290⟩, hf290⟩
       have hm290 : (nl279 ++ [(⟨11, 0, (atT X i), ⟨#[]⟩, (⟨v281, [y279]⟩ : Ls Int)⟩ : NdL)]).length = nl279.length + 1 := (by simp only [lens9])
       have hr290 : putP (⟨11, 0, (atT X i), ⟨#[]⟩, [y279]⟩ : Nd) ⟨(i279 + 1), d, nl279.map NdL.nd⟩ = .ok (((nl279.length : Nat) : Int), ⟨(i279 + 1), d, (nl279 ++ [(⟨11, 0, (atT X i), ⟨#[]⟩, (⟨v281, [y279]⟩ : Ls Int)⟩ : NdL)]).map NdL.nd⟩) := put_eq (x := (⟨11, 0, (atT X i), ⟨#[]⟩, (⟨v281, [y279]⟩ : Ls Int)⟩ : NdL))
       have h290 : St _ K W a290 w290 _ [_, _, _, _] := ⟨hf290, h288.sh.backI (Lp := [_, _, _, _]) hs290⟩
       clear hf290 hs290 h288 hp289
       refine gG h290<|gRn (oM 1 rfl<|.nl)<|nK k287<|gR<|fun a291 w291 h291 => x_ret1 (fn := Tryz.f44) (t := 2) rfl h291 rfl <| .inl ⟨((nl279.length : Nat) : Int), (i279 + 1), nv290, (nl279 ++ [(⟨11, 0, (atT X i), ⟨#[]⟩, (⟨v281, [y279]⟩ : Ls Int)⟩ : NdL)]), ?_, rfl, (h291.sh.sel [0, 1, 2] rfl)⟩; clear h290
       exact (by show stepP X _ _ _ = _; simp only [stepP, andP, ne_lock, isL2, ↓reduceIte, Bool.false_eq_true, eq_self, Nat.add_sub_cancel, List.cons_append, List.nil_append, Bool.or_false, Bool.or_true, Bool.true_or, Bool.false_or, Bool.or_self, ne_3345, hr273, hr279, hr286, hr290, hc129, hc218, hc265, hc268])
      have h286 : St _ K W a286 w286 _ [_, _, _, _, _] := ⟨hf286, h284.sh.backI (Lp := [_, _, _]) hs286⟩
      clear hf286 hs286 h284 hp285
      refine gG h286<|nK k38<|sK fun _ k292 => gRn (oM 1 rfl<|olw 4 ti_57 rfl rfl<|.nl)<|fun a293 w293 h293 => ?_; clear h286
      have hp294 := h293.sh.passL (Lp := [_, _, _, _])
      refine wl_ex (x_call h293 bd_24 rfl rfl rfl rfl rfl (dNode_c _ _ X tv nv279 nl279 X.T.length _ _ _ _ 11 0 (atT X i) (⟨#[]⟩) (⟨v281, [y279]⟩ : Ls Int) hp294 (by first | omega | (simp only [lens9]; omega)))) (wanted_none rfl _) ?_
      rintro a295 w295 ⟨_, ⟨nv295, rfl, hs295⟩, hf295⟩
      have hm295 : (nl279 ++ [(⟨11, 0, (atT X i), ⟨#[]⟩, (⟨v281, [y279]⟩ : Ls Int)⟩ : NdL)]).length = nl279.length + 1 := (by simp only [lens9])
      have h295 : St _ K W a295 w295 _ [_, _, _, _] := ⟨hf295, h293.sh.backI (Lp := [_, _, _, _]) hs295⟩
      clear hf295 hs295 h293 hp294
      refine gG h295<|gRn (oM 1 rfl<|.nl)<|nK k292<|gR<|fun a296 w296 h296 => x_ret1 (fn := Tryz.f44) (t := 2) rfl h296 rfl <| .inr ⟨c286, e286, dz286, ((nl279.length : Nat) : Int), nv295, (nl279 ++ [(⟨11, 0, (atT X i), ⟨#[]⟩, (⟨v281, [y279]⟩ : Ls Int)⟩ : NdL)]), ?_, hcn286, rfl, (by first | omega | (simp only [lens9] at *; omega)), (h296.sh.sel [0, 1, 2] rfl)⟩; clear h295
      exact (by show stepP X _ _ _ = _; simp only [stepP, andP, ne_lock, isL2, ↓reduceIte, Bool.false_eq_true, eq_self, Nat.add_sub_cancel, List.cons_append, List.nil_append, Bool.or_false, Bool.or_true, Bool.true_or, Bool.false_or, Bool.or_self, ne_3345, hr273, hr279, hr286, hc129, hc218, hc265, hc268])
     have hq279 : nl279.length ≤ 10000 + 10 * f := hq9279
     have h279 : St _ K W a279 w279 _ [_, _, _, _] := ⟨hf279, h277.sh.backI (Lp := [_, _, _]) hs279⟩
     clear hf279 hs279 h277 hp278
     refine gG h279<|gRn (oM 1 rfl<|.nl)<|nK k276<|sK fun _ k297 => gRn (oM 1 rfl<|.nl)<|gE1 (fun _ _ h_ => x_lit (n := 1) (cs := [.int .i64 y279]) ([y279] : List Int) h_ sl_30 ti_3 rfl rfl rfl (by decide) rfl (by kernel_rfl) rfl (fun q hq w h => Flat.inner _ _) (fun q hq b hb => (Flat.on _ _ hb).elim) rfl rfl) rfl fun v298 => gRn (ofB fl_57_4 rfl<|.nl)<|gsr 4 ti_30 rfl (aO 0 rfl) rfl<|nK k297<|gL<|gRn (oM 1 rfl<|.nl)<|fun a300 w300 h300 => ?_; clear h279
     have h301 := h300.sel (L' := [_, _, _, _, _]) [1, 2, 3, 0, 4] rfl
     have hp302 := h301.sh.passL (Lp := [_, _, _])
     refine wl_ex (x_call h301 bd_22 rfl rfl rfl rfl rfl (dTake_b _ _ X tv nv279 nl279 dz279 c279 e279 _ hp302 hTl hcn279 ({ data := #[59] }))) (wanted_none rfl _) ?_
     rintro a303 w303 ⟨_, ⟨dz303, rfl, hs303⟩, hf303⟩
     have h303 : St _ K W a303 w303 _ [_, _, _, _, _] := ⟨hf303, h301.sh.backI (Lp := [_, _, _]) hs303⟩
     clear hf303 hs303 h301 hp302
     refine gG h303<|nK k38<|sK fun _ k304 => gRn (oM 1 rfl<|olw 4 ti_57 rfl rfl<|.nl)<|fun a305 w305 h305 => ?_; clear h303
     have hp306 := h305.sh.passL (Lp := [_, _, _, _])
     refine wl_ex (x_call h305 bd_24 rfl rfl rfl rfl rfl (dNode_c _ _ X tv nv279 nl279 X.T.length _ _ _ _ 11 0 (atT X i) (⟨#[]⟩) (⟨v298, [y279]⟩ : Ls Int) hp306 (by first | omega | (simp only [lens9]; omega)))) (wanted_none rfl _) ?_
     rintro a307 w307 ⟨_, ⟨nv307, rfl, hs307⟩, hf307⟩
     have hm307 : (nl279 ++ [(⟨11, 0, (atT X i), ⟨#[]⟩, (⟨v298, [y279]⟩ : Ls Int)⟩ : NdL)]).length = nl279.length + 1 := (by simp only [lens9])
     have h307 : St _ K W a307 w307 _ [_, _, _, _] := ⟨hf307, h305.sh.backI (Lp := [_, _, _, _]) hs307⟩
     clear hf307 hs307 h305 hp306
     refine gG h307<|gRn (oM 1 rfl<|.nl)<|nK k304<|gR<|fun a308 w308 h308 => x_ret1 (fn := Tryz.f44) (t := 2) rfl h308 rfl <| .inr ⟨c279, e279, dz303, ((nl279.length : Nat) : Int), nv307, (nl279 ++ [(⟨11, 0, (atT X i), ⟨#[]⟩, (⟨v298, [y279]⟩ : Ls Int)⟩ : NdL)]), ?_, hcn279, rfl, (by first | omega | (simp only [lens9] at *; omega)), (h308.sh.sel [0, 1, 2] rfl)⟩; clear h307
     exact (by show stepP X _ _ _ = _; simp only [stepP, andP, ne_lock, isL2, ↓reduceIte, Bool.false_eq_true, eq_self, Nat.add_sub_cancel, List.cons_append, List.nil_append, Bool.or_false, Bool.or_true, Bool.true_or, Bool.false_or, Bool.or_self, ne_3345, hr273, hr279, hc129, hc218, hc265, hc268])
    exact absurd (hr273.symm.trans (take_ok (by assumption))) (by simp)
   have hc309 : isT X i ({ data := #[112, 114, 105, 110, 116] }) = false := (is1_t hl9 (.inl hk9)).trans (decide_eq_false (by assumption))
   refine gK fun _ k310 => sG (oV (r_eqlStr (s := ((nth X.T i).t)) (t := ({ data := #[108, 111, 99, 107] })) rfl rfl rfl) rfl<|oM 1 rfl<|.nl)<|gF [0, 4, 5, 53, 124] rfl<|gcd rfl (fun hb312 hp312 => ?_) fun hb312 hp312 => ?_
   ·skip
    have hc313 : isT X i ({ data := #[108, 111, 99, 107] }) = true := (is1_t hl9 (.inl hk9)).trans (decide_eq_true (by assumption))
    have hu313 : (nth X.T i).t = { data := #[108, 111, 99, 107] } := (by assumption)
    refine gS<|hK k310<|gcT rfl hb312<|sK fun _ k314 => gRn (oM 2 rfl<|.nl)<|fun a315 w315 h315 => ?_
    have h316 := h315.sel (L' := [_, _, _, _]) [1, 2, 3, 0] rfl
    have hp317 := h316.sh.passL (Lp := [_, _, _])
    refine wl_ex (x_call h316 bd_22 rfl rfl rfl rfl rfl (dTake_c _ _ X tv nv i d nl _ hp317 hTl ((nth X.T i).t))) (wanted_none rfl _) ?_
    rintro a318 w318 ⟨_, (⟨y318, hr318, hi318, rfl, hs318⟩ | ⟨c318, e318, dz318, hr318, hcn318, rfl, hs318⟩), hf318⟩
    ·skip
     have hl318 : i < X.T.length := hi318
     have h318 : St _ K W a318 w318 _ [_, _, _, _] := ⟨hf318, h316.sh.backI (Lp := [_, _, _]) hs318⟩
     clear hf318 hs318 h316 hp317
     refine gG h318<|nK k314<|sK fun _ k319 => gRn (ofB fl_57_0 rfl<|.nl)<|gst 3 ti_3 rfl rfl rfl<|nK k319<|gK fun _ k321 => sG (oM 1 rfl<|oV (r_eqlStr (s := ((nth X.T i).t)) (t := ({ data := #[117, 110, 108, 111, 99, 107] })) rfl rfl rfl) rfl<|.nl)<|gcF rfl (decide_eq_false (fun h9 => absurd ((show (nth X.T i).t = { data := #[108, 111, 99, 107] } by assumption).symm.trans h9) (by decide)))<|gS<|hK k321<|sK fun _ k323 => gRn (oM 1 rfl<|.nl)<|fun a324 w324 h324 => ?_; clear h318
     have hp325 := h324.sh.passL (Lp := [_, _, _])
     refine wl_ex (x_call h324 bd_43 rfl rfl rfl rfl rfl (dOpen_c _ _ X tv nv (i + 1) d nl _ hp325 hTl (by omega) ({ data := #[40] }))) (wanted_none rfl _) ?_
     rintro a326 w326 ⟨_, (⟨y326, hr326, hi326, rfl, hs326⟩ | ⟨c326, e326, dz326, hr326, hcn326, rfl, hs326⟩), hf326⟩
     ·skip
      have hl326 : (i + 1) < X.T.length := hi326
      have hd326 := open_d20 hr326
      have h326 : St _ K W a326 w326 _ [_, _, _, _] := ⟨hf326, h324.sh.backI (Lp := [_, _, _]) hs326⟩
      clear hf326 hs326 h324 hp325
      refine gG h326<|nK k323<|sK fun _ k327 => gRn (oM 1 rfl<|.nl)<|fun a328 w328 h328 => ?_; clear h326
      have hp329 := h328.sh.passL (Lp := [_, _, _])
      refine wl_ex (x_call h328 bd_41 rfl rfl rfl rfl rfl (dName_c _ _ X tv nv ((i + 1) + 1) (d + 1) nl _ hp329 hTl)) (wanted_none rfl _) ?_
      rintro a330 w330 ⟨_, (⟨y330, hr330, hi330, rfl, hs330⟩ | ⟨c330, e330, dz330, hr330, hcn330, rfl, hs330⟩), hf330⟩
      ·skip
       have hl330 : ((i + 1) + 1) < X.T.length := hi330
       have h330 : St _ K W a330 w330 _ [_, _, _, _] := ⟨hf330, h328.sh.backI (Lp := [_, _, _]) hs330⟩
       clear hf330 hs330 h328 hp329
       refine gG h330<|gRn (ofB fl_57_3 rfl<|.nl)<|gst 3 ti_9 rfl rfl rfl<|nK k327<|sK fun _ k332 => gRn (oM 1 rfl<|.nl)<|fun a333 w333 h333 => ?_; clear h330
       have hp334 := h333.sh.passL (Lp := [_, _, _])
       refine wl_ex (x_call h333 bd_45 rfl rfl rfl rfl rfl (dShut_c _ _ X tv nv (((i + 1) + 1) + 1) (d + 1) nl _ hp334 hTl (by omega) ({ data := #[41] }))) (wanted_none rfl _) ?_
       rintro a335 w335 ⟨_, (⟨y335, hr335, hi335, rfl, hs335⟩ | ⟨c335, e335, dz335, hr335, hcn335, rfl, hs335⟩), hf335⟩
       ·skip
        have hl335 : (((i + 1) + 1) + 1) < X.T.length := hi335
        have h335 : St _ K W a335 w335 _ [_, _, _, _] := ⟨hf335, h333.sh.backI (Lp := [_, _, _]) hs335⟩
        clear hf335 hs335 h333 hp334
        refine gG h335<|nK k332<|gL<|gRn (oM 1 rfl<|.nl)<|fun a336 w336 h336 => ?_; clear h335
        have hp337 := h336.sh.passL (Lp := [_, _, _])
        refine wl_ex (x_call h336 bd_22 rfl rfl rfl rfl rfl (dTake_c _ _ X tv nv ((((i + 1) + 1) + 1) + 1) d nl _ hp337 hTl ({ data := #[59] }))) (wanted_none rfl _) ?_
        rintro a338 w338 ⟨_, (⟨y338, hr338, hi338, rfl, hs338⟩ | ⟨c338, e338, dz338, hr338, hcn338, rfl, hs338⟩), hf338⟩
        ·skip
         have hl338 : ((((i + 1) + 1) + 1) + 1) < X.T.length := hi338
         have h338 : St _ K W a338 w338 _ [_, _, _, _] := ⟨hf338, h336.sh.backI (Lp := [_, _, _]) hs338⟩
         clear hf338 hs338 h336 hp337
         refine gG h338<|nK k38<|sK fun _ k339 => gRn (oM 1 rfl<|olw 3 ti_57 rfl rfl<|.nl)<|fun a340 w340 h340 => ?_; clear h338
         have h342 := h340.nil (α := Int) 3
         clear h340
         have h343 := h342.sel (L' := [_, _, _, _, _]) [1, 2, 3, 0, 4] rfl
         have hp344 := h343.sh.passL (Lp := [_, _, _, _])
         refine wl_ex (x_call h343 bd_24 rfl rfl rfl rfl rfl (dNode_c _ _ X tv nv nl (((((i + 1) + 1) + 1) + 1) + 1) _ _ _ _ 12 0 (atT X i) y330.t (⟨.slice none 0 0, []⟩ : Ls Int) hp344 (by first | omega | (simp only [lens9]; omega)))) (wanted_none rfl _) ?_
         rintro a345 w345 ⟨_, ⟨nv345, rfl, hs345⟩, hf345⟩
         have hm345 : (nl ++ [(⟨12, 0, (atT X i), y330.t, (⟨.slice none 0 0, []⟩ : Ls Int)⟩ : NdL)]).length = nl.length + 1 := (by simp only [lens9])
         have hr345 : putP (⟨12, 0, (atT X i), y330.t, []⟩ : Nd) ⟨(((((i + 1) + 1) + 1) + 1) + 1), d, nl.map NdL.nd⟩ = .ok (((nl.length : Nat) : Int), ⟨(((((i + 1) + 1) + 1) + 1) + 1), d, (nl ++ [(⟨12, 0, (atT X i), y330.t, (⟨.slice none 0 0, []⟩ : Ls Int)⟩ : NdL)]).map NdL.nd⟩) := put_eq (x := (⟨12, 0, (atT X i), y330.t, (⟨.slice none 0 0, []⟩ : Ls Int)⟩ : NdL))
         have h345 : St _ K W a345 w345 _ [_, _, _, _] := ⟨hf345, h343.sh.backI (Lp := [_, _, _, _]) hs345⟩
         clear hf345 hs345 h343 hp344
         refine gG h345<|gRn (oM 1 rfl<|.nl)<|nK k339<|gF [2] rfl<|gR<|fun a346 w346 h346 => x_ret1 (fn := Tryz.f44) (t := 2) rfl h346 rfl <| .inl ⟨((nl.length : Nat) : Int), (((((i + 1) + 1) + 1) + 1) + 1), nv345, (nl ++ [(⟨12, 0, (atT X i), y330.t, (⟨.slice none 0 0, []⟩ : Ls Int)⟩ : NdL)]), ?_, rfl, (h346.sh.sel [0, 1, 2] rfl)⟩; clear h345
         exact (by show stepP X _ _ _ = _; simp only [stepP, andP, ne_lock, isL2, ↓reduceIte, Bool.false_eq_true, eq_self, Nat.add_sub_cancel, List.cons_append, List.nil_append, Bool.or_false, Bool.or_true, Bool.true_or, Bool.false_or, Bool.or_self, ne_3345, hr318, hr326, hr330, hr335, hr338, hr345, hc129, hc218, hc265, hc309, hu313, hc313])
        have h338 : St _ K W a338 w338 _ [_, _, _, _] := ⟨hf338, h336.sh.backI (Lp := [_, _, _]) hs338⟩
        clear hf338 hs338 h336 hp337
        refine gG h338<|nK k38<|sK fun _ k347 => gRn (oM 1 rfl<|olw 3 ti_57 rfl rfl<|.nl)<|fun a348 w348 h348 => ?_; clear h338
        have h350 := h348.nil (α := Int) 3
        clear h348
        have h351 := h350.sel (L' := [_, _, _, _, _]) [1, 2, 3, 0, 4] rfl
        have hp352 := h351.sh.passL (Lp := [_, _, _, _])
        refine wl_ex (x_call h351 bd_24 rfl rfl rfl rfl rfl (dNode_c _ _ X tv nv nl X.T.length _ _ _ _ 12 0 (atT X i) y330.t (⟨.slice none 0 0, []⟩ : Ls Int) hp352 (by first | omega | (simp only [lens9]; omega)))) (wanted_none rfl _) ?_
        rintro a353 w353 ⟨_, ⟨nv353, rfl, hs353⟩, hf353⟩
        have hm353 : (nl ++ [(⟨12, 0, (atT X i), y330.t, (⟨.slice none 0 0, []⟩ : Ls Int)⟩ : NdL)]).length = nl.length + 1 := (by simp only [lens9])
        have h353 : St _ K W a353 w353 _ [_, _, _, _] := ⟨hf353, h351.sh.backI (Lp := [_, _, _, _]) hs353⟩
        clear hf353 hs353 h351 hp352
        refine gG h353<|gRn (oM 1 rfl<|.nl)<|nK k347<|gF [2] rfl<|gR<|fun a354 w354 h354 => x_ret1 (fn := Tryz.f44) (t := 2) rfl h354 rfl <| .inr ⟨c338, e338, dz338, ((nl.length : Nat) : Int), nv353, (nl ++ [(⟨12, 0, (atT X i), y330.t, (⟨.slice none 0 0, []⟩ : Ls Int)⟩ : NdL)]), ?_, hcn338, rfl, (by first | omega | (simp only [lens9] at *; omega)), (h354.sh.sel [0, 1, 2] rfl)⟩; clear h353
        exact (by show stepP X _ _ _ = _; simp only [stepP, andP, ne_lock, isL2, ↓reduceIte, Bool.false_eq_true, eq_self, Nat.add_sub_cancel, List.cons_append, List.nil_append, Bool.or_false, Bool.or_true, Bool.true_or, Bool.false_or, Bool.or_self, ne_3345, hr318, hr326, hr330, hr335, hr338, hc129, hc218, hc265, hc309, hu313, hc313])
       have h335 : St _ K W a335 w335 _ [_, _, _, _] := ⟨hf335, h333.sh.backI (Lp := [_, _, _]) hs335⟩
       clear hf335 hs335 h333 hp334
       refine gG h335<|nK k332<|gL<|gRn (oM 1 rfl<|.nl)<|fun a355 w355 h355 => ?_; clear h335
       have hp356 := h355.sh.passL (Lp := [_, _, _])
       refine wl_ex (x_call h355 bd_22 rfl rfl rfl rfl rfl (dTake_b _ _ X tv nv nl dz335 c335 e335 _ hp356 hTl hcn335 ({ data := #[59] }))) (wanted_none rfl _) ?_
       rintro a357 w357 ⟨_, ⟨dz357, rfl, hs357⟩, hf357⟩
       have h357 : St _ K W a357 w357 _ [_, _, _, _] := ⟨hf357, h355.sh.backI (Lp := [_, _, _]) hs357⟩
       clear hf357 hs357 h355 hp356
       refine gG h357<|nK k38<|sK fun _ k358 => gRn (oM 1 rfl<|olw 3 ti_57 rfl rfl<|.nl)<|fun a359 w359 h359 => ?_; clear h357
       have h361 := h359.nil (α := Int) 3
       clear h359
       have h362 := h361.sel (L' := [_, _, _, _, _]) [1, 2, 3, 0, 4] rfl
       have hp363 := h362.sh.passL (Lp := [_, _, _, _])
       refine wl_ex (x_call h362 bd_24 rfl rfl rfl rfl rfl (dNode_c _ _ X tv nv nl X.T.length _ _ _ _ 12 0 (atT X i) y330.t (⟨.slice none 0 0, []⟩ : Ls Int) hp363 (by first | omega | (simp only [lens9]; omega)))) (wanted_none rfl _) ?_
       rintro a364 w364 ⟨_, ⟨nv364, rfl, hs364⟩, hf364⟩
       have hm364 : (nl ++ [(⟨12, 0, (atT X i), y330.t, (⟨.slice none 0 0, []⟩ : Ls Int)⟩ : NdL)]).length = nl.length + 1 := (by simp only [lens9])
       have h364 : St _ K W a364 w364 _ [_, _, _, _] := ⟨hf364, h362.sh.backI (Lp := [_, _, _, _]) hs364⟩
       clear hf364 hs364 h362 hp363
       refine gG h364<|gRn (oM 1 rfl<|.nl)<|nK k358<|gF [2] rfl<|gR<|fun a365 w365 h365 => x_ret1 (fn := Tryz.f44) (t := 2) rfl h365 rfl <| .inr ⟨c335, e335, dz357, ((nl.length : Nat) : Int), nv364, (nl ++ [(⟨12, 0, (atT X i), y330.t, (⟨.slice none 0 0, []⟩ : Ls Int)⟩ : NdL)]), ?_, hcn335, rfl, (by first | omega | (simp only [lens9] at *; omega)), (h365.sh.sel [0, 1, 2] rfl)⟩; clear h364
       exact (by show stepP X _ _ _ = _; simp only [stepP, andP, ne_lock, isL2, ↓reduceIte, Bool.false_eq_true, eq_self, Nat.add_sub_cancel, List.cons_append, List.nil_append, Bool.or_false, Bool.or_true, Bool.true_or, Bool.false_or, Bool.or_self, ne_3345, hr318, hr326, hr330, hr335, hc129, hc218, hc265, hc309, hu313, hc313])
      have h330 : St _ K W a330 w330 _ [_, _, _, _] := ⟨hf330, h328.sh.backI (Lp := [_, _, _]) hs330⟩
      clear hf330 hs330 h328 hp329
      refine gG h330<|gRn (ofB fl_57_3 rfl<|.nl)<|gst 3 ti_9 rfl rfl rfl<|nK k327<|sK fun _ k367 => gRn (oM 1 rfl<|.nl)<|fun a368 w368 h368 => ?_; clear h330
      have hp369 := h368.sh.passL (Lp := [_, _, _])
      refine wl_ex (x_call h368 bd_45 rfl rfl rfl rfl rfl (dShut_b _ _ X tv nv nl dz330 c330 e330 _ hp369 hTl hcn330 ({ data := #[41] }))) (wanted_none rfl _) ?_
      rintro a370 w370 ⟨_, ⟨dz370, rfl, hs370⟩, hf370⟩
      have h370 : St _ K W a370 w370 _ [_, _, _, _] := ⟨hf370, h368.sh.backI (Lp := [_, _, _]) hs370⟩
      clear hf370 hs370 h368 hp369
      refine gG h370<|nK k367<|gL<|gRn (oM 1 rfl<|.nl)<|fun a371 w371 h371 => ?_; clear h370
      have hp372 := h371.sh.passL (Lp := [_, _, _])
      refine wl_ex (x_call h371 bd_22 rfl rfl rfl rfl rfl (dTake_b _ _ X tv nv nl dz370 c330 e330 _ hp372 hTl hcn330 ({ data := #[59] }))) (wanted_none rfl _) ?_
      rintro a373 w373 ⟨_, ⟨dz373, rfl, hs373⟩, hf373⟩
      have h373 : St _ K W a373 w373 _ [_, _, _, _] := ⟨hf373, h371.sh.backI (Lp := [_, _, _]) hs373⟩
      clear hf373 hs373 h371 hp372
      refine gG h373<|nK k38<|sK fun _ k374 => gRn (oM 1 rfl<|olw 3 ti_57 rfl rfl<|.nl)<|fun a375 w375 h375 => ?_; clear h373
      have h377 := h375.nil (α := Int) 3
      clear h375
      have h378 := h377.sel (L' := [_, _, _, _, _]) [1, 2, 3, 0, 4] rfl
      have hp379 := h378.sh.passL (Lp := [_, _, _, _])
      refine wl_ex (x_call h378 bd_24 rfl rfl rfl rfl rfl (dNode_c _ _ X tv nv nl X.T.length _ _ _ _ 12 0 (atT X i) ({ data := #[] }) (⟨.slice none 0 0, []⟩ : Ls Int) hp379 (by first | omega | (simp only [lens9]; omega)))) (wanted_none rfl _) ?_
      rintro a380 w380 ⟨_, ⟨nv380, rfl, hs380⟩, hf380⟩
      have hm380 : (nl ++ [(⟨12, 0, (atT X i), { data := #[] }, (⟨.slice none 0 0, []⟩ : Ls Int)⟩ : NdL)]).length = nl.length + 1 := (by simp only [lens9])
      have h380 : St _ K W a380 w380 _ [_, _, _, _] := ⟨hf380, h378.sh.backI (Lp := [_, _, _, _]) hs380⟩
      clear hf380 hs380 h378 hp379
      refine gG h380<|gRn (oM 1 rfl<|.nl)<|nK k374<|gF [2] rfl<|gR<|fun a381 w381 h381 => x_ret1 (fn := Tryz.f44) (t := 2) rfl h381 rfl <| .inr ⟨c330, e330, dz373, ((nl.length : Nat) : Int), nv380, (nl ++ [(⟨12, 0, (atT X i), { data := #[] }, (⟨.slice none 0 0, []⟩ : Ls Int)⟩ : NdL)]), ?_, hcn330, rfl, (by first | omega | (simp only [lens9] at *; omega)), (h381.sh.sel [0, 1, 2] rfl)⟩; clear h380
      exact (by show stepP X _ _ _ = _; simp only [stepP, andP, ne_lock, isL2, ↓reduceIte, Bool.false_eq_true, eq_self, Nat.add_sub_cancel, List.cons_append, List.nil_append, Bool.or_false, Bool.or_true, Bool.true_or, Bool.false_or, Bool.or_self, ne_3345, hr318, hr326, hr330, hc129, hc218, hc265, hc309, hu313, hc313])
     have h326 : St _ K W a326 w326 _ [_, _, _, _] := ⟨hf326, h324.sh.backI (Lp := [_, _, _]) hs326⟩
     clear hf326 hs326 h324 hp325
     refine gG h326<|nK k323<|sK fun _ k382 => gRn (oM 1 rfl<|.nl)<|fun a383 w383 h383 => ?_; clear h326
     have hp384 := h383.sh.passL (Lp := [_, _, _])
     refine wl_ex (x_call h383 bd_41 rfl rfl rfl rfl rfl (dName_b _ _ X tv nv nl dz326 c326 e326 _ hp384 hTl hcn326)) (wanted_none rfl _) ?_
     rintro a385 w385 ⟨_, ⟨dz385, rfl, hs385⟩, hf385⟩
     have h385 : St _ K W a385 w385 _ [_, _, _, _] := ⟨hf385, h383.sh.backI (Lp := [_, _, _]) hs385⟩
     clear hf385 hs385 h383 hp384
     refine gG h385<|gRn (ofB fl_57_3 rfl<|.nl)<|gst 3 ti_9 rfl rfl rfl<|nK k382<|sK fun _ k387 => gRn (oM 1 rfl<|.nl)<|fun a388 w388 h388 => ?_; clear h385
     have hp389 := h388.sh.passL (Lp := [_, _, _])
     refine wl_ex (x_call h388 bd_45 rfl rfl rfl rfl rfl (dShut_b _ _ X tv nv nl dz385 c326 e326 _ hp389 hTl hcn326 ({ data := #[41] }))) (wanted_none rfl _) ?_
     rintro a390 w390 ⟨_, ⟨dz390, rfl, hs390⟩, hf390⟩
     have h390 : St _ K W a390 w390 _ [_, _, _, _] := ⟨hf390, h388.sh.backI (Lp := [_, _, _]) hs390⟩
     clear hf390 hs390 h388 hp389
     refine gG h390<|nK k387<|gL<|gRn (oM 1 rfl<|.nl)<|fun a391 w391 h391 => ?_; clear h390
     have hp392 := h391.sh.passL (Lp := [_, _, _])
     refine wl_ex (x_call h391 bd_22 rfl rfl rfl rfl rfl (dTake_b _ _ X tv nv nl dz390 c326 e326 _ hp392 hTl hcn326 ({ data := #[59] }))) (wanted_none rfl _) ?_
     rintro a393 w393 ⟨_, ⟨dz393, rfl, hs393⟩, hf393⟩
     have h393 : St _ K W a393 w393 _ [_, _, _, _] := ⟨hf393, h391.sh.backI (Lp := [_, _, _]) hs393⟩
     clear hf393 hs393 h391 hp392
     refine gG h393<|nK k38<|sK fun _ k394 => gRn (oM 1 rfl<|olw 3 ti_57 rfl rfl<|.nl)<|fun a395 w395 h395 => ?_; clear h393
     have h397 := h395.nil (α := Int) 3
     clear h395
     have h398 := h397.sel (L' := [_, _, _, _, _]) [1, 2, 3, 0, 4] rfl
     have hp399 := h398.sh.passL (Lp := [_, _, _, _])
     refine wl_ex (x_call h398 bd_24 rfl rfl rfl rfl rfl (dNode_c _ _ X tv nv nl X.T.length _ _ _ _ 12 0 (atT X i) ({ data := #[] }) (⟨.slice none 0 0, []⟩ : Ls Int) hp399 (by first | omega | (simp only [lens9]; omega)))) (wanted_none rfl _) ?_
     rintro a400 w400 ⟨_, ⟨nv400, rfl, hs400⟩, hf400⟩
     have hm400 : (nl ++ [(⟨12, 0, (atT X i), { data := #[] }, (⟨.slice none 0 0, []⟩ : Ls Int)⟩ : NdL)]).length = nl.length + 1 := (by simp only [lens9])
     have h400 : St _ K W a400 w400 _ [_, _, _, _] := ⟨hf400, h398.sh.backI (Lp := [_, _, _, _]) hs400⟩
     clear hf400 hs400 h398 hp399
     refine gG h400<|gRn (oM 1 rfl<|.nl)<|nK k394<|gF [2] rfl<|gR<|fun a401 w401 h401 => x_ret1 (fn := Tryz.f44) (t := 2) rfl h401 rfl <| .inr ⟨c326, e326, dz393, ((nl.length : Nat) : Int), nv400, (nl ++ [(⟨12, 0, (atT X i), { data := #[] }, (⟨.slice none 0 0, []⟩ : Ls Int)⟩ : NdL)]), ?_, hcn326, rfl, (by first | omega | (simp only [lens9] at *; omega)), (h401.sh.sel [0, 1, 2] rfl)⟩; clear h400
     exact (by show stepP X _ _ _ = _; simp only [stepP, andP, ne_lock, isL2, ↓reduceIte, Bool.false_eq_true, eq_self, Nat.add_sub_cancel, List.cons_append, List.nil_append, Bool.or_false, Bool.or_true, Bool.true_or, Bool.false_or, Bool.or_self, ne_3345, hr318, hr326, hc129, hc218, hc265, hc309, hu313, hc313])
    exact absurd (hr318.symm.trans (take_ok ((is1_t hl9 (.inl hk9)).trans (decide_eq_true rfl)))) (by simp)
   have hc402 : isT X i ({ data := #[108, 111, 99, 107] }) = false := (is1_t hl9 (.inl hk9)).trans (decide_eq_false (by assumption))
   refine gL<|gRn (oV (r_eqlStr (s := ((nth X.T i).t)) (t := ({ data := #[117, 110, 108, 111, 99, 107] })) rfl rfl rfl) rfl<|oM 1 rfl<|.nl)<|nK k310<|gcd rfl (fun hb403 hp403 => ?_) fun hb403 hp403 => ?_
   ·skip
    have hc404 : isT X i ({ data := #[117, 110, 108, 111, 99, 107] }) = true := (is1_t hl9 (.inl hk9)).trans (decide_eq_true (by assumption))
    have hu404 : (nth X.T i).t = { data := #[117, 110, 108, 111, 99, 107] } := (by assumption)
    refine sK fun _ k405 => gRn (oM 2 rfl<|.nl)<|fun a406 w406 h406 => ?_
    have h407 := h406.sel (L' := [_, _, _, _]) [1, 2, 3, 0] rfl
    have hp408 := h407.sh.passL (Lp := [_, _, _])
    refine wl_ex (x_call h407 bd_22 rfl rfl rfl rfl rfl (dTake_c _ _ X tv nv i d nl _ hp408 hTl ((nth X.T i).t))) (wanted_none rfl _) ?_
    rintro a409 w409 ⟨_, (⟨y409, hr409, hi409, rfl, hs409⟩ | ⟨c409, e409, dz409, hr409, hcn409, rfl, hs409⟩), hf409⟩
    ·skip
     have hl409 : i < X.T.length := hi409
     have h409 : St _ K W a409 w409 _ [_, _, _, _] := ⟨hf409, h407.sh.backI (Lp := [_, _, _]) hs409⟩
     clear hf409 hs409 h407 hp408
     refine gG h409<|nK k405<|sK fun _ k410 => gRn (ofB fl_57_0 rfl<|.nl)<|gst 3 ti_3 rfl rfl rfl<|nK k410<|gK fun _ k412 => sG (oM 1 rfl<|oV (r_eqlStr (s := ((nth X.T i).t)) (t := ({ data := #[117, 110, 108, 111, 99, 107] })) rfl rfl rfl) rfl<|.nl)<|gcT rfl hb403<|gL<|gRn (ofB fl_57_0 rfl<|.nl)<|gst 3 ti_3 rfl rfl rfl<|nK k412<|sK fun _ k415 => gRn (oM 1 rfl<|.nl)<|fun a416 w416 h416 => ?_; clear h409
     have hp417 := h416.sh.passL (Lp := [_, _, _])
     refine wl_ex (x_call h416 bd_43 rfl rfl rfl rfl rfl (dOpen_c _ _ X tv nv (i + 1) d nl _ hp417 hTl (by omega) ({ data := #[40] }))) (wanted_none rfl _) ?_
     rintro a418 w418 ⟨_, (⟨y418, hr418, hi418, rfl, hs418⟩ | ⟨c418, e418, dz418, hr418, hcn418, rfl, hs418⟩), hf418⟩
     ·skip
      have hl418 : (i + 1) < X.T.length := hi418
      have hd418 := open_d20 hr418
      have h418 : St _ K W a418 w418 _ [_, _, _, _] := ⟨hf418, h416.sh.backI (Lp := [_, _, _]) hs418⟩
      clear hf418 hs418 h416 hp417
      refine gG h418<|nK k415<|sK fun _ k419 => gRn (oM 1 rfl<|.nl)<|fun a420 w420 h420 => ?_; clear h418
      have hp421 := h420.sh.passL (Lp := [_, _, _])
      refine wl_ex (x_call h420 bd_41 rfl rfl rfl rfl rfl (dName_c _ _ X tv nv ((i + 1) + 1) (d + 1) nl _ hp421 hTl)) (wanted_none rfl _) ?_
      rintro a422 w422 ⟨_, (⟨y422, hr422, hi422, rfl, hs422⟩ | ⟨c422, e422, dz422, hr422, hcn422, rfl, hs422⟩), hf422⟩
      ·skip
       have hl422 : ((i + 1) + 1) < X.T.length := hi422
       have h422 : St _ K W a422 w422 _ [_, _, _, _] := ⟨hf422, h420.sh.backI (Lp := [_, _, _]) hs422⟩
       clear hf422 hs422 h420 hp421
       refine gG h422<|gRn (ofB fl_57_3 rfl<|.nl)<|gst 3 ti_9 rfl rfl rfl<|nK k419<|sK fun _ k424 => gRn (oM 1 rfl<|.nl)<|fun a425 w425 h425 => ?_; clear h422
       have hp426 := h425.sh.passL (Lp := [_, _, _])
       refine wl_ex (x_call h425 bd_45 rfl rfl rfl rfl rfl (dShut_c _ _ X tv nv (((i + 1) + 1) + 1) (d + 1) nl _ hp426 hTl (by omega) ({ data := #[41] }))) (wanted_none rfl _) ?_
       rintro a427 w427 ⟨_, (⟨y427, hr427, hi427, rfl, hs427⟩ | ⟨c427, e427, dz427, hr427, hcn427, rfl, hs427⟩), hf427⟩
       ·skip
        have hl427 : (((i + 1) + 1) + 1) < X.T.length := hi427
        have h427 : St _ K W a427 w427 _ [_, _, _, _] := ⟨hf427, h425.sh.backI (Lp := [_, _, _]) hs427⟩
        clear hf427 hs427 h425 hp426
        refine gG h427<|nK k424<|gL<|gRn (oM 1 rfl<|.nl)<|fun a428 w428 h428 => ?_; clear h427
        have hp429 := h428.sh.passL (Lp := [_, _, _])
        refine wl_ex (x_call h428 bd_22 rfl rfl rfl rfl rfl (dTake_c _ _ X tv nv ((((i + 1) + 1) + 1) + 1) d nl _ hp429 hTl ({ data := #[59] }))) (wanted_none rfl _) ?_
        rintro a430 w430 ⟨_, (⟨y430, hr430, hi430, rfl, hs430⟩ | ⟨c430, e430, dz430, hr430, hcn430, rfl, hs430⟩), hf430⟩
        ·skip
         have hl430 : ((((i + 1) + 1) + 1) + 1) < X.T.length := hi430
         have h430 : St _ K W a430 w430 _ [_, _, _, _] := ⟨hf430, h428.sh.backI (Lp := [_, _, _]) hs430⟩
         clear hf430 hs430 h428 hp429
         refine gG h430<|nK k38<|sK fun _ k431 => gRn (oM 1 rfl<|olw 3 ti_57 rfl rfl<|.nl)<|fun a432 w432 h432 => ?_; clear h430
         have h434 := h432.nil (α := Int) 3
         clear h432
         have h435 := h434.sel (L' := [_, _, _, _, _]) [1, 2, 3, 0, 4] rfl
         have hp436 := h435.sh.passL (Lp := [_, _, _, _])
         refine wl_ex (x_call h435 bd_24 rfl rfl rfl rfl rfl (dNode_c _ _ X tv nv nl (((((i + 1) + 1) + 1) + 1) + 1) _ _ _ _ 13 0 (atT X i) y422.t (⟨.slice none 0 0, []⟩ : Ls Int) hp436 (by first | omega | (simp only [lens9]; omega)))) (wanted_none rfl _) ?_
         rintro a437 w437 ⟨_, ⟨nv437, rfl, hs437⟩, hf437⟩
         have hm437 : (nl ++ [(⟨13, 0, (atT X i), y422.t, (⟨.slice none 0 0, []⟩ : Ls Int)⟩ : NdL)]).length = nl.length + 1 := (by simp only [lens9])
         have hr437 : putP (⟨13, 0, (atT X i), y422.t, []⟩ : Nd) ⟨(((((i + 1) + 1) + 1) + 1) + 1), d, nl.map NdL.nd⟩ = .ok (((nl.length : Nat) : Int), ⟨(((((i + 1) + 1) + 1) + 1) + 1), d, (nl ++ [(⟨13, 0, (atT X i), y422.t, (⟨.slice none 0 0, []⟩ : Ls Int)⟩ : NdL)]).map NdL.nd⟩) := put_eq (x := (⟨13, 0, (atT X i), y422.t, (⟨.slice none 0 0, []⟩ : Ls Int)⟩ : NdL))
         have h437 : St _ K W a437 w437 _ [_, _, _, _] := ⟨hf437, h435.sh.backI (Lp := [_, _, _, _]) hs437⟩
         clear hf437 hs437 h435 hp436
         refine gG h437<|gRn (oM 1 rfl<|.nl)<|nK k431<|gF [2] rfl<|gR<|fun a438 w438 h438 => x_ret1 (fn := Tryz.f44) (t := 2) rfl h438 rfl <| .inl ⟨((nl.length : Nat) : Int), (((((i + 1) + 1) + 1) + 1) + 1), nv437, (nl ++ [(⟨13, 0, (atT X i), y422.t, (⟨.slice none 0 0, []⟩ : Ls Int)⟩ : NdL)]), ?_, rfl, (h438.sh.sel [0, 1, 2] rfl)⟩; clear h437
         exact (by show stepP X _ _ _ = _; simp only [stepP, andP, ne_lock, isL2, ↓reduceIte, Bool.false_eq_true, eq_self, Nat.add_sub_cancel, List.cons_append, List.nil_append, Bool.or_false, Bool.or_true, Bool.true_or, Bool.false_or, Bool.or_self, ne_3345, hr409, hr418, hr422, hr427, hr430, hr437, hc129, hc218, hc265, hc309, hc402, hu404, hc404])
        have h430 : St _ K W a430 w430 _ [_, _, _, _] := ⟨hf430, h428.sh.backI (Lp := [_, _, _]) hs430⟩
        clear hf430 hs430 h428 hp429
        refine gG h430<|nK k38<|sK fun _ k439 => gRn (oM 1 rfl<|olw 3 ti_57 rfl rfl<|.nl)<|fun a440 w440 h440 => ?_; clear h430
        have h442 := h440.nil (α := Int) 3
        clear h440
        have h443 := h442.sel (L' := [_, _, _, _, _]) [1, 2, 3, 0, 4] rfl
        have hp444 := h443.sh.passL (Lp := [_, _, _, _])
        refine wl_ex (x_call h443 bd_24 rfl rfl rfl rfl rfl (dNode_c _ _ X tv nv nl X.T.length _ _ _ _ 13 0 (atT X i) y422.t (⟨.slice none 0 0, []⟩ : Ls Int) hp444 (by first | omega | (simp only [lens9]; omega)))) (wanted_none rfl _) ?_
        rintro a445 w445 ⟨_, ⟨nv445, rfl, hs445⟩, hf445⟩
        have hm445 : (nl ++ [(⟨13, 0, (atT X i), y422.t, (⟨.slice none 0 0, []⟩ : Ls Int)⟩ : NdL)]).length = nl.length + 1 := (by simp only [lens9])
        have h445 : St _ K W a445 w445 _ [_, _, _, _] := ⟨hf445, h443.sh.backI (Lp := [_, _, _, _]) hs445⟩
        clear hf445 hs445 h443 hp444
        refine gG h445<|gRn (oM 1 rfl<|.nl)<|nK k439<|gF [2] rfl<|gR<|fun a446 w446 h446 => x_ret1 (fn := Tryz.f44) (t := 2) rfl h446 rfl <| .inr ⟨c430, e430, dz430, ((nl.length : Nat) : Int), nv445, (nl ++ [(⟨13, 0, (atT X i), y422.t, (⟨.slice none 0 0, []⟩ : Ls Int)⟩ : NdL)]), ?_, hcn430, rfl, (by first | omega | (simp only [lens9] at *; omega)), (h446.sh.sel [0, 1, 2] rfl)⟩; clear h445
        exact (by show stepP X _ _ _ = _; simp only [stepP, andP, ne_lock, isL2, ↓reduceIte, Bool.false_eq_true, eq_self, Nat.add_sub_cancel, List.cons_append, List.nil_append, Bool.or_false, Bool.or_true, Bool.true_or, Bool.false_or, Bool.or_self, ne_3345, hr409, hr418, hr422, hr427, hr430, hc129, hc218, hc265, hc309, hc402, hu404, hc404])
       have h427 : St _ K W a427 w427 _ [_, _, _, _] := ⟨hf427, h425.sh.backI (Lp := [_, _, _]) hs427⟩
       clear hf427 hs427 h425 hp426
       refine gG h427<|nK k424<|gL<|gRn (oM 1 rfl<|.nl)<|fun a447 w447 h447 => ?_; clear h427
       have hp448 := h447.sh.passL (Lp := [_, _, _])
       refine wl_ex (x_call h447 bd_22 rfl rfl rfl rfl rfl (dTake_b _ _ X tv nv nl dz427 c427 e427 _ hp448 hTl hcn427 ({ data := #[59] }))) (wanted_none rfl _) ?_
       rintro a449 w449 ⟨_, ⟨dz449, rfl, hs449⟩, hf449⟩
       have h449 : St _ K W a449 w449 _ [_, _, _, _] := ⟨hf449, h447.sh.backI (Lp := [_, _, _]) hs449⟩
       clear hf449 hs449 h447 hp448
       refine gG h449<|nK k38<|sK fun _ k450 => gRn (oM 1 rfl<|olw 3 ti_57 rfl rfl<|.nl)<|fun a451 w451 h451 => ?_; clear h449
       have h453 := h451.nil (α := Int) 3
       clear h451
       have h454 := h453.sel (L' := [_, _, _, _, _]) [1, 2, 3, 0, 4] rfl
       have hp455 := h454.sh.passL (Lp := [_, _, _, _])
       refine wl_ex (x_call h454 bd_24 rfl rfl rfl rfl rfl (dNode_c _ _ X tv nv nl X.T.length _ _ _ _ 13 0 (atT X i) y422.t (⟨.slice none 0 0, []⟩ : Ls Int) hp455 (by first | omega | (simp only [lens9]; omega)))) (wanted_none rfl _) ?_
       rintro a456 w456 ⟨_, ⟨nv456, rfl, hs456⟩, hf456⟩
       have hm456 : (nl ++ [(⟨13, 0, (atT X i), y422.t, (⟨.slice none 0 0, []⟩ : Ls Int)⟩ : NdL)]).length = nl.length + 1 := (by simp only [lens9])
       have h456 : St _ K W a456 w456 _ [_, _, _, _] := ⟨hf456, h454.sh.backI (Lp := [_, _, _, _]) hs456⟩
       clear hf456 hs456 h454 hp455
       refine gG h456<|gRn (oM 1 rfl<|.nl)<|nK k450<|gF [2] rfl<|gR<|fun a457 w457 h457 => x_ret1 (fn := Tryz.f44) (t := 2) rfl h457 rfl <| .inr ⟨c427, e427, dz449, ((nl.length : Nat) : Int), nv456, (nl ++ [(⟨13, 0, (atT X i), y422.t, (⟨.slice none 0 0, []⟩ : Ls Int)⟩ : NdL)]), ?_, hcn427, rfl, (by first | omega | (simp only [lens9] at *; omega)), (h457.sh.sel [0, 1, 2] rfl)⟩; clear h456
       exact (by show stepP X _ _ _ = _; simp only [stepP, andP, ne_lock, isL2, ↓reduceIte, Bool.false_eq_true, eq_self, Nat.add_sub_cancel, List.cons_append, List.nil_append, Bool.or_false, Bool.or_true, Bool.true_or, Bool.false_or, Bool.or_self, ne_3345, hr409, hr418, hr422, hr427, hc129, hc218, hc265, hc309, hc402, hu404, hc404])
      have h422 : St _ K W a422 w422 _ [_, _, _, _] := ⟨hf422, h420.sh.backI (Lp := [_, _, _]) hs422⟩
      clear hf422 hs422 h420 hp421
      refine gG h422<|gRn (ofB fl_57_3 rfl<|.nl)<|gst 3 ti_9 rfl rfl rfl<|nK k419<|sK fun _ k459 => gRn (oM 1 rfl<|.nl)<|fun a460 w460 h460 => ?_; clear h422
      have hp461 := h460.sh.passL (Lp := [_, _, _])
      refine wl_ex (x_call h460 bd_45 rfl rfl rfl rfl rfl (dShut_b _ _ X tv nv nl dz422 c422 e422 _ hp461 hTl hcn422 ({ data := #[41] }))) (wanted_none rfl _) ?_
      rintro a462 w462 ⟨_, ⟨dz462, rfl, hs462⟩, hf462⟩
      have h462 : St _ K W a462 w462 _ [_, _, _, _] := ⟨hf462, h460.sh.backI (Lp := [_, _, _]) hs462⟩
      clear hf462 hs462 h460 hp461
      refine gG h462<|nK k459<|gL<|gRn (oM 1 rfl<|.nl)<|fun a463 w463 h463 => ?_; clear h462
      have hp464 := h463.sh.passL (Lp := [_, _, _])
      refine wl_ex (x_call h463 bd_22 rfl rfl rfl rfl rfl (dTake_b _ _ X tv nv nl dz462 c422 e422 _ hp464 hTl hcn422 ({ data := #[59] }))) (wanted_none rfl _) ?_
      rintro a465 w465 ⟨_, ⟨dz465, rfl, hs465⟩, hf465⟩
      have h465 : St _ K W a465 w465 _ [_, _, _, _] := ⟨hf465, h463.sh.backI (Lp := [_, _, _]) hs465⟩
      clear hf465 hs465 h463 hp464
      refine gG h465<|nK k38<|sK fun _ k466 => gRn (oM 1 rfl<|olw 3 ti_57 rfl rfl<|.nl)<|fun a467 w467 h467 => ?_; clear h465
      have h469 := h467.nil (α := Int) 3
      clear h467
      have h470 := h469.sel (L' := [_, _, _, _, _]) [1, 2, 3, 0, 4] rfl
      have hp471 := h470.sh.passL (Lp := [_, _, _, _])
      refine wl_ex (x_call h470 bd_24 rfl rfl rfl rfl rfl (dNode_c _ _ X tv nv nl X.T.length _ _ _ _ 13 0 (atT X i) ({ data := #[] }) (⟨.slice none 0 0, []⟩ : Ls Int) hp471 (by first | omega | (simp only [lens9]; omega)))) (wanted_none rfl _) ?_
      rintro a472 w472 ⟨_, ⟨nv472, rfl, hs472⟩, hf472⟩
      have hm472 : (nl ++ [(⟨13, 0, (atT X i), { data := #[] }, (⟨.slice none 0 0, []⟩ : Ls Int)⟩ : NdL)]).length = nl.length + 1 := (by simp only [lens9])
      have h472 : St _ K W a472 w472 _ [_, _, _, _] := ⟨hf472, h470.sh.backI (Lp := [_, _, _, _]) hs472⟩
      clear hf472 hs472 h470 hp471
      refine gG h472<|gRn (oM 1 rfl<|.nl)<|nK k466<|gF [2] rfl<|gR<|fun a473 w473 h473 => x_ret1 (fn := Tryz.f44) (t := 2) rfl h473 rfl <| .inr ⟨c422, e422, dz465, ((nl.length : Nat) : Int), nv472, (nl ++ [(⟨13, 0, (atT X i), { data := #[] }, (⟨.slice none 0 0, []⟩ : Ls Int)⟩ : NdL)]), ?_, hcn422, rfl, (by first | omega | (simp only [lens9] at *; omega)), (h473.sh.sel [0, 1, 2] rfl)⟩; clear h472
      exact (by show stepP X _ _ _ = _; simp only [stepP, andP, ne_lock, isL2, ↓reduceIte, Bool.false_eq_true, eq_self, Nat.add_sub_cancel, List.cons_append, List.nil_append, Bool.or_false, Bool.or_true, Bool.true_or, Bool.false_or, Bool.or_self, ne_3345, hr409, hr418, hr422, hc129, hc218, hc265, hc309, hc402, hu404, hc404])
     have h418 : St _ K W a418 w418 _ [_, _, _, _] := ⟨hf418, h416.sh.backI (Lp := [_, _, _]) hs418⟩
     clear hf418 hs418 h416 hp417
     refine gG h418<|nK k415<|sK fun _ k474 => gRn (oM 1 rfl<|.nl)<|fun a475 w475 h475 => ?_; clear h418
     have hp476 := h475.sh.passL (Lp := [_, _, _])
     refine wl_ex (x_call h475 bd_41 rfl rfl rfl rfl rfl (dName_b _ _ X tv nv nl dz418 c418 e418 _ hp476 hTl hcn418)) (wanted_none rfl _) ?_
     rintro a477 w477 ⟨_, ⟨dz477, rfl, hs477⟩, hf477⟩
     have h477 : St _ K W a477 w477 _ [_, _, _, _] := ⟨hf477, h475.sh.backI (Lp := [_, _, _]) hs477⟩
     clear hf477 hs477 h475 hp476
     refine gG h477<|gRn (ofB fl_57_3 rfl<|.nl)<|gst 3 ti_9 rfl rfl rfl<|nK k474<|sK fun _ k479 => gRn (oM 1 rfl<|.nl)<|fun a480 w480 h480 => ?_; clear h477
     have hp481 := h480.sh.passL (Lp := [_, _, _])
     refine wl_ex (x_call h480 bd_45 rfl rfl rfl rfl rfl (dShut_b _ _ X tv nv nl dz477 c418 e418 _ hp481 hTl hcn418 ({ data := #[41] }))) (wanted_none rfl _) ?_
     rintro a482 w482 ⟨_, ⟨dz482, rfl, hs482⟩, hf482⟩
     have h482 : St _ K W a482 w482 _ [_, _, _, _] := ⟨hf482, h480.sh.backI (Lp := [_, _, _]) hs482⟩
     clear hf482 hs482 h480 hp481
     refine gG h482<|nK k479<|gL<|gRn (oM 1 rfl<|.nl)<|fun a483 w483 h483 => ?_; clear h482
     have hp484 := h483.sh.passL (Lp := [_, _, _])
     refine wl_ex (x_call h483 bd_22 rfl rfl rfl rfl rfl (dTake_b _ _ X tv nv nl dz482 c418 e418 _ hp484 hTl hcn418 ({ data := #[59] }))) (wanted_none rfl _) ?_
     rintro a485 w485 ⟨_, ⟨dz485, rfl, hs485⟩, hf485⟩
     have h485 : St _ K W a485 w485 _ [_, _, _, _] := ⟨hf485, h483.sh.backI (Lp := [_, _, _]) hs485⟩
     clear hf485 hs485 h483 hp484
     refine gG h485<|nK k38<|sK fun _ k486 => gRn (oM 1 rfl<|olw 3 ti_57 rfl rfl<|.nl)<|fun a487 w487 h487 => ?_; clear h485
     have h489 := h487.nil (α := Int) 3
     clear h487
     have h490 := h489.sel (L' := [_, _, _, _, _]) [1, 2, 3, 0, 4] rfl
     have hp491 := h490.sh.passL (Lp := [_, _, _, _])
     refine wl_ex (x_call h490 bd_24 rfl rfl rfl rfl rfl (dNode_c _ _ X tv nv nl X.T.length _ _ _ _ 13 0 (atT X i) ({ data := #[] }) (⟨.slice none 0 0, []⟩ : Ls Int) hp491 (by first | omega | (simp only [lens9]; omega)))) (wanted_none rfl _) ?_
     rintro a492 w492 ⟨_, ⟨nv492, rfl, hs492⟩, hf492⟩
     have hm492 : (nl ++ [(⟨13, 0, (atT X i), { data := #[] }, (⟨.slice none 0 0, []⟩ : Ls Int)⟩ : NdL)]).length = nl.length + 1 := (by simp only [lens9])
     have h492 : St _ K W a492 w492 _ [_, _, _, _] := ⟨hf492, h490.sh.backI (Lp := [_, _, _, _]) hs492⟩
     clear hf492 hs492 h490 hp491
     refine gG h492<|gRn (oM 1 rfl<|.nl)<|nK k486<|gF [2] rfl<|gR<|fun a493 w493 h493 => x_ret1 (fn := Tryz.f44) (t := 2) rfl h493 rfl <| .inr ⟨c418, e418, dz485, ((nl.length : Nat) : Int), nv492, (nl ++ [(⟨13, 0, (atT X i), { data := #[] }, (⟨.slice none 0 0, []⟩ : Ls Int)⟩ : NdL)]), ?_, hcn418, rfl, (by first | omega | (simp only [lens9] at *; omega)), (h493.sh.sel [0, 1, 2] rfl)⟩; clear h492
     exact (by show stepP X _ _ _ = _; simp only [stepP, andP, ne_lock, isL2, ↓reduceIte, Bool.false_eq_true, eq_self, Nat.add_sub_cancel, List.cons_append, List.nil_append, Bool.or_false, Bool.or_true, Bool.true_or, Bool.false_or, Bool.or_self, ne_3345, hr409, hr418, hc129, hc218, hc265, hc309, hc402, hu404, hc404])
    exact absurd (hr409.symm.trans (take_ok ((is1_t hl9 (.inl hk9)).trans (decide_eq_true rfl)))) (by simp)
   have hc494 : isT X i ({ data := #[117, 110, 108, 111, 99, 107] }) = false := (is1_t hl9 (.inl hk9)).trans (decide_eq_false (by assumption))
   have hu494 : ¬(nth X.T i).t = { data := #[117, 110, 108, 111, 99, 107] } := (by assumption)
   refine sG (oV (r_eqlStr (s := ((nth X.T i).t)) (t := ({ data := #[102, 101, 110, 99, 101] })) rfl rfl rfl) rfl<|oM 1 rfl<|.nl)<|gcd rfl (fun hb496 hp496 => ?_) fun hb496 hp496 => ?_
   ·skip
    have hc497 : isT X i ({ data := #[102, 101, 110, 99, 101] }) = true := (is1_t hl9 (.inl hk9)).trans (decide_eq_true (by assumption))
    refine sK fun _ k498 => gRn (oM 1 rfl<|.nl)<|fun a499 w499 h499 => ?_
    have h500 := h499.sel (L' := [_, _, _, _]) [1, 2, 3, 0] rfl
    have hp501 := h500.sh.passL (Lp := [_, _, _])
    refine wl_ex (x_call h500 bd_22 rfl rfl rfl rfl rfl (dTake_c _ _ X tv nv i d nl _ hp501 hTl ({ data := #[102, 101, 110, 99, 101] }))) (wanted_none rfl _) ?_
    rintro a502 w502 ⟨_, (⟨y502, hr502, hi502, rfl, hs502⟩ | ⟨c502, e502, dz502, hr502, hcn502, rfl, hs502⟩), hf502⟩
    ·skip
     have hl502 : i < X.T.length := hi502
     have h502 : St _ K W a502 w502 _ [_, _, _, _] := ⟨hf502, h500.sh.backI (Lp := [_, _, _]) hs502⟩
     clear hf502 hs502 h500 hp501
     refine gG h502<|nK k498<|sK fun _ k503 => gRn (ofB fl_57_0 rfl<|.nl)<|gst 3 ti_3 rfl rfl rfl<|nK k503<|gL<|gRn (oM 1 rfl<|.nl)<|fun a505 w505 h505 => ?_; clear h502
     have hp506 := h505.sh.passL (Lp := [_, _, _])
     refine wl_ex (x_call h505 bd_22 rfl rfl rfl rfl rfl (dTake_c _ _ X tv nv (i + 1) d nl _ hp506 hTl ({ data := #[59] }))) (wanted_none rfl _) ?_
     rintro a507 w507 ⟨_, (⟨y507, hr507, hi507, rfl, hs507⟩ | ⟨c507, e507, dz507, hr507, hcn507, rfl, hs507⟩), hf507⟩
     ·skip
      have hl507 : (i + 1) < X.T.length := hi507
      have h507 : St _ K W a507 w507 _ [_, _, _, _] := ⟨hf507, h505.sh.backI (Lp := [_, _, _]) hs507⟩
      clear hf507 hs507 h505 hp506
      refine gG h507<|nK k38<|sK fun _ k508 => gRn (oM 1 rfl<|olw 3 ti_57 rfl rfl<|.nl)<|fun a509 w509 h509 => ?_; clear h507
      have h511 := h509.nil (α := Int) 3
      clear h509
      have h512 := h511.sel (L' := [_, _, _, _, _]) [1, 2, 3, 0, 4] rfl
      have hp513 := h512.sh.passL (Lp := [_, _, _, _])
      refine wl_ex (x_call h512 bd_24 rfl rfl rfl rfl rfl (dNode_c _ _ X tv nv nl ((i + 1) + 1) _ _ _ _ 14 0 (atT X i) (⟨#[]⟩) (⟨.slice none 0 0, []⟩ : Ls Int) hp513 (by first | omega | (simp only [lens9]; omega)))) (wanted_none rfl _) ?_
      rintro a514 w514 ⟨_, ⟨nv514, rfl, hs514⟩, hf514⟩
      have hm514 : (nl ++ [(⟨14, 0, (atT X i), ⟨#[]⟩, (⟨.slice none 0 0, []⟩ : Ls Int)⟩ : NdL)]).length = nl.length + 1 := (by simp only [lens9])
      have hr514 : putP (⟨14, 0, (atT X i), ⟨#[]⟩, []⟩ : Nd) ⟨((i + 1) + 1), d, nl.map NdL.nd⟩ = .ok (((nl.length : Nat) : Int), ⟨((i + 1) + 1), d, (nl ++ [(⟨14, 0, (atT X i), ⟨#[]⟩, (⟨.slice none 0 0, []⟩ : Ls Int)⟩ : NdL)]).map NdL.nd⟩) := put_eq (x := (⟨14, 0, (atT X i), ⟨#[]⟩, (⟨.slice none 0 0, []⟩ : Ls Int)⟩ : NdL))
      have h514 : St _ K W a514 w514 _ [_, _, _, _] := ⟨hf514, h512.sh.backI (Lp := [_, _, _, _]) hs514⟩
      clear hf514 hs514 h512 hp513
      refine gG h514<|gRn (oM 1 rfl<|.nl)<|nK k508<|gR<|fun a515 w515 h515 => x_ret1 (fn := Tryz.f44) (t := 2) rfl h515 rfl <| .inl ⟨((nl.length : Nat) : Int), ((i + 1) + 1), nv514, (nl ++ [(⟨14, 0, (atT X i), ⟨#[]⟩, (⟨.slice none 0 0, []⟩ : Ls Int)⟩ : NdL)]), ?_, rfl, (h515.sh.sel [0, 1, 2] rfl)⟩; clear h514
      exact (by show stepP X _ _ _ = _; simp only [stepP, andP, ne_lock, isL2, ↓reduceIte, Bool.false_eq_true, eq_self, Nat.add_sub_cancel, List.cons_append, List.nil_append, Bool.or_false, Bool.or_true, Bool.true_or, Bool.false_or, Bool.or_self, ne_3345, hr502, hr507, hr514, hc129, hc218, hc265, hc309, hc402, hu494, hc494, hc497])
     have h507 : St _ K W a507 w507 _ [_, _, _, _] := ⟨hf507, h505.sh.backI (Lp := [_, _, _]) hs507⟩
     clear hf507 hs507 h505 hp506
     refine gG h507<|nK k38<|sK fun _ k516 => gRn (oM 1 rfl<|olw 3 ti_57 rfl rfl<|.nl)<|fun a517 w517 h517 => ?_; clear h507
     have h519 := h517.nil (α := Int) 3
     clear h517
     have h520 := h519.sel (L' := [_, _, _, _, _]) [1, 2, 3, 0, 4] rfl
     have hp521 := h520.sh.passL (Lp := [_, _, _, _])
     refine wl_ex (x_call h520 bd_24 rfl rfl rfl rfl rfl (dNode_c _ _ X tv nv nl X.T.length _ _ _ _ 14 0 (atT X i) (⟨#[]⟩) (⟨.slice none 0 0, []⟩ : Ls Int) hp521 (by first | omega | (simp only [lens9]; omega)))) (wanted_none rfl _) ?_
     rintro a522 w522 ⟨_, ⟨nv522, rfl, hs522⟩, hf522⟩
     have hm522 : (nl ++ [(⟨14, 0, (atT X i), ⟨#[]⟩, (⟨.slice none 0 0, []⟩ : Ls Int)⟩ : NdL)]).length = nl.length + 1 := (by simp only [lens9])
     have h522 : St _ K W a522 w522 _ [_, _, _, _] := ⟨hf522, h520.sh.backI (Lp := [_, _, _, _]) hs522⟩
     clear hf522 hs522 h520 hp521
     refine gG h522<|gRn (oM 1 rfl<|.nl)<|nK k516<|gR<|fun a523 w523 h523 => x_ret1 (fn := Tryz.f44) (t := 2) rfl h523 rfl <| .inr ⟨c507, e507, dz507, ((nl.length : Nat) : Int), nv522, (nl ++ [(⟨14, 0, (atT X i), ⟨#[]⟩, (⟨.slice none 0 0, []⟩ : Ls Int)⟩ : NdL)]), ?_, hcn507, rfl, (by first | omega | (simp only [lens9] at *; omega)), (h523.sh.sel [0, 1, 2] rfl)⟩; clear h522
     exact (by show stepP X _ _ _ = _; simp only [stepP, andP, ne_lock, isL2, ↓reduceIte, Bool.false_eq_true, eq_self, Nat.add_sub_cancel, List.cons_append, List.nil_append, Bool.or_false, Bool.or_true, Bool.true_or, Bool.false_or, Bool.or_self, ne_3345, hr502, hr507, hc129, hc218, hc265, hc309, hc402, hu494, hc494, hc497])
    exact absurd (hr502.symm.trans (take_ok (by assumption))) (by simp)
   have hc524 : isT X i ({ data := #[102, 101, 110, 99, 101] }) = false := (is1_t hl9 (.inl hk9)).trans (decide_eq_false (by assumption))
   refine gL<|gRn (oM 1 rfl<|.nl)<|fun a525 w525 h525 => ?_
   have h526 := h525.sel (L' := [_, _, _, _]) [1, 2, 3, 0] rfl
   have hp527 := h526.sh.passL (Lp := [_, _, _, _])
   refine wl_ex (x_call h526 bd_85 rfl rfl rfl rfl rfl (dAssign_c _ _ X tv nv i d nl f _ (atT X i) _ hp527 hTl (by omega) (by omega) (by first | omega | (simp only [lens9] at *; omega)) ih hTo (by omega) (by omega))) (wanted_none rfl _) ?_
   rintro a528 w528 ⟨_, (⟨k528, t528, kw528, kk528, i528, nv528, nl528, hr528, hm9528, rfl, hs528⟩ | ⟨c528, e528, dz528, k528, t528, kw528, kk528, nv528, nl528, hr528, hcn528, rfl, hq9528, hs528⟩), hf528⟩
   ·skip
    have hm528 : nl528.length ≤ 2 * i528 ∧ i528 ≤ X.T.length := hm9528
    have h528 : St _ K W a528 w528 _ [_, _, _, _, _] := ⟨hf528, h526.sh.backI (Lp := [_, _, _, _]) hs528⟩
    clear hf528 hs528 h526 hp527
    refine gG h528<|nK k38<|sK fun _ k529 => gRn (oM 1 rfl<|olw 3 ti_57 rfl rfl<|.nl)<|fun a530 w530 h530 => ?_; clear h528
    have h531 := h530.sel (L' := [_, _, _, _, _]) [0, 1, 2, 4, 3] rfl
    have hp532 := h531.sh.passL (Lp := [_, _, _, _])
    refine wl_ex (x_call h531 bd_24 rfl rfl rfl rfl rfl (dNode_c _ _ X tv nv528 nl528 i528 _ _ _ _ k528 0 (atT X i) t528 (⟨kw528, kk528⟩ : Ls Int) hp532 (by first | omega | (simp only [lens9]; omega)))) (wanted_none rfl _) ?_
    rintro a533 w533 ⟨_, ⟨nv533, rfl, hs533⟩, hf533⟩
    have hm533 : (nl528 ++ [(⟨k528, 0, (atT X i), t528, (⟨kw528, kk528⟩ : Ls Int)⟩ : NdL)]).length = nl528.length + 1 := (by simp only [lens9])
    have hr533 : putP (⟨k528, 0, (atT X i), t528, kk528⟩ : Nd) ⟨i528, d, nl528.map NdL.nd⟩ = .ok (((nl528.length : Nat) : Int), ⟨i528, d, (nl528 ++ [(⟨k528, 0, (atT X i), t528, (⟨kw528, kk528⟩ : Ls Int)⟩ : NdL)]).map NdL.nd⟩) := put_eq (x := (⟨k528, 0, (atT X i), t528, (⟨kw528, kk528⟩ : Ls Int)⟩ : NdL))
    have h533 : St _ K W a533 w533 _ [_, _, _, _] := ⟨hf533, h531.sh.backI (Lp := [_, _, _, _]) hs533⟩
    clear hf533 hs533 h531 hp532
    refine gG h533<|gRn (oM 1 rfl<|.nl)<|nK k529<|gR<|fun a534 w534 h534 => x_ret1 (fn := Tryz.f44) (t := 2) rfl h534 rfl <| .inl ⟨((nl528.length : Nat) : Int), i528, nv533, (nl528 ++ [(⟨k528, 0, (atT X i), t528, (⟨kw528, kk528⟩ : Ls Int)⟩ : NdL)]), ?_, rfl, (h534.sh.sel [0, 1, 2] rfl)⟩; clear h533
    exact (by show stepP X _ _ _ = _; simp only [stepP, andP, ne_lock, isL2, ↓reduceIte, Bool.false_eq_true, eq_self, Nat.add_sub_cancel, List.cons_append, List.nil_append, Bool.or_false, Bool.or_true, Bool.true_or, Bool.false_or, Bool.or_self, ne_3345, hr528, hr533, hc129, hc218, hc265, hc309, hc402, hu494, hc494, hc524])
   have hq528 : nl528.length ≤ 10000 + 10 * f + 8 := hq9528
   have h528 : St _ K W a528 w528 _ [_, _, _, _, _] := ⟨hf528, h526.sh.backI (Lp := [_, _, _, _]) hs528⟩
   clear hf528 hs528 h526 hp527
   refine gG h528<|nK k38<|sK fun _ k535 => gRn (oM 1 rfl<|olw 3 ti_57 rfl rfl<|.nl)<|fun a536 w536 h536 => ?_; clear h528
   have h537 := h536.sel (L' := [_, _, _, _, _]) [0, 1, 2, 4, 3] rfl
   have hp538 := h537.sh.passL (Lp := [_, _, _, _])
   refine wl_ex (x_call h537 bd_24 rfl rfl rfl rfl rfl (dNode_c _ _ X tv nv528 nl528 X.T.length _ _ _ _ k528 0 (atT X i) t528 (⟨kw528, kk528⟩ : Ls Int) hp538 (by first | omega | (simp only [lens9]; omega)))) (wanted_none rfl _) ?_
   rintro a539 w539 ⟨_, ⟨nv539, rfl, hs539⟩, hf539⟩
   have hm539 : (nl528 ++ [(⟨k528, 0, (atT X i), t528, (⟨kw528, kk528⟩ : Ls Int)⟩ : NdL)]).length = nl528.length + 1 := (by simp only [lens9])
   have h539 : St _ K W a539 w539 _ [_, _, _, _] := ⟨hf539, h537.sh.backI (Lp := [_, _, _, _]) hs539⟩
   clear hf539 hs539 h537 hp538
   refine gG h539<|gRn (oM 1 rfl<|.nl)<|nK k535<|gR<|fun a540 w540 h540 => x_ret1 (fn := Tryz.f44) (t := 2) rfl h540 rfl <| .inr ⟨c528, e528, dz528, ((nl528.length : Nat) : Int), nv539, (nl528 ++ [(⟨k528, 0, (atT X i), t528, (⟨kw528, kk528⟩ : Ls Int)⟩ : NdL)]), ?_, hcn528, rfl, (by first | omega | (simp only [lens9] at *; omega)), (h540.sh.sel [0, 1, 2] rfl)⟩; clear h539
   exact (by show stepP X _ _ _ = _; simp only [stepP, andP, ne_lock, isL2, ↓reduceIte, Bool.false_eq_true, eq_self, Nat.add_sub_cancel, List.cons_append, List.nil_append, Bool.or_false, Bool.or_true, Bool.true_or, Bool.false_or, Bool.or_self, ne_3345, hr528, hc129, hc218, hc265, hc309, hc402, hu494, hc494, hc524])
  have hw9 : ¬ (i < X.T.length ∧ (nth X.T i).k = 2) := (fun h9 => by first | exact absurd h9.1 (by assumption) | exact absurd h9.2 (by assumption))
  have hc541 : isT X i { data := #[105, 110, 116] } = false := isw_no (hTo _) hw9 (by simp [wordL])
  have hc542 : isT X i { data := #[105, 102] } = false := isw_no (hTo _) hw9 (by simp [wordL])
  have hc543 : isT X i { data := #[119, 104, 105, 108, 101] } = false := isw_no (hTo _) hw9 (by simp [wordL])
  have hc544 : isT X i { data := #[112, 114, 105, 110, 116] } = false := isw_no (hTo _) hw9 (by simp [wordL])
  have hc545 : isT X i { data := #[108, 111, 99, 107] } = false := isw_no (hTo _) hw9 (by simp [wordL])
  have hc546 : isT X i { data := #[117, 110, 108, 111, 99, 107] } = false := isw_no (hTo _) hw9 (by simp [wordL])
  have hc547 : isT X i { data := #[102, 101, 110, 99, 101] } = false := isw_no (hTo _) hw9 (by simp [wordL])
  refine gS<|hK k15<|sK fun _ k548 => gRn (oM 1 rfl<|oV (r_build (cs := [.int .i64 0, .int .i64 0, .int .i64 (atT X i), .string (⟨#[]⟩), (.slice none 0 0)]) rfl rfl (by kernel_rfl)) rfl<|.nl)<|gal ti_57 rfl fun b549 => gsw 0 ti_57 rfl rfl rfl<|nK k548<|gK fun _ k551 => sG (oM 1 rfl<|.nl)<|gB<|sG (oV (r_eqlStr (s := ({ data := #[] })) (t := ({ data := #[105, 110, 116] })) rfl rfl rfl) rfl<|oM 1 rfl<|.nl)<|gcF rfl (decide_eq_false (by decide))<|sG (oV (r_eqlStr (s := ({ data := #[] })) (t := ({ data := #[105, 102] })) rfl rfl rfl) rfl<|oM 1 rfl<|.nl)<|gcF rfl (decide_eq_false (by decide))<|sG (oV (r_eqlStr (s := ({ data := #[] })) (t := ({ data := #[119, 104, 105, 108, 101] })) rfl rfl rfl) rfl<|oM 1 rfl<|.nl)<|gcF rfl (decide_eq_false (by decide))<|sG (oV (r_eqlStr (s := ({ data := #[] })) (t := ({ data := #[112, 114, 105, 110, 116] })) rfl rfl rfl) rfl<|oM 1 rfl<|.nl)<|gcF rfl (decide_eq_false (by decide))<|gK fun _ k557 => sG (oV (r_eqlStr (s := ({ data := #[] })) (t := ({ data := #[108, 111, 99, 107] })) rfl rfl rfl) rfl<|oM 1 rfl<|.nl)<|gcF rfl (decide_eq_false (by decide))<|gL<|gRn (oV (r_eqlStr (s := ({ data := #[] })) (t := ({ data := #[117, 110, 108, 111, 99, 107] })) rfl rfl rfl) rfl<|oM 1 rfl<|.nl)<|nK k557<|gcF rfl (decide_eq_false (by decide))<|sG (oV (r_eqlStr (s := ({ data := #[] })) (t := ({ data := #[102, 101, 110, 99, 101] })) rfl rfl rfl) rfl<|oM 1 rfl<|.nl)<|gcF rfl (decide_eq_false (by decide))<|gL<|gRn (oM 1 rfl<|.nl)<|fun a560 w560 h560 => ?_
  have h561 := h560.sel (L' := [_, _, _, _]) [1, 2, 3, 0] rfl
  have hp562 := h561.sh.passL (Lp := [_, _, _, _])
  refine wl_ex (x_call h561 bd_85 rfl rfl rfl rfl rfl (dAssign_c _ _ X tv nv i d nl f _ (atT X i) _ hp562 hTl (by omega) (by omega) (by first | omega | (simp only [lens9] at *; omega)) ih hTo (by omega) (by omega))) (wanted_none rfl _) ?_
  rintro a563 w563 ⟨_, (⟨k563, t563, kw563, kk563, i563, nv563, nl563, hr563, hm9563, rfl, hs563⟩ | ⟨c563, e563, dz563, k563, t563, kw563, kk563, nv563, nl563, hr563, hcn563, rfl, hq9563, hs563⟩), hf563⟩
  ·skip
   have hm563 : nl563.length ≤ 2 * i563 ∧ i563 ≤ X.T.length := hm9563
   have h563 : St _ K W a563 w563 _ [_, _, _, _, _] := ⟨hf563, h561.sh.backI (Lp := [_, _, _, _]) hs563⟩
   clear hf563 hs563 h561 hp562
   refine gG h563<|nK k551<|sK fun _ k564 => gRn (oM 1 rfl<|olw 3 ti_57 rfl rfl<|.nl)<|fun a565 w565 h565 => ?_; clear h563
   have h566 := h565.sel (L' := [_, _, _, _, _]) [0, 1, 2, 4, 3] rfl
   have hp567 := h566.sh.passL (Lp := [_, _, _, _])
   refine wl_ex (x_call h566 bd_24 rfl rfl rfl rfl rfl (dNode_c _ _ X tv nv563 nl563 i563 _ _ _ _ k563 0 (atT X i) t563 (⟨kw563, kk563⟩ : Ls Int) hp567 (by first | omega | (simp only [lens9]; omega)))) (wanted_none rfl _) ?_
   rintro a568 w568 ⟨_, ⟨nv568, rfl, hs568⟩, hf568⟩
   have hm568 : (nl563 ++ [(⟨k563, 0, (atT X i), t563, (⟨kw563, kk563⟩ : Ls Int)⟩ : NdL)]).length = nl563.length + 1 := (by simp only [lens9])
   have hr568 : putP (⟨k563, 0, (atT X i), t563, kk563⟩ : Nd) ⟨i563, d, nl563.map NdL.nd⟩ = .ok (((nl563.length : Nat) : Int), ⟨i563, d, (nl563 ++ [(⟨k563, 0, (atT X i), t563, (⟨kw563, kk563⟩ : Ls Int)⟩ : NdL)]).map NdL.nd⟩) := put_eq (x := (⟨k563, 0, (atT X i), t563, (⟨kw563, kk563⟩ : Ls Int)⟩ : NdL))
   have h568 : St _ K W a568 w568 _ [_, _, _, _] := ⟨hf568, h566.sh.backI (Lp := [_, _, _, _]) hs568⟩
   clear hf568 hs568 h566 hp567
   refine gG h568<|gRn (oM 1 rfl<|.nl)<|nK k564<|gF [2] rfl<|gR<|fun a569 w569 h569 => x_ret1 (fn := Tryz.f44) (t := 2) rfl h569 rfl <| .inl ⟨((nl563.length : Nat) : Int), i563, nv568, (nl563 ++ [(⟨k563, 0, (atT X i), t563, (⟨kw563, kk563⟩ : Ls Int)⟩ : NdL)]), ?_, rfl, (h569.sh.sel [0, 1, 2] rfl)⟩; clear h568
   exact (by show stepP X _ _ _ = _; simp only [stepP, andP, ne_lock, isL2, ↓reduceIte, Bool.false_eq_true, eq_self, Nat.add_sub_cancel, List.cons_append, List.nil_append, Bool.or_false, Bool.or_true, Bool.true_or, Bool.false_or, Bool.or_self, ne_3345, hr563, hr568, hc541, hc542, hc543, hc544, hc545, hc546, hc547])
  have hq563 : nl563.length ≤ 10000 + 10 * f + 8 := hq9563
  have h563 : St _ K W a563 w563 _ [_, _, _, _, _] := ⟨hf563, h561.sh.backI (Lp := [_, _, _, _]) hs563⟩
  clear hf563 hs563 h561 hp562
  refine gG h563<|nK k551<|sK fun _ k570 => gRn (oM 1 rfl<|olw 3 ti_57 rfl rfl<|.nl)<|fun a571 w571 h571 => ?_; clear h563
  have h572 := h571.sel (L' := [_, _, _, _, _]) [0, 1, 2, 4, 3] rfl
  have hp573 := h572.sh.passL (Lp := [_, _, _, _])
  refine wl_ex (x_call h572 bd_24 rfl rfl rfl rfl rfl (dNode_c _ _ X tv nv563 nl563 X.T.length _ _ _ _ k563 0 (atT X i) t563 (⟨kw563, kk563⟩ : Ls Int) hp573 (by first | omega | (simp only [lens9]; omega)))) (wanted_none rfl _) ?_
  rintro a574 w574 ⟨_, ⟨nv574, rfl, hs574⟩, hf574⟩
  have hm574 : (nl563 ++ [(⟨k563, 0, (atT X i), t563, (⟨kw563, kk563⟩ : Ls Int)⟩ : NdL)]).length = nl563.length + 1 := (by simp only [lens9])
  have h574 : St _ K W a574 w574 _ [_, _, _, _] := ⟨hf574, h572.sh.backI (Lp := [_, _, _, _]) hs574⟩
  clear hf574 hs574 h572 hp573
  refine gG h574<|gRn (oM 1 rfl<|.nl)<|nK k570<|gF [2] rfl<|gR<|fun a575 w575 h575 => x_ret1 (fn := Tryz.f44) (t := 2) rfl h575 rfl <| .inr ⟨c563, e563, dz563, ((nl563.length : Nat) : Int), nv574, (nl563 ++ [(⟨k563, 0, (atT X i), t563, (⟨kw563, kk563⟩ : Ls Int)⟩ : NdL)]), ?_, hcn563, rfl, (by first | omega | (simp only [lens9] at *; omega)), (h575.sh.sel [0, 1, 2] rfl)⟩; clear h574
  exact (by show stepP X _ _ _ = _; simp only [stepP, andP, ne_lock, isL2, ↓reduceIte, Bool.false_eq_true, eq_self, Nat.add_sub_cancel, List.cons_append, List.nil_append, Bool.or_false, Bool.or_true, Bool.true_or, Bool.false_or, Bool.or_self, ne_3345, hr563, hc541, hc542, hc543, hc544, hc545, hc546, hc547])
 refine qRn (oKs 12 hb21 rfl rfl<|opF hb21 rfl<|.nl)<|qN z19<|?_; clear h18
 refine hK k16<|gF [0, 3, 4, 39] rfl<|gcF rfl rfl<|?_
 have hw9 : ¬ (i < X.T.length ∧ (nth X.T i).k = 2) := (fun h9 => by first | exact absurd h9.1 (by assumption) | exact absurd h9.2 (by assumption))
 have hc577 : isT X i { data := #[105, 110, 116] } = false := isw_no (hTo _) hw9 (by simp [wordL])
 have hc578 : isT X i { data := #[105, 102] } = false := isw_no (hTo _) hw9 (by simp [wordL])
 have hc579 : isT X i { data := #[119, 104, 105, 108, 101] } = false := isw_no (hTo _) hw9 (by simp [wordL])
 have hc580 : isT X i { data := #[112, 114, 105, 110, 116] } = false := isw_no (hTo _) hw9 (by simp [wordL])
 have hc581 : isT X i { data := #[108, 111, 99, 107] } = false := isw_no (hTo _) hw9 (by simp [wordL])
 have hc582 : isT X i { data := #[117, 110, 108, 111, 99, 107] } = false := isw_no (hTo _) hw9 (by simp [wordL])
 have hc583 : isT X i { data := #[102, 101, 110, 99, 101] } = false := isw_no (hTo _) hw9 (by simp [wordL])
 refine gS<|hK k15<|sK fun _ k584 => gRn (oM 1 rfl<|oV (r_build (cs := [.int .i64 0, .int .i64 0, .int .i64 (atT X i), .string (⟨#[]⟩), (.slice none 0 0)]) rfl rfl (by kernel_rfl)) rfl<|.nl)<|gal ti_57 rfl fun b585 => gsw 0 ti_57 rfl rfl rfl<|nK k584<|gK fun _ k587 => sG (oM 1 rfl<|.nl)<|gB<|sG (oV (r_eqlStr (s := ({ data := #[] })) (t := ({ data := #[105, 110, 116] })) rfl rfl rfl) rfl<|oM 1 rfl<|.nl)<|gcF rfl (decide_eq_false (by decide))<|sG (oV (r_eqlStr (s := ({ data := #[] })) (t := ({ data := #[105, 102] })) rfl rfl rfl) rfl<|oM 1 rfl<|.nl)<|gcF rfl (decide_eq_false (by decide))<|sG (oV (r_eqlStr (s := ({ data := #[] })) (t := ({ data := #[119, 104, 105, 108, 101] })) rfl rfl rfl) rfl<|oM 1 rfl<|.nl)<|gcF rfl (decide_eq_false (by decide))<|sG (oV (r_eqlStr (s := ({ data := #[] })) (t := ({ data := #[112, 114, 105, 110, 116] })) rfl rfl rfl) rfl<|oM 1 rfl<|.nl)<|gcF rfl (decide_eq_false (by decide))<|gK fun _ k593 => sG (oV (r_eqlStr (s := ({ data := #[] })) (t := ({ data := #[108, 111, 99, 107] })) rfl rfl rfl) rfl<|oM 1 rfl<|.nl)<|gcF rfl (decide_eq_false (by decide))<|gL<|gRn (oV (r_eqlStr (s := ({ data := #[] })) (t := ({ data := #[117, 110, 108, 111, 99, 107] })) rfl rfl rfl) rfl<|oM 1 rfl<|.nl)<|nK k593<|gcF rfl (decide_eq_false (by decide))<|sG (oV (r_eqlStr (s := ({ data := #[] })) (t := ({ data := #[102, 101, 110, 99, 101] })) rfl rfl rfl) rfl<|oM 1 rfl<|.nl)<|gcF rfl (decide_eq_false (by decide))<|gL<|gRn (oM 1 rfl<|.nl)<|fun a596 w596 h596 => ?_
 have h597 := h596.sel (L' := [_, _, _, _]) [1, 2, 3, 0] rfl
 have hp598 := h597.sh.passL (Lp := [_, _, _, _])
 refine wl_ex (x_call h597 bd_85 rfl rfl rfl rfl rfl (dAssign_c _ _ X tv nv i d nl f _ (atT X i) _ hp598 hTl (by omega) (by omega) (by first | omega | (simp only [lens9] at *; omega)) ih hTo (by omega) (by omega))) (wanted_none rfl _) ?_
 rintro a599 w599 ⟨_, (⟨k599, t599, kw599, kk599, i599, nv599, nl599, hr599, hm9599, rfl, hs599⟩ | ⟨c599, e599, dz599, k599, t599, kw599, kk599, nv599, nl599, hr599, hcn599, rfl, hq9599, hs599⟩), hf599⟩
 ·skip
  have hm599 : nl599.length ≤ 2 * i599 ∧ i599 ≤ X.T.length := hm9599
  have h599 : St _ K W a599 w599 _ [_, _, _, _, _] := ⟨hf599, h597.sh.backI (Lp := [_, _, _, _]) hs599⟩
  clear hf599 hs599 h597 hp598
  refine gG h599<|nK k587<|sK fun _ k600 => gRn (oM 1 rfl<|olw 3 ti_57 rfl rfl<|.nl)<|fun a601 w601 h601 => ?_; clear h599
  have h602 := h601.sel (L' := [_, _, _, _, _]) [0, 1, 2, 4, 3] rfl
  have hp603 := h602.sh.passL (Lp := [_, _, _, _])
  refine wl_ex (x_call h602 bd_24 rfl rfl rfl rfl rfl (dNode_c _ _ X tv nv599 nl599 i599 _ _ _ _ k599 0 (atT X i) t599 (⟨kw599, kk599⟩ : Ls Int) hp603 (by first | omega | (simp only [lens9]; omega)))) (wanted_none rfl _) ?_
  rintro a604 w604 ⟨_, ⟨nv604, rfl, hs604⟩, hf604⟩
  have hm604 : (nl599 ++ [(⟨k599, 0, (atT X i), t599, (⟨kw599, kk599⟩ : Ls Int)⟩ : NdL)]).length = nl599.length + 1 := (by simp only [lens9])
  have hr604 : putP (⟨k599, 0, (atT X i), t599, kk599⟩ : Nd) ⟨i599, d, nl599.map NdL.nd⟩ = .ok (((nl599.length : Nat) : Int), ⟨i599, d, (nl599 ++ [(⟨k599, 0, (atT X i), t599, (⟨kw599, kk599⟩ : Ls Int)⟩ : NdL)]).map NdL.nd⟩) := put_eq (x := (⟨k599, 0, (atT X i), t599, (⟨kw599, kk599⟩ : Ls Int)⟩ : NdL))
  have h604 : St _ K W a604 w604 _ [_, _, _, _] := ⟨hf604, h602.sh.backI (Lp := [_, _, _, _]) hs604⟩
  clear hf604 hs604 h602 hp603
  refine gG h604<|gRn (oM 1 rfl<|.nl)<|nK k600<|gF [2] rfl<|gR<|fun a605 w605 h605 => x_ret1 (fn := Tryz.f44) (t := 2) rfl h605 rfl <| .inl ⟨((nl599.length : Nat) : Int), i599, nv604, (nl599 ++ [(⟨k599, 0, (atT X i), t599, (⟨kw599, kk599⟩ : Ls Int)⟩ : NdL)]), ?_, rfl, (h605.sh.sel [0, 1, 2] rfl)⟩; clear h604
  exact (by show stepP X _ _ _ = _; simp only [stepP, andP, ne_lock, isL2, ↓reduceIte, Bool.false_eq_true, eq_self, Nat.add_sub_cancel, List.cons_append, List.nil_append, Bool.or_false, Bool.or_true, Bool.true_or, Bool.false_or, Bool.or_self, ne_3345, hr599, hr604, hc577, hc578, hc579, hc580, hc581, hc582, hc583])
 have hq599 : nl599.length ≤ 10000 + 10 * f + 8 := hq9599
 have h599 : St _ K W a599 w599 _ [_, _, _, _, _] := ⟨hf599, h597.sh.backI (Lp := [_, _, _, _]) hs599⟩
 clear hf599 hs599 h597 hp598
 refine gG h599<|nK k587<|sK fun _ k606 => gRn (oM 1 rfl<|olw 3 ti_57 rfl rfl<|.nl)<|fun a607 w607 h607 => ?_; clear h599
 have h608 := h607.sel (L' := [_, _, _, _, _]) [0, 1, 2, 4, 3] rfl
 have hp609 := h608.sh.passL (Lp := [_, _, _, _])
 refine wl_ex (x_call h608 bd_24 rfl rfl rfl rfl rfl (dNode_c _ _ X tv nv599 nl599 X.T.length _ _ _ _ k599 0 (atT X i) t599 (⟨kw599, kk599⟩ : Ls Int) hp609 (by first | omega | (simp only [lens9]; omega)))) (wanted_none rfl _) ?_
 rintro a610 w610 ⟨_, ⟨nv610, rfl, hs610⟩, hf610⟩
 have hm610 : (nl599 ++ [(⟨k599, 0, (atT X i), t599, (⟨kw599, kk599⟩ : Ls Int)⟩ : NdL)]).length = nl599.length + 1 := (by simp only [lens9])
 have h610 : St _ K W a610 w610 _ [_, _, _, _] := ⟨hf610, h608.sh.backI (Lp := [_, _, _, _]) hs610⟩
 clear hf610 hs610 h608 hp609
 refine gG h610<|gRn (oM 1 rfl<|.nl)<|nK k606<|gF [2] rfl<|gR<|fun a611 w611 h611 => x_ret1 (fn := Tryz.f44) (t := 2) rfl h611 rfl <| .inr ⟨c599, e599, dz599, ((nl599.length : Nat) : Int), nv610, (nl599 ++ [(⟨k599, 0, (atT X i), t599, (⟨kw599, kk599⟩ : Ls Int)⟩ : NdL)]), ?_, hcn599, rfl, (by first | omega | (simp only [lens9] at *; omega)), (h611.sh.sel [0, 1, 2] rfl)⟩; clear h610
 exact (by show stepP X _ _ _ = _; simp only [stepP, andP, ne_lock, isL2, ↓reduceIte, Bool.false_eq_true, eq_self, Nat.add_sub_cancel, List.cons_append, List.nil_append, Bool.or_false, Bool.or_true, Bool.true_or, Bool.false_or, Bool.or_self, ne_3345, hr599, hc577, hc578, hc579, hc580, hc581, hc582, hc583])

theorem allD (X : TE) (hTo : ∀ q, q < X.T.length → TokOK (nth X.T q)) : ∀ f, AllD X f := by
  intro f
  induction f using Nat.strongRecOn with
  | ind f ih =>
    cases f with
    | zero =>
      have key : ∀ fn ex nt, 1 ≤ rankT nt → OkD X 0 fn ex nt := fun fn ex nt h1 => fun _ _ _ _ _ _ _ _ _ _ _ _ _ _ h => absurd h (by omega)
      exact ⟨fun k _ => key _ _ _ (by show 1 ≤ 3 + (5 - k); omega), key _ _ _ (by decide), key _ _ _ (by decide), key _ _ _ (by decide), key _ _ _ (by decide)⟩
    | succ f =>
      have ih' : ∀ f', f' ≤ f → AllD X f' := fun f' h => ih f' (by omega)
      exact ⟨fun k hk K g tv nv i d nl W hS hT hd hi hn hfb hf => dExpr_c K g X tv nv i d nl f W k hk hS hT hd hi hn ih' hTo hfb hf, fun K g tv nv i d nl W hS hT hd hi hn hfb hf => dUnary_c K g X tv nv i d nl f W hS hT hd hi hn ih' hTo hfb hf, fun K g tv nv i d nl W hS hT hd hi hn hfb hf => dHeld_c K g X tv nv i d nl f W hS hT hd hi hn ih' hTo hfb hf,
        fun K g tv nv i d nl W hS hT hd hi hn hfb hf => dBlock_c K g X tv nv i d nl f W hS hT hd hi hn ih' hTo hfb hf, fun K g tv nv i d nl W hS hT hd hi hn hfb hf => dStmt_c K g X tv nv i d nl f W hS hT hd hi hn ih' hTo hfb hf⟩

end Go.Proofs.YthdkmhaneellcaaGreatDoor
