/-
  Contracts of functions of this program and of the references, each walked once.
-/
import Derived.Test.YtmgikmjmdppfmaaX2
namespace Go.Proofs.Ytmgikmjmdppfmaa
open Go.RowKit
set_option linter.unusedSimpArgs false
set_option linter.unusedVariables false
set_option maxRecDepth 100000
set_option maxHeartbeats 4000000


theorem nth_app_ge {α : Type} [Inhabited α] (l m : List α) (i : Nat) (h : l.length ≤ i) : nth (l ++ m) i = nth m (i - l.length) := by simp only [nth, List.getD, List.getElem?_append_right h]
theorem nth_replicate {α : Type} [Inhabited α] (n : Nat) (x : α) (i : Nat) (h : i < n) : nth (List.replicate n x) i = x := by simp [nth, h]
theorem nth_app_lt {α : Type} [Inhabited α] (l m : List α) (i : Nat) (h : i < l.length) : nth (l ++ m) i = nth l i := by simp [nth, List.getElem?_append_left h]

/-- What each order becomes, as a list. -/
def becL (B : Nat → Ins → List Ins) (code : List Ins) : List (List Ins) := (List.range code.length).map fun i => B i (nth code i)
theorem becL_len (B : Nat → Ins → List Ins) (code : List Ins) : (becL B code).length = code.length := by simp [becL]
theorem becL_nth (B : Nat → Ins → List Ins) (code : List Ins) (i : Nat) (h : i < code.length) : nth (becL B code) i = B i (nth code i) := by simp [becL, nth, h]
def fixMv (become : List (List Ins)) (code : List Ins) (i : Nat) (x : Ins) : Ins :=
  if x.op = 14 ∧ ((nth code i).op = 14 ∨ (nth code i).op = 15) then { x with a := placeL become x.a.toNat }
  else if x.op = 15 ∧ (nth code i).op = 15 then { x with b := placeL become x.b.toNat } else x
def outUpto (B : Nat → Ins → List Ins) (code : List Ins) (k : Nat) : List Ins := (List.range k).flatMap fun i => B i (nth code i)
def fromUpto (B : Nat → Ins → List Ins) (code : List Ins) (k : Nat) : List Int := (List.range k).flatMap fun i => List.replicate (B i (nth code i)).length (i : Int)
theorem outUpto_succ (B : Nat → Ins → List Ins) (code : List Ins) (k : Nat) : outUpto B code (k + 1) = outUpto B code k ++ B k (nth code k) := by simp [outUpto, List.range_succ]
theorem fromUpto_succ (B : Nat → Ins → List Ins) (code : List Ins) (k : Nat) : fromUpto B code (k + 1) = fromUpto B code k ++ List.replicate (B k (nth code k)).length (k : Int) := by simp [fromUpto, List.range_succ]
theorem fromUpto_len (B : Nat → Ins → List Ins) (code : List Ins) (k : Nat) : (fromUpto B code k).length = (outUpto B code k).length := by
  induction k with
  | zero => rfl
  | succ k ih => rw [fromUpto_succ, outUpto_succ]; simp [ih]
theorem fromUpto_at (B : Nat → Ins → List Ins) (code : List Ins) (k q : Nat) (h : q < (fromUpto B code k).length) : 0 ≤ nth (fromUpto B code k) q ∧ (nth (fromUpto B code k) q).toNat < k ∧ ∃ j, j < (B (nth (fromUpto B code k) q).toNat (nth code (nth (fromUpto B code k) q).toNat)).length ∧ nth (outUpto B code k) q = nth (B (nth (fromUpto B code k) q).toNat (nth code (nth (fromUpto B code k) q).toNat)) j := by
  induction k with
  | zero => simp [fromUpto] at h
  | succ k ih =>
    rw [fromUpto_succ] at h ⊢
    by_cases hq : q < (fromUpto B code k).length
    · obtain ⟨h1, h2, j, h3, h4⟩ := ih hq
      rw [nth_app_lt _ _ _ hq]
      refine ⟨h1, by omega, j, h3, ?_⟩
      rw [outUpto_succ, nth_app_lt _ _ _ (by rw [← fromUpto_len]; exact hq)]
      exact h4
    · rw [List.length_append, List.length_replicate] at h
      have hn : nth (fromUpto B code k ++ List.replicate (B k (nth code k)).length (k : Int)) q = (k : Int) := by
        have hq2 : q - (fromUpto B code k).length < (B k (nth code k)).length := by omega
        rw [nth_app_ge _ _ _ (by omega), nth_replicate _ _ _ hq2]
      rw [hn]
      refine ⟨by omega, by omega, q - (fromUpto B code k).length, by simp; omega, ?_⟩
      rw [outUpto_succ]
      simp only [nth, List.getD, List.getElem?_append_right (show (outUpto B code k).length ≤ q by rw [← fromUpto_len]; omega), fromUpto_len]
      rfl
theorem placeL_out (B : Nat → Ins → List Ins) (code : List Ins) (k : Nat) (h : k ≤ code.length) : (outUpto B code k).length = placeL (becL B code) k := by
  induction k with
  | zero => rfl
  | succ k ih =>
    rw [outUpto_succ, placeL_succ _ _ (by rw [becL_len]; omega), becL_nth _ _ _ (by omega), List.length_append, ih (by omega)]
def movedL (B : Nat → Ins → List Ins) (code : List Ins) : List Ins := (List.range code.length).flatMap fun i => (B i (nth code i)).map (fixMv (becL B code) code i)
theorem movedL_of (B : Nat → Ins → List Ins) (code : List Ins) (ou : List Ins) (hl : ou.length = (outUpto B code code.length).length)
    (h : ∀ q, q < ou.length → nth ou q = fixMv (becL B code) code (nth (fromUpto B code code.length) q).toNat (nth (outUpto B code code.length) q)) : ou = movedL B code := by
  have key : ∀ k, (List.range k).flatMap (fun i => (B i (nth code i)).map (fixMv (becL B code) code i)) = (List.range (outUpto B code k).length).map fun q => fixMv (becL B code) code (nth (fromUpto B code k) q).toNat (nth (outUpto B code k) q) := by
    intro k
    induction k with
    | zero => rfl
    | succ k ih =>
      rw [List.range_succ, List.flatMap_append, ih]
      apply ext_nth
      · simp [outUpto_succ]
      · intro q hq
        have hql : q < (outUpto B code k).length + (B k (nth code k)).length := by simpa using hq
        have hq2 : q < (outUpto B code (k + 1)).length := by rw [outUpto_succ]; simpa using hql
        have e2 : nth ((List.range (outUpto B code (k + 1)).length).map fun q => fixMv (becL B code) code (nth (fromUpto B code (k + 1)) q).toNat (nth (outUpto B code (k + 1)) q)) q = fixMv (becL B code) code (nth (fromUpto B code (k + 1)) q).toNat (nth (outUpto B code (k + 1)) q) := by simp [nth, hq2]
        rw [e2, fromUpto_succ, outUpto_succ]
        by_cases h1 : q < (outUpto B code k).length
        · rw [nth_app_lt _ _ _ (by simpa using h1), nth_app_lt _ _ _ (by rw [fromUpto_len]; exact h1), nth_app_lt _ _ _ h1]
          simp [nth, h1]
        · have h3 : q - (outUpto B code k).length < (B k (nth code k)).length := by omega
          have e3 : nth (fromUpto B code k ++ List.replicate (B k (nth code k)).length (k : Int)) q = (k : Int) := by
            rw [nth_app_ge _ _ _ (by rw [fromUpto_len]; omega), fromUpto_len, nth_replicate _ _ _ h3]
          have e4 : nth (outUpto B code k ++ B k (nth code k)) q = nth (B k (nth code k)) (q - (outUpto B code k).length) := by
            simp only [nth, List.getD, List.getElem?_append_right (show (outUpto B code k).length ≤ q by omega)]
          rw [e3, e4]
          rw [nth_app_ge _ _ _ (by simp; omega)]
          simp only [List.flatMap_cons, List.flatMap_nil, List.append_nil, List.length_map, List.length_range]
          rw [nth_map' _ _ _ h3]
          simp
  unfold movedL
  rw [key]
  apply ext_nth
  · simpa using hl
  · intro q hq
    rw [h q hq]
    have : q < (outUpto B code code.length).length := by omega
    simp [nth, this]
/-- The jumps of what orders become tell old places. -/
def BecB (B : Nat → Ins → List Ins) (code : List Ins) : Prop := ∀ i, i < code.length → ∀ k, k < (B i (nth code i)).length →
  ((nth (B i (nth code i)) k).op ≠ 14 ∨ ((nth code i).op ≠ 14 ∧ (nth code i).op ≠ 15) ∨ (0 ≤ (nth (B i (nth code i)) k).a ∧ (nth (B i (nth code i)) k).a ≤ code.length)) ∧
  ((nth (B i (nth code i)) k).op ≠ 15 ∨ (nth code i).op ≠ 15 ∨ (0 ≤ (nth (B i (nth code i)) k).b ∧ (nth (B i (nth code i)) k).b ≤ code.length))

theorem cloneI_c (x : Ls Int) (W : World) (hx : x.At W) (hl : x.l.length ≤ 100000) :
    Rets Try.prog 39 [x.v] W (fun v w' => ∃ s : Ls Int, v = s.v ∧ Sh0 W w' [.own 3 (⟨s.v, x.l⟩ : Ls Int)]) := by
 refine gen Try.func39 Try.ntmps39 (Sh0.ext1 hx : Sh (fun _ => False) W W [.at_ x]) rfl fun a10 h10 => gG h10<|sG (oM 1 rfl<|.nl)<|gK fun _ k12 => sG (oM 1 rfl<|oV (r_eqnil (s := x) sl_23 rfl rfl rfl (fun w h => (h.at 0 rfl))) rfl<|.nl)<|?_; clear h10
 refine gCb rfl (fun hb14 => ?_) fun hb14 => ?_
 ·skip
  refine sG (oM 1 rfl<|.nl)<|gR<|uT<|fun a16 w16 h16 => x_ret1 (fn := Try.f39) (t := 2) rfl h16 rfl <| ⟨⟨.slice none 0 0, []⟩, rfl, ?_⟩
  rw [nilB_nil hx (by assumption)]
  exact (h16.sh.nil (α := Int) 3).sel (L' := [_]) [0] rfl
 refine gS<|hK k12<|sK fun _ k17 => gE1 (fun _ _ h_ => x_lit0 (α := Int) h_ sl_23 ti_3 rfl rfl rfl) rfl fun v18 => gRn (oM 1 rfl<|.nl)<|gE1 (fun _ _ h_ => x_app (r := 0) (rm := 1) (s := (⟨v18, []⟩ : Ls Int)) (m := x) h_ sl_23 ti_3 rfl rfl rfl rfl rfl rfl rfl (fun w h => (h.at 1 rfl)) (fun b hb => .inr hb) (fun q hq b hb => .inr ⟨q, hq, hb⟩) rfl rfl rfl inferInstance (show (([]).length + x.l.length) * 8 ≤ 140737488355328 ∧ ([]).length + x.l.length ≤ 140737488355328 from om9) rfl rfl) rfl fun v19 => gRn (oM 1 rfl<|.nl)<|nK k17<|gR<|fun a20 w20 h20 => x_ret1 (fn := Try.f39) (t := 2) rfl h20 rfl <| ⟨⟨v19, []⟩, rfl, ?_⟩
 exact (h20.sh.sel [0] rfl)

theorem moved_c (code : Ls Ins) (bf : FuncId) (us ws : List Value) (B : Nat → Ins → List Ins) (Env : Asn) (W : World) (hc : code.At W) (hcl : code.l.length ≤ 5000) (hbd : bodyI Try.prog bf = true) (hEf : ∀ b, ¬ Env.fp b) (hEo : Env.ok W) (hbec : ∀ (w : World) (i : Nat), Env.ok w → i < code.l.length → Rets Try.prog bf (us ++ [.int .i64 (i : Int), .agg #[.int .i64 (nth code.l i).op, .int .i64 (nth code.l i).a, .int .i64 (nth code.l i).b, .int .i64 (nth code.l i).c]] ++ ws) w (fun v w' => ∃ s : Ls Ins, v = s.v ∧ Sh0 w w' [.own 44 (⟨s.v, B i (nth code.l i)⟩ : Ls Ins)])) (hB8 : ∀ i, i < code.l.length → (B i (nth code.l i)).length ≤ 8) (hbok : BecB B code.l) :
    Rets Try.prog 21 [code.v, .func (.func bf) us.toArray ws.toArray] W (fun v w' => ∃ s : Ls Ins, v = s.v ∧ s.l = movedL B code.l ∧ Sh0 W w' [.own 44 s]) := by
 refine gen Try.func21 Try.ntmps21 (Sh0.ext (by intro A hA; simp at hA; rcases hA with rfl | rfl; exact hc; exact hEo) (by intro A hA b hb; simp at hA; rcases hA with rfl | rfl; exact hb; exact hEf b hb) : Sh (fun _ => False) W W [.at_ code, Env]) rfl fun a10 h10 => gG h10<|sG (oM 1 rfl<|.nl)<|sG (oM 1 rfl<|.nl)<|sK fun _ k13 => gNl (aA 0 rfl) fun hl14 => gRn (oM 1 rfl<|oln sl_45 (aA 0 rfl) rfl<|oadN _ 1 om9 rfl<|.nl)<|gE1 (fun _ _ h_ => x_make (n := code.l.length + 1) (0 : Int) h_ sl_23 ti_3 rfl rfl rfl rfl rfl (show 8 * (code.l.length + 1) ≤ 140737488355328 ∧ code.l.length + 1 ≤ 140737488355328 from om9) (fun w => Flat.inner _ _) (fun b => Flat.on _ _) rfl rfl) rfl fun v15 => gRn (oM 1 rfl<|.nl)<|nK k13<|sK fun _ k16 => gE1 (fun _ _ h_ => x_lit0 (α := Int) h_ sl_23 ti_3 rfl rfl rfl) rfl fun v17 => gRn (oM 1 rfl<|.nl)<|nK k16<|gK fun _ k18 => sG (oM 1 rfl<|oln sl_45 (aA 2 rfl) rfl<|oM 1 rfl<|.nl)<|gB<|fun a22 w22 h22 => ?_; clear h10
 have h21 := h22.nil (α := Ins) 44
 clear h22
 refine x_loop (fun m a w => ∃ (k : Nat) (out : List Ins) (vo : Value) (fr : List Int) (vf : Value) (pl : List Int), (k ≤ code.l.length) ∧ (out = outUpto B code.l k) ∧ (fr = fromUpto B code.l k) ∧ (pl.length = code.l.length + 1) ∧ (∀ j, j < k → nth pl j = (placeL (becL B code.l) j : Int)) ∧ (out.length ≤ 8 * k) ∧ (fr.length = out.length) ∧ St 115 (fun _ => False) W a w [(0, code.v), (1, .func (.func bf) us.toArray ws.toArray), (5, vo), (6, v15), (7, vf), (18, code.v), (19, .int .i64 ((code.l.length : Nat) : Int)), (20, .int .i64 ((k : Nat) : Int))] [.own 3 (⟨vf, fr⟩ : Ls Int), .own 3 (⟨v15, pl⟩ : Ls Int), .at_ code, Env, .own 44 (⟨vo, out⟩ : Ls Ins)] ∧ m = code.l.length - k) ⟨_, 0, [], (.slice none 0 0), [], v17, List.replicate (code.l.length + 1) 0, (by omega), (rfl), (rfl), (by simp), (fun j hj => absurd hj (by omega)), (by simp), (by simp), h21.nrm ⟨rfl, rfl, rfl, rfl, rfl, rfl, rfl, rfl, trivial⟩ [1, 2, 3, 4, 0] rfl, rfl⟩ ?_
 clear h21
 rintro m20 a20 w20 ⟨k, out, vo, fr, vf, pl, hk, hout, hfr, hpl, hplv, ho8, hf8, h20, hm20⟩
 refine gG h20<|sG (oltN _ _ rfl<|.nl)<|gK fun _ k24 => gcd rfl (fun hb25 hp25 => ?_) fun hb25 hp25 => ?_; clear h20
 ·skip
  refine gS<|hK k24<|gK fun _ k26 => gB<|sK fun _ k27 => gRn (oM 1 rfl<|oxN sl_45 ti_44 (aA 2 rfl) _ om9 rfl<|olw2 [.int .i64 ((nth code.l k).op), .int .i64 ((nth code.l k).a), .int .i64 ((nth code.l k).b), .int .i64 ((nth code.l k).c)] ti_44 (aA 2 rfl) om9 rfl<|.nl)<|gal ti_44 rfl fun b28 => gRn (oM 1 rfl<|.nl)<|gsw 0 ti_44 rfl rfl rfl<|nK k27<|sK fun _ k30 => gNl (aO 5 rfl) fun (hl31 : out.length ≤ 140737488355328) => gNl (aO 2 rfl) fun (hl32 : pl.length ≤ 140737488355328) => gRn (oM 3 rfl<|oln (n := out.length) sl_45 (aO 5 rfl) rfl<|oxN sl_23 ti_3 (aO 2 rfl) _ om9 rfl<|.nl)<|gte 2 (((out.length : Nat) : Int) : Int) ti_3 om9 rfl rfl<|nK k30<|gK fun _ k34 => sK fun _ k35 => gRn (oM 2 rfl<|olw 0 ti_44 rfl rfl<|.nl)<|gC (fun _ _ h_ => xCl h_ hbd rfl (hbec _ k (h_.sh.ok Env (List.mem_of_getElem? (i := 4) rfl)) (by omega))) rfl<|?_
  rintro _ _ w36 ⟨s36, rfl, hs36⟩
  refine gWk hs36 rfl<|gU<|gNl (aO 0 rfl) fun (hl37 : (B k (nth code.l k)).length ≤ 140737488355328) => gRn (oln (n := (B k (nth code.l k)).length) sl_45 (aO 0 rfl) rfl<|oM 1 rfl<|.nl)<|nK k35<|gB<|fun a39 w39 h39 => ?_; clear hs36
  refine x_loop (fun m a w => ∃ (q : Nat) (fr2 : List Int) (vf2 : Value), (q ≤ (B k (nth code.l k)).length) ∧ (fr2 = fr ++ List.replicate q (k : Int)) ∧ (fr2.length = fr.length + q) ∧ St 115 (fun _ => False) W a w [(0, code.v), (1, .func (.func bf) us.toArray ws.toArray), (5, vo), (6, v15), (7, vf2), (8, .int .i64 ((k : Nat) : Int)), (9, .pointer (some ⟨b28, 0, none⟩)), (18, code.v), (19, .int .i64 ((code.l.length : Nat) : Int)), (20, .int .i64 ((k : Nat) : Int)), (34, .int .i64 (((B k (nth code.l k)).length : Nat) : Int)), (35, .int .i64 ((q : Nat) : Int))] [.blk b28 44 [.int .i64 ((nth code.l k).op), .int .i64 ((nth code.l k).a), .int .i64 ((nth code.l k).b), .int .i64 ((nth code.l k).c)], .own 3 (⟨vf2, fr2⟩ : Ls Int), .own 3 (⟨v15, pl.set k ((out.length : Nat) : Int)⟩ : Ls Int), .at_ code, Env, .own 44 (⟨vo, out⟩ : Ls Ins)] ∧ m = (B k (nth code.l k)).length - q) ⟨_, 0, fr, vf, (by omega), (by simp), (by simp), h39.nrm ⟨rfl, rfl, rfl, rfl, rfl, rfl, rfl, rfl, rfl, rfl, rfl, rfl, trivial⟩ [1, 2, 3, 4, 5, 6] rfl, rfl⟩ ?_
  clear h39
  rintro m38 a38 w38 ⟨q, fr2, vf2, hq, hfr2, hq2, h38, hm38⟩
  have h8k := hB8 k (by omega)
  refine gG h38<|sG (oltN _ _ rfl<|.nl)<|gK fun _ k41 => gcd rfl (fun hb42 hp42 => ?_) fun hb42 hp42 => ?_; clear h38
  ·skip
   refine gS<|hK k41<|gK fun _ k43 => gB<|gL<|gRn (oM 2 rfl<|.nl)<|gE1 (fun _ _ h_ => x_lit (n := 1) (cs := [.int .i64 ((k : Nat) : Int)]) ([((k : Nat) : Int)] : List Int) h_ sl_23 ti_3 rfl rfl rfl (by decide) rfl (by kernel_rfl) rfl (fun q hq w h => Flat.inner _ _) (fun q hq b hb => (Flat.on _ _ hb).elim) rfl rfl) rfl fun v44 => gE1 (fun _ _ h_ => x_app (r := 2) (rm := 0) (s := (⟨vf2, fr2⟩ : Ls Int)) (m := (⟨v44, [((k : Nat) : Int)]⟩ : Ls Int)) h_ sl_23 ti_3 rfl rfl rfl rfl rfl rfl rfl (fun w h => (h.own 0 rfl)) (fun b hb => own_on (h_.sh.ok _ (List.mem_of_getElem? (i := 0) rfl)) hb) (fun q hq b hb => ⟨q, hq, hb⟩) rfl rfl rfl inferInstance (show (fr2.length + ([((k : Nat) : Int)]).length) * 8 ≤ 140737488355328 ∧ fr2.length + ([((k : Nat) : Int)]).length ≤ 140737488355328 from om9) rfl rfl) rfl fun v45 => gRn (oM 1 rfl<|.nl)<|nK k43<|gL<|gRn (oadN _ 1 om9 rfl<|oM 1 rfl<|.nl)<|nN<|fun a46 w46 h46 => x_again ⟨_, ?_, q + 1, fr2 ++ ([((k : Nat) : Int)]), v45, ?_, ?_, ?_, h46.nrm ⟨rfl, rfl, rfl, rfl, rfl, rfl, rfl, rfl, rfl, rfl, rfl, rfl, trivial⟩ [1, 2, 3, 4, 5, 6] rfl, rfl⟩
   · rw [hm38]; first | omega | (simp only [lens9]; omega)
   · omega
   · rw [hfr2, List.append_assoc, List.replicate_succ']
   · simp; omega
  refine gX<|hK k34<|gL<|gRn (oM 3 rfl<|olw 0 ti_44 rfl rfl<|.nl)<|gC (fun _ _ h_ => xCl h_ hbd rfl (hbec _ k (h_.sh.ok Env (List.mem_of_getElem? (i := 4) rfl)) (by omega))) rfl<|?_
  rintro _ _ w47 ⟨s47, rfl, hs47⟩
  refine gWk hs47 rfl<|gU<|gE1 (fun _ _ h_ => x_app (r := 6) (rm := 0) (s := (⟨vo, out⟩ : Ls Ins)) (m := (⟨s47.v, B k (nth code.l k)⟩ : Ls Ins)) h_ sl_45 ti_44 rfl rfl rfl rfl rfl rfl rfl (fun w h => (h.own 0 rfl)) (fun b hb => own_on (h_.sh.ok _ (List.mem_of_getElem? (i := 0) rfl)) hb) (fun q hq b hb => ⟨q, hq, hb⟩) rfl rfl rfl inferInstance (show (out.length + (B k (nth code.l k)).length) * 32 ≤ 140737488355328 ∧ out.length + (B k (nth code.l k)).length ≤ 140737488355328 from om9) rfl rfl) rfl fun v48 => gRn (oM 1 rfl<|.nl)<|nK k26<|gL<|gRn (oadN _ 1 om9 rfl<|oM 1 rfl<|.nl)<|nN<|fun a49 w49 h49 => ?_; clear hs47
  refine x_again ⟨_, ?_, k + 1, out ++ (B k (nth code.l k)), v48, fr2, vf2, pl.set k ((out.length : Nat) : Int), ?_, ?_, ?_, ?_, ?_, ?_, ?_, h49.nrm ⟨rfl, rfl, rfl, rfl, rfl, rfl, rfl, rfl, trivial⟩ [2, 3, 4, 5, 6] rfl, rfl⟩
  · rw [hm20]; first | omega | (simp only [lens9]; omega)
  · omega
  · rw [outUpto_succ, hout]
  · rw [fromUpto_succ, ← hfr, hfr2, show q = (B k (nth code.l k)).length by omega]
  · simpa using hpl
  · intro j hj; rw [nth_set]; split; (rename_i hh; obtain ⟨rfl, _⟩ := hh; rw [hout, placeL_out _ _ _ (by omega)]); exact hplv j (by omega)
  · have := hB8 k (by omega); simp; omega
  · rw [hfr2]; simp; omega
 refine gX<|hK k18<|sK fun _ k50 => gNl (aO 4 rfl) fun (hl51 : out.length ≤ 140737488355328) => gNl (aO 1 rfl) fun (hl52 : pl.length ≤ 140737488355328) => gRn (oM 2 rfl<|oln sl_45 (aA 2 rfl) rfl<|oM 1 rfl<|oln (n := out.length) sl_45 (aO 4 rfl) rfl<|oxN sl_23 ti_3 (aO 1 rfl) _ om9 rfl<|.nl)<|gte 1 (((out.length : Nat) : Int) : Int) ti_3 om9 rfl rfl<|nK k50<|?_
 have hkk : k = code.l.length := by omega
 have hplw : ∀ j, j ≤ code.l.length → nth (pl.set code.l.length (out.length : Int)) j = (placeL (becL B code.l) j : Int) := by
  intro j hj; rw [nth_set]; split; (rename_i hh; obtain ⟨rfl, _⟩ := hh; rw [hout, hkk, placeL_out _ _ _ (by omega)]); exact hplv j (by omega)
 have hpm0 : (pl.set code.l.length (out.length : Int)).length = code.l.length + 1 := by simpa using hpl
 generalize hpg : pl.set code.l.length (out.length : Int) = pm at *
 rw [hkk] at hout hfr
 have hat := fun q (hq : q < fr.length) => fromUpto_at B code.l code.l.length q (by rw [← hfr]; exact hq)
 rw [← hfr, ← hout] at hat
 clear hplv hpg hpl
 refine gK fun _ k54 => sG (oM 1 rfl<|oln (n := out.length) sl_45 (aO 4 rfl) rfl<|oM 1 rfl<|.nl)<|gB<|fun a57 w57 h57 => x_loop (fun m a w => ∃ (k3 : Nat) (ou : List Ins), (k3 ≤ out.length) ∧ (ou.length = out.length) ∧ (∀ j, j < k3 → nth ou j = fixMv (becL B code.l) code.l (nth fr j).toNat (nth out j)) ∧ (∀ j, k3 ≤ j → nth ou j = nth out j) ∧ St 115 (fun _ => False) W a w [(0, code.v), (5, vo), (6, v15), (7, vf), (56, .int .i64 ((out.length : Nat) : Int)), (57, .int .i64 ((k3 : Nat) : Int))] [.own 3 (⟨vf, fr⟩ : Ls Int), .own 3 (⟨v15, pm⟩ : Ls Int), .at_ code, Env, .own 44 (⟨vo, ou⟩ : Ls Ins)] ∧ m = out.length - k3) ⟨_, 0, out, (by omega), (rfl), (fun j hj => absurd hj (by omega)), (fun j hj => rfl), h57.nf ⟨rfl, rfl, rfl, rfl, rfl, rfl, trivial⟩, rfl⟩ ?_
 clear h57
 rintro m56 a56 w56 ⟨k3, ou, hk3, hol, hdone, hrest, h56, hm56⟩
 refine gG h56<|sG (oltN _ _ rfl<|.nl)<|gK fun _ k59 => gcd rfl (fun hb60 hp60 => ?_) fun hb60 hp60 => ?_; clear h56
 ·skip
  refine gS<|hK k59<|gK fun _ k61 => gB<|sG (oM 2 rfl<|.nl)<|?_
  have hr3 := hrest k3 (by omega)
  obtain ⟨hf0, hf1, jj, hj1, hj2⟩ := hat k3 (by omega)
  have hbk := hbok _ hf1 jj hj1
  rw [← hj2, ← hr3] at hbk
  refine sK fun _ k63 => gNl (aO 0 rfl) fun (hl64 : fr.length ≤ 140737488355328) => gRn (oM 3 rfl<|oxN sl_23 ti_3 (aO 0 rfl) _ om9 rfl<|olE (.int .i64 (nth fr k3)) ti_3 (aO 0 rfl) om9 rfl<|oxI sl_45 ti_44 (aA 2 rfl) om9 rfl<|ofE fl_44_0 rfl<|olI ti_3 (aA 2 rfl) om9 rfl<|oM 1 rfl<|.nl)<|nK k63<|sK fun _ k65 => gNl (aO 4 rfl) fun (hl66 : ou.length ≤ 140737488355328) => gRn (oM 2 rfl<|oxN sl_45 ti_44 (aO 4 rfl) _ om9 rfl<|oM 1 rfl<|.nl)<|nK k65<|sK fun _ k67 => gRn (oM 1 rfl<|onl rfl<|ofE fl_44_0 rfl<|olE (.int .i64 ((nth ou k3).op)) ti_3 (aO 4 rfl) om9 rfl<|oeqI _ _ rfl<|oM 1 rfl<|.nl)<|?_
  rcases dsp ((nth ou k3).op = 14) with ⟨hb68, hp68⟩ | ⟨hb68, hp68⟩
  ·skip
   refine gRn (oG hb68 (r_move rfl rfl) rfl<|oG hb68 (r_eqlI (p := (nth code.l ((nth fr k3).toNat)).op) (q := 14) rfl rfl rfl) rfl<|oG hb68 (r_move rfl rfl) rfl<|.nl)<|?_
   rcases dsp ((nth code.l ((nth fr k3).toNat)).op = 14) with ⟨hb69, hp69⟩ | ⟨hb69, hp69⟩
   ·skip
    refine gRn (oKs 2 hb69 rfl rfl<|oG hb68 (r_pickT rfl rfl hb69 rfl) rfl<|opT hb68 rfl<|.nl)<|nK k67<|gF [0, 5, 6, 7, 11, 12, 56, 57, 83] rfl<|gcT rfl rfl<|gL<|gNl (aO 1 rfl) fun (hl70 : pm.length ≤ 140737488355328) => gRn (oM 3 rfl<|onl rfl<|ofE fl_44_1 rfl<|olE (.int .i64 ((nth ou k3).a)) ti_3 (aO 4 rfl) om9 rfl<|oxI sl_23 ti_3 (aO 1 rfl) om9 rfl<|olE (.int .i64 (nth pm (((nth ou k3).a).toNat))) ti_3 (aO 1 rfl) om9 rfl<|onl rfl<|ofE fl_44_1 rfl<|.nl)<|gte 4 ({ nth ou k3 with a := nth pm (((nth ou k3).a).toNat) } : Ins) ti_3 om9 rfl rfl<|nK k61<|gL<|gRn (oadN _ 1 om9 rfl<|oM 1 rfl<|.nl)<|nN<|fun a72 w72 h72 => x_again ⟨_, ?_, k3 + 1, ou.set k3 ({ nth ou k3 with a := nth pm (((nth ou k3).a).toNat) }), ?_, ?_, ?_, ?_, h72.nf ⟨rfl, rfl, rfl, rfl, rfl, rfl, trivial⟩, rfl⟩
    · rw [hm56]; first | omega | (simp only [lens9]; omega)
    · omega
    · first | simpa using hol | exact hol
    · intro j hj; rcases Nat.lt_or_ge j k3 with h | h; (first | (rw [nth_set, if_neg (by omega)]; exact hdone j h) | exact hdone j h); obtain rfl : j = k3 := (by omega); have hr := hrest j (by omega); have hr1 := congrArg Ins.op hr; have hr2 := congrArg Ins.a hr; have hr4 := congrArg Ins.b hr; (try (rw [nth_set, if_pos ⟨rfl, by omega⟩])); rw [hr]; unfold fixMv; (repeat' split) <;> first | (exfalso; omega) | rfl | (rw [hplw _ (by omega)])
    · intro j hj; first | (rw [nth_set, if_neg (by omega)]; exact hrest j (by omega)) | exact hrest j (by omega)
   refine gRn (oG hb69 (r_move rfl rfl) rfl<|oG hb69 (r_eqlI (p := (nth code.l ((nth fr k3).toNat)).op) (q := 15) rfl rfl rfl) rfl<|oG hb68 (r_pickF rfl rfl hb69 rfl) rfl<|opT hb68 rfl<|.nl)<|nK k67<|gF [0, 5, 6, 7, 11, 12, 56, 57, 83] rfl<|gcd rfl (fun hb73 hp73 => ?_) fun hb73 hp73 => ?_
   ·skip
    refine gL<|gNl (aO 1 rfl) fun (hl74 : pm.length ≤ 140737488355328) => gRn (oM 3 rfl<|onl rfl<|ofE fl_44_1 rfl<|olE (.int .i64 ((nth ou k3).a)) ti_3 (aO 4 rfl) om9 rfl<|oxI sl_23 ti_3 (aO 1 rfl) om9 rfl<|olE (.int .i64 (nth pm (((nth ou k3).a).toNat))) ti_3 (aO 1 rfl) om9 rfl<|onl rfl<|ofE fl_44_1 rfl<|.nl)<|gte 4 ({ nth ou k3 with a := nth pm (((nth ou k3).a).toNat) } : Ins) ti_3 om9 rfl rfl<|nK k61<|gL<|gRn (oadN _ 1 om9 rfl<|oM 1 rfl<|.nl)<|nN<|fun a76 w76 h76 => x_again ⟨_, ?_, k3 + 1, ou.set k3 ({ nth ou k3 with a := nth pm (((nth ou k3).a).toNat) }), ?_, ?_, ?_, ?_, h76.nf ⟨rfl, rfl, rfl, rfl, rfl, rfl, trivial⟩, rfl⟩
    · rw [hm56]; first | omega | (simp only [lens9]; omega)
    · omega
    · first | simpa using hol | exact hol
    · intro j hj; rcases Nat.lt_or_ge j k3 with h | h; (first | (rw [nth_set, if_neg (by omega)]; exact hdone j h) | exact hdone j h); obtain rfl : j = k3 := (by omega); have hr := hrest j (by omega); have hr1 := congrArg Ins.op hr; have hr2 := congrArg Ins.a hr; have hr4 := congrArg Ins.b hr; (try (rw [nth_set, if_pos ⟨rfl, by omega⟩])); rw [hr]; unfold fixMv; (repeat' split) <;> first | (exfalso; omega) | rfl | (rw [hplw _ (by omega)])
    · intro j hj; first | (rw [nth_set, if_neg (by omega)]; exact hrest j (by omega)) | exact hrest j (by omega)
   refine sG (oM 1 rfl<|onl rfl<|ofE fl_44_0 rfl<|olE (.int .i64 ((nth ou k3).op)) ti_3 (aO 4 rfl) om9 rfl<|oeqI _ _ rfl<|oM 1 rfl<|oKs 2 (decide_eq_false (by omega)) rfl rfl<|opF (decide_eq_false (by omega)) rfl<|.nl)<|gcF rfl rfl<|gS<|hK k61<|gL<|gRn (oadN _ 1 om9 rfl<|oM 1 rfl<|.nl)<|nN<|fun a78 w78 h78 => x_again ⟨_, ?_, k3 + 1, ou, ?_, ?_, ?_, ?_, h78.nf ⟨rfl, rfl, rfl, rfl, rfl, rfl, trivial⟩, rfl⟩
   · rw [hm56]; first | omega | (simp only [lens9]; omega)
   · omega
   · first | simpa using hol | exact hol
   · intro j hj; rcases Nat.lt_or_ge j k3 with h | h; (first | (rw [nth_set, if_neg (by omega)]; exact hdone j h) | exact hdone j h); obtain rfl : j = k3 := (by omega); have hr := hrest j (by omega); have hr1 := congrArg Ins.op hr; have hr2 := congrArg Ins.a hr; have hr4 := congrArg Ins.b hr; (try (rw [nth_set, if_pos ⟨rfl, by omega⟩])); rw [hr]; unfold fixMv; (repeat' split) <;> first | (exfalso; omega) | rfl | (rw [hplw _ (by omega)])
   · intro j hj; first | (rw [nth_set, if_neg (by omega)]; exact hrest j (by omega)) | exact hrest j (by omega)
  refine gRn (oKs 3 hb68 rfl rfl<|oK2 rfl<|oK2 rfl<|oK hb68 rfl<|opF hb68 rfl<|.nl)<|nK k67<|gF [0, 5, 6, 7, 11, 12, 56, 57, 83] rfl<|gcF rfl rfl<|sK fun _ k79 => gRn (oM 1 rfl<|onl rfl<|ofE fl_44_0 rfl<|olE (.int .i64 ((nth ou k3).op)) ti_3 (aO 4 rfl) om9 rfl<|oeqI _ _ rfl<|oM 1 rfl<|.nl)<|?_
  rcases dsp ((nth ou k3).op = 15) with ⟨hb80, hp80⟩ | ⟨hb80, hp80⟩
  ·skip
   refine gRn (oG hb80 (r_move rfl rfl) rfl<|oG hb80 (r_eqlI (p := (nth code.l ((nth fr k3).toNat)).op) (q := 15) rfl rfl rfl) rfl<|opT hb80 rfl<|.nl)<|nK k79<|gcd rfl (fun hb81 hp81 => ?_) fun hb81 hp81 => ?_
   ·skip
    refine gL<|gNl (aO 1 rfl) fun (hl82 : pm.length ≤ 140737488355328) => gRn (oM 3 rfl<|onl rfl<|ofE fl_44_2 rfl<|olE (.int .i64 ((nth ou k3).b)) ti_3 (aO 4 rfl) om9 rfl<|oxI sl_23 ti_3 (aO 1 rfl) om9 rfl<|olE (.int .i64 (nth pm (((nth ou k3).b).toNat))) ti_3 (aO 1 rfl) om9 rfl<|onl rfl<|ofE fl_44_2 rfl<|.nl)<|gte 4 ({ nth ou k3 with b := nth pm (((nth ou k3).b).toNat) } : Ins) ti_3 om9 rfl rfl<|nK k61<|gL<|gRn (oadN _ 1 om9 rfl<|oM 1 rfl<|.nl)<|nN<|fun a84 w84 h84 => x_again ⟨_, ?_, k3 + 1, ou.set k3 ({ nth ou k3 with b := nth pm (((nth ou k3).b).toNat) }), ?_, ?_, ?_, ?_, h84.nf ⟨rfl, rfl, rfl, rfl, rfl, rfl, trivial⟩, rfl⟩
    · rw [hm56]; first | omega | (simp only [lens9]; omega)
    · omega
    · first | simpa using hol | exact hol
    · intro j hj; rcases Nat.lt_or_ge j k3 with h | h; (first | (rw [nth_set, if_neg (by omega)]; exact hdone j h) | exact hdone j h); obtain rfl : j = k3 := (by omega); have hr := hrest j (by omega); have hr1 := congrArg Ins.op hr; have hr2 := congrArg Ins.a hr; have hr4 := congrArg Ins.b hr; (try (rw [nth_set, if_pos ⟨rfl, by omega⟩])); rw [hr]; unfold fixMv; (repeat' split) <;> first | (exfalso; omega) | rfl | (rw [hplw _ (by omega)])
    · intro j hj; first | (rw [nth_set, if_neg (by omega)]; exact hrest j (by omega)) | exact hrest j (by omega)
   refine gS<|hK k61<|gL<|gRn (oadN _ 1 om9 rfl<|oM 1 rfl<|.nl)<|nN<|fun a85 w85 h85 => x_again ⟨_, ?_, k3 + 1, ou, ?_, ?_, ?_, ?_, h85.nf ⟨rfl, rfl, rfl, rfl, rfl, rfl, trivial⟩, rfl⟩
   · rw [hm56]; first | omega | (simp only [lens9]; omega)
   · omega
   · first | simpa using hol | exact hol
   · intro j hj; rcases Nat.lt_or_ge j k3 with h | h; (first | (rw [nth_set, if_neg (by omega)]; exact hdone j h) | exact hdone j h); obtain rfl : j = k3 := (by omega); have hr := hrest j (by omega); have hr1 := congrArg Ins.op hr; have hr2 := congrArg Ins.a hr; have hr4 := congrArg Ins.b hr; (try (rw [nth_set, if_pos ⟨rfl, by omega⟩])); rw [hr]; unfold fixMv; (repeat' split) <;> first | (exfalso; omega) | rfl | (rw [hplw _ (by omega)])
   · intro j hj; first | (rw [nth_set, if_neg (by omega)]; exact hrest j (by omega)) | exact hrest j (by omega)
  refine gRn (oKs 2 hb80 rfl rfl<|opF hb80 rfl<|.nl)<|nK k79<|gcF rfl rfl<|gS<|hK k61<|gL<|gRn (oadN _ 1 om9 rfl<|oM 1 rfl<|.nl)<|nN<|fun a86 w86 h86 => x_again ⟨_, ?_, k3 + 1, ou, ?_, ?_, ?_, ?_, h86.nf ⟨rfl, rfl, rfl, rfl, rfl, rfl, trivial⟩, rfl⟩
  · rw [hm56]; first | omega | (simp only [lens9]; omega)
  · omega
  · first | simpa using hol | exact hol
  · intro j hj; rcases Nat.lt_or_ge j k3 with h | h; (first | (rw [nth_set, if_neg (by omega)]; exact hdone j h) | exact hdone j h); obtain rfl : j = k3 := (by omega); have hr := hrest j (by omega); have hr1 := congrArg Ins.op hr; have hr2 := congrArg Ins.a hr; have hr4 := congrArg Ins.b hr; (try (rw [nth_set, if_pos ⟨rfl, by omega⟩])); rw [hr]; unfold fixMv; (repeat' split) <;> first | (exfalso; omega) | rfl | (rw [hplw _ (by omega)])
  · intro j hj; first | (rw [nth_set, if_neg (by omega)]; exact hrest j (by omega)) | exact hrest j (by omega)
 refine gX<|hK k54<|sG (oM 2 rfl<|.nl)<|gR<|fun a88 w88 h88 => x_ret1 (fn := Try.f21) (t := 4) rfl h88 rfl <| ⟨⟨vo, ou⟩, rfl, ?_, (h88.sh.sel [4] rfl)⟩
 refine movedL_of B code.l ou (by rw [← hout]; exact hol) fun q hq => ?_
 rw [← hfr, ← hout]; exact hdone q (by omega)

end Go.Proofs.Ytmgikmjmdppfmaa
