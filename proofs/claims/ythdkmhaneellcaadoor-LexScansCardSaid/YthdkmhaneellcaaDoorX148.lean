/-
  The document: all tokens of a text; the law that the program tells the same.
-/
import Derived.Test.YthdkmhaneellcaaDoorX147
namespace Go.Proofs.YthdkmhaneellcaaDoor
open Go.RowKit
set_option linter.unusedSimpArgs false
set_option linter.unusedVariables false
set_option maxRecDepth 100000
set_option maxHeartbeats 1000000


/-- A fault. -/
structure Flt3 where
  a : Int
  b : Int
  c : Int
deriving DecidableEq
def Flt3.val (x : Flt3) : Value := .agg #[.int .i64 x.a, .int .i64 x.b, .int .i64 x.c]
theorem neq_flt3 (f g : Flt3) (w : World) : (binOp .neq 25 f.val g.val).run Tryd.prog w = .ok (.bool (decide (f ≠ g))) w := by
  obtain ⟨a, b, c⟩ := f
  obtain ⟨a', b', c'⟩ := g
  simp [binOp, Flt3.val, Op.equal, Op.maxDepth, go_sem]
  by_cases h1 : a = a' <;> by_cases h2 : b = b' <;> by_cases h3 : c = c' <;> simp [h1, h2, h3]
theorem neq_flt3G (x y : Operand) (f g : Flt3) (w : World) : (eqGuard .neq 25 x y f.val g.val).run Tryd.prog w = .ok () w := by
  simp [eqGuard, Flt3.val]
  try kernel_rfl
theorem neq_tok (f g : Tok) (w : World) : (binOp .neq 29 f.val g.val).run Tryd.prog w = .ok (.bool (decide (f ≠ g))) w := by
  obtain ⟨a, b, c, d⟩ := f
  obtain ⟨a', b', c', d'⟩ := g
  simp [binOp, Tok.val, Op.equal, Op.maxDepth, go_sem, toList_eqB]
  by_cases h1 : a = a' <;> by_cases h2 : b = b' <;> by_cases h3 : c = c' <;> by_cases h4 : d = d' <;> simp [h1, h2, h3, h4]
theorem neq_tokG (x y : Operand) (f g : Tok) (w : World) : (eqGuard .neq 29 x y f.val g.val).run Tryd.prog w = .ok () w := by
  simp [eqGuard, Tok.val]
  try kernel_rfl
theorem r_neqS3 [Defs] {P : Program} {o : Oper} {N : Nat} {K : Nat → Prop} {W : World} {F : List (Nat × Value)} {L : List Asn} {T U : TypeId} {x y : Operand} {u v : Value} {b : Bool} (ho : o.op = .binOp .neq T x y U) (hx : ev F x = some u) (hy : ev F y = some v) (hg : ∀ w, (eqGuard .neq T x y u v).run P w = .ok () w) (hb : ∀ w, (binOp .neq T u v).run P w = .ok (.bool b) w) : Rn P o N K W F L (.bool b) := fun a w h => by
  unfold execOp
  simp only [ho, h.fr.ev hx, h.fr.ev hy, Sem.run_bind, Sem.run_pure, Result.andThen_ok, hg, hb]

theorem rScan_c (s : ByteArray) (W : World) :
    Rets Tryd.prog 5 [.string s] W (fun v w' => ∃ (u : Ls Tok) (c : Int) (i : Nat), v = .tuple #[u.v, .agg #[.int .i64 c, .int .i64 0, .int .i64 (i : Int)]] ∧ (u.l, c, i) = scanR s ∧ Sh0 W w' [.own 29 u]) := by
 refine gen Tryd.func5 Tryd.ntmps5 (Sh0.start W : Sh (fun _ => False) W W []) rfl fun a10 h10 => gG h10<|sK fun _ k11 => gRn (oM 1 rfl<|.nl)<|gal ti_25 rfl fun b12 => nK k11<|gK fun _ k13 => sG (oM 1 rfl<|oV (r_lenStr (s := s) Tryd.underlying9 rfl rfl) rfl<|ogtN _ 4000 rfl<|.nl)<|?_; clear h10
 refine gcd rfl (fun hb15 hp15 => ?_) fun hb15 hp15 => ?_
 ·skip
  refine sK fun _ k16 => gRn (oV (r_build (cs := [.int .i64 1, .int .i64 0, .int .i64 0]) rfl rfl (by kernel_rfl)) rfl<|oM 1 rfl<|.nl)<|gsw 0 ti_25 rfl rfl rfl<|nK k16<|gR<|uT<|fun a18 w18 h18 => x_rettc (fn := Tryd.f5) (t := 3) (u := 2) (i := 0) ti_25 rfl h18 rfl rfl rfl rfl ?_
  have hn9 := h18.sh.nil (α := Tok) 29
  refine ⟨⟨.slice none 0 0, []⟩, 1, 0, rfl, ?_, hn9.sel [0] rfl⟩
  exact (scanR_big (by assumption)).symm
 have hsz : s.size ≤ 4000 := by omega
 refine gS<|hK k13<|sG (oM 1 rfl<|.nl)<|sK fun _ k20 => gRn (oM 1 rfl<|.nl)<|gP (fun _ _ h_ => xCl h_ bd_9 rfl (rSkip_c s 0 _ hsz (by omega))) rfl<|gRn (oM 1 rfl<|oxt rfl<|oxt rfl<|oM 2 rfl<|.nl)<|nK k20<|gK fun _ k22 => gB<|fun a25 w25 h25 => ?_
 have h24 := h25.nil (α := Tok) 29
 clear h25
 refine x_loop (fun m a w => ∃ (f i0 k : Nat) (bd : Bool) (vl : Value) (ll : List Tok), (i0 ≤ k ∧ k ≤ s.size ∧ ll.length ≤ i0) ∧ (skipS s false i0 = (k, bd)) ∧ (s.size - i0 < f) ∧ (scanF s f i0 ll = scanF s (s.size + 1) 0 []) ∧ St 56 (fun _ => False) W a w [(0, .string s), (3, .pointer (some ⟨b12, 0, none⟩)), (4, vl), (5, .int .i64 ((k : Nat) : Int)), (6, .bool bd)] [.blk b12 25 [.int .i64 0, .int .i64 0, .int .i64 0], .own 29 (⟨vl, ll⟩ : Ls Tok)] ∧ m = f) ⟨_, (s.size + 1), 0, (skipS s false 0).1, (skipS s false 0).2, _, _, (by have := skipS_ge (s := s) (note := false) (i := 0) (by omega); simp only [List.length_nil]; omega), (rfl), (by omega), (rfl), h24.nrm ⟨rfl, rfl, rfl, rfl, rfl, trivial⟩ [1, 0] rfl, rfl⟩ ?_
 clear h24
 rintro m23 a23 w23 ⟨f, i0, k, bd, vl, ll, hk, hsk, hf, hsc, h23, hm23⟩
 obtain ⟨f2, rfl⟩ : ∃ f2, f = f2 + 1 := ⟨f - 1, by omega⟩
 refine gG h23<|gK fun _ k26 => sK fun _ k27 => gRn (oM 2 rfl<|oV (r_lenStr (s := s) Tryd.underlying9 rfl rfl) rfl<|oltN _ _ rfl<|oM 1 rfl<|.nl)<|?_; clear h23
 rcases dsp (k < s.size) with ⟨hb28, hp28⟩ | ⟨hb28, hp28⟩
 ·skip
  refine gRn (oG hb28 (r_move rfl rfl) rfl<|oG hb28 (r_not rfl rfl) rfl<|opT hb28 rfl<|.nl)<|nK k27<|gCb rfl (fun hb29 => ?_) fun hb29 => ?_
  ·have hn29 : bd = false := (Bool.not_eq_true' _).mp hb29
   refine gS<|hK k26<|gB<|sK fun _ k30 => gRn (oM 2 rfl<|.nl)<|gC (fun _ _ h_ => xCl h_ bd_10 rfl (rOne_c s k _ hsz (by omega))) rfl<|?_
   rintro _ _ w31 ⟨t31, n31, c31, rfl, ho31, hs31⟩
   refine gWk hs31 rfl<|gU<|gRn (oM 1 rfl<|oxt rfl<|oxt rfl<|oxt rfl<|.nl)<|gal ti_29 rfl fun b32 => gsw 0 ti_29 rfl rfl rfl<|gRn (oM 2 rfl<|.nl)<|nK k30<|gK fun _ k34 => sG (oM 1 rfl<|oneI _ _ rfl<|.nl)<|?_; clear hs31
   refine gcd rfl (fun hb36 hp36 => ?_) fun hb36 hp36 => ?_
   ·skip
    obtain ⟨hc9, hone⟩ : c31 = 5 ∧ oneF s k = none := by rcases ho31 with ⟨h, _⟩ | h; exact absurd h (by omega); exact h
    subst hc9
    refine sK fun _ k37 => gRn (oM 2 rfl<|oV (r_build (cs := [.int .i64 5, .int .i64 0, .int .i64 ((k : Nat) : Int)]) rfl rfl (by kernel_rfl)) rfl<|oM 1 rfl<|.nl)<|gsw 1 ti_25 rfl rfl rfl<|nK k37<|gF [2, 3] rfl<|gR<|uT<|uB<|uT<|uB<|uT<|fun a39 w39 h39 => x_rettc (fn := Tryd.f5) (t := 3) (u := 2) (i := 1) ti_25 rfl h39 rfl rfl rfl rfl ?_
    have hn9 := h39.sh.nil (α := Tok) 29
    refine ⟨⟨.slice none 0 0, []⟩, 5, k, rfl, ?_, hn9.sel [0] rfl⟩
    exact (scanR_no hsz (hsc.symm.trans (scan_none (hsk.trans (congrArg (Prod.mk k) (by assumption))) (by assumption) hone))).symm
   have hone : oneF s k = some (t31, k + n31) := by rcases ho31 with ⟨_, h⟩ | ⟨h, _⟩; exact h; exact absurd h (by omega)
   have hlt9 := one_lt (by assumption) hone
   refine gS<|hK k34<|sK fun _ k40 => gRn (oM 1 rfl<|olw 0 ti_29 rfl rfl<|.nl)<|gE1 (fun _ _ h_ => x_lit (n := 1) (cs := [.int .i64 t31.k, .int .i64 t31.n, .int .i64 t31.a, .string t31.t]) ([t31] : List Tok) h_ sl_22 ti_29 rfl rfl rfl (by decide) rfl (by kernel_rfl) rfl (fun q hq w h => Flat.inner _ _) (fun q hq b hb => (Flat.on _ _ hb).elim) rfl rfl) rfl fun v41 => gE1 (fun _ _ h_ => x_app (r := 3) (rm := 0) (s := (⟨vl, ll⟩ : Ls Tok)) (m := (⟨v41, [t31]⟩ : Ls Tok)) h_ sl_22 ti_29 rfl rfl rfl rfl rfl rfl rfl (fun w h => (h.own 0 rfl)) (fun b hb => own_on (h_.sh.ok _ (List.mem_of_getElem? (i := 0) rfl)) hb) (fun q hq b hb => ⟨q, hq, hb⟩) rfl rfl rfl inferInstance (show (ll.length + ([t31]).length) * 40 ≤ 140737488355328 ∧ ll.length + ([t31]).length ≤ 140737488355328 from om9) rfl rfl) rfl fun v42 => gRn (oM 1 rfl<|.nl)<|nK k40<|gF [0, 3, 4, 5, 8] rfl<|gL<|gRn (oM 3 rfl<|oadN _ _ om9 rfl<|.nl)<|gP (fun _ _ h_ => xCl h_ bd_9 rfl (rSkip_c s (k + n31) _ hsz (by omega))) rfl<|gRn (oM 1 rfl<|oxt rfl<|oxt rfl<|oM 2 rfl<|.nl)<|nN<|fun a44 w44 h44 => ?_
   change ∃ _m, _m < _ ∧ _
   refine ⟨_, ?_, f2, k + n31, (skipS s false (k + n31)).1, (skipS s false (k + n31)).2, _, _, ?_, ?_, ?_, ?_, h44.nrm ⟨rfl, rfl, rfl, rfl, rfl, trivial⟩ [2, 3] rfl, rfl⟩
   · rw [hm23]; first | omega | (simp only [lens9]; omega)
   · have := one_lt (by assumption) hone; have := skipS_ge (s := s) (note := false) (i := k + n31) (by omega); simp only [List.length_append, List.length_cons, List.length_nil]; omega
   · rfl
   · have := one_lt (by assumption) hone; omega
   · exact (scan_some (hsk.trans (congrArg (Prod.mk k) (by assumption))) (by assumption) hone).symm.trans hsc
  have hn29 : bd = true := (Bool.not_eq_false' _).mp hb29
  refine gX<|hK k22<|gK fun _ k45 => sG (oM 1 rfl<|.nl)<|gcT rfl hn29<|sK fun _ k47 => gRn (oM 1 rfl<|oV (r_build (cs := [.int .i64 4, .int .i64 0, .int .i64 ((k : Nat) : Int)]) rfl rfl (by kernel_rfl)) rfl<|oM 1 rfl<|.nl)<|gsw 0 ti_25 rfl rfl rfl<|nK k47<|gR<|uT<|fun a49 w49 h49 => x_rettc (fn := Tryd.f5) (t := 3) (u := 2) (i := 0) ti_25 rfl h49 rfl rfl rfl rfl ?_
  have hn9 := h49.sh.nil (α := Tok) 29
  refine ⟨⟨.slice none 0 0, []⟩, 4, k, rfl, ?_, hn9.sel [0] rfl⟩
  exact (scanR_no hsz (hsc.symm.trans (by have := scan_bad (f := f2) (l := ll) (by rw [hsk]; assumption : (skipS s false i0).2 = true); rwa [hsk] at this))).symm
 refine gRn (oKs 2 hb28 rfl rfl<|opF hb28 rfl<|.nl)<|nK k27<|gcF rfl rfl<|gX<|hK k22<|gK fun _ k50 => sG (oM 1 rfl<|.nl)<|gCb rfl (fun hb52 => ?_) fun hb52 => ?_
 ·skip
  refine sK fun _ k53 => gRn (oM 1 rfl<|oV (r_build (cs := [.int .i64 4, .int .i64 0, .int .i64 ((k : Nat) : Int)]) rfl rfl (by kernel_rfl)) rfl<|oM 1 rfl<|.nl)<|gsw 0 ti_25 rfl rfl rfl<|nK k53<|gR<|uT<|fun a55 w55 h55 => x_rettc (fn := Tryd.f5) (t := 3) (u := 2) (i := 0) ti_25 rfl h55 rfl rfl rfl rfl ?_
  have hn9 := h55.sh.nil (α := Tok) 29
  refine ⟨⟨.slice none 0 0, []⟩, 4, k, rfl, ?_, hn9.sel [0] rfl⟩
  exact (scanR_no hsz (hsc.symm.trans (by have := scan_bad (f := f2) (l := ll) (by rw [hsk]; assumption : (skipS s false i0).2 = true); rwa [hsk] at this))).symm
 refine gS<|hK k50<|sK fun _ k56 => gRn (oM 1 rfl<|oV (r_build (cs := [.int .i64 0, .int .i64 0, .int .i64 0]) rfl rfl (by kernel_rfl)) rfl<|oM 1 rfl<|.nl)<|gsw 0 ti_25 rfl rfl rfl<|nK k56<|gR<|fun a58 w58 h58 => x_rettc (fn := Tryd.f5) (t := 3) (u := 2) (i := 0) ti_25 rfl h58 rfl rfl rfl rfl <| ⟨⟨vl, ll⟩, 0, 0, rfl, ?_, (h58.sh.sel [1] rfl)⟩
 exact (scanR_ok hsz (hsc.symm.trans (scan_end (hsk.trans (congrArg (Prod.mk k) (by assumption))) (by omega)))).symm

theorem lexScans_c (s : ByteArray) (W : World) :
    Rets Tryd.prog 3 [.string s] W (fun v w' => v = .bool true ∧ Sh0 W w' []) := by
 refine gen Tryd.func3 Tryd.ntmps3 (Sh0.start W : Sh (fun _ => False) W W []) rfl fun a10 h10 => gG h10<|sG (oM 1 rfl<|.nl)<|sK fun _ k12 => gRn (oM 1 rfl<|.nl)<|gC (fun _ _ h_ => xCl h_ bd_4 rfl (scan_c s _)) rfl<|?_; clear h10
 rintro _ _ w13 ⟨u13, c13, i13, rfl, hu13, hs13⟩
 refine gWk hs13 rfl<|gU<|gRn (oM 1 rfl<|oxt rfl<|oxt rfl<|.nl)<|gal ti_25 rfl fun b14 => gRn (oM 1 rfl<|.nl)<|gsw 0 ti_25 rfl rfl rfl<|nK k12<|sK fun _ k16 => gRn (oM 1 rfl<|.nl)<|gC (fun _ _ h_ => xCl h_ bd_5 rfl (rScan_c s _)) rfl<|?_; clear hs13
 rintro _ _ w17 ⟨u17, c17, i17, rfl, hu17, hs17⟩
 refine gWk hs17 rfl<|gU<|gRn (oM 1 rfl<|oxt rfl<|oxt rfl<|.nl)<|gal ti_25 rfl fun b18 => gRn (oM 1 rfl<|.nl)<|gsw 0 ti_25 rfl rfl rfl<|nK k16<|?_; clear hs17
 obtain ⟨hl9, hc9, hi9⟩ : u13.l = u17.l ∧ c13 = c17 ∧ i13 = i17 := by have h9 := hu13.trans hu17.symm; simp only [Prod.mk.injEq] at h9; exact h9
 have hll9 := congrArg List.length hl9
 refine gK fun _ k20 => sK fun _ k21 => gNl (aO 3 rfl) fun hl22 => gNl (aO 1 rfl) fun hl23 => gRn (olw 2 ti_25 rfl rfl<|olw 0 ti_25 rfl rfl<|oV (r_neqS3 rfl rfl rfl (fun w => neq_flt3G _ _ ⟨c13, 0, ((i13 : Nat) : Int)⟩ ⟨c17, 0, ((i17 : Nat) : Int)⟩ w) (fun w => neq_flt3 ⟨c13, 0, ((i13 : Nat) : Int)⟩ ⟨c17, 0, ((i17 : Nat) : Int)⟩ w)) rfl<|oM 1 rfl<|oG (decide_eq_false (by rw [hc9, hi9]; exact fun h => h rfl)) (r_move rfl rfl) rfl<|oG (decide_eq_false (by rw [hc9, hi9]; exact fun h => h rfl)) (r_len (s := u13) (n := u13.l.length) sl_22 rfl rfl (fun w h => (h.own 3 rfl)) rfl) rfl<|oG (decide_eq_false (by rw [hc9, hi9]; exact fun h => h rfl)) (r_move rfl rfl) rfl<|oG (decide_eq_false (by rw [hc9, hi9]; exact fun h => h rfl)) (r_len (s := u17) (n := u17.l.length) sl_22 rfl rfl (fun w h => (h.own 1 rfl)) rfl) rfl<|oG (decide_eq_false (by rw [hc9, hi9]; exact fun h => h rfl)) (r_neqN (p := u13.l.length) (q := u17.l.length) rfl rfl rfl) rfl<|opF (decide_eq_false (by rw [hc9, hi9]; exact fun h => h rfl)) rfl<|.nl)<|nK k21<|gF [3, 5, 27] rfl<|gcF rfl (decide_eq_false (by rw [hl9]; exact fun h => h rfl))<|gS<|hK k20<|gK fun _ k24 => sG (oM 1 rfl<|.nl)<|gB<|fun a27 w27 h27 => x_loop (fun m a w => ∃ (k : Nat), (k ≤ u13.l.length) ∧ St 43 (fun _ => False) W a w [(3, u13.v), (5, u17.v), (7, .int .i64 ((k : Nat) : Int))] [.blk b18 25 [.int .i64 c17, .int .i64 0, .int .i64 ((i17 : Nat) : Int)], .own 29 u17, .blk b14 25 [.int .i64 c13, .int .i64 0, .int .i64 ((i13 : Nat) : Int)], .own 29 u13] ∧ m = u13.l.length - k) ⟨_, 0, (by omega), h27.nf ⟨rfl, rfl, rfl, trivial⟩, rfl⟩ ?_
 clear h27
 rintro m26 a26 w26 ⟨k, hk, h26, hm26⟩
 refine gG h26<|gK fun _ k28 => sG (oM 2 rfl<|oln sl_22 (aO 3 rfl) rfl<|oltN _ _ rfl<|.nl)<|?_; clear h26
 refine gcd rfl (fun hb30 hp30 => ?_) fun hb30 hp30 => ?_
 ·skip
  refine gS<|hK k28<|gK fun _ k31 => gB<|gK fun _ k32 => rQ (oM 2 rfl<|oxN sl_22 ti_29 (aO 3 rfl) _ om9 rfl<|olw2 [.int .i64 ((nth u13.l k).k), .int .i64 ((nth u13.l k).n), .int .i64 ((nth u13.l k).a), .string ((nth u13.l k).t)] ti_29 (aO 3 rfl) om9 rfl<|oM 2 rfl<|oxN sl_22 ti_29 (aO 1 rfl) _ om9 rfl<|olw2 [.int .i64 ((nth u17.l k).k), .int .i64 ((nth u17.l k).n), .int .i64 ((nth u17.l k).a), .string ((nth u17.l k).t)] ti_29 (aO 1 rfl) om9 rfl<|oV (r_neqS3 rfl rfl rfl (fun w => neq_tokG _ _ (nth u13.l k) (nth u17.l k) w) (fun w => neq_tok (nth u13.l k) (nth u17.l k) w)) rfl<|.nl)<|hK k32<|gcF rfl (decide_eq_false (by rw [hl9]; exact fun h => h rfl))<|gS<|hK k31<|gL<|gRn (oM 1 rfl<|oadN _ 1 om9 rfl<|oM 1 rfl<|.nl)<|nN<|fun a33 w33 h33 => x_again ⟨_, ?_, k + 1, ?_, h33.nf ⟨rfl, rfl, rfl, trivial⟩, rfl⟩
  · rw [hm26]; first | omega | (simp only [lens9]; omega)
  · omega
 refine gX<|hK k24<|sG (oM 1 rfl<|.nl)<|gR<|fun a35 w35 h35 => x_ret1 (fn := Tryd.f3) (t := 2) rfl h35 rfl ?_
 exact ⟨rfl, (h35.sh.sel [] rfl)⟩

end Go.Proofs.YthdkmhaneellcaaDoor
