/-
  The document: all tokens of a text; the law that the program tells the same.
-/
import Derived.Test.YthdkmhaneellcaaGreatDoorX147
namespace Go.Proofs.YthdkmhaneellcaaGreatDoor
open Go.RowKit
set_option linter.unusedSimpArgs false
set_option linter.unusedVariables false
set_option maxRecDepth 100000
set_option maxHeartbeats 1000000


/-- A fault. -/
structure Flt3 where
  a : Int
  b : Int
  c : Int
deriving DecidableEq
def Flt3.val (x : Flt3) : Value := .agg #[.int .i64 x.a, .int .i64 x.b, .int .i64 x.c]
theorem rScan_c (s : ByteArray) (W : World) :
    Rets Tryz.prog 18 [.string s] W (fun v w' => ∃ (u : Ls Tok) (c : Int) (i : Nat), v = .tuple #[u.v, .agg #[.int .i64 c, .int .i64 0, .int .i64 (i : Int)]] ∧ (u.l, c, i) = scanR s ∧ Sh0 W w' [.own 81 u]) := by
 refine gen Tryz.func18 Tryz.ntmps18 (Sh0.start W : Sh (fun _ => False) W W []) rfl fun a10 h10 => gG h10<|sK fun _ k11 => gRn (oM 1 rfl<|.nl)<|gal ti_25 rfl fun b12 => nK k11<|gK fun _ k13 => sG (oM 1 rfl<|oV (r_lenStr (s := s) Tryz.underlying9 rfl rfl) rfl<|ogtN _ 4000 rfl<|.nl)<|?_; clear h10
 refine gcd rfl (fun hb15 hp15 => ?_) fun hb15 hp15 => ?_
 ·skip
  refine sK fun _ k16 => gRn (oV (r_build (cs := [.int .i64 1, .int .i64 0, .int .i64 0]) rfl rfl (by kernel_rfl)) rfl<|oM 1 rfl<|.nl)<|gsw 0 ti_25 rfl rfl rfl<|nK k16<|gR<|uT<|fun a18 w18 h18 => x_rettc (fn := Tryz.f18) (t := 3) (u := 2) (i := 0) ti_25 rfl h18 rfl rfl rfl rfl ?_
  have hn9 := h18.sh.nil (α := Tok) 81
  refine ⟨⟨.slice none 0 0, []⟩, 1, 0, rfl, ?_, hn9.sel [0] rfl⟩
  exact (scanR_big (by assumption)).symm
 have hsz : s.size ≤ 4000 := by omega
 refine gS<|hK k13<|sG (oM 1 rfl<|.nl)<|sK fun _ k20 => gRn (oM 1 rfl<|.nl)<|gP (fun _ _ h_ => xCl h_ bd_39 rfl (rSkip_c s 0 _ hsz (by omega))) rfl<|gRn (oM 1 rfl<|oxt rfl<|oxt rfl<|oM 2 rfl<|.nl)<|nK k20<|gK fun _ k22 => gB<|fun a25 w25 h25 => ?_
 have h24 := h25.nil (α := Tok) 81
 clear h25
 refine x_loop (fun m a w => ∃ (f i0 k : Nat) (bd : Bool) (vl : Value) (ll : List Tok), (i0 ≤ k ∧ k ≤ s.size ∧ ll.length ≤ i0) ∧ (skipS s false i0 = (k, bd)) ∧ (s.size - i0 < f) ∧ (scanF s f i0 ll = scanF s (s.size + 1) 0 []) ∧ St 56 (fun _ => False) W a w [(0, .string s), (3, .pointer (some ⟨b12, 0, none⟩)), (4, vl), (5, .int .i64 ((k : Nat) : Int)), (6, .bool bd)] [.blk b12 25 [.int .i64 0, .int .i64 0, .int .i64 0], .own 81 (⟨vl, ll⟩ : Ls Tok)] ∧ m = f) ⟨_, (s.size + 1), 0, (skipS s false 0).1, (skipS s false 0).2, _, _, (by have := skipS_ge (s := s) (note := false) (i := 0) (by omega); simp only [List.length_nil]; omega), (rfl), (by omega), (rfl), h24.nrm ⟨rfl, rfl, rfl, rfl, rfl, trivial⟩ [1, 0] rfl, rfl⟩ ?_
 clear h24
 rintro m23 a23 w23 ⟨f, i0, k, bd, vl, ll, hk, hsk, hf, hsc, h23, hm23⟩
 obtain ⟨f2, rfl⟩ : ∃ f2, f = f2 + 1 := ⟨f - 1, by omega⟩
 refine gG h23<|gK fun _ k26 => sK fun _ k27 => gRn (oM 2 rfl<|oV (r_lenStr (s := s) Tryz.underlying9 rfl rfl) rfl<|oltN _ _ rfl<|oM 1 rfl<|.nl)<|?_; clear h23
 rcases dsp (k < s.size) with ⟨hb28, hp28⟩ | ⟨hb28, hp28⟩
 ·skip
  refine gRn (oG hb28 (r_move rfl rfl) rfl<|oG hb28 (r_not rfl rfl) rfl<|opT hb28 rfl<|.nl)<|nK k27<|gCb rfl (fun hb29 => ?_) fun hb29 => ?_
  ·have hn29 : bd = false := (Bool.not_eq_true' _).mp hb29
   refine gS<|hK k26<|gB<|sK fun _ k30 => gRn (oM 2 rfl<|.nl)<|gC (fun _ _ h_ => xCl h_ bd_40 rfl (rOne_c s k _ hsz (by omega))) rfl<|?_
   rintro _ _ w31 ⟨t31, n31, c31, rfl, ho31, hs31⟩
   refine gWk hs31 rfl<|gU<|gRn (oM 1 rfl<|oxt rfl<|oxt rfl<|oxt rfl<|.nl)<|gal ti_81 rfl fun b32 => gsw 0 ti_81 rfl rfl rfl<|gRn (oM 2 rfl<|.nl)<|nK k30<|gK fun _ k34 => sG (oM 1 rfl<|oneI _ _ rfl<|.nl)<|?_; clear hs31
   refine gcd rfl (fun hb36 hp36 => ?_) fun hb36 hp36 => ?_
   ·skip
    obtain ⟨hc9, hone⟩ : c31 = 5 ∧ oneF s k = none := by rcases ho31 with ⟨h, _⟩ | h; exact absurd h (by omega); exact h
    subst hc9
    refine sK fun _ k37 => gRn (oM 2 rfl<|oV (r_build (cs := [.int .i64 5, .int .i64 0, .int .i64 ((k : Nat) : Int)]) rfl rfl (by kernel_rfl)) rfl<|oM 1 rfl<|.nl)<|gsw 1 ti_25 rfl rfl rfl<|nK k37<|gF [2, 3] rfl<|gR<|uT<|uB<|uT<|uB<|uT<|fun a39 w39 h39 => x_rettc (fn := Tryz.f18) (t := 3) (u := 2) (i := 1) ti_25 rfl h39 rfl rfl rfl rfl ?_
    have hn9 := h39.sh.nil (α := Tok) 81
    refine ⟨⟨.slice none 0 0, []⟩, 5, k, rfl, ?_, hn9.sel [0] rfl⟩
    exact (scanR_no hsz (hsc.symm.trans (scan_none (hsk.trans (congrArg (Prod.mk k) (by assumption))) (by assumption) hone))).symm
   have hone : oneF s k = some (t31, k + n31) := by rcases ho31 with ⟨_, h⟩ | ⟨h, _⟩; exact h; exact absurd h (by omega)
   have hlt9 := one_lt (by assumption) hone
   refine gS<|hK k34<|sK fun _ k40 => gRn (oM 1 rfl<|olw 0 ti_81 rfl rfl<|.nl)<|gE1 (fun _ _ h_ => x_lit (n := 1) (cs := [.int .i64 t31.k, .int .i64 t31.n, .int .i64 t31.a, .string t31.t]) ([t31] : List Tok) h_ sl_42 ti_81 rfl rfl rfl (by decide) rfl (by kernel_rfl) rfl (fun q hq w h => Flat.inner _ _) (fun q hq b hb => (Flat.on _ _ hb).elim) rfl rfl) rfl fun v41 => gE1 (fun _ _ h_ => x_app (r := 3) (rm := 0) (s := (⟨vl, ll⟩ : Ls Tok)) (m := (⟨v41, [t31]⟩ : Ls Tok)) h_ sl_42 ti_81 rfl rfl rfl rfl rfl rfl rfl (fun w h => (h.own 0 rfl)) (fun b hb => own_on (h_.sh.ok _ (List.mem_of_getElem? (i := 0) rfl)) hb) (fun q hq b hb => ⟨q, hq, hb⟩) rfl rfl rfl inferInstance (show (ll.length + ([t31]).length) * 40 ≤ 140737488355328 ∧ ll.length + ([t31]).length ≤ 140737488355328 from om9) rfl rfl) rfl fun v42 => gRn (oM 1 rfl<|.nl)<|nK k40<|gF [0, 3, 4, 5, 8] rfl<|gL<|gRn (oM 3 rfl<|oadN _ _ om9 rfl<|.nl)<|gP (fun _ _ h_ => xCl h_ bd_39 rfl (rSkip_c s (k + n31) _ hsz (by omega))) rfl<|gRn (oM 1 rfl<|oxt rfl<|oxt rfl<|oM 2 rfl<|.nl)<|nN<|fun a44 w44 h44 => ?_
   change ∃ _m, _m < _ ∧ _
   refine ⟨_, ?_, f2, k + n31, (skipS s false (k + n31)).1, (skipS s false (k + n31)).2, _, _, ?_, ?_, ?_, ?_, h44.nrm ⟨rfl, rfl, rfl, rfl, rfl, trivial⟩ [2, 3] rfl, rfl⟩
   · rw [hm23]; first | omega | (simp only [lens9]; omega)
   · have := one_lt (by assumption) hone; have := skipS_ge (s := s) (note := false) (i := k + n31) (by omega); simp only [List.length_append, List.length_cons, List.length_nil]; omega
   · rfl
   · have := one_lt (by assumption) hone; omega
   · exact (scan_some (hsk.trans (congrArg (Prod.mk k) (by assumption))) (by assumption) hone).symm.trans hsc
  have hn29 : bd = true := (Bool.not_eq_false' _).mp hb29
  refine gX<|hK k22<|gK fun _ k45 => sG (oM 1 rfl<|.nl)<|gcT rfl hn29<|sK fun _ k47 => gRn (oM 1 rfl<|oV (r_build (cs := [.int .i64 4, .int .i64 0, .int .i64 ((k : Nat) : Int)]) rfl rfl (by kernel_rfl)) rfl<|oM 1 rfl<|.nl)<|gsw 0 ti_25 rfl rfl rfl<|nK k47<|gR<|uT<|fun a49 w49 h49 => x_rettc (fn := Tryz.f18) (t := 3) (u := 2) (i := 0) ti_25 rfl h49 rfl rfl rfl rfl ?_
  have hn9 := h49.sh.nil (α := Tok) 81
  refine ⟨⟨.slice none 0 0, []⟩, 4, k, rfl, ?_, hn9.sel [0] rfl⟩
  exact (scanR_no hsz (hsc.symm.trans (by have := scan_bad (f := f2) (l := ll) (by rw [hsk]; assumption : (skipS s false i0).2 = true); rwa [hsk] at this))).symm
 refine gRn (oKs 2 hb28 rfl rfl<|opF hb28 rfl<|.nl)<|nK k27<|gcF rfl rfl<|gX<|hK k22<|gK fun _ k50 => sG (oM 1 rfl<|.nl)<|gCb rfl (fun hb52 => ?_) fun hb52 => ?_
 ·skip
  refine sK fun _ k53 => gRn (oM 1 rfl<|oV (r_build (cs := [.int .i64 4, .int .i64 0, .int .i64 ((k : Nat) : Int)]) rfl rfl (by kernel_rfl)) rfl<|oM 1 rfl<|.nl)<|gsw 0 ti_25 rfl rfl rfl<|nK k53<|gR<|uT<|fun a55 w55 h55 => x_rettc (fn := Tryz.f18) (t := 3) (u := 2) (i := 0) ti_25 rfl h55 rfl rfl rfl rfl ?_
  have hn9 := h55.sh.nil (α := Tok) 81
  refine ⟨⟨.slice none 0 0, []⟩, 4, k, rfl, ?_, hn9.sel [0] rfl⟩
  exact (scanR_no hsz (hsc.symm.trans (by have := scan_bad (f := f2) (l := ll) (by rw [hsk]; assumption : (skipS s false i0).2 = true); rwa [hsk] at this))).symm
 refine gS<|hK k50<|sK fun _ k56 => gRn (oM 1 rfl<|oV (r_build (cs := [.int .i64 0, .int .i64 0, .int .i64 0]) rfl rfl (by kernel_rfl)) rfl<|oM 1 rfl<|.nl)<|gsw 0 ti_25 rfl rfl rfl<|nK k56<|gR<|fun a58 w58 h58 => x_rettc (fn := Tryz.f18) (t := 3) (u := 2) (i := 0) ti_25 rfl h58 rfl rfl rfl rfl <| ⟨⟨vl, ll⟩, 0, 0, rfl, ?_, (h58.sh.sel [1] rfl)⟩
 exact (scanR_ok hsz (hsc.symm.trans (scan_end (hsk.trans (congrArg (Prod.mk k) (by assumption))) (by omega)))).symm

end Go.Proofs.YthdkmhaneellcaaGreatDoor
