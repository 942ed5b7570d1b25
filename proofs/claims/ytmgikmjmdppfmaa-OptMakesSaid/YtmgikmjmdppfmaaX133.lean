/-
  Numbers put where they always are: the document.
-/
import Derived.Test.YtmgikmjmdppfmaaX132
import Derived.Test.YtmgikmjmdppfmaaX128
import Derived.Test.YtmgikmjmdppfmaaX4
import Derived.Test.YtmgikmjmdppfmaaX35
import Derived.Test.YtmgikmjmdppfmaaX34
import Derived.Test.YtmgikmjmdppfmaaE6
section
namespace Go.Proofs.Ytmgikmjmdppfmaa
open Go.RowKit
set_option linter.unusedSimpArgs false
set_option linter.unusedVariables false

/-- What the document makes of an order that goes, ahead of its test of jumps. -/
def d1L (go : Bool) (x : Ins) (e : List VV) : List Ins := if (1 ≤ x.op ∧ x.op ≤ 7) ∧ go = true ∧ (rkV x e).s = 1 then [⟨1, x.a, (rkV x e).n, 0⟩] else [x]
/-- .. and ahead of its test of what goes. -/
def d2L (go : Bool) (x : Ins) (e : List VV) : List Ins := if x.op = 15 ∧ go = true ∧ (nth e x.a.toNat).s = 1 then (if (nth e x.a.toNat).n ≠ 0 then [] else [⟨14, x.b, 0, 0⟩]) else d1L go x e
theorem bcC_doc {gs : List Bool} {M : List (Ls VV)} {i : Nat} {x : Ins} (hc : x.op = 1 → x.c = 0) : bcC (absR gs M) i x = if nth gs i = true then d2L true x (nth M i).l else [] := by
  unfold bcC absR
  by_cases hg : nth gs i = true
  · rw [if_pos hg, if_pos hg]
    unfold d2L d1L
    by_cases h15 : x.op = 15 ∧ (nth (nth M i).l x.a.toNat).s = 1
    · show (if 2 ≤ x.op ∧ x.op ≤ 7 ∧ _ then _ else _) = _
      have h9 : x.op = 15 ∧ true = true ∧ (nth (nth M i).l x.a.toNat).s = 1 := ⟨h15.1, rfl, h15.2⟩
      rw [if_neg (by omega), if_pos h15]
      exact (if_pos h9).symm
    · show (if 2 ≤ x.op ∧ x.op ≤ 7 ∧ _ then _ else _) = _
      have h9 : ¬ (x.op = 15 ∧ true = true ∧ (nth (nth M i).l x.a.toNat).s = 1) := fun h => h15 ⟨h.1, h.2.2⟩
      rw [if_neg h9]
      by_cases h1 : x.op = 1
      · have e : rkV x (nth M i).l = ⟨1, x.b⟩ := rv_1 h1
        rw [if_neg (by omega), if_neg h15, if_pos ⟨by omega, rfl, by rw [e]⟩, e]
        have := hc h1
        obtain ⟨o, a, b, c⟩ := x
        simp only at h1 this
        subst h1 this
        rfl
      · by_cases h2 : 2 ≤ x.op ∧ x.op ≤ 7 ∧ (rkV x (nth M i).l).s = 1
        · rw [if_pos h2, if_pos ⟨by omega, rfl, h2.2.2⟩]
        · rw [if_neg h2, if_neg h15, if_neg (fun h => h2 ⟨by omega, by omega, h.2.2⟩)]
  · rw [if_neg hg, if_neg hg]
end Go.Proofs.Ytmgikmjmdppfmaa
end
namespace Go.Proofs.Ytmgikmjmdppfmaa
open Go.RowKit
set_option linter.unusedSimpArgs false
set_option linter.unusedVariables false
set_option maxRecDepth 100000
set_option maxHeartbeats 8000000


theorem bcv_nth {bc : List (Ls Ins)} {n : Nat} {f : Nat → List Ins} (h : bc.map (·.l) = (List.range n).map f) (i : Nat) (hi : i < n) : (nth bc i).l = f i := (rowsV h).2 i hi
theorem bcv_ok {A : AF} {code : List Ins} {bc : List (Ls Ins)} (hj : JumpsOK code) (h : bc.map (·.l) = (List.range code.length).map fun i => bcC A i (nth code i)) : BecomeOK2 bc code := by
  intro i hi q hq
  have e := bcv_nth h i hi
  rw [e] at hq ⊢
  exact bcC_ok hj i hi q hq
theorem const_c0 {code : Ls (Ls Ins)} {words : Ls Int} {locks regs : Int} (h : OkPg (pgOf code words locks regs)) {t i : Nat} (ht : t < code.l.length) (hi : i < (nth code.l t).l.length) : (nth (nth code.l t).l i).op = 1 → (nth (nth code.l t).l i).c = 0 := by
  have ht2 : t < (pgOf code words locks regs).code.length := by show t < (code.l.map (·.l)).length; simpa using ht
  have e : nth (pgOf code words locks regs).code t = (nth code.l t).l := nth_map' _ _ _ ht
  have h2 := (h.ins t i ht2 (by rw [e]; exact hi)).n2
  rw [e] at h2
  intro h1
  unfold okNumG at h2
  rw [h1] at h2
  exact eq_of_beq h2
theorem bc_put (A : AF) (code : List Ins) : movedL (bcC A) code = putL (becL (bcC A) code) code := by
  refine moved_put _ _ fun i hi x hx h15 => ?_
  unfold bcC at hx
  split at hx
  · cases hx
  · split at hx
    · rw [List.mem_singleton.1 hx] at h15; cases h15
    · split at hx
      · split at hx
        · cases hx
        · rw [List.mem_singleton.1 hx] at h15; cases h15
      · rw [List.mem_singleton.1 hx] at h15; omega
theorem dead_put (f : Nat → Nat → Bool) (code : List Ins) : movedL (deadB f) code = putL (becL (deadB f) code) code := by
  refine moved_put _ _ fun i hi x hx h15 => ?_
  unfold deadB at hx
  split at hx
  · cases hx
  · rw [List.mem_singleton.1 hx] at h15; omega
theorem bdv_ok {f : Nat → Nat → Bool} {code : List Ins} {bc : List (Ls Ins)} (hj : JumpsOK code) (h : bc.map (·.l) = (List.range code.length).map fun i => deadB f i (nth code i)) : BecomeOK2 bc code := by
  intro i hi q hq
  have e := bcv_nth h i hi
  rw [e] at hq ⊢
  exact deadB_ok hj i hi q hq

theorem rConst_c (code : Ls (Ls Ins)) (words : Ls Int) (locks regs : Int) (W : World) (hcode : code.At W) (hwords : words.At W) (hok : OkPg (pgOf code words locks regs)) :
    Rets Try.prog 11 [.agg #[code.v, words.v, .int .i64 locks, .int .i64 regs]] W (fun v w' => ∃ (c : Ls (Ls Ins)) (u : Ls Int), v = .agg #[c.v, u.v, .int .i64 locks, .int .i64 regs] ∧ c.l.map (·.l) = (List.range code.l.length).map (fun t => constL regs.toNat (nth code.l t).l) ∧ u.l = words.l ∧ Sh0 W w' [.deep 45 c, .own 3 u]) := by
 have hz := checkG_ok hok
 obtain ⟨hl1, hl2, hl3, hl4', hl5, hl6, hl7⟩ := ok_len hok
 have hrg := hok.regs
 have hrg1 : ((pgOf code words locks regs)).regs = regs := rfl
 rw [hrg1] at hrg
 obtain ⟨R, hR⟩ := Int.eq_ofNat_of_zero_le (show 0 ≤ regs by omega)
 have hRt : regs.toNat = R := by rw [hR]; rfl
 refine gen Try.func11 Try.ntmps11 (Sh0.ext2 hcode hwords : Sh (fun _ => False) W W [.at_ code, .at_ words]) rfl fun a10 h10 => gG h10<|sK fun _ k11 => gbx rfl rfl fun b12 => gal ti_25 rfl fun b13 => nK k11<|sK fun _ k14 => gRn (ofB fl_25_2 rfl<|olB 1 ti_3 rfl rfl<|ofB fl_25_3 rfl<|olB 1 ti_3 rfl rfl<|oV (r_build (cs := [(.slice none 0 0), (.slice none 0 0), .int .i64 locks, .int .i64 regs]) rfl rfl (by kernel_rfl)) rfl<|.nl)<|gal ti_25 rfl fun b15 => gsw 0 ti_25 rfl rfl rfl<|nK k14<|sK fun _ k17 => gE1 (fun _ _ h_ => x_lit0 (α := Int) h_ sl_23 ti_3 rfl rfl rfl) rfl fun v18 => gRn (ofB fl_25_1 rfl<|olB 3 ti_23 rfl rfl<|.nl)<|gE1 (fun _ _ h_ => x_app (r := 0) (rm := 5) (s := (⟨v18, []⟩ : Ls Int)) (m := words) h_ sl_23 ti_3 rfl rfl rfl rfl rfl rfl rfl (fun w h => (h.at 5 rfl)) (fun b hb => .inr hb) (fun q hq b hb => .inr ⟨q, hq, hb⟩) rfl rfl rfl inferInstance (show (([]).length + words.l.length) * 8 ≤ 140737488355328 ∧ ([]).length + words.l.length ≤ 140737488355328 from om9) rfl rfl) rfl fun v19 => gRn (ofB fl_25_1 rfl<|.nl)<|gsr 1 ti_23 rfl (aO 0 rfl) rfl<|nK k17<|gK fun _ k21 => sG (oM 1 rfl<|.nl)<|gB<|fun a25 w25 h25 => ?_; clear h10
 have h24 := h25.nilDeep (α := Ls Ins) 45
 clear h25
 refine x_loop (fun m a w => ∃ (t : Nat) (qs : List (Ls Ins)) (vq : Value), (t ≤ code.l.length) ∧ (qs.map (·.l) = (List.range t).map (fun t => constL regs.toNat (nth code.l t).l)) ∧ (qs.length = t) ∧ St 149 (fun _ => False) W a w [(1, .pointer (some ⟨b12, 0, none⟩)), (2, .pointer (some ⟨b13, 0, none⟩)), (3, .pointer (some ⟨b15, 0, none⟩)), (4, .int .i64 ((t : Nat) : Int))] [.own 3 (⟨v19, words.l⟩ : Ls Int), .blk b15 25 [vq, v19, .int .i64 locks, .int .i64 regs], .blk b13 25 [(.slice none 0 0), (.slice none 0 0), .int .i64 0, .int .i64 0], .blk b12 25 [code.v, words.v, .int .i64 locks, .int .i64 regs], .at_ code, .at_ words, .deep 45 (⟨vq, qs⟩ : Ls (Ls Ins))] ∧ m = code.l.length - t) ⟨_, 0, [], (.slice none 0 0), (by omega), (rfl), (rfl), h24.nrm ⟨rfl, rfl, rfl, rfl, trivial⟩ [1, 2, 3, 4, 5, 6, 0] rfl, rfl⟩ ?_
 clear h24
 rintro m23 a23 w23 ⟨t, qs, vq, ht, hqs, hql, h23, hm23⟩
 refine gG h23<|gK fun _ k26 => sK fun _ k27 => gNl (aA 4 rfl) fun hl28 => gRn (oM 1 rfl<|ofB fl_25_0 rfl<|olB 3 ti_22 rfl rfl<|oln sl_22 (aA 4 rfl) rfl<|oltN _ _ rfl<|.nl)<|nK k27<|?_; clear h23
 refine gcd rfl (fun hb29 hp29 => ?_) fun hb29 hp29 => ?_
 ·skip
  refine gS<|hK k26<|gK fun _ k30 => gB<|sG (ofB fl_25_0 rfl<|olB 3 ti_22 rfl rfl<|oM 1 rfl<|oxN sl_22 ti_45 (aA 4 rfl) _ om9 rfl<|olE ((nth code.l t).v) ti_45 (aA 4 rfl) om9 rfl<|oM 1 rfl<|.nl)<|?_
  obtain ⟨hl4, hjt⟩ := ok_thread hok t (by omega)
  have hov : OkV (nth code.l t).l ((R : Nat) : Int) := by rw [← hR]; exact okV_of hok t (by omega)
  refine sK fun _ k32 => gRn (oM 1 rfl<|ofB fl_25_3 rfl<|olB 3 ti_3 rfl rfl<|.nl)<|fun a34 w34 h34 => ?_
  have h33 := h34.same (d := 38) (v' := .int .i64 ((R : Nat) : Int)) rfl (by rw [hR])
  clear h34
  refine wl_ex (x_call h33 bd_29 rfl rfl rfl rfl rfl (lookAt_c (nth code.l t) R _ ((h33.sh.at 4 rfl).nth t (show t < code.l.length from (by omega))) hov hjt hl4 (by omega))) (wanted_none rfl _) ?_
  rintro a36 w36 ⟨_, ⟨gl36, gs36, vm36, M36, rfl, hRd36, hLe36, hs36⟩, hf36⟩
  have h36 := (⟨hf36, h33.sh.call hs36 (by intro A hA b hb; simp only [List.mem_cons, List.not_mem_nil, or_false] at hA; first | (subst hA; exact Flat.noRd hb) | (rcases hA with rfl | rfl | rfl <;> first | exact (hb : False).elim | exact Flat.noRd hb | exact (NoRd.no _ hb).elim))⟩ : St 149 (fun _ => False) W a36 w36 _ _)
  clear hf36 hs36
  clear h33
  refine gG h36<|gRn (oM 1 rfl<|.nl)<|nK k32<|sG (oM 1 rfl<|.nl)<|gK fun _ k38 => sG (oM 1 rfl<|.nl)<|gB<|fun a42 w42 h42 => ?_; clear h36
  have h41 := h42.nilDeep (α := Ls Ins) 45
  clear h42
  refine x_loop (fun m a w => ∃ (j : Nat) (bc : List (Ls Ins)) (vb : Value), (j ≤ (nth code.l t).l.length) ∧ (bc.map (·.l) = (List.range j).map (fun i => bcC (absR gs36.l M36) i (nth (nth code.l t).l i))) ∧ (bc.length = j) ∧ St 149 (fun _ => False) W a w [(1, .pointer (some ⟨b12, 0, none⟩)), (2, .pointer (some ⟨b13, 0, none⟩)), (3, .pointer (some ⟨b15, 0, none⟩)), (4, .int .i64 ((t : Nat) : Int)), (5, (nth code.l t).v), (6, .pointer (some ⟨gl36, 0, none⟩)), (7, vb), (8, .int .i64 ((j : Nat) : Int))] [.blk gl36 66 [gs36.v, vm36, .bool false], .own 4 gs36, .big (matX (.own 68) 70 vm36 M36), .own 3 (⟨v19, words.l⟩ : Ls Int), .blk b15 25 [vq, v19, .int .i64 locks, .int .i64 regs], .blk b13 25 [(.slice none 0 0), (.slice none 0 0), .int .i64 0, .int .i64 0], .blk b12 25 [code.v, words.v, .int .i64 locks, .int .i64 regs], .at_ code, .at_ words, .deep 45 (⟨vq, qs⟩ : Ls (Ls Ins)), .deep 45 (⟨vb, bc⟩ : Ls (Ls Ins))] ∧ m = (nth code.l t).l.length - j) ⟨_, 0, [], (.slice none 0 0), (by omega), (rfl), (rfl), h41.nrm ⟨rfl, rfl, rfl, rfl, rfl, rfl, rfl, rfl, trivial⟩ [1, 2, 3, 4, 5, 6, 7, 8, 9, 10, 0] rfl, rfl⟩ ?_
  clear h41
  rintro m40 a40 w40 ⟨j, bc, vb, hj, hbc, hbl, h40, hm40⟩
  refine gG h40<|gK fun _ k43 => sK fun _ k44 => gNl (fun w h => ((h.at 7 rfl).nth t (show t < code.l.length from (by omega)))) fun (hl45 : ((nth code.l t).l).length ≤ 140737488355328) => gRn (oM 2 rfl<|oln (n := ((nth code.l t).l).length) sl_45 (fun w h => ((h.at 7 rfl).nth t (show t < code.l.length from (by omega)))) rfl<|oltN _ _ rfl<|.nl)<|nK k44<|?_; clear h40
  refine gcd rfl (fun hb46 hp46 => ?_) fun hb46 hp46 => ?_
  ·skip
   refine gS<|hK k43<|?_
   have hxa := rk_a (t := j) hov (by omega)
   have hxb := rk_b (t := j) hov (by omega)
   have hxc := rk_c (t := j) hov (by omega)
   have hc1 := const_c0 hok (t := t) (i := j) (by omega) (by omega)
   have hrl9 := (hRd36.ok j (by omega)).1
   have hgl9 := hRd36.gl
   have hml9 := hRd36.ml
   refine gK fun _ k47 => gB<|sK fun _ k48 => gRn (oM 2 rfl<|oxN sl_45 ti_44 (fun w h => ((h.at 7 rfl).nth t (show t < code.l.length from (by omega)))) _ om9 rfl<|olw2 [.int .i64 ((nth ((nth code.l t).l) j).op), .int .i64 ((nth ((nth code.l t).l) j).a), .int .i64 ((nth ((nth code.l t).l) j).b), .int .i64 ((nth ((nth code.l t).l) j).c)] ti_44 (fun w h => ((h.at 7 rfl).nth t (show t < code.l.length from (by omega)))) om9 rfl<|.nl)<|gal ti_44 rfl fun b49 => gsw 0 ti_44 rfl rfl rfl<|nK k48<|sK fun _ k51 => gRn (olw 0 ti_44 rfl rfl<|.nl)<|gE1 (fun _ _ h_ => x_lit (n := 1) (cs := [.int .i64 ((nth ((nth code.l t).l) j).op), .int .i64 ((nth ((nth code.l t).l) j).a), .int .i64 ((nth ((nth code.l t).l) j).b), .int .i64 ((nth ((nth code.l t).l) j).c)]) ([(nth ((nth code.l t).l) j)] : List Ins) h_ sl_45 ti_44 rfl rfl rfl (by decide) rfl (by kernel_rfl) rfl (fun q hq w h => Flat.inner _ _) (fun q hq b hb => (Flat.on _ _ hb).elim) rfl rfl) rfl fun v52 => gRn (oM 1 rfl<|.nl)<|nK k51<|sK fun _ k53 => gRn (ofB fl_44_0 rfl<|olB 1 ti_3 rfl rfl<|.nl)<|gP (fun _ _ h_ => xCl h_ bd_30 rfl (rReckons_c ((nth ((nth code.l t).l) j).op) _)) rfl<|gRn (oM 1 rfl<|.nl)<|nK k53<|fun a55 w55 h55 => x_seq (fun a w => ∃ (l1 : List Ins) (v1 : Value), (l1 = d1L (nth gs36.l j) (nth (nth code.l t).l j) (nth M36 j).l) ∧ St 149 (fun _ => False) W a w [(1, .pointer (some ⟨b12, 0, none⟩)), (2, .pointer (some ⟨b13, 0, none⟩)), (3, .pointer (some ⟨b15, 0, none⟩)), (4, .int .i64 ((t : Nat) : Int)), (5, (nth code.l t).v), (6, .pointer (some ⟨gl36, 0, none⟩)), (7, vb), (8, .int .i64 ((j : Nat) : Int)), (9, .pointer (some ⟨b49, 0, none⟩)), (10, v1)] [.own 44 (⟨v1, l1⟩ : Ls Ins), .blk b49 44 [.int .i64 ((nth ((nth code.l t).l) j).op), .int .i64 ((nth ((nth code.l t).l) j).a), .int .i64 ((nth ((nth code.l t).l) j).b), .int .i64 ((nth ((nth code.l t).l) j).c)], .blk gl36 66 [gs36.v, vm36, .bool false], .own 4 gs36, .big (matX (.own 68) 70 vm36 M36), .own 3 (⟨v19, words.l⟩ : Ls Int), .blk b15 25 [vq, v19, .int .i64 locks, .int .i64 regs], .blk b13 25 [(.slice none 0 0), (.slice none 0 0), .int .i64 0, .int .i64 0], .blk b12 25 [code.v, words.v, .int .i64 locks, .int .i64 regs], .at_ code, .at_ words, .deep 45 (⟨vq, qs⟩ : Ls (Ls Ins)), .deep 45 (⟨vb, bc⟩ : Ls (Ls Ins))]) ?_ ?_
   ·refine gG h55<|sK fun _ k56 => gRn (oM 2 rfl<|.nl)<|?_; clear h55
    rcases dsp (1 ≤ (nth ((nth code.l t).l) j).op ∧ (nth ((nth code.l t).l) j).op ≤ 7) with ⟨hb57, hp57⟩ | ⟨hb57, hp57⟩
    ·skip
     refine gNl (aO 3 rfl) fun hl58 => gRn (oG hb57 (r_move rfl rfl) rfl<|oG hb57 (r_nil rfl rfl) rfl<|oG hb57 (r_fieldB (r := 0) fl_66_0 rfl rfl rfl) rfl<|oG hb57 (r_ldb (i := 2) ti_63 rfl rfl rfl rfl) rfl<|oG hb57 (r_move rfl rfl) rfl<|oG hb57 (r_ixN (s := gs36) (q := j) sl_63 ti_4 rfl rfl rfl (fun w h => (h.own 3 rfl)) (show j < gs36.l.length from om9)) rfl<|oG hb57 (r_lde (s := gs36) (i := j) (v := .bool (nth gs36.l j)) ti_4 rfl rfl rfl (fun w h => (h.own 3 rfl)) (show j < gs36.l.length from om9) (Nat.le_of_ble_eq_true rfl) rfl) rfl<|opT hb57 rfl<|.nl)<|nK k56<|gF [1, 2, 3, 4, 5, 6, 7, 8, 9, 10, 64] rfl<|gCb rfl (fun hb59 => ?_) fun hb59 => ?_
     ·skip
      refine gK fun _ k60 => gF [1, 2, 3, 4, 5, 6, 7, 8, 9, 10, 64] rfl<|fun a61 w61 h61 => x_any ((fun Φ Ψ S a w => (S 8 = false ∧ S 9 = false ∧ S 10 = false ∧ FrI 149 S Φ Ψ a ∧ Sh (fun _ => False) W w [.own 44 (⟨v52, [(nth ((nth code.l t).l) j)]⟩ : Ls Ins), .blk b49 44 [.int .i64 ((nth ((nth code.l t).l) j).op), .int .i64 ((nth ((nth code.l t).l) j).a), .int .i64 ((nth ((nth code.l t).l) j).b), .int .i64 ((nth ((nth code.l t).l) j).c)], .blk gl36 66 [gs36.v, vm36, .bool false], .own 4 gs36, .big (matX (.own 68) 70 vm36 M36), .own 3 (⟨v19, words.l⟩ : Ls Int), .blk b15 25 [vq, v19, .int .i64 locks, .int .i64 regs], .blk b13 25 [(.slice none 0 0), (.slice none 0 0), .int .i64 0, .int .i64 0], .blk b12 25 [code.v, words.v, .int .i64 locks, .int .i64 regs], .at_ code, .at_ words, .deep 45 (⟨vq, qs⟩ : Ls (Ls Ins)), .deep 45 (⟨vb, bc⟩ : Ls (Ls Ins))]) ∨ (S 8 = true ∧ S 9 = false ∧ S 10 = false ∧ FrI 149 S Φ (Ψ ++ [(8, 73, .agg #[.int .i64 ((rkV (nth ((nth code.l t).l) j) ((nth M36 j).l)).s), .int .i64 ((rkV (nth ((nth code.l t).l) j) ((nth M36 j).l)).n)])]) a ∧ Sh (fun _ => False) W w [.own 44 (⟨v52, [(nth ((nth code.l t).l) j)]⟩ : Ls Ins), .blk b49 44 [.int .i64 ((nth ((nth code.l t).l) j).op), .int .i64 ((nth ((nth code.l t).l) j).a), .int .i64 ((nth ((nth code.l t).l) j).b), .int .i64 ((nth ((nth code.l t).l) j).c)], .blk gl36 66 [gs36.v, vm36, .bool false], .own 4 gs36, .big (matX (.own 68) 70 vm36 M36), .own 3 (⟨v19, words.l⟩ : Ls Int), .blk b15 25 [vq, v19, .int .i64 locks, .int .i64 regs], .blk b13 25 [(.slice none 0 0), (.slice none 0 0), .int .i64 0, .int .i64 0], .blk b12 25 [code.v, words.v, .int .i64 locks, .int .i64 regs], .at_ code, .at_ words, .deep 45 (⟨vq, qs⟩ : Ls (Ls Ins)), .deep 45 (⟨vb, bc⟩ : Ls (Ls Ins))]) ∨ (S 8 = false ∧ S 9 = true ∧ S 10 = false ∧ ∃ (b7009 : Nat), FrI 149 S Φ (Ψ ++ [(9, 12, .pointer (some ⟨b7009, 0, none⟩))]) a ∧ Sh (fun _ => False) W w [.blk b7009 68 [.int .i64 0, .int .i64 0], .own 44 (⟨v52, [(nth ((nth code.l t).l) j)]⟩ : Ls Ins), .blk b49 44 [.int .i64 ((nth ((nth code.l t).l) j).op), .int .i64 ((nth ((nth code.l t).l) j).a), .int .i64 ((nth ((nth code.l t).l) j).b), .int .i64 ((nth ((nth code.l t).l) j).c)], .blk gl36 66 [gs36.v, vm36, .bool false], .own 4 gs36, .big (matX (.own 68) 70 vm36 M36), .own 3 (⟨v19, words.l⟩ : Ls Int), .blk b15 25 [vq, v19, .int .i64 locks, .int .i64 regs], .blk b13 25 [(.slice none 0 0), (.slice none 0 0), .int .i64 0, .int .i64 0], .blk b12 25 [code.v, words.v, .int .i64 locks, .int .i64 regs], .at_ code, .at_ words, .deep 45 (⟨vq, qs⟩ : Ls (Ls Ins)), .deep 45 (⟨vb, bc⟩ : Ls (Ls Ins))]) ∨ (S 8 = true ∧ S 9 = true ∧ S 10 = false ∧ ∃ (b7009 : Nat), FrI 149 S Φ (Ψ ++ [(8, 73, .agg #[.int .i64 ((rkV (nth ((nth code.l t).l) j) ((nth M36 j).l)).s), .int .i64 ((rkV (nth ((nth code.l t).l) j) ((nth M36 j).l)).n)]), (9, 12, .pointer (some ⟨b7009, 0, none⟩))]) a ∧ Sh (fun _ => False) W w [.blk b7009 68 [.int .i64 0, .int .i64 0], .own 44 (⟨v52, [(nth ((nth code.l t).l) j)]⟩ : Ls Ins), .blk b49 44 [.int .i64 ((nth ((nth code.l t).l) j).op), .int .i64 ((nth ((nth code.l t).l) j).a), .int .i64 ((nth ((nth code.l t).l) j).b), .int .i64 ((nth ((nth code.l t).l) j).c)], .blk gl36 66 [gs36.v, vm36, .bool false], .own 4 gs36, .big (matX (.own 68) 70 vm36 M36), .own 3 (⟨v19, words.l⟩ : Ls Int), .blk b15 25 [vq, v19, .int .i64 locks, .int .i64 regs], .blk b13 25 [(.slice none 0 0), (.slice none 0 0), .int .i64 0, .int .i64 0], .blk b12 25 [code.v, words.v, .int .i64 locks, .int .i64 regs], .at_ code, .at_ words, .deep 45 (⟨vq, qs⟩ : Ls (Ls Ins)), .deep 45 (⟨vb, bc⟩ : Ls (Ls Ins))]) ∨ (S 8 = true ∧ S 9 = true ∧ S 10 = true ∧ ∃ (b7009 : Nat), FrI 149 S Φ (Ψ ++ [(8, 73, .agg #[.int .i64 ((rkV (nth ((nth code.l t).l) j) ((nth M36 j).l)).s), .int .i64 ((rkV (nth ((nth code.l t).l) j) ((nth M36 j).l)).n)]), (9, 12, .pointer (some ⟨b7009, 0, none⟩))]) a ∧ Sh (fun _ => False) W w [.blk b7009 68 [.int .i64 ((rkV (nth ((nth code.l t).l) j) ((nth M36 j).l)).s), .int .i64 ((rkV (nth ((nth code.l t).l) j) ((nth M36 j).l)).n)], .own 44 (⟨v52, [(nth ((nth code.l t).l) j)]⟩ : Ls Ins), .blk b49 44 [.int .i64 ((nth ((nth code.l t).l) j).op), .int .i64 ((nth ((nth code.l t).l) j).a), .int .i64 ((nth ((nth code.l t).l) j).b), .int .i64 ((nth ((nth code.l t).l) j).c)], .blk gl36 66 [gs36.v, vm36, .bool false], .own 4 gs36, .big (matX (.own 68) 70 vm36 M36), .own 3 (⟨v19, words.l⟩ : Ls Int), .blk b15 25 [vq, v19, .int .i64 locks, .int .i64 regs], .blk b13 25 [(.slice none 0 0), (.slice none 0 0), .int .i64 0, .int .i64 0], .blk b12 25 [code.v, words.v, .int .i64 locks, .int .i64 regs], .at_ code, .at_ words, .deep 45 (⟨vq, qs⟩ : Ls (Ls Ins)), .deep 45 (⟨vb, bc⟩ : Ls (Ls Ins))])) [(1, .pointer (some ⟨b12, 0, none⟩)), (2, .pointer (some ⟨b13, 0, none⟩)), (3, .pointer (some ⟨b15, 0, none⟩)), (4, .int .i64 ((t : Nat) : Int)), (5, (nth code.l t).v), (6, .pointer (some ⟨gl36, 0, none⟩)), (7, vb), (8, .int .i64 ((j : Nat) : Int)), (9, .pointer (some ⟨b49, 0, none⟩)), (10, v52), (64, .bool (nth gs36.l j))] [(0, 65, .agg #[.int .i64 ((nth ((nth code.l t).l) j).op), .int .i64 ((nth ((nth code.l t).l) j).a), .int .i64 ((nth ((nth code.l t).l) j).b), .int .i64 ((nth ((nth code.l t).l) j).c)]), (1, 66, .pointer (some ⟨gl36, 0, none⟩)), (2, 67, .pointer (some ⟨gl36, 0, none⟩)), (3, 68, .pointer (some ⟨gl36, 1, none⟩)), (4, 69, vm36), (5, 70, .int .i64 ((j : Nat) : Int)), (6, 71, .pointer (some (padr vm36 1 j 0))), (7, 72, (nth M36 j).v)]) (by kernel_rfl) (by kernel_rfl) (Or.inl (⟨rfl, rfl, rfl, FrI.start h61.fr, h61.sh.drew⟩)) ?_ ?_
      ·intro S i o ho hSi hcl hdep a w hI
       clear h61
       rcases i with _ | _ | _ | _ | _ | _ | _ | _ | _ | _ | _ | i
       ·obtain rfl : _ = o := Option.some.inj ho
        rcases hI with ⟨ν8, ν9, ν10, φ, ς⟩ | ⟨ν8, _⟩ | ⟨ν8, ν9, ν10, b7009, φ, ς⟩ | ⟨ν8, _⟩ | ⟨ν8, _⟩
        ·exact sq φ φ.fr0 ς (r_ldbw (i := 1) (vs := [.int .i64 ((nth ((nth code.l t).l) j).op), .int .i64 ((nth ((nth code.l t).l) j).a), .int .i64 ((nth ((nth code.l t).l) j).b), .int .i64 ((nth ((nth code.l t).l) j).c)]) ti_44 rfl rfl rfl rfl rfl) 0 rfl rfl rfl rfl rfl rfl fun a hg => Or.inl (⟨un rfl ν8, un rfl ν9, un rfl ν10, hg, ς⟩)
        ·exact no_way (cA hcl 8 0 rfl ν8) hSi
        ·exact sq φ φ.fr0 ς (r_ldbw (i := 2) (vs := [.int .i64 ((nth ((nth code.l t).l) j).op), .int .i64 ((nth ((nth code.l t).l) j).a), .int .i64 ((nth ((nth code.l t).l) j).b), .int .i64 ((nth ((nth code.l t).l) j).c)]) ti_44 rfl rfl rfl rfl rfl) 0 rfl rfl rfl rfl rfl rfl fun a hg => Or.inr (Or.inr (Or.inl (⟨un rfl ν8, un rfl ν9, un rfl ν10, b7009, hg, ς⟩)))
        ·exact no_way (cA hcl 8 0 rfl ν8) hSi
        ·exact no_way (cA hcl 8 0 rfl ν8) hSi
       ·obtain rfl : _ = o := Option.some.inj ho
        rcases hI with ⟨ν8, ν9, ν10, φ, ς⟩ | ⟨ν8, _⟩ | ⟨ν8, ν9, ν10, b7009, φ, ς⟩ | ⟨ν8, _⟩ | ⟨ν8, _⟩
        ·exact sq φ φ.fr0 ς (r_move rfl rfl) 1 rfl rfl rfl rfl rfl rfl fun a hg => Or.inl (⟨un rfl ν8, un rfl ν9, un rfl ν10, hg, ς⟩)
        ·exact no_way (cA hcl 8 1 rfl ν8) hSi
        ·exact sq φ φ.fr0 ς (r_move rfl rfl) 1 rfl rfl rfl rfl rfl rfl fun a hg => Or.inr (Or.inr (Or.inl (⟨un rfl ν8, un rfl ν9, un rfl ν10, b7009, hg, ς⟩)))
        ·exact no_way (cA hcl 8 1 rfl ν8) hSi
        ·exact no_way (cA hcl 8 1 rfl ν8) hSi
       ·obtain rfl : _ = o := Option.some.inj ho
        have hd1 : S 1 = true := depAt hdep 0 rfl rfl
        rcases hI with ⟨ν8, ν9, ν10, φ, ς⟩ | ⟨ν8, _⟩ | ⟨ν8, ν9, ν10, b7009, φ, ς⟩ | ⟨ν8, _⟩ | ⟨ν8, _⟩
        ·exact sq φ (Fr.cons φ.fr0 (φ.at_ 1 1 66 _ rfl hd1)) ς (r_nil rfl rfl) 2 rfl rfl rfl rfl rfl rfl fun a hg => Or.inl (⟨un rfl ν8, un rfl ν9, un rfl ν10, hg, ς⟩)
        ·exact no_way (cA hcl 8 2 rfl ν8) hSi
        ·exact sq φ (Fr.cons φ.fr0 (φ.at_ 1 1 66 _ rfl hd1)) ς (r_nil rfl rfl) 2 rfl rfl rfl rfl rfl rfl fun a hg => Or.inr (Or.inr (Or.inl (⟨un rfl ν8, un rfl ν9, un rfl ν10, b7009, hg, ς⟩)))
        ·exact no_way (cA hcl 8 2 rfl ν8) hSi
        ·exact no_way (cA hcl 8 2 rfl ν8) hSi
       ·obtain rfl : _ = o := Option.some.inj ho
        have hd2 : S 2 = true := depAt hdep 0 rfl rfl
        rcases hI with ⟨ν8, ν9, ν10, φ, ς⟩ | ⟨ν8, _⟩ | ⟨ν8, ν9, ν10, b7009, φ, ς⟩ | ⟨ν8, _⟩ | ⟨ν8, _⟩
        ·exact sq φ (Fr.cons φ.fr0 (φ.at_ 2 2 67 _ rfl hd2)) ς (r_fieldB (r := 1) fl_66_1 rfl rfl rfl) 3 rfl rfl rfl rfl rfl rfl fun a hg => Or.inl (⟨un rfl ν8, un rfl ν9, un rfl ν10, hg, ς⟩)
        ·exact no_way (cA hcl 8 3 rfl ν8) hSi
        ·exact sq φ (Fr.cons φ.fr0 (φ.at_ 2 2 67 _ rfl hd2)) ς (r_fieldB (r := 1) fl_66_1 rfl rfl rfl) 3 rfl rfl rfl rfl rfl rfl fun a hg => Or.inr (Or.inr (Or.inl (⟨un rfl ν8, un rfl ν9, un rfl ν10, b7009, hg, ς⟩)))
        ·exact no_way (cA hcl 8 3 rfl ν8) hSi
        ·exact no_way (cA hcl 8 3 rfl ν8) hSi
       ·obtain rfl : _ = o := Option.some.inj ho
        have hd3 : S 3 = true := depAt hdep 0 rfl rfl
        rcases hI with ⟨ν8, ν9, ν10, φ, ς⟩ | ⟨ν8, _⟩ | ⟨ν8, ν9, ν10, b7009, φ, ς⟩ | ⟨ν8, _⟩ | ⟨ν8, _⟩
        ·exact sq φ (Fr.cons φ.fr0 (φ.at_ 3 3 68 _ rfl hd3)) ς (r_ldb (i := 2) ti_64 rfl rfl rfl rfl) 4 rfl rfl rfl rfl rfl rfl fun a hg => Or.inl (⟨un rfl ν8, un rfl ν9, un rfl ν10, hg, ς⟩)
        ·exact no_way (cA hcl 8 4 rfl ν8) hSi
        ·exact sq φ (Fr.cons φ.fr0 (φ.at_ 3 3 68 _ rfl hd3)) ς (r_ldb (i := 3) ti_64 rfl rfl rfl rfl) 4 rfl rfl rfl rfl rfl rfl fun a hg => Or.inr (Or.inr (Or.inl (⟨un rfl ν8, un rfl ν9, un rfl ν10, b7009, hg, ς⟩)))
        ·exact no_way (cA hcl 8 4 rfl ν8) hSi
        ·exact no_way (cA hcl 8 4 rfl ν8) hSi
       ·obtain rfl : _ = o := Option.some.inj ho
        rcases hI with ⟨ν8, ν9, ν10, φ, ς⟩ | ⟨ν8, _⟩ | ⟨ν8, ν9, ν10, b7009, φ, ς⟩ | ⟨ν8, _⟩ | ⟨ν8, _⟩
        ·exact sq φ φ.fr0 ς (r_move rfl rfl) 5 rfl rfl rfl rfl rfl rfl fun a hg => Or.inl (⟨un rfl ν8, un rfl ν9, un rfl ν10, hg, ς⟩)
        ·exact no_way (cA hcl 8 5 rfl ν8) hSi
        ·exact sq φ φ.fr0 ς (r_move rfl rfl) 5 rfl rfl rfl rfl rfl rfl fun a hg => Or.inr (Or.inr (Or.inl (⟨un rfl ν8, un rfl ν9, un rfl ν10, b7009, hg, ς⟩)))
        ·exact no_way (cA hcl 8 5 rfl ν8) hSi
        ·exact no_way (cA hcl 8 5 rfl ν8) hSi
       ·obtain rfl : _ = o := Option.some.inj ho
        have hd4 : S 4 = true := depAt hdep 0 rfl rfl
        have hd5 : S 5 = true := depAt hdep 1 rfl rfl
        rcases hI with ⟨ν8, ν9, ν10, φ, ς⟩ | ⟨ν8, _⟩ | ⟨ν8, ν9, ν10, b7009, φ, ς⟩ | ⟨ν8, _⟩ | ⟨ν8, _⟩
        ·exact sq φ (Fr.cons (Fr.cons φ.fr0 (φ.at_ 4 4 69 _ rfl hd4)) (φ.at_ 5 5 70 _ rfl hd5)) ς (r_ixN (s := (⟨vm36, rvs M36⟩ : Ls RV)) (q := j) sl_64 ti_70 rfl rfl rfl (fun w h => (h.matAt 4 rfl)) (by rw [rvs_len]; exact (show j < M36.length from (by omega)))) 6 rfl rfl rfl rfl rfl rfl fun a hg => Or.inl (⟨un rfl ν8, un rfl ν9, un rfl ν10, hg, ς⟩)
        ·exact no_way (cA hcl 8 6 rfl ν8) hSi
        ·exact sq φ (Fr.cons (Fr.cons φ.fr0 (φ.at_ 4 4 69 _ rfl hd4)) (φ.at_ 5 5 70 _ rfl hd5)) ς (r_ixN (s := (⟨vm36, rvs M36⟩ : Ls RV)) (q := j) sl_64 ti_70 rfl rfl rfl (fun w h => (h.matAt 5 rfl)) (by rw [rvs_len]; exact (show j < M36.length from (by omega)))) 6 rfl rfl rfl rfl rfl rfl fun a hg => Or.inr (Or.inr (Or.inl (⟨un rfl ν8, un rfl ν9, un rfl ν10, b7009, hg, ς⟩)))
        ·exact no_way (cA hcl 8 6 rfl ν8) hSi
        ·exact no_way (cA hcl 8 6 rfl ν8) hSi
       ·obtain rfl : _ = o := Option.some.inj ho
        have hd6 : S 6 = true := depAt hdep 0 rfl rfl
        rcases hI with ⟨ν8, ν9, ν10, φ, ς⟩ | ⟨ν8, _⟩ | ⟨ν8, ν9, ν10, b7009, φ, ς⟩ | ⟨ν8, _⟩ | ⟨ν8, _⟩
        ·exact sq φ (Fr.cons φ.fr0 (φ.at_ 6 6 71 _ rfl hd6)) ς (Rn.same (r_lde (s := (⟨vm36, rvs M36⟩ : Ls RV)) (i := j) (v := (nth (rvs M36) j).v) ti_70 rfl rfl rfl (fun w h => h.matAt 4 rfl) (by rw [rvs_len]; exact (show j < M36.length from (by omega))) (Nat.le_of_ble_eq_true rfl) rfl) (nth_rvs M36 j)) 7 rfl rfl rfl rfl rfl rfl fun a hg => Or.inl (⟨un rfl ν8, un rfl ν9, un rfl ν10, hg, ς⟩)
        ·exact no_way (cA hcl 8 7 rfl ν8) hSi
        ·exact sq φ (Fr.cons φ.fr0 (φ.at_ 6 6 71 _ rfl hd6)) ς (Rn.same (r_lde (s := (⟨vm36, rvs M36⟩ : Ls RV)) (i := j) (v := (nth (rvs M36) j).v) ti_70 rfl rfl rfl (fun w h => h.matAt 5 rfl) (by rw [rvs_len]; exact (show j < M36.length from (by omega))) (Nat.le_of_ble_eq_true rfl) rfl) (nth_rvs M36 j)) 7 rfl rfl rfl rfl rfl rfl fun a hg => Or.inr (Or.inr (Or.inl (⟨un rfl ν8, un rfl ν9, un rfl ν10, b7009, hg, ς⟩)))
        ·exact no_way (cA hcl 8 7 rfl ν8) hSi
        ·exact no_way (cA hcl 8 7 rfl ν8) hSi
       ·obtain rfl : _ = o := Option.some.inj ho
        have hd0 : S 0 = true := depAt hdep 0 rfl rfl
        have hd7 : S 7 = true := depAt hdep 1 rfl rfl
        rcases hI with ⟨ν8, ν9, ν10, φ, ς⟩ | ⟨ν8, _⟩ | ⟨ν8, ν9, ν10, b7009, φ, ς⟩ | ⟨ν8, _⟩ | ⟨ν8, _⟩
        ·have hs := St.mk (Fr.cons (Fr.cons φ.fr0 (φ.at_ 0 0 65 _ rfl hd0)) (φ.at_ 7 7 72 _ rfl hd7)) ς
         refine step_ex (x_call hs bd_31 rfl rfl rfl rfl rfl (result_c (nth ((nth code.l t).l) j) (nth M36 j) _ (hs.sh.matRow 4 rfl j (show j < M36.length from (by omega))) (by omega) (fun h9 => by omega) (fun h9 => by omega))) (wanted_none rfl _) ?_
         rintro a79 w79 ⟨_, ⟨rfl, hs79⟩, hf79⟩ ⟨v0, ht79⟩
         have h79 : St 149 (fun _ => False) W a79 w79 _ _ := ⟨hf79, hs.sh.call0 hs79⟩
         clear hf79 hs79
         exact Or.inr (Or.inl (⟨upd_self _ _, un rfl ν9, un rfl ν10, φ.stepW hcl hSi [0, 1, 2, 3, 4, 5, 6, 7] (by kernel_rfl) (by kernel_rfl) ht79 h79.fr.defers (h79.fr.at_ 73 _ rfl) 8 rfl rfl rfl rfl, (h79.sh.sel [0, 1, 2, 3, 4, 5, 6, 7, 8, 9, 10, 11, 12] rfl)⟩))
        ·exact no_way ν8 hSi
        ·have hs := St.mk (Fr.cons (Fr.cons φ.fr0 (φ.at_ 0 0 65 _ rfl hd0)) (φ.at_ 7 7 72 _ rfl hd7)) ς
         refine step_ex (x_call hs bd_31 rfl rfl rfl rfl rfl (result_c (nth ((nth code.l t).l) j) (nth M36 j) _ (hs.sh.matRow 5 rfl j (show j < M36.length from (by omega))) (by omega) (fun h9 => by omega) (fun h9 => by omega))) (wanted_none rfl _) ?_
         rintro a80 w80 ⟨_, ⟨rfl, hs80⟩, hf80⟩ ⟨v0, ht80⟩
         have h80 : St 149 (fun _ => False) W a80 w80 _ _ := ⟨hf80, hs.sh.call0 hs80⟩
         clear hf80 hs80
         exact Or.inr (Or.inr (Or.inr (Or.inl (⟨upd_self _ _, un rfl ν9, un rfl ν10, b7009, φ.stepW hcl hSi [0, 1, 2, 3, 4, 5, 6, 7, 9] (by kernel_rfl) (by kernel_rfl) ht80 h80.fr.defers (h80.fr.at_ 73 _ rfl) 8 rfl rfl rfl rfl, (h80.sh.sel [0, 1, 2, 3, 4, 5, 6, 7, 8, 9, 10, 11, 12, 13] rfl)⟩))))
        ·exact no_way ν8 hSi
        ·exact no_way ν8 hSi
       ·obtain rfl : _ = o := Option.some.inj ho
        rcases hI with ⟨ν8, ν9, ν10, φ, ς⟩ | ⟨ν8, ν9, ν10, φ, ς⟩ | ⟨_, ν9, _⟩ | ⟨_, ν9, _⟩ | ⟨_, ν9, _⟩
        ·have hs := St.mk φ.fr0 ς
         refine step_ex (x_alloc hs ti_68 rfl rfl rfl) (wanted_none rfl _) ?_
         rintro a81 w81 ⟨b81, h81⟩ ⟨v0, ht81⟩
         exact Or.inr (Or.inr (Or.inl (⟨un rfl ν8, upd_self _ _, un rfl ν10, b81, φ.stepW hcl hSi [0, 1, 2, 3, 4, 5, 6, 7] (by kernel_rfl) (by kernel_rfl) ht81 h81.fr.defers (h81.fr.at_ 12 _ rfl) 8 rfl rfl rfl rfl, (h81.sh.sel [0, 1, 2, 3, 4, 5, 6, 7, 8, 9, 10, 11, 12, 13] rfl)⟩)))
        ·have hs := St.mk φ.fr0 ς
         refine step_ex (x_alloc hs ti_68 rfl rfl rfl) (wanted_none rfl _) ?_
         rintro a82 w82 ⟨b82, h82⟩ ⟨v0, ht82⟩
         exact Or.inr (Or.inr (Or.inr (Or.inl (⟨un rfl ν8, upd_self _ _, un rfl ν10, b82, φ.stepW hcl hSi [0, 1, 2, 3, 4, 5, 6, 7, 8] (by kernel_rfl) (by kernel_rfl) ht82 h82.fr.defers (h82.fr.at_ 12 _ rfl) 9 rfl rfl rfl rfl, (h82.sh.sel [0, 1, 2, 3, 4, 5, 6, 7, 8, 9, 10, 11, 12, 13] rfl)⟩))))
        ·exact no_way ν9 hSi
        ·exact no_way ν9 hSi
        ·exact no_way ν9 hSi
       ·obtain rfl : _ = o := Option.some.inj ho
        have hd9 : S 9 = true := depAt hdep 0 rfl rfl
        have hd8 : S 8 = true := depAt hdep 1 rfl rfl
        rcases hI with ⟨ν8, _⟩ | ⟨_, ν9, _⟩ | ⟨ν8, _⟩ | ⟨ν8, ν9, ν10, b7009, φ, ς⟩ | ⟨_, _, ν10, _⟩
        ·exact no_way hd8 ν8
        ·exact no_way hd9 ν9
        ·exact no_way hd8 ν8
        ·have hs := St.mk (Fr.cons (Fr.cons φ.fr0 (φ.at_ 8 8 73 _ rfl hd8)) (φ.at_ 9 9 12 _ rfl hd9)) ς
         refine step_ex (x_stb (i := 0) (vs := [.int .i64 ((rkV (nth ((nth code.l t).l) j) ((nth M36 j).l)).s), .int .i64 ((rkV (nth ((nth code.l t).l) j) ((nth M36 j).l)).n)]) (cs' := [.int .i64 ((rkV (nth ((nth code.l t).l) j) ((nth M36 j).l)).s), .int .i64 ((rkV (nth ((nth code.l t).l) j) ((nth M36 j).l)).n)]) hs ti_68 rfl rfl rfl rfl rfl rfl rfl (allOne_cons rfl (allOne_cons rfl allOne_nil)) (Nat.le_of_ble_eq_true rfl) rfl) (wanted_none rfl _) ?_
         rintro a83 w83 h83 ⟨v0, ht83⟩
         exact Or.inr (Or.inr (Or.inr (Or.inr (⟨un rfl ν8, un rfl ν9, upd_self _ _, b7009, φ.noneW hcl hSi [0, 1, 2, 3, 4, 5, 6, 7, 8, 9] (by kernel_rfl) (by kernel_rfl) ht83 h83.fr.defers rfl, (h83.sh.sel [0, 1, 2, 3, 4, 5, 6, 7, 8, 9, 10, 11, 12, 13] rfl)⟩))))
        ·exact no_way ν10 hSi
       · simp at ho
      intro S hall a w hI
      clear h61
      rcases hI with ⟨ν8, ν9, ν10, φ, ς⟩ | ⟨ν8, ν9, ν10, φ, ς⟩ | ⟨ν8, ν9, ν10, b7009, φ, ς⟩ | ⟨ν8, ν9, ν10, b7009, φ, ς⟩ | ⟨ν8, ν9, ν10, b7009, φ, ς⟩
      · exact no_way (hall 8 (by decide)) ν8
      · exact no_way (hall 9 (by decide)) ν9
      · exact no_way (hall 8 (by decide)) ν8
      · exact no_way (hall 10 (by decide)) ν10
      have h84 : St 149 (fun _ => False) W a w _ _ := ⟨(Fr.cons φ.fr0 (φ.at_ 9 9 12 _ rfl (hall 9 (by decide)))), ς⟩
      clear hall φ ς ν8 ν9 ν10
      refine gG h84<|hK k60<|sG (ofB fl_68_0 rfl<|olB 0 ti_3 rfl rfl<|oeqI _ _ rfl<|.nl)<|?_; clear h84
      refine gcd rfl (fun hb86 hp86 => ?_) fun hb86 hp86 => ?_
      ·skip
       refine gL<|gRn (ofB fl_44_1 rfl<|olB 2 ti_3 rfl rfl<|ofB fl_68_1 rfl<|olB 0 ti_3 rfl rfl<|oV (r_build (cs := [.int .i64 1, .int .i64 ((nth ((nth code.l t).l) j).a), .int .i64 ((rkV (nth ((nth code.l t).l) j) ((nth M36 j).l)).n), .int .i64 0]) rfl rfl (by kernel_rfl)) rfl<|.nl)<|gE1 (fun _ _ h_ => x_lit (n := 1) (cs := [.int .i64 1, .int .i64 ((nth ((nth code.l t).l) j).a), .int .i64 ((rkV (nth ((nth code.l t).l) j) ((nth M36 j).l)).n), .int .i64 0]) ([(⟨1, (nth ((nth code.l t).l) j).a, (rkV (nth ((nth code.l t).l) j) ((nth M36 j).l)).n, 0⟩ : Ins)] : List Ins) h_ sl_45 ti_44 rfl rfl rfl (by decide) rfl (by kernel_rfl) rfl (fun q hq w h => Flat.inner _ _) (fun q hq b hb => (Flat.on _ _ hb).elim) rfl rfl) rfl fun v87 => gRn (oM 1 rfl<|.nl)<|nN<|fun a89 w89 h89 => x_join ⟨[(⟨1, (nth ((nth code.l t).l) j).a, (rkV (nth ((nth code.l t).l) j) ((nth M36 j).l)).n, 0⟩ : Ins)], v87, ?_, h89.nrm ⟨rfl, rfl, rfl, rfl, rfl, rfl, rfl, rfl, rfl, rfl, trivial⟩ [0, 3, 4, 5, 6, 7, 8, 9, 10, 11, 12, 13, 14] rfl⟩
       · unfold d1L; first | exact (if_pos ⟨by omega, by assumption, by omega⟩).symm | exact (if_neg (fun h9 => by first | omega | exact absurd (h9.2.1.symm.trans (by assumption)) (by decide))).symm
      refine gS<|fun a90 w90 h90 => x_join ⟨[(nth ((nth code.l t).l) j)], v52, ?_, h90.nrm ⟨rfl, rfl, rfl, rfl, rfl, rfl, rfl, rfl, rfl, rfl, trivial⟩ [1, 2, 3, 4, 5, 6, 7, 8, 9, 10, 11, 12, 13] rfl⟩
      · unfold d1L; first | exact (if_pos ⟨by omega, by assumption, by omega⟩).symm | exact (if_neg (fun h9 => by first | omega | exact absurd (h9.2.1.symm.trans (by assumption)) (by decide))).symm
     refine gS<|fun a91 w91 h91 => x_join ⟨[(nth ((nth code.l t).l) j)], v52, ?_, h91.nf ⟨rfl, rfl, rfl, rfl, rfl, rfl, rfl, rfl, rfl, rfl, trivial⟩⟩
     · unfold d1L; first | exact (if_pos ⟨by omega, by assumption, by omega⟩).symm | exact (if_neg (fun h9 => by first | omega | exact absurd (h9.2.1.symm.trans (by assumption)) (by decide))).symm
    refine gRn (oKs 7 hb57 rfl rfl<|opF hb57 rfl<|.nl)<|nK k56<|gF [1, 2, 3, 4, 5, 6, 7, 8, 9, 10, 64] rfl<|gcF rfl rfl<|gS<|fun a92 w92 h92 => x_join ⟨[(nth ((nth code.l t).l) j)], v52, ?_, h92.nf ⟨rfl, rfl, rfl, rfl, rfl, rfl, rfl, rfl, rfl, rfl, trivial⟩⟩
    · unfold d1L; first | exact (if_pos ⟨by omega, by assumption, by omega⟩).symm | exact (if_neg (fun h9 => by first | omega | exact absurd (h9.2.1.symm.trans (by assumption)) (by decide))).symm
   clear h55
   rintro a93 w93 ⟨l1, v1, hx1, h93⟩
   refine x_seq (fun a w => ∃ (l2 : List Ins) (v2 : Value), (l2 = d2L (nth gs36.l j) (nth (nth code.l t).l j) (nth M36 j).l) ∧ St 149 (fun _ => False) W a w [(1, .pointer (some ⟨b12, 0, none⟩)), (2, .pointer (some ⟨b13, 0, none⟩)), (3, .pointer (some ⟨b15, 0, none⟩)), (4, .int .i64 ((t : Nat) : Int)), (5, (nth code.l t).v), (6, .pointer (some ⟨gl36, 0, none⟩)), (7, vb), (8, .int .i64 ((j : Nat) : Int)), (10, v2)] [.own 44 (⟨v2, l2⟩ : Ls Ins), .blk b49 44 [.int .i64 ((nth ((nth code.l t).l) j).op), .int .i64 ((nth ((nth code.l t).l) j).a), .int .i64 ((nth ((nth code.l t).l) j).b), .int .i64 ((nth ((nth code.l t).l) j).c)], .blk gl36 66 [gs36.v, vm36, .bool false], .own 4 gs36, .big (matX (.own 68) 70 vm36 M36), .own 3 (⟨v19, words.l⟩ : Ls Int), .blk b15 25 [vq, v19, .int .i64 locks, .int .i64 regs], .blk b13 25 [(.slice none 0 0), (.slice none 0 0), .int .i64 0, .int .i64 0], .blk b12 25 [code.v, words.v, .int .i64 locks, .int .i64 regs], .at_ code, .at_ words, .deep 45 (⟨vq, qs⟩ : Ls (Ls Ins)), .deep 45 (⟨vb, bc⟩ : Ls (Ls Ins))]) ?_ ?_
   ·refine gG h93<|gK fun _ k94 => fun a95 w95 h95 => ?_; clear h93
    refine x_quiet (by kernel_rfl) (by kernel_rfl) h95 fun _ z96 => qQ h95.fr<|qRn (ofB fl_44_0 rfl<|olB 1 ti_3 rfl rfl<|oeqI _ _ rfl<|oM 1 rfl<|.nl)<|?_
    rcases dsp ((nth ((nth code.l t).l) j).op = 15) with ⟨hb97, hp97⟩ | ⟨hb97, hp97⟩
    ·skip
     refine qRn (oG hb97 (r_move rfl rfl) rfl<|oG hb97 (r_nil rfl rfl) rfl<|oG hb97 (r_fieldB (r := 0) fl_66_0 rfl rfl rfl) rfl<|oG hb97 (r_ldb (i := 2) ti_63 rfl rfl rfl rfl) rfl<|oG hb97 (r_move rfl rfl) rfl<|.nl)<|?_
     have hl104 : gs36.l.length ≤ 140737488355328 := (h95.sh.own 3 rfl).len
     refine qRn (oG hb97 (r_ixN (s := gs36) (q := j) sl_63 ti_4 rfl rfl rfl (fun w h => (h.own 3 rfl)) (show j < gs36.l.length from om9)) rfl<|oG hb97 (r_lde (s := gs36) (i := j) (v := .bool (nth gs36.l j)) ti_4 rfl rfl rfl (fun w h => (h.own 3 rfl)) (show j < gs36.l.length from om9) (Nat.le_of_ble_eq_true rfl) rfl) rfl<|opT hb97 rfl<|oM 1 rfl<|.nl)<|?_
     rcases Bool.eq_false_or_eq_true (nth gs36.l j) with hb106 | hb106
     ·skip
      refine qRn (oG hb106 (r_move rfl rfl) rfl<|oG hb106 (r_nil rfl rfl) rfl<|oG hb106 (r_fieldB (r := 1) fl_66_1 rfl rfl rfl) rfl<|oG hb106 (r_ldb (i := 2) ti_64 rfl rfl rfl rfl) rfl<|oG hb106 (r_move rfl rfl) rfl<|oG hb106 (r_ixN (s := (⟨vm36, rvs M36⟩ : Ls RV)) (q := j) sl_64 ti_70 rfl rfl rfl (fun w h => (h.matAt 4 rfl)) (by rw [rvs_len]; exact (show j < M36.length from om9))) rfl<|oG hb106 (Rn.same (r_lde (s := (⟨vm36, rvs M36⟩ : Ls RV)) (i := j) (v := (nth (rvs M36) j).v) ti_70 rfl rfl rfl (fun w h => h.matAt 4 rfl) (by rw [rvs_len]; exact (show j < M36.length from om9)) (Nat.le_of_ble_eq_true rfl) rfl) (nth_rvs M36 j)) rfl<|oG hb106 (r_fieldB (r := 1) fl_44_1 rfl rfl rfl) rfl<|oG hb106 (r_ldb (i := 1) ti_3 rfl rfl rfl rfl) rfl<|.nl)<|?_
      have hl117 : ((nth M36 j).l).length ≤ 140737488355328 := (h95.sh.matRow 4 rfl j (show j < M36.length from (by omega))).len
      refine qRn (oG hb106 (r_ixI (s := (nth M36 j)) (q := (nth ((nth code.l t).l) j).a) sl_70 ti_68 rfl rfl rfl (fun w h => (h.matRow 4 rfl j (show j < M36.length from om9))) (show 0 ≤ (nth ((nth code.l t).l) j).a ∧ (nth ((nth code.l t).l) j).a < ((nth M36 j).l).length from om9)) rfl<|oG hb106 (r_fieldE (r := 0) fl_68_0 rfl rfl rfl) rfl<|oG hb106 (r_lde (s := (nth M36 j)) (i := ((nth ((nth code.l t).l) j).a).toNat) (v := .int .i64 ((nth ((nth M36 j).l) (((nth ((nth code.l t).l) j).a).toNat)).s)) ti_3 rfl rfl rfl (fun w h => (h.matRow 4 rfl j (show j < M36.length from om9))) (show ((nth ((nth code.l t).l) j).a).toNat < ((nth M36 j).l).length from om9) (Nat.le_of_ble_eq_true rfl) rfl) rfl<|oG hb106 (r_eqlI (p := (nth ((nth M36 j).l) (((nth ((nth code.l t).l) j).a).toNat)).s) (q := 1) rfl rfl rfl) rfl<|opT hb106 rfl<|.nl)<|qN z96<|?_; clear h95
      refine hK k94<|gF [1, 2, 3, 4, 5, 6, 7, 8, 9, 10, 109] rfl<|gcd rfl (fun hb121 hp121 => ?_) fun hb121 hp121 => ?_
      ·skip
       refine sK fun _ k122 => gRn (ofB fl_44_2 rfl<|olB 1 ti_3 rfl rfl<|oV (r_build (cs := [.int .i64 14, .int .i64 ((nth ((nth code.l t).l) j).b), .int .i64 0, .int .i64 0]) rfl rfl (by kernel_rfl)) rfl<|.nl)<|gE1 (fun _ _ h_ => x_lit (n := 1) (cs := [.int .i64 14, .int .i64 ((nth ((nth code.l t).l) j).b), .int .i64 0, .int .i64 0]) ([(⟨14, (nth ((nth code.l t).l) j).b, 0, 0⟩ : Ins)] : List Ins) h_ sl_45 ti_44 rfl rfl rfl (by decide) rfl (by kernel_rfl) rfl (fun q hq w h => Flat.inner _ _) (fun q hq b hb => (Flat.on _ _ hb).elim) rfl rfl) rfl fun v123 => gRn (oM 1 rfl<|.nl)<|nK k122<|gK fun _ k124 => rQ (oM 1 rfl<|onfl 3 fl_66_1 ti_64 rfl rfl<|oM 1 rfl<|oxN sl_64 ti_70 (fun w h => (h.matAt 5 rfl)) _ (by rw [rvs_len]; exact (show j < M36.length from (by omega))) rfl<|oV (Rn.same (r_lde (s := (⟨vm36, rvs M36⟩ : Ls RV)) (i := j) (v := (nth (rvs M36) j).v) ti_70 rfl rfl rfl (fun w h => h.matAt 5 rfl) (by rw [rvs_len]; exact (show j < M36.length from om9)) (Nat.le_of_ble_eq_true rfl) rfl) (nth_rvs M36 j)) rfl<|ofB fl_44_1 rfl<|olB 2 ti_3 rfl rfl<|oxI sl_70 ti_68 (fun w h => (h.matRow 5 rfl j (show j < M36.length from (by omega)))) om9 rfl<|ofE fl_68_1 rfl<|olE (.int .i64 ((nth ((nth M36 j).l) (((nth ((nth code.l t).l) j).a).toNat)).n)) ti_3 (fun w h => (h.matRow 5 rfl j (show j < M36.length from (by omega)))) om9 rfl<|oneI _ _ rfl<|.nl)<|hK k124<|gcd rfl (fun hb125 hp125 => ?_) fun hb125 hp125 => ?_
       ·skip
        refine gL<|gRn (oM 1 rfl<|.nl)<|nN<|fun a128 w128 h128 => ?_
        have h127 := h128.nil (α := Ins) 44
        clear h128
        refine x_join ⟨[], (.slice none 0 0), ?_, h127.nrm ⟨rfl, rfl, rfl, rfl, rfl, rfl, rfl, rfl, rfl, trivial⟩ [0, 3, 4, 5, 6, 7, 8, 9, 10, 11, 12, 13, 14] rfl⟩
        · unfold d2L; first | (rw [if_pos ⟨by omega, by assumption, by omega⟩]; first | exact (if_pos (by omega)).symm | exact (if_neg (by omega)).symm) | (rw [if_neg (fun h9 => by first | omega | exact absurd (h9.2.1.symm.trans (by assumption)) (by decide))]; exact hx1)
       refine gS<|fun a130 w130 h130 => x_join ⟨[(⟨14, (nth ((nth code.l t).l) j).b, 0, 0⟩ : Ins)], v123, ?_, h130.nrm ⟨rfl, rfl, rfl, rfl, rfl, rfl, rfl, rfl, rfl, trivial⟩ [0, 2, 3, 4, 5, 6, 7, 8, 9, 10, 11, 12, 13] rfl⟩
       · unfold d2L; first | (rw [if_pos ⟨by omega, by assumption, by omega⟩]; first | exact (if_pos (by omega)).symm | exact (if_neg (by omega)).symm) | (rw [if_neg (fun h9 => by first | omega | exact absurd (h9.2.1.symm.trans (by assumption)) (by decide))]; exact hx1)
      refine gS<|fun a131 w131 h131 => x_join ⟨l1, v1, ?_, h131.nf ⟨rfl, rfl, rfl, rfl, rfl, rfl, rfl, rfl, rfl, trivial⟩⟩
      · unfold d2L; first | (rw [if_pos ⟨by omega, by assumption, by omega⟩]; first | exact (if_pos (by omega)).symm | exact (if_neg (by omega)).symm) | (rw [if_neg (fun h9 => by first | omega | exact absurd (h9.2.1.symm.trans (by assumption)) (by decide))]; exact hx1)
     refine qRn (oKs 13 hb106 rfl rfl<|opF hb106 rfl<|.nl)<|qN z96<|?_; clear h95
     refine hK k94<|gF [1, 2, 3, 4, 5, 6, 7, 8, 9, 10, 109] rfl<|gcF rfl rfl<|gS<|fun a133 w133 h133 => x_join ⟨l1, v1, ?_, h133.nf ⟨rfl, rfl, rfl, rfl, rfl, rfl, rfl, rfl, rfl, trivial⟩⟩
     · unfold d2L; first | (rw [if_pos ⟨by omega, by assumption, by omega⟩]; first | exact (if_pos (by omega)).symm | exact (if_neg (by omega)).symm) | (rw [if_neg (fun h9 => by first | omega | exact absurd (h9.2.1.symm.trans (by assumption)) (by decide))]; exact hx1)
    refine qRn (oKs 7 hb97 rfl rfl<|opF hb97 rfl<|oM 1 rfl<|oKs 13 rfl rfl rfl<|opF rfl rfl<|.nl)<|qN z96<|?_; clear h95
    refine hK k94<|gF [1, 2, 3, 4, 5, 6, 7, 8, 9, 10, 109] rfl<|gcF rfl rfl<|gS<|fun a136 w136 h136 => x_join ⟨l1, v1, ?_, h136.nf ⟨rfl, rfl, rfl, rfl, rfl, rfl, rfl, rfl, rfl, trivial⟩⟩
    · unfold d2L; first | (rw [if_pos ⟨by omega, by assumption, by omega⟩]; first | exact (if_pos (by omega)).symm | exact (if_neg (by omega)).symm) | (rw [if_neg (fun h9 => by first | omega | exact absurd (h9.2.1.symm.trans (by assumption)) (by decide))]; exact hx1)
   clear h93
   rintro a137 w137 ⟨l2, v2, hx2, h137⟩
   refine x_seq (fun a w => ∃ (l3 : List Ins) (v3 : Value), (l3 = bcC (absR gs36.l M36) j (nth (nth code.l t).l j)) ∧ St 149 (fun _ => False) W a w [(1, .pointer (some ⟨b12, 0, none⟩)), (2, .pointer (some ⟨b13, 0, none⟩)), (3, .pointer (some ⟨b15, 0, none⟩)), (4, .int .i64 ((t : Nat) : Int)), (5, (nth code.l t).v), (6, .pointer (some ⟨gl36, 0, none⟩)), (7, vb), (8, .int .i64 ((j : Nat) : Int)), (10, v3)] [.own 44 (⟨v3, l3⟩ : Ls Ins), .blk b49 44 [.int .i64 ((nth ((nth code.l t).l) j).op), .int .i64 ((nth ((nth code.l t).l) j).a), .int .i64 ((nth ((nth code.l t).l) j).b), .int .i64 ((nth ((nth code.l t).l) j).c)], .blk gl36 66 [gs36.v, vm36, .bool false], .own 4 gs36, .big (matX (.own 68) 70 vm36 M36), .own 3 (⟨v19, words.l⟩ : Ls Int), .blk b15 25 [vq, v19, .int .i64 locks, .int .i64 regs], .blk b13 25 [(.slice none 0 0), (.slice none 0 0), .int .i64 0, .int .i64 0], .blk b12 25 [code.v, words.v, .int .i64 locks, .int .i64 regs], .at_ code, .at_ words, .deep 45 (⟨vq, qs⟩ : Ls (Ls Ins)), .deep 45 (⟨vb, bc⟩ : Ls (Ls Ins))]) ?_ ?_
   ·refine gG h137<|sK fun _ k138 => gNl (aO 3 rfl) fun hl139 => gRn (oM 1 rfl<|onfl 2 fl_66_0 ti_63 rfl rfl<|oM 1 rfl<|oxN sl_63 ti_4 (aO 3 rfl) _ om9 rfl<|olE (.bool (nth gs36.l j)) ti_4 (aO 3 rfl) om9 rfl<|ont rfl<|.nl)<|nK k138<|?_; clear h137
    refine gCb rfl (fun hb140 => ?_) fun hb140 => ?_
    ·have hn140 : nth gs36.l j = false := (Bool.not_eq_true' _).mp hb140
     refine gL<|gRn (oM 1 rfl<|.nl)<|nN<|fun a143 w143 h143 => ?_
     have h142 := h143.nil (α := Ins) 44
     clear h143
     refine x_join ⟨[], (.slice none 0 0), ?_, h142.nrm ⟨rfl, rfl, rfl, rfl, rfl, rfl, rfl, rfl, rfl, trivial⟩ [0, 2, 3, 4, 5, 6, 7, 8, 9, 10, 11, 12, 13] rfl⟩
     · rw [bcC_doc hc1]; first | exact (if_neg (by simp [*])).symm | (rw [if_pos (by first | assumption | simpa using (by assumption)), hx2]; exact congrArg (fun b => d2L b _ _) (by first | assumption | simpa using (by assumption)))
    have hn140 : nth gs36.l j = true := (Bool.not_eq_false' _).mp hb140
    refine gS<|fun a144 w144 h144 => x_join ⟨l2, v2, ?_, h144.nf ⟨rfl, rfl, rfl, rfl, rfl, rfl, rfl, rfl, rfl, trivial⟩⟩
    · rw [bcC_doc hc1]; first | exact (if_neg (by simp [*])).symm | (rw [if_pos (by first | assumption | simpa using (by assumption)), hx2]; exact congrArg (fun b => d2L b _ _) (by first | assumption | simpa using (by assumption)))
   clear h137
   rintro a145 w145 ⟨l3, v3, hx3, h145⟩
   refine gG h145<|gL<|gRn (oM 2 rfl<|.nl)<|gE1 (fun _ _ h_ => x_litD (E := 0) (x := (⟨v3, l3⟩ : Ls Ins)) h_ sl_22 ti_45 rfl rfl rfl ((h_.sh.own 0 rfl)) (fun b hb => (own_on (h_.sh.ok _ (List.mem_of_getElem? (i := 0) rfl)) hb).elim (fun h => h) (fun h => Flat.noRd h)) (fun b hb => Flat.noRd hb) rfl rfl) rfl fun v146 => gO [12, 0, 1, 2, 3, 4, 5, 6, 7, 8, 9, 10, 11] rfl<|gE1 (fun _ _ h_ => x_appD (s := (⟨vb, bc⟩ : Ls (Ls Ins))) (m := (⟨v146, [(⟨v3, l3⟩ : Ls Ins)]⟩ : Ls (Ls Ins))) h_ sl_22 ti_45 rfl rfl rfl rfl rfl rfl rfl inferInstance (show (bc.length + ([(⟨v3, l3⟩ : Ls Ins)]).length) * 24 ≤ 140737488355328 ∧ bc.length + ([(⟨v3, l3⟩ : Ls Ins)]).length ≤ 140737488355328 from om9) rfl rfl) rfl fun v148 => gRn (oM 1 rfl<|.nl)<|nK k47<|gL<|gRn (oM 1 rfl<|oadN _ 1 om9 rfl<|oM 1 rfl<|.nl)<|nN<|fun a149 w149 h149 => x_again ⟨_, ?_, j + 1, bc ++ ([(⟨v3, l3⟩ : Ls Ins)]), v148, ?_, ?_, ?_, h149.nrm ⟨rfl, rfl, rfl, rfl, rfl, rfl, rfl, rfl, trivial⟩ [2, 3, 4, 5, 6, 7, 8, 9, 10, 11, 0] rfl, rfl⟩; clear h145
   · rw [hm40]; first | omega | (simp only [lens9]; omega)
   · omega
   · rw [List.map_append, hbc, List.range_succ, List.map_append]; simp only [List.map_cons, List.map_nil, hx3]
   · simp [hbl]
  refine gX<|hK k38<|sK fun _ k150 => gRn (oM 2 rfl<|.nl)<|fun a152 w152 h152 => wl_ex (x_call h152 bd_32 rfl rfl rfl rfl rfl (rPut_c (⟨vb, bc⟩ : Ls (Ls Ins)) (nth code.l t) _ (h152.sh.deep 10 rfl) ((h152.sh.at 7 rfl).nth t (show t < code.l.length from (by omega))) (show bc.length = (nth code.l t).l.length by omega) (show (nth code.l t).l.length ≤ 5000 by omega) (fun i hi => by rw [bcv_nth hbc i (by omega)]; exact Nat.le_trans (bcC_len _ _ _) (by decide)) (bcv_ok hjt (by rw [hbc, show j = (nth code.l t).l.length by omega])))) (wanted_none rfl _) ?_
  rintro a153 w153 ⟨_, ⟨s153, rfl, hl153, hs153⟩, hf153⟩
  have h153 := (⟨hf153, h152.sh.call hs153 (by intro A hA b hb; simp only [List.mem_cons, List.not_mem_nil, or_false] at hA; first | (subst hA; exact Flat.noRd hb) | (rcases hA with rfl | rfl | rfl <;> first | exact (hb : False).elim | exact Flat.noRd hb | exact (NoRd.no _ hb).elim))⟩ : St 149 (fun _ => False) W a153 w153 _ _)
  clear hf153 hs153
  clear h152
  refine gG h153<|gRn (oM 1 rfl<|.nl)<|nK k150<|?_; clear h153
  have hq1 : s153.l = constL regs.toNat (nth code.l t).l := by rw [hl153, hbc, show j = (nth code.l t).l.length by omega, hRt, constL, ← leastA_eq hLe36, bc_put]; rfl
  refine gL<|gRn (ofB fl_25_0 rfl<|olB 5 ti_22 rfl rfl<|oM 1 rfl<|.nl)<|gE1 (fun _ _ h_ => x_litD (E := 0) (x := s153) h_ sl_22 ti_45 rfl rfl rfl ((h_.sh.own 0 rfl)) (fun b hb => (own_on (h_.sh.ok _ (List.mem_of_getElem? (i := 0) rfl)) hb).elim (fun h => h) (fun h => Flat.noRd h)) (fun b hb => Flat.noRd hb) rfl rfl) rfl fun v154 => gO [10, 0, 1, 2, 3, 4, 5, 6, 7, 8, 9, 11] rfl<|gE1 (fun _ _ h_ => x_appD (s := (⟨vq, qs⟩ : Ls (Ls Ins))) (m := (⟨v154, [s153]⟩ : Ls (Ls Ins))) h_ sl_22 ti_45 rfl rfl rfl rfl rfl rfl rfl inferInstance (show (qs.length + ([s153]).length) * 24 ≤ 140737488355328 ∧ qs.length + ([s153]).length ≤ 140737488355328 from om9) rfl rfl) rfl fun v156 => gRn (ofB fl_25_0 rfl<|.nl)<|gsr 5 ti_22 rfl (aD 0 rfl) rfl<|nK k30<|gL<|gRn (oM 1 rfl<|oadN _ 1 om9 rfl<|oM 1 rfl<|.nl)<|nN<|fun a158 w158 h158 => x_again ⟨_, ?_, t + 1, qs ++ ([s153]), v156, ?_, ?_, ?_, h158.nrm ⟨rfl, rfl, rfl, rfl, trivial⟩ [4, 5, 6, 7, 8, 9, 0] rfl, rfl⟩
  · rw [hm23]; first | omega | (simp only [lens9]; omega)
  · omega
  · rw [List.map_append, hqs, List.range_succ, List.map_append]; simp [hq1]
  · simp [hql]
 refine gX<|hK k21<|sK fun _ k159 => gRn (olw 1 ti_25 rfl rfl<|.nl)<|gE (fun _ _ h_ => x_stb (i := 2) (vs := [vq, v19, .int .i64 locks, .int .i64 regs]) (cs' := [vq, v19, .int .i64 locks, .int .i64 regs]) h_ ti_25 rfl rfl rfl rfl rfl rfl rfl (allOne_cons ((h_.sh.deep 6 rfl)).one (allOne_cons ((h_.sh.own 0 rfl)).one (allOne_cons rfl (allOne_cons rfl allOne_nil)))) (Nat.le_of_ble_eq_true rfl) rfl) rfl<|nK k159<|gR<|fun a161 w161 h161 => x_ret1c (fn := Try.f11) (t := 2) (i := 2) ti_25 rfl h161 rfl rfl rfl <| ⟨⟨vq, qs⟩, ⟨v19, words.l⟩, rfl, ?_, rfl, (h161.sh.sel [6, 0] rfl)⟩
 show qs.map (·.l) = _; rw [hqs, show t = code.l.length by omega]

theorem rDead_c (code : Ls (Ls Ins)) (words : Ls Int) (locks regs : Int) (W : World) (hcode : code.At W) (hwords : words.At W) (hok : OkPg (pgOf code words locks regs)) :
    Rets Try.prog 12 [.agg #[code.v, words.v, .int .i64 locks, .int .i64 regs]] W (fun v w' => ∃ (c : Ls (Ls Ins)) (u : Ls Int), v = .agg #[c.v, u.v, .int .i64 locks, .int .i64 regs] ∧ c.l.map (·.l) = (List.range code.l.length).map (fun t => deadL (nth code.l t).l) ∧ u.l = words.l ∧ Sh0 W w' [.deep 45 c, .own 3 u]) := by
 have hz := checkG_ok hok
 obtain ⟨hl1, hl2, hl3, hl4', hl5, hl6, hl7⟩ := ok_len hok
 have hrg := hok.regs
 have hrg1 : ((pgOf code words locks regs)).regs = regs := rfl
 rw [hrg1] at hrg
 refine gen Try.func12 Try.ntmps12 (Sh0.ext2 hcode hwords : Sh (fun _ => False) W W [.at_ code, .at_ words]) rfl fun a10 h10 => gG h10<|sK fun _ k11 => gbx rfl rfl fun b12 => gal ti_25 rfl fun b13 => nK k11<|sK fun _ k14 => gRn (ofB fl_25_2 rfl<|olB 1 ti_3 rfl rfl<|ofB fl_25_3 rfl<|olB 1 ti_3 rfl rfl<|oV (r_build (cs := [(.slice none 0 0), (.slice none 0 0), .int .i64 locks, .int .i64 regs]) rfl rfl (by kernel_rfl)) rfl<|.nl)<|gal ti_25 rfl fun b15 => gsw 0 ti_25 rfl rfl rfl<|nK k14<|sK fun _ k17 => gE1 (fun _ _ h_ => x_lit0 (α := Int) h_ sl_23 ti_3 rfl rfl rfl) rfl fun v18 => gRn (ofB fl_25_1 rfl<|olB 3 ti_23 rfl rfl<|.nl)<|gE1 (fun _ _ h_ => x_app (r := 0) (rm := 5) (s := (⟨v18, []⟩ : Ls Int)) (m := words) h_ sl_23 ti_3 rfl rfl rfl rfl rfl rfl rfl (fun w h => (h.at 5 rfl)) (fun b hb => .inr hb) (fun q hq b hb => .inr ⟨q, hq, hb⟩) rfl rfl rfl inferInstance (show (([]).length + words.l.length) * 8 ≤ 140737488355328 ∧ ([]).length + words.l.length ≤ 140737488355328 from om9) rfl rfl) rfl fun v19 => gRn (ofB fl_25_1 rfl<|.nl)<|gsr 1 ti_23 rfl (aO 0 rfl) rfl<|nK k17<|gK fun _ k21 => sG (oM 1 rfl<|.nl)<|gB<|fun a25 w25 h25 => ?_; clear h10
 have h24 := h25.nilDeep (α := Ls Ins) 45
 clear h25
 refine x_loop (fun m a w => ∃ (t : Nat) (qs : List (Ls Ins)) (vq : Value), (t ≤ code.l.length) ∧ (qs.map (·.l) = (List.range t).map (fun t => deadL (nth code.l t).l)) ∧ (qs.length = t) ∧ St 86 (fun _ => False) W a w [(1, .pointer (some ⟨b12, 0, none⟩)), (2, .pointer (some ⟨b13, 0, none⟩)), (3, .pointer (some ⟨b15, 0, none⟩)), (4, .int .i64 ((t : Nat) : Int))] [.own 3 (⟨v19, words.l⟩ : Ls Int), .blk b15 25 [vq, v19, .int .i64 locks, .int .i64 regs], .blk b13 25 [(.slice none 0 0), (.slice none 0 0), .int .i64 0, .int .i64 0], .blk b12 25 [code.v, words.v, .int .i64 locks, .int .i64 regs], .at_ code, .at_ words, .deep 45 (⟨vq, qs⟩ : Ls (Ls Ins))] ∧ m = code.l.length - t) ⟨_, 0, [], (.slice none 0 0), (by omega), (rfl), (rfl), h24.nrm ⟨rfl, rfl, rfl, rfl, trivial⟩ [1, 2, 3, 4, 5, 6, 0] rfl, rfl⟩ ?_
 clear h24
 rintro m23 a23 w23 ⟨t, qs, vq, ht, hqs, hql, h23, hm23⟩
 refine gG h23<|gK fun _ k26 => sK fun _ k27 => gNl (aA 4 rfl) fun hl28 => gRn (oM 1 rfl<|ofB fl_25_0 rfl<|olB 3 ti_22 rfl rfl<|oln sl_22 (aA 4 rfl) rfl<|oltN _ _ rfl<|.nl)<|nK k27<|?_; clear h23
 refine gcd rfl (fun hb29 hp29 => ?_) fun hb29 hp29 => ?_
 ·skip
  refine gS<|hK k26<|gK fun _ k30 => gB<|sG (ofB fl_25_0 rfl<|olB 3 ti_22 rfl rfl<|oM 1 rfl<|oxN sl_22 ti_45 (aA 4 rfl) _ om9 rfl<|olE ((nth code.l t).v) ti_45 (aA 4 rfl) om9 rfl<|oM 1 rfl<|.nl)<|?_
  obtain ⟨hl4, hjt⟩ := ok_thread hok t (by omega)
  have hov := okV_of hok t (by omega)
  refine sK fun _ k32 => gRn (oM 1 rfl<|ofB fl_25_3 rfl<|olB 3 ti_3 rfl rfl<|.nl)<|fun a34 w34 h34 => ?_
  have h33 := h34.same (d := 37) (v' := .int .i64 ((regs.toNat : Nat) : Int)) rfl (by rw [Int.toNat_of_nonneg (show 0 ≤ regs by omega)])
  clear h34
  refine wl_ex (x_call h33 bd_33 rfl rfl rfl rfl rfl (rSets_c (nth code.l t) regs (liveC (nth code.l t).l) _ ((h33.sh.at 4 rfl).nth t (show t < code.l.length from (by omega))) (by omega) hjt hov (fun r j => liveC_iff _ r j) (by omega))) (wanted_none rfl _) ?_
  rintro a36 w36 ⟨_, ⟨s36, rfl, hse36, hs36⟩, hf36⟩
  have h36 := (⟨hf36, h33.sh.call hs36 (by intro A hA b hb; simp only [List.mem_cons, List.not_mem_nil, or_false] at hA; first | (subst hA; exact Flat.noRd hb) | (rcases hA with rfl | rfl | rfl <;> first | exact (hb : False).elim | exact Flat.noRd hb | exact (NoRd.no _ hb).elim))⟩ : St 86 (fun _ => False) W a36 w36 _ _)
  clear hf36 hs36
  clear h33
  refine gG h36<|gRn (oM 1 rfl<|.nl)<|nK k32<|sG (oM 1 rfl<|.nl)<|gK fun _ k38 => sG (oM 1 rfl<|.nl)<|gB<|fun a42 w42 h42 => ?_; clear h36
  have h41 := h42.nilDeep (α := Ls Ins) 45
  clear h42
  refine x_loop (fun m a w => ∃ (j : Nat) (bc : List (Ls Ins)) (vb : Value), (j ≤ (nth code.l t).l.length) ∧ (bc.map (·.l) = (List.range j).map (fun i => deadB (liveC (nth code.l t).l) i (nth (nth code.l t).l i))) ∧ (bc.length = j) ∧ St 86 (fun _ => False) W a w [(1, .pointer (some ⟨b12, 0, none⟩)), (2, .pointer (some ⟨b13, 0, none⟩)), (3, .pointer (some ⟨b15, 0, none⟩)), (4, .int .i64 ((t : Nat) : Int)), (5, (nth code.l t).v), (6, s36.v), (7, vb), (8, .int .i64 ((j : Nat) : Int))] [.deep 63 s36, .own 3 (⟨v19, words.l⟩ : Ls Int), .blk b15 25 [vq, v19, .int .i64 locks, .int .i64 regs], .blk b13 25 [(.slice none 0 0), (.slice none 0 0), .int .i64 0, .int .i64 0], .blk b12 25 [code.v, words.v, .int .i64 locks, .int .i64 regs], .at_ code, .at_ words, .deep 45 (⟨vq, qs⟩ : Ls (Ls Ins)), .deep 45 (⟨vb, bc⟩ : Ls (Ls Ins))] ∧ m = (nth code.l t).l.length - j) ⟨_, 0, [], (.slice none 0 0), (by omega), (rfl), (rfl), h41.nrm ⟨rfl, rfl, rfl, rfl, rfl, rfl, rfl, rfl, trivial⟩ [1, 2, 3, 4, 5, 6, 7, 8, 0] rfl, rfl⟩ ?_
  clear h41
  rintro m40 a40 w40 ⟨j, bc, vb, hj, hbc, hbl, h40, hm40⟩
  refine gG h40<|gK fun _ k43 => sK fun _ k44 => gNl (fun w h => ((h.at 5 rfl).nth t (show t < code.l.length from (by omega)))) fun (hl45 : ((nth code.l t).l).length ≤ 140737488355328) => gRn (oM 2 rfl<|oln (n := ((nth code.l t).l).length) sl_45 (fun w h => ((h.at 5 rfl).nth t (show t < code.l.length from (by omega)))) rfl<|oltN _ _ rfl<|.nl)<|nK k44<|?_; clear h40
  refine gcd rfl (fun hb46 hp46 => ?_) fun hb46 hp46 => ?_
  ·skip
   refine gS<|hK k43<|?_
   have hsl9 := (rowsV hse36).1
   have hsr9 : (nth s36.l (j + 1)).l = (List.range regs.toNat).map fun b => liveC (nth code.l t).l b (j + 1) := (rowsV hse36).2 (j + 1) (by omega)
   have hsl8 : (nth s36.l (j + 1)).l.length = regs.toNat := by rw [hsr9]; simp
   have hop9 := (hov j (by omega)).1
   have hxa : (nth (nth code.l t).l j).op ≤ 8 → 0 ≤ (nth (nth code.l t).l j).a ∧ (nth (nth code.l t).l j).a < regs := fun h9 => by have h8 := (hov j (by omega)).2.1 (.inl h9); have h7 := (hov j (by omega)).2.2.1.2; unfold wrG at h7; rw [if_neg (by omega), if_pos (by omega)] at h7; omega
   have hlv9 : (nth (nth code.l t).l j).op ≤ 8 → nth (nth s36.l (j + 1)).l (nth (nth code.l t).l j).a.toNat = liveC (nth code.l t).l (nth (nth code.l t).l j).a.toNat (j + 1) := fun h9 => by have := hxa h9; rw [hsr9]; exact nth_mapR (by omega)
   refine gK fun _ k47 => gB<|sK fun _ k48 => gRn (oM 2 rfl<|oxN sl_45 ti_44 (fun w h => ((h.at 5 rfl).nth t (show t < code.l.length from (by omega)))) _ om9 rfl<|olw2 [.int .i64 ((nth ((nth code.l t).l) j).op), .int .i64 ((nth ((nth code.l t).l) j).a), .int .i64 ((nth ((nth code.l t).l) j).b), .int .i64 ((nth ((nth code.l t).l) j).c)] ti_44 (fun w h => ((h.at 5 rfl).nth t (show t < code.l.length from (by omega)))) om9 rfl<|.nl)<|gal ti_44 rfl fun b49 => gsw 0 ti_44 rfl rfl rfl<|nK k48<|sK fun _ k51 => gRn (olw 0 ti_44 rfl rfl<|.nl)<|gE1 (fun _ _ h_ => x_lit (n := 1) (cs := [.int .i64 ((nth ((nth code.l t).l) j).op), .int .i64 ((nth ((nth code.l t).l) j).a), .int .i64 ((nth ((nth code.l t).l) j).b), .int .i64 ((nth ((nth code.l t).l) j).c)]) ([(nth ((nth code.l t).l) j)] : List Ins) h_ sl_45 ti_44 rfl rfl rfl (by decide) rfl (by kernel_rfl) rfl (fun q hq w h => Flat.inner _ _) (fun q hq b hb => (Flat.on _ _ hb).elim) rfl rfl) rfl fun v52 => gRn (oM 1 rfl<|.nl)<|nK k51<|sK fun _ k53 => gRn (ofB fl_44_0 rfl<|olB 1 ti_3 rfl rfl<|.nl)<|gP (fun _ _ h_ => xCl h_ bd_30 rfl (rReckons_c ((nth ((nth code.l t).l) j).op) _)) rfl<|gRn (oM 1 rfl<|.nl)<|nK k53<|fun a55 w55 h55 => x_seq (fun a w => ∃ (l1 : List Ins) (v1 : Value), (l1 = deadB (liveC (nth code.l t).l) j (nth (nth code.l t).l j)) ∧ St 86 (fun _ => False) W a w [(1, .pointer (some ⟨b12, 0, none⟩)), (2, .pointer (some ⟨b13, 0, none⟩)), (3, .pointer (some ⟨b15, 0, none⟩)), (4, .int .i64 ((t : Nat) : Int)), (5, (nth code.l t).v), (6, s36.v), (7, vb), (8, .int .i64 ((j : Nat) : Int)), (10, v1)] [.own 44 (⟨v1, l1⟩ : Ls Ins), .blk b49 44 [.int .i64 ((nth ((nth code.l t).l) j).op), .int .i64 ((nth ((nth code.l t).l) j).a), .int .i64 ((nth ((nth code.l t).l) j).b), .int .i64 ((nth ((nth code.l t).l) j).c)], .deep 63 s36, .own 3 (⟨v19, words.l⟩ : Ls Int), .blk b15 25 [vq, v19, .int .i64 locks, .int .i64 regs], .blk b13 25 [(.slice none 0 0), (.slice none 0 0), .int .i64 0, .int .i64 0], .blk b12 25 [code.v, words.v, .int .i64 locks, .int .i64 regs], .at_ code, .at_ words, .deep 45 (⟨vq, qs⟩ : Ls (Ls Ins)), .deep 45 (⟨vb, bc⟩ : Ls (Ls Ins))]) ?_ ?_
   ·refine gG h55<|gK fun _ k56 => fun a57 w57 h57 => ?_; clear h55
    refine x_quiet (by kernel_rfl) (by kernel_rfl) h57 fun _ z58 => qQ h57.fr<|qRn (oM 2 rfl<|.nl)<|?_
    rcases dsp (1 ≤ (nth ((nth code.l t).l) j).op ∧ (nth ((nth code.l t).l) j).op ≤ 7) with ⟨hb59, hp59⟩ | ⟨hb59, hp59⟩
    ·skip
     refine qRn (oKs 3 hb59 rfl rfl<|opT hb59 rfl<|oM 1 rfl<|oG rfl (r_move rfl rfl) rfl<|oG rfl (r_move rfl rfl) rfl<|oG rfl (r_addN (p := j) (q := 1) rfl rfl rfl (show j + 1 < 9223372036854775808 from om9)) rfl<|.nl)<|?_
     have hl65 : s36.l.length ≤ 140737488355328 := (h57.sh.deep 2 rfl).len
     refine qRn (oG rfl (r_ixN (s := s36) (q := j + 1) sl_72 ti_63 rfl rfl rfl (fun w h => (h.deep 2 rfl)) (show j + 1 < s36.l.length from om9)) rfl<|oG rfl (r_lde (s := s36) (i := j + 1) (v := (nth s36.l (j + 1)).v) ti_63 rfl rfl rfl (fun w h => (h.deep 2 rfl)) (show j + 1 < s36.l.length from om9) (Nat.le_of_ble_eq_true rfl) rfl) rfl<|oG rfl (r_fieldB (r := 1) fl_44_1 rfl rfl rfl) rfl<|oG rfl (r_ldb (i := 1) ti_3 rfl rfl rfl rfl) rfl<|.nl)<|?_
     have hl70 : ((nth s36.l (j + 1)).l).length ≤ 140737488355328 := ((h57.sh.deep 2 rfl).nth (j + 1) (show j + 1 < s36.l.length from (by omega))).len
     refine qRn (oG rfl (r_ixI (s := nth s36.l (j + 1)) (q := (nth ((nth code.l t).l) j).a) sl_63 ti_4 rfl rfl rfl (fun w h => ((h.deep 2 rfl).nth (j + 1) (show j + 1 < s36.l.length from om9))) (show 0 ≤ (nth ((nth code.l t).l) j).a ∧ (nth ((nth code.l t).l) j).a < ((nth s36.l (j + 1)).l).length from om9)) rfl<|oG rfl (r_lde (s := nth s36.l (j + 1)) (i := ((nth ((nth code.l t).l) j).a).toNat) (v := .bool (nth ((nth s36.l (j + 1)).l) (((nth ((nth code.l t).l) j).a).toNat))) ti_4 rfl rfl rfl (fun w h => ((h.deep 2 rfl).nth (j + 1) (show j + 1 < s36.l.length from om9))) (show ((nth ((nth code.l t).l) j).a).toNat < ((nth s36.l (j + 1)).l).length from om9) (Nat.le_of_ble_eq_true rfl) rfl) rfl<|oG rfl (r_not rfl rfl) rfl<|opT rfl rfl<|.nl)<|qN z58<|?_; clear h57
     refine hK k56<|gF [1, 2, 3, 4, 5, 6, 7, 8, 10, 71] rfl<|gCb rfl (fun hb73 => ?_) fun hb73 => ?_
     ·have hn73 : nth ((nth s36.l (j + 1)).l) (((nth ((nth code.l t).l) j).a).toNat) = false := (Bool.not_eq_true' _).mp hb73
      refine gL<|gRn (oM 1 rfl<|.nl)<|nN<|fun a76 w76 h76 => ?_
      have h75 := h76.nil (α := Ins) 44
      clear h76
      refine x_join ⟨[], (.slice none 0 0), ?_, h75.nrm ⟨rfl, rfl, rfl, rfl, rfl, rfl, rfl, rfl, rfl, trivial⟩ [0, 2, 3, 4, 5, 6, 7, 8, 9, 10, 11] rfl⟩
      · unfold deadB; first | exact (if_pos ⟨by omega, (hlv9 (by omega)).symm.trans (by assumption)⟩).symm | exact (if_neg (fun h9 => by omega)).symm | exact (if_neg (fun h9 => absurd ((by assumption : nth (nth s36.l (j + 1)).l (nth (nth code.l t).l j).a.toNat = true).symm.trans ((hlv9 h9.1).trans h9.2)) (by decide))).symm
     have hn73 : nth ((nth s36.l (j + 1)).l) (((nth ((nth code.l t).l) j).a).toNat) = true := (Bool.not_eq_false' _).mp hb73
     refine gS<|fun a77 w77 h77 => x_join ⟨[(nth ((nth code.l t).l) j)], v52, ?_, h77.nf ⟨rfl, rfl, rfl, rfl, rfl, rfl, rfl, rfl, rfl, trivial⟩⟩
     · unfold deadB; first | exact (if_pos ⟨by omega, (hlv9 (by omega)).symm.trans (by assumption)⟩).symm | exact (if_neg (fun h9 => by omega)).symm | exact (if_neg (fun h9 => absurd ((by assumption : nth (nth s36.l (j + 1)).l (nth (nth code.l t).l j).a.toNat = true).symm.trans ((hlv9 h9.1).trans h9.2)) (by decide))).symm
    refine qRn (oG hb59 (r_fieldB (r := 0) fl_44_0 rfl rfl rfl) rfl<|oG hb59 (r_ldb (i := 1) ti_3 rfl rfl rfl rfl) rfl<|oG hb59 (r_eqlI (p := (nth ((nth code.l t).l) j).op) (q := 8) rfl rfl rfl) rfl<|opF hb59 rfl<|oM 1 rfl<|.nl)<|?_
    rcases dsp ((nth ((nth code.l t).l) j).op = 8) with ⟨hb81, hp81⟩ | ⟨hb81, hp81⟩
    ·skip
     refine qRn (oG hb81 (r_move rfl rfl) rfl<|oG hb81 (r_move rfl rfl) rfl<|oG hb81 (r_addN (p := j) (q := 1) rfl rfl rfl (show j + 1 < 9223372036854775808 from om9)) rfl<|.nl)<|?_
     have hl86 : s36.l.length ≤ 140737488355328 := (h57.sh.deep 2 rfl).len
     refine qRn (oG hb81 (r_ixN (s := s36) (q := j + 1) sl_72 ti_63 rfl rfl rfl (fun w h => (h.deep 2 rfl)) (show j + 1 < s36.l.length from om9)) rfl<|oG hb81 (r_lde (s := s36) (i := j + 1) (v := (nth s36.l (j + 1)).v) ti_63 rfl rfl rfl (fun w h => (h.deep 2 rfl)) (show j + 1 < s36.l.length from om9) (Nat.le_of_ble_eq_true rfl) rfl) rfl<|oG hb81 (r_fieldB (r := 1) fl_44_1 rfl rfl rfl) rfl<|oG hb81 (r_ldb (i := 1) ti_3 rfl rfl rfl rfl) rfl<|.nl)<|?_
     have hl91 : ((nth s36.l (j + 1)).l).length ≤ 140737488355328 := ((h57.sh.deep 2 rfl).nth (j + 1) (show j + 1 < s36.l.length from (by omega))).len
     refine qRn (oG hb81 (r_ixI (s := nth s36.l (j + 1)) (q := (nth ((nth code.l t).l) j).a) sl_63 ti_4 rfl rfl rfl (fun w h => ((h.deep 2 rfl).nth (j + 1) (show j + 1 < s36.l.length from om9))) (show 0 ≤ (nth ((nth code.l t).l) j).a ∧ (nth ((nth code.l t).l) j).a < ((nth s36.l (j + 1)).l).length from om9)) rfl<|oG hb81 (r_lde (s := nth s36.l (j + 1)) (i := ((nth ((nth code.l t).l) j).a).toNat) (v := .bool (nth ((nth s36.l (j + 1)).l) (((nth ((nth code.l t).l) j).a).toNat))) ti_4 rfl rfl rfl (fun w h => ((h.deep 2 rfl).nth (j + 1) (show j + 1 < s36.l.length from om9))) (show ((nth ((nth code.l t).l) j).a).toNat < ((nth s36.l (j + 1)).l).length from om9) (Nat.le_of_ble_eq_true rfl) rfl) rfl<|oG hb81 (r_not rfl rfl) rfl<|opT hb81 rfl<|.nl)<|qN z58<|?_; clear h57
     refine hK k56<|gF [1, 2, 3, 4, 5, 6, 7, 8, 10, 71] rfl<|gCb rfl (fun hb94 => ?_) fun hb94 => ?_
     ·have hn94 : nth ((nth s36.l (j + 1)).l) (((nth ((nth code.l t).l) j).a).toNat) = false := (Bool.not_eq_true' _).mp hb94
      refine gL<|gRn (oM 1 rfl<|.nl)<|nN<|fun a97 w97 h97 => ?_
      have h96 := h97.nil (α := Ins) 44
      clear h97
      refine x_join ⟨[], (.slice none 0 0), ?_, h96.nrm ⟨rfl, rfl, rfl, rfl, rfl, rfl, rfl, rfl, rfl, trivial⟩ [0, 2, 3, 4, 5, 6, 7, 8, 9, 10, 11] rfl⟩
      · unfold deadB; first | exact (if_pos ⟨by omega, (hlv9 (by omega)).symm.trans (by assumption)⟩).symm | exact (if_neg (fun h9 => by omega)).symm | exact (if_neg (fun h9 => absurd ((by assumption : nth (nth s36.l (j + 1)).l (nth (nth code.l t).l j).a.toNat = true).symm.trans ((hlv9 h9.1).trans h9.2)) (by decide))).symm
     have hn94 : nth ((nth s36.l (j + 1)).l) (((nth ((nth code.l t).l) j).a).toNat) = true := (Bool.not_eq_false' _).mp hb94
     refine gS<|fun a98 w98 h98 => x_join ⟨[(nth ((nth code.l t).l) j)], v52, ?_, h98.nf ⟨rfl, rfl, rfl, rfl, rfl, rfl, rfl, rfl, rfl, trivial⟩⟩
     · unfold deadB; first | exact (if_pos ⟨by omega, (hlv9 (by omega)).symm.trans (by assumption)⟩).symm | exact (if_neg (fun h9 => by omega)).symm | exact (if_neg (fun h9 => absurd ((by assumption : nth (nth s36.l (j + 1)).l (nth (nth code.l t).l j).a.toNat = true).symm.trans ((hlv9 h9.1).trans h9.2)) (by decide))).symm
    refine qRn (oKs 10 hb81 rfl rfl<|opF hb81 rfl<|.nl)<|qN z58<|?_; clear h57
    refine hK k56<|gF [1, 2, 3, 4, 5, 6, 7, 8, 10, 71] rfl<|gcF rfl rfl<|gS<|fun a100 w100 h100 => x_join ⟨[(nth ((nth code.l t).l) j)], v52, ?_, h100.nf ⟨rfl, rfl, rfl, rfl, rfl, rfl, rfl, rfl, rfl, trivial⟩⟩
    · unfold deadB; first | exact (if_pos ⟨by omega, (hlv9 (by omega)).symm.trans (by assumption)⟩).symm | exact (if_neg (fun h9 => by omega)).symm | exact (if_neg (fun h9 => absurd ((by assumption : nth (nth s36.l (j + 1)).l (nth (nth code.l t).l j).a.toNat = true).symm.trans ((hlv9 h9.1).trans h9.2)) (by decide))).symm
   clear h55
   rintro a101 w101 ⟨l1, v1, hx1, h101⟩
   refine gG h101<|gL<|gRn (oM 2 rfl<|.nl)<|gE1 (fun _ _ h_ => x_litD (E := 0) (x := (⟨v1, l1⟩ : Ls Ins)) h_ sl_22 ti_45 rfl rfl rfl ((h_.sh.own 0 rfl)) (fun b hb => (own_on (h_.sh.ok _ (List.mem_of_getElem? (i := 0) rfl)) hb).elim (fun h => h) (fun h => Flat.noRd h)) (fun b hb => Flat.noRd hb) rfl rfl) rfl fun v102 => gO [10, 0, 1, 2, 3, 4, 5, 6, 7, 8, 9] rfl<|gE1 (fun _ _ h_ => x_appD (s := (⟨vb, bc⟩ : Ls (Ls Ins))) (m := (⟨v102, [(⟨v1, l1⟩ : Ls Ins)]⟩ : Ls (Ls Ins))) h_ sl_22 ti_45 rfl rfl rfl rfl rfl rfl rfl inferInstance (show (bc.length + ([(⟨v1, l1⟩ : Ls Ins)]).length) * 24 ≤ 140737488355328 ∧ bc.length + ([(⟨v1, l1⟩ : Ls Ins)]).length ≤ 140737488355328 from om9) rfl rfl) rfl fun v104 => gRn (oM 1 rfl<|.nl)<|nK k47<|gL<|gRn (oM 1 rfl<|oadN _ 1 om9 rfl<|oM 1 rfl<|.nl)<|nN<|fun a105 w105 h105 => x_again ⟨_, ?_, j + 1, bc ++ ([(⟨v1, l1⟩ : Ls Ins)]), v104, ?_, ?_, ?_, h105.nrm ⟨rfl, rfl, rfl, rfl, rfl, rfl, rfl, rfl, trivial⟩ [2, 3, 4, 5, 6, 7, 8, 9, 0] rfl, rfl⟩; clear h101
   · rw [hm40]; first | omega | (simp only [lens9]; omega)
   · omega
   · rw [List.map_append, hbc, List.range_succ, List.map_append]; simp only [List.map_cons, List.map_nil, hx1]
   · simp [hbl]
  refine gX<|hK k38<|sK fun _ k106 => gRn (oM 2 rfl<|.nl)<|fun a108 w108 h108 => wl_ex (x_call h108 bd_32 rfl rfl rfl rfl rfl (rPut_c (⟨vb, bc⟩ : Ls (Ls Ins)) (nth code.l t) _ (h108.sh.deep 8 rfl) ((h108.sh.at 5 rfl).nth t (show t < code.l.length from (by omega))) (show bc.length = (nth code.l t).l.length by omega) (show (nth code.l t).l.length ≤ 5000 by omega) (fun i hi => by rw [bcv_nth hbc i (by omega)]; exact Nat.le_trans (deadB_len _ _ _) (by decide)) (bdv_ok hjt (by rw [hbc, show j = (nth code.l t).l.length by omega])))) (wanted_none rfl _) ?_
  rintro a109 w109 ⟨_, ⟨s109, rfl, hl109, hs109⟩, hf109⟩
  have h109 := (⟨hf109, h108.sh.call hs109 (by intro A hA b hb; simp only [List.mem_cons, List.not_mem_nil, or_false] at hA; first | (subst hA; exact Flat.noRd hb) | (rcases hA with rfl | rfl | rfl <;> first | exact (hb : False).elim | exact Flat.noRd hb | exact (NoRd.no _ hb).elim))⟩ : St 86 (fun _ => False) W a109 w109 _ _)
  clear hf109 hs109
  clear h108
  refine gG h109<|gRn (oM 1 rfl<|.nl)<|nK k106<|?_; clear h109
  have hq1 : s109.l = deadL (nth code.l t).l := by rw [hl109, hbc, show j = (nth code.l t).l.length by omega, deadL, dead_put]; rfl
  refine gL<|gRn (ofB fl_25_0 rfl<|olB 3 ti_22 rfl rfl<|oM 1 rfl<|.nl)<|gE1 (fun _ _ h_ => x_litD (E := 0) (x := s109) h_ sl_22 ti_45 rfl rfl rfl ((h_.sh.own 0 rfl)) (fun b hb => (own_on (h_.sh.ok _ (List.mem_of_getElem? (i := 0) rfl)) hb).elim (fun h => h) (fun h => Flat.noRd h)) (fun b hb => Flat.noRd hb) rfl rfl) rfl fun v110 => gO [8, 0, 1, 2, 3, 4, 5, 6, 7, 9] rfl<|gE1 (fun _ _ h_ => x_appD (s := (⟨vq, qs⟩ : Ls (Ls Ins))) (m := (⟨v110, [s109]⟩ : Ls (Ls Ins))) h_ sl_22 ti_45 rfl rfl rfl rfl rfl rfl rfl inferInstance (show (qs.length + ([s109]).length) * 24 ≤ 140737488355328 ∧ qs.length + ([s109]).length ≤ 140737488355328 from om9) rfl rfl) rfl fun v112 => gRn (ofB fl_25_0 rfl<|.nl)<|gsr 3 ti_22 rfl (aD 0 rfl) rfl<|nK k30<|gL<|gRn (oM 1 rfl<|oadN _ 1 om9 rfl<|oM 1 rfl<|.nl)<|nN<|fun a114 w114 h114 => x_again ⟨_, ?_, t + 1, qs ++ ([s109]), v112, ?_, ?_, ?_, h114.nrm ⟨rfl, rfl, rfl, rfl, trivial⟩ [2, 3, 4, 5, 6, 7, 0] rfl, rfl⟩
  · rw [hm23]; first | omega | (simp only [lens9]; omega)
  · omega
  · rw [List.map_append, hqs, List.range_succ, List.map_append]; simp [hq1]
  · simp [hql]
 refine gX<|hK k21<|sK fun _ k115 => gRn (olw 1 ti_25 rfl rfl<|.nl)<|gE (fun _ _ h_ => x_stb (i := 2) (vs := [vq, v19, .int .i64 locks, .int .i64 regs]) (cs' := [vq, v19, .int .i64 locks, .int .i64 regs]) h_ ti_25 rfl rfl rfl rfl rfl rfl rfl (allOne_cons ((h_.sh.deep 6 rfl)).one (allOne_cons ((h_.sh.own 0 rfl)).one (allOne_cons rfl (allOne_cons rfl allOne_nil)))) (Nat.le_of_ble_eq_true rfl) rfl) rfl<|nK k115<|gR<|fun a117 w117 h117 => x_ret1c (fn := Try.f12) (t := 2) (i := 2) ti_25 rfl h117 rfl rfl rfl <| ⟨⟨vq, qs⟩, ⟨v19, words.l⟩, rfl, ?_, rfl, (h117.sh.sel [6, 0] rfl)⟩
 show qs.map (·.l) = _; rw [hqs, show t = code.l.length by omega]

end Go.Proofs.Ytmgikmjmdppfmaa
