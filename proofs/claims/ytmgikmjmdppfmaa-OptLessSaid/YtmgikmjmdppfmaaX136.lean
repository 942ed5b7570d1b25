/-
  What opt makes has no more orders; numbers are found just once.
-/
import Derived.Test.YtmgikmjmdppfmaaX128
import Derived.Test.YtmgikmjmdppfmaaX129
import Derived.Test.YtmgikmjmdppfmaaX6
import Derived.Test.YtmgikmjmdppfmaaW5
import Derived.Test.YtmgikmjmdppfmaaC2
namespace Go.Proofs.Ytmgikmjmdppfmaa
open Go.RowKit
set_option linter.unusedSimpArgs false
set_option linter.unusedVariables false
set_option maxRecDepth 100000
set_option maxHeartbeats 16000000


theorem neq_flt (f g : Flt) (w : World) : (binOp .neq 29 f.val g.val).run Try.prog w = .ok (.bool (decide (f ≠ g))) w := by
  obtain ⟨a, b, c⟩ := f
  obtain ⟨a', b', c'⟩ := g
  simp [binOp, Flt.val, Op.equal, Op.maxDepth, go_sem]
  by_cases h1 : a = a' <;> by_cases h2 : b = b' <;> by_cases h3 : c = c' <;> simp [h1, h2, h3]
theorem neq_fltG (x y : Operand) (f g : Flt) (w : World) : (eqGuard .neq 29 x y f.val g.val).run Try.prog w = .ok () w := by
  simp [eqGuard, Flt.val]
  try kernel_rfl

theorem neq_ins (f g : Ins) (w : World) : (binOp .neq 44 f.val g.val).run Try.prog w = .ok (.bool (decide (f ≠ g))) w := by
  obtain ⟨a, b, c, d⟩ := f
  obtain ⟨a', b', c', d'⟩ := g
  simp [binOp, Ins.val, Op.equal, Op.maxDepth, go_sem]
  by_cases h1 : a = a' <;> by_cases h2 : b = b' <;> by_cases h3 : c = c' <;> by_cases h4 : d = d' <;> simp [h1, h2, h3, h4]
theorem neq_insG (x y : Operand) (f g : Ins) (w : World) : (eqGuard .neq 44 x y f.val g.val).run Try.prog w = .ok () w := by
  simp [eqGuard, Ins.val]
  try kernel_rfl


theorem take_hund {β : Type} {l : List β} {t : Nat} (h1 : t ≤ l.length) (h2 : t ≤ 100) (h3 : ¬ (t < l.length ∧ t < 100)) : l.take 100 = l.take t := by
  rcases Nat.lt_or_ge t 100 with h | h
  · rw [List.take_of_length_le (by omega), List.take_of_length_le (by omega)]
  · rw [show t = 100 by omega]
def lit3 : List Ins := [⟨1, 0, 2, 0⟩, ⟨3, 0, 0, 0⟩, ⟨16, 0, 0, 0⟩]
theorem lit_ok (v v' : Value) : OkPg (pgOf (⟨v, [⟨v', lit3⟩]⟩ : Ls (Ls Ins)) (⟨.slice none 0 0, []⟩ : Ls Int) 0 1) := by
  have e : pgOf (⟨v, [⟨v', lit3⟩]⟩ : Ls (Ls Ins)) (⟨.slice none 0 0, []⟩ : Ls Int) 0 1 = ⟨[lit3], [], 0, 1⟩ := rfl
  rw [e]
  exact checkG_code_pos.1 (by decide +kernel)
def litQ : AF := fun t => if t = 0 then some [⟨1, 0⟩] else if t = 1 then some [⟨1, 2⟩] else if t ≤ 3 then some [⟨1, 4⟩] else none
theorem one_ok (n : Int) : OkEn 1 [⟨1, n⟩] := ⟨rfl, fun r => by
  cases r with
  | zero => exact .inr (.inl rfl)
  | succ r => exact .inl rfl⟩
theorem lit_r : rk2 3 ⟨1, 2⟩ ⟨1, 2⟩ = ⟨1, 4⟩ := by decide +kernel
theorem lit_clo : Clo lit3 1 litQ := by
  refine ⟨fun t e h => ?_, ⟨_, rfl, fun r => .refl _⟩, fun t ht e h d hd => ?_⟩
  · unfold litQ at h
    split at h
    · cases h; exact ⟨by omega, one_ok _⟩
    · split at h
      · cases h; exact ⟨by subst_vars; decide, one_ok _⟩
      · split at h
        · cases h; exact ⟨by assumption, one_ok _⟩
        · cases h
  · have ht : t < 3 := ht
    rcases (by omega : t = 0 ∨ t = 1 ∨ t = 2) with rfl | rfl | rfl
    · obtain rfl : [⟨1, 0⟩] = e := Option.some.inj h
      obtain rfl : d = 1 := List.mem_singleton.1 hd
      exact ⟨_, rfl, fun r => .refl _⟩
    · obtain rfl : [⟨1, 2⟩] = e := Option.some.inj h
      obtain rfl : d = 2 := List.mem_singleton.1 hd
      have eo : outE (nth lit3 1) [⟨1, 2⟩] = [⟨1, 4⟩] := by show [rk2 3 ⟨1, 2⟩ ⟨1, 2⟩] = _; rw [lit_r]
      rw [CloT, eo]
      exact ⟨_, rfl, fun r => .refl _⟩
    · obtain rfl : [⟨1, 4⟩] = e := Option.some.inj h
      obtain rfl : d = 3 := List.mem_singleton.1 hd
      exact ⟨_, rfl, fun r => .refl _⟩
theorem lit_jmp : JumpsOK lit3 := jmpP (p := ⟨[lit3], [], 0, 1⟩) (checkG_code_pos.1 (by decide +kernel)) (t := 0) (by decide)
theorem lit_const : constL 1 lit3 = [⟨1, 0, 2, 0⟩, ⟨1, 0, 4, 0⟩, ⟨16, 0, 0, 0⟩] := by
  have hA := leastA_is lit_jmp 1
  unfold constL
  generalize leastA lit3 1 = A at hA
  obtain ⟨e0, h0, _⟩ := hA.clo.first
  obtain ⟨e1, h1, h1'⟩ := hA.clo.all 0 (by decide) e0 h0 1 (List.mem_singleton.2 rfl)
  obtain ⟨e2, h2, _⟩ := hA.clo.all 1 (by decide) e1 h1 2 (List.mem_singleton.2 rfl)
  obtain ⟨q, hq, hq'⟩ := hA.bel _ lit_clo 1 e1 h1
  obtain rfl : [⟨1, 2⟩] = q := Option.some.inj hq
  have hl0 := (hA.clo.ok 0 e0 h0).2.1
  have k1 : leV ⟨1, 2⟩ (nth e1 0) := by
    have h9 := h1' 0
    have e9 : nth (outE (nth lit3 0) e0) 0 = ⟨1, 2⟩ := by
      show nth (e0.set 0 ⟨1, 2⟩) 0 = _
      rw [nth_setE, if_pos ⟨rfl, by omega⟩]
    rw [e9] at h9; exact h9
  have k2 : leV (nth e1 0) ⟨1, 2⟩ := hq' 0
  have k3 : nth e1 0 = ⟨1, 2⟩ := (k2.anti ((hA.clo.ok 1 e1 h1).2.2 0) (.inr (.inl rfl)) k1)
  have r1 : rkV (⟨3, 0, 0, 0⟩ : Ins) e1 = ⟨1, 4⟩ := by
    show rk2 3 (nth e1 0) (nth e1 0) = _
    rw [k3, lit_r]
  have b0 : bcC A 0 ⟨1, 0, 2, 0⟩ = [⟨1, 0, 2, 0⟩] := bcE_s h0 (fun h => absurd h.1 (by decide)) (fun h => absurd h.1 (by decide))
  have b1 : bcC A 1 ⟨3, 0, 0, 0⟩ = [⟨1, 0, 4, 0⟩] := by
    rw [bcE_c h1 ⟨by decide, by decide, by rw [r1]⟩, r1]
  have b2 : bcC A 2 ⟨16, 0, 0, 0⟩ = [⟨16, 0, 0, 0⟩] := bcE_s h2 (fun h => absurd h.2.1 (by decide)) (fun h => absurd h.1 (by decide))
  unfold movedL
  have e : (List.range lit3.length) = [0, 1, 2] := rfl
  rw [e]
  simp only [List.flatMap_cons, List.flatMap_nil, show nth lit3 0 = ⟨1, 0, 2, 0⟩ from rfl, show nth lit3 1 = ⟨3, 0, 0, 0⟩ from rfl, show nth lit3 2 = ⟨16, 0, 0, 0⟩ from rfl, b0, b1, b2, List.map_cons, List.map_nil, List.append_nil]
  rw [fixW_no (by decide) (by decide), fixW_no (by decide) (by decide), fixW_no (by decide) (by decide)]
  rfl
theorem range_nth {g : List Ins → List Ins} {c code : Ls (Ls Ins)} (h : c.l.map (·.l) = (List.range code.l.length).map (fun t => g (nth code.l t).l)) : c.l.length = code.l.length ∧ ∀ t, t < code.l.length → (nth c.l t).l = g (nth code.l t).l := by
  have h1 : c.l.length = code.l.length := by have := congrArg List.length h; simpa using this
  refine ⟨h1, fun t ht => ?_⟩
  rw [← nth_map' (fun x : Ls Ins => x.l) c.l t (by omega), h]
  exact nth_mapR ht
theorem lit_st {v v' : Value} {c : Ls (Ls Ins)} (h : c.l.map (·.l) = (List.range (⟨v, [⟨v', lit3⟩]⟩ : Ls (Ls Ins)).l.length).map (fun t => constL (1 : Int).toNat (nth (⟨v, [⟨v', lit3⟩]⟩ : Ls (Ls Ins)).l t).l)) : c.l.length = 1 ∧ (nth c.l 0).l.length = 3 ∧ nth (nth c.l 0).l 1 = ⟨1, 0, 4, 0⟩ := by
  obtain ⟨h1, h2⟩ := range_nth h
  have h3 : (nth c.l 0).l = _ := (h2 0 (by show 0 < 1; decide)).trans lit_const
  rw [h3]
  exact ⟨h1, rfl, rfl⟩
section
variable {code c d e : Ls (Ls Ins)} {words u : Ls Int} {locks regs : Int}
theorem lessk_ok (hok : OkPg (pgOf code words locks regs)) (hq : c.l.map (·.l) = (List.range code.l.length).map (fun t => constL regs.toNat (nth code.l t).l)) (hu : u.l = words.l) : OkPg (pgOf c u locks regs) := by
  have e : pgOf c u locks regs = constPg (pgOf code words locks regs) := by
    obtain ⟨h1, h2⟩ := range_nth hq
    unfold pgOf constPg
    rw [hu]
    congr 1
    show c.l.map (·.l) = (code.l.map (·.l)).map (constL regs.toNat)
    rw [hq]
    apply List.ext_getElem
    · simp
    · intro i h1 h2
      have hi : i < code.l.length := by simpa using h1
      simp [nth, List.getD, hi]
  rw [e]; exact constPg_ok hok
theorem less_len (hok : OkPg (pgOf code words locks regs)) (hq : c.l.map (·.l) = (List.range code.l.length).map (fun t => constL regs.toNat (nth code.l t).l)) (hd : d.l.map (·.l) = (List.range code.l.length).map (fun t => deadL (nth code.l t).l)) (he : e.l.map (·.l) = (List.range c.l.length).map (fun t => constL regs.toNat (nth c.l t).l)) :
    c.l.length = code.l.length ∧ d.l.length = code.l.length ∧ e.l.length = code.l.length ∧ ∀ t, t < code.l.length → (nth c.l t).l.length ≤ (nth code.l t).l.length ∧ (nth d.l t).l.length ≤ (nth code.l t).l.length ∧ (nth e.l t).l = (nth c.l t).l := by
  obtain ⟨a1, a2⟩ := range_nth hq
  obtain ⟨b1, b2⟩ := range_nth hd
  obtain ⟨c1, c2⟩ := range_nth he
  refine ⟨a1, b1, c1.trans a1, fun t ht => ⟨by rw [a2 t ht]; exact constL_len _ _, by rw [b2 t ht]; exact deadL_len _, ?_⟩⟩
  have hp : t < (pgOf code words locks regs).code.length := by show t < (code.l.map (·.l)).length; simpa using ht
  have hn : nth (pgOf code words locks regs).code t = (nth code.l t).l := nth_map' _ _ _ ht
  have h9 := constL_twice hok hp
  rw [hn] at h9
  rw [c2 t (by omega), a2 t ht]
  exact h9
end

theorem kvast_c (code : Ls (Ls Ins)) (words : Ls Int) (locks regs : Int) (W : World) (hcode : code.At W) (hwords : words.At W) :
    Rets Try.prog 16 [.agg #[code.v, words.v, .int .i64 locks, .int .i64 regs]] W (fun v w' => v = .bool (vastG (code.l.map (·.l)) words.l) ∧ Sh0 W w' []) := by
 refine gen Try.func16 Try.ntmps16 (Sh0.ext2 hcode hwords : Sh (fun _ => False) W W [.at_ code, .at_ words]) rfl fun a10 h10 => gG h10<|sK fun _ k11 => gbx rfl rfl fun b12 => gRn (oM 1 rfl<|.nl)<|nK k11<|sK fun _ k13 => gNl (aA 1 rfl) fun hl14 => gNl (aA 2 rfl) fun hl15 => gRn (ofB fl_25_0 rfl<|olB 0 ti_22 rfl rfl<|oln sl_22 (aA 1 rfl) rfl<|ofB fl_25_1 rfl<|olB 0 ti_23 rfl rfl<|oln sl_23 (aA 2 rfl) rfl<|oadN _ _ (show code.l.length + words.l.length < 9223372036854775808 from (by first | omega | (have := (hcode.inner t (by omega) : (nth code.l t).At W).len; omega))) rfl<|oM 1 rfl<|.nl)<|nK k13<|gK fun _ k16 => sG (oM 1 rfl<|.nl)<|gB<|?_; clear h10
 have hwl := hwords.len
 have hcl := hcode.len
 intro a19 w19 h19
 refine x_loop (fun m a w => ∃ (n t : Nat), (t ≤ code.l.length ∧ t ≤ 100) ∧ ((n : Int) = code.l.length + words.l.length + (((code.l.map (·.l)).take t).map fun s => (s.length : Int)).sum) ∧ (n ≤ (t + 2) * 140737488355328) ∧ St 39 (fun _ => False) W a w [(1, .pointer (some ⟨b12, 0, none⟩)), (3, .int .i64 ((n : Nat) : Int)), (4, .int .i64 ((t : Nat) : Int))] [.blk b12 25 [code.v, words.v, .int .i64 locks, .int .i64 regs], .at_ code, .at_ words] ∧ m = code.l.length - t) ⟨_, code.l.length + words.l.length, 0, (by omega), (by simp), (by omega), h19.nf ⟨rfl, rfl, rfl, trivial⟩, rfl⟩ ?_
 clear h19
 rintro m18 a18 w18 ⟨n, t, ht, hn, hn2, h18, hm18⟩
 refine gG h18<|gK fun _ k20 => sK fun _ k21 => gRn (oM 1 rfl<|ofB fl_25_0 rfl<|olB 0 ti_22 rfl rfl<|oln sl_22 (aA 1 rfl) rfl<|oltN _ _ rfl<|oM 1 rfl<|.nl)<|?_; clear h18
 rcases dsp (t < code.l.length) with ⟨hb22, hp22⟩ | ⟨hb22, hp22⟩
 ·skip
  refine gRn (oG hb22 (r_move rfl rfl) rfl<|oG hb22 (r_lssN (p := t) (q := 100) rfl rfl rfl) rfl<|opT hb22 rfl<|.nl)<|nK k21<|gcd rfl (fun hb23 hp23 => ?_) fun hb23 hp23 => ?_
  ·skip
   refine gS<|hK k20<|?_
   have hlt := (hcode.inner t (by omega) : (nth code.l t).At W).len
   refine gK fun _ k24 => gB<|gL<|gNl (fun w h => ((h.at 1 rfl).nth t (show t < code.l.length from (by omega)))) fun (hl25 : ((nth code.l t).l).length ≤ 140737488355328) => gRn (oM 1 rfl<|ofB fl_25_0 rfl<|olB 0 ti_22 rfl rfl<|oM 1 rfl<|oxN sl_22 ti_45 (aA 1 rfl) _ om9 rfl<|olE ((nth code.l t).v) ti_45 (aA 1 rfl) om9 rfl<|oln (n := ((nth code.l t).l).length) sl_45 (fun w h => ((h.at 1 rfl).nth t (show t < code.l.length from (by omega)))) rfl<|oadN _ _ (show n + (((nth code.l t).l).length) < 9223372036854775808 from (by first | omega | (have := (hcode.inner t (by omega) : (nth code.l t).At W).len; omega))) rfl<|oM 1 rfl<|.nl)<|nK k24<|gL<|gRn (oM 1 rfl<|oadN _ 1 (show t + 1 < 9223372036854775808 from (by first | omega | (have := (hcode.inner t (by omega) : (nth code.l t).At W).len; omega))) rfl<|oM 1 rfl<|.nl)<|nN<|fun a26 w26 h26 => ?_
   refine x_again ⟨_, ?_, n + (((nth code.l t).l).length), t + 1, ?_, ?_, ?_, h26.nf ⟨rfl, rfl, rfl, trivial⟩, rfl⟩
   · rw [hm18]; first | omega | (simp only [lens9]; omega)
   · omega
   · rw [take_succ_nth _ _ (by simp; omega), List.map_append, List.sum_append, nth_map' _ _ _ (by omega)]; simp only [List.map_cons, List.map_nil, List.sum_cons, List.sum_nil]; omega
   · omega
  refine gX<|hK k16<|sK fun _ k27 => gRn (oM 1 rfl<|ogtN _ 5000 rfl<|oM 1 rfl<|.nl)<|?_
  rcases dsp (5000 < n) with ⟨hb28, hp28⟩ | ⟨hb28, hp28⟩
  ·skip
   refine gRn (oKs 4 hb28 rfl rfl<|opT hb28 rfl<|oM 1 rfl<|.nl)<|nK k27<|gR<|fun a29 w29 h29 => x_ret1 (fn := Try.f16) (t := 2) rfl h29 rfl <| ⟨?_, (h29.sh.sel [] rfl)⟩
   congr 1
   have hv : vastG (code.l.map (·.l)) words.l = (decide (5000 < n) || decide (100 < code.l.length)) := by unfold vastG; rw [take_hund (l := code.l.map (·.l)) (t := t) (by simp; omega) (by omega) (by simp; omega), List.length_map]; congr 1 <;> (rw [decide_eq_decide]; omega)
   rw [hv]
   first | (rw [show decide (5000 < n) = true by assumption]; rfl) | (rw [show decide (5000 < n) = false by assumption]; rfl)
  refine gRn (oG hb28 (r_fieldB (r := 0) fl_25_0 rfl rfl rfl) rfl<|oG hb28 (r_ldb (i := 0) ti_22 rfl rfl rfl rfl) rfl<|oG hb28 (r_len (s := code) (n := code.l.length) sl_22 rfl rfl (fun w h => (h.at 1 rfl)) rfl) rfl<|oG hb28 (r_gtrN (p := code.l.length) (q := 100) rfl rfl rfl) rfl<|opF hb28 rfl<|oM 1 rfl<|.nl)<|nK k27<|gR<|fun a30 w30 h30 => x_ret1 (fn := Try.f16) (t := 2) rfl h30 rfl <| ⟨?_, (h30.sh.sel [] rfl)⟩
  congr 1
  have hv : vastG (code.l.map (·.l)) words.l = (decide (5000 < n) || decide (100 < code.l.length)) := by unfold vastG; rw [take_hund (l := code.l.map (·.l)) (t := t) (by simp; omega) (by omega) (by simp; omega), List.length_map]; congr 1 <;> (rw [decide_eq_decide]; omega)
  rw [hv]
  first | (rw [show decide (5000 < n) = true by assumption]; rfl) | (rw [show decide (5000 < n) = false by assumption]; rfl)
 refine gRn (oKs 2 hb22 rfl rfl<|opF hb22 rfl<|.nl)<|nK k21<|gcF rfl rfl<|gX<|hK k16<|sK fun _ k31 => gRn (oM 1 rfl<|ogtN _ 5000 rfl<|oM 1 rfl<|.nl)<|?_
 rcases dsp (5000 < n) with ⟨hb32, hp32⟩ | ⟨hb32, hp32⟩
 ·skip
  refine gRn (oKs 4 hb32 rfl rfl<|opT hb32 rfl<|oM 1 rfl<|.nl)<|nK k31<|gR<|fun a33 w33 h33 => x_ret1 (fn := Try.f16) (t := 2) rfl h33 rfl <| ⟨?_, (h33.sh.sel [] rfl)⟩
  congr 1
  have hv : vastG (code.l.map (·.l)) words.l = (decide (5000 < n) || decide (100 < code.l.length)) := by unfold vastG; rw [take_hund (l := code.l.map (·.l)) (t := t) (by simp; omega) (by omega) (by simp; omega), List.length_map]; congr 1 <;> (rw [decide_eq_decide]; omega)
  rw [hv]
  first | (rw [show decide (5000 < n) = true by assumption]; rfl) | (rw [show decide (5000 < n) = false by assumption]; rfl)
 refine gRn (oG hb32 (r_fieldB (r := 0) fl_25_0 rfl rfl rfl) rfl<|oG hb32 (r_ldb (i := 0) ti_22 rfl rfl rfl rfl) rfl<|oG hb32 (r_len (s := code) (n := code.l.length) sl_22 rfl rfl (fun w h => (h.at 1 rfl)) rfl) rfl<|oG hb32 (r_gtrN (p := code.l.length) (q := 100) rfl rfl rfl) rfl<|opF hb32 rfl<|oM 1 rfl<|.nl)<|nK k31<|gR<|fun a34 w34 h34 => x_ret1 (fn := Try.f16) (t := 2) rfl h34 rfl <| ⟨?_, (h34.sh.sel [] rfl)⟩
 congr 1
 have hv : vastG (code.l.map (·.l)) words.l = (decide (5000 < n) || decide (100 < code.l.length)) := by unfold vastG; rw [take_hund (l := code.l.map (·.l)) (t := t) (by simp; omega) (by omega) (by simp; omega), List.length_map]; congr 1 <;> (rw [decide_eq_decide]; omega)
 rw [hv]
 first | (rw [show decide (5000 < n) = true by assumption]; rfl) | (rw [show decide (5000 < n) = false by assumption]; rfl)

theorem optLess_v (code : Ls (Ls Ins)) (words : Ls Int) (locks regs : Int) (W : World) (hcode : code.At W) (hwords : words.At W) (hv : vastG (code.l.map (·.l)) words.l = true) :
    Rets Try.prog 5 [.agg #[code.v, words.v, .int .i64 locks, .int .i64 regs]] W (fun v w' => v = .bool true ∧ Sh0 W w' []) := by
 refine gen Try.func5 Try.ntmps5 (Sh0.ext2 hcode hwords : Sh (fun _ => False) W W [.at_ code, .at_ words]) rfl fun a10 h10 => gG h10<|sK fun _ k11 => gbx rfl rfl fun b12 => gRn (oM 1 rfl<|.nl)<|nK k11<|sK fun _ k13 => gRn (oV (r_build (cs := [.int .i64 1, .int .i64 0, .int .i64 2, .int .i64 0]) rfl rfl (by kernel_rfl)) rfl<|oV (r_build (cs := [.int .i64 3, .int .i64 0, .int .i64 0, .int .i64 0]) rfl rfl (by kernel_rfl)) rfl<|oV (r_build (cs := [.int .i64 16, .int .i64 0, .int .i64 0, .int .i64 0]) rfl rfl (by kernel_rfl)) rfl<|.nl)<|gE1 (fun _ _ h_ => x_lit (n := 3) (cs := [.int .i64 1, .int .i64 0, .int .i64 2, .int .i64 0, .int .i64 3, .int .i64 0, .int .i64 0, .int .i64 0, .int .i64 16, .int .i64 0, .int .i64 0, .int .i64 0]) ([(⟨1, 0, 2, 0⟩ : Ins), (⟨3, 0, 0, 0⟩ : Ins), (⟨16, 0, 0, 0⟩ : Ins)] : List Ins) h_ sl_45 ti_44 rfl rfl rfl (by decide) rfl (by kernel_rfl) rfl (fun q hq w h => Flat.inner _ _) (fun q hq b hb => (Flat.on _ _ hb).elim) rfl rfl) rfl fun v14 => gE1 (fun _ _ h_ => x_litD (E := 0) (x := (⟨v14, [(⟨1, 0, 2, 0⟩ : Ins), (⟨3, 0, 0, 0⟩ : Ins), (⟨16, 0, 0, 0⟩ : Ins)]⟩ : Ls Ins)) h_ sl_22 ti_45 rfl rfl rfl ((h_.sh.own 0 rfl)) (fun b hb => (own_on (h_.sh.ok _ (List.mem_of_getElem? (i := 0) rfl)) hb).elim (fun h => h) (fun h => Flat.noRd h)) (fun b hb => Flat.noRd hb) rfl rfl) rfl fun v15 => gRn (oV (r_buildS (cs := [v15, (.slice none 0 0), .int .i64 0, .int .i64 1]) rfl rfl (fun w h => by obtain ⟨A16, n16, c16, (e16 : v15 = _)⟩ := ((h.deep 0 rfl)).form; rw [e16]; kernel_rfl)) rfl<|.nl)<|fun a18 w18 h18 => ?_; clear h10
 refine wl_ex (x_call h18 bd_7 rfl rfl rfl rfl rfl (oConst_k (⟨v15, [⟨v14, lit3⟩]⟩ : Ls (Ls Ins)) (⟨.slice none 0 0, []⟩ : Ls Int) 0 1 _ (h18.sh.deep 0 rfl) (Sh.nilAt (α := Int) h18.sh) (lit_ok _ _))) (wanted_none rfl _) ?_
 rintro a19 w19 ⟨_, ⟨c19, u19, rfl, hq19, hu19, hs19⟩, hf19⟩
 obtain ⟨hr1, hr2, hr3⟩ := lit_st (v := v15) (v' := v14) hq19
 have h19 : St _ (fun _ => False) W a19 w19 _ _ := ⟨hf19, h18.sh.callI hs19⟩
 clear hf19 hs19
 clear h18
 refine gG h19<|gRn (oM 1 rfl<|oxt rfl<|oxt rfl<|.nl)<|gal ti_25 rfl fun b20 => gal ti_29 rfl fun b21 => gE (fun _ _ h_ => x_stb (i := 1) (vs := [c19.v, u19.v, .int .i64 0, .int .i64 1]) (cs' := [c19.v, u19.v, .int .i64 0, .int .i64 1]) h_ ti_25 rfl rfl rfl rfl rfl rfl rfl (allOne_cons ((h_.sh.deep 2 rfl)).one (allOne_cons ((h_.sh.own 3 rfl)).one (allOne_cons rfl (allOne_cons rfl allOne_nil)))) (Nat.le_of_ble_eq_true rfl) rfl) rfl<|gsw 0 ti_29 rfl rfl rfl<|nK k13<|gK fun _ k24 => sK fun _ k25 => gNl (aD 2 rfl) fun hl26 => gNl (fun w h => ((h.deep 2 rfl).nth 0 (show 0 < c19.l.length from (by omega)))) fun (hl27 : ((nth c19.l 0).l).length ≤ 140737488355328) => gRn (ofB fl_29_0 rfl<|olB 0 ti_27 rfl rfl<|oneN 0 0 rfl<|oM 1 rfl<|oG (by decide) (r_fieldB (r := 0) fl_25_0 rfl rfl rfl) rfl<|oG (by decide) (r_ldb (i := 1) ti_22 rfl rfl rfl rfl) rfl<|oG (by decide) (r_len (s := c19) (n := c19.l.length) sl_22 rfl rfl (fun w h => (h.deep 2 rfl)) rfl) rfl<|oG (by decide) (r_neqN (p := c19.l.length) (q := 1) rfl rfl rfl) rfl<|opF (by decide) rfl<|oM 1 rfl<|oG (decide_eq_false (fun h => h hr1)) (r_fieldB (r := 0) fl_25_0 rfl rfl rfl) rfl<|oG (decide_eq_false (fun h => h hr1)) (r_ldb (i := 1) ti_22 rfl rfl rfl rfl) rfl<|oG (decide_eq_false (fun h => h hr1)) (r_ixN (s := c19) (q := 0) sl_22 ti_45 rfl rfl rfl (fun w h => (h.deep 2 rfl)) (show 0 < c19.l.length from om9)) rfl<|oG (decide_eq_false (fun h => h hr1)) (r_lde (s := c19) (i := 0) (v := (nth c19.l 0).v) ti_45 rfl rfl rfl (fun w h => (h.deep 2 rfl)) (show 0 < c19.l.length from om9) (Nat.le_of_ble_eq_true rfl) rfl) rfl<|oG (decide_eq_false (fun h => h hr1)) (r_len (s := nth c19.l 0) (n := ((nth c19.l 0).l).length) sl_45 rfl rfl (fun w h => ((h.deep 2 rfl).nth 0 (show 0 < c19.l.length from om9))) rfl) rfl<|oG (decide_eq_false (fun h => h hr1)) (r_neqN (p := ((nth c19.l 0).l).length) (q := 3) rfl rfl rfl) rfl<|opF (decide_eq_false (fun h => h hr1)) rfl<|oM 1 rfl<|oG (decide_eq_false (fun h => h hr2)) (r_fieldB (r := 0) fl_25_0 rfl rfl rfl) rfl<|oG (decide_eq_false (fun h => h hr2)) (r_ldb (i := 1) ti_22 rfl rfl rfl rfl) rfl<|oG (decide_eq_false (fun h => h hr2)) (r_ixN (s := c19) (q := 0) sl_22 ti_45 rfl rfl rfl (fun w h => (h.deep 2 rfl)) (show 0 < c19.l.length from om9)) rfl<|oG (decide_eq_false (fun h => h hr2)) (r_lde (s := c19) (i := 0) (v := (nth c19.l 0).v) ti_45 rfl rfl rfl (fun w h => (h.deep 2 rfl)) (show 0 < c19.l.length from om9) (Nat.le_of_ble_eq_true rfl) rfl) rfl<|oG (decide_eq_false (fun h => h hr2)) (r_ixN (s := nth c19.l 0) (q := 1) sl_45 ti_44 rfl rfl rfl (fun w h => ((h.deep 2 rfl).nth 0 (show 0 < c19.l.length from om9))) (show 1 < ((nth c19.l 0).l).length from om9)) rfl<|oG (decide_eq_false (fun h => h hr2)) (r_ldew (s := nth c19.l 0) (i := 1) (vs := [.int .i64 ((nth ((nth c19.l 0).l) 1).op), .int .i64 ((nth ((nth c19.l 0).l) 1).a), .int .i64 ((nth ((nth c19.l 0).l) 1).b), .int .i64 ((nth ((nth c19.l 0).l) 1).c)]) ti_44 rfl rfl rfl (fun w h => ((h.deep 2 rfl).nth 0 (show 0 < c19.l.length from om9))) (show 1 < ((nth c19.l 0).l).length from om9) (Nat.le_of_ble_eq_true rfl) rfl) rfl<|oG (decide_eq_false (fun h => h hr2)) (r_build (cs := [.int .i64 1, .int .i64 0, .int .i64 4, .int .i64 0]) rfl rfl (by kernel_rfl)) rfl<|oG (decide_eq_false (fun h => h hr2)) (r_neqS rfl rfl rfl (fun w => neq_insG _ _ (nth ((nth c19.l 0).l) 1) (⟨1, 0, 4, 0⟩ : Ins) w) (fun w => neq_ins (nth ((nth c19.l 0).l) 1) (⟨1, 0, 4, 0⟩ : Ins) w)) rfl<|opF (decide_eq_false (fun h => h hr2)) rfl<|.nl)<|nK k25<|gF [1, 4, 47] rfl<|gcF rfl (decide_eq_false (fun h => h hr3))<|gS<|hK k24<|gK fun _ k28 => sK fun _ k29 => gRn (olw 5 ti_25 rfl rfl<|.nl)<|gC (fun _ _ h_ => xCl h_ bd_16 rfl (kvast_c code words locks regs _ (h_.sh.at 6 rfl) (h_.sh.at 7 rfl))) rfl<|?_; clear h19
 rintro _ _ w30 ⟨rfl, hs30⟩
 refine gWk hs30 rfl<|gU<|nK k29<|gcT rfl hv<|sG (oM 1 rfl<|.nl)<|gR<|uT<|fun a32 w32 h32 => ?_; clear hs30
 refine x_ret1 (fn := Try.f5) (t := 2) rfl h32 rfl ?_
 exact ⟨rfl, (h32.sh.sel [] rfl)⟩

theorem optLess_k (code : Ls (Ls Ins)) (words : Ls Int) (locks regs : Int) (W : World) (hcode : code.At W) (hwords : words.At W) (hv : vastG (code.l.map (·.l)) words.l = false) (hok : OkPg (pgOf code words locks regs)) :
    Rets Try.prog 5 [.agg #[code.v, words.v, .int .i64 locks, .int .i64 regs]] W (fun v w' => v = .bool true ∧ Sh0 W w' []) := by
 have hz := checkG_ok hok
 obtain ⟨hl1, hl2, hl3, hl4', hl5, hl6, hl7⟩ := ok_len hok
 refine gen Try.func5 Try.ntmps5 (Sh0.ext2 hcode hwords : Sh (fun _ => False) W W [.at_ code, .at_ words]) rfl fun a10 h10 => gG h10<|sK fun _ k11 => gbx rfl rfl fun b12 => gRn (oM 1 rfl<|.nl)<|nK k11<|sK fun _ k13 => gRn (oV (r_build (cs := [.int .i64 1, .int .i64 0, .int .i64 2, .int .i64 0]) rfl rfl (by kernel_rfl)) rfl<|oV (r_build (cs := [.int .i64 3, .int .i64 0, .int .i64 0, .int .i64 0]) rfl rfl (by kernel_rfl)) rfl<|oV (r_build (cs := [.int .i64 16, .int .i64 0, .int .i64 0, .int .i64 0]) rfl rfl (by kernel_rfl)) rfl<|.nl)<|gE1 (fun _ _ h_ => x_lit (n := 3) (cs := [.int .i64 1, .int .i64 0, .int .i64 2, .int .i64 0, .int .i64 3, .int .i64 0, .int .i64 0, .int .i64 0, .int .i64 16, .int .i64 0, .int .i64 0, .int .i64 0]) ([(⟨1, 0, 2, 0⟩ : Ins), (⟨3, 0, 0, 0⟩ : Ins), (⟨16, 0, 0, 0⟩ : Ins)] : List Ins) h_ sl_45 ti_44 rfl rfl rfl (by decide) rfl (by kernel_rfl) rfl (fun q hq w h => Flat.inner _ _) (fun q hq b hb => (Flat.on _ _ hb).elim) rfl rfl) rfl fun v14 => gE1 (fun _ _ h_ => x_litD (E := 0) (x := (⟨v14, [(⟨1, 0, 2, 0⟩ : Ins), (⟨3, 0, 0, 0⟩ : Ins), (⟨16, 0, 0, 0⟩ : Ins)]⟩ : Ls Ins)) h_ sl_22 ti_45 rfl rfl rfl ((h_.sh.own 0 rfl)) (fun b hb => (own_on (h_.sh.ok _ (List.mem_of_getElem? (i := 0) rfl)) hb).elim (fun h => h) (fun h => Flat.noRd h)) (fun b hb => Flat.noRd hb) rfl rfl) rfl fun v15 => gRn (oV (r_buildS (cs := [v15, (.slice none 0 0), .int .i64 0, .int .i64 1]) rfl rfl (fun w h => by obtain ⟨A16, n16, c16, (e16 : v15 = _)⟩ := ((h.deep 0 rfl)).form; rw [e16]; kernel_rfl)) rfl<|.nl)<|fun a18 w18 h18 => ?_; clear h10
 refine wl_ex (x_call h18 bd_7 rfl rfl rfl rfl rfl (oConst_k (⟨v15, [⟨v14, lit3⟩]⟩ : Ls (Ls Ins)) (⟨.slice none 0 0, []⟩ : Ls Int) 0 1 _ (h18.sh.deep 0 rfl) (Sh.nilAt (α := Int) h18.sh) (lit_ok _ _))) (wanted_none rfl _) ?_
 rintro a19 w19 ⟨_, ⟨c19, u19, rfl, hq19, hu19, hs19⟩, hf19⟩
 obtain ⟨hr1, hr2, hr3⟩ := lit_st (v := v15) (v' := v14) hq19
 have h19 : St _ (fun _ => False) W a19 w19 _ _ := ⟨hf19, h18.sh.callI hs19⟩
 clear hf19 hs19
 clear h18
 refine gG h19<|gRn (oM 1 rfl<|oxt rfl<|oxt rfl<|.nl)<|gal ti_25 rfl fun b20 => gal ti_29 rfl fun b21 => gE (fun _ _ h_ => x_stb (i := 1) (vs := [c19.v, u19.v, .int .i64 0, .int .i64 1]) (cs' := [c19.v, u19.v, .int .i64 0, .int .i64 1]) h_ ti_25 rfl rfl rfl rfl rfl rfl rfl (allOne_cons ((h_.sh.deep 2 rfl)).one (allOne_cons ((h_.sh.own 3 rfl)).one (allOne_cons rfl (allOne_cons rfl allOne_nil)))) (Nat.le_of_ble_eq_true rfl) rfl) rfl<|gsw 0 ti_29 rfl rfl rfl<|nK k13<|gK fun _ k24 => sK fun _ k25 => gNl (aD 2 rfl) fun hl26 => gNl (fun w h => ((h.deep 2 rfl).nth 0 (show 0 < c19.l.length from (by omega)))) fun (hl27 : ((nth c19.l 0).l).length ≤ 140737488355328) => gRn (ofB fl_29_0 rfl<|olB 0 ti_27 rfl rfl<|oneN 0 0 rfl<|oM 1 rfl<|oG (by decide) (r_fieldB (r := 0) fl_25_0 rfl rfl rfl) rfl<|oG (by decide) (r_ldb (i := 1) ti_22 rfl rfl rfl rfl) rfl<|oG (by decide) (r_len (s := c19) (n := c19.l.length) sl_22 rfl rfl (fun w h => (h.deep 2 rfl)) rfl) rfl<|oG (by decide) (r_neqN (p := c19.l.length) (q := 1) rfl rfl rfl) rfl<|opF (by decide) rfl<|oM 1 rfl<|oG (decide_eq_false (fun h => h hr1)) (r_fieldB (r := 0) fl_25_0 rfl rfl rfl) rfl<|oG (decide_eq_false (fun h => h hr1)) (r_ldb (i := 1) ti_22 rfl rfl rfl rfl) rfl<|oG (decide_eq_false (fun h => h hr1)) (r_ixN (s := c19) (q := 0) sl_22 ti_45 rfl rfl rfl (fun w h => (h.deep 2 rfl)) (show 0 < c19.l.length from om9)) rfl<|oG (decide_eq_false (fun h => h hr1)) (r_lde (s := c19) (i := 0) (v := (nth c19.l 0).v) ti_45 rfl rfl rfl (fun w h => (h.deep 2 rfl)) (show 0 < c19.l.length from om9) (Nat.le_of_ble_eq_true rfl) rfl) rfl<|oG (decide_eq_false (fun h => h hr1)) (r_len (s := nth c19.l 0) (n := ((nth c19.l 0).l).length) sl_45 rfl rfl (fun w h => ((h.deep 2 rfl).nth 0 (show 0 < c19.l.length from om9))) rfl) rfl<|oG (decide_eq_false (fun h => h hr1)) (r_neqN (p := ((nth c19.l 0).l).length) (q := 3) rfl rfl rfl) rfl<|opF (decide_eq_false (fun h => h hr1)) rfl<|oM 1 rfl<|oG (decide_eq_false (fun h => h hr2)) (r_fieldB (r := 0) fl_25_0 rfl rfl rfl) rfl<|oG (decide_eq_false (fun h => h hr2)) (r_ldb (i := 1) ti_22 rfl rfl rfl rfl) rfl<|oG (decide_eq_false (fun h => h hr2)) (r_ixN (s := c19) (q := 0) sl_22 ti_45 rfl rfl rfl (fun w h => (h.deep 2 rfl)) (show 0 < c19.l.length from om9)) rfl<|oG (decide_eq_false (fun h => h hr2)) (r_lde (s := c19) (i := 0) (v := (nth c19.l 0).v) ti_45 rfl rfl rfl (fun w h => (h.deep 2 rfl)) (show 0 < c19.l.length from om9) (Nat.le_of_ble_eq_true rfl) rfl) rfl<|oG (decide_eq_false (fun h => h hr2)) (r_ixN (s := nth c19.l 0) (q := 1) sl_45 ti_44 rfl rfl rfl (fun w h => ((h.deep 2 rfl).nth 0 (show 0 < c19.l.length from om9))) (show 1 < ((nth c19.l 0).l).length from om9)) rfl<|oG (decide_eq_false (fun h => h hr2)) (r_ldew (s := nth c19.l 0) (i := 1) (vs := [.int .i64 ((nth ((nth c19.l 0).l) 1).op), .int .i64 ((nth ((nth c19.l 0).l) 1).a), .int .i64 ((nth ((nth c19.l 0).l) 1).b), .int .i64 ((nth ((nth c19.l 0).l) 1).c)]) ti_44 rfl rfl rfl (fun w h => ((h.deep 2 rfl).nth 0 (show 0 < c19.l.length from om9))) (show 1 < ((nth c19.l 0).l).length from om9) (Nat.le_of_ble_eq_true rfl) rfl) rfl<|oG (decide_eq_false (fun h => h hr2)) (r_build (cs := [.int .i64 1, .int .i64 0, .int .i64 4, .int .i64 0]) rfl rfl (by kernel_rfl)) rfl<|oG (decide_eq_false (fun h => h hr2)) (r_neqS rfl rfl rfl (fun w => neq_insG _ _ (nth ((nth c19.l 0).l) 1) (⟨1, 0, 4, 0⟩ : Ins) w) (fun w => neq_ins (nth ((nth c19.l 0).l) 1) (⟨1, 0, 4, 0⟩ : Ins) w)) rfl<|opF (decide_eq_false (fun h => h hr2)) rfl<|.nl)<|nK k25<|gF [1, 4, 47] rfl<|gcF rfl (decide_eq_false (fun h => h hr3))<|gS<|hK k24<|gK fun _ k28 => sK fun _ k29 => gRn (olw 5 ti_25 rfl rfl<|.nl)<|gC (fun _ _ h_ => xCl h_ bd_16 rfl (kvast_c code words locks regs _ (h_.sh.at 6 rfl) (h_.sh.at 7 rfl))) rfl<|?_; clear h19
 rintro _ _ w30 ⟨rfl, hs30⟩
 refine gWk hs30 rfl<|gU<|nK k29<|gcF rfl hv<|gS<|hK k28<|sK fun _ k31 => gRn (olw 5 ti_25 rfl rfl<|.nl)<|fun a33 w33 h33 => ?_; clear hs30
 refine wl_ex (x_call h33 bd_7 rfl rfl rfl rfl rfl (oConst_k code words locks regs _ (h33.sh.at 6 rfl) (h33.sh.at 7 rfl) hok)) (wanted_none rfl _) ?_
 rintro a34 w34 ⟨_, ⟨c34, u34, rfl, hq34, hu34, hs34⟩, hf34⟩
 have hla9 := (range_nth hq34).1
 have hok2 := lessk_ok hok hq34 hu34
 have h34 : St _ (fun _ => False) W a34 w34 _ _ := ⟨hf34, h33.sh.callI hs34⟩
 clear hf34 hs34
 clear h33
 refine gG h34<|gRn (oM 1 rfl<|oxt rfl<|oxt rfl<|.nl)<|gal ti_25 rfl fun b35 => gE (fun _ _ h_ => x_stb (i := 0) (vs := [c34.v, u34.v, .int .i64 locks, .int .i64 regs]) (cs' := [c34.v, u34.v, .int .i64 locks, .int .i64 regs]) h_ ti_25 rfl rfl rfl rfl rfl rfl rfl (allOne_cons ((h_.sh.deep 1 rfl)).one (allOne_cons ((h_.sh.own 2 rfl)).one (allOne_cons rfl (allOne_cons rfl allOne_nil)))) (Nat.le_of_ble_eq_true rfl) rfl) rfl<|gsw 3 ti_29 rfl rfl rfl<|nK k31<|sK fun _ k38 => gRn (olw 8 ti_25 rfl rfl<|.nl)<|fun a40 w40 h40 => wl_ex (x_call h40 bd_8 rfl rfl rfl rfl rfl (oDead_k code words locks regs _ (h40.sh.at 9 rfl) (h40.sh.at 10 rfl) hok)) (wanted_none rfl _) ?_; clear h34
 rintro a41 w41 ⟨_, ⟨c41, u41, rfl, hq41, hu41, hs41⟩, hf41⟩
 have hlb9 := (range_nth hq41).1
 have h41 : St _ (fun _ => False) W a41 w41 _ _ := ⟨hf41, h40.sh.callI hs41⟩
 clear hf41 hs41
 clear h40
 refine gG h41<|gRn (oM 1 rfl<|oxt rfl<|oxt rfl<|.nl)<|gal ti_25 rfl fun b42 => gal ti_29 rfl fun b43 => gE (fun _ _ h_ => x_stb (i := 1) (vs := [c41.v, u41.v, .int .i64 locks, .int .i64 regs]) (cs' := [c41.v, u41.v, .int .i64 locks, .int .i64 regs]) h_ ti_25 rfl rfl rfl rfl rfl rfl rfl (allOne_cons ((h_.sh.deep 2 rfl)).one (allOne_cons ((h_.sh.own 3 rfl)).one (allOne_cons rfl (allOne_cons rfl allOne_nil)))) (Nat.le_of_ble_eq_true rfl) rfl) rfl<|gsw 0 ti_29 rfl rfl rfl<|nK k38<|gK fun _ k46 => sK fun _ k47 => gNl (aD 5 rfl) fun hl48 => gNl (aD 2 rfl) fun hl49 => gRn (olw 7 ti_29 rfl rfl<|olw 0 ti_29 rfl rfl<|oV (r_neqS rfl rfl rfl (fun w => neq_fltG _ _ ⟨0, 0, 0⟩ ⟨0, 0, 0⟩ w) (fun w => neq_flt ⟨0, 0, 0⟩ ⟨0, 0, 0⟩ w)) rfl<|oM 1 rfl<|oG (decide_eq_false (fun h => h rfl)) (r_fieldB (r := 0) fl_25_0 rfl rfl rfl) rfl<|oG (decide_eq_false (fun h => h rfl)) (r_ldb (i := 4) ti_22 rfl rfl rfl rfl) rfl<|oG (decide_eq_false (fun h => h rfl)) (r_len (s := c34) (n := c34.l.length) sl_22 rfl rfl (fun w h => (h.deep 5 rfl)) rfl) rfl<|oG (decide_eq_false (fun h => h rfl)) (r_fieldB (r := 0) fl_25_0 rfl rfl rfl) rfl<|oG (decide_eq_false (fun h => h rfl)) (r_ldb (i := 1) ti_22 rfl rfl rfl rfl) rfl<|oG (decide_eq_false (fun h => h rfl)) (r_len (s := c41) (n := c41.l.length) sl_22 rfl rfl (fun w h => (h.deep 2 rfl)) rfl) rfl<|oG (decide_eq_false (fun h => h rfl)) (r_neqN (p := c34.l.length) (q := c41.l.length) rfl rfl rfl) rfl<|opF (decide_eq_false (fun h => h rfl)) rfl<|.nl)<|nK k47<|gF [1, 4, 5, 6, 71] rfl<|gcF rfl (decide_eq_false (by omega))<|gS<|hK k46<|gK fun _ k50 => sG (ofB fl_29_0 rfl<|olB 7 ti_27 rfl rfl<|oneN 0 0 rfl<|.nl)<|gcF rfl (by decide)<|gS<|hK k50<|sK fun _ k52 => gRn (olw 4 ti_25 rfl rfl<|.nl)<|fun a54 w54 h54 => wl_ex (x_call h54 bd_7 rfl rfl rfl rfl rfl (oConst_k c34 u34 locks regs _ (h54.sh.deep 5 rfl) (h54.sh.own 6 rfl) hok2)) (wanted_none rfl _) ?_; clear h41
 rintro a55 w55 ⟨_, ⟨c55, u55, rfl, hq55, hu55, hs55⟩, hf55⟩
 obtain ⟨hn1, hn2, hn3, hn4⟩ := less_len hok hq34 hq41 hq55
 have h55 : St _ (fun _ => False) W a55 w55 _ _ := ⟨hf55, h54.sh.callI hs55⟩
 clear hf55 hs55
 clear h54
 refine gG h55<|gRn (oM 1 rfl<|oxt rfl<|oxt rfl<|.nl)<|gal ti_25 rfl fun b56 => gE (fun _ _ h_ => x_stb (i := 0) (vs := [c55.v, u55.v, .int .i64 locks, .int .i64 regs]) (cs' := [c55.v, u55.v, .int .i64 locks, .int .i64 regs]) h_ ti_25 rfl rfl rfl rfl rfl rfl rfl (allOne_cons ((h_.sh.deep 1 rfl)).one (allOne_cons ((h_.sh.own 2 rfl)).one (allOne_cons rfl (allOne_cons rfl allOne_nil)))) (Nat.le_of_ble_eq_true rfl) rfl) rfl<|gsw 10 ti_29 rfl rfl rfl<|nK k52<|gK fun _ k59 => sK fun _ k60 => gNl (aD 1 rfl) fun hl61 => gNl (aA 16 rfl) fun hl62 => gRn (ofB fl_29_0 rfl<|olB 10 ti_27 rfl rfl<|oneN 0 0 rfl<|oM 1 rfl<|oG (by decide) (r_fieldB (r := 0) fl_25_0 rfl rfl rfl) rfl<|oG (by decide) (r_ldb (i := 0) ti_22 rfl rfl rfl rfl) rfl<|oG (by decide) (r_len (s := c55) (n := c55.l.length) sl_22 rfl rfl (fun w h => (h.deep 1 rfl)) rfl) rfl<|oG (by decide) (r_fieldB (r := 0) fl_25_0 rfl rfl rfl) rfl<|oG (by decide) (r_ldb (i := 7) ti_22 rfl rfl rfl rfl) rfl<|oG (by decide) (r_len (s := c34) (n := c34.l.length) sl_22 rfl rfl (fun w h => (h.deep 8 rfl)) rfl) rfl<|oG (by decide) (r_neqN (p := c55.l.length) (q := c34.l.length) rfl rfl rfl) rfl<|opF (by decide) rfl<|oM 1 rfl<|oG (decide_eq_false (by omega)) (r_fieldB (r := 0) fl_25_0 rfl rfl rfl) rfl<|oG (decide_eq_false (by omega)) (r_ldb (i := 7) ti_22 rfl rfl rfl rfl) rfl<|oG (decide_eq_false (by omega)) (r_len (s := c34) (n := c34.l.length) sl_22 rfl rfl (fun w h => (h.deep 8 rfl)) rfl) rfl<|oG (decide_eq_false (by omega)) (r_fieldB (r := 0) fl_25_0 rfl rfl rfl) rfl<|oG (decide_eq_false (by omega)) (r_ldb (i := 15) ti_22 rfl rfl rfl rfl) rfl<|oG (decide_eq_false (by omega)) (r_len (s := code) (n := code.l.length) sl_22 rfl rfl (fun w h => (h.at 16 rfl)) rfl) rfl<|oG (decide_eq_false (by omega)) (r_neqN (p := c34.l.length) (q := code.l.length) rfl rfl rfl) rfl<|opF (decide_eq_false (by omega)) rfl<|.nl)<|nK k60<|gF [1, 5, 6, 8, 100] rfl<|gcF rfl (decide_eq_false (by omega))<|gS<|hK k59<|gK fun _ k63 => sG (oM 1 rfl<|.nl)<|gB<|fun a66 w66 h66 => x_loop (fun m a w => ∃ (t : Nat), (t ≤ code.l.length) ∧ St 178 (fun _ => False) W a w [(1, .pointer (some ⟨b12, 0, none⟩)), (5, .pointer (some ⟨b35, 0, none⟩)), (6, .pointer (some ⟨b42, 0, none⟩)), (8, .pointer (some ⟨b56, 0, none⟩)), (9, .int .i64 ((t : Nat) : Int))] [.blk b56 25 [c55.v, u55.v, .int .i64 locks, .int .i64 regs], .deep 45 c55, .own 3 u55, .blk b43 29 [.int .i64 0, .int .i64 0, .int .i64 0], .blk b42 25 [c41.v, u41.v, .int .i64 locks, .int .i64 regs], .deep 45 c41, .own 3 u41, .blk b35 25 [c34.v, u34.v, .int .i64 locks, .int .i64 regs], .deep 45 c34, .own 3 u34, .blk b21 29 [.int .i64 0, .int .i64 0, .int .i64 0], .blk b20 25 [c19.v, u19.v, .int .i64 0, .int .i64 1], .deep 45 c19, .own 3 u19, .deep 45 (⟨v15, [(⟨v14, [(⟨1, 0, 2, 0⟩ : Ins), (⟨3, 0, 0, 0⟩ : Ins), (⟨16, 0, 0, 0⟩ : Ins)]⟩ : Ls Ins)]⟩ : Ls (Ls Ins)), .blk b12 25 [code.v, words.v, .int .i64 locks, .int .i64 regs], .at_ code, .at_ words] ∧ m = code.l.length - t) ⟨_, 0, (Nat.zero_le _), h66.nf ⟨rfl, rfl, rfl, rfl, rfl, trivial⟩, rfl⟩ ?_; clear h55
 clear h66
 rintro m65 a65 w65 ⟨t, ht, h65, hm65⟩
 refine gG h65<|gK fun _ k67 => sG (oM 1 rfl<|ofB fl_25_0 rfl<|olB 15 ti_22 rfl rfl<|oln sl_22 (aA 16 rfl) rfl<|oltN _ _ rfl<|.nl)<|?_; clear h65
 refine gcd rfl (fun hb69 hp69 => ?_) fun hb69 hp69 => ?_
 ·skip
  refine gS<|hK k67<|?_
  obtain ⟨hn5, hn6, hn7⟩ := hn4 t (by omega)
  have hn8 := congrArg List.length hn7
  refine gK fun _ k70 => gB<|gK fun _ k71 => gK fun _ k72 => gNl (fun w h => ((h.deep 8 rfl).nth t (show t < c34.l.length from (by omega)))) fun (hl73 : ((nth c34.l t).l).length ≤ 140737488355328) => gNl (fun w h => ((h.at 16 rfl).nth t (show t < code.l.length from (by omega)))) fun (hl74 : ((nth code.l t).l).length ≤ 140737488355328) => gNl (fun w h => ((h.deep 5 rfl).nth t (show t < c41.l.length from (by omega)))) fun (hl75 : ((nth c41.l t).l).length ≤ 140737488355328) => gNl (fun w h => ((h.deep 1 rfl).nth t (show t < c55.l.length from (by omega)))) fun (hl76 : ((nth c55.l t).l).length ≤ 140737488355328) => rQ (ofB fl_25_0 rfl<|olB 7 ti_22 rfl rfl<|oM 1 rfl<|oxN sl_22 ti_45 (aD 8 rfl) _ om9 rfl<|olE ((nth c34.l t).v) ti_45 (aD 8 rfl) om9 rfl<|oln (n := ((nth c34.l t).l).length) sl_45 (fun w h => ((h.deep 8 rfl).nth t (show t < c34.l.length from (by omega)))) rfl<|ofB fl_25_0 rfl<|olB 15 ti_22 rfl rfl<|oM 1 rfl<|oxN sl_22 ti_45 (aA 16 rfl) _ om9 rfl<|olE ((nth code.l t).v) ti_45 (aA 16 rfl) om9 rfl<|oln (n := ((nth code.l t).l).length) sl_45 (fun w h => ((h.at 16 rfl).nth t (show t < code.l.length from (by omega)))) rfl<|ogtN _ _ rfl<|oM 1 rfl<|oG (decide_eq_false (by omega)) (r_fieldB (r := 0) fl_25_0 rfl rfl rfl) rfl<|oG (decide_eq_false (by omega)) (r_ldb (i := 4) ti_22 rfl rfl rfl rfl) rfl<|oG (decide_eq_false (by omega)) (r_move rfl rfl) rfl<|oG (decide_eq_false (by omega)) (r_ixN (s := c41) (q := t) sl_22 ti_45 rfl rfl rfl (fun w h => (h.deep 5 rfl)) (show t < c41.l.length from om9)) rfl<|oG (decide_eq_false (by omega)) (r_lde (s := c41) (i := t) (v := (nth c41.l t).v) ti_45 rfl rfl rfl (fun w h => (h.deep 5 rfl)) (show t < c41.l.length from om9) (Nat.le_of_ble_eq_true rfl) rfl) rfl<|oG (decide_eq_false (by omega)) (r_len (s := nth c41.l t) (n := ((nth c41.l t).l).length) sl_45 rfl rfl (fun w h => ((h.deep 5 rfl).nth t (show t < c41.l.length from om9))) rfl) rfl<|oG (decide_eq_false (by omega)) (r_fieldB (r := 0) fl_25_0 rfl rfl rfl) rfl<|oG (decide_eq_false (by omega)) (r_ldb (i := 15) ti_22 rfl rfl rfl rfl) rfl<|oG (decide_eq_false (by omega)) (r_move rfl rfl) rfl<|oG (decide_eq_false (by omega)) (r_ixN (s := code) (q := t) sl_22 ti_45 rfl rfl rfl (fun w h => (h.at 16 rfl)) (show t < code.l.length from om9)) rfl<|oG (decide_eq_false (by omega)) (r_lde (s := code) (i := t) (v := (nth code.l t).v) ti_45 rfl rfl rfl (fun w h => (h.at 16 rfl)) (show t < code.l.length from om9) (Nat.le_of_ble_eq_true rfl) rfl) rfl<|oG (decide_eq_false (by omega)) (r_len (s := nth code.l t) (n := ((nth code.l t).l).length) sl_45 rfl rfl (fun w h => ((h.at 16 rfl).nth t (show t < code.l.length from om9))) rfl) rfl<|oG (decide_eq_false (by omega)) (r_gtrN (p := ((nth c41.l t).l).length) (q := ((nth code.l t).l).length) rfl rfl rfl) rfl<|opF (decide_eq_false (by omega)) rfl<|oM 1 rfl<|oG (decide_eq_false (by omega)) (r_fieldB (r := 0) fl_25_0 rfl rfl rfl) rfl<|oG (decide_eq_false (by omega)) (r_ldb (i := 0) ti_22 rfl rfl rfl rfl) rfl<|oG (decide_eq_false (by omega)) (r_move rfl rfl) rfl<|oG (decide_eq_false (by omega)) (r_ixN (s := c55) (q := t) sl_22 ti_45 rfl rfl rfl (fun w h => (h.deep 1 rfl)) (show t < c55.l.length from om9)) rfl<|oG (decide_eq_false (by omega)) (r_lde (s := c55) (i := t) (v := (nth c55.l t).v) ti_45 rfl rfl rfl (fun w h => (h.deep 1 rfl)) (show t < c55.l.length from om9) (Nat.le_of_ble_eq_true rfl) rfl) rfl<|oG (decide_eq_false (by omega)) (r_len (s := nth c55.l t) (n := ((nth c55.l t).l).length) sl_45 rfl rfl (fun w h => ((h.deep 1 rfl).nth t (show t < c55.l.length from om9))) rfl) rfl<|oG (decide_eq_false (by omega)) (r_fieldB (r := 0) fl_25_0 rfl rfl rfl) rfl<|oG (decide_eq_false (by omega)) (r_ldb (i := 7) ti_22 rfl rfl rfl rfl) rfl<|oG (decide_eq_false (by omega)) (r_move rfl rfl) rfl<|oG (decide_eq_false (by omega)) (r_ixN (s := c34) (q := t) sl_22 ti_45 rfl rfl rfl (fun w h => (h.deep 8 rfl)) (show t < c34.l.length from om9)) rfl<|oG (decide_eq_false (by omega)) (r_lde (s := c34) (i := t) (v := (nth c34.l t).v) ti_45 rfl rfl rfl (fun w h => (h.deep 8 rfl)) (show t < c34.l.length from om9) (Nat.le_of_ble_eq_true rfl) rfl) rfl<|oG (decide_eq_false (by omega)) (r_len (s := nth c34.l t) (n := ((nth c34.l t).l).length) sl_45 rfl rfl (fun w h => ((h.deep 8 rfl).nth t (show t < c34.l.length from om9))) rfl) rfl<|oG (decide_eq_false (by omega)) (r_neqN (p := ((nth c55.l t).l).length) (q := ((nth c34.l t).l).length) rfl rfl rfl) rfl<|opF (decide_eq_false (by omega)) rfl<|.nl)<|hK k72<|gF [1, 5, 6, 8, 9, 150] rfl<|gcF rfl (decide_eq_false (by omega))<|gS<|hK k71<|sG (oM 1 rfl<|.nl)<|gB<|fun a79 w79 h79 => x_loop (fun m a w => ∃ (i : Nat), (i ≤ (nth c34.l t).l.length) ∧ St 178 (fun _ => False) W a w [(1, .pointer (some ⟨b12, 0, none⟩)), (5, .pointer (some ⟨b35, 0, none⟩)), (6, .pointer (some ⟨b42, 0, none⟩)), (8, .pointer (some ⟨b56, 0, none⟩)), (9, .int .i64 ((t : Nat) : Int)), (10, .int .i64 ((i : Nat) : Int))] [.blk b56 25 [c55.v, u55.v, .int .i64 locks, .int .i64 regs], .deep 45 c55, .own 3 u55, .blk b43 29 [.int .i64 0, .int .i64 0, .int .i64 0], .blk b42 25 [c41.v, u41.v, .int .i64 locks, .int .i64 regs], .deep 45 c41, .own 3 u41, .blk b35 25 [c34.v, u34.v, .int .i64 locks, .int .i64 regs], .deep 45 c34, .own 3 u34, .blk b21 29 [.int .i64 0, .int .i64 0, .int .i64 0], .blk b20 25 [c19.v, u19.v, .int .i64 0, .int .i64 1], .deep 45 c19, .own 3 u19, .deep 45 (⟨v15, [(⟨v14, [(⟨1, 0, 2, 0⟩ : Ins), (⟨3, 0, 0, 0⟩ : Ins), (⟨16, 0, 0, 0⟩ : Ins)]⟩ : Ls Ins)]⟩ : Ls (Ls Ins)), .blk b12 25 [code.v, words.v, .int .i64 locks, .int .i64 regs], .at_ code, .at_ words] ∧ m = (nth c34.l t).l.length - i) ⟨_, 0, (Nat.zero_le _), h79.nf ⟨rfl, rfl, rfl, rfl, rfl, rfl, trivial⟩, rfl⟩ ?_
  clear h79
  rintro m78 a78 w78 ⟨i, hi, h78, hm78⟩
  refine gG h78<|gK fun _ k80 => sG (oM 1 rfl<|ofB fl_25_0 rfl<|olB 7 ti_22 rfl rfl<|oM 1 rfl<|oxN sl_22 ti_45 (aD 8 rfl) _ om9 rfl<|olE ((nth c34.l t).v) ti_45 (aD 8 rfl) om9 rfl<|oln (n := ((nth c34.l t).l).length) sl_45 (fun w h => ((h.deep 8 rfl).nth t (show t < c34.l.length from (by omega)))) rfl<|oltN _ _ rfl<|.nl)<|?_; clear h78
  refine gcd rfl (fun hb82 hp82 => ?_) fun hb82 hp82 => ?_
  ·skip
   refine gS<|hK k80<|gK fun _ k83 => gB<|gK fun _ k84 => rQ (ofB fl_25_0 rfl<|olB 7 ti_22 rfl rfl<|oM 1 rfl<|oxN sl_22 ti_45 (aD 8 rfl) _ om9 rfl<|olE ((nth c34.l t).v) ti_45 (aD 8 rfl) om9 rfl<|oM 1 rfl<|oxN sl_45 ti_44 (fun w h => ((h.deep 8 rfl).nth t (show t < c34.l.length from (by omega)))) _ om9 rfl<|olw2 [.int .i64 ((nth ((nth c34.l t).l) i).op), .int .i64 ((nth ((nth c34.l t).l) i).a), .int .i64 ((nth ((nth c34.l t).l) i).b), .int .i64 ((nth ((nth c34.l t).l) i).c)] ti_44 (fun w h => ((h.deep 8 rfl).nth t (show t < c34.l.length from (by omega)))) om9 rfl<|ofB fl_25_0 rfl<|olB 0 ti_22 rfl rfl<|oM 1 rfl<|oxN sl_22 ti_45 (aD 1 rfl) _ om9 rfl<|olE ((nth c55.l t).v) ti_45 (aD 1 rfl) om9 rfl<|oM 1 rfl<|oxN sl_45 ti_44 (fun w h => ((h.deep 1 rfl).nth t (show t < c55.l.length from (by omega)))) _ om9 rfl<|olw2 [.int .i64 ((nth ((nth c55.l t).l) i).op), .int .i64 ((nth ((nth c55.l t).l) i).a), .int .i64 ((nth ((nth c55.l t).l) i).b), .int .i64 ((nth ((nth c55.l t).l) i).c)] ti_44 (fun w h => ((h.deep 1 rfl).nth t (show t < c55.l.length from (by omega)))) om9 rfl<|oV (r_neqS rfl rfl rfl (fun w => neq_insG _ _ (nth ((nth c34.l t).l) i) (nth ((nth c55.l t).l) i) w) (fun w => neq_ins (nth ((nth c34.l t).l) i) (nth ((nth c55.l t).l) i) w)) rfl<|.nl)<|hK k84<|gF [1, 5, 6, 8, 9, 10, 177] rfl<|gcF rfl (decide_eq_false (fun h => h (by rw [hn7])))<|gS<|hK k83<|gL<|gRn (oM 1 rfl<|oadN _ 1 om9 rfl<|oM 1 rfl<|.nl)<|nN<|fun a85 w85 h85 => x_again ⟨_, ?_, i + 1, ?_, h85.nf ⟨rfl, rfl, rfl, rfl, rfl, rfl, trivial⟩, rfl⟩
   · rw [hm78]; first | omega | (simp only [lens9]; omega)
   · omega
  refine gX<|hK k70<|gL<|gRn (oM 1 rfl<|oadN _ 1 om9 rfl<|oM 1 rfl<|.nl)<|nN<|fun a86 w86 h86 => x_again ⟨_, ?_, t + 1, ?_, h86.nf ⟨rfl, rfl, rfl, rfl, rfl, trivial⟩, rfl⟩
  · rw [hm65]; first | omega | (simp only [lens9]; omega)
  · omega
 refine gX<|hK k63<|sG (oM 1 rfl<|.nl)<|gR<|fun a88 w88 h88 => x_ret1 (fn := Try.f5) (t := 2) rfl h88 rfl ?_
 exact ⟨rfl, (h88.sh.sel [] rfl)⟩

theorem optLess_b (code : Ls (Ls Ins)) (words : Ls Int) (locks regs : Int) (W : World) (hcode : code.At W) (hwords : words.At W) (hv : vastG (code.l.map (·.l)) words.l = false) (hz : (checkG (pgOf code words locks regs)).code ≠ 0) :
    Rets Try.prog 5 [.agg #[code.v, words.v, .int .i64 locks, .int .i64 regs]] W (fun v w' => v = .bool true ∧ Sh0 W w' []) := by
 refine gen Try.func5 Try.ntmps5 (Sh0.ext2 hcode hwords : Sh (fun _ => False) W W [.at_ code, .at_ words]) rfl fun a10 h10 => gG h10<|sK fun _ k11 => gbx rfl rfl fun b12 => gRn (oM 1 rfl<|.nl)<|nK k11<|sK fun _ k13 => gRn (oV (r_build (cs := [.int .i64 1, .int .i64 0, .int .i64 2, .int .i64 0]) rfl rfl (by kernel_rfl)) rfl<|oV (r_build (cs := [.int .i64 3, .int .i64 0, .int .i64 0, .int .i64 0]) rfl rfl (by kernel_rfl)) rfl<|oV (r_build (cs := [.int .i64 16, .int .i64 0, .int .i64 0, .int .i64 0]) rfl rfl (by kernel_rfl)) rfl<|.nl)<|gE1 (fun _ _ h_ => x_lit (n := 3) (cs := [.int .i64 1, .int .i64 0, .int .i64 2, .int .i64 0, .int .i64 3, .int .i64 0, .int .i64 0, .int .i64 0, .int .i64 16, .int .i64 0, .int .i64 0, .int .i64 0]) ([(⟨1, 0, 2, 0⟩ : Ins), (⟨3, 0, 0, 0⟩ : Ins), (⟨16, 0, 0, 0⟩ : Ins)] : List Ins) h_ sl_45 ti_44 rfl rfl rfl (by decide) rfl (by kernel_rfl) rfl (fun q hq w h => Flat.inner _ _) (fun q hq b hb => (Flat.on _ _ hb).elim) rfl rfl) rfl fun v14 => gE1 (fun _ _ h_ => x_litD (E := 0) (x := (⟨v14, [(⟨1, 0, 2, 0⟩ : Ins), (⟨3, 0, 0, 0⟩ : Ins), (⟨16, 0, 0, 0⟩ : Ins)]⟩ : Ls Ins)) h_ sl_22 ti_45 rfl rfl rfl ((h_.sh.own 0 rfl)) (fun b hb => (own_on (h_.sh.ok _ (List.mem_of_getElem? (i := 0) rfl)) hb).elim (fun h => h) (fun h => Flat.noRd h)) (fun b hb => Flat.noRd hb) rfl rfl) rfl fun v15 => gRn (oV (r_buildS (cs := [v15, (.slice none 0 0), .int .i64 0, .int .i64 1]) rfl rfl (fun w h => by obtain ⟨A16, n16, c16, (e16 : v15 = _)⟩ := ((h.deep 0 rfl)).form; rw [e16]; kernel_rfl)) rfl<|.nl)<|fun a18 w18 h18 => ?_; clear h10
 refine wl_ex (x_call h18 bd_7 rfl rfl rfl rfl rfl (oConst_k (⟨v15, [⟨v14, lit3⟩]⟩ : Ls (Ls Ins)) (⟨.slice none 0 0, []⟩ : Ls Int) 0 1 _ (h18.sh.deep 0 rfl) (Sh.nilAt (α := Int) h18.sh) (lit_ok _ _))) (wanted_none rfl _) ?_
 rintro a19 w19 ⟨_, ⟨c19, u19, rfl, hq19, hu19, hs19⟩, hf19⟩
 obtain ⟨hr1, hr2, hr3⟩ := lit_st (v := v15) (v' := v14) hq19
 have h19 : St _ (fun _ => False) W a19 w19 _ _ := ⟨hf19, h18.sh.callI hs19⟩
 clear hf19 hs19
 clear h18
 refine gG h19<|gRn (oM 1 rfl<|oxt rfl<|oxt rfl<|.nl)<|gal ti_25 rfl fun b20 => gal ti_29 rfl fun b21 => gE (fun _ _ h_ => x_stb (i := 1) (vs := [c19.v, u19.v, .int .i64 0, .int .i64 1]) (cs' := [c19.v, u19.v, .int .i64 0, .int .i64 1]) h_ ti_25 rfl rfl rfl rfl rfl rfl rfl (allOne_cons ((h_.sh.deep 2 rfl)).one (allOne_cons ((h_.sh.own 3 rfl)).one (allOne_cons rfl (allOne_cons rfl allOne_nil)))) (Nat.le_of_ble_eq_true rfl) rfl) rfl<|gsw 0 ti_29 rfl rfl rfl<|nK k13<|gK fun _ k24 => sK fun _ k25 => gNl (aD 2 rfl) fun hl26 => gNl (fun w h => ((h.deep 2 rfl).nth 0 (show 0 < c19.l.length from (by omega)))) fun (hl27 : ((nth c19.l 0).l).length ≤ 140737488355328) => gRn (ofB fl_29_0 rfl<|olB 0 ti_27 rfl rfl<|oneN 0 0 rfl<|oM 1 rfl<|oG (by decide) (r_fieldB (r := 0) fl_25_0 rfl rfl rfl) rfl<|oG (by decide) (r_ldb (i := 1) ti_22 rfl rfl rfl rfl) rfl<|oG (by decide) (r_len (s := c19) (n := c19.l.length) sl_22 rfl rfl (fun w h => (h.deep 2 rfl)) rfl) rfl<|oG (by decide) (r_neqN (p := c19.l.length) (q := 1) rfl rfl rfl) rfl<|opF (by decide) rfl<|oM 1 rfl<|oG (decide_eq_false (fun h => h hr1)) (r_fieldB (r := 0) fl_25_0 rfl rfl rfl) rfl<|oG (decide_eq_false (fun h => h hr1)) (r_ldb (i := 1) ti_22 rfl rfl rfl rfl) rfl<|oG (decide_eq_false (fun h => h hr1)) (r_ixN (s := c19) (q := 0) sl_22 ti_45 rfl rfl rfl (fun w h => (h.deep 2 rfl)) (show 0 < c19.l.length from om9)) rfl<|oG (decide_eq_false (fun h => h hr1)) (r_lde (s := c19) (i := 0) (v := (nth c19.l 0).v) ti_45 rfl rfl rfl (fun w h => (h.deep 2 rfl)) (show 0 < c19.l.length from om9) (Nat.le_of_ble_eq_true rfl) rfl) rfl<|oG (decide_eq_false (fun h => h hr1)) (r_len (s := nth c19.l 0) (n := ((nth c19.l 0).l).length) sl_45 rfl rfl (fun w h => ((h.deep 2 rfl).nth 0 (show 0 < c19.l.length from om9))) rfl) rfl<|oG (decide_eq_false (fun h => h hr1)) (r_neqN (p := ((nth c19.l 0).l).length) (q := 3) rfl rfl rfl) rfl<|opF (decide_eq_false (fun h => h hr1)) rfl<|oM 1 rfl<|oG (decide_eq_false (fun h => h hr2)) (r_fieldB (r := 0) fl_25_0 rfl rfl rfl) rfl<|oG (decide_eq_false (fun h => h hr2)) (r_ldb (i := 1) ti_22 rfl rfl rfl rfl) rfl<|oG (decide_eq_false (fun h => h hr2)) (r_ixN (s := c19) (q := 0) sl_22 ti_45 rfl rfl rfl (fun w h => (h.deep 2 rfl)) (show 0 < c19.l.length from om9)) rfl<|oG (decide_eq_false (fun h => h hr2)) (r_lde (s := c19) (i := 0) (v := (nth c19.l 0).v) ti_45 rfl rfl rfl (fun w h => (h.deep 2 rfl)) (show 0 < c19.l.length from om9) (Nat.le_of_ble_eq_true rfl) rfl) rfl<|oG (decide_eq_false (fun h => h hr2)) (r_ixN (s := nth c19.l 0) (q := 1) sl_45 ti_44 rfl rfl rfl (fun w h => ((h.deep 2 rfl).nth 0 (show 0 < c19.l.length from om9))) (show 1 < ((nth c19.l 0).l).length from om9)) rfl<|oG (decide_eq_false (fun h => h hr2)) (r_ldew (s := nth c19.l 0) (i := 1) (vs := [.int .i64 ((nth ((nth c19.l 0).l) 1).op), .int .i64 ((nth ((nth c19.l 0).l) 1).a), .int .i64 ((nth ((nth c19.l 0).l) 1).b), .int .i64 ((nth ((nth c19.l 0).l) 1).c)]) ti_44 rfl rfl rfl (fun w h => ((h.deep 2 rfl).nth 0 (show 0 < c19.l.length from om9))) (show 1 < ((nth c19.l 0).l).length from om9) (Nat.le_of_ble_eq_true rfl) rfl) rfl<|oG (decide_eq_false (fun h => h hr2)) (r_build (cs := [.int .i64 1, .int .i64 0, .int .i64 4, .int .i64 0]) rfl rfl (by kernel_rfl)) rfl<|oG (decide_eq_false (fun h => h hr2)) (r_neqS rfl rfl rfl (fun w => neq_insG _ _ (nth ((nth c19.l 0).l) 1) (⟨1, 0, 4, 0⟩ : Ins) w) (fun w => neq_ins (nth ((nth c19.l 0).l) 1) (⟨1, 0, 4, 0⟩ : Ins) w)) rfl<|opF (decide_eq_false (fun h => h hr2)) rfl<|.nl)<|nK k25<|gF [1, 4, 47] rfl<|gcF rfl (decide_eq_false (fun h => h hr3))<|gS<|hK k24<|gK fun _ k28 => sK fun _ k29 => gRn (olw 5 ti_25 rfl rfl<|.nl)<|gC (fun _ _ h_ => xCl h_ bd_16 rfl (kvast_c code words locks regs _ (h_.sh.at 6 rfl) (h_.sh.at 7 rfl))) rfl<|?_; clear h19
 rintro _ _ w30 ⟨rfl, hs30⟩
 refine gWk hs30 rfl<|gU<|nK k29<|gcF rfl hv<|gS<|hK k28<|sK fun _ k31 => gRn (olw 5 ti_25 rfl rfl<|.nl)<|gC (fun _ _ h_ => xCl h_ bd_7 rfl (oConst_b code words locks regs _ (h_.sh.at 6 rfl) (h_.sh.at 7 rfl) hz)) rfl<|?_; clear hs30
 rintro _ _ w32 ⟨rfl, hs32⟩
 refine gWk hs32 rfl<|gU<|gRn (oM 1 rfl<|oxt rfl<|oxt rfl<|.nl)<|gal ti_25 rfl fun b33 => gE (fun _ _ h_ => x_stb (i := 0) (vs := [(.slice none 0 0), (.slice none 0 0), .int .i64 0, .int .i64 0]) (cs' := [(.slice none 0 0), (.slice none 0 0), .int .i64 0, .int .i64 0]) h_ ti_25 rfl rfl rfl rfl rfl rfl rfl (allOne_cons ((Sh.nilAt (α := Ls Ins) h_.sh)).one (allOne_cons ((Sh.nilAt (α := Int) h_.sh)).one (allOne_cons rfl (allOne_cons rfl allOne_nil)))) (Nat.le_of_ble_eq_true rfl) rfl) rfl<|gsw 1 ti_29 rfl rfl rfl<|nK k31<|sK fun _ k36 => gRn (olw 6 ti_25 rfl rfl<|.nl)<|gC (fun _ _ h_ => xCl h_ bd_8 rfl (oDead_b code words locks regs _ (h_.sh.at 7 rfl) (h_.sh.at 8 rfl) hz)) rfl<|?_; clear hs32
 rintro _ _ w37 ⟨rfl, hs37⟩
 refine gWk hs37 rfl<|gU<|gRn (oM 1 rfl<|oxt rfl<|oxt rfl<|.nl)<|gal ti_25 rfl fun b38 => gal ti_29 rfl fun b39 => gE (fun _ _ h_ => x_stb (i := 1) (vs := [(.slice none 0 0), (.slice none 0 0), .int .i64 0, .int .i64 0]) (cs' := [(.slice none 0 0), (.slice none 0 0), .int .i64 0, .int .i64 0]) h_ ti_25 rfl rfl rfl rfl rfl rfl rfl (allOne_cons ((Sh.nilAt (α := Ls Ins) h_.sh)).one (allOne_cons ((Sh.nilAt (α := Int) h_.sh)).one (allOne_cons rfl (allOne_cons rfl allOne_nil)))) (Nat.le_of_ble_eq_true rfl) rfl) rfl<|gsw 0 ti_29 rfl rfl rfl<|nK k36<|gK fun _ k42 => sK fun _ k43 => gNl (fun w h => (Sh.nilAt (α := Ls Ins) h)) fun (hl44 : ([]).length ≤ 140737488355328) => gRn (olw 3 ti_29 rfl rfl<|olw 0 ti_29 rfl rfl<|oV (r_neqS rfl rfl rfl (fun w => neq_fltG _ _ ⟨(checkG (pgOf code words locks regs)).code, (checkG (pgOf code words locks regs)).thread, (checkG (pgOf code words locks regs)).at_⟩ ⟨(checkG (pgOf code words locks regs)).code, (checkG (pgOf code words locks regs)).thread, (checkG (pgOf code words locks regs)).at_⟩ w) (fun w => neq_flt ⟨(checkG (pgOf code words locks regs)).code, (checkG (pgOf code words locks regs)).thread, (checkG (pgOf code words locks regs)).at_⟩ ⟨(checkG (pgOf code words locks regs)).code, (checkG (pgOf code words locks regs)).thread, (checkG (pgOf code words locks regs)).at_⟩ w)) rfl<|oM 1 rfl<|oG (decide_eq_false (fun h => h rfl)) (r_fieldB (r := 0) fl_25_0 rfl rfl rfl) rfl<|oG (decide_eq_false (fun h => h rfl)) (r_ldb (i := 2) ti_22 rfl rfl rfl rfl) rfl<|oG (decide_eq_false (fun h => h rfl)) (r_len (s := (⟨.slice none 0 0, []⟩ : Ls (Ls Ins))) (n := ([]).length) sl_22 rfl rfl (fun w h => (Sh.nilAt (α := Ls Ins) h)) rfl) rfl<|oG (decide_eq_false (fun h => h rfl)) (r_fieldB (r := 0) fl_25_0 rfl rfl rfl) rfl<|oG (decide_eq_false (fun h => h rfl)) (r_ldb (i := 1) ti_22 rfl rfl rfl rfl) rfl<|oG (decide_eq_false (fun h => h rfl)) (r_len (s := (⟨.slice none 0 0, []⟩ : Ls (Ls Ins))) (n := ([]).length) sl_22 rfl rfl (fun w h => (Sh.nilAt (α := Ls Ins) h)) rfl) rfl<|oG (decide_eq_false (fun h => h rfl)) (r_neqN (p := ([]).length) (q := ([]).length) rfl rfl rfl) rfl<|opF (decide_eq_false (fun h => h rfl)) rfl<|.nl)<|nK k43<|gF [1, 4, 5, 6, 71] rfl<|gcF rfl (decide_eq_false (by omega))<|gS<|hK k42<|gK fun _ k45 => sG (ofB fl_29_0 rfl<|olB 3 ti_27 rfl rfl<|oneI _ _ rfl<|.nl)<|gcT rfl (decide_eq_true hz)<|sG (oM 1 rfl<|.nl)<|gR<|uT<|fun a48 w48 h48 => ?_; clear hs37
 refine x_ret1 (fn := Try.f5) (t := 2) rfl h48 rfl ?_
 exact ⟨rfl, (h48.sh.sel [] rfl)⟩

theorem optLess_any (code : Ls (Ls Ins)) (words : Ls Int) (locks regs : Int) (W : World) (hcode : code.At W) (hwords : words.At W) : Rets Try.prog 5 [.agg #[code.v, words.v, .int .i64 locks, .int .i64 regs]] W (fun v w' => v = .bool true ∧ Sh0 W w' []) := by
  cases hv : vastG (code.l.map (·.l)) words.l with
  | true => exact optLess_v code words locks regs W hcode hwords hv
  | false =>
    by_cases hok : OkPg (pgOf code words locks regs)
    · exact optLess_k code words locks regs W hcode hwords hv hok
    · exact optLess_b code words locks regs W hcode hwords hv (fun h => hok (checkG_code_pos.1 h))
end Go.Proofs.Ytmgikmjmdppfmaa
