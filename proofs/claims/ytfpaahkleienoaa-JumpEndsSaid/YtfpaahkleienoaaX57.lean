/-
  Contracts of functions of this program and of the references, each walked once.
-/
import Derived.Test.YtfpaahkleienoaaL3
import Derived.Test.YtfpaahkleienoaaX4
import Derived.Test.YtfpaahkleienoaaL4
import Derived.Test.YtfpaahkleienoaaX55
import Derived.Test.YtfpaahkleienoaaX38
import Derived.Test.YtfpaahkleienoaaU4
section
namespace Go.Proofs.Ytfpaahkleienoaa
open Go.RowKit
set_option linter.unusedSimpArgs false
set_option linter.unusedVariables false

/-- Over jumps from one place to another. -/
inductive Flow (c : List Ins) : Nat → Nat → Prop
  | refl (i : Nat) : Flow c i i
  | step {i j : Nat} : i < c.length → (nth c i).op = 14 → Flow c (nth c i).a.toNat j → Flow c i j
theorem Flow.trans {c : List Ins} {i j k : Nat} (h : Flow c i j) (h' : Flow c j k) : Flow c i k := by
  induction h with
  | refl => exact h'
  | step h1 h2 _ ih => exact .step h1 h2 (ih h')
theorem Flow.le {c : List Ins} (hj : JumpsOK c) {i j : Nat} (h : Flow c i j) (hi : i ≤ c.length) : j ≤ c.length := by
  induction h with
  | refl => exact hi
  | step h1 h2 _ ih => exact ih (by have := (hj _ h1).1 h2; omega)

section
variable (c : List Ins)
def pS (i : Nat) : Nat := placeL (becL becS (toL c)) i
def goneS (i : Nat) : Prop := (nth c i).op = 14 ∧ (endF c c.length (nth c i).a.toNat) = i + 1
end
section
variable {c : List Ins}
theorem toL_len : (toL c).length = c.length := by simp [toL]
theorem toL_at {i : Nat} (h : i < c.length) : nth (toL c) i = straightIns c (nth c i) := nth_map' _ _ _ h
theorem pS_len : (straightL c).length = pS c c.length := by
  unfold straightL
  rw [moved_len, toL_len]; rfl
theorem pS_gone {i : Nat} (h : i < c.length) (hg : goneS c i) : pS c (i + 1) = pS c i := by
  unfold pS
  rw [place_succ _ _ (by rw [toL_len]; exact h)]
  have : becS i (nth (toL c) i) = [] := by
    unfold becS
    rw [if_pos]
    rw [toL_at h]
    unfold straightIns
    rw [if_pos hg.1]
    exact ⟨hg.1, by show ((endF c c.length (nth c i).a.toNat : Nat) : Int) = _; rw [hg.2]⟩
  rw [this]; rfl
theorem becS_kept {i : Nat} (h : i < c.length) (hg : ¬ goneS c i) : becS i (nth (toL c) i) = [straightIns c (nth c i)] := by
  unfold becS
  rw [if_neg, toL_at h]
  rw [toL_at h]
  rintro ⟨h1, h2⟩
  rw [straightIns_op] at h1
  apply hg
  refine ⟨h1, ?_⟩
  unfold straightIns at h2
  rw [if_pos h1] at h2
  have h3 : ((endF c c.length (nth c i).a.toNat : Nat) : Int) = ((i + 1 : Nat) : Int) := h2
  omega
theorem pS_kept {i : Nat} (h : i < c.length) (hg : ¬ goneS c i) : pS c (i + 1) = pS c i + 1 ∧ pS c i < (straightL c).length ∧ nth (straightL c) (pS c i) = fixMv (becL becS (toL c)) (toL c) i (straightIns c (nth c i)) := by
  have hb := becS_kept h hg
  have h1 := place_succ becS (toL c) (i := i) (by rw [toL_len]; exact h)
  rw [hb] at h1
  have h2 := moved_at becS (toL c) (i := i) (k := 0) (by rw [toL_len]; exact h) (by rw [hb]; simp)
  rw [hb] at h2
  exact ⟨h1, h2.2, h2.1⟩
end

section
variable {p q : Pg} {m : Int}
theorem OkPg.jumps (hok : OkPg p) {t : Nat} (ht : t < p.code.length) : JumpsOK (nth p.code t) := fun i hi => (hok.insR ht hi).2
/-! ### From the new to the old -/
end
end Go.Proofs.Ytfpaahkleienoaa
end
section
namespace Go.Proofs.Ytfpaahkleienoaa
open Go.RowKit
set_option linter.unusedSimpArgs false
set_option linter.unusedVariables false

theorem pS_small {c : List Ins} : ∀ i, i ≤ c.length → pS c i ≤ i
  | 0, _ => by simp [pS, placeL]
  | i + 1, h => by
    have := pS_small (c := c) i (by omega)
    by_cases hg : goneS c i
    · rw [pS_gone (by omega) hg]; omega
    · rw [(pS_kept (c := c) (by omega) hg).1]; omega
end Go.Proofs.Ytfpaahkleienoaa
end
namespace Go.Proofs.Ytfpaahkleienoaa
open Go.RowKit
set_option linter.unusedSimpArgs false
set_option linter.unusedVariables false


theorem neq_ins (f g : Ins) (w : World) : (binOp .neq 32 f.val g.val).run Try.prog w = .ok (.bool (decide (f ≠ g))) w := by
  obtain ⟨a, b, c, d⟩ := f
  obtain ⟨a', b', c', d'⟩ := g
  simp [binOp, Ins.val, Op.equal, Op.maxDepth, go_sem]
  by_cases h1 : a = a' <;> by_cases h2 : b = b' <;> by_cases h3 : c = c' <;> by_cases h4 : d = d' <;> simp [h1, h2, h3, h4]
theorem neq_insG (x y : Operand) (f g : Ins) (w : World) : (eqGuard .neq 32 x y f.val g.val).run Try.prog w = .ok () w := by
  simp [eqGuard, Ins.val]
  try kernel_rfl

def round3 : List Ins := [⟨14, 2, 0, 0⟩, ⟨16, 0, 0, 0⟩, ⟨14, 1, 0, 0⟩]
theorem round_ok (v v' : Value) : OkPg (pgOf (⟨v, [⟨v', round3⟩]⟩ : Ls (Ls Ins)) (⟨.slice none 0 0, []⟩ : Ls Int) 0 1) := by
  have e : pgOf (⟨v, [⟨v', round3⟩]⟩ : Ls (Ls Ins)) (⟨.slice none 0 0, []⟩ : Ls Int) 0 1 = ⟨[round3], [], 0, 1⟩ := rfl
  rw [e]
  exact checkG_code_pos.1 (by decide +kernel)
theorem round_len : (straightL round3).length = 2 := by decide +kernel
theorem round_0 : nth (straightL round3) 0 = ⟨16, 0, 0, 0⟩ := by decide +kernel
theorem round_st {v v' : Value} {c : Ls (Ls Ins)} (h : c.l.map (·.l) = ((⟨v, [⟨v', round3⟩]⟩ : Ls (Ls Ins)).l.map (·.l)).map straightL) : c.l.length = 1 ∧ (nth c.l 0).l.length = 2 ∧ nth (nth c.l 0).l 0 = ⟨16, 0, 0, 0⟩ := by
  have h1 : c.l.length = 1 := by have := congrArg List.length h; simpa using this
  have h2 : (nth c.l 0).l = straightL round3 := by rw [← nth_map' (fun x : Ls Ins => x.l) c.l 0 (by omega), h]; rfl
  rw [h2]
  exact ⟨h1, round_len, round_0⟩
theorem straight_le (c : List Ins) : (straightL c).length ≤ c.length := by
  rw [pS_len]
  exact pS_small _ (Nat.le_refl _)
theorem len_of {f : List Ins → List Ins} {c code : Ls (Ls Ins)} (h : c.l.map (·.l) = (code.l.map (·.l)).map f) : c.l.length = code.l.length ∧ ∀ t, t < code.l.length → (nth c.l t).l = f (nth code.l t).l := by
  have h1 : c.l.length = code.l.length := by have := congrArg List.length h; simpa using this
  refine ⟨h1, fun t ht => ?_⟩
  rw [← nth_map' (fun x : Ls Ins => x.l) c.l t (by omega), h, nth_map' _ _ _ (by simpa using ht), nth_map' _ _ _ ht]
theorem jumpEnds_len {c r code : Ls (Ls Ins)} (h : c.l.map (·.l) = (code.l.map (·.l)).map straightL) (h2 : r.l.map (·.l) = (code.l.map (·.l)).map copyL) : c.l.length = code.l.length ∧ r.l.length = code.l.length ∧ ∀ t, t < code.l.length → (nth c.l t).l.length ≤ (nth code.l t).l.length ∧ (nth r.l t).l.length = (nth code.l t).l.length := by
  obtain ⟨a1, a2⟩ := len_of h
  obtain ⟨b1, b2⟩ := len_of h2
  exact ⟨a1, b1, fun t ht => ⟨by rw [a2 t ht]; exact straight_le _, by rw [b2 t ht, copyL_len]⟩⟩

set_option maxRecDepth 100000 in
set_option maxHeartbeats 4000000 in
theorem jumpEnds_v (code : Ls (Ls Ins)) (words : Ls Int) (locks regs : Int) (W : World) (hcode : code.At W) (hwords : words.At W) (hv : vastG (code.l.map (·.l)) words.l = true) :
    Rets Try.prog 3 [.agg #[code.v, words.v, .int .i64 locks, .int .i64 regs]] W (fun v w' => v = .bool true ∧ Sh0 W w' []) := by
 refine x_enter (N := 111) Try.func3 rfl Try.ntmps3 (Nat.le_of_ble_eq_true rfl) fun a1 hf1 => ?_
 have h1 : St 111 (fun _ => False) W a1 W [(0, .agg #[code.v, words.v, .int .i64 locks, .int .i64 regs])] [.at_ code, .at_ words] := ⟨hf1.sub ⟨rfl, trivial⟩, Sh0.ext2 hcode hwords⟩
 clear hf1
 refine wp_seq_k fun K2 hK2 => wp_region_lit ?_
 refine wl_ex (x_box (cs := [code.v, words.v, .int .i64 locks, .int .i64 regs]) h1 rfl rfl rfl rfl rfl) (wanted_none rfl _) ?_
 rintro a3 w3 ⟨b3, h3⟩; clear h1
 refine wms 1 h3 rfl fun a4 h4 => ?_; clear h3
 refine wpList_nil (hK2 _ _ ?_)
 refine wp_seq_k fun K5 hK5 => wp_region_lit ?_
 refine wv h4 (r_build (cs := [.int .i64 14, .int .i64 2, .int .i64 0, .int .i64 0]) rfl rfl (by kernel_rfl)) rfl rfl fun a6 h6 => ?_; clear h4
 refine wv h6 (r_build (cs := [.int .i64 16, .int .i64 0, .int .i64 0, .int .i64 0]) rfl rfl (by kernel_rfl)) rfl rfl fun a7 h7 => ?_; clear h6
 refine wv h7 (r_build (cs := [.int .i64 14, .int .i64 1, .int .i64 0, .int .i64 0]) rfl rfl (by kernel_rfl)) rfl rfl fun a8 h8 => ?_; clear h7
 refine wl_ex (x_lit (n := 3) (cs := [.int .i64 14, .int .i64 2, .int .i64 0, .int .i64 0, .int .i64 16, .int .i64 0, .int .i64 0, .int .i64 0, .int .i64 14, .int .i64 1, .int .i64 0, .int .i64 0]) ([(⟨14, 2, 0, 0⟩ : Ins), (⟨16, 0, 0, 0⟩ : Ins), (⟨14, 1, 0, 0⟩ : Ins)] : List Ins) h8 sl_33 ti_32 rfl rfl rfl (by decide) rfl (by kernel_rfl) rfl (fun q hq w h => Flat.inner _ _) (fun q hq b hb => (Flat.on _ _ hb).elim) rfl rfl) (wanted_none rfl _) ?_
 rintro a9 w9 ⟨v9, h9⟩; clear h8
 refine wl_ex (x_litD (E := 0) (x := (⟨v9, [(⟨14, 2, 0, 0⟩ : Ins), (⟨16, 0, 0, 0⟩ : Ins), (⟨14, 1, 0, 0⟩ : Ins)]⟩ : Ls Ins)) h9 sl_22 ti_33 rfl rfl rfl ((h9.sh.own 0 rfl)) (fun b hb => (own_on (h9.sh.ok _ (List.mem_of_getElem? (i := 0) rfl)) hb).elim (fun h => h) (fun h => Flat.noRd h)) (fun b hb => Flat.noRd hb) rfl rfl) (wanted_none rfl _) ?_
 rintro a10 w10 ⟨v10, h10⟩; clear h9
 refine wv h10 (r_build (cs := [v10, (.slice none 0 0), .int .i64 0, .int .i64 1]) rfl rfl (by obtain ⟨A11, n11, c11, (e11 : v10 = _)⟩ := ((h10.sh.deep 0 rfl)).form; rw [e11]; kernel_rfl)) rfl rfl fun a12 h12 => ?_; clear h10
 refine wl_ex (x_call h12 bd_15 rfl rfl rfl rfl rfl (jStraight_c (⟨v10, [⟨v9, round3⟩]⟩ : Ls (Ls Ins)) (⟨.slice none 0 0, []⟩ : Ls Int) 0 1 _ (h12.sh.deep 0 rfl) (Sh.nilAt (α := Int) h12.sh) (round_ok _ _))) (wanted_none rfl _) ?_
 rintro a13 w13 ⟨_, ⟨c13, u13, rfl, hq13, hu13, hs13⟩, hf13⟩
 obtain ⟨hr1, hr2, hr3⟩ := round_st (v := v10) (v' := v9) hq13
 have h13 := (⟨hf13, h12.sh.call hs13 (by intro A hA b hb; first | (simp at hA; done) | (simp at hA; subst hA; first | exact Flat.noRd hb | exact (hb : False).elim) | (simp at hA; rcases hA with rfl | rfl <;> first | exact Flat.noRd hb | exact (hb : False).elim))⟩ : St 111 (fun _ => False) W a13 w13 _ _)
 clear hf13 hs13
 clear h12
 refine wms 1 h13 rfl fun a14 h14 => ?_; clear h13
 refine wv h14 (r_extract rfl rfl rfl) rfl rfl fun a15 h15 => ?_; clear h14
 refine wv h15 (r_extract rfl rfl rfl) rfl rfl fun a16 h16 => ?_; clear h15
 refine wl_ex (x_alloc h16 ti_25 rfl rfl rfl) (wanted_none rfl _) ?_
 rintro a17 w17 ⟨b17, h17⟩; clear h16
 refine wl_ex (x_alloc h17 ti_28 rfl rfl rfl) (wanted_none rfl _) ?_
 rintro a18 w18 ⟨b18, h18⟩; clear h17
 refine wl_ex (x_stb (i := 1) (vs := [c13.v, u13.v, .int .i64 0, .int .i64 1]) (cs' := [c13.v, u13.v, .int .i64 0, .int .i64 1]) h18 ti_25 rfl rfl rfl rfl rfl rfl rfl (allOne_cons ((h18.sh.deep 2 rfl)).one (allOne_cons ((h18.sh.own 3 rfl)).one (allOne_cons rfl (allOne_cons rfl allOne_nil)))) (Nat.le_of_ble_eq_true rfl) rfl) (wanted_none rfl _) ?_
 rintro a19 w19 h19
 clear h18
 refine wl_ex (x_stb (i := 0) (vs := [.int .i64 0, .int .i64 0, .int .i64 0]) (cs' := [.int .i64 0, .int .i64 0, .int .i64 0]) h19 ti_28 rfl rfl rfl rfl rfl rfl rfl (allOne_cons rfl (allOne_cons rfl (allOne_cons rfl allOne_nil))) (Nat.le_of_ble_eq_true rfl) rfl) (wanted_none rfl _) ?_
 rintro a20 w20 h20
 clear h19
 refine wpList_nil (hK5 _ _ ?_)
 refine wp_seq_k fun K21 hK21 => ?_
 refine wp_seq_k fun K22 hK22 => wp_region_lit ?_
 refine wv h20 (r_fieldB (r := 0) fl_28_0 rfl rfl rfl) rfl rfl fun a23 h23 => ?_; clear h20
 refine wv h23 (r_ldb (i := 0) ti_26 rfl rfl rfl rfl) rfl rfl fun a24 h24 => ?_; clear h23
 refine wv h24 (r_neqN (p := 0) (q := 0) rfl rfl rfl) rfl rfl fun a25 h25 => ?_; clear h24
 refine wms 1 h25 rfl fun a26 h26 => ?_; clear h25
 refine wl_val h26 (r_fieldB (r := 0) fl_25_0 rfl rfl rfl) (wanted_yes h26.fr rfl rfl rfl rfl (by decide)) rfl rfl fun a27 h27 => ?_; clear h26
 refine wl_val h27 (r_ldb (i := 1) ti_22 rfl rfl rfl rfl) (wanted_yes h27.fr rfl rfl rfl rfl (by decide)) rfl rfl fun a28 h28 => ?_; clear h27
 have hl29 : c13.l.length ≤ 140737488355328 := (h28.sh.deep 2 rfl).len
 refine wl_val h28 (r_len (s := c13) (n := c13.l.length) sl_22 rfl rfl (fun w h => (h.deep 2 rfl)) rfl) (wanted_yes h28.fr rfl rfl rfl rfl (by decide)) rfl rfl fun a30 h30 => ?_; clear h28
 refine wl_val h30 (r_neqN (p := c13.l.length) (q := 1) rfl rfl rfl) (wanted_yes h30.fr rfl rfl rfl rfl (by decide)) rfl rfl fun a31 h31 => ?_; clear h30
 refine wv h31 (r_pickF rfl rfl (by decide) rfl) rfl rfl fun a32 h32 => ?_; clear h31
 refine wms 1 h32 rfl fun a33 h33 => ?_; clear h32
 refine wl_val h33 (r_fieldB (r := 0) fl_25_0 rfl rfl rfl) (wanted_yes h33.fr rfl rfl rfl rfl (decide_eq_false (fun h => h hr1))) rfl rfl fun a34 h34 => ?_; clear h33
 refine wl_val h34 (r_ldb (i := 1) ti_22 rfl rfl rfl rfl) (wanted_yes h34.fr rfl rfl rfl rfl (decide_eq_false (fun h => h hr1))) rfl rfl fun a35 h35 => ?_; clear h34
 refine wl_val h35 (r_ixN (s := c13) (q := 0) sl_22 ti_33 rfl rfl rfl (fun w h => (h.deep 2 rfl)) (show 0 < c13.l.length from (by omega))) (wanted_yes h35.fr rfl rfl rfl rfl (decide_eq_false (fun h => h hr1))) rfl rfl fun a36 h36 => ?_; clear h35
 refine wl_val h36 (r_lde (s := c13) (i := 0) (v := (nth c13.l 0).v) ti_33 rfl rfl rfl (fun w h => (h.deep 2 rfl)) (show 0 < c13.l.length from (by omega)) (Nat.le_of_ble_eq_true rfl) rfl) (wanted_yes h36.fr rfl rfl rfl rfl (decide_eq_false (fun h => h hr1))) rfl rfl fun a37 h37 => ?_; clear h36
 have hl38 : ((nth c13.l 0).l).length ≤ 140737488355328 := ((h37.sh.deep 2 rfl).nth 0 (show 0 < c13.l.length from (by omega))).len
 refine wl_val h37 (r_len (s := nth c13.l 0) (n := ((nth c13.l 0).l).length) sl_33 rfl rfl (fun w h => ((h.deep 2 rfl).nth 0 (show 0 < c13.l.length from (by omega)))) rfl) (wanted_yes h37.fr rfl rfl rfl rfl (decide_eq_false (fun h => h hr1))) rfl rfl fun a39 h39 => ?_; clear h37
 refine wl_val h39 (r_neqN (p := ((nth c13.l 0).l).length) (q := 2) rfl rfl rfl) (wanted_yes h39.fr rfl rfl rfl rfl (decide_eq_false (fun h => h hr1))) rfl rfl fun a40 h40 => ?_; clear h39
 refine wv h40 (r_pickF rfl rfl (decide_eq_false (fun h => h hr1)) rfl) rfl rfl fun a41 h41 => ?_; clear h40
 refine wms 1 h41 rfl fun a42 h42 => ?_; clear h41
 refine wl_val h42 (r_fieldB (r := 0) fl_25_0 rfl rfl rfl) (wanted_yes h42.fr rfl rfl rfl rfl (decide_eq_false (fun h => h hr2))) rfl rfl fun a43 h43 => ?_; clear h42
 refine wl_val h43 (r_ldb (i := 1) ti_22 rfl rfl rfl rfl) (wanted_yes h43.fr rfl rfl rfl rfl (decide_eq_false (fun h => h hr2))) rfl rfl fun a44 h44 => ?_; clear h43
 refine wl_val h44 (r_ixN (s := c13) (q := 0) sl_22 ti_33 rfl rfl rfl (fun w h => (h.deep 2 rfl)) (show 0 < c13.l.length from (by omega))) (wanted_yes h44.fr rfl rfl rfl rfl (decide_eq_false (fun h => h hr2))) rfl rfl fun a45 h45 => ?_; clear h44
 refine wl_val h45 (r_lde (s := c13) (i := 0) (v := (nth c13.l 0).v) ti_33 rfl rfl rfl (fun w h => (h.deep 2 rfl)) (show 0 < c13.l.length from (by omega)) (Nat.le_of_ble_eq_true rfl) rfl) (wanted_yes h45.fr rfl rfl rfl rfl (decide_eq_false (fun h => h hr2))) rfl rfl fun a46 h46 => ?_; clear h45
 refine wl_val h46 (r_ixN (s := nth c13.l 0) (q := 0) sl_33 ti_32 rfl rfl rfl (fun w h => ((h.deep 2 rfl).nth 0 (show 0 < c13.l.length from (by omega)))) (show 0 < ((nth c13.l 0).l).length from (by omega))) (wanted_yes h46.fr rfl rfl rfl rfl (decide_eq_false (fun h => h hr2))) rfl rfl fun a47 h47 => ?_; clear h46
 refine wl_val h47 (r_ldew (s := nth c13.l 0) (i := 0) (vs := [.int .i64 ((nth ((nth c13.l 0).l) 0).op), .int .i64 ((nth ((nth c13.l 0).l) 0).a), .int .i64 ((nth ((nth c13.l 0).l) 0).b), .int .i64 ((nth ((nth c13.l 0).l) 0).c)]) ti_32 rfl rfl rfl (fun w h => ((h.deep 2 rfl).nth 0 (show 0 < c13.l.length from (by omega)))) (show 0 < ((nth c13.l 0).l).length from (by omega)) (Nat.le_of_ble_eq_true rfl) rfl) (wanted_yes h47.fr rfl rfl rfl rfl (decide_eq_false (fun h => h hr2))) rfl rfl fun a48 h48 => ?_; clear h47
 refine wl_val h48 (r_build (cs := [.int .i64 16, .int .i64 0, .int .i64 0, .int .i64 0]) rfl rfl (by kernel_rfl)) (wanted_yes h48.fr rfl rfl rfl rfl (decide_eq_false (fun h => h hr2))) rfl rfl fun a49 h49 => ?_; clear h48
 refine wl_val h49 (r_neqS rfl rfl rfl (fun w => neq_insG _ _ (nth ((nth c13.l 0).l) 0) (⟨16, 0, 0, 0⟩ : Ins) w) (fun w => neq_ins (nth ((nth c13.l 0).l) 0) (⟨16, 0, 0, 0⟩ : Ins) w)) (wanted_yes h49.fr rfl rfl rfl rfl (decide_eq_false (fun h => h hr2))) rfl rfl fun a50 h50 => ?_; clear h49
 refine wv h50 (r_pickF rfl rfl (decide_eq_false (fun h => h hr2)) rfl) rfl rfl fun a51 h51 => ?_; clear h50
 refine wpList_nil (hK22 _ _ ?_)
 have h52 : St 111 (fun _ => False) W a51 w20 [(1, .pointer (some ⟨b3, 0, none⟩)), (3, .pointer (some ⟨b17, 0, none⟩)), (4, .pointer (some ⟨b18, 0, none⟩)), (44, .bool (decide ((nth ((nth c13.l 0).l) 0 : Ins) ≠ (⟨16, 0, 0, 0⟩ : Ins))))] [.blk b18 28 [.int .i64 0, .int .i64 0, .int .i64 0], .blk b17 25 [c13.v, u13.v, .int .i64 0, .int .i64 1], .deep 33 c13, .own 3 u13, .deep 33 (⟨v10, [(⟨v9, [(⟨14, 2, 0, 0⟩ : Ins), (⟨16, 0, 0, 0⟩ : Ins), (⟨14, 1, 0, 0⟩ : Ins)]⟩ : Ls Ins)]⟩ : Ls (Ls Ins)), .blk b3 25 [code.v, words.v, .int .i64 locks, .int .i64 regs], .at_ code, .at_ words] := h51.nrm ⟨rfl, rfl, rfl, rfl, trivial⟩ [0, 1, 2, 3, 4, 5, 6, 7] (by decide) ⟨rfl, rfl, rfl, rfl, rfl, rfl, rfl, rfl, trivial⟩
 clear h51
 refine x_condF h52 rfl (decide_eq_false (fun h => h hr3)) ?_
 refine wp_skip ?_
 refine hK21 _ _ ?_
 refine wp_seq_k fun K53 hK53 => ?_
 refine wp_seq_k fun K54 hK54 => wp_region_lit ?_
 refine wv h52 (r_ldbw (i := 5) (vs := [code.v, words.v, .int .i64 locks, .int .i64 regs]) ti_25 rfl rfl rfl rfl rfl) rfl rfl fun a55 h55 => ?_; clear h52
 refine wl_ex (x_call h55 bd_16 rfl rfl rfl rfl rfl (kvast_c code words locks regs _ (h55.sh.at 6 rfl) (h55.sh.at 7 rfl))) (wanted_none rfl _) ?_
 rintro a56 w56 ⟨_, ⟨rfl, hs56⟩, hf56⟩
 have h56 : St 111 (fun _ => False) W a56 w56 _ _ := ⟨hf56, h55.sh.call0 hs56⟩
 clear hf56 hs56
 clear h55
 refine wpList_nil (hK54 _ _ ?_)
 refine x_condT h56 rfl hv ?_
 refine wp_seq_k fun K57 hK57 => wp_region_lit ?_
 refine wms 1 h56 rfl fun a58 h58 => ?_; clear h56
 refine wpList_nil (hK57 _ _ ?_)
 refine wp_ret ?_
 try simp only [Exit.then, Exit.inBlock]
 refine x_ret1 (fn := Try.f3) (t := 2) rfl h58 rfl ?_
 exact ⟨rfl, (h58.sh.sel [] (by decide) trivial)⟩

set_option maxRecDepth 100000 in
set_option maxHeartbeats 4000000 in
theorem jumpEnds_k (code : Ls (Ls Ins)) (words : Ls Int) (locks regs : Int) (W : World) (hcode : code.At W) (hwords : words.At W) (hv : vastG (code.l.map (·.l)) words.l = false) (hok : OkPg (pgOf code words locks regs)) :
    Rets Try.prog 3 [.agg #[code.v, words.v, .int .i64 locks, .int .i64 regs]] W (fun v w' => v = .bool true ∧ Sh0 W w' []) := by
 have hz := checkG_ok hok
 obtain ⟨hl1, hl2, hl3, hl4', hl5, hl6, hl7⟩ := ok_len hok
 refine x_enter (N := 111) Try.func3 rfl Try.ntmps3 (Nat.le_of_ble_eq_true rfl) fun a1 hf1 => ?_
 have h1 : St 111 (fun _ => False) W a1 W [(0, .agg #[code.v, words.v, .int .i64 locks, .int .i64 regs])] [.at_ code, .at_ words] := ⟨hf1.sub ⟨rfl, trivial⟩, Sh0.ext2 hcode hwords⟩
 clear hf1
 refine wp_seq_k fun K2 hK2 => wp_region_lit ?_
 refine wl_ex (x_box (cs := [code.v, words.v, .int .i64 locks, .int .i64 regs]) h1 rfl rfl rfl rfl rfl) (wanted_none rfl _) ?_
 rintro a3 w3 ⟨b3, h3⟩; clear h1
 refine wms 1 h3 rfl fun a4 h4 => ?_; clear h3
 refine wpList_nil (hK2 _ _ ?_)
 refine wp_seq_k fun K5 hK5 => wp_region_lit ?_
 refine wv h4 (r_build (cs := [.int .i64 14, .int .i64 2, .int .i64 0, .int .i64 0]) rfl rfl (by kernel_rfl)) rfl rfl fun a6 h6 => ?_; clear h4
 refine wv h6 (r_build (cs := [.int .i64 16, .int .i64 0, .int .i64 0, .int .i64 0]) rfl rfl (by kernel_rfl)) rfl rfl fun a7 h7 => ?_; clear h6
 refine wv h7 (r_build (cs := [.int .i64 14, .int .i64 1, .int .i64 0, .int .i64 0]) rfl rfl (by kernel_rfl)) rfl rfl fun a8 h8 => ?_; clear h7
 refine wl_ex (x_lit (n := 3) (cs := [.int .i64 14, .int .i64 2, .int .i64 0, .int .i64 0, .int .i64 16, .int .i64 0, .int .i64 0, .int .i64 0, .int .i64 14, .int .i64 1, .int .i64 0, .int .i64 0]) ([(⟨14, 2, 0, 0⟩ : Ins), (⟨16, 0, 0, 0⟩ : Ins), (⟨14, 1, 0, 0⟩ : Ins)] : List Ins) h8 sl_33 ti_32 rfl rfl rfl (by decide) rfl (by kernel_rfl) rfl (fun q hq w h => Flat.inner _ _) (fun q hq b hb => (Flat.on _ _ hb).elim) rfl rfl) (wanted_none rfl _) ?_
 rintro a9 w9 ⟨v9, h9⟩; clear h8
 refine wl_ex (x_litD (E := 0) (x := (⟨v9, [(⟨14, 2, 0, 0⟩ : Ins), (⟨16, 0, 0, 0⟩ : Ins), (⟨14, 1, 0, 0⟩ : Ins)]⟩ : Ls Ins)) h9 sl_22 ti_33 rfl rfl rfl ((h9.sh.own 0 rfl)) (fun b hb => (own_on (h9.sh.ok _ (List.mem_of_getElem? (i := 0) rfl)) hb).elim (fun h => h) (fun h => Flat.noRd h)) (fun b hb => Flat.noRd hb) rfl rfl) (wanted_none rfl _) ?_
 rintro a10 w10 ⟨v10, h10⟩; clear h9
 refine wv h10 (r_build (cs := [v10, (.slice none 0 0), .int .i64 0, .int .i64 1]) rfl rfl (by obtain ⟨A11, n11, c11, (e11 : v10 = _)⟩ := ((h10.sh.deep 0 rfl)).form; rw [e11]; kernel_rfl)) rfl rfl fun a12 h12 => ?_; clear h10
 refine wl_ex (x_call h12 bd_15 rfl rfl rfl rfl rfl (jStraight_c (⟨v10, [⟨v9, round3⟩]⟩ : Ls (Ls Ins)) (⟨.slice none 0 0, []⟩ : Ls Int) 0 1 _ (h12.sh.deep 0 rfl) (Sh.nilAt (α := Int) h12.sh) (round_ok _ _))) (wanted_none rfl _) ?_
 rintro a13 w13 ⟨_, ⟨c13, u13, rfl, hq13, hu13, hs13⟩, hf13⟩
 obtain ⟨hr1, hr2, hr3⟩ := round_st (v := v10) (v' := v9) hq13
 have h13 := (⟨hf13, h12.sh.call hs13 (by intro A hA b hb; first | (simp at hA; done) | (simp at hA; subst hA; first | exact Flat.noRd hb | exact (hb : False).elim) | (simp at hA; rcases hA with rfl | rfl <;> first | exact Flat.noRd hb | exact (hb : False).elim))⟩ : St 111 (fun _ => False) W a13 w13 _ _)
 clear hf13 hs13
 clear h12
 refine wms 1 h13 rfl fun a14 h14 => ?_; clear h13
 refine wv h14 (r_extract rfl rfl rfl) rfl rfl fun a15 h15 => ?_; clear h14
 refine wv h15 (r_extract rfl rfl rfl) rfl rfl fun a16 h16 => ?_; clear h15
 refine wl_ex (x_alloc h16 ti_25 rfl rfl rfl) (wanted_none rfl _) ?_
 rintro a17 w17 ⟨b17, h17⟩; clear h16
 refine wl_ex (x_alloc h17 ti_28 rfl rfl rfl) (wanted_none rfl _) ?_
 rintro a18 w18 ⟨b18, h18⟩; clear h17
 refine wl_ex (x_stb (i := 1) (vs := [c13.v, u13.v, .int .i64 0, .int .i64 1]) (cs' := [c13.v, u13.v, .int .i64 0, .int .i64 1]) h18 ti_25 rfl rfl rfl rfl rfl rfl rfl (allOne_cons ((h18.sh.deep 2 rfl)).one (allOne_cons ((h18.sh.own 3 rfl)).one (allOne_cons rfl (allOne_cons rfl allOne_nil)))) (Nat.le_of_ble_eq_true rfl) rfl) (wanted_none rfl _) ?_
 rintro a19 w19 h19
 clear h18
 refine wl_ex (x_stb (i := 0) (vs := [.int .i64 0, .int .i64 0, .int .i64 0]) (cs' := [.int .i64 0, .int .i64 0, .int .i64 0]) h19 ti_28 rfl rfl rfl rfl rfl rfl rfl (allOne_cons rfl (allOne_cons rfl (allOne_cons rfl allOne_nil))) (Nat.le_of_ble_eq_true rfl) rfl) (wanted_none rfl _) ?_
 rintro a20 w20 h20
 clear h19
 refine wpList_nil (hK5 _ _ ?_)
 refine wp_seq_k fun K21 hK21 => ?_
 refine wp_seq_k fun K22 hK22 => wp_region_lit ?_
 refine wv h20 (r_fieldB (r := 0) fl_28_0 rfl rfl rfl) rfl rfl fun a23 h23 => ?_; clear h20
 refine wv h23 (r_ldb (i := 0) ti_26 rfl rfl rfl rfl) rfl rfl fun a24 h24 => ?_; clear h23
 refine wv h24 (r_neqN (p := 0) (q := 0) rfl rfl rfl) rfl rfl fun a25 h25 => ?_; clear h24
 refine wms 1 h25 rfl fun a26 h26 => ?_; clear h25
 refine wl_val h26 (r_fieldB (r := 0) fl_25_0 rfl rfl rfl) (wanted_yes h26.fr rfl rfl rfl rfl (by decide)) rfl rfl fun a27 h27 => ?_; clear h26
 refine wl_val h27 (r_ldb (i := 1) ti_22 rfl rfl rfl rfl) (wanted_yes h27.fr rfl rfl rfl rfl (by decide)) rfl rfl fun a28 h28 => ?_; clear h27
 have hl29 : c13.l.length ≤ 140737488355328 := (h28.sh.deep 2 rfl).len
 refine wl_val h28 (r_len (s := c13) (n := c13.l.length) sl_22 rfl rfl (fun w h => (h.deep 2 rfl)) rfl) (wanted_yes h28.fr rfl rfl rfl rfl (by decide)) rfl rfl fun a30 h30 => ?_; clear h28
 refine wl_val h30 (r_neqN (p := c13.l.length) (q := 1) rfl rfl rfl) (wanted_yes h30.fr rfl rfl rfl rfl (by decide)) rfl rfl fun a31 h31 => ?_; clear h30
 refine wv h31 (r_pickF rfl rfl (by decide) rfl) rfl rfl fun a32 h32 => ?_; clear h31
 refine wms 1 h32 rfl fun a33 h33 => ?_; clear h32
 refine wl_val h33 (r_fieldB (r := 0) fl_25_0 rfl rfl rfl) (wanted_yes h33.fr rfl rfl rfl rfl (decide_eq_false (fun h => h hr1))) rfl rfl fun a34 h34 => ?_; clear h33
 refine wl_val h34 (r_ldb (i := 1) ti_22 rfl rfl rfl rfl) (wanted_yes h34.fr rfl rfl rfl rfl (decide_eq_false (fun h => h hr1))) rfl rfl fun a35 h35 => ?_; clear h34
 refine wl_val h35 (r_ixN (s := c13) (q := 0) sl_22 ti_33 rfl rfl rfl (fun w h => (h.deep 2 rfl)) (show 0 < c13.l.length from (by omega))) (wanted_yes h35.fr rfl rfl rfl rfl (decide_eq_false (fun h => h hr1))) rfl rfl fun a36 h36 => ?_; clear h35
 refine wl_val h36 (r_lde (s := c13) (i := 0) (v := (nth c13.l 0).v) ti_33 rfl rfl rfl (fun w h => (h.deep 2 rfl)) (show 0 < c13.l.length from (by omega)) (Nat.le_of_ble_eq_true rfl) rfl) (wanted_yes h36.fr rfl rfl rfl rfl (decide_eq_false (fun h => h hr1))) rfl rfl fun a37 h37 => ?_; clear h36
 have hl38 : ((nth c13.l 0).l).length ≤ 140737488355328 := ((h37.sh.deep 2 rfl).nth 0 (show 0 < c13.l.length from (by omega))).len
 refine wl_val h37 (r_len (s := nth c13.l 0) (n := ((nth c13.l 0).l).length) sl_33 rfl rfl (fun w h => ((h.deep 2 rfl).nth 0 (show 0 < c13.l.length from (by omega)))) rfl) (wanted_yes h37.fr rfl rfl rfl rfl (decide_eq_false (fun h => h hr1))) rfl rfl fun a39 h39 => ?_; clear h37
 refine wl_val h39 (r_neqN (p := ((nth c13.l 0).l).length) (q := 2) rfl rfl rfl) (wanted_yes h39.fr rfl rfl rfl rfl (decide_eq_false (fun h => h hr1))) rfl rfl fun a40 h40 => ?_; clear h39
 refine wv h40 (r_pickF rfl rfl (decide_eq_false (fun h => h hr1)) rfl) rfl rfl fun a41 h41 => ?_; clear h40
 refine wms 1 h41 rfl fun a42 h42 => ?_; clear h41
 refine wl_val h42 (r_fieldB (r := 0) fl_25_0 rfl rfl rfl) (wanted_yes h42.fr rfl rfl rfl rfl (decide_eq_false (fun h => h hr2))) rfl rfl fun a43 h43 => ?_; clear h42
 refine wl_val h43 (r_ldb (i := 1) ti_22 rfl rfl rfl rfl) (wanted_yes h43.fr rfl rfl rfl rfl (decide_eq_false (fun h => h hr2))) rfl rfl fun a44 h44 => ?_; clear h43
 refine wl_val h44 (r_ixN (s := c13) (q := 0) sl_22 ti_33 rfl rfl rfl (fun w h => (h.deep 2 rfl)) (show 0 < c13.l.length from (by omega))) (wanted_yes h44.fr rfl rfl rfl rfl (decide_eq_false (fun h => h hr2))) rfl rfl fun a45 h45 => ?_; clear h44
 refine wl_val h45 (r_lde (s := c13) (i := 0) (v := (nth c13.l 0).v) ti_33 rfl rfl rfl (fun w h => (h.deep 2 rfl)) (show 0 < c13.l.length from (by omega)) (Nat.le_of_ble_eq_true rfl) rfl) (wanted_yes h45.fr rfl rfl rfl rfl (decide_eq_false (fun h => h hr2))) rfl rfl fun a46 h46 => ?_; clear h45
 refine wl_val h46 (r_ixN (s := nth c13.l 0) (q := 0) sl_33 ti_32 rfl rfl rfl (fun w h => ((h.deep 2 rfl).nth 0 (show 0 < c13.l.length from (by omega)))) (show 0 < ((nth c13.l 0).l).length from (by omega))) (wanted_yes h46.fr rfl rfl rfl rfl (decide_eq_false (fun h => h hr2))) rfl rfl fun a47 h47 => ?_; clear h46
 refine wl_val h47 (r_ldew (s := nth c13.l 0) (i := 0) (vs := [.int .i64 ((nth ((nth c13.l 0).l) 0).op), .int .i64 ((nth ((nth c13.l 0).l) 0).a), .int .i64 ((nth ((nth c13.l 0).l) 0).b), .int .i64 ((nth ((nth c13.l 0).l) 0).c)]) ti_32 rfl rfl rfl (fun w h => ((h.deep 2 rfl).nth 0 (show 0 < c13.l.length from (by omega)))) (show 0 < ((nth c13.l 0).l).length from (by omega)) (Nat.le_of_ble_eq_true rfl) rfl) (wanted_yes h47.fr rfl rfl rfl rfl (decide_eq_false (fun h => h hr2))) rfl rfl fun a48 h48 => ?_; clear h47
 refine wl_val h48 (r_build (cs := [.int .i64 16, .int .i64 0, .int .i64 0, .int .i64 0]) rfl rfl (by kernel_rfl)) (wanted_yes h48.fr rfl rfl rfl rfl (decide_eq_false (fun h => h hr2))) rfl rfl fun a49 h49 => ?_; clear h48
 refine wl_val h49 (r_neqS rfl rfl rfl (fun w => neq_insG _ _ (nth ((nth c13.l 0).l) 0) (⟨16, 0, 0, 0⟩ : Ins) w) (fun w => neq_ins (nth ((nth c13.l 0).l) 0) (⟨16, 0, 0, 0⟩ : Ins) w)) (wanted_yes h49.fr rfl rfl rfl rfl (decide_eq_false (fun h => h hr2))) rfl rfl fun a50 h50 => ?_; clear h49
 refine wv h50 (r_pickF rfl rfl (decide_eq_false (fun h => h hr2)) rfl) rfl rfl fun a51 h51 => ?_; clear h50
 refine wpList_nil (hK22 _ _ ?_)
 have h52 : St 111 (fun _ => False) W a51 w20 [(1, .pointer (some ⟨b3, 0, none⟩)), (3, .pointer (some ⟨b17, 0, none⟩)), (4, .pointer (some ⟨b18, 0, none⟩)), (44, .bool (decide ((nth ((nth c13.l 0).l) 0 : Ins) ≠ (⟨16, 0, 0, 0⟩ : Ins))))] [.blk b18 28 [.int .i64 0, .int .i64 0, .int .i64 0], .blk b17 25 [c13.v, u13.v, .int .i64 0, .int .i64 1], .deep 33 c13, .own 3 u13, .deep 33 (⟨v10, [(⟨v9, [(⟨14, 2, 0, 0⟩ : Ins), (⟨16, 0, 0, 0⟩ : Ins), (⟨14, 1, 0, 0⟩ : Ins)]⟩ : Ls Ins)]⟩ : Ls (Ls Ins)), .blk b3 25 [code.v, words.v, .int .i64 locks, .int .i64 regs], .at_ code, .at_ words] := h51.nrm ⟨rfl, rfl, rfl, rfl, trivial⟩ [0, 1, 2, 3, 4, 5, 6, 7] (by decide) ⟨rfl, rfl, rfl, rfl, rfl, rfl, rfl, rfl, trivial⟩
 clear h51
 refine x_condF h52 rfl (decide_eq_false (fun h => h hr3)) ?_
 refine wp_skip ?_
 refine hK21 _ _ ?_
 refine wp_seq_k fun K53 hK53 => ?_
 refine wp_seq_k fun K54 hK54 => wp_region_lit ?_
 refine wv h52 (r_ldbw (i := 5) (vs := [code.v, words.v, .int .i64 locks, .int .i64 regs]) ti_25 rfl rfl rfl rfl rfl) rfl rfl fun a55 h55 => ?_; clear h52
 refine wl_ex (x_call h55 bd_16 rfl rfl rfl rfl rfl (kvast_c code words locks regs _ (h55.sh.at 6 rfl) (h55.sh.at 7 rfl))) (wanted_none rfl _) ?_
 rintro a56 w56 ⟨_, ⟨rfl, hs56⟩, hf56⟩
 have h56 : St 111 (fun _ => False) W a56 w56 _ _ := ⟨hf56, h55.sh.call0 hs56⟩
 clear hf56 hs56
 clear h55
 refine wpList_nil (hK54 _ _ ?_)
 refine x_condF h56 rfl hv ?_
 refine wp_skip ?_
 refine hK53 _ _ ?_
 refine wp_seq_k fun K57 hK57 => wp_region_lit ?_
 refine wv h56 (r_ldbw (i := 5) (vs := [code.v, words.v, .int .i64 locks, .int .i64 regs]) ti_25 rfl rfl rfl rfl rfl) rfl rfl fun a58 h58 => ?_; clear h56
 refine wl_ex (x_call h58 bd_15 rfl rfl rfl rfl rfl (jStraight_c code words locks regs _ (h58.sh.at 6 rfl) (h58.sh.at 7 rfl) hok)) (wanted_none rfl _) ?_
 rintro a59 w59 ⟨_, ⟨c59, u59, rfl, hq59, hu59, hs59⟩, hf59⟩
 have h59 := (⟨hf59, h58.sh.call hs59 (by intro A hA b hb; first | (simp at hA; done) | (simp at hA; subst hA; first | exact Flat.noRd hb | exact (hb : False).elim) | (simp at hA; rcases hA with rfl | rfl <;> first | exact Flat.noRd hb | exact (hb : False).elim))⟩ : St 111 (fun _ => False) W a59 w59 _ _)
 clear hf59 hs59
 clear h58
 refine wms 1 h59 rfl fun a60 h60 => ?_; clear h59
 refine wv h60 (r_extract rfl rfl rfl) rfl rfl fun a61 h61 => ?_; clear h60
 refine wv h61 (r_extract rfl rfl rfl) rfl rfl fun a62 h62 => ?_; clear h61
 refine wl_ex (x_stb (i := 3) (vs := [c59.v, u59.v, .int .i64 locks, .int .i64 regs]) (cs' := [c59.v, u59.v, .int .i64 locks, .int .i64 regs]) h62 ti_25 rfl rfl rfl rfl rfl rfl rfl (allOne_cons ((h62.sh.deep 0 rfl)).one (allOne_cons ((h62.sh.own 1 rfl)).one (allOne_cons rfl (allOne_cons rfl allOne_nil)))) (Nat.le_of_ble_eq_true rfl) rfl) (wanted_none rfl _) ?_
 rintro a63 w63 h63
 clear h62
 refine wl_ex (x_stb (i := 2) (vs := [.int .i64 0, .int .i64 0, .int .i64 0]) (cs' := [.int .i64 0, .int .i64 0, .int .i64 0]) h63 ti_28 rfl rfl rfl rfl rfl rfl rfl (allOne_cons rfl (allOne_cons rfl (allOne_cons rfl allOne_nil))) (Nat.le_of_ble_eq_true rfl) rfl) (wanted_none rfl _) ?_
 rintro a64 w64 h64
 clear h63
 refine wpList_nil (hK57 _ _ ?_)
 refine wp_seq_k fun K65 hK65 => wp_region_lit ?_
 refine wv h64 (r_ldbw (i := 7) (vs := [code.v, words.v, .int .i64 locks, .int .i64 regs]) ti_25 rfl rfl rfl rfl rfl) rfl rfl fun a66 h66 => ?_; clear h64
 refine wl_ex (x_call h66 bd_17 rfl rfl rfl rfl rfl (copyMade_c code words locks regs _ (h66.sh.at 8 rfl) (h66.sh.at 9 rfl) hok)) (wanted_none rfl _) ?_
 rintro a67 w67 ⟨_, ⟨c67, u67, rfl, hq67, hu67, hs67⟩, hf67⟩
 have h67 := (⟨hf67, h66.sh.call hs67 (by intro A hA b hb; first | (simp at hA; done) | (simp at hA; subst hA; first | exact Flat.noRd hb | exact (hb : False).elim) | (simp at hA; rcases hA with rfl | rfl <;> first | exact Flat.noRd hb | exact (hb : False).elim))⟩ : St 111 (fun _ => False) W a67 w67 _ _)
 clear hf67 hs67
 obtain ⟨hl8, hl9, hlt9⟩ := jumpEnds_len hq59 hq67
 clear h66
 refine wms 1 h67 rfl fun a68 h68 => ?_; clear h67
 refine wv h68 (r_extract rfl rfl rfl) rfl rfl fun a69 h69 => ?_; clear h68
 refine wv h69 (r_extract rfl rfl rfl) rfl rfl fun a70 h70 => ?_; clear h69
 refine wl_ex (x_alloc h70 ti_25 rfl rfl rfl) (wanted_none rfl _) ?_
 rintro a71 w71 ⟨b71, h71⟩; clear h70
 refine wl_ex (x_alloc h71 ti_28 rfl rfl rfl) (wanted_none rfl _) ?_
 rintro a72 w72 ⟨b72, h72⟩; clear h71
 refine wl_ex (x_stb (i := 1) (vs := [c67.v, u67.v, .int .i64 locks, .int .i64 regs]) (cs' := [c67.v, u67.v, .int .i64 locks, .int .i64 regs]) h72 ti_25 rfl rfl rfl rfl rfl rfl rfl (allOne_cons ((h72.sh.deep 2 rfl)).one (allOne_cons ((h72.sh.own 3 rfl)).one (allOne_cons rfl (allOne_cons rfl allOne_nil)))) (Nat.le_of_ble_eq_true rfl) rfl) (wanted_none rfl _) ?_
 rintro a73 w73 h73
 clear h72
 refine wl_ex (x_stb (i := 0) (vs := [.int .i64 0, .int .i64 0, .int .i64 0]) (cs' := [.int .i64 0, .int .i64 0, .int .i64 0]) h73 ti_28 rfl rfl rfl rfl rfl rfl rfl (allOne_cons rfl (allOne_cons rfl (allOne_cons rfl allOne_nil))) (Nat.le_of_ble_eq_true rfl) rfl) (wanted_none rfl _) ?_
 rintro a74 w74 h74
 clear h73
 refine wpList_nil (hK65 _ _ ?_)
 refine wp_seq_k fun K75 hK75 => ?_
 refine wp_seq_k fun K76 hK76 => wp_region_lit ?_
 refine wv h74 (r_ldbw (i := 6) (vs := [.int .i64 0, .int .i64 0, .int .i64 0]) ti_28 rfl rfl rfl rfl rfl) rfl rfl fun a77 h77 => ?_; clear h74
 refine wv h77 (r_ldbw (i := 0) (vs := [.int .i64 0, .int .i64 0, .int .i64 0]) ti_28 rfl rfl rfl rfl rfl) rfl rfl fun a78 h78 => ?_; clear h77
 refine wv h78 (r_neqS rfl rfl rfl (fun w => neq_fltG _ _ ⟨0, 0, 0⟩ ⟨0, 0, 0⟩ w) (fun w => neq_flt ⟨0, 0, 0⟩ ⟨0, 0, 0⟩ w)) rfl rfl fun a79 h79 => ?_; clear h78
 refine wms 1 h79 rfl fun a80 h80 => ?_; clear h79
 refine wl_val h80 (r_fieldB (r := 0) fl_25_0 rfl rfl rfl) (wanted_yes h80.fr rfl rfl rfl rfl (decide_eq_false (fun h => h rfl))) rfl rfl fun a81 h81 => ?_; clear h80
 refine wl_val h81 (r_ldb (i := 7) ti_22 rfl rfl rfl rfl) (wanted_yes h81.fr rfl rfl rfl rfl (decide_eq_false (fun h => h rfl))) rfl rfl fun a82 h82 => ?_; clear h81
 have hl83 : c59.l.length ≤ 140737488355328 := (h82.sh.deep 4 rfl).len
 refine wl_val h82 (r_len (s := c59) (n := c59.l.length) sl_22 rfl rfl (fun w h => (h.deep 4 rfl)) rfl) (wanted_yes h82.fr rfl rfl rfl rfl (decide_eq_false (fun h => h rfl))) rfl rfl fun a84 h84 => ?_; clear h82
 refine wl_val h84 (r_fieldB (r := 0) fl_25_0 rfl rfl rfl) (wanted_yes h84.fr rfl rfl rfl rfl (decide_eq_false (fun h => h rfl))) rfl rfl fun a85 h85 => ?_; clear h84
 refine wl_val h85 (r_ldb (i := 1) ti_22 rfl rfl rfl rfl) (wanted_yes h85.fr rfl rfl rfl rfl (decide_eq_false (fun h => h rfl))) rfl rfl fun a86 h86 => ?_; clear h85
 have hl87 : c67.l.length ≤ 140737488355328 := (h86.sh.deep 2 rfl).len
 refine wl_val h86 (r_len (s := c67) (n := c67.l.length) sl_22 rfl rfl (fun w h => (h.deep 2 rfl)) rfl) (wanted_yes h86.fr rfl rfl rfl rfl (decide_eq_false (fun h => h rfl))) rfl rfl fun a88 h88 => ?_; clear h86
 refine wl_val h88 (r_neqN (p := c59.l.length) (q := c67.l.length) rfl rfl rfl) (wanted_yes h88.fr rfl rfl rfl rfl (decide_eq_false (fun h => h rfl))) rfl rfl fun a89 h89 => ?_; clear h88
 refine wv h89 (r_pickF rfl rfl (decide_eq_false (fun h => h rfl)) rfl) rfl rfl fun a90 h90 => ?_; clear h89
 refine wpList_nil (hK76 _ _ ?_)
 have h91 : St 111 (fun _ => False) W a90 w74 [(1, .pointer (some ⟨b3, 0, none⟩)), (3, .pointer (some ⟨b17, 0, none⟩)), (5, .pointer (some ⟨b71, 0, none⟩)), (68, .bool (decide (c59.l.length ≠ c67.l.length)))] [.blk b72 28 [.int .i64 0, .int .i64 0, .int .i64 0], .blk b71 25 [c67.v, u67.v, .int .i64 locks, .int .i64 regs], .deep 33 c67, .own 3 u67, .deep 33 c59, .own 3 u59, .blk b18 28 [.int .i64 0, .int .i64 0, .int .i64 0], .blk b17 25 [c59.v, u59.v, .int .i64 locks, .int .i64 regs], .deep 33 c13, .own 3 u13, .deep 33 (⟨v10, [(⟨v9, [(⟨14, 2, 0, 0⟩ : Ins), (⟨16, 0, 0, 0⟩ : Ins), (⟨14, 1, 0, 0⟩ : Ins)]⟩ : Ls Ins)]⟩ : Ls (Ls Ins)), .blk b3 25 [code.v, words.v, .int .i64 locks, .int .i64 regs], .at_ code, .at_ words] := h90.nrm ⟨rfl, rfl, rfl, rfl, trivial⟩ [0, 1, 2, 3, 4, 5, 6, 7, 8, 9, 10, 11, 12, 13] (by decide) ⟨rfl, rfl, rfl, rfl, rfl, rfl, rfl, rfl, rfl, rfl, rfl, rfl, rfl, rfl, trivial⟩
 clear h90
 refine x_condF h91 rfl (decide_eq_false (by omega)) ?_
 refine wp_skip ?_
 refine hK75 _ _ ?_
 refine wp_seq_k fun K92 hK92 => ?_
 refine wp_seq_k fun K93 hK93 => wp_region_lit ?_
 refine wms 1 h91 rfl fun a94 h94 => ?_; clear h91
 refine wpList_nil (hK93 _ _ ?_)
 refine wp_block ?_
 refine x_loop (fun m a w => ∃ (t : Nat), (t ≤ code.l.length) ∧ St 111 (fun _ => False) W a w [(1, .pointer (some ⟨b3, 0, none⟩)), (3, .pointer (some ⟨b17, 0, none⟩)), (5, .pointer (some ⟨b71, 0, none⟩)), (7, .int .i64 ((t : Nat) : Int))] [.blk b72 28 [.int .i64 0, .int .i64 0, .int .i64 0], .blk b71 25 [c67.v, u67.v, .int .i64 locks, .int .i64 regs], .deep 33 c67, .own 3 u67, .deep 33 c59, .own 3 u59, .blk b18 28 [.int .i64 0, .int .i64 0, .int .i64 0], .blk b17 25 [c59.v, u59.v, .int .i64 locks, .int .i64 regs], .deep 33 c13, .own 3 u13, .deep 33 (⟨v10, [(⟨v9, [(⟨14, 2, 0, 0⟩ : Ins), (⟨16, 0, 0, 0⟩ : Ins), (⟨14, 1, 0, 0⟩ : Ins)]⟩ : Ls Ins)]⟩ : Ls (Ls Ins)), .blk b3 25 [code.v, words.v, .int .i64 locks, .int .i64 regs], .at_ code, .at_ words] ∧ m = code.l.length - t) ⟨_, 0, (Nat.zero_le _), h94.nrm ⟨rfl, rfl, rfl, rfl, trivial⟩ [0, 1, 2, 3, 4, 5, 6, 7, 8, 9, 10, 11, 12, 13] (by decide) ⟨rfl, rfl, rfl, rfl, rfl, rfl, rfl, rfl, rfl, rfl, rfl, rfl, rfl, rfl, trivial⟩, rfl⟩ ?_
 clear h94
 rintro m95 a95 w95 ⟨t, ht, h95, hm95⟩
 refine wp_seq_k fun K96 hK96 => ?_
 refine wp_seq_k fun K97 hK97 => wp_region_lit ?_
 refine wms 1 h95 rfl fun a98 h98 => ?_; clear h95
 refine wv h98 (r_fieldB (r := 0) fl_25_0 rfl rfl rfl) rfl rfl fun a99 h99 => ?_; clear h98
 refine wv h99 (r_ldb (i := 7) ti_22 rfl rfl rfl rfl) rfl rfl fun a100 h100 => ?_; clear h99
 refine wv h100 (r_len (s := c59) (n := c59.l.length) sl_22 rfl rfl (fun w h => (h.deep 4 rfl)) rfl) rfl rfl fun a101 h101 => ?_; clear h100
 refine wv h101 (r_lssN (p := t) (q := c59.l.length) rfl rfl rfl) rfl rfl fun a102 h102 => ?_; clear h101
 refine wpList_nil (hK97 _ _ ?_)
 refine x_cond h102 rfl (fun hb103 => ?_) (fun hb103 => ?_)
 ·
  have hp103 : t < c59.l.length := of_decide_eq_true hb103
  refine wp_skip ?_
  refine hK96 _ _ ?_
  obtain ⟨hlt1, hlt2⟩ := hlt9 t (by omega)
  refine wp_seq_k fun K104 hK104 => ?_
  refine wp_block ?_
  refine wp_seq_k fun K105 hK105 => ?_
  refine x_quiet (by kernel_rfl) (by kernel_rfl) h102 fun Z106 hZ106 => ?_
  have hq106 := h102.fr
  refine wq_val hq106 (r_move rfl rfl) (wanted_none rfl _) rfl rfl fun a107 hq107 => ?_; clear hq106
  refine wq_val hq107 (r_fieldB (r := 0) fl_25_0 rfl rfl rfl) (wanted_none rfl _) rfl rfl fun a108 hq108 => ?_; clear hq107
  refine wq_val hq108 (r_ldb (i := 11) ti_22 rfl rfl rfl rfl) (wanted_none rfl _) rfl rfl fun a109 hq109 => ?_; clear hq108
  have hl110 : code.l.length ≤ 140737488355328 := (h102.sh.at 12 rfl).len
  refine wq_val hq109 (r_len (s := code) (n := code.l.length) sl_22 rfl rfl (fun w h => (h.at 12 rfl)) rfl) (wanted_none rfl _) rfl rfl fun a111 hq111 => ?_; clear hq109
  refine wq_val hq111 (r_geqN (p := t) (q := code.l.length) rfl rfl rfl) (wanted_none rfl _) rfl rfl fun a112 hq112 => ?_; clear hq111
  refine wq_val hq112 (r_move rfl rfl) (wanted_none rfl _) rfl rfl fun a113 hq113 => ?_; clear hq112
  refine wq_val hq113 (r_fieldB (r := 0) fl_25_0 rfl rfl rfl) (wanted_yes hq113 rfl rfl rfl rfl (decide_eq_false (by omega))) rfl rfl fun a115 hq115 => ?_; clear hq113
  refine wq_val hq115 (r_ldb (i := 7) ti_22 rfl rfl rfl rfl) (wanted_yes hq115 rfl rfl rfl rfl (decide_eq_false (by omega))) rfl rfl fun a117 hq117 => ?_; clear hq115
  refine wq_val hq117 (r_move rfl rfl) (wanted_yes hq117 rfl rfl rfl rfl (decide_eq_false (by omega))) rfl rfl fun a119 hq119 => ?_; clear hq117
  refine wq_val hq119 (r_ixN (s := c59) (q := t) sl_22 ti_33 rfl rfl rfl (fun w h => (h.deep 4 rfl)) (show t < c59.l.length from (by omega))) (wanted_yes hq119 rfl rfl rfl rfl (decide_eq_false (by omega))) rfl rfl fun a121 hq121 => ?_; clear hq119
  refine wq_val hq121 (r_lde (s := c59) (i := t) (v := (nth c59.l t).v) ti_33 rfl rfl rfl (fun w h => (h.deep 4 rfl)) (show t < c59.l.length from (by omega)) (Nat.le_of_ble_eq_true rfl) rfl) (wanted_yes hq121 rfl rfl rfl rfl (decide_eq_false (by omega))) rfl rfl fun a123 hq123 => ?_; clear hq121
  have hl125 : ((nth c59.l t).l).length ≤ 140737488355328 := ((h102.sh.deep 4 rfl).nth t (show t < c59.l.length from (by omega))).len
  refine wq_val hq123 (r_len (s := nth c59.l t) (n := ((nth c59.l t).l).length) sl_33 rfl rfl (fun w h => ((h.deep 4 rfl).nth t (show t < c59.l.length from (by omega)))) rfl) (wanted_yes hq123 rfl rfl rfl rfl (decide_eq_false (by omega))) rfl rfl fun a126 hq126 => ?_; clear hq123
  refine wq_val hq126 (r_fieldB (r := 0) fl_25_0 rfl rfl rfl) (wanted_yes hq126 rfl rfl rfl rfl (decide_eq_false (by omega))) rfl rfl fun a128 hq128 => ?_; clear hq126
  refine wq_val hq128 (r_ldb (i := 11) ti_22 rfl rfl rfl rfl) (wanted_yes hq128 rfl rfl rfl rfl (decide_eq_false (by omega))) rfl rfl fun a130 hq130 => ?_; clear hq128
  refine wq_val hq130 (r_move rfl rfl) (wanted_yes hq130 rfl rfl rfl rfl (decide_eq_false (by omega))) rfl rfl fun a132 hq132 => ?_; clear hq130
  refine wq_val hq132 (r_ixN (s := code) (q := t) sl_22 ti_33 rfl rfl rfl (fun w h => (h.at 12 rfl)) (show t < code.l.length from (by omega))) (wanted_yes hq132 rfl rfl rfl rfl (decide_eq_false (by omega))) rfl rfl fun a134 hq134 => ?_; clear hq132
  refine wq_val hq134 (r_lde (s := code) (i := t) (v := (nth code.l t).v) ti_33 rfl rfl rfl (fun w h => (h.at 12 rfl)) (show t < code.l.length from (by omega)) (Nat.le_of_ble_eq_true rfl) rfl) (wanted_yes hq134 rfl rfl rfl rfl (decide_eq_false (by omega))) rfl rfl fun a136 hq136 => ?_; clear hq134
  have hl138 : ((nth code.l t).l).length ≤ 140737488355328 := ((h102.sh.at 12 rfl).nth t (show t < code.l.length from (by omega))).len
  refine wq_val hq136 (r_len (s := nth code.l t) (n := ((nth code.l t).l).length) sl_33 rfl rfl (fun w h => ((h.at 12 rfl).nth t (show t < code.l.length from (by omega)))) rfl) (wanted_yes hq136 rfl rfl rfl rfl (decide_eq_false (by omega))) rfl rfl fun a139 hq139 => ?_; clear hq136
  refine wq_val hq139 (r_gtrN (p := ((nth c59.l t).l).length) (q := ((nth code.l t).l).length) rfl rfl rfl) (wanted_yes hq139 rfl rfl rfl rfl (decide_eq_false (by omega))) rfl rfl fun a141 hq141 => ?_; clear hq139
  refine wq_val hq141 (r_pickF rfl rfl (decide_eq_false (by omega)) rfl) (wanted_none rfl _) rfl rfl fun a142 hq142 => ?_; clear hq141
  refine wq_val hq142 (r_move rfl rfl) (wanted_none rfl _) rfl rfl fun a143 hq143 => ?_; clear hq142
  refine wq_val hq143 (r_fieldB (r := 0) fl_25_0 rfl rfl rfl) (wanted_yes hq143 rfl rfl rfl rfl (decide_eq_false (by omega))) rfl rfl fun a145 hq145 => ?_; clear hq143
  refine wq_val hq145 (r_ldb (i := 1) ti_22 rfl rfl rfl rfl) (wanted_yes hq145 rfl rfl rfl rfl (decide_eq_false (by omega))) rfl rfl fun a147 hq147 => ?_; clear hq145
  refine wq_val hq147 (r_move rfl rfl) (wanted_yes hq147 rfl rfl rfl rfl (decide_eq_false (by omega))) rfl rfl fun a149 hq149 => ?_; clear hq147
  refine wq_val hq149 (r_ixN (s := c67) (q := t) sl_22 ti_33 rfl rfl rfl (fun w h => (h.deep 2 rfl)) (show t < c67.l.length from (by omega))) (wanted_yes hq149 rfl rfl rfl rfl (decide_eq_false (by omega))) rfl rfl fun a151 hq151 => ?_; clear hq149
  refine wq_val hq151 (r_lde (s := c67) (i := t) (v := (nth c67.l t).v) ti_33 rfl rfl rfl (fun w h => (h.deep 2 rfl)) (show t < c67.l.length from (by omega)) (Nat.le_of_ble_eq_true rfl) rfl) (wanted_yes hq151 rfl rfl rfl rfl (decide_eq_false (by omega))) rfl rfl fun a153 hq153 => ?_; clear hq151
  have hl155 : ((nth c67.l t).l).length ≤ 140737488355328 := ((h102.sh.deep 2 rfl).nth t (show t < c67.l.length from (by omega))).len
  refine wq_val hq153 (r_len (s := nth c67.l t) (n := ((nth c67.l t).l).length) sl_33 rfl rfl (fun w h => ((h.deep 2 rfl).nth t (show t < c67.l.length from (by omega)))) rfl) (wanted_yes hq153 rfl rfl rfl rfl (decide_eq_false (by omega))) rfl rfl fun a156 hq156 => ?_; clear hq153
  refine wq_val hq156 (r_fieldB (r := 0) fl_25_0 rfl rfl rfl) (wanted_yes hq156 rfl rfl rfl rfl (decide_eq_false (by omega))) rfl rfl fun a158 hq158 => ?_; clear hq156
  refine wq_val hq158 (r_ldb (i := 11) ti_22 rfl rfl rfl rfl) (wanted_yes hq158 rfl rfl rfl rfl (decide_eq_false (by omega))) rfl rfl fun a160 hq160 => ?_; clear hq158
  refine wq_val hq160 (r_move rfl rfl) (wanted_yes hq160 rfl rfl rfl rfl (decide_eq_false (by omega))) rfl rfl fun a162 hq162 => ?_; clear hq160
  refine wq_val hq162 (r_ixN (s := code) (q := t) sl_22 ti_33 rfl rfl rfl (fun w h => (h.at 12 rfl)) (show t < code.l.length from (by omega))) (wanted_yes hq162 rfl rfl rfl rfl (decide_eq_false (by omega))) rfl rfl fun a164 hq164 => ?_; clear hq162
  refine wq_val hq164 (r_lde (s := code) (i := t) (v := (nth code.l t).v) ti_33 rfl rfl rfl (fun w h => (h.at 12 rfl)) (show t < code.l.length from (by omega)) (Nat.le_of_ble_eq_true rfl) rfl) (wanted_yes hq164 rfl rfl rfl rfl (decide_eq_false (by omega))) rfl rfl fun a166 hq166 => ?_; clear hq164
  refine wq_val hq166 (r_len (s := nth code.l t) (n := ((nth code.l t).l).length) sl_33 rfl rfl (fun w h => ((h.at 12 rfl).nth t (show t < code.l.length from (by omega)))) rfl) (wanted_yes hq166 rfl rfl rfl rfl (decide_eq_false (by omega))) rfl rfl fun a168 hq168 => ?_; clear hq166
  refine wq_val hq168 (r_neqN (p := ((nth c67.l t).l).length) (q := ((nth code.l t).l).length) rfl rfl rfl) (wanted_yes hq168 rfl rfl rfl rfl (decide_eq_false (by omega))) rfl rfl fun a170 hq170 => ?_; clear hq168
  refine wq_val hq170 (r_pickF rfl rfl (decide_eq_false (by omega)) rfl) (wanted_none rfl _) rfl rfl fun a171 hq171 => ?_; clear hq170
  refine wpQuiet_nil (hZ106 _ fun w172 hw172 => ?_)
  have h172 : St 111 (fun _ => False) W a171 w172 _ _ := ⟨hq171, hw172⟩
  clear hq171 hw172 h102
  refine hK105 _ _ ?_
  have h173 : St 111 (fun _ => False) W a171 w172 [(1, .pointer (some ⟨b3, 0, none⟩)), (3, .pointer (some ⟨b17, 0, none⟩)), (5, .pointer (some ⟨b71, 0, none⟩)), (7, .int .i64 ((t : Nat) : Int)), (110, .bool (decide (((nth c67.l t).l).length ≠ ((nth code.l t).l).length)))] [.blk b72 28 [.int .i64 0, .int .i64 0, .int .i64 0], .blk b71 25 [c67.v, u67.v, .int .i64 locks, .int .i64 regs], .deep 33 c67, .own 3 u67, .deep 33 c59, .own 3 u59, .blk b18 28 [.int .i64 0, .int .i64 0, .int .i64 0], .blk b17 25 [c59.v, u59.v, .int .i64 locks, .int .i64 regs], .deep 33 c13, .own 3 u13, .deep 33 (⟨v10, [(⟨v9, [(⟨14, 2, 0, 0⟩ : Ins), (⟨16, 0, 0, 0⟩ : Ins), (⟨14, 1, 0, 0⟩ : Ins)]⟩ : Ls Ins)]⟩ : Ls (Ls Ins)), .blk b3 25 [code.v, words.v, .int .i64 locks, .int .i64 regs], .at_ code, .at_ words] := h172.nrm ⟨rfl, rfl, rfl, rfl, rfl, trivial⟩ [0, 1, 2, 3, 4, 5, 6, 7, 8, 9, 10, 11, 12, 13] (by decide) ⟨rfl, rfl, rfl, rfl, rfl, rfl, rfl, rfl, rfl, rfl, rfl, rfl, rfl, rfl, trivial⟩
  clear h172
  refine x_condF h173 rfl (decide_eq_false (by omega)) ?_
  refine wp_skip ?_
  refine hK104 _ _ ?_
  refine wp_region_lit ?_
  refine wms 1 h173 rfl fun a174 h174 => ?_; clear h173
  refine wv h174 (r_addN (p := t) (q := 1) rfl rfl rfl (show t + 1 < 9223372036854775808 from (by omega))) rfl rfl fun a175 h175 => ?_; clear h174
  refine wms 1 h175 rfl fun a176 h176 => ?_; clear h175
  refine wpList_nil ?_
  refine x_again ⟨_, ?_, t + 1, ?_, h176.nrm ⟨rfl, rfl, rfl, rfl, trivial⟩ [0, 1, 2, 3, 4, 5, 6, 7, 8, 9, 10, 11, 12, 13] (by decide) ⟨rfl, rfl, rfl, rfl, rfl, rfl, rfl, rfl, rfl, rfl, rfl, rfl, rfl, rfl, trivial⟩, rfl⟩
  · rw [hm95]; first | omega | (simp only [lens9]; omega)
  · omega
 have hp103 : ¬ (t < c59.l.length) := of_decide_eq_false hb103
 refine wp_exit ?_
 refine hK92 _ _ ?_
 refine wp_seq_k fun K177 hK177 => wp_region_lit ?_
 refine wms 1 h102 rfl fun a178 h178 => ?_; clear h102
 refine wpList_nil (hK177 _ _ ?_)
 refine wp_ret ?_
 try simp only [Exit.then, Exit.inBlock]
 refine x_ret1 (fn := Try.f3) (t := 2) rfl h178 rfl ?_
 exact ⟨rfl, (h178.sh.sel [] (by decide) trivial)⟩

set_option maxRecDepth 100000 in
set_option maxHeartbeats 4000000 in
theorem jumpEnds_b (code : Ls (Ls Ins)) (words : Ls Int) (locks regs : Int) (W : World) (hcode : code.At W) (hwords : words.At W) (hv : vastG (code.l.map (·.l)) words.l = false) (hz : (checkG (pgOf code words locks regs)).code ≠ 0) :
    Rets Try.prog 3 [.agg #[code.v, words.v, .int .i64 locks, .int .i64 regs]] W (fun v w' => v = .bool true ∧ Sh0 W w' []) := by
 refine x_enter (N := 111) Try.func3 rfl Try.ntmps3 (Nat.le_of_ble_eq_true rfl) fun a1 hf1 => ?_
 have h1 : St 111 (fun _ => False) W a1 W [(0, .agg #[code.v, words.v, .int .i64 locks, .int .i64 regs])] [.at_ code, .at_ words] := ⟨hf1.sub ⟨rfl, trivial⟩, Sh0.ext2 hcode hwords⟩
 clear hf1
 refine wp_seq_k fun K2 hK2 => wp_region_lit ?_
 refine wl_ex (x_box (cs := [code.v, words.v, .int .i64 locks, .int .i64 regs]) h1 rfl rfl rfl rfl rfl) (wanted_none rfl _) ?_
 rintro a3 w3 ⟨b3, h3⟩; clear h1
 refine wms 1 h3 rfl fun a4 h4 => ?_; clear h3
 refine wpList_nil (hK2 _ _ ?_)
 refine wp_seq_k fun K5 hK5 => wp_region_lit ?_
 refine wv h4 (r_build (cs := [.int .i64 14, .int .i64 2, .int .i64 0, .int .i64 0]) rfl rfl (by kernel_rfl)) rfl rfl fun a6 h6 => ?_; clear h4
 refine wv h6 (r_build (cs := [.int .i64 16, .int .i64 0, .int .i64 0, .int .i64 0]) rfl rfl (by kernel_rfl)) rfl rfl fun a7 h7 => ?_; clear h6
 refine wv h7 (r_build (cs := [.int .i64 14, .int .i64 1, .int .i64 0, .int .i64 0]) rfl rfl (by kernel_rfl)) rfl rfl fun a8 h8 => ?_; clear h7
 refine wl_ex (x_lit (n := 3) (cs := [.int .i64 14, .int .i64 2, .int .i64 0, .int .i64 0, .int .i64 16, .int .i64 0, .int .i64 0, .int .i64 0, .int .i64 14, .int .i64 1, .int .i64 0, .int .i64 0]) ([(⟨14, 2, 0, 0⟩ : Ins), (⟨16, 0, 0, 0⟩ : Ins), (⟨14, 1, 0, 0⟩ : Ins)] : List Ins) h8 sl_33 ti_32 rfl rfl rfl (by decide) rfl (by kernel_rfl) rfl (fun q hq w h => Flat.inner _ _) (fun q hq b hb => (Flat.on _ _ hb).elim) rfl rfl) (wanted_none rfl _) ?_
 rintro a9 w9 ⟨v9, h9⟩; clear h8
 refine wl_ex (x_litD (E := 0) (x := (⟨v9, [(⟨14, 2, 0, 0⟩ : Ins), (⟨16, 0, 0, 0⟩ : Ins), (⟨14, 1, 0, 0⟩ : Ins)]⟩ : Ls Ins)) h9 sl_22 ti_33 rfl rfl rfl ((h9.sh.own 0 rfl)) (fun b hb => (own_on (h9.sh.ok _ (List.mem_of_getElem? (i := 0) rfl)) hb).elim (fun h => h) (fun h => Flat.noRd h)) (fun b hb => Flat.noRd hb) rfl rfl) (wanted_none rfl _) ?_
 rintro a10 w10 ⟨v10, h10⟩; clear h9
 refine wv h10 (r_build (cs := [v10, (.slice none 0 0), .int .i64 0, .int .i64 1]) rfl rfl (by obtain ⟨A11, n11, c11, (e11 : v10 = _)⟩ := ((h10.sh.deep 0 rfl)).form; rw [e11]; kernel_rfl)) rfl rfl fun a12 h12 => ?_; clear h10
 refine wl_ex (x_call h12 bd_15 rfl rfl rfl rfl rfl (jStraight_c (⟨v10, [⟨v9, round3⟩]⟩ : Ls (Ls Ins)) (⟨.slice none 0 0, []⟩ : Ls Int) 0 1 _ (h12.sh.deep 0 rfl) (Sh.nilAt (α := Int) h12.sh) (round_ok _ _))) (wanted_none rfl _) ?_
 rintro a13 w13 ⟨_, ⟨c13, u13, rfl, hq13, hu13, hs13⟩, hf13⟩
 obtain ⟨hr1, hr2, hr3⟩ := round_st (v := v10) (v' := v9) hq13
 have h13 := (⟨hf13, h12.sh.call hs13 (by intro A hA b hb; first | (simp at hA; done) | (simp at hA; subst hA; first | exact Flat.noRd hb | exact (hb : False).elim) | (simp at hA; rcases hA with rfl | rfl <;> first | exact Flat.noRd hb | exact (hb : False).elim))⟩ : St 111 (fun _ => False) W a13 w13 _ _)
 clear hf13 hs13
 clear h12
 refine wms 1 h13 rfl fun a14 h14 => ?_; clear h13
 refine wv h14 (r_extract rfl rfl rfl) rfl rfl fun a15 h15 => ?_; clear h14
 refine wv h15 (r_extract rfl rfl rfl) rfl rfl fun a16 h16 => ?_; clear h15
 refine wl_ex (x_alloc h16 ti_25 rfl rfl rfl) (wanted_none rfl _) ?_
 rintro a17 w17 ⟨b17, h17⟩; clear h16
 refine wl_ex (x_alloc h17 ti_28 rfl rfl rfl) (wanted_none rfl _) ?_
 rintro a18 w18 ⟨b18, h18⟩; clear h17
 refine wl_ex (x_stb (i := 1) (vs := [c13.v, u13.v, .int .i64 0, .int .i64 1]) (cs' := [c13.v, u13.v, .int .i64 0, .int .i64 1]) h18 ti_25 rfl rfl rfl rfl rfl rfl rfl (allOne_cons ((h18.sh.deep 2 rfl)).one (allOne_cons ((h18.sh.own 3 rfl)).one (allOne_cons rfl (allOne_cons rfl allOne_nil)))) (Nat.le_of_ble_eq_true rfl) rfl) (wanted_none rfl _) ?_
 rintro a19 w19 h19
 clear h18
 refine wl_ex (x_stb (i := 0) (vs := [.int .i64 0, .int .i64 0, .int .i64 0]) (cs' := [.int .i64 0, .int .i64 0, .int .i64 0]) h19 ti_28 rfl rfl rfl rfl rfl rfl rfl (allOne_cons rfl (allOne_cons rfl (allOne_cons rfl allOne_nil))) (Nat.le_of_ble_eq_true rfl) rfl) (wanted_none rfl _) ?_
 rintro a20 w20 h20
 clear h19
 refine wpList_nil (hK5 _ _ ?_)
 refine wp_seq_k fun K21 hK21 => ?_
 refine wp_seq_k fun K22 hK22 => wp_region_lit ?_
 refine wv h20 (r_fieldB (r := 0) fl_28_0 rfl rfl rfl) rfl rfl fun a23 h23 => ?_; clear h20
 refine wv h23 (r_ldb (i := 0) ti_26 rfl rfl rfl rfl) rfl rfl fun a24 h24 => ?_; clear h23
 refine wv h24 (r_neqN (p := 0) (q := 0) rfl rfl rfl) rfl rfl fun a25 h25 => ?_; clear h24
 refine wms 1 h25 rfl fun a26 h26 => ?_; clear h25
 refine wl_val h26 (r_fieldB (r := 0) fl_25_0 rfl rfl rfl) (wanted_yes h26.fr rfl rfl rfl rfl (by decide)) rfl rfl fun a27 h27 => ?_; clear h26
 refine wl_val h27 (r_ldb (i := 1) ti_22 rfl rfl rfl rfl) (wanted_yes h27.fr rfl rfl rfl rfl (by decide)) rfl rfl fun a28 h28 => ?_; clear h27
 have hl29 : c13.l.length ≤ 140737488355328 := (h28.sh.deep 2 rfl).len
 refine wl_val h28 (r_len (s := c13) (n := c13.l.length) sl_22 rfl rfl (fun w h => (h.deep 2 rfl)) rfl) (wanted_yes h28.fr rfl rfl rfl rfl (by decide)) rfl rfl fun a30 h30 => ?_; clear h28
 refine wl_val h30 (r_neqN (p := c13.l.length) (q := 1) rfl rfl rfl) (wanted_yes h30.fr rfl rfl rfl rfl (by decide)) rfl rfl fun a31 h31 => ?_; clear h30
 refine wv h31 (r_pickF rfl rfl (by decide) rfl) rfl rfl fun a32 h32 => ?_; clear h31
 refine wms 1 h32 rfl fun a33 h33 => ?_; clear h32
 refine wl_val h33 (r_fieldB (r := 0) fl_25_0 rfl rfl rfl) (wanted_yes h33.fr rfl rfl rfl rfl (decide_eq_false (fun h => h hr1))) rfl rfl fun a34 h34 => ?_; clear h33
 refine wl_val h34 (r_ldb (i := 1) ti_22 rfl rfl rfl rfl) (wanted_yes h34.fr rfl rfl rfl rfl (decide_eq_false (fun h => h hr1))) rfl rfl fun a35 h35 => ?_; clear h34
 refine wl_val h35 (r_ixN (s := c13) (q := 0) sl_22 ti_33 rfl rfl rfl (fun w h => (h.deep 2 rfl)) (show 0 < c13.l.length from (by omega))) (wanted_yes h35.fr rfl rfl rfl rfl (decide_eq_false (fun h => h hr1))) rfl rfl fun a36 h36 => ?_; clear h35
 refine wl_val h36 (r_lde (s := c13) (i := 0) (v := (nth c13.l 0).v) ti_33 rfl rfl rfl (fun w h => (h.deep 2 rfl)) (show 0 < c13.l.length from (by omega)) (Nat.le_of_ble_eq_true rfl) rfl) (wanted_yes h36.fr rfl rfl rfl rfl (decide_eq_false (fun h => h hr1))) rfl rfl fun a37 h37 => ?_; clear h36
 have hl38 : ((nth c13.l 0).l).length ≤ 140737488355328 := ((h37.sh.deep 2 rfl).nth 0 (show 0 < c13.l.length from (by omega))).len
 refine wl_val h37 (r_len (s := nth c13.l 0) (n := ((nth c13.l 0).l).length) sl_33 rfl rfl (fun w h => ((h.deep 2 rfl).nth 0 (show 0 < c13.l.length from (by omega)))) rfl) (wanted_yes h37.fr rfl rfl rfl rfl (decide_eq_false (fun h => h hr1))) rfl rfl fun a39 h39 => ?_; clear h37
 refine wl_val h39 (r_neqN (p := ((nth c13.l 0).l).length) (q := 2) rfl rfl rfl) (wanted_yes h39.fr rfl rfl rfl rfl (decide_eq_false (fun h => h hr1))) rfl rfl fun a40 h40 => ?_; clear h39
 refine wv h40 (r_pickF rfl rfl (decide_eq_false (fun h => h hr1)) rfl) rfl rfl fun a41 h41 => ?_; clear h40
 refine wms 1 h41 rfl fun a42 h42 => ?_; clear h41
 refine wl_val h42 (r_fieldB (r := 0) fl_25_0 rfl rfl rfl) (wanted_yes h42.fr rfl rfl rfl rfl (decide_eq_false (fun h => h hr2))) rfl rfl fun a43 h43 => ?_; clear h42
 refine wl_val h43 (r_ldb (i := 1) ti_22 rfl rfl rfl rfl) (wanted_yes h43.fr rfl rfl rfl rfl (decide_eq_false (fun h => h hr2))) rfl rfl fun a44 h44 => ?_; clear h43
 refine wl_val h44 (r_ixN (s := c13) (q := 0) sl_22 ti_33 rfl rfl rfl (fun w h => (h.deep 2 rfl)) (show 0 < c13.l.length from (by omega))) (wanted_yes h44.fr rfl rfl rfl rfl (decide_eq_false (fun h => h hr2))) rfl rfl fun a45 h45 => ?_; clear h44
 refine wl_val h45 (r_lde (s := c13) (i := 0) (v := (nth c13.l 0).v) ti_33 rfl rfl rfl (fun w h => (h.deep 2 rfl)) (show 0 < c13.l.length from (by omega)) (Nat.le_of_ble_eq_true rfl) rfl) (wanted_yes h45.fr rfl rfl rfl rfl (decide_eq_false (fun h => h hr2))) rfl rfl fun a46 h46 => ?_; clear h45
 refine wl_val h46 (r_ixN (s := nth c13.l 0) (q := 0) sl_33 ti_32 rfl rfl rfl (fun w h => ((h.deep 2 rfl).nth 0 (show 0 < c13.l.length from (by omega)))) (show 0 < ((nth c13.l 0).l).length from (by omega))) (wanted_yes h46.fr rfl rfl rfl rfl (decide_eq_false (fun h => h hr2))) rfl rfl fun a47 h47 => ?_; clear h46
 refine wl_val h47 (r_ldew (s := nth c13.l 0) (i := 0) (vs := [.int .i64 ((nth ((nth c13.l 0).l) 0).op), .int .i64 ((nth ((nth c13.l 0).l) 0).a), .int .i64 ((nth ((nth c13.l 0).l) 0).b), .int .i64 ((nth ((nth c13.l 0).l) 0).c)]) ti_32 rfl rfl rfl (fun w h => ((h.deep 2 rfl).nth 0 (show 0 < c13.l.length from (by omega)))) (show 0 < ((nth c13.l 0).l).length from (by omega)) (Nat.le_of_ble_eq_true rfl) rfl) (wanted_yes h47.fr rfl rfl rfl rfl (decide_eq_false (fun h => h hr2))) rfl rfl fun a48 h48 => ?_; clear h47
 refine wl_val h48 (r_build (cs := [.int .i64 16, .int .i64 0, .int .i64 0, .int .i64 0]) rfl rfl (by kernel_rfl)) (wanted_yes h48.fr rfl rfl rfl rfl (decide_eq_false (fun h => h hr2))) rfl rfl fun a49 h49 => ?_; clear h48
 refine wl_val h49 (r_neqS rfl rfl rfl (fun w => neq_insG _ _ (nth ((nth c13.l 0).l) 0) (⟨16, 0, 0, 0⟩ : Ins) w) (fun w => neq_ins (nth ((nth c13.l 0).l) 0) (⟨16, 0, 0, 0⟩ : Ins) w)) (wanted_yes h49.fr rfl rfl rfl rfl (decide_eq_false (fun h => h hr2))) rfl rfl fun a50 h50 => ?_; clear h49
 refine wv h50 (r_pickF rfl rfl (decide_eq_false (fun h => h hr2)) rfl) rfl rfl fun a51 h51 => ?_; clear h50
 refine wpList_nil (hK22 _ _ ?_)
 have h52 : St 111 (fun _ => False) W a51 w20 [(1, .pointer (some ⟨b3, 0, none⟩)), (3, .pointer (some ⟨b17, 0, none⟩)), (4, .pointer (some ⟨b18, 0, none⟩)), (44, .bool (decide ((nth ((nth c13.l 0).l) 0 : Ins) ≠ (⟨16, 0, 0, 0⟩ : Ins))))] [.blk b18 28 [.int .i64 0, .int .i64 0, .int .i64 0], .blk b17 25 [c13.v, u13.v, .int .i64 0, .int .i64 1], .deep 33 c13, .own 3 u13, .deep 33 (⟨v10, [(⟨v9, [(⟨14, 2, 0, 0⟩ : Ins), (⟨16, 0, 0, 0⟩ : Ins), (⟨14, 1, 0, 0⟩ : Ins)]⟩ : Ls Ins)]⟩ : Ls (Ls Ins)), .blk b3 25 [code.v, words.v, .int .i64 locks, .int .i64 regs], .at_ code, .at_ words] := h51.nrm ⟨rfl, rfl, rfl, rfl, trivial⟩ [0, 1, 2, 3, 4, 5, 6, 7] (by decide) ⟨rfl, rfl, rfl, rfl, rfl, rfl, rfl, rfl, trivial⟩
 clear h51
 refine x_condF h52 rfl (decide_eq_false (fun h => h hr3)) ?_
 refine wp_skip ?_
 refine hK21 _ _ ?_
 refine wp_seq_k fun K53 hK53 => ?_
 refine wp_seq_k fun K54 hK54 => wp_region_lit ?_
 refine wv h52 (r_ldbw (i := 5) (vs := [code.v, words.v, .int .i64 locks, .int .i64 regs]) ti_25 rfl rfl rfl rfl rfl) rfl rfl fun a55 h55 => ?_; clear h52
 refine wl_ex (x_call h55 bd_16 rfl rfl rfl rfl rfl (kvast_c code words locks regs _ (h55.sh.at 6 rfl) (h55.sh.at 7 rfl))) (wanted_none rfl _) ?_
 rintro a56 w56 ⟨_, ⟨rfl, hs56⟩, hf56⟩
 have h56 : St 111 (fun _ => False) W a56 w56 _ _ := ⟨hf56, h55.sh.call0 hs56⟩
 clear hf56 hs56
 clear h55
 refine wpList_nil (hK54 _ _ ?_)
 refine x_condF h56 rfl hv ?_
 refine wp_skip ?_
 refine hK53 _ _ ?_
 refine wp_seq_k fun K57 hK57 => wp_region_lit ?_
 refine wv h56 (r_ldbw (i := 5) (vs := [code.v, words.v, .int .i64 locks, .int .i64 regs]) ti_25 rfl rfl rfl rfl rfl) rfl rfl fun a58 h58 => ?_; clear h56
 refine wl_ex (x_call h58 bd_15 rfl rfl rfl rfl rfl (jStraight_cB code words locks regs _ (h58.sh.at 6 rfl) (h58.sh.at 7 rfl) hz)) (wanted_none rfl _) ?_
 rintro a59 w59 ⟨_, ⟨rfl, hs59⟩, hf59⟩
 have h59 : St 111 (fun _ => False) W a59 w59 _ _ := ⟨hf59, h58.sh.call0 hs59⟩
 clear hf59 hs59
 clear h58
 refine wms 1 h59 rfl fun a60 h60 => ?_; clear h59
 refine wv h60 (r_extract rfl rfl rfl) rfl rfl fun a61 h61 => ?_; clear h60
 refine wv h61 (r_extract rfl rfl rfl) rfl rfl fun a62 h62 => ?_; clear h61
 refine wl_ex (x_stb (i := 1) (vs := [(.slice none 0 0), (.slice none 0 0), .int .i64 0, .int .i64 0]) (cs' := [(.slice none 0 0), (.slice none 0 0), .int .i64 0, .int .i64 0]) h62 ti_25 rfl rfl rfl rfl rfl rfl rfl (allOne_cons ((Sh.nilAt (α := Ls Ins) h62.sh)).one (allOne_cons ((Sh.nilAt (α := Int) h62.sh)).one (allOne_cons rfl (allOne_cons rfl allOne_nil)))) (Nat.le_of_ble_eq_true rfl) rfl) (wanted_none rfl _) ?_
 rintro a63 w63 h63
 clear h62
 refine wl_ex (x_stb (i := 0) (vs := [.int .i64 ((checkG (pgOf code words locks regs)).code), .int .i64 ((checkG (pgOf code words locks regs)).thread), .int .i64 ((checkG (pgOf code words locks regs)).at_)]) (cs' := [.int .i64 ((checkG (pgOf code words locks regs)).code), .int .i64 ((checkG (pgOf code words locks regs)).thread), .int .i64 ((checkG (pgOf code words locks regs)).at_)]) h63 ti_28 rfl rfl rfl rfl rfl rfl rfl (allOne_cons rfl (allOne_cons rfl (allOne_cons rfl allOne_nil))) (Nat.le_of_ble_eq_true rfl) rfl) (wanted_none rfl _) ?_
 rintro a64 w64 h64
 clear h63
 refine wpList_nil (hK57 _ _ ?_)
 refine wp_seq_k fun K65 hK65 => wp_region_lit ?_
 refine wv h64 (r_ldbw (i := 5) (vs := [code.v, words.v, .int .i64 locks, .int .i64 regs]) ti_25 rfl rfl rfl rfl rfl) rfl rfl fun a66 h66 => ?_; clear h64
 refine wl_ex (x_call h66 bd_17 rfl rfl rfl rfl rfl (copyMade_cB code words locks regs _ (h66.sh.at 6 rfl) (h66.sh.at 7 rfl) hz)) (wanted_none rfl _) ?_
 rintro a67 w67 ⟨_, ⟨rfl, hs67⟩, hf67⟩
 have h67 : St 111 (fun _ => False) W a67 w67 _ _ := ⟨hf67, h66.sh.call0 hs67⟩
 clear hf67 hs67
 clear h66
 refine wms 1 h67 rfl fun a68 h68 => ?_; clear h67
 refine wv h68 (r_extract rfl rfl rfl) rfl rfl fun a69 h69 => ?_; clear h68
 refine wv h69 (r_extract rfl rfl rfl) rfl rfl fun a70 h70 => ?_; clear h69
 refine wl_ex (x_alloc h70 ti_25 rfl rfl rfl) (wanted_none rfl _) ?_
 rintro a71 w71 ⟨b71, h71⟩; clear h70
 refine wl_ex (x_alloc h71 ti_28 rfl rfl rfl) (wanted_none rfl _) ?_
 rintro a72 w72 ⟨b72, h72⟩; clear h71
 refine wl_ex (x_stb (i := 1) (vs := [(.slice none 0 0), (.slice none 0 0), .int .i64 0, .int .i64 0]) (cs' := [(.slice none 0 0), (.slice none 0 0), .int .i64 0, .int .i64 0]) h72 ti_25 rfl rfl rfl rfl rfl rfl rfl (allOne_cons ((Sh.nilAt (α := Ls Ins) h72.sh)).one (allOne_cons ((Sh.nilAt (α := Int) h72.sh)).one (allOne_cons rfl (allOne_cons rfl allOne_nil)))) (Nat.le_of_ble_eq_true rfl) rfl) (wanted_none rfl _) ?_
 rintro a73 w73 h73
 clear h72
 refine wl_ex (x_stb (i := 0) (vs := [.int .i64 ((checkG (pgOf code words locks regs)).code), .int .i64 ((checkG (pgOf code words locks regs)).thread), .int .i64 ((checkG (pgOf code words locks regs)).at_)]) (cs' := [.int .i64 ((checkG (pgOf code words locks regs)).code), .int .i64 ((checkG (pgOf code words locks regs)).thread), .int .i64 ((checkG (pgOf code words locks regs)).at_)]) h73 ti_28 rfl rfl rfl rfl rfl rfl rfl (allOne_cons rfl (allOne_cons rfl (allOne_cons rfl allOne_nil))) (Nat.le_of_ble_eq_true rfl) rfl) (wanted_none rfl _) ?_
 rintro a74 w74 h74
 clear h73
 refine wpList_nil (hK65 _ _ ?_)
 refine wp_seq_k fun K75 hK75 => ?_
 refine wp_seq_k fun K76 hK76 => wp_region_lit ?_
 refine wv h74 (r_ldbw (i := 2) (vs := [.int .i64 ((checkG (pgOf code words locks regs)).code), .int .i64 ((checkG (pgOf code words locks regs)).thread), .int .i64 ((checkG (pgOf code words locks regs)).at_)]) ti_28 rfl rfl rfl rfl rfl) rfl rfl fun a77 h77 => ?_; clear h74
 refine wv h77 (r_ldbw (i := 0) (vs := [.int .i64 ((checkG (pgOf code words locks regs)).code), .int .i64 ((checkG (pgOf code words locks regs)).thread), .int .i64 ((checkG (pgOf code words locks regs)).at_)]) ti_28 rfl rfl rfl rfl rfl) rfl rfl fun a78 h78 => ?_; clear h77
 refine wv h78 (r_neqS rfl rfl rfl (fun w => neq_fltG _ _ ⟨(checkG (pgOf code words locks regs)).code, (checkG (pgOf code words locks regs)).thread, (checkG (pgOf code words locks regs)).at_⟩ ⟨(checkG (pgOf code words locks regs)).code, (checkG (pgOf code words locks regs)).thread, (checkG (pgOf code words locks regs)).at_⟩ w) (fun w => neq_flt ⟨(checkG (pgOf code words locks regs)).code, (checkG (pgOf code words locks regs)).thread, (checkG (pgOf code words locks regs)).at_⟩ ⟨(checkG (pgOf code words locks regs)).code, (checkG (pgOf code words locks regs)).thread, (checkG (pgOf code words locks regs)).at_⟩ w)) rfl rfl fun a79 h79 => ?_; clear h78
 refine wms 1 h79 rfl fun a80 h80 => ?_; clear h79
 refine wl_val h80 (r_fieldB (r := 0) fl_25_0 rfl rfl rfl) (wanted_yes h80.fr rfl rfl rfl rfl (decide_eq_false (fun h => h rfl))) rfl rfl fun a81 h81 => ?_; clear h80
 refine wl_val h81 (r_ldb (i := 3) ti_22 rfl rfl rfl rfl) (wanted_yes h81.fr rfl rfl rfl rfl (decide_eq_false (fun h => h rfl))) rfl rfl fun a82 h82 => ?_; clear h81
 have hl83 : ([]).length ≤ 140737488355328 := (Sh.nilAt (α := Ls Ins) h82.sh).len
 refine wl_val h82 (r_len (s := (⟨.slice none 0 0, []⟩ : Ls (Ls Ins))) (n := ([]).length) sl_22 rfl rfl (fun w h => (Sh.nilAt (α := Ls Ins) h)) rfl) (wanted_yes h82.fr rfl rfl rfl rfl (decide_eq_false (fun h => h rfl))) rfl rfl fun a84 h84 => ?_; clear h82
 refine wl_val h84 (r_fieldB (r := 0) fl_25_0 rfl rfl rfl) (wanted_yes h84.fr rfl rfl rfl rfl (decide_eq_false (fun h => h rfl))) rfl rfl fun a85 h85 => ?_; clear h84
 refine wl_val h85 (r_ldb (i := 1) ti_22 rfl rfl rfl rfl) (wanted_yes h85.fr rfl rfl rfl rfl (decide_eq_false (fun h => h rfl))) rfl rfl fun a86 h86 => ?_; clear h85
 refine wl_val h86 (r_len (s := (⟨.slice none 0 0, []⟩ : Ls (Ls Ins))) (n := ([]).length) sl_22 rfl rfl (fun w h => (Sh.nilAt (α := Ls Ins) h)) rfl) (wanted_yes h86.fr rfl rfl rfl rfl (decide_eq_false (fun h => h rfl))) rfl rfl fun a87 h87 => ?_; clear h86
 refine wl_val h87 (r_neqN (p := ([]).length) (q := ([]).length) rfl rfl rfl) (wanted_yes h87.fr rfl rfl rfl rfl (decide_eq_false (fun h => h rfl))) rfl rfl fun a88 h88 => ?_; clear h87
 refine wv h88 (r_pickF rfl rfl (decide_eq_false (fun h => h rfl)) rfl) rfl rfl fun a89 h89 => ?_; clear h88
 refine wpList_nil (hK76 _ _ ?_)
 have h90 : St 111 (fun _ => False) W a89 w74 [(1, .pointer (some ⟨b3, 0, none⟩)), (3, .pointer (some ⟨b17, 0, none⟩)), (5, .pointer (some ⟨b71, 0, none⟩)), (68, .bool (decide (([]).length ≠ ([]).length)))] [.blk b72 28 [.int .i64 ((checkG (pgOf code words locks regs)).code), .int .i64 ((checkG (pgOf code words locks regs)).thread), .int .i64 ((checkG (pgOf code words locks regs)).at_)], .blk b71 25 [(.slice none 0 0), (.slice none 0 0), .int .i64 0, .int .i64 0], .blk b18 28 [.int .i64 ((checkG (pgOf code words locks regs)).code), .int .i64 ((checkG (pgOf code words locks regs)).thread), .int .i64 ((checkG (pgOf code words locks regs)).at_)], .blk b17 25 [(.slice none 0 0), (.slice none 0 0), .int .i64 0, .int .i64 0], .deep 33 c13, .own 3 u13, .deep 33 (⟨v10, [(⟨v9, [(⟨14, 2, 0, 0⟩ : Ins), (⟨16, 0, 0, 0⟩ : Ins), (⟨14, 1, 0, 0⟩ : Ins)]⟩ : Ls Ins)]⟩ : Ls (Ls Ins)), .blk b3 25 [code.v, words.v, .int .i64 locks, .int .i64 regs], .at_ code, .at_ words] := h89.nrm ⟨rfl, rfl, rfl, rfl, trivial⟩ [0, 1, 2, 3, 4, 5, 6, 7, 8, 9] (by decide) ⟨rfl, rfl, rfl, rfl, rfl, rfl, rfl, rfl, rfl, rfl, trivial⟩
 clear h89
 refine x_condF h90 rfl (decide_eq_false (by omega)) ?_
 refine wp_skip ?_
 refine hK75 _ _ ?_
 refine wp_seq_k fun K91 hK91 => ?_
 refine wp_seq_k fun K92 hK92 => wp_region_lit ?_
 refine wms 1 h90 rfl fun a93 h93 => ?_; clear h90
 refine wpList_nil (hK92 _ _ ?_)
 refine wp_block ?_
 refine x_loop (fun m a w => ∃ (t : Nat), (t = 0) ∧ St 111 (fun _ => False) W a w [(1, .pointer (some ⟨b3, 0, none⟩)), (3, .pointer (some ⟨b17, 0, none⟩)), (5, .pointer (some ⟨b71, 0, none⟩)), (7, .int .i64 ((t : Nat) : Int))] [.blk b72 28 [.int .i64 ((checkG (pgOf code words locks regs)).code), .int .i64 ((checkG (pgOf code words locks regs)).thread), .int .i64 ((checkG (pgOf code words locks regs)).at_)], .blk b71 25 [(.slice none 0 0), (.slice none 0 0), .int .i64 0, .int .i64 0], .blk b18 28 [.int .i64 ((checkG (pgOf code words locks regs)).code), .int .i64 ((checkG (pgOf code words locks regs)).thread), .int .i64 ((checkG (pgOf code words locks regs)).at_)], .blk b17 25 [(.slice none 0 0), (.slice none 0 0), .int .i64 0, .int .i64 0], .deep 33 c13, .own 3 u13, .deep 33 (⟨v10, [(⟨v9, [(⟨14, 2, 0, 0⟩ : Ins), (⟨16, 0, 0, 0⟩ : Ins), (⟨14, 1, 0, 0⟩ : Ins)]⟩ : Ls Ins)]⟩ : Ls (Ls Ins)), .blk b3 25 [code.v, words.v, .int .i64 locks, .int .i64 regs], .at_ code, .at_ words] ∧ m = 1 - t) ⟨_, 0, (rfl), h93.nrm ⟨rfl, rfl, rfl, rfl, trivial⟩ [0, 1, 2, 3, 4, 5, 6, 7, 8, 9] (by decide) ⟨rfl, rfl, rfl, rfl, rfl, rfl, rfl, rfl, rfl, rfl, trivial⟩, rfl⟩ ?_
 clear h93
 rintro m94 a94 w94 ⟨t, ht, h94, hm94⟩
 refine wp_seq_k fun K95 hK95 => ?_
 refine wp_seq_k fun K96 hK96 => wp_region_lit ?_
 refine wms 1 h94 rfl fun a97 h97 => ?_; clear h94
 refine wv h97 (r_fieldB (r := 0) fl_25_0 rfl rfl rfl) rfl rfl fun a98 h98 => ?_; clear h97
 refine wv h98 (r_ldb (i := 3) ti_22 rfl rfl rfl rfl) rfl rfl fun a99 h99 => ?_; clear h98
 refine wv h99 (r_len (s := (⟨.slice none 0 0, []⟩ : Ls (Ls Ins))) (n := ([]).length) sl_22 rfl rfl (fun w h => (Sh.nilAt (α := Ls Ins) h)) rfl) rfl rfl fun a100 h100 => ?_; clear h99
 refine wv h100 (r_lssN (p := t) (q := ([]).length) rfl rfl rfl) rfl rfl fun a101 h101 => ?_; clear h100
 refine wpList_nil (hK96 _ _ ?_)
 refine x_condF h101 rfl (decide_eq_false (Nat.not_lt_zero _)) ?_
 refine wp_exit ?_
 refine hK91 _ _ ?_
 refine wp_seq_k fun K102 hK102 => wp_region_lit ?_
 refine wms 1 h101 rfl fun a103 h103 => ?_; clear h101
 refine wpList_nil (hK102 _ _ ?_)
 refine wp_ret ?_
 try simp only [Exit.then, Exit.inBlock]
 refine x_ret1 (fn := Try.f3) (t := 2) rfl h103 rfl ?_
 exact ⟨rfl, (h103.sh.sel [] (by decide) trivial)⟩

theorem jumpEnds_any (code : Ls (Ls Ins)) (words : Ls Int) (locks regs : Int) (W : World) (hcode : code.At W) (hwords : words.At W) : Rets Try.prog 3 [.agg #[code.v, words.v, .int .i64 locks, .int .i64 regs]] W (fun v w' => v = .bool true ∧ Sh0 W w' []) := by
  cases hv : vastG (code.l.map (·.l)) words.l with
  | true => exact jumpEnds_v code words locks regs W hcode hwords hv
  | false =>
    by_cases hok : OkPg (pgOf code words locks regs)
    · exact jumpEnds_k code words locks regs W hcode hwords hv hok
    · exact jumpEnds_b code words locks regs W hcode hwords hv (fun h => hok (checkG_code_pos.1 h))
end Go.Proofs.Ytfpaahkleienoaa
