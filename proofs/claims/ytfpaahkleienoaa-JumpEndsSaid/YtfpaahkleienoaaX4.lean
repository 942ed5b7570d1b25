/-
  Contracts of functions of this program and of the references, each walked once.
-/
import Derived.Test.YtfpaahkleienoaaX3
namespace Go.Proofs.Ytfpaahkleienoaa
open Go.RowKit
set_option linter.unusedSimpArgs false
set_option linter.unusedVariables false


theorem endF_le (code : List Ins) (hj : JumpsOK code) : ∀ (n at_ : Nat), at_ ≤ code.length → endF code n at_ ≤ code.length
  | 0, at_, h => h
  | n + 1, at_, h => by
    unfold endF
    split
    · rename_i hh
      have := (hj at_ hh.1).1 hh.2
      exact endF_le code hj n _ (by omega)
    · exact h
def straightIns (code : List Ins) (x : Ins) : Ins :=
  if x.op = 14 then { x with a := endF code code.length x.a.toNat } else if x.op = 15 then { x with b := endF code code.length x.b.toNat } else x
theorem straightIns_op (code : List Ins) (x : Ins) : (straightIns code x).op = x.op := by unfold straightIns; split; rfl; split <;> rfl
def toL (code : List Ins) : List Ins := code.map (straightIns code)
theorem toL_ok (code : List Ins) (hj : JumpsOK code) : JumpsOK (toL code) := by
  intro i hi
  have hi' : i < code.length := by simpa [toL] using hi
  have e : nth (toL code) i = straightIns code (nth code i) := nth_map' _ _ _ hi'
  have hl : (toL code).length = code.length := by simp [toL]
  rw [e, straightIns_op, hl]
  refine ⟨fun h => ?_, fun h => ?_⟩
  · have := (hj i hi').1 h
    have := endF_le code hj code.length (nth code i).a.toNat (by omega)
    have e2 : straightIns code (nth code i) = { nth code i with a := endF code code.length (nth code i).a.toNat } := by unfold straightIns; rw [if_pos h]
    rw [e2]
    show 0 ≤ ((endF code code.length (nth code i).a.toNat : Nat) : Int) ∧ ((endF code code.length (nth code i).a.toNat : Nat) : Int) ≤ _
    omega
  · have := (hj i hi').2 h
    have := endF_le code hj code.length (nth code i).b.toNat (by omega)
    have h14 : ¬ (nth code i).op = 14 := by omega
    have e2 : straightIns code (nth code i) = { nth code i with b := endF code code.length (nth code i).b.toNat } := by unfold straightIns; rw [if_neg h14, if_pos h]
    rw [e2]
    show 0 ≤ ((endF code code.length (nth code i).b.toNat : Nat) : Int) ∧ ((endF code code.length (nth code i).b.toNat : Nat) : Int) ≤ _
    omega
def becS (i : Nat) (x : Ins) : List Ins := if x.op = 14 ∧ x.a = ((i + 1 : Nat) : Int) then [] else [x]
theorem becS_len (i : Nat) (x : Ins) : (becS i x).length ≤ 1 := by unfold becS; split <;> simp
theorem becS_nth (i : Nat) (x : Ins) (k : Nat) (h : k < (becS i x).length) : nth (becS i x) k = x := by
  unfold becS at h ⊢
  split at h
  · simp at h
  · rename_i hn
    rw [if_neg hn]
    obtain rfl : k = 0 := by simpa using h
    rfl
theorem becS_ok (code : List Ins) (hj : JumpsOK code) : BecB becS code := by
  intro i hi k hk
  rw [becS_nth _ _ _ hk]
  have := hj i hi
  refine ⟨?_, ?_⟩
  · by_cases h : (nth code i).op = 14
    · exact .inr (.inr (this.1 h))
    · exact .inl h
  · by_cases h : (nth code i).op = 15
    · exact .inr (.inr (this.2 h))
    · exact .inl h
def straightL (code : List Ins) : List Ins := movedL becS (toL code)
theorem ok_thread {code : Ls (Ls Ins)} {words : Ls Int} {locks regs : Int} (h : OkPg (pgOf code words locks regs)) (t : Nat) (ht : t < code.l.length) : (nth code.l t).l.length ≤ 400 ∧ JumpsOK (nth code.l t).l := by
  have e : nth (pgOf code words locks regs).code t = (nth code.l t).l := nth_map' _ _ _ ht
  have ht' : t < (pgOf code words locks regs).code.length := by simpa [pgOf] using ht
  refine ⟨by rw [← e]; exact h.len t ht', fun i hi => ?_⟩
  have hi2 := h.ins t i ht' (by rw [e]; exact hi)
  rw [e] at hi2
  have hw : wrap64 (((nth code.l t).l.length : Int) + 1) = ((nth code.l t).l.length : Int) + 1 := by
    have hlen := h.len t ht'
    rw [e] at hlen
    exact IntWalk.wrap64_in _ ⟨by omega, by omega⟩
  refine ⟨fun h14 => ?_, fun h15 => ?_⟩
  · have h0 := hi2.n0
    unfold okNumG at h0
    rw [h14] at h0
    have hk : kindsB 14 = ⟨#[99]⟩ := by unfold kindsB; simp
    rw [hk] at h0
    simp only [show (0 : Nat) < (⟨#[99]⟩ : ByteArray).size from by decide, dif_pos] at h0
    have : fitsG (pgOf code words locks regs) (nth code.l t).l.length 99 (nth (nth code.l t).l i).a = true := h0
    unfold fitsG at this
    simp only [Int.reduceEq, if_false, if_true, hw, Bool.and_eq_true, decide_eq_true_eq] at this
    omega
  · have h0 := hi2.n1
    unfold okNumG at h0
    rw [h15] at h0
    have hk : kindsB 15 = ⟨#[114, 99]⟩ := by unfold kindsB; simp
    rw [hk] at h0
    simp only [show (1 : Nat) < (⟨#[114, 99]⟩ : ByteArray).size from by decide, dif_pos] at h0
    have : fitsG (pgOf code words locks regs) (nth code.l t).l.length 99 (nth (nth code.l t).l i).b = true := h0
    unfold fitsG at this
    simp only [Int.reduceEq, if_false, if_true, hw, Bool.and_eq_true, decide_eq_true_eq] at this
    omega
theorem ok_len {code : Ls (Ls Ins)} {words : Ls Int} {locks regs : Int} (h : OkPg (pgOf code words locks regs)) : 1 ≤ code.l.length ∧ code.l.length ≤ 4 ∧ words.l.length ≤ 64 ∧ 0 ≤ locks ∧ locks ≤ 4 ∧ 1 ≤ regs ∧ regs ≤ 200 := by
  have h1 := h.code
  have h2 := h.words
  have h3 := h.locks
  have h4 := h.regs
  simp only [pgOf, List.length_map] at h1 h2 h3 h4
  omega

set_option maxRecDepth 100000 in
set_option maxHeartbeats 1000000 in
theorem straight1_c (i : Nat) (x : Ins) (W : World) (hi : i ≤ 100000) :
    Rets Try.prog 51 [.int .i64 ((i : Nat) : Int), .agg #[.int .i64 x.op, .int .i64 x.a, .int .i64 x.b, .int .i64 x.c]] W (fun v w' => ∃ s : Ls Ins, v = s.v ∧ Sh0 W w' [.own 32 (⟨s.v, becS i x⟩ : Ls Ins)]) := by
 refine x_enter (N := 17) Try.func51 rfl Try.ntmps51 (Nat.le_of_ble_eq_true rfl) fun a1 hf1 => ?_
 have h1 : St 17 (fun _ => False) W a1 W [(0, .int .i64 ((i : Nat) : Int)), (1, .agg #[.int .i64 x.op, .int .i64 x.a, .int .i64 x.b, .int .i64 x.c])] [] := ⟨hf1.sub ⟨rfl, rfl, trivial⟩, Sh0.start _⟩
 clear hf1
 refine wp_seq_k fun K2 hK2 => wp_region_lit ?_
 refine wl_ex (x_box (cs := [.int .i64 x.op, .int .i64 x.a, .int .i64 x.b, .int .i64 x.c]) h1 rfl rfl rfl rfl rfl) (wanted_none rfl _) ?_
 rintro a3 w3 ⟨b3, h3⟩; clear h1
 refine wms 1 h3 rfl fun a4 h4 => ?_; clear h3
 refine wpList_nil (hK2 _ _ ?_)
 refine wp_seq_k fun K5 hK5 => ?_
 refine wp_seq_k fun K6 hK6 => wp_region_lit ?_
 refine wv h4 (r_fieldB (r := 0) fl_32_0 rfl rfl rfl) rfl rfl fun a7 h7 => ?_; clear h4
 refine wv h7 (r_ldb (i := 0) ti_3 rfl rfl rfl rfl) rfl rfl fun a8 h8 => ?_; clear h7
 refine wv h8 (r_eqlI (p := x.op) (q := 14) rfl rfl rfl) rfl rfl fun a9 h9 => ?_; clear h8
 refine wms 1 h9 rfl fun a10 h10 => ?_; clear h9
 rcases Bool.eq_false_or_eq_true (decide (x.op = 14)) with hb11 | hb11
 ·
  have hp11 : x.op = 14 := of_decide_eq_true hb11
  refine wl_val h10 (r_fieldB (r := 1) fl_32_1 rfl rfl rfl) (wanted_yes h10.fr rfl rfl rfl rfl hb11) rfl rfl fun a12 h12 => ?_; clear h10
  refine wl_val h12 (r_ldb (i := 0) ti_3 rfl rfl rfl rfl) (wanted_yes h12.fr rfl rfl rfl rfl hb11) rfl rfl fun a13 h13 => ?_; clear h12
  refine wl_val h13 (r_move rfl rfl) (wanted_yes h13.fr rfl rfl rfl rfl hb11) rfl rfl fun a14 h14 => ?_; clear h13
  refine wl_val h14 (r_addN (p := i) (q := 1) rfl rfl rfl (show i + 1 < 9223372036854775808 from (by omega))) (wanted_yes h14.fr rfl rfl rfl rfl hb11) rfl rfl fun a15 h15 => ?_; clear h14
  refine wl_val h15 (r_eqlI (p := x.a) (q := ((i + 1 : Nat) : Int)) rfl rfl rfl) (wanted_yes h15.fr rfl rfl rfl rfl hb11) rfl rfl fun a16 h16 => ?_; clear h15
  refine wv h16 (r_pickT rfl rfl hb11 rfl) rfl rfl fun a17 h17 => ?_; clear h16
  refine wpList_nil (hK6 _ _ ?_)
  refine x_cond h17 rfl (fun hb18 => ?_) (fun hb18 => ?_)
  ·
   have hp18 : x.a = ((i + 1 : Nat) : Int) := of_decide_eq_true hb18
   refine wp_seq_k fun K19 hK19 => wp_region_lit ?_
   refine wms 1 h17 rfl fun a20 h20 => ?_; clear h17
   refine wpList_nil (hK19 _ _ ?_)
   refine wp_ret ?_
   try simp only [Exit.then, Exit.inBlock]
   refine x_ret1 (fn := Try.f51) (t := 4) rfl h20 rfl ?_
   refine ⟨⟨.slice none 0 0, []⟩, rfl, ?_⟩
   rw [show becS i x = [] from by unfold becS; rw [if_pos (by omega)]]
   exact (h20.sh.nil (α := Ins) 32).sel (L' := [_]) [0] (by decide) ⟨rfl, trivial⟩
  have hp18 : ¬ (x.a = ((i + 1 : Nat) : Int)) := of_decide_eq_false hb18
  refine wp_skip ?_
  refine hK5 _ _ ?_
  refine wp_seq_k fun K21 hK21 => wp_region_lit ?_
  refine wv h17 (r_ldbw (i := 0) (vs := [.int .i64 x.op, .int .i64 x.a, .int .i64 x.b, .int .i64 x.c]) ti_32 rfl rfl rfl rfl rfl) rfl rfl fun a22 h22 => ?_; clear h17
  refine wl_ex (x_lit (n := 1) (cs := [.int .i64 x.op, .int .i64 x.a, .int .i64 x.b, .int .i64 x.c]) ([x] : List Ins) h22 sl_33 ti_32 rfl rfl rfl (by decide) rfl (by kernel_rfl) rfl (fun q hq w h => Flat.inner _ _) (fun q hq b hb => (Flat.on _ _ hb).elim) rfl rfl) (wanted_none rfl _) ?_
  rintro a23 w23 ⟨v23, h23⟩; clear h22
  refine wms 1 h23 rfl fun a24 h24 => ?_; clear h23
  refine wpList_nil (hK21 _ _ ?_)
  refine wp_ret ?_
  try simp only [Exit.then, Exit.inBlock]
  refine x_ret1 (fn := Try.f51) (t := 4) rfl h24 rfl ?_
  refine ⟨⟨v23, []⟩, rfl, ?_⟩
  rw [show becS i x = [x] from by unfold becS; rw [if_neg (by omega)]]
  exact (h24.sh.sel (L' := [.own 32 (⟨v23, [x]⟩ : Ls Ins)]) [0] (by decide) ⟨rfl, trivial⟩)
 have hp11 : ¬ (x.op = 14) := of_decide_eq_false hb11
 refine wl_skip h10 (wanted_no h10.fr rfl rfl rfl rfl hb11) rfl rfl fun a25 h25 => ?_; clear h10
 refine wl_skip h25 (wanted_no h25.fr rfl rfl rfl rfl hb11) rfl rfl fun a26 h26 => ?_; clear h25
 refine wl_skip h26 (wanted_no h26.fr rfl rfl rfl rfl hb11) rfl rfl fun a27 h27 => ?_; clear h26
 refine wl_skip h27 (wanted_no h27.fr rfl rfl rfl rfl hb11) rfl rfl fun a28 h28 => ?_; clear h27
 refine wl_skip h28 (wanted_no h28.fr rfl rfl rfl rfl hb11) rfl rfl fun a29 h29 => ?_; clear h28
 refine wv h29 (r_pickF rfl rfl hb11 rfl) rfl rfl fun a30 h30 => ?_; clear h29
 refine wpList_nil (hK6 _ _ ?_)
 refine x_condF h30 rfl rfl ?_
 refine wp_skip ?_
 refine hK5 _ _ ?_
 refine wp_seq_k fun K31 hK31 => wp_region_lit ?_
 refine wv h30 (r_ldbw (i := 0) (vs := [.int .i64 x.op, .int .i64 x.a, .int .i64 x.b, .int .i64 x.c]) ti_32 rfl rfl rfl rfl rfl) rfl rfl fun a32 h32 => ?_; clear h30
 refine wl_ex (x_lit (n := 1) (cs := [.int .i64 x.op, .int .i64 x.a, .int .i64 x.b, .int .i64 x.c]) ([x] : List Ins) h32 sl_33 ti_32 rfl rfl rfl (by decide) rfl (by kernel_rfl) rfl (fun q hq w h => Flat.inner _ _) (fun q hq b hb => (Flat.on _ _ hb).elim) rfl rfl) (wanted_none rfl _) ?_
 rintro a33 w33 ⟨v33, h33⟩; clear h32
 refine wms 1 h33 rfl fun a34 h34 => ?_; clear h33
 refine wpList_nil (hK31 _ _ ?_)
 refine wp_ret ?_
 try simp only [Exit.then, Exit.inBlock]
 refine x_ret1 (fn := Try.f51) (t := 4) rfl h34 rfl ?_
 refine ⟨⟨v33, []⟩, rfl, ?_⟩
 rw [show becS i x = [x] from by unfold becS; rw [if_neg (by omega)]]
 exact (h34.sh.sel (L' := [.own 32 (⟨v33, [x]⟩ : Ls Ins)]) [0] (by decide) ⟨rfl, trivial⟩)

end Go.Proofs.Ytfpaahkleienoaa
