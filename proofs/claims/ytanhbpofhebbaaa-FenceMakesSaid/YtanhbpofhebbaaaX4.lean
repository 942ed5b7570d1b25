/-
  Contracts of functions of this program and of the references, each walked once.
-/
import Derived.Test.YtanhbpofhebbaaaX3
namespace Go.Proofs.Ytanhbpofhebbaaa
open Go.RowKit
set_option linter.unusedSimpArgs false
set_option linter.unusedVariables false


theorem endF_le (code : List Ins) (hj : JumpsOK code) : ∀ (n at_ : Nat), at_ ≤ code.length → endF code n at_ ≤ code.length
  | 0, at_, h => h
  | n + 1, at_, h => by
    unfold endF
    split
    · rename_i hh
      have := (hj at_ hh.1).1 hh.2
      exact endF_le code hj n _ (by omega)
    · exact h
def straightIns (code : List Ins) (x : Ins) : Ins :=
  if x.op = 14 then { x with a := endF code code.length x.a.toNat } else if x.op = 15 then { x with b := endF code code.length x.b.toNat } else x
theorem straightIns_op (code : List Ins) (x : Ins) : (straightIns code x).op = x.op := by unfold straightIns; split; rfl; split <;> rfl
def toL (code : List Ins) : List Ins := code.map (straightIns code)
theorem toL_ok (code : List Ins) (hj : JumpsOK code) : JumpsOK (toL code) := by
  intro i hi
  have hi' : i < code.length := by simpa [toL] using hi
  have e : nth (toL code) i = straightIns code (nth code i) := nth_map' _ _ _ hi'
  have hl : (toL code).length = code.length := by simp [toL]
  rw [e, straightIns_op, hl]
  refine ⟨fun h => ?_, fun h => ?_⟩
  · have := (hj i hi').1 h
    have := endF_le code hj code.length (nth code i).a.toNat (by omega)
    have e2 : straightIns code (nth code i) = { nth code i with a := endF code code.length (nth code i).a.toNat } := by unfold straightIns; rw [if_pos h]
    rw [e2]
    show 0 ≤ ((endF code code.length (nth code i).a.toNat : Nat) : Int) ∧ ((endF code code.length (nth code i).a.toNat : Nat) : Int) ≤ _
    omega
  · have := (hj i hi').2 h
    have := endF_le code hj code.length (nth code i).b.toNat (by omega)
    have h14 : ¬ (nth code i).op = 14 := by omega
    have e2 : straightIns code (nth code i) = { nth code i with b := endF code code.length (nth code i).b.toNat } := by unfold straightIns; rw [if_neg h14, if_pos h]
    rw [e2]
    show 0 ≤ ((endF code code.length (nth code i).b.toNat : Nat) : Int) ∧ ((endF code code.length (nth code i).b.toNat : Nat) : Int) ≤ _
    omega
def becS (i : Nat) (x : Ins) : List Ins := if x.op = 14 ∧ x.a = ((i + 1 : Nat) : Int) then [] else [x]
theorem becS_len (i : Nat) (x : Ins) : (becS i x).length ≤ 1 := by unfold becS; split <;> simp
theorem becS_nth (i : Nat) (x : Ins) (k : Nat) (h : k < (becS i x).length) : nth (becS i x) k = x := by
  unfold becS at h ⊢
  split at h
  · simp at h
  · rename_i hn
    rw [if_neg hn]
    obtain rfl : k = 0 := by simpa using h
    rfl
theorem becS_ok (code : List Ins) (hj : JumpsOK code) : BecB becS code := by
  intro i hi k hk
  rw [becS_nth _ _ _ hk]
  have := hj i hi
  refine ⟨?_, ?_⟩
  · by_cases h : (nth code i).op = 14
    · exact .inr (.inr (this.1 h))
    · exact .inl h
  · by_cases h : (nth code i).op = 15
    · exact .inr (.inr (this.2 h))
    · exact .inl h
theorem becS_ok2 (code : List Ins) (hj : JumpsOK code) (bc : List (Ls Ins)) (hb : bc.map (·.l) = becL becS code) : BecomeOK2 bc code := by
  intro i hi k hk
  have hl : bc.length = code.length := by have := congrArg List.length hb; simpa [becL] using this
  have e : (nth bc i).l = becS i (nth code i) := by
    rw [← nth_map' (fun x : Ls Ins => x.l) bc i (by omega), hb, becL_nth _ _ _ hi]
  rw [e] at hk ⊢
  exact becS_ok code hj i hi k hk
theorem moved_put (B : Nat → Ins → List Ins) (code : List Ins) (h : ∀ i, i < code.length → ∀ x ∈ B i (nth code i), x.op = 15 → (nth code i).op ≠ 17) : movedL B code = putL (becL B code) code := by
  unfold movedL putL putUpto
  simp only [List.flatMap]
  congr 1
  apply List.map_congr_left
  intro i hi
  have hi' : i < code.length := by simpa using hi
  rw [becL_nth _ _ _ hi']
  apply List.map_congr_left
  intro x hx
  unfold fixMv fixIns
  have := h i hi' x hx
  split
  · rfl
  · split
    · rfl
    · rw [if_neg (fun hh => this hh.1 hh.2)]
theorem becS_put (code : List Ins) : movedL becS code = putL (becL becS code) code := by
  refine moved_put _ _ fun i hi x hx h15 => ?_
  unfold becS at hx
  split at hx
  · cases hx
  · obtain rfl : x = nth code i := by simpa using hx
    omega
def straightL (code : List Ins) : List Ins := movedL becS (toL code)
theorem ok_thread {code : Ls (Ls Ins)} {words : Ls Int} {locks regs : Int} (h : OkPg (pgOf code words locks regs)) (t : Nat) (ht : t < code.l.length) : (nth code.l t).l.length ≤ 400 ∧ JumpsOK (nth code.l t).l := by
  have e : nth (pgOf code words locks regs).code t = (nth code.l t).l := nth_map' _ _ _ ht
  have ht' : t < (pgOf code words locks regs).code.length := by simpa [pgOf] using ht
  refine ⟨by rw [← e]; exact h.len t ht', fun i hi => ?_⟩
  have hi2 := h.ins t i ht' (by rw [e]; exact hi)
  rw [e] at hi2
  have hw : wrap64 (((nth code.l t).l.length : Int) + 1) = ((nth code.l t).l.length : Int) + 1 := by
    have hlen := h.len t ht'
    rw [e] at hlen
    exact IntWalk.wrap64_in _ ⟨by omega, by omega⟩
  refine ⟨fun h14 => ?_, fun h15 => ?_⟩
  · have h0 := hi2.n0
    unfold okNumG at h0
    rw [h14] at h0
    have hk : kindsB 14 = ⟨#[99]⟩ := by unfold kindsB; simp
    rw [hk] at h0
    simp only [show (0 : Nat) < (⟨#[99]⟩ : ByteArray).size from by decide, dif_pos] at h0
    have : fitsG (pgOf code words locks regs) (nth code.l t).l.length 99 (nth (nth code.l t).l i).a = true := h0
    unfold fitsG at this
    simp only [Int.reduceEq, if_false, if_true, hw, Bool.and_eq_true, decide_eq_true_eq] at this
    omega
  · have h0 := hi2.n1
    unfold okNumG at h0
    rw [h15] at h0
    have hk : kindsB 15 = ⟨#[114, 99]⟩ := by unfold kindsB; simp
    rw [hk] at h0
    simp only [show (1 : Nat) < (⟨#[114, 99]⟩ : ByteArray).size from by decide, dif_pos] at h0
    have : fitsG (pgOf code words locks regs) (nth code.l t).l.length 99 (nth (nth code.l t).l i).b = true := h0
    unfold fitsG at this
    simp only [Int.reduceEq, if_false, if_true, hw, Bool.and_eq_true, decide_eq_true_eq] at this
    omega
theorem ok_len {code : Ls (Ls Ins)} {words : Ls Int} {locks regs : Int} (h : OkPg (pgOf code words locks regs)) : 1 ≤ code.l.length ∧ code.l.length ≤ 4 ∧ words.l.length ≤ 64 ∧ 0 ≤ locks ∧ locks ≤ 4 ∧ 1 ≤ regs ∧ regs ≤ 200 := by
  have h1 := h.code
  have h2 := h.words
  have h3 := h.locks
  have h4 := h.regs
  simp only [pgOf, List.length_map] at h1 h2 h3 h4
  omega

set_option maxRecDepth 100000 in
set_option maxHeartbeats 1000000 in
theorem straight1_c (i : Nat) (x : Ins) (W : World) (hi : i ≤ 100000) :
    Rets Try.prog 71 [.int .i64 ((i : Nat) : Int), .agg #[.int .i64 x.op, .int .i64 x.a, .int .i64 x.b, .int .i64 x.c]] W (fun v w' => ∃ s : Ls Ins, v = s.v ∧ Sh0 W w' [.own 73 (⟨s.v, becS i x⟩ : Ls Ins)]) := by
  refine x_enter (N := 17) Try.func71 rfl Try.ntmps71 (Nat.le_of_ble_eq_true rfl) fun a1 hf1 => ?_
  have h1 : St 17 (fun _ => False) W a1 W [(0, .int .i64 ((i : Nat) : Int)), (1, .agg #[.int .i64 x.op, .int .i64 x.a, .int .i64 x.b, .int .i64 x.c])] [] := ⟨hf1.sub ⟨rfl, rfl, trivial⟩, Sh0.start _⟩
  clear hf1
  refine wp_seq_k fun K2 hK2 => ?_
  refine wp_region_lit ?_
  refine wl_ex (x_box (cs := [.int .i64 x.op, .int .i64 x.a, .int .i64 x.b, .int .i64 x.c]) h1 rfl rfl rfl rfl rfl) (wanted_none rfl _) ?_
  rintro a3 w3 ⟨b3, h3⟩
  clear h1
  refine wms 1 h3 rfl fun a4 h4 => ?_
  clear h3
  refine wpList_nil ?_
  refine hK2 _ _ ?_
  refine wp_seq_k fun K5 hK5 => ?_
  refine wp_seq_k fun K6 hK6 => ?_
  refine wp_region_lit ?_
  refine wv h4 (r_fieldB (r := 0) fl_73_0 rfl rfl rfl) rfl rfl fun a7 h7 => ?_
  clear h4
  refine wv h7 (r_ldb (i := 0) ti_3 rfl rfl rfl rfl) rfl rfl fun a8 h8 => ?_
  clear h7
  refine wv h8 (r_eqlI (p := x.op) (q := 14) rfl rfl rfl) rfl rfl fun a9 h9 => ?_
  clear h8
  refine wms 1 h9 rfl fun a10 h10 => ?_
  clear h9
  rcases Bool.eq_false_or_eq_true (decide (x.op = 14)) with hb11 | hb11
  ·
    have hp11 : x.op = 14 := of_decide_eq_true hb11
    refine wl_val h10 (r_fieldB (r := 1) fl_73_1 rfl rfl rfl) (wanted_yes h10.fr rfl rfl rfl rfl hb11) rfl rfl fun a12 h12 => ?_
    clear h10
    refine wl_val h12 (r_ldb (i := 0) ti_3 rfl rfl rfl rfl) (wanted_yes h12.fr rfl rfl rfl rfl hb11) rfl rfl fun a13 h13 => ?_
    clear h12
    refine wl_val h13 (r_move rfl rfl) (wanted_yes h13.fr rfl rfl rfl rfl hb11) rfl rfl fun a14 h14 => ?_
    clear h13
    refine wl_val h14 (r_addN (p := i) (q := 1) rfl rfl rfl (show i + 1 < 9223372036854775808 from (by first | omega | (simp only [List.length_append, List.length_cons, List.length_nil, List.length_set, List.length_replicate, List.length_map, List.length_range]; omega)))) (wanted_yes h14.fr rfl rfl rfl rfl hb11) rfl rfl fun a15 h15 => ?_
    clear h14
    refine wl_val h15 (r_eqlI (p := x.a) (q := ((i + 1 : Nat) : Int)) rfl rfl rfl) (wanted_yes h15.fr rfl rfl rfl rfl hb11) rfl rfl fun a16 h16 => ?_
    clear h15
    refine wv h16 (r_pickT rfl rfl hb11 rfl) rfl rfl fun a17 h17 => ?_
    clear h16
    refine wpList_nil ?_
    refine hK6 _ _ ?_
    refine x_cond h17 rfl (fun hb18 => ?_) (fun hb18 => ?_)
    ·
      have hp18 : x.a = ((i + 1 : Nat) : Int) := of_decide_eq_true hb18
      refine wp_seq_k fun K19 hK19 => ?_
      refine wp_region_lit ?_
      refine wms 1 h17 rfl fun a20 h20 => ?_
      clear h17
      refine wpList_nil ?_
      refine hK19 _ _ ?_
      refine wp_ret ?_
      try simp only [Exit.then, Exit.inBlock]
      refine x_ret1 (fn := Try.f71) (t := 4) rfl h20 rfl ?_
      refine ⟨⟨.slice none 0 0, []⟩, rfl, ?_⟩
      rw [show becS i x = [] from by unfold becS; rw [if_pos (by omega)]]
      exact (h20.sh.nil (α := Ins) 73).sel (L' := [_]) [0] (by decide) ⟨rfl, trivial⟩
    ·
      have hp18 : ¬ (x.a = ((i + 1 : Nat) : Int)) := of_decide_eq_false hb18
      refine wp_skip ?_
      refine hK5 _ _ ?_
      refine wp_seq_k fun K21 hK21 => ?_
      refine wp_region_lit ?_
      refine wv h17 (r_ldbw (i := 0) (vs := [.int .i64 x.op, .int .i64 x.a, .int .i64 x.b, .int .i64 x.c]) ti_73 rfl rfl rfl rfl rfl) rfl rfl fun a22 h22 => ?_
      clear h17
      refine wl_ex (x_lit (n := 1) (cs := [.int .i64 x.op, .int .i64 x.a, .int .i64 x.b, .int .i64 x.c]) ([⟨x.op, x.a, x.b, x.c⟩] : List Ins) h22 sl_64 ti_73 rfl rfl rfl (by decide) rfl (by kernel_rfl) rfl (fun q hq w h => Flat.inner _ _) (fun q hq b hb => (Flat.on _ _ hb).elim) rfl rfl) (wanted_none rfl _) ?_
      rintro a23 w23 ⟨v23, h23⟩
      clear h22
      refine wms 1 h23 rfl fun a24 h24 => ?_
      clear h23
      refine wpList_nil ?_
      refine hK21 _ _ ?_
      refine wp_ret ?_
      try simp only [Exit.then, Exit.inBlock]
      refine x_ret1 (fn := Try.f71) (t := 4) rfl h24 rfl ?_
      refine ⟨⟨v23, []⟩, rfl, ?_⟩
      rw [show becS i x = [x] from by unfold becS; rw [if_neg (by omega)]]
      exact (h24.sh.sel (L' := [.own 73 (⟨v23, [⟨x.op, x.a, x.b, x.c⟩]⟩ : Ls Ins)]) [0] (by decide) ⟨rfl, trivial⟩)
  ·
    have hp11 : ¬ (x.op = 14) := of_decide_eq_false hb11
    refine wl_skip h10 (wanted_no h10.fr rfl rfl rfl rfl hb11) rfl rfl fun a25 h25 => ?_
    clear h10
    refine wl_skip h25 (wanted_no h25.fr rfl rfl rfl rfl hb11) rfl rfl fun a26 h26 => ?_
    clear h25
    refine wl_skip h26 (wanted_no h26.fr rfl rfl rfl rfl hb11) rfl rfl fun a27 h27 => ?_
    clear h26
    refine wl_skip h27 (wanted_no h27.fr rfl rfl rfl rfl hb11) rfl rfl fun a28 h28 => ?_
    clear h27
    refine wl_skip h28 (wanted_no h28.fr rfl rfl rfl rfl hb11) rfl rfl fun a29 h29 => ?_
    clear h28
    refine wv h29 (r_pickF rfl rfl hb11 rfl) rfl rfl fun a30 h30 => ?_
    clear h29
    refine wpList_nil ?_
    refine hK6 _ _ ?_
    refine x_condF h30 rfl rfl ?_
    refine wp_skip ?_
    refine hK5 _ _ ?_
    refine wp_seq_k fun K31 hK31 => ?_
    refine wp_region_lit ?_
    refine wv h30 (r_ldbw (i := 0) (vs := [.int .i64 x.op, .int .i64 x.a, .int .i64 x.b, .int .i64 x.c]) ti_73 rfl rfl rfl rfl rfl) rfl rfl fun a32 h32 => ?_
    clear h30
    refine wl_ex (x_lit (n := 1) (cs := [.int .i64 x.op, .int .i64 x.a, .int .i64 x.b, .int .i64 x.c]) ([⟨x.op, x.a, x.b, x.c⟩] : List Ins) h32 sl_64 ti_73 rfl rfl rfl (by decide) rfl (by kernel_rfl) rfl (fun q hq w h => Flat.inner _ _) (fun q hq b hb => (Flat.on _ _ hb).elim) rfl rfl) (wanted_none rfl _) ?_
    rintro a33 w33 ⟨v33, h33⟩
    clear h32
    refine wms 1 h33 rfl fun a34 h34 => ?_
    clear h33
    refine wpList_nil ?_
    refine hK31 _ _ ?_
    refine wp_ret ?_
    try simp only [Exit.then, Exit.inBlock]
    refine x_ret1 (fn := Try.f71) (t := 4) rfl h34 rfl ?_
    refine ⟨⟨v33, []⟩, rfl, ?_⟩
    rw [show becS i x = [x] from by unfold becS; rw [if_neg (by omega)]]
    exact (h34.sh.sel (L' := [.own 73 (⟨v33, [⟨x.op, x.a, x.b, x.c⟩]⟩ : Ls Ins)]) [0] (by decide) ⟨rfl, trivial⟩)

set_option maxRecDepth 10000 in
set_option maxHeartbeats 4000000 in
theorem rStraight_c (code : Ls (Ls Ins)) (words : Ls Int) (locks regs : Int) (W : World) (hcode : code.At W) (hwords : words.At W) (hok : OkPg (pgOf code words locks regs)) :
    Rets Try.prog 28 [.agg #[code.v, words.v, .int .i64 locks, .int .i64 regs]] W (fun v w' => ∃ (c : Ls (Ls Ins)) (u : Ls Int), v = .agg #[c.v, u.v, .int .i64 locks, .int .i64 regs] ∧ c.l.map (·.l) = (code.l.map (·.l)).map straightL ∧ u.l = words.l ∧ Sh0 W w' [.deep 64 c, .own 3 u]) := by
  obtain ⟨hl1, hl2, hl3, hl4', hl5, hl6, hl7⟩ := ok_len hok
  refine x_enter (N := 107) Try.func28 rfl Try.ntmps28 (Nat.le_of_ble_eq_true rfl) fun a1 hf1 => ?_
  have h1 : St 107 (fun _ => False) W a1 W [(0, .agg #[code.v, words.v, .int .i64 locks, .int .i64 regs])] [.at_ code, .at_ words] := ⟨hf1.sub ⟨rfl, trivial⟩, Sh0.ext2 hcode hwords⟩
  clear hf1
  refine wp_seq_k fun K2 hK2 => ?_
  refine wp_region_lit ?_
  refine wl_ex (x_box (cs := [code.v, words.v, .int .i64 locks, .int .i64 regs]) h1 rfl rfl rfl rfl rfl) (wanted_none rfl _) ?_
  rintro a3 w3 ⟨b3, h3⟩
  clear h1
  refine wl_ex (x_alloc h3 ti_28 rfl rfl rfl) (wanted_none rfl _) ?_
  rintro a4 w4 ⟨b4, h4⟩
  clear h3
  refine wpList_nil ?_
  refine hK2 _ _ ?_
  refine wp_seq_k fun K5 hK5 => ?_
  refine wp_region_lit ?_
  refine wv h4 (r_fieldB (r := 2) fl_28_2 rfl rfl rfl) rfl rfl fun a6 h6 => ?_
  clear h4
  refine wv h6 (r_ldb (i := 1) ti_3 rfl rfl rfl rfl) rfl rfl fun a7 h7 => ?_
  clear h6
  refine wv h7 (r_fieldB (r := 3) fl_28_3 rfl rfl rfl) rfl rfl fun a8 h8 => ?_
  clear h7
  refine wv h8 (r_ldb (i := 1) ti_3 rfl rfl rfl rfl) rfl rfl fun a9 h9 => ?_
  clear h8
  refine wv h9 (r_build (cs := [(.slice none 0 0), (.slice none 0 0), .int .i64 locks, .int .i64 regs]) rfl rfl (by kernel_rfl)) rfl rfl fun a10 h10 => ?_
  clear h9
  refine wl_ex (x_alloc h10 ti_28 rfl rfl rfl) (wanted_none rfl _) ?_
  rintro a11 w11 ⟨b11, h11⟩
  clear h10
  refine wl_ex (x_stb (i := 0) (vs := [(.slice none 0 0), (.slice none 0 0), .int .i64 locks, .int .i64 regs]) (cs' := [(.slice none 0 0), (.slice none 0 0), .int .i64 locks, .int .i64 regs]) h11 ti_28 rfl rfl rfl rfl rfl rfl rfl (allOne_cons rfl (allOne_cons rfl (allOne_cons rfl (allOne_cons rfl allOne_nil)))) (Nat.le_of_ble_eq_true rfl) rfl) (wanted_none rfl _) ?_
  rintro a12 w12 h12
  clear h11
  refine wpList_nil ?_
  refine hK5 _ _ ?_
  refine wp_seq_k fun K13 hK13 => ?_
  refine wp_region_lit ?_
  refine wl_ex (x_lit0 (α := Int) h12 sl_24 ti_3 rfl rfl rfl) (wanted_none rfl _) ?_
  rintro a14 w14 ⟨v14, h14⟩
  clear h12
  refine wv h14 (r_fieldB (r := 1) fl_28_1 rfl rfl rfl) rfl rfl fun a15 h15 => ?_
  clear h14
  refine wv h15 (r_ldb (i := 3) ti_24 rfl rfl rfl rfl) rfl rfl fun a16 h16 => ?_
  clear h15
  refine wl_ex (x_app (r := 0) (rm := 5) (s := (⟨v14, []⟩ : Ls Int)) (m := words) h16 sl_24 ti_3 rfl rfl rfl rfl rfl rfl rfl (fun w h => (h.at 5 rfl)) (fun b hb => .inr hb) (fun q hq b hb => .inr ⟨q, hq, hb⟩) rfl rfl rfl inferInstance (show (([]).length + words.l.length) * 8 ≤ 140737488355328 ∧ ([]).length + words.l.length ≤ 140737488355328 from (by first | omega | (simp only [List.length_append, List.length_cons, List.length_nil, List.length_set, List.length_replicate, List.length_map, List.length_range]; omega))) rfl rfl) (wanted_none rfl _) ?_
  rintro a17 w17 ⟨v17, h17⟩
  clear h16
  refine wv h17 (r_fieldB (r := 1) fl_28_1 rfl rfl rfl) rfl rfl fun a18 h18 => ?_
  clear h17
  refine wl_ex (x_stb (i := 1) (vs := [v17]) (cs' := [(.slice none 0 0), v17, .int .i64 locks, .int .i64 regs]) h18 ti_24 rfl rfl rfl rfl rfl (cells_oneL ((h18.sh.own 0 rfl)).one) rfl (allOne_cons ((h18.sh.own 0 rfl)).one allOne_nil) (Nat.le_of_ble_eq_true rfl) rfl) (wanted_none rfl _) ?_
  rintro a19 w19 h19
  clear h18
  refine wpList_nil ?_
  refine hK13 _ _ ?_
  refine wp_seq_k fun K20 hK20 => ?_
  refine wp_seq_k fun K21 hK21 => ?_
  refine wp_region_lit ?_
  refine wms 1 h19 rfl fun a22 h22 => ?_
  clear h19
  refine wpList_nil ?_
  refine hK21 _ _ ?_
  refine wp_block ?_
  have h24 := h22.nilDeep (α := Ls Ins) 64
  clear h22
  refine x_loop (fun m a w => ∃ (t : Nat) (qs : List (Ls Ins)) (vq : Value), (t ≤ code.l.length) ∧ (qs.map (·.l) = ((code.l.take t).map (·.l)).map straightL) ∧ (qs.length = t) ∧ St 107 (fun _ => False) W a w [(1, .pointer (some ⟨b3, 0, none⟩)), (2, .pointer (some ⟨b4, 0, none⟩)), (3, .pointer (some ⟨b11, 0, none⟩)), (4, .int .i64 ((t : Nat) : Int))] [.own 3 (⟨v17, words.l⟩ : Ls Int), .blk b11 28 [vq, v17, .int .i64 locks, .int .i64 regs], .blk b4 28 [(.slice none 0 0), (.slice none 0 0), .int .i64 0, .int .i64 0], .blk b3 28 [code.v, words.v, .int .i64 locks, .int .i64 regs], .at_ code, .at_ words, .deep 64 (⟨vq, qs⟩ : Ls (Ls Ins))] ∧ m = code.l.length - t) ⟨_, 0, [], (.slice none 0 0), (by omega), (rfl), (rfl), ((h24.sub (F' := [(1, .pointer (some ⟨b3, 0, none⟩)), (2, .pointer (some ⟨b4, 0, none⟩)), (3, .pointer (some ⟨b11, 0, none⟩)), (4, .int .i64 0)]) ⟨rfl, rfl, rfl, rfl, trivial⟩).sel (L' := [.own 3 (⟨v17, words.l⟩ : Ls Int), .blk b11 28 [(.slice none 0 0), v17, .int .i64 locks, .int .i64 regs], .blk b4 28 [(.slice none 0 0), (.slice none 0 0), .int .i64 0, .int .i64 0], .blk b3 28 [code.v, words.v, .int .i64 locks, .int .i64 regs], .at_ code, .at_ words, .deep 64 (⟨.slice none 0 0, []⟩ : Ls (Ls Ins))]) [1, 2, 3, 4, 5, 6, 0] (by decide) ⟨rfl, rfl, rfl, rfl, rfl, rfl, rfl, trivial⟩), rfl⟩ ?_
  clear h24
  rintro m23 a23 w23 ⟨t, qs, vq, ht, hqs, hql, h23, hm23⟩
  refine wp_seq_k fun K25 hK25 => ?_
  refine wp_seq_k fun K26 hK26 => ?_
  refine wp_region_lit ?_
  refine wms 1 h23 rfl fun a27 h27 => ?_
  clear h23
  refine wv h27 (r_fieldB (r := 0) fl_28_0 rfl rfl rfl) rfl rfl fun a28 h28 => ?_
  clear h27
  refine wv h28 (r_ldb (i := 3) ti_26 rfl rfl rfl rfl) rfl rfl fun a29 h29 => ?_
  clear h28
  have hl30 : code.l.length ≤ 140737488355328 := (h29.sh.at 4 rfl).len
  refine wv h29 (r_len (s := code) (n := code.l.length) sl_26 rfl rfl (fun w h => (h.at 4 rfl)) rfl) rfl rfl fun a31 h31 => ?_
  clear h29
  refine wv h31 (r_lssN (p := t) (q := code.l.length) rfl rfl rfl) rfl rfl fun a32 h32 => ?_
  clear h31
  refine wpList_nil ?_
  refine hK26 _ _ ?_
  refine x_cond h32 rfl (fun hb33 => ?_) (fun hb33 => ?_)
  ·
    have hp33 : t < code.l.length := of_decide_eq_true hb33
    refine wp_skip ?_
    refine hK25 _ _ ?_
    refine wp_seq_k fun K34 hK34 => ?_
    refine wp_block ?_
    refine wp_seq_k fun K35 hK35 => ?_
    refine wp_region_lit ?_
    refine wv h32 (r_fieldB (r := 0) fl_28_0 rfl rfl rfl) rfl rfl fun a36 h36 => ?_
    clear h32
    refine wv h36 (r_ldb (i := 3) ti_26 rfl rfl rfl rfl) rfl rfl fun a37 h37 => ?_
    clear h36
    refine wms 1 h37 rfl fun a38 h38 => ?_
    clear h37
    refine wv h38 (r_ixN (s := code) (q := t) sl_26 ti_64 rfl rfl rfl (fun w h => (h.at 4 rfl)) (show t < code.l.length from (by first | omega | (simp only [List.length_append, List.length_cons, List.length_nil, List.length_set, List.length_replicate, List.length_map, List.length_range]; omega)))) rfl rfl fun a39 h39 => ?_
    clear h38
    refine wv h39 (r_lde (s := code) (i := t) (v := (nth code.l t).v) ti_64 rfl rfl rfl (fun w h => (h.at 4 rfl)) (show t < code.l.length from (by first | omega | (simp only [List.length_append, List.length_cons, List.length_nil, List.length_set, List.length_replicate, List.length_map, List.length_range]; omega))) (Nat.le_of_ble_eq_true rfl) rfl) rfl rfl fun a40 h40 => ?_
    clear h39
    refine wms 1 h40 rfl fun a41 h41 => ?_
    clear h40
    refine wpList_nil ?_
    refine hK35 _ _ ?_
    refine wp_seq_k fun K42 hK42 => ?_
    refine wp_region_lit ?_
    refine wms 1 h41 rfl fun a43 h43 => ?_
    clear h41
    refine wpList_nil ?_
    refine hK42 _ _ ?_
    refine wp_seq_k fun K44 hK44 => ?_
    refine wp_seq_k fun K45 hK45 => ?_
    refine wp_region_lit ?_
    refine wms 1 h43 rfl fun a46 h46 => ?_
    clear h43
    refine wpList_nil ?_
    refine hK45 _ _ ?_
    refine wp_block ?_
    have h48 := h46.nil (α := Ins) 73
    clear h46
    obtain ⟨hl4, hjt⟩ := ok_thread hok t (by omega)
    refine x_loop (fun m a w => ∃ (i : Nat) (tl : List Ins) (vt : Value), (i ≤ (nth code.l t).l.length) ∧ (tl = ((nth code.l t).l.take i).map (straightIns (nth code.l t).l)) ∧ (tl.length = i) ∧ St 107 (fun _ => False) W a w [(1, .pointer (some ⟨b3, 0, none⟩)), (2, .pointer (some ⟨b4, 0, none⟩)), (3, .pointer (some ⟨b11, 0, none⟩)), (4, .int .i64 ((t : Nat) : Int)), (5, (nth code.l t).v), (6, vt), (7, .int .i64 ((i : Nat) : Int))] [.own 3 (⟨v17, words.l⟩ : Ls Int), .blk b11 28 [vq, v17, .int .i64 locks, .int .i64 regs], .blk b4 28 [(.slice none 0 0), (.slice none 0 0), .int .i64 0, .int .i64 0], .blk b3 28 [code.v, words.v, .int .i64 locks, .int .i64 regs], .at_ code, .at_ words, .deep 64 (⟨vq, qs⟩ : Ls (Ls Ins)), .own 73 (⟨vt, tl⟩ : Ls Ins)] ∧ m = (nth code.l t).l.length - i) ⟨_, 0, [], (.slice none 0 0), (by omega), (rfl), (rfl), ((h48.sub (F' := [(1, .pointer (some ⟨b3, 0, none⟩)), (2, .pointer (some ⟨b4, 0, none⟩)), (3, .pointer (some ⟨b11, 0, none⟩)), (4, .int .i64 ((t : Nat) : Int)), (5, (nth code.l t).v), (6, (.slice none 0 0)), (7, .int .i64 0)]) ⟨rfl, rfl, rfl, rfl, rfl, rfl, rfl, trivial⟩).sel (L' := [.own 3 (⟨v17, words.l⟩ : Ls Int), .blk b11 28 [vq, v17, .int .i64 locks, .int .i64 regs], .blk b4 28 [(.slice none 0 0), (.slice none 0 0), .int .i64 0, .int .i64 0], .blk b3 28 [code.v, words.v, .int .i64 locks, .int .i64 regs], .at_ code, .at_ words, .deep 64 (⟨vq, qs⟩ : Ls (Ls Ins)), .own 73 (⟨.slice none 0 0, []⟩ : Ls Ins)]) [1, 2, 3, 4, 5, 6, 7, 0] (by decide) ⟨rfl, rfl, rfl, rfl, rfl, rfl, rfl, rfl, trivial⟩), rfl⟩ ?_
    clear h48
    rintro m47 a47 w47 ⟨i, tl, vt, hi, hto, htl, h47, hm47⟩
    refine wp_seq_k fun K49 hK49 => ?_
    refine wp_seq_k fun K50 hK50 => ?_
    refine wp_region_lit ?_
    refine wms 2 h47 rfl fun a51 h51 => ?_
    clear h47
    have hl52 : ((nth code.l t).l).length ≤ 140737488355328 := ((h51.sh.at 4 rfl).nth t (show t < code.l.length from (by first | omega | (simp only [List.length_append, List.length_cons, List.length_nil, List.length_set, List.length_replicate, List.length_map, List.length_range]; omega)))).len
    refine wv h51 (r_len (s := nth code.l t) (n := ((nth code.l t).l).length) sl_64 rfl rfl (fun w h => ((h.at 4 rfl).nth t (show t < code.l.length from (by first | omega | (simp only [List.length_append, List.length_cons, List.length_nil, List.length_set, List.length_replicate, List.length_map, List.length_range]; omega))))) rfl) rfl rfl fun a53 h53 => ?_
    clear h51
    refine wv h53 (r_lssN (p := i) (q := ((nth code.l t).l).length) rfl rfl rfl) rfl rfl fun a54 h54 => ?_
    clear h53
    refine wpList_nil ?_
    refine hK50 _ _ ?_
    refine x_cond h54 rfl (fun hb55 => ?_) (fun hb55 => ?_)
    ·
      have hp55 : i < ((nth code.l t).l).length := of_decide_eq_true hb55
      refine wp_skip ?_
      refine hK49 _ _ ?_
      refine wp_seq_k fun K56 hK56 => ?_
      refine wp_block ?_
      refine wp_seq_k fun K57 hK57 => ?_
      refine wp_region_lit ?_
      refine wms 2 h54 rfl fun a58 h58 => ?_
      clear h54
      refine wv h58 (r_ixN (s := nth code.l t) (q := i) sl_64 ti_73 rfl rfl rfl (fun w h => ((h.at 4 rfl).nth t (show t < code.l.length from (by first | omega | (simp only [List.length_append, List.length_cons, List.length_nil, List.length_set, List.length_replicate, List.length_map, List.length_range]; omega))))) (show i < ((nth code.l t).l).length from (by first | omega | (simp only [List.length_append, List.length_cons, List.length_nil, List.length_set, List.length_replicate, List.length_map, List.length_range]; omega)))) rfl rfl fun a59 h59 => ?_
      clear h58
      refine wv h59 (r_ldew (s := nth code.l t) (i := i) (vs := [.int .i64 ((nth ((nth code.l t).l) i).op), .int .i64 ((nth ((nth code.l t).l) i).a), .int .i64 ((nth ((nth code.l t).l) i).b), .int .i64 ((nth ((nth code.l t).l) i).c)]) ti_73 rfl rfl rfl (fun w h => ((h.at 4 rfl).nth t (show t < code.l.length from (by first | omega | (simp only [List.length_append, List.length_cons, List.length_nil, List.length_set, List.length_replicate, List.length_map, List.length_range]; omega))))) (show i < ((nth code.l t).l).length from (by first | omega | (simp only [List.length_append, List.length_cons, List.length_nil, List.length_set, List.length_replicate, List.length_map, List.length_range]; omega))) (Nat.le_of_ble_eq_true rfl) rfl) rfl rfl fun a60 h60 => ?_
      clear h59
      refine wl_ex (x_alloc h60 ti_73 rfl rfl rfl) (wanted_none rfl _) ?_
      rintro a61 w61 ⟨b61, h61⟩
      clear h60
      refine wl_ex (x_stb (i := 0) (vs := [.int .i64 ((nth ((nth code.l t).l) i).op), .int .i64 ((nth ((nth code.l t).l) i).a), .int .i64 ((nth ((nth code.l t).l) i).b), .int .i64 ((nth ((nth code.l t).l) i).c)]) (cs' := [.int .i64 ((nth ((nth code.l t).l) i).op), .int .i64 ((nth ((nth code.l t).l) i).a), .int .i64 ((nth ((nth code.l t).l) i).b), .int .i64 ((nth ((nth code.l t).l) i).c)]) h61 ti_73 rfl rfl rfl rfl rfl rfl rfl (allOne_cons rfl (allOne_cons rfl (allOne_cons rfl (allOne_cons rfl allOne_nil)))) (Nat.le_of_ble_eq_true rfl) rfl) (wanted_none rfl _) ?_
      rintro a62 w62 h62
      clear h61
      refine wpList_nil ?_
      refine hK57 _ _ ?_
      refine wp_seq_k fun K63 hK63 => ?_
      refine wp_seq_k fun K64 hK64 => ?_
      refine wp_region_lit ?_
      refine wv h62 (r_fieldB (r := 0) fl_73_0 rfl rfl rfl) rfl rfl fun a65 h65 => ?_
      clear h62
      refine wv h65 (r_ldb (i := 0) ti_3 rfl rfl rfl rfl) rfl rfl fun a66 h66 => ?_
      clear h65
      refine wv h66 (r_eqlI (p := (nth ((nth code.l t).l) i).op) (q := 14) rfl rfl rfl) rfl rfl fun a67 h67 => ?_
      clear h66
      refine wpList_nil ?_
      refine hK64 _ _ ?_
      refine x_cond h67 rfl (fun hb68 => ?_) (fun hb68 => ?_)
      ·
        have hp68 : (nth ((nth code.l t).l) i).op = 14 := of_decide_eq_true hb68
        refine wp_region_lit ?_
        refine wms 1 h67 rfl fun a69 h69 => ?_
        clear h67
        refine wv h69 (r_fieldB (r := 1) fl_73_1 rfl rfl rfl) rfl rfl fun a70 h70 => ?_
        clear h69
        refine wv h70 (r_ldb (i := 0) ti_3 rfl rfl rfl rfl) rfl rfl fun a71 h71 => ?_
        clear h70
        refine wl_ex (x_call h71 bd_72 rfl rfl rfl rfl rfl (rend_cI (nth code.l t) ((nth ((nth code.l t).l) i).a)  _ ((h71.sh.at 5 rfl).nth t (show t < code.l.length from (by first | omega | (simp only [List.length_append, List.length_cons, List.length_nil, List.length_set, List.length_replicate, List.length_map, List.length_range]; omega)))) hjt  (show 0 ≤ (nth ((nth code.l t).l) i).a ∧ (nth ((nth code.l t).l) i).a ≤ ((nth code.l t).l).length from (by have := (hjt i (by omega)).1 (by omega); omega)))) (wanted_none rfl _) ?_
        rintro a72 w72 ⟨_, ⟨rfl, hs72⟩, hf72⟩
        have h72 : St 107 (fun _ => False) W a72 w72 _ _ := ⟨hf72, h71.sh.call0 hs72⟩
        clear hf72 hs72
        clear h71
        refine wv h72 (r_fieldB (r := 1) fl_73_1 rfl rfl rfl) rfl rfl fun a73 h73 => ?_
        clear h72
        refine wl_ex (x_stb (i := 0) (vs := [.int .i64 ((endF ((nth code.l t).l) ((nth code.l t).l).length (((nth ((nth code.l t).l) i).a).toNat) : Nat) : Int)]) (cs' := [.int .i64 ((nth ((nth code.l t).l) i).op), .int .i64 ((endF ((nth code.l t).l) ((nth code.l t).l).length (((nth ((nth code.l t).l) i).a).toNat) : Nat) : Int), .int .i64 ((nth ((nth code.l t).l) i).b), .int .i64 ((nth ((nth code.l t).l) i).c)]) h73 ti_3 rfl rfl rfl rfl rfl rfl rfl (allOne_cons rfl allOne_nil) (Nat.le_of_ble_eq_true rfl) rfl) (wanted_none rfl _) ?_
        rintro a74 w74 h74
        clear h73
        refine wpList_nil ?_
        refine hK63 _ _ ?_
        refine wp_seq_k fun K75 hK75 => ?_
        refine wp_seq_k fun K76 hK76 => ?_
        refine wp_region_lit ?_
        refine wv h74 (r_fieldB (r := 0) fl_73_0 rfl rfl rfl) rfl rfl fun a77 h77 => ?_
        clear h74
        refine wv h77 (r_ldb (i := 0) ti_3 rfl rfl rfl rfl) rfl rfl fun a78 h78 => ?_
        clear h77
        refine wv h78 (r_eqlI (p := (nth ((nth code.l t).l) i).op) (q := 15) rfl rfl rfl) rfl rfl fun a79 h79 => ?_
        clear h78
        refine wpList_nil ?_
        refine hK76 _ _ ?_
        refine x_condF h79 rfl (decide_eq_false (by omega)) ?_
        refine wp_skip ?_
        refine hK75 _ _ ?_
        refine wp_region_lit ?_
        refine wms 1 h79 rfl fun a80 h80 => ?_
        clear h79
        refine wv h80 (r_ldbw (i := 0) (vs := [.int .i64 ((nth ((nth code.l t).l) i).op), .int .i64 ((endF ((nth code.l t).l) ((nth code.l t).l).length (((nth ((nth code.l t).l) i).a).toNat) : Nat) : Int), .int .i64 ((nth ((nth code.l t).l) i).b), .int .i64 ((nth ((nth code.l t).l) i).c)]) ti_73 rfl rfl rfl rfl rfl) rfl rfl fun a81 h81 => ?_
        clear h80
        refine wl_ex (x_lit (n := 1) (cs := [.int .i64 ((nth ((nth code.l t).l) i).op), .int .i64 ((endF ((nth code.l t).l) ((nth code.l t).l).length (((nth ((nth code.l t).l) i).a).toNat) : Nat) : Int), .int .i64 ((nth ((nth code.l t).l) i).b), .int .i64 ((nth ((nth code.l t).l) i).c)]) ([⟨(nth ((nth code.l t).l) i).op, ((endF ((nth code.l t).l) ((nth code.l t).l).length (((nth ((nth code.l t).l) i).a).toNat) : Nat) : Int), (nth ((nth code.l t).l) i).b, (nth ((nth code.l t).l) i).c⟩] : List Ins) h81 sl_64 ti_73 rfl rfl rfl (by decide) rfl (by kernel_rfl) rfl (fun q hq w h => Flat.inner _ _) (fun q hq b hb => (Flat.on _ _ hb).elim) rfl rfl) (wanted_none rfl _) ?_
        rintro a82 w82 ⟨v82, h82⟩
        clear h81
        refine wl_ex (x_app (r := 9) (rm := 0) (s := (⟨vt, tl⟩ : Ls Ins)) (m := (⟨v82, [⟨(nth ((nth code.l t).l) i).op, ((endF ((nth code.l t).l) ((nth code.l t).l).length (((nth ((nth code.l t).l) i).a).toNat) : Nat) : Int), (nth ((nth code.l t).l) i).b, (nth ((nth code.l t).l) i).c⟩]⟩ : Ls Ins)) h82 sl_64 ti_73 rfl rfl rfl rfl rfl rfl rfl (fun w h => (h.own 0 rfl)) (fun b hb => own_on (h82.sh.ok _ (List.mem_of_getElem? (i := 0) rfl)) hb) (fun q hq b hb => ⟨q, hq, hb⟩) rfl rfl rfl inferInstance (show (tl.length + ([⟨(nth ((nth code.l t).l) i).op, ((endF ((nth code.l t).l) ((nth code.l t).l).length (((nth ((nth code.l t).l) i).a).toNat) : Nat) : Int), (nth ((nth code.l t).l) i).b, (nth ((nth code.l t).l) i).c⟩]).length) * 32 ≤ 140737488355328 ∧ tl.length + ([⟨(nth ((nth code.l t).l) i).op, ((endF ((nth code.l t).l) ((nth code.l t).l).length (((nth ((nth code.l t).l) i).a).toNat) : Nat) : Int), (nth ((nth code.l t).l) i).b, (nth ((nth code.l t).l) i).c⟩]).length ≤ 140737488355328 from (by first | omega | (simp only [List.length_append, List.length_cons, List.length_nil, List.length_set, List.length_replicate, List.length_map, List.length_range]; omega))) rfl rfl) (wanted_none rfl _) ?_
        rintro a83 w83 ⟨v83, h83⟩
        clear h82
        refine wms 1 h83 rfl fun a84 h84 => ?_
        clear h83
        refine wpList_nil ?_
        refine hK56 _ _ ?_
        have h85 : St 107 (fun _ => False) W a84 w83 [(1, .pointer (some ⟨b3, 0, none⟩)), (2, .pointer (some ⟨b4, 0, none⟩)), (3, .pointer (some ⟨b11, 0, none⟩)), (4, .int .i64 ((t : Nat) : Int)), (5, (nth code.l t).v), (6, v83), (7, .int .i64 ((i : Nat) : Int))] [.own 73 (⟨v82, [⟨(nth ((nth code.l t).l) i).op, ((endF ((nth code.l t).l) ((nth code.l t).l).length (((nth ((nth code.l t).l) i).a).toNat) : Nat) : Int), (nth ((nth code.l t).l) i).b, (nth ((nth code.l t).l) i).c⟩]⟩ : Ls Ins), .blk b61 73 [.int .i64 ((nth ((nth code.l t).l) i).op), .int .i64 ((endF ((nth code.l t).l) ((nth code.l t).l).length (((nth ((nth code.l t).l) i).a).toNat) : Nat) : Int), .int .i64 ((nth ((nth code.l t).l) i).b), .int .i64 ((nth ((nth code.l t).l) i).c)], .own 3 (⟨v17, words.l⟩ : Ls Int), .blk b11 28 [vq, v17, .int .i64 locks, .int .i64 regs], .blk b4 28 [(.slice none 0 0), (.slice none 0 0), .int .i64 0, .int .i64 0], .blk b3 28 [code.v, words.v, .int .i64 locks, .int .i64 regs], .at_ code, .at_ words, .deep 64 (⟨vq, qs⟩ : Ls (Ls Ins)), .own 73 (⟨v83, tl ++ ([⟨(nth ((nth code.l t).l) i).op, ((endF ((nth code.l t).l) ((nth code.l t).l).length (((nth ((nth code.l t).l) i).a).toNat) : Nat) : Int), (nth ((nth code.l t).l) i).b, (nth ((nth code.l t).l) i).c⟩])⟩ : Ls Ins)] := h84.nrm ⟨rfl, rfl, rfl, rfl, rfl, rfl, rfl, trivial⟩ [0, 1, 2, 3, 4, 5, 6, 7, 8, 9] (by decide) ⟨rfl, rfl, rfl, rfl, rfl, rfl, rfl, rfl, rfl, rfl, trivial⟩
        clear h84
        refine wp_region_lit ?_
        refine wms 1 h85 rfl fun a86 h86 => ?_
        clear h85
        refine wv h86 (r_addN (p := i) (q := 1) rfl rfl rfl (show i + 1 < 9223372036854775808 from (by first | omega | (simp only [List.length_append, List.length_cons, List.length_nil, List.length_set, List.length_replicate, List.length_map, List.length_range]; omega)))) rfl rfl fun a87 h87 => ?_
        clear h86
        refine wms 1 h87 rfl fun a88 h88 => ?_
        clear h87
        refine wpList_nil ?_
        refine x_again ⟨_, ?_, i + 1, tl ++ ([⟨(nth ((nth code.l t).l) i).op, ((endF ((nth code.l t).l) ((nth code.l t).l).length (((nth ((nth code.l t).l) i).a).toNat) : Nat) : Int), (nth ((nth code.l t).l) i).b, (nth ((nth code.l t).l) i).c⟩]), v83, ?_, ?_, ?_, ((h88.sub (F' := [(1, .pointer (some ⟨b3, 0, none⟩)), (2, .pointer (some ⟨b4, 0, none⟩)), (3, .pointer (some ⟨b11, 0, none⟩)), (4, .int .i64 ((t : Nat) : Int)), (5, (nth code.l t).v), (6, v83), (7, .int .i64 ((i + 1 : Nat) : Int))]) ⟨rfl, rfl, rfl, rfl, rfl, rfl, rfl, trivial⟩).sel (L' := [.own 3 (⟨v17, words.l⟩ : Ls Int), .blk b11 28 [vq, v17, .int .i64 locks, .int .i64 regs], .blk b4 28 [(.slice none 0 0), (.slice none 0 0), .int .i64 0, .int .i64 0], .blk b3 28 [code.v, words.v, .int .i64 locks, .int .i64 regs], .at_ code, .at_ words, .deep 64 (⟨vq, qs⟩ : Ls (Ls Ins)), .own 73 (⟨v83, tl ++ ([⟨(nth ((nth code.l t).l) i).op, ((endF ((nth code.l t).l) ((nth code.l t).l).length (((nth ((nth code.l t).l) i).a).toNat) : Nat) : Int), (nth ((nth code.l t).l) i).b, (nth ((nth code.l t).l) i).c⟩])⟩ : Ls Ins)]) [2, 3, 4, 5, 6, 7, 8, 9] (by decide) ⟨rfl, rfl, rfl, rfl, rfl, rfl, rfl, rfl, trivial⟩), rfl⟩
        · rw [hm47]; first | omega | (simp only [List.length_append, List.length_cons, List.length_nil, List.length_set, List.length_replicate, List.length_map, List.length_range]; omega)
        · omega
        · rw [take_succ_nth _ _ (by omega), List.map_append, hto]; congr 1; simp only [List.map_cons, List.map_nil]; congr 1; unfold straightIns; (repeat' split) <;> first | (exfalso; omega) | rfl
        · simp [htl]
      ·
        have hp68 : ¬ ((nth ((nth code.l t).l) i).op = 14) := of_decide_eq_false hb68
        refine wp_skip ?_
        refine hK63 _ _ ?_
        refine wp_seq_k fun K89 hK89 => ?_
        refine wp_seq_k fun K90 hK90 => ?_
        refine wp_region_lit ?_
        refine wv h67 (r_fieldB (r := 0) fl_73_0 rfl rfl rfl) rfl rfl fun a91 h91 => ?_
        clear h67
        refine wv h91 (r_ldb (i := 0) ti_3 rfl rfl rfl rfl) rfl rfl fun a92 h92 => ?_
        clear h91
        refine wv h92 (r_eqlI (p := (nth ((nth code.l t).l) i).op) (q := 15) rfl rfl rfl) rfl rfl fun a93 h93 => ?_
        clear h92
        refine wpList_nil ?_
        refine hK90 _ _ ?_
        refine x_cond h93 rfl (fun hb94 => ?_) (fun hb94 => ?_)
        ·
          have hp94 : (nth ((nth code.l t).l) i).op = 15 := of_decide_eq_true hb94
          refine wp_region_lit ?_
          refine wms 1 h93 rfl fun a95 h95 => ?_
          clear h93
          refine wv h95 (r_fieldB (r := 2) fl_73_2 rfl rfl rfl) rfl rfl fun a96 h96 => ?_
          clear h95
          refine wv h96 (r_ldb (i := 0) ti_3 rfl rfl rfl rfl) rfl rfl fun a97 h97 => ?_
          clear h96
          refine wl_ex (x_call h97 bd_72 rfl rfl rfl rfl rfl (rend_cI (nth code.l t) ((nth ((nth code.l t).l) i).b)  _ ((h97.sh.at 5 rfl).nth t (show t < code.l.length from (by first | omega | (simp only [List.length_append, List.length_cons, List.length_nil, List.length_set, List.length_replicate, List.length_map, List.length_range]; omega)))) hjt  (show 0 ≤ (nth ((nth code.l t).l) i).b ∧ (nth ((nth code.l t).l) i).b ≤ ((nth code.l t).l).length from (by have := (hjt i (by omega)).2 (by omega); omega)))) (wanted_none rfl _) ?_
          rintro a98 w98 ⟨_, ⟨rfl, hs98⟩, hf98⟩
          have h98 : St 107 (fun _ => False) W a98 w98 _ _ := ⟨hf98, h97.sh.call0 hs98⟩
          clear hf98 hs98
          clear h97
          refine wv h98 (r_fieldB (r := 2) fl_73_2 rfl rfl rfl) rfl rfl fun a99 h99 => ?_
          clear h98
          refine wl_ex (x_stb (i := 0) (vs := [.int .i64 ((endF ((nth code.l t).l) ((nth code.l t).l).length (((nth ((nth code.l t).l) i).b).toNat) : Nat) : Int)]) (cs' := [.int .i64 ((nth ((nth code.l t).l) i).op), .int .i64 ((nth ((nth code.l t).l) i).a), .int .i64 ((endF ((nth code.l t).l) ((nth code.l t).l).length (((nth ((nth code.l t).l) i).b).toNat) : Nat) : Int), .int .i64 ((nth ((nth code.l t).l) i).c)]) h99 ti_3 rfl rfl rfl rfl rfl rfl rfl (allOne_cons rfl allOne_nil) (Nat.le_of_ble_eq_true rfl) rfl) (wanted_none rfl _) ?_
          rintro a100 w100 h100
          clear h99
          refine wpList_nil ?_
          refine hK89 _ _ ?_
          refine wp_region_lit ?_
          refine wms 1 h100 rfl fun a101 h101 => ?_
          clear h100
          refine wv h101 (r_ldbw (i := 0) (vs := [.int .i64 ((nth ((nth code.l t).l) i).op), .int .i64 ((nth ((nth code.l t).l) i).a), .int .i64 ((endF ((nth code.l t).l) ((nth code.l t).l).length (((nth ((nth code.l t).l) i).b).toNat) : Nat) : Int), .int .i64 ((nth ((nth code.l t).l) i).c)]) ti_73 rfl rfl rfl rfl rfl) rfl rfl fun a102 h102 => ?_
          clear h101
          refine wl_ex (x_lit (n := 1) (cs := [.int .i64 ((nth ((nth code.l t).l) i).op), .int .i64 ((nth ((nth code.l t).l) i).a), .int .i64 ((endF ((nth code.l t).l) ((nth code.l t).l).length (((nth ((nth code.l t).l) i).b).toNat) : Nat) : Int), .int .i64 ((nth ((nth code.l t).l) i).c)]) ([⟨(nth ((nth code.l t).l) i).op, (nth ((nth code.l t).l) i).a, ((endF ((nth code.l t).l) ((nth code.l t).l).length (((nth ((nth code.l t).l) i).b).toNat) : Nat) : Int), (nth ((nth code.l t).l) i).c⟩] : List Ins) h102 sl_64 ti_73 rfl rfl rfl (by decide) rfl (by kernel_rfl) rfl (fun q hq w h => Flat.inner _ _) (fun q hq b hb => (Flat.on _ _ hb).elim) rfl rfl) (wanted_none rfl _) ?_
          rintro a103 w103 ⟨v103, h103⟩
          clear h102
          refine wl_ex (x_app (r := 9) (rm := 0) (s := (⟨vt, tl⟩ : Ls Ins)) (m := (⟨v103, [⟨(nth ((nth code.l t).l) i).op, (nth ((nth code.l t).l) i).a, ((endF ((nth code.l t).l) ((nth code.l t).l).length (((nth ((nth code.l t).l) i).b).toNat) : Nat) : Int), (nth ((nth code.l t).l) i).c⟩]⟩ : Ls Ins)) h103 sl_64 ti_73 rfl rfl rfl rfl rfl rfl rfl (fun w h => (h.own 0 rfl)) (fun b hb => own_on (h103.sh.ok _ (List.mem_of_getElem? (i := 0) rfl)) hb) (fun q hq b hb => ⟨q, hq, hb⟩) rfl rfl rfl inferInstance (show (tl.length + ([⟨(nth ((nth code.l t).l) i).op, (nth ((nth code.l t).l) i).a, ((endF ((nth code.l t).l) ((nth code.l t).l).length (((nth ((nth code.l t).l) i).b).toNat) : Nat) : Int), (nth ((nth code.l t).l) i).c⟩]).length) * 32 ≤ 140737488355328 ∧ tl.length + ([⟨(nth ((nth code.l t).l) i).op, (nth ((nth code.l t).l) i).a, ((endF ((nth code.l t).l) ((nth code.l t).l).length (((nth ((nth code.l t).l) i).b).toNat) : Nat) : Int), (nth ((nth code.l t).l) i).c⟩]).length ≤ 140737488355328 from (by first | omega | (simp only [List.length_append, List.length_cons, List.length_nil, List.length_set, List.length_replicate, List.length_map, List.length_range]; omega))) rfl rfl) (wanted_none rfl _) ?_
          rintro a104 w104 ⟨v104, h104⟩
          clear h103
          refine wms 1 h104 rfl fun a105 h105 => ?_
          clear h104
          refine wpList_nil ?_
          refine hK56 _ _ ?_
          have h106 : St 107 (fun _ => False) W a105 w104 [(1, .pointer (some ⟨b3, 0, none⟩)), (2, .pointer (some ⟨b4, 0, none⟩)), (3, .pointer (some ⟨b11, 0, none⟩)), (4, .int .i64 ((t : Nat) : Int)), (5, (nth code.l t).v), (6, v104), (7, .int .i64 ((i : Nat) : Int))] [.own 73 (⟨v103, [⟨(nth ((nth code.l t).l) i).op, (nth ((nth code.l t).l) i).a, ((endF ((nth code.l t).l) ((nth code.l t).l).length (((nth ((nth code.l t).l) i).b).toNat) : Nat) : Int), (nth ((nth code.l t).l) i).c⟩]⟩ : Ls Ins), .blk b61 73 [.int .i64 ((nth ((nth code.l t).l) i).op), .int .i64 ((nth ((nth code.l t).l) i).a), .int .i64 ((endF ((nth code.l t).l) ((nth code.l t).l).length (((nth ((nth code.l t).l) i).b).toNat) : Nat) : Int), .int .i64 ((nth ((nth code.l t).l) i).c)], .own 3 (⟨v17, words.l⟩ : Ls Int), .blk b11 28 [vq, v17, .int .i64 locks, .int .i64 regs], .blk b4 28 [(.slice none 0 0), (.slice none 0 0), .int .i64 0, .int .i64 0], .blk b3 28 [code.v, words.v, .int .i64 locks, .int .i64 regs], .at_ code, .at_ words, .deep 64 (⟨vq, qs⟩ : Ls (Ls Ins)), .own 73 (⟨v104, tl ++ ([⟨(nth ((nth code.l t).l) i).op, (nth ((nth code.l t).l) i).a, ((endF ((nth code.l t).l) ((nth code.l t).l).length (((nth ((nth code.l t).l) i).b).toNat) : Nat) : Int), (nth ((nth code.l t).l) i).c⟩])⟩ : Ls Ins)] := h105.nrm ⟨rfl, rfl, rfl, rfl, rfl, rfl, rfl, trivial⟩ [0, 1, 2, 3, 4, 5, 6, 7, 8, 9] (by decide) ⟨rfl, rfl, rfl, rfl, rfl, rfl, rfl, rfl, rfl, rfl, trivial⟩
          clear h105
          refine wp_region_lit ?_
          refine wms 1 h106 rfl fun a107 h107 => ?_
          clear h106
          refine wv h107 (r_addN (p := i) (q := 1) rfl rfl rfl (show i + 1 < 9223372036854775808 from (by first | omega | (simp only [List.length_append, List.length_cons, List.length_nil, List.length_set, List.length_replicate, List.length_map, List.length_range]; omega)))) rfl rfl fun a108 h108 => ?_
          clear h107
          refine wms 1 h108 rfl fun a109 h109 => ?_
          clear h108
          refine wpList_nil ?_
          refine x_again ⟨_, ?_, i + 1, tl ++ ([⟨(nth ((nth code.l t).l) i).op, (nth ((nth code.l t).l) i).a, ((endF ((nth code.l t).l) ((nth code.l t).l).length (((nth ((nth code.l t).l) i).b).toNat) : Nat) : Int), (nth ((nth code.l t).l) i).c⟩]), v104, ?_, ?_, ?_, ((h109.sub (F' := [(1, .pointer (some ⟨b3, 0, none⟩)), (2, .pointer (some ⟨b4, 0, none⟩)), (3, .pointer (some ⟨b11, 0, none⟩)), (4, .int .i64 ((t : Nat) : Int)), (5, (nth code.l t).v), (6, v104), (7, .int .i64 ((i + 1 : Nat) : Int))]) ⟨rfl, rfl, rfl, rfl, rfl, rfl, rfl, trivial⟩).sel (L' := [.own 3 (⟨v17, words.l⟩ : Ls Int), .blk b11 28 [vq, v17, .int .i64 locks, .int .i64 regs], .blk b4 28 [(.slice none 0 0), (.slice none 0 0), .int .i64 0, .int .i64 0], .blk b3 28 [code.v, words.v, .int .i64 locks, .int .i64 regs], .at_ code, .at_ words, .deep 64 (⟨vq, qs⟩ : Ls (Ls Ins)), .own 73 (⟨v104, tl ++ ([⟨(nth ((nth code.l t).l) i).op, (nth ((nth code.l t).l) i).a, ((endF ((nth code.l t).l) ((nth code.l t).l).length (((nth ((nth code.l t).l) i).b).toNat) : Nat) : Int), (nth ((nth code.l t).l) i).c⟩])⟩ : Ls Ins)]) [2, 3, 4, 5, 6, 7, 8, 9] (by decide) ⟨rfl, rfl, rfl, rfl, rfl, rfl, rfl, rfl, trivial⟩), rfl⟩
          · rw [hm47]; first | omega | (simp only [List.length_append, List.length_cons, List.length_nil, List.length_set, List.length_replicate, List.length_map, List.length_range]; omega)
          · omega
          · rw [take_succ_nth _ _ (by omega), List.map_append, hto]; congr 1; simp only [List.map_cons, List.map_nil]; congr 1; unfold straightIns; (repeat' split) <;> first | (exfalso; omega) | rfl
          · simp [htl]
        ·
          have hp94 : ¬ ((nth ((nth code.l t).l) i).op = 15) := of_decide_eq_false hb94
          refine wp_skip ?_
          refine hK89 _ _ ?_
          refine wp_region_lit ?_
          refine wms 1 h93 rfl fun a110 h110 => ?_
          clear h93
          refine wv h110 (r_ldbw (i := 0) (vs := [.int .i64 ((nth ((nth code.l t).l) i).op), .int .i64 ((nth ((nth code.l t).l) i).a), .int .i64 ((nth ((nth code.l t).l) i).b), .int .i64 ((nth ((nth code.l t).l) i).c)]) ti_73 rfl rfl rfl rfl rfl) rfl rfl fun a111 h111 => ?_
          clear h110
          refine wl_ex (x_lit (n := 1) (cs := [.int .i64 ((nth ((nth code.l t).l) i).op), .int .i64 ((nth ((nth code.l t).l) i).a), .int .i64 ((nth ((nth code.l t).l) i).b), .int .i64 ((nth ((nth code.l t).l) i).c)]) ([⟨(nth ((nth code.l t).l) i).op, (nth ((nth code.l t).l) i).a, (nth ((nth code.l t).l) i).b, (nth ((nth code.l t).l) i).c⟩] : List Ins) h111 sl_64 ti_73 rfl rfl rfl (by decide) rfl (by kernel_rfl) rfl (fun q hq w h => Flat.inner _ _) (fun q hq b hb => (Flat.on _ _ hb).elim) rfl rfl) (wanted_none rfl _) ?_
          rintro a112 w112 ⟨v112, h112⟩
          clear h111
          refine wl_ex (x_app (r := 9) (rm := 0) (s := (⟨vt, tl⟩ : Ls Ins)) (m := (⟨v112, [⟨(nth ((nth code.l t).l) i).op, (nth ((nth code.l t).l) i).a, (nth ((nth code.l t).l) i).b, (nth ((nth code.l t).l) i).c⟩]⟩ : Ls Ins)) h112 sl_64 ti_73 rfl rfl rfl rfl rfl rfl rfl (fun w h => (h.own 0 rfl)) (fun b hb => own_on (h112.sh.ok _ (List.mem_of_getElem? (i := 0) rfl)) hb) (fun q hq b hb => ⟨q, hq, hb⟩) rfl rfl rfl inferInstance (show (tl.length + ([⟨(nth ((nth code.l t).l) i).op, (nth ((nth code.l t).l) i).a, (nth ((nth code.l t).l) i).b, (nth ((nth code.l t).l) i).c⟩]).length) * 32 ≤ 140737488355328 ∧ tl.length + ([⟨(nth ((nth code.l t).l) i).op, (nth ((nth code.l t).l) i).a, (nth ((nth code.l t).l) i).b, (nth ((nth code.l t).l) i).c⟩]).length ≤ 140737488355328 from (by first | omega | (simp only [List.length_append, List.length_cons, List.length_nil, List.length_set, List.length_replicate, List.length_map, List.length_range]; omega))) rfl rfl) (wanted_none rfl _) ?_
          rintro a113 w113 ⟨v113, h113⟩
          clear h112
          refine wms 1 h113 rfl fun a114 h114 => ?_
          clear h113
          refine wpList_nil ?_
          refine hK56 _ _ ?_
          refine wp_region_lit ?_
          refine wms 1 h114 rfl fun a115 h115 => ?_
          clear h114
          refine wv h115 (r_addN (p := i) (q := 1) rfl rfl rfl (show i + 1 < 9223372036854775808 from (by first | omega | (simp only [List.length_append, List.length_cons, List.length_nil, List.length_set, List.length_replicate, List.length_map, List.length_range]; omega)))) rfl rfl fun a116 h116 => ?_
          clear h115
          refine wms 1 h116 rfl fun a117 h117 => ?_
          clear h116
          refine wpList_nil ?_
          refine x_again ⟨_, ?_, i + 1, tl ++ ([⟨(nth ((nth code.l t).l) i).op, (nth ((nth code.l t).l) i).a, (nth ((nth code.l t).l) i).b, (nth ((nth code.l t).l) i).c⟩]), v113, ?_, ?_, ?_, ((h117.sub (F' := [(1, .pointer (some ⟨b3, 0, none⟩)), (2, .pointer (some ⟨b4, 0, none⟩)), (3, .pointer (some ⟨b11, 0, none⟩)), (4, .int .i64 ((t : Nat) : Int)), (5, (nth code.l t).v), (6, v113), (7, .int .i64 ((i + 1 : Nat) : Int))]) ⟨rfl, rfl, rfl, rfl, rfl, rfl, rfl, trivial⟩).sel (L' := [.own 3 (⟨v17, words.l⟩ : Ls Int), .blk b11 28 [vq, v17, .int .i64 locks, .int .i64 regs], .blk b4 28 [(.slice none 0 0), (.slice none 0 0), .int .i64 0, .int .i64 0], .blk b3 28 [code.v, words.v, .int .i64 locks, .int .i64 regs], .at_ code, .at_ words, .deep 64 (⟨vq, qs⟩ : Ls (Ls Ins)), .own 73 (⟨v113, tl ++ ([⟨(nth ((nth code.l t).l) i).op, (nth ((nth code.l t).l) i).a, (nth ((nth code.l t).l) i).b, (nth ((nth code.l t).l) i).c⟩])⟩ : Ls Ins)]) [2, 3, 4, 5, 6, 7, 8, 9] (by decide) ⟨rfl, rfl, rfl, rfl, rfl, rfl, rfl, rfl, trivial⟩), rfl⟩
          · rw [hm47]; first | omega | (simp only [List.length_append, List.length_cons, List.length_nil, List.length_set, List.length_replicate, List.length_map, List.length_range]; omega)
          · omega
          · rw [take_succ_nth _ _ (by omega), List.map_append, hto]; congr 1; simp only [List.map_cons, List.map_nil]; congr 1; unfold straightIns; (repeat' split) <;> first | (exfalso; omega) | rfl
          · simp [htl]
    ·
      have hp55 : ¬ (i < ((nth code.l t).l).length) := of_decide_eq_false hb55
      refine wp_exit ?_
      refine hK44 _ _ ?_
      refine wp_seq_k fun K118 hK118 => ?_
      refine wp_region_lit ?_
      refine wms 1 h54 rfl fun a119 h119 => ?_
      clear h54
      refine wpList_nil ?_
      refine hK118 _ _ ?_
      refine wp_seq_k fun K120 hK120 => ?_
      refine wp_seq_k fun K121 hK121 => ?_
      refine wp_region_lit ?_
      refine wms 1 h119 rfl fun a122 h122 => ?_
      clear h119
      refine wpList_nil ?_
      refine hK121 _ _ ?_
      refine wp_block ?_
      have h124 := h122.nilDeep (α := Ls Ins) 64
      clear h122
      have hto2 : tl = toL (nth code.l t).l := by rw [hto, List.take_of_length_le (by omega)]; rfl
      refine x_loop (fun m a w => ∃ (j : Nat) (bc : List (Ls Ins)) (vb : Value), (j ≤ tl.length) ∧ (bc.map (·.l) = (List.range j).map (fun i => becS i (nth tl i))) ∧ (bc.length = j) ∧ St 107 (fun _ => False) W a w [(1, .pointer (some ⟨b3, 0, none⟩)), (2, .pointer (some ⟨b4, 0, none⟩)), (3, .pointer (some ⟨b11, 0, none⟩)), (4, .int .i64 ((t : Nat) : Int)), (6, vt), (9, vb), (10, .int .i64 ((j : Nat) : Int))] [.own 3 (⟨v17, words.l⟩ : Ls Int), .blk b11 28 [vq, v17, .int .i64 locks, .int .i64 regs], .blk b4 28 [(.slice none 0 0), (.slice none 0 0), .int .i64 0, .int .i64 0], .blk b3 28 [code.v, words.v, .int .i64 locks, .int .i64 regs], .at_ code, .at_ words, .deep 64 (⟨vq, qs⟩ : Ls (Ls Ins)), .own 73 (⟨vt, tl⟩ : Ls Ins), .deep 64 (⟨vb, bc⟩ : Ls (Ls Ins))] ∧ m = tl.length - j) ⟨_, 0, [], (.slice none 0 0), (by omega), (rfl), (rfl), ((h124.sub (F' := [(1, .pointer (some ⟨b3, 0, none⟩)), (2, .pointer (some ⟨b4, 0, none⟩)), (3, .pointer (some ⟨b11, 0, none⟩)), (4, .int .i64 ((t : Nat) : Int)), (6, vt), (9, (.slice none 0 0)), (10, .int .i64 0)]) ⟨rfl, rfl, rfl, rfl, rfl, rfl, rfl, trivial⟩).sel (L' := [.own 3 (⟨v17, words.l⟩ : Ls Int), .blk b11 28 [vq, v17, .int .i64 locks, .int .i64 regs], .blk b4 28 [(.slice none 0 0), (.slice none 0 0), .int .i64 0, .int .i64 0], .blk b3 28 [code.v, words.v, .int .i64 locks, .int .i64 regs], .at_ code, .at_ words, .deep 64 (⟨vq, qs⟩ : Ls (Ls Ins)), .own 73 (⟨vt, tl⟩ : Ls Ins), .deep 64 (⟨.slice none 0 0, []⟩ : Ls (Ls Ins))]) [1, 2, 3, 4, 5, 6, 7, 8, 0] (by decide) ⟨rfl, rfl, rfl, rfl, rfl, rfl, rfl, rfl, rfl, trivial⟩), rfl⟩ ?_
      clear h124
      rintro m123 a123 w123 ⟨j, bc, vb, hj, hbc, hbl, h123, hm123⟩
      refine wp_seq_k fun K125 hK125 => ?_
      refine wp_seq_k fun K126 hK126 => ?_
      refine wp_region_lit ?_
      refine wms 2 h123 rfl fun a127 h127 => ?_
      clear h123
      have hl128 : tl.length ≤ 140737488355328 := (h127.sh.own 7 rfl).len
      refine wv h127 (r_len (s := (⟨vt, tl⟩ : Ls Ins)) (n := tl.length) sl_64 rfl rfl (fun w h => (h.own 7 rfl)) rfl) rfl rfl fun a129 h129 => ?_
      clear h127
      refine wv h129 (r_lssN (p := j) (q := tl.length) rfl rfl rfl) rfl rfl fun a130 h130 => ?_
      clear h129
      refine wpList_nil ?_
      refine hK126 _ _ ?_
      refine x_cond h130 rfl (fun hb131 => ?_) (fun hb131 => ?_)
      ·
        have hp131 : j < tl.length := of_decide_eq_true hb131
        refine wp_skip ?_
        refine hK125 _ _ ?_
        refine wp_seq_k fun K132 hK132 => ?_
        refine wp_block ?_
        refine wp_seq_k fun K133 hK133 => ?_
        refine wp_region_lit ?_
        refine wms 2 h130 rfl fun a134 h134 => ?_
        clear h130
        refine wv h134 (r_ixN (s := (⟨vt, tl⟩ : Ls Ins)) (q := j) sl_64 ti_73 rfl rfl rfl (fun w h => (h.own 7 rfl)) (show j < tl.length from (by first | omega | (simp only [List.length_append, List.length_cons, List.length_nil, List.length_set, List.length_replicate, List.length_map, List.length_range]; omega)))) rfl rfl fun a135 h135 => ?_
        clear h134
        refine wv h135 (r_fieldE (r := 0) fl_73_0 rfl rfl rfl) rfl rfl fun a136 h136 => ?_
        clear h135
        refine wv h136 (r_lde (s := (⟨vt, tl⟩ : Ls Ins)) (i := j) (v := .int .i64 ((nth tl j).op)) ti_3 rfl rfl rfl (fun w h => (h.own 7 rfl)) (show j < tl.length from (by first | omega | (simp only [List.length_append, List.length_cons, List.length_nil, List.length_set, List.length_replicate, List.length_map, List.length_range]; omega))) (Nat.le_of_ble_eq_true rfl) rfl) rfl rfl fun a137 h137 => ?_
        clear h136
        refine wv h137 (r_eqlI (p := (nth tl j).op) (q := 14) rfl rfl rfl) rfl rfl fun a138 h138 => ?_
        clear h137
        refine wms 1 h138 rfl fun a139 h139 => ?_
        clear h138
        rcases Bool.eq_false_or_eq_true (decide ((nth tl j).op = 14)) with hb140 | hb140
        ·
          have hp140 : (nth tl j).op = 14 := of_decide_eq_true hb140
          refine wl_val h139 (r_move rfl rfl) (wanted_yes h139.fr rfl rfl rfl rfl hb140) rfl rfl fun a141 h141 => ?_
          clear h139
          refine wl_val h141 (r_move rfl rfl) (wanted_yes h141.fr rfl rfl rfl rfl hb140) rfl rfl fun a142 h142 => ?_
          clear h141
          refine wl_val h142 (r_ixN (s := (⟨vt, tl⟩ : Ls Ins)) (q := j) sl_64 ti_73 rfl rfl rfl (fun w h => (h.own 7 rfl)) (show j < tl.length from (by first | omega | (simp only [List.length_append, List.length_cons, List.length_nil, List.length_set, List.length_replicate, List.length_map, List.length_range]; omega)))) (wanted_yes h142.fr rfl rfl rfl rfl hb140) rfl rfl fun a143 h143 => ?_
          clear h142
          refine wl_val h143 (r_fieldE (r := 1) fl_73_1 rfl rfl rfl) (wanted_yes h143.fr rfl rfl rfl rfl hb140) rfl rfl fun a144 h144 => ?_
          clear h143
          refine wl_val h144 (r_lde (s := (⟨vt, tl⟩ : Ls Ins)) (i := j) (v := .int .i64 ((nth tl j).a)) ti_3 rfl rfl rfl (fun w h => (h.own 7 rfl)) (show j < tl.length from (by first | omega | (simp only [List.length_append, List.length_cons, List.length_nil, List.length_set, List.length_replicate, List.length_map, List.length_range]; omega))) (Nat.le_of_ble_eq_true rfl) rfl) (wanted_yes h144.fr rfl rfl rfl rfl hb140) rfl rfl fun a145 h145 => ?_
          clear h144
          refine wl_val h145 (r_move rfl rfl) (wanted_yes h145.fr rfl rfl rfl rfl hb140) rfl rfl fun a146 h146 => ?_
          clear h145
          refine wl_val h146 (r_addN (p := j) (q := 1) rfl rfl rfl (show j + 1 < 9223372036854775808 from (by first | omega | (simp only [List.length_append, List.length_cons, List.length_nil, List.length_set, List.length_replicate, List.length_map, List.length_range]; omega)))) (wanted_yes h146.fr rfl rfl rfl rfl hb140) rfl rfl fun a147 h147 => ?_
          clear h146
          refine wl_val h147 (r_eqlI (p := (nth tl j).a) (q := ((j + 1 : Nat) : Int)) rfl rfl rfl) (wanted_yes h147.fr rfl rfl rfl rfl hb140) rfl rfl fun a148 h148 => ?_
          clear h147
          refine wv h148 (r_pickT rfl rfl hb140 rfl) rfl rfl fun a149 h149 => ?_
          clear h148
          refine wpList_nil ?_
          refine hK133 _ _ ?_
          refine x_cond h149 rfl (fun hb150 => ?_) (fun hb150 => ?_)
          ·
            have hp150 : (nth tl j).a = ((j + 1 : Nat) : Int) := of_decide_eq_true hb150
            refine wp_region_lit ?_
            refine wms 1 h149 rfl fun a151 h151 => ?_
            clear h149
            refine wl_ex (x_litDnil (α := Ins) h151 sl_26 ti_64 rfl rfl rfl rfl rfl) (wanted_none rfl _) ?_
            rintro a152 w152 ⟨v152, h152⟩
            clear h151
            have h153 := h152.sel (L' := [.deep 64 (⟨vb, bc⟩ : Ls (Ls Ins)), .deep 64 (⟨v152, [⟨.slice none 0 0, []⟩]⟩ : Ls (Ls Ins)), .own 3 (⟨v17, words.l⟩ : Ls Int), .blk b11 28 [vq, v17, .int .i64 locks, .int .i64 regs], .blk b4 28 [(.slice none 0 0), (.slice none 0 0), .int .i64 0, .int .i64 0], .blk b3 28 [code.v, words.v, .int .i64 locks, .int .i64 regs], .at_ code, .at_ words, .deep 64 (⟨vq, qs⟩ : Ls (Ls Ins)), .own 73 (⟨vt, tl⟩ : Ls Ins)]) [9, 0, 1, 2, 3, 4, 5, 6, 7, 8] (by decide) ⟨rfl, rfl, rfl, rfl, rfl, rfl, rfl, rfl, rfl, rfl, trivial⟩
            refine wl_ex (x_appD (s := (⟨vb, bc⟩ : Ls (Ls Ins))) (m := (⟨v152, [⟨.slice none 0 0, []⟩]⟩ : Ls (Ls Ins))) h153 sl_26 ti_64 rfl rfl rfl rfl rfl rfl rfl inferInstance (show (bc.length + ([⟨.slice none 0 0, []⟩]).length) * 24 ≤ 140737488355328 ∧ bc.length + ([⟨.slice none 0 0, []⟩]).length ≤ 140737488355328 from (by first | omega | (simp only [List.length_append, List.length_cons, List.length_nil, List.length_set, List.length_replicate, List.length_map, List.length_range]; omega))) rfl rfl) (wanted_none rfl _) ?_
            rintro a154 w154 ⟨v154, h154⟩
            clear h153
            refine wms 1 h154 rfl fun a155 h155 => ?_
            clear h154
            refine wpList_nil ?_
            refine hK132 _ _ ?_
            have h156 : St 107 (fun _ => False) W a155 w154 [(1, .pointer (some ⟨b3, 0, none⟩)), (2, .pointer (some ⟨b4, 0, none⟩)), (3, .pointer (some ⟨b11, 0, none⟩)), (4, .int .i64 ((t : Nat) : Int)), (6, vt), (9, v154), (10, .int .i64 ((j : Nat) : Int))] [.deep 64 (⟨v154, bc ++ ([⟨.slice none 0 0, []⟩])⟩ : Ls (Ls Ins)), .own 3 (⟨v17, words.l⟩ : Ls Int), .blk b11 28 [vq, v17, .int .i64 locks, .int .i64 regs], .blk b4 28 [(.slice none 0 0), (.slice none 0 0), .int .i64 0, .int .i64 0], .blk b3 28 [code.v, words.v, .int .i64 locks, .int .i64 regs], .at_ code, .at_ words, .deep 64 (⟨vq, qs⟩ : Ls (Ls Ins)), .own 73 (⟨vt, tl⟩ : Ls Ins)] := h155.nrm ⟨rfl, rfl, rfl, rfl, rfl, rfl, rfl, trivial⟩ [0, 1, 2, 3, 4, 5, 6, 7, 8] (by decide) ⟨rfl, rfl, rfl, rfl, rfl, rfl, rfl, rfl, rfl, trivial⟩
            clear h155
            refine wp_region_lit ?_
            refine wms 1 h156 rfl fun a157 h157 => ?_
            clear h156
            refine wv h157 (r_addN (p := j) (q := 1) rfl rfl rfl (show j + 1 < 9223372036854775808 from (by first | omega | (simp only [List.length_append, List.length_cons, List.length_nil, List.length_set, List.length_replicate, List.length_map, List.length_range]; omega)))) rfl rfl fun a158 h158 => ?_
            clear h157
            refine wms 1 h158 rfl fun a159 h159 => ?_
            clear h158
            refine wpList_nil ?_
            refine x_again ⟨_, ?_, j + 1, bc ++ ([⟨.slice none 0 0, []⟩]), v154, ?_, ?_, ?_, ((h159.sub (F' := [(1, .pointer (some ⟨b3, 0, none⟩)), (2, .pointer (some ⟨b4, 0, none⟩)), (3, .pointer (some ⟨b11, 0, none⟩)), (4, .int .i64 ((t : Nat) : Int)), (6, vt), (9, v154), (10, .int .i64 ((j + 1 : Nat) : Int))]) ⟨rfl, rfl, rfl, rfl, rfl, rfl, rfl, trivial⟩).sel (L' := [.own 3 (⟨v17, words.l⟩ : Ls Int), .blk b11 28 [vq, v17, .int .i64 locks, .int .i64 regs], .blk b4 28 [(.slice none 0 0), (.slice none 0 0), .int .i64 0, .int .i64 0], .blk b3 28 [code.v, words.v, .int .i64 locks, .int .i64 regs], .at_ code, .at_ words, .deep 64 (⟨vq, qs⟩ : Ls (Ls Ins)), .own 73 (⟨vt, tl⟩ : Ls Ins), .deep 64 (⟨v154, bc ++ ([⟨.slice none 0 0, []⟩])⟩ : Ls (Ls Ins))]) [1, 2, 3, 4, 5, 6, 7, 8, 0] (by decide) ⟨rfl, rfl, rfl, rfl, rfl, rfl, rfl, rfl, rfl, trivial⟩), rfl⟩
            · rw [hm123]; first | omega | (simp only [List.length_append, List.length_cons, List.length_nil, List.length_set, List.length_replicate, List.length_map, List.length_range]; omega)
            · omega
            · rw [List.map_append, hbc, List.range_succ, List.map_append]; congr 1; simp only [List.map_cons, List.map_nil]; congr 1; unfold becS; (repeat' split) <;> first | (exfalso; omega) | rfl
            · simp [hbl]
          ·
            have hp150 : ¬ ((nth tl j).a = ((j + 1 : Nat) : Int)) := of_decide_eq_false hb150
            refine wp_region_lit ?_
            refine wms 3 h149 rfl fun a160 h160 => ?_
            clear h149
            refine wv h160 (r_ixN (s := (⟨vt, tl⟩ : Ls Ins)) (q := j) sl_64 ti_73 rfl rfl rfl (fun w h => (h.own 7 rfl)) (show j < tl.length from (by first | omega | (simp only [List.length_append, List.length_cons, List.length_nil, List.length_set, List.length_replicate, List.length_map, List.length_range]; omega)))) rfl rfl fun a161 h161 => ?_
            clear h160
            refine wv h161 (r_ldew (s := (⟨vt, tl⟩ : Ls Ins)) (i := j) (vs := [.int .i64 ((nth tl j).op), .int .i64 ((nth tl j).a), .int .i64 ((nth tl j).b), .int .i64 ((nth tl j).c)]) ti_73 rfl rfl rfl (fun w h => (h.own 7 rfl)) (show j < tl.length from (by first | omega | (simp only [List.length_append, List.length_cons, List.length_nil, List.length_set, List.length_replicate, List.length_map, List.length_range]; omega))) (Nat.le_of_ble_eq_true rfl) rfl) rfl rfl fun a162 h162 => ?_
            clear h161
            refine wl_ex (x_lit (n := 1) (cs := [.int .i64 ((nth tl j).op), .int .i64 ((nth tl j).a), .int .i64 ((nth tl j).b), .int .i64 ((nth tl j).c)]) ([nth tl j] : List Ins) h162 sl_64 ti_73 rfl rfl rfl (by decide) rfl (by kernel_rfl) rfl (fun q hq w h => Flat.inner _ _) (fun q hq b hb => (Flat.on _ _ hb).elim) rfl rfl) (wanted_none rfl _) ?_
            rintro a163 w163 ⟨v163, h163⟩
            clear h162
            refine wl_ex (x_litD (E := 0) (x := (⟨v163, [nth tl j]⟩ : Ls Ins)) h163 sl_26 ti_64 rfl rfl rfl ((h163.sh.own 0 rfl)) (fun b hb => (own_on (h163.sh.ok _ (by simp)) hb).elim (fun h => h) (fun h => Flat.noRd h)) (fun b hb => Flat.noRd hb) rfl rfl) (wanted_none rfl _) ?_
            rintro a164 w164 ⟨v164, h164⟩
            clear h163
            have h165 := h164.sel (L' := [.deep 64 (⟨vb, bc⟩ : Ls (Ls Ins)), .deep 64 (⟨v164, [(⟨v163, [nth tl j]⟩ : Ls Ins)]⟩ : Ls (Ls Ins)), .own 3 (⟨v17, words.l⟩ : Ls Int), .blk b11 28 [vq, v17, .int .i64 locks, .int .i64 regs], .blk b4 28 [(.slice none 0 0), (.slice none 0 0), .int .i64 0, .int .i64 0], .blk b3 28 [code.v, words.v, .int .i64 locks, .int .i64 regs], .at_ code, .at_ words, .deep 64 (⟨vq, qs⟩ : Ls (Ls Ins)), .own 73 (⟨vt, tl⟩ : Ls Ins)]) [9, 0, 1, 2, 3, 4, 5, 6, 7, 8] (by decide) ⟨rfl, rfl, rfl, rfl, rfl, rfl, rfl, rfl, rfl, rfl, trivial⟩
            refine wl_ex (x_appD (s := (⟨vb, bc⟩ : Ls (Ls Ins))) (m := (⟨v164, [(⟨v163, [nth tl j]⟩ : Ls Ins)]⟩ : Ls (Ls Ins))) h165 sl_26 ti_64 rfl rfl rfl rfl rfl rfl rfl inferInstance (show (bc.length + ([(⟨v163, [nth tl j]⟩ : Ls Ins)]).length) * 24 ≤ 140737488355328 ∧ bc.length + ([(⟨v163, [nth tl j]⟩ : Ls Ins)]).length ≤ 140737488355328 from (by first | omega | (simp only [List.length_append, List.length_cons, List.length_nil, List.length_set, List.length_replicate, List.length_map, List.length_range]; omega))) rfl rfl) (wanted_none rfl _) ?_
            rintro a166 w166 ⟨v166, h166⟩
            clear h165
            refine wms 1 h166 rfl fun a167 h167 => ?_
            clear h166
            refine wpList_nil ?_
            refine hK132 _ _ ?_
            have h168 : St 107 (fun _ => False) W a167 w166 [(1, .pointer (some ⟨b3, 0, none⟩)), (2, .pointer (some ⟨b4, 0, none⟩)), (3, .pointer (some ⟨b11, 0, none⟩)), (4, .int .i64 ((t : Nat) : Int)), (6, vt), (9, v166), (10, .int .i64 ((j : Nat) : Int))] [.deep 64 (⟨v166, bc ++ ([(⟨v163, [nth tl j]⟩ : Ls Ins)])⟩ : Ls (Ls Ins)), .own 3 (⟨v17, words.l⟩ : Ls Int), .blk b11 28 [vq, v17, .int .i64 locks, .int .i64 regs], .blk b4 28 [(.slice none 0 0), (.slice none 0 0), .int .i64 0, .int .i64 0], .blk b3 28 [code.v, words.v, .int .i64 locks, .int .i64 regs], .at_ code, .at_ words, .deep 64 (⟨vq, qs⟩ : Ls (Ls Ins)), .own 73 (⟨vt, tl⟩ : Ls Ins)] := h167.nrm ⟨rfl, rfl, rfl, rfl, rfl, rfl, rfl, trivial⟩ [0, 1, 2, 3, 4, 5, 6, 7, 8] (by decide) ⟨rfl, rfl, rfl, rfl, rfl, rfl, rfl, rfl, rfl, trivial⟩
            clear h167
            refine wp_region_lit ?_
            refine wms 1 h168 rfl fun a169 h169 => ?_
            clear h168
            refine wv h169 (r_addN (p := j) (q := 1) rfl rfl rfl (show j + 1 < 9223372036854775808 from (by first | omega | (simp only [List.length_append, List.length_cons, List.length_nil, List.length_set, List.length_replicate, List.length_map, List.length_range]; omega)))) rfl rfl fun a170 h170 => ?_
            clear h169
            refine wms 1 h170 rfl fun a171 h171 => ?_
            clear h170
            refine wpList_nil ?_
            refine x_again ⟨_, ?_, j + 1, bc ++ ([(⟨v163, [nth tl j]⟩ : Ls Ins)]), v166, ?_, ?_, ?_, ((h171.sub (F' := [(1, .pointer (some ⟨b3, 0, none⟩)), (2, .pointer (some ⟨b4, 0, none⟩)), (3, .pointer (some ⟨b11, 0, none⟩)), (4, .int .i64 ((t : Nat) : Int)), (6, vt), (9, v166), (10, .int .i64 ((j + 1 : Nat) : Int))]) ⟨rfl, rfl, rfl, rfl, rfl, rfl, rfl, trivial⟩).sel (L' := [.own 3 (⟨v17, words.l⟩ : Ls Int), .blk b11 28 [vq, v17, .int .i64 locks, .int .i64 regs], .blk b4 28 [(.slice none 0 0), (.slice none 0 0), .int .i64 0, .int .i64 0], .blk b3 28 [code.v, words.v, .int .i64 locks, .int .i64 regs], .at_ code, .at_ words, .deep 64 (⟨vq, qs⟩ : Ls (Ls Ins)), .own 73 (⟨vt, tl⟩ : Ls Ins), .deep 64 (⟨v166, bc ++ ([(⟨v163, [nth tl j]⟩ : Ls Ins)])⟩ : Ls (Ls Ins))]) [1, 2, 3, 4, 5, 6, 7, 8, 0] (by decide) ⟨rfl, rfl, rfl, rfl, rfl, rfl, rfl, rfl, rfl, trivial⟩), rfl⟩
            · rw [hm123]; first | omega | (simp only [List.length_append, List.length_cons, List.length_nil, List.length_set, List.length_replicate, List.length_map, List.length_range]; omega)
            · omega
            · rw [List.map_append, hbc, List.range_succ, List.map_append]; congr 1; simp only [List.map_cons, List.map_nil]; congr 1; unfold becS; (repeat' split) <;> first | (exfalso; omega) | rfl
            · simp [hbl]
        ·
          have hp140 : ¬ ((nth tl j).op = 14) := of_decide_eq_false hb140
          refine wl_skip h139 (wanted_no h139.fr rfl rfl rfl rfl hb140) rfl rfl fun a172 h172 => ?_
          clear h139
          refine wl_skip h172 (wanted_no h172.fr rfl rfl rfl rfl hb140) rfl rfl fun a173 h173 => ?_
          clear h172
          refine wl_skip h173 (wanted_no h173.fr rfl rfl rfl rfl hb140) rfl rfl fun a174 h174 => ?_
          clear h173
          refine wl_skip h174 (wanted_no h174.fr rfl rfl rfl rfl hb140) rfl rfl fun a175 h175 => ?_
          clear h174
          refine wl_skip h175 (wanted_no h175.fr rfl rfl rfl rfl hb140) rfl rfl fun a176 h176 => ?_
          clear h175
          refine wl_skip h176 (wanted_no h176.fr rfl rfl rfl rfl hb140) rfl rfl fun a177 h177 => ?_
          clear h176
          refine wl_skip h177 (wanted_no h177.fr rfl rfl rfl rfl hb140) rfl rfl fun a178 h178 => ?_
          clear h177
          refine wl_skip h178 (wanted_no h178.fr rfl rfl rfl rfl hb140) rfl rfl fun a179 h179 => ?_
          clear h178
          refine wv h179 (r_pickF rfl rfl hb140 rfl) rfl rfl fun a180 h180 => ?_
          clear h179
          refine wpList_nil ?_
          refine hK133 _ _ ?_
          refine x_condF h180 rfl rfl ?_
          refine wp_region_lit ?_
          refine wms 3 h180 rfl fun a181 h181 => ?_
          clear h180
          refine wv h181 (r_ixN (s := (⟨vt, tl⟩ : Ls Ins)) (q := j) sl_64 ti_73 rfl rfl rfl (fun w h => (h.own 7 rfl)) (show j < tl.length from (by first | omega | (simp only [List.length_append, List.length_cons, List.length_nil, List.length_set, List.length_replicate, List.length_map, List.length_range]; omega)))) rfl rfl fun a182 h182 => ?_
          clear h181
          refine wv h182 (r_ldew (s := (⟨vt, tl⟩ : Ls Ins)) (i := j) (vs := [.int .i64 ((nth tl j).op), .int .i64 ((nth tl j).a), .int .i64 ((nth tl j).b), .int .i64 ((nth tl j).c)]) ti_73 rfl rfl rfl (fun w h => (h.own 7 rfl)) (show j < tl.length from (by first | omega | (simp only [List.length_append, List.length_cons, List.length_nil, List.length_set, List.length_replicate, List.length_map, List.length_range]; omega))) (Nat.le_of_ble_eq_true rfl) rfl) rfl rfl fun a183 h183 => ?_
          clear h182
          refine wl_ex (x_lit (n := 1) (cs := [.int .i64 ((nth tl j).op), .int .i64 ((nth tl j).a), .int .i64 ((nth tl j).b), .int .i64 ((nth tl j).c)]) ([nth tl j] : List Ins) h183 sl_64 ti_73 rfl rfl rfl (by decide) rfl (by kernel_rfl) rfl (fun q hq w h => Flat.inner _ _) (fun q hq b hb => (Flat.on _ _ hb).elim) rfl rfl) (wanted_none rfl _) ?_
          rintro a184 w184 ⟨v184, h184⟩
          clear h183
          refine wl_ex (x_litD (E := 0) (x := (⟨v184, [nth tl j]⟩ : Ls Ins)) h184 sl_26 ti_64 rfl rfl rfl ((h184.sh.own 0 rfl)) (fun b hb => (own_on (h184.sh.ok _ (by simp)) hb).elim (fun h => h) (fun h => Flat.noRd h)) (fun b hb => Flat.noRd hb) rfl rfl) (wanted_none rfl _) ?_
          rintro a185 w185 ⟨v185, h185⟩
          clear h184
          have h186 := h185.sel (L' := [.deep 64 (⟨vb, bc⟩ : Ls (Ls Ins)), .deep 64 (⟨v185, [(⟨v184, [nth tl j]⟩ : Ls Ins)]⟩ : Ls (Ls Ins)), .own 3 (⟨v17, words.l⟩ : Ls Int), .blk b11 28 [vq, v17, .int .i64 locks, .int .i64 regs], .blk b4 28 [(.slice none 0 0), (.slice none 0 0), .int .i64 0, .int .i64 0], .blk b3 28 [code.v, words.v, .int .i64 locks, .int .i64 regs], .at_ code, .at_ words, .deep 64 (⟨vq, qs⟩ : Ls (Ls Ins)), .own 73 (⟨vt, tl⟩ : Ls Ins)]) [9, 0, 1, 2, 3, 4, 5, 6, 7, 8] (by decide) ⟨rfl, rfl, rfl, rfl, rfl, rfl, rfl, rfl, rfl, rfl, trivial⟩
          refine wl_ex (x_appD (s := (⟨vb, bc⟩ : Ls (Ls Ins))) (m := (⟨v185, [(⟨v184, [nth tl j]⟩ : Ls Ins)]⟩ : Ls (Ls Ins))) h186 sl_26 ti_64 rfl rfl rfl rfl rfl rfl rfl inferInstance (show (bc.length + ([(⟨v184, [nth tl j]⟩ : Ls Ins)]).length) * 24 ≤ 140737488355328 ∧ bc.length + ([(⟨v184, [nth tl j]⟩ : Ls Ins)]).length ≤ 140737488355328 from (by first | omega | (simp only [List.length_append, List.length_cons, List.length_nil, List.length_set, List.length_replicate, List.length_map, List.length_range]; omega))) rfl rfl) (wanted_none rfl _) ?_
          rintro a187 w187 ⟨v187, h187⟩
          clear h186
          refine wms 1 h187 rfl fun a188 h188 => ?_
          clear h187
          refine wpList_nil ?_
          refine hK132 _ _ ?_
          have h189 : St 107 (fun _ => False) W a188 w187 [(1, .pointer (some ⟨b3, 0, none⟩)), (2, .pointer (some ⟨b4, 0, none⟩)), (3, .pointer (some ⟨b11, 0, none⟩)), (4, .int .i64 ((t : Nat) : Int)), (6, vt), (9, v187), (10, .int .i64 ((j : Nat) : Int))] [.deep 64 (⟨v187, bc ++ ([(⟨v184, [nth tl j]⟩ : Ls Ins)])⟩ : Ls (Ls Ins)), .own 3 (⟨v17, words.l⟩ : Ls Int), .blk b11 28 [vq, v17, .int .i64 locks, .int .i64 regs], .blk b4 28 [(.slice none 0 0), (.slice none 0 0), .int .i64 0, .int .i64 0], .blk b3 28 [code.v, words.v, .int .i64 locks, .int .i64 regs], .at_ code, .at_ words, .deep 64 (⟨vq, qs⟩ : Ls (Ls Ins)), .own 73 (⟨vt, tl⟩ : Ls Ins)] := h188.nrm ⟨rfl, rfl, rfl, rfl, rfl, rfl, rfl, trivial⟩ [0, 1, 2, 3, 4, 5, 6, 7, 8] (by decide) ⟨rfl, rfl, rfl, rfl, rfl, rfl, rfl, rfl, rfl, trivial⟩
          clear h188
          refine wp_region_lit ?_
          refine wms 1 h189 rfl fun a190 h190 => ?_
          clear h189
          refine wv h190 (r_addN (p := j) (q := 1) rfl rfl rfl (show j + 1 < 9223372036854775808 from (by first | omega | (simp only [List.length_append, List.length_cons, List.length_nil, List.length_set, List.length_replicate, List.length_map, List.length_range]; omega)))) rfl rfl fun a191 h191 => ?_
          clear h190
          refine wms 1 h191 rfl fun a192 h192 => ?_
          clear h191
          refine wpList_nil ?_
          refine x_again ⟨_, ?_, j + 1, bc ++ ([(⟨v184, [nth tl j]⟩ : Ls Ins)]), v187, ?_, ?_, ?_, ((h192.sub (F' := [(1, .pointer (some ⟨b3, 0, none⟩)), (2, .pointer (some ⟨b4, 0, none⟩)), (3, .pointer (some ⟨b11, 0, none⟩)), (4, .int .i64 ((t : Nat) : Int)), (6, vt), (9, v187), (10, .int .i64 ((j + 1 : Nat) : Int))]) ⟨rfl, rfl, rfl, rfl, rfl, rfl, rfl, trivial⟩).sel (L' := [.own 3 (⟨v17, words.l⟩ : Ls Int), .blk b11 28 [vq, v17, .int .i64 locks, .int .i64 regs], .blk b4 28 [(.slice none 0 0), (.slice none 0 0), .int .i64 0, .int .i64 0], .blk b3 28 [code.v, words.v, .int .i64 locks, .int .i64 regs], .at_ code, .at_ words, .deep 64 (⟨vq, qs⟩ : Ls (Ls Ins)), .own 73 (⟨vt, tl⟩ : Ls Ins), .deep 64 (⟨v187, bc ++ ([(⟨v184, [nth tl j]⟩ : Ls Ins)])⟩ : Ls (Ls Ins))]) [1, 2, 3, 4, 5, 6, 7, 8, 0] (by decide) ⟨rfl, rfl, rfl, rfl, rfl, rfl, rfl, rfl, rfl, trivial⟩), rfl⟩
          · rw [hm123]; first | omega | (simp only [List.length_append, List.length_cons, List.length_nil, List.length_set, List.length_replicate, List.length_map, List.length_range]; omega)
          · omega
          · rw [List.map_append, hbc, List.range_succ, List.map_append]; congr 1; simp only [List.map_cons, List.map_nil]; congr 1; unfold becS; (repeat' split) <;> first | (exfalso; omega) | rfl
          · simp [hbl]
      ·
        have hp131 : ¬ (j < tl.length) := of_decide_eq_false hb131
        refine wp_exit ?_
        refine hK120 _ _ ?_
        refine wp_seq_k fun K193 hK193 => ?_
        refine wp_region_lit ?_
        refine wms 2 h130 rfl fun a194 h194 => ?_
        clear h130
        refine wl_ex (x_call h194 bd_73 rfl rfl rfl rfl rfl (rPut_c (⟨vb, bc⟩ : Ls (Ls Ins)) (⟨vt, tl⟩ : Ls Ins) _ (h194.sh.deep 8 rfl) (h194.sh.own 7 rfl) (show bc.length = tl.length by omega) (show tl.length ≤ 5000 by omega) (show ∀ i, i < tl.length → (nth bc i).l.length ≤ 8 from fun i hi => by have e : nth (bc.map (·.l)) i = nth ((List.range j).map fun i => becS i (nth tl i)) i := (by rw [hbc]); rw [nth_map' _ _ _ (by omega), nth_map' _ _ _ (by simp; omega)] at e; rw [e]; have := becS_len (nth (List.range j) i) (nth tl (nth (List.range j) i)); omega) (becS_ok2 tl (by rw [hto2]; exact toL_ok _ hjt) bc (by rw [hbc, becL, show j = tl.length by omega])))) (wanted_none rfl _) ?_
        rintro a195 w195 ⟨_, ⟨s195, rfl, hl195, hs195⟩, hf195⟩
        have h195 := (⟨hf195, h194.sh.call hs195 (by intro A hA b hb; first | (simp at hA; done) | (simp at hA; subst hA; first | exact Flat.noRd hb | exact (hb : False).elim) | (simp at hA; rcases hA with rfl | rfl <;> first | exact Flat.noRd hb | exact (hb : False).elim))⟩ : St 107 (fun _ => False) W a195 w195 _ _)
        clear hf195 hs195
        clear h194
        refine wms 1 h195 rfl fun a196 h196 => ?_
        clear h195
        refine wpList_nil ?_
        refine hK193 _ _ ?_
        have hq1 : s195.l = straightL (nth code.l t).l := by rw [straightL, becS_put, ← hto2, hl195, hbc, becL, show j = tl.length by omega]
        refine wp_region_lit ?_
        refine wv h196 (r_fieldB (r := 0) fl_28_0 rfl rfl rfl) rfl rfl fun a197 h197 => ?_
        clear h196
        refine wv h197 (r_ldb (i := 2) ti_26 rfl rfl rfl rfl) rfl rfl fun a198 h198 => ?_
        clear h197
        refine wms 1 h198 rfl fun a199 h199 => ?_
        clear h198
        refine wl_ex (x_litD (E := 0) (x := s195) h199 sl_26 ti_64 rfl rfl rfl ((h199.sh.own 0 rfl)) (fun b hb => (own_on (h199.sh.ok _ (by simp)) hb).elim (fun h => h) (fun h => Flat.noRd h)) (fun b hb => Flat.noRd hb) rfl rfl) (wanted_none rfl _) ?_
        rintro a200 w200 ⟨v200, h200⟩
        clear h199
        have h201 := h200.sel (L' := [.deep 64 (⟨vq, qs⟩ : Ls (Ls Ins)), .deep 64 (⟨v200, [s195]⟩ : Ls (Ls Ins)), .own 3 (⟨v17, words.l⟩ : Ls Int), .blk b11 28 [vq, v17, .int .i64 locks, .int .i64 regs], .blk b4 28 [(.slice none 0 0), (.slice none 0 0), .int .i64 0, .int .i64 0], .blk b3 28 [code.v, words.v, .int .i64 locks, .int .i64 regs], .at_ code, .at_ words, .own 73 (⟨vt, tl⟩ : Ls Ins), .deep 64 (⟨vb, bc⟩ : Ls (Ls Ins))]) [7, 0, 1, 2, 3, 4, 5, 6, 8, 9] (by decide) ⟨rfl, rfl, rfl, rfl, rfl, rfl, rfl, rfl, rfl, rfl, trivial⟩
        refine wl_ex (x_appD (s := (⟨vq, qs⟩ : Ls (Ls Ins))) (m := (⟨v200, [s195]⟩ : Ls (Ls Ins))) h201 sl_26 ti_64 rfl rfl rfl rfl rfl rfl rfl inferInstance (show (qs.length + ([s195]).length) * 24 ≤ 140737488355328 ∧ qs.length + ([s195]).length ≤ 140737488355328 from (by first | omega | (simp only [List.length_append, List.length_cons, List.length_nil, List.length_set, List.length_replicate, List.length_map, List.length_range]; omega))) rfl rfl) (wanted_none rfl _) ?_
        rintro a202 w202 ⟨v202, h202⟩
        clear h201
        refine wv h202 (r_fieldB (r := 0) fl_28_0 rfl rfl rfl) rfl rfl fun a203 h203 => ?_
        clear h202
        refine wl_ex (x_stb (i := 2) (vs := [v202]) (cs' := [v202, v17, .int .i64 locks, .int .i64 regs]) h203 ti_26 rfl rfl rfl rfl rfl (cells_oneL ((h203.sh.deep 0 rfl)).one) rfl (allOne_cons ((h203.sh.deep 0 rfl)).one allOne_nil) (Nat.le_of_ble_eq_true rfl) rfl) (wanted_none rfl _) ?_
        rintro a204 w204 h204
        clear h203
        refine wpList_nil ?_
        refine hK34 _ _ ?_
        refine wp_region_lit ?_
        refine wms 1 h204 rfl fun a205 h205 => ?_
        clear h204
        refine wv h205 (r_addN (p := t) (q := 1) rfl rfl rfl (show t + 1 < 9223372036854775808 from (by first | omega | (simp only [List.length_append, List.length_cons, List.length_nil, List.length_set, List.length_replicate, List.length_map, List.length_range]; omega)))) rfl rfl fun a206 h206 => ?_
        clear h205
        refine wms 1 h206 rfl fun a207 h207 => ?_
        clear h206
        refine wpList_nil ?_
        refine x_again ⟨_, ?_, t + 1, qs ++ ([s195]), v202, ?_, ?_, ?_, ((h207.sub (F' := [(1, .pointer (some ⟨b3, 0, none⟩)), (2, .pointer (some ⟨b4, 0, none⟩)), (3, .pointer (some ⟨b11, 0, none⟩)), (4, .int .i64 ((t + 1 : Nat) : Int))]) ⟨rfl, rfl, rfl, rfl, trivial⟩).sel (L' := [.own 3 (⟨v17, words.l⟩ : Ls Int), .blk b11 28 [v202, v17, .int .i64 locks, .int .i64 regs], .blk b4 28 [(.slice none 0 0), (.slice none 0 0), .int .i64 0, .int .i64 0], .blk b3 28 [code.v, words.v, .int .i64 locks, .int .i64 regs], .at_ code, .at_ words, .deep 64 (⟨v202, qs ++ ([s195])⟩ : Ls (Ls Ins))]) [1, 2, 3, 4, 5, 6, 0] (by decide) ⟨rfl, rfl, rfl, rfl, rfl, rfl, rfl, trivial⟩), rfl⟩
        · rw [hm23]; first | omega | (simp only [List.length_append, List.length_cons, List.length_nil, List.length_set, List.length_replicate, List.length_map, List.length_range]; omega)
        · omega
        · rw [List.map_append, hqs, take_succ_nth _ _ (by omega)]; simp [hq1]
        · simp [hql]
  ·
    have hp33 : ¬ (t < code.l.length) := of_decide_eq_false hb33
    refine wp_exit ?_
    refine hK20 _ _ ?_
    refine wp_seq_k fun K208 hK208 => ?_
    refine wp_region_lit ?_
    refine wv h32 (r_ldbw (i := 1) (vs := [vq, v17, .int .i64 locks, .int .i64 regs]) ti_28 rfl rfl rfl rfl rfl) rfl rfl fun a209 h209 => ?_
    clear h32
    refine wl_ex (x_stb (i := 2) (vs := [vq, v17, .int .i64 locks, .int .i64 regs]) (cs' := [vq, v17, .int .i64 locks, .int .i64 regs]) h209 ti_28 rfl rfl rfl rfl rfl rfl rfl (allOne_cons ((h209.sh.deep 6 rfl)).one (allOne_cons ((h209.sh.own 0 rfl)).one (allOne_cons rfl (allOne_cons rfl allOne_nil)))) (Nat.le_of_ble_eq_true rfl) rfl) (wanted_none rfl _) ?_
    rintro a210 w210 h210
    clear h209
    refine wpList_nil ?_
    refine hK208 _ _ ?_
    refine wp_ret ?_
    try simp only [Exit.then, Exit.inBlock]
    refine x_ret1c (fn := Try.f28) (t := 2) (i := 2) ti_28 rfl h210 rfl rfl rfl ?_
    refine ⟨⟨vq, qs⟩, ⟨v17, words.l⟩, rfl, ?_, rfl, (h210.sh.sel (L' := [.deep 64 (⟨vq, qs⟩ : Ls (Ls Ins)), .own 3 (⟨v17, words.l⟩ : Ls Int)]) [6, 0] (by decide) ⟨rfl, rfl, trivial⟩)⟩
    show qs.map (·.l) = _; rw [hqs, List.take_of_length_le (by omega)]

end Go.Proofs.Ytanhbpofhebbaaa
