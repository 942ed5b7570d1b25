/-
  Contracts of functions of this program and of the references, each walked once.
-/
import Derived.Test.YtanhbpofhebbaaaX6
namespace Go.Proofs.Ytanhbpofhebbaaa
open Go.RowKit
set_option linter.unusedSimpArgs false
set_option linter.unusedVariables false


/-- The first number of an order that may be is small. -/
theorem ok_a {p : Pg} {size : Int} {x : Ins} (h : OkIns p size x) (hr : p.regs ≤ 200) (hw : p.words.length ≤ 64) (hl : p.locks ≤ 4) (hs : 0 ≤ size ∧ size ≤ 400) : 0 ≤ x.a ∧ x.a ≤ 400 := by
  have h0 := h.n0
  have hs1 : wrap64 (size + 1) = size + 1 := IntWalk.wrap64_in _ ⟨by omega, by omega⟩
  have key : ∀ (k : UInt8), k ≠ 110 → fitsG p size (k.toNat : Int) x.a = true → 0 ≤ x.a ∧ x.a ≤ 400 := by
    intro k hk hf
    unfold fitsG at hf
    have hk' : ¬ ((k.toNat : Int) = 110) := fun e => hk (by have : k.toNat = 110 := (by omega); exact UInt8.toNat_inj.1 this)
    rw [if_neg hk'] at hf
    simp only [Bool.and_eq_true, decide_eq_true_eq, hs1] at hf
    (repeat' split at hf) <;> omega
  unfold okNumG at h0
  obtain ⟨h1, h2⟩ := h.op
  have hc := cases18 x.op ⟨h1, h2⟩
  rcases hc with e | e | e | e | e | e | e | e | e | e | e | e | e | e | e | e | e | e <;> rw [e] at h0 <;> first | exact key _ (by decide) h0 | (rw [dif_neg (by decide)] at h0; have : x.a = 0 := (by simpa [Ins.num] using h0); omega)
theorem ok_lock {p : Pg} {size : Int} {x : Ins} (h : OkIns p size x) (ho : x.op = 17 ∨ x.op = 18) : 0 ≤ x.a ∧ x.a < p.locks := by
  have h0 := h.n0
  unfold okNumG at h0
  have : fitsG p size 108 x.a = true := by rcases ho with e | e <;> rw [e] at h0 <;> exact h0
  unfold fitsG at this
  simp only [Int.reduceEq, if_false, if_true, Bool.and_eq_true, decide_eq_true_eq] at this
  exact this
theorem ok_as {code : Ls (Ls Ins)} {words : Ls Int} {locks regs : Int} (h : OkPg (pgOf code words locks regs)) (t i : Nat) (ht : t < code.l.length) (hi : i < (nth code.l t).l.length) : 0 ≤ (nth (nth code.l t).l i).a ∧ (nth (nth code.l t).l i).a ≤ 400 := by
  have e : nth (pgOf code words locks regs).code t = (nth code.l t).l := nth_map' _ _ _ ht
  have ht' : t < (pgOf code words locks regs).code.length := by simpa [pgOf] using ht
  have h2 := h.ins t i ht' (by rw [e]; exact hi)
  have h3 := h.len t ht'
  rw [e] at h2 h3
  exact ok_a h2 h.regs.2 h.words h.locks.2 ⟨by omega, by omega⟩
def linkB (nw : Nat) (_ : Nat) (x : Ins) : List Ins :=
  if x.op = 17 then [⟨1, 6, 0, 0⟩, ⟨1, 7, 1, 0⟩, ⟨13, nw + x.a, 6, 7⟩, ⟨15, 6, -1, 0⟩] else if x.op = 18 then [⟨1, 6, 0, 0⟩, ⟨9, nw + x.a, 6, 0⟩] else [x]
def linkR (nw : Nat) (_ : Nat) (x : Ins) : List Ins :=
  if x.op = 17 then [⟨1, 6, 0, 0⟩, ⟨1, 7, 1, 0⟩, ⟨13, nw + x.a, 6, 7⟩, ⟨15, 6, 0, 0⟩] else if x.op = 18 then [⟨1, 6, 0, 0⟩, ⟨9, nw + x.a, 6, 0⟩] else [x]
theorem linkR_len (nw i : Nat) (x : Ins) : (linkR nw i x).length ≤ 4 := by unfold linkR; split; simp; split <;> simp
theorem linkB_len (nw i : Nat) (x : Ins) : (linkB nw i x).length ≤ 4 := by unfold linkB; split; simp; split <;> simp
theorem linkBR_len (nw i : Nat) (x : Ins) : (linkB nw i x).length = (linkR nw i x).length := by unfold linkB linkR; split; rfl; split <;> rfl
def linkL (nw : Nat) (code : List Ins) : List Ins := putL (becL (linkR nw) code) code
theorem link_nth {P : Ins → Prop} (nw i : Nat) (x : Ins) (B : Nat → Nat → Ins → List Ins) (hB : B = linkR ∨ B = linkB) (h1 : ¬ x.op = 17 → ¬ x.op = 18 → P x) (h2 : x.op = 17 ∨ x.op = 18 → ∀ y ∈ B nw i x, P y) (k : Nat) (hk : k < (B nw i x).length) : P (nth (B nw i x) k) := by
  by_cases h : x.op = 17 ∨ x.op = 18
  · exact h2 h _ (nth_mem _ _ hk)
  · have e : B nw i x = [x] := by rcases hB with rfl | rfl <;> simp only [linkR, linkB] <;> rw [if_neg (by omega), if_neg (by omega)]
    rw [e] at hk ⊢
    obtain rfl : k = 0 := by simpa using hk
    exact h1 (by omega) (by omega)
theorem linkR_ok2 (nw : Nat) (code : List Ins) (hj : JumpsOK code) (bc : List (Ls Ins)) (hb : bc.map (·.l) = becL (linkR nw) code) : BecomeOK2 bc code := by
  intro i hi k hk
  have hl : bc.length = code.length := by have := congrArg List.length hb; simpa [becL] using this
  have e : (nth bc i).l = linkR nw i (nth code i) := by
    rw [← nth_map' (fun x : Ls Ins => x.l) bc i (by omega), hb, becL_nth _ _ _ hi]
  rw [e] at hk ⊢
  have := hj i hi
  refine link_nth (P := fun y => (y.op ≠ 14 ∨ ((nth code i).op ≠ 14 ∧ (nth code i).op ≠ 15) ∨ (0 ≤ y.a ∧ y.a ≤ code.length)) ∧ (y.op ≠ 15 ∨ (nth code i).op ≠ 15 ∨ (0 ≤ y.b ∧ y.b ≤ code.length))) nw i (nth code i) linkR (.inl rfl) (fun _ _ => ?_) (fun h y _ => ⟨.inr (.inl (by omega)), .inr (.inl (by omega))⟩) k hk
  refine ⟨?_, ?_⟩
  · by_cases h : (nth code i).op = 14
    · exact .inr (.inr (this.1 h))
    · exact .inl h
  · by_cases h : (nth code i).op = 15
    · exact .inr (.inr (this.2 h))
    · exact .inl h
theorem linkB_ok (nw : Nat) (code : List Ins) (hj : JumpsOK code) : BecB (linkB nw) code := by
  intro i hi k hk
  have := hj i hi
  refine link_nth (P := fun y => (y.op ≠ 14 ∨ ((nth code i).op ≠ 14 ∧ (nth code i).op ≠ 15) ∨ (0 ≤ y.a ∧ y.a ≤ code.length)) ∧ (y.op ≠ 15 ∨ (nth code i).op ≠ 15 ∨ (0 ≤ y.b ∧ y.b ≤ code.length))) nw i (nth code i) linkB (.inr rfl) (fun _ _ => ?_) (fun h y _ => ⟨.inr (.inl (by omega)), .inr (.inl (by omega))⟩) k hk
  refine ⟨?_, ?_⟩
  · by_cases h : (nth code i).op = 14
    · exact .inr (.inr (this.1 h))
    · exact .inl h
  · by_cases h : (nth code i).op = 15
    · exact .inr (.inr (this.2 h))
    · exact .inl h

set_option maxRecDepth 100000 in
set_option maxHeartbeats 1000000 in
theorem link1_c (i : Nat) (x : Ins) (b : Nat) (code : Ls (Ls Ins)) (words : Ls Int) (locks regs : Int) (W : World) (hi : i ≤ 100000) (hB : Blk W b 28 #[code.v, words.v, .int .i64 locks, .int .i64 regs]) (hw : words.At W) (ha : 0 ≤ x.a ∧ x.a ≤ 400) :
    Rets Try.prog 74 [.int .i64 ((i : Nat) : Int), .agg #[.int .i64 x.op, .int .i64 x.a, .int .i64 x.b, .int .i64 x.c], .pointer (some ⟨b, 0, none⟩)] W (fun v w' => ∃ s : Ls Ins, v = s.v ∧ Sh0 W w' [.own 73 (⟨s.v, linkB words.l.length i x⟩ : Ls Ins)]) := by
  refine x_enter (N := 31) Try.func74 rfl Try.ntmps74 (Nat.le_of_ble_eq_true rfl) fun a1 hf1 => ?_
  have h1 : St 31 (fun _ => False) W a1 W [(0, .int .i64 ((i : Nat) : Int)), (1, .agg #[.int .i64 x.op, .int .i64 x.a, .int .i64 x.b, .int .i64 x.c]), (2, .pointer (some ⟨b, 0, none⟩))] [.rblk b 28 [code.v, words.v, .int .i64 locks, .int .i64 regs], .at_ words] := ⟨hf1.sub ⟨rfl, rfl, rfl, trivial⟩, Sh0.ext (by intro A hA; simp at hA; rcases hA with rfl | rfl; exact hB; exact hw) (by intro A hA b hb; simp at hA; rcases hA with rfl | rfl <;> exact hb)⟩
  clear hf1
  refine wp_seq_k fun K2 hK2 => ?_
  refine wp_region_lit ?_
  refine wl_ex (x_box (cs := [.int .i64 x.op, .int .i64 x.a, .int .i64 x.b, .int .i64 x.c]) h1 rfl rfl rfl rfl rfl) (wanted_none rfl _) ?_
  rintro a3 w3 ⟨b3, h3⟩
  clear h1
  refine wms 1 h3 rfl fun a4 h4 => ?_
  clear h3
  refine wpList_nil ?_
  refine hK2 _ _ ?_
  refine wp_seq_k fun K5 hK5 => ?_
  refine wp_region_lit ?_
  refine wv h4 (r_fieldB (r := 1) fl_28_1 rfl rfl rfl) rfl rfl fun a6 h6 => ?_
  clear h4
  refine wv h6 (r_ldbR ti_24 rfl rfl (fun w h => h.rblk 1 rfl) rfl) rfl rfl fun a7 h7 => ?_
  clear h6
  have hl8 : words.l.length ≤ 140737488355328 := (h7.sh.at 2 rfl).len
  refine wv h7 (r_len (s := words) (n := words.l.length) sl_24 rfl rfl (fun w h => (h.at 2 rfl)) rfl) rfl rfl fun a9 h9 => ?_
  clear h7
  refine wv h9 (r_fieldB (r := 1) fl_73_1 rfl rfl rfl) rfl rfl fun a10 h10 => ?_
  clear h9
  refine wv h10 (r_ldb (i := 0) ti_3 rfl rfl rfl rfl) rfl rfl fun a11 h11 => ?_
  clear h10
  refine wv h11 (r_addI (p := ((words.l.length : Nat) : Int)) (q := x.a) rfl rfl rfl (show -9223372036854775808 ≤ ((words.l.length : Nat) : Int) + x.a ∧ ((words.l.length : Nat) : Int) + x.a < 9223372036854775808 from (by first | omega | (simp only [List.length_append, List.length_cons, List.length_nil, List.length_set, List.length_replicate, List.length_map, List.length_range]; omega)))) rfl rfl fun a12 h12 => ?_
  clear h11
  refine wms 1 h12 rfl fun a13 h13 => ?_
  clear h12
  refine wpList_nil ?_
  refine hK5 _ _ ?_
  refine wp_seq_k fun K14 hK14 => ?_
  refine wp_seq_k fun K15 hK15 => ?_
  refine wp_region_lit ?_
  refine wv h13 (r_fieldB (r := 0) fl_73_0 rfl rfl rfl) rfl rfl fun a16 h16 => ?_
  clear h13
  refine wv h16 (r_ldb (i := 0) ti_3 rfl rfl rfl rfl) rfl rfl fun a17 h17 => ?_
  clear h16
  refine wpList_nil ?_
  refine hK15 _ _ ?_
  refine wp_block ?_
  refine wp_seq_k fun K18 hK18 => ?_
  refine wp_region_lit ?_
  refine wv h17 (r_eqlI (p := x.op) (q := 17) rfl rfl rfl) rfl rfl fun a19 h19 => ?_
  clear h17
  refine wms 1 h19 rfl fun a20 h20 => ?_
  clear h19
  refine wpList_nil ?_
  refine hK18 _ _ ?_
  refine x_cond h20 rfl (fun hb21 => ?_) (fun hb21 => ?_)
  ·
    have hp21 : x.op = 17 := of_decide_eq_true hb21
    refine wp_seq_k fun K22 hK22 => ?_
    refine wp_region_lit ?_
    refine wv h20 (r_build (cs := [.int .i64 1, .int .i64 6, .int .i64 0, .int .i64 0]) rfl rfl (by kernel_rfl)) rfl rfl fun a23 h23 => ?_
    clear h20
    refine wv h23 (r_build (cs := [.int .i64 1, .int .i64 7, .int .i64 1, .int .i64 0]) rfl rfl (by kernel_rfl)) rfl rfl fun a24 h24 => ?_
    clear h23
    refine wms 1 h24 rfl fun a25 h25 => ?_
    clear h24
    refine wv h25 (r_build (cs := [.int .i64 13, .int .i64 (((words.l.length : Nat) : Int) + x.a), .int .i64 6, .int .i64 7]) rfl rfl (by kernel_rfl)) rfl rfl fun a26 h26 => ?_
    clear h25
    refine wv h26 (r_build (cs := [.int .i64 15, .int .i64 6, .int .i64 (-1), .int .i64 0]) rfl rfl (by kernel_rfl)) rfl rfl fun a27 h27 => ?_
    clear h26
    refine wl_ex (x_lit (n := 4) (cs := [.int .i64 1, .int .i64 6, .int .i64 0, .int .i64 0, .int .i64 1, .int .i64 7, .int .i64 1, .int .i64 0, .int .i64 13, .int .i64 (((words.l.length : Nat) : Int) + x.a), .int .i64 6, .int .i64 7, .int .i64 15, .int .i64 6, .int .i64 (-1), .int .i64 0]) ([⟨1, 6, 0, 0⟩, ⟨1, 7, 1, 0⟩, ⟨13, ((words.l.length : Nat) : Int) + x.a, 6, 7⟩, ⟨15, 6, (-1), 0⟩] : List Ins) h27 sl_64 ti_73 rfl rfl rfl (by decide) rfl (by kernel_rfl) rfl (fun q hq w h => Flat.inner _ _) (fun q hq b hb => (Flat.on _ _ hb).elim) rfl rfl) (wanted_none rfl _) ?_
    rintro a28 w28 ⟨v28, h28⟩
    clear h27
    refine wms 1 h28 rfl fun a29 h29 => ?_
    clear h28
    refine wpList_nil ?_
    refine hK22 _ _ ?_
    refine wp_ret ?_
    try simp only [Exit.then, Exit.inBlock]
    refine x_ret1 (fn := Try.f74) (t := 5) rfl h29 rfl ?_
    refine ⟨⟨v28, []⟩, rfl, ?_⟩
    rw [show linkB words.l.length i x = [⟨1, 6, 0, 0⟩, ⟨1, 7, 1, 0⟩, ⟨13, ((words.l.length : Nat) : Int) + x.a, 6, 7⟩, ⟨15, 6, (-1), 0⟩] from by unfold linkB; (repeat' split) <;> first | rfl | (exfalso; omega)]
    exact (h29.sh.sel (L' := [.own 73 (⟨v28, [⟨1, 6, 0, 0⟩, ⟨1, 7, 1, 0⟩, ⟨13, ((words.l.length : Nat) : Int) + x.a, 6, 7⟩, ⟨15, 6, (-1), 0⟩]⟩ : Ls Ins)]) [0] (by decide) ⟨rfl, trivial⟩)
  ·
    have hp21 : ¬ (x.op = 17) := of_decide_eq_false hb21
    refine wp_seq_k fun K30 hK30 => ?_
    refine wp_region_lit ?_
    refine wv h20 (r_eqlI (p := x.op) (q := 18) rfl rfl rfl) rfl rfl fun a31 h31 => ?_
    clear h20
    refine wms 1 h31 rfl fun a32 h32 => ?_
    clear h31
    refine wpList_nil ?_
    refine hK30 _ _ ?_
    refine x_cond h32 rfl (fun hb33 => ?_) (fun hb33 => ?_)
    ·
      have hp33 : x.op = 18 := of_decide_eq_true hb33
      refine wp_seq_k fun K34 hK34 => ?_
      refine wp_region_lit ?_
      refine wv h32 (r_build (cs := [.int .i64 1, .int .i64 6, .int .i64 0, .int .i64 0]) rfl rfl (by kernel_rfl)) rfl rfl fun a35 h35 => ?_
      clear h32
      refine wms 1 h35 rfl fun a36 h36 => ?_
      clear h35
      refine wv h36 (r_build (cs := [.int .i64 9, .int .i64 (((words.l.length : Nat) : Int) + x.a), .int .i64 6, .int .i64 0]) rfl rfl (by kernel_rfl)) rfl rfl fun a37 h37 => ?_
      clear h36
      refine wl_ex (x_lit (n := 2) (cs := [.int .i64 1, .int .i64 6, .int .i64 0, .int .i64 0, .int .i64 9, .int .i64 (((words.l.length : Nat) : Int) + x.a), .int .i64 6, .int .i64 0]) ([⟨1, 6, 0, 0⟩, ⟨9, ((words.l.length : Nat) : Int) + x.a, 6, 0⟩] : List Ins) h37 sl_64 ti_73 rfl rfl rfl (by decide) rfl (by kernel_rfl) rfl (fun q hq w h => Flat.inner _ _) (fun q hq b hb => (Flat.on _ _ hb).elim) rfl rfl) (wanted_none rfl _) ?_
      rintro a38 w38 ⟨v38, h38⟩
      clear h37
      refine wms 1 h38 rfl fun a39 h39 => ?_
      clear h38
      refine wpList_nil ?_
      refine hK34 _ _ ?_
      refine wp_ret ?_
      try simp only [Exit.then, Exit.inBlock]
      refine x_ret1 (fn := Try.f74) (t := 5) rfl h39 rfl ?_
      refine ⟨⟨v38, []⟩, rfl, ?_⟩
      rw [show linkB words.l.length i x = [⟨1, 6, 0, 0⟩, ⟨9, ((words.l.length : Nat) : Int) + x.a, 6, 0⟩] from by unfold linkB; (repeat' split) <;> first | rfl | (exfalso; omega)]
      exact (h39.sh.sel (L' := [.own 73 (⟨v38, [⟨1, 6, 0, 0⟩, ⟨9, ((words.l.length : Nat) : Int) + x.a, 6, 0⟩]⟩ : Ls Ins)]) [0] (by decide) ⟨rfl, trivial⟩)
    ·
      have hp33 : ¬ (x.op = 18) := of_decide_eq_false hb33
      refine wp_skip ?_
      refine hK14 _ _ ?_
      refine wp_seq_k fun K40 hK40 => ?_
      refine wp_region_lit ?_
      refine wv h32 (r_ldbw (i := 0) (vs := [.int .i64 x.op, .int .i64 x.a, .int .i64 x.b, .int .i64 x.c]) ti_73 rfl rfl rfl rfl rfl) rfl rfl fun a41 h41 => ?_
      clear h32
      refine wl_ex (x_lit (n := 1) (cs := [.int .i64 x.op, .int .i64 x.a, .int .i64 x.b, .int .i64 x.c]) ([⟨x.op, x.a, x.b, x.c⟩] : List Ins) h41 sl_64 ti_73 rfl rfl rfl (by decide) rfl (by kernel_rfl) rfl (fun q hq w h => Flat.inner _ _) (fun q hq b hb => (Flat.on _ _ hb).elim) rfl rfl) (wanted_none rfl _) ?_
      rintro a42 w42 ⟨v42, h42⟩
      clear h41
      refine wms 1 h42 rfl fun a43 h43 => ?_
      clear h42
      refine wpList_nil ?_
      refine hK40 _ _ ?_
      refine wp_ret ?_
      try simp only [Exit.then, Exit.inBlock]
      refine x_ret1 (fn := Try.f74) (t := 5) rfl h43 rfl ?_
      refine ⟨⟨v42, []⟩, rfl, ?_⟩
      rw [show linkB words.l.length i x = [⟨x.op, x.a, x.b, x.c⟩] from by unfold linkB; (repeat' split) <;> first | rfl | (exfalso; omega)]
      exact (h43.sh.sel (L' := [.own 73 (⟨v42, [⟨x.op, x.a, x.b, x.c⟩]⟩ : Ls Ins)]) [0] (by decide) ⟨rfl, trivial⟩)

set_option maxRecDepth 100000 in
set_option maxHeartbeats 4000000 in
theorem rLink_c (code : Ls (Ls Ins)) (words : Ls Int) (locks regs : Int) (W : World) (hcode : code.At W) (hwords : words.At W) (hok : OkPg (pgOf code words locks regs)) :
    Rets Try.prog 32 [.agg #[code.v, words.v, .int .i64 locks, .int .i64 regs]] W (fun v w' => ∃ (c : Ls (Ls Ins)) (u : Ls Int) (n : Int), v = .tuple #[.agg #[c.v, u.v, .int .i64 0, .int .i64 8], .int .i64 n] ∧ c.l.map (·.l) = (code.l.map (·.l)).map (linkL words.l.length) ∧ u.l = words.l ++ List.replicate locks.toNat 0 ∧ LongIs (c.l.map (·.l)) n ∧ Sh0 W w' [.deep 64 c, .own 3 u]) := by
  have hz := checkG_ok hok
  obtain ⟨hl1, hl2, hl3, hl4', hl5, hl6, hl7⟩ := ok_len hok
  refine x_enter (N := 101) Try.func32 rfl Try.ntmps32 (Nat.le_of_ble_eq_true rfl) fun a1 hf1 => ?_
  have h1 : St 101 (fun _ => False) W a1 W [(0, .agg #[code.v, words.v, .int .i64 locks, .int .i64 regs])] [.at_ code, .at_ words] := ⟨hf1.sub ⟨rfl, trivial⟩, Sh0.ext2 hcode hwords⟩
  clear hf1
  refine wp_seq_k fun K2 hK2 => ?_
  refine wp_region_lit ?_
  refine wl_ex (x_box (cs := [code.v, words.v, .int .i64 locks, .int .i64 regs]) h1 rfl rfl rfl rfl rfl) (wanted_none rfl _) ?_
  rintro a3 w3 ⟨b3, h3⟩
  clear h1
  refine wl_ex (x_alloc h3 ti_28 rfl rfl rfl) (wanted_none rfl _) ?_
  rintro a4 w4 ⟨b4, h4⟩
  clear h3
  refine wms 1 h4 rfl fun a5 h5 => ?_
  clear h4
  refine wpList_nil ?_
  refine hK2 _ _ ?_
  refine wp_seq_k fun K6 hK6 => ?_
  refine wp_region_lit ?_
  refine wv h5 (r_build (cs := [(.slice none 0 0), (.slice none 0 0), .int .i64 0, .int .i64 8]) rfl rfl (by kernel_rfl)) rfl rfl fun a7 h7 => ?_
  clear h5
  refine wl_ex (x_alloc h7 ti_28 rfl rfl rfl) (wanted_none rfl _) ?_
  rintro a8 w8 ⟨b8, h8⟩
  clear h7
  refine wl_ex (x_stb (i := 0) (vs := [(.slice none 0 0), (.slice none 0 0), .int .i64 0, .int .i64 8]) (cs' := [(.slice none 0 0), (.slice none 0 0), .int .i64 0, .int .i64 8]) h8 ti_28 rfl rfl rfl rfl rfl rfl rfl (allOne_cons rfl (allOne_cons rfl (allOne_cons rfl (allOne_cons rfl allOne_nil)))) (Nat.le_of_ble_eq_true rfl) rfl) (wanted_none rfl _) ?_
  rintro a9 w9 h9
  clear h8
  refine wpList_nil ?_
  refine hK6 _ _ ?_
  refine wp_seq_k fun K10 hK10 => ?_
  refine wp_region_lit ?_
  refine wl_ex (x_lit0 (α := Int) h9 sl_24 ti_3 rfl rfl rfl) (wanted_none rfl _) ?_
  rintro a11 w11 ⟨v11, h11⟩
  clear h9
  refine wv h11 (r_fieldB (r := 1) fl_28_1 rfl rfl rfl) rfl rfl fun a12 h12 => ?_
  clear h11
  refine wv h12 (r_ldb (i := 3) ti_24 rfl rfl rfl rfl) rfl rfl fun a13 h13 => ?_
  clear h12
  refine wl_ex (x_app (r := 0) (rm := 5) (s := (⟨v11, []⟩ : Ls Int)) (m := words) h13 sl_24 ti_3 rfl rfl rfl rfl rfl rfl rfl (fun w h => (h.at 5 rfl)) (fun b hb => .inr hb) (fun q hq b hb => .inr ⟨q, hq, hb⟩) rfl rfl rfl inferInstance (show (([]).length + words.l.length) * 8 ≤ 140737488355328 ∧ ([]).length + words.l.length ≤ 140737488355328 from (by first | omega | (simp only [List.length_append, List.length_cons, List.length_nil, List.length_set, List.length_replicate, List.length_map, List.length_range]; omega))) rfl rfl) (wanted_none rfl _) ?_
  rintro a14 w14 ⟨v14, h14⟩
  clear h13
  refine wv h14 (r_fieldB (r := 1) fl_28_1 rfl rfl rfl) rfl rfl fun a15 h15 => ?_
  clear h14
  refine wl_ex (x_stb (i := 1) (vs := [v14]) (cs' := [(.slice none 0 0), v14, .int .i64 0, .int .i64 8]) h15 ti_24 rfl rfl rfl rfl rfl (cells_oneL ((h15.sh.own 0 rfl)).one) rfl (allOne_cons ((h15.sh.own 0 rfl)).one allOne_nil) (Nat.le_of_ble_eq_true rfl) rfl) (wanted_none rfl _) ?_
  rintro a16 w16 h16
  clear h15
  refine wpList_nil ?_
  refine hK10 _ _ ?_
  refine wp_seq_k fun K17 hK17 => ?_
  refine wp_seq_k fun K18 hK18 => ?_
  refine wp_region_lit ?_
  refine wms 1 h16 rfl fun a19 h19 => ?_
  clear h16
  refine wpList_nil ?_
  refine hK18 _ _ ?_
  refine wp_block ?_
  refine x_loop (fun m a w => ∃ (lk : Nat) (ws : List Int) (vw : Value), ((lk : Int) ≤ locks) ∧ (ws = words.l ++ List.replicate lk 0) ∧ (ws.length = words.l.length + lk) ∧ St 101 (fun _ => False) W a w [(1, .pointer (some ⟨b3, 0, none⟩)), (2, .pointer (some ⟨b4, 0, none⟩)), (4, .pointer (some ⟨b8, 0, none⟩)), (5, .int .i64 ((lk : Nat) : Int))] [.own 3 (⟨vw, ws⟩ : Ls Int), .blk b8 28 [(.slice none 0 0), vw, .int .i64 0, .int .i64 8], .blk b4 28 [(.slice none 0 0), (.slice none 0 0), .int .i64 0, .int .i64 0], .blk b3 28 [code.v, words.v, .int .i64 locks, .int .i64 regs], .at_ code, .at_ words] ∧ m = (locks - lk).toNat) ⟨_, 0, words.l, v14, (by omega), (by simp), (rfl), ((h19.sub (F' := [(1, .pointer (some ⟨b3, 0, none⟩)), (2, .pointer (some ⟨b4, 0, none⟩)), (4, .pointer (some ⟨b8, 0, none⟩)), (5, .int .i64 0)]) ⟨rfl, rfl, rfl, rfl, trivial⟩).sel (L' := [.own 3 (⟨v14, words.l⟩ : Ls Int), .blk b8 28 [(.slice none 0 0), v14, .int .i64 0, .int .i64 8], .blk b4 28 [(.slice none 0 0), (.slice none 0 0), .int .i64 0, .int .i64 0], .blk b3 28 [code.v, words.v, .int .i64 locks, .int .i64 regs], .at_ code, .at_ words]) [0, 1, 2, 3, 4, 5] (by decide) ⟨rfl, rfl, rfl, rfl, rfl, rfl, trivial⟩), rfl⟩ ?_
  clear h19
  rintro m20 a20 w20 ⟨lk, ws, vw, hlk, hws, hwl, h20, hm20⟩
  refine wp_seq_k fun K21 hK21 => ?_
  refine wp_seq_k fun K22 hK22 => ?_
  refine wp_region_lit ?_
  refine wms 1 h20 rfl fun a23 h23 => ?_
  clear h20
  refine wv h23 (r_fieldB (r := 2) fl_28_2 rfl rfl rfl) rfl rfl fun a24 h24 => ?_
  clear h23
  refine wv h24 (r_ldb (i := 3) ti_3 rfl rfl rfl rfl) rfl rfl fun a25 h25 => ?_
  clear h24
  refine wv h25 (r_lssI (p := ((lk : Nat) : Int)) (q := locks) rfl rfl rfl) rfl rfl fun a26 h26 => ?_
  clear h25
  refine wpList_nil ?_
  refine hK22 _ _ ?_
  refine x_cond h26 rfl (fun hb27 => ?_) (fun hb27 => ?_)
  ·
    have hp27 : ((lk : Nat) : Int) < locks := of_decide_eq_true hb27
    refine wp_skip ?_
    refine hK21 _ _ ?_
    refine wp_seq_k fun K28 hK28 => ?_
    refine wp_block ?_
    refine wp_region_lit ?_
    refine wv h26 (r_fieldB (r := 1) fl_28_1 rfl rfl rfl) rfl rfl fun a29 h29 => ?_
    clear h26
    refine wv h29 (r_ldb (i := 1) ti_24 rfl rfl rfl rfl) rfl rfl fun a30 h30 => ?_
    clear h29
    refine wl_ex (x_lit (n := 1) (cs := [.int .i64 0]) ([0] : List Int) h30 sl_24 ti_3 rfl rfl rfl (by decide) rfl (by kernel_rfl) rfl (fun q hq w h => Flat.inner _ _) (fun q hq b hb => (Flat.on _ _ hb).elim) rfl rfl) (wanted_none rfl _) ?_
    rintro a31 w31 ⟨v31, h31⟩
    clear h30
    refine wl_ex (x_app (r := 1) (rm := 0) (s := (⟨vw, ws⟩ : Ls Int)) (m := (⟨v31, [0]⟩ : Ls Int)) h31 sl_24 ti_3 rfl rfl rfl rfl rfl rfl rfl (fun w h => (h.own 0 rfl)) (fun b hb => own_on (h31.sh.ok _ (List.mem_of_getElem? (i := 0) rfl)) hb) (fun q hq b hb => ⟨q, hq, hb⟩) rfl rfl rfl inferInstance (show (ws.length + ([0]).length) * 8 ≤ 140737488355328 ∧ ws.length + ([0]).length ≤ 140737488355328 from (by first | omega | (simp only [List.length_append, List.length_cons, List.length_nil, List.length_set, List.length_replicate, List.length_map, List.length_range]; omega))) rfl rfl) (wanted_none rfl _) ?_
    rintro a32 w32 ⟨v32, h32⟩
    clear h31
    refine wv h32 (r_fieldB (r := 1) fl_28_1 rfl rfl rfl) rfl rfl fun a33 h33 => ?_
    clear h32
    refine wl_ex (x_stb (i := 2) (vs := [v32]) (cs' := [(.slice none 0 0), v32, .int .i64 0, .int .i64 8]) h33 ti_24 rfl rfl rfl rfl rfl (cells_oneL ((h33.sh.own 1 rfl)).one) rfl (allOne_cons ((h33.sh.own 1 rfl)).one allOne_nil) (Nat.le_of_ble_eq_true rfl) rfl) (wanted_none rfl _) ?_
    rintro a34 w34 h34
    clear h33
    refine wpList_nil ?_
    refine hK28 _ _ ?_
    refine wp_region_lit ?_
    refine wms 1 h34 rfl fun a35 h35 => ?_
    clear h34
    refine wv h35 (r_addN (p := lk) (q := 1) rfl rfl rfl (show lk + 1 < 9223372036854775808 from (by first | omega | (simp only [List.length_append, List.length_cons, List.length_nil, List.length_set, List.length_replicate, List.length_map, List.length_range]; omega)))) rfl rfl fun a36 h36 => ?_
    clear h35
    refine wms 1 h36 rfl fun a37 h37 => ?_
    clear h36
    refine wpList_nil ?_
    refine x_again ⟨_, ?_, lk + 1, ws ++ ([0]), v32, ?_, ?_, ?_, ((h37.sub (F' := [(1, .pointer (some ⟨b3, 0, none⟩)), (2, .pointer (some ⟨b4, 0, none⟩)), (4, .pointer (some ⟨b8, 0, none⟩)), (5, .int .i64 ((lk + 1 : Nat) : Int))]) ⟨rfl, rfl, rfl, rfl, trivial⟩).sel (L' := [.own 3 (⟨v32, ws ++ ([0])⟩ : Ls Int), .blk b8 28 [(.slice none 0 0), v32, .int .i64 0, .int .i64 8], .blk b4 28 [(.slice none 0 0), (.slice none 0 0), .int .i64 0, .int .i64 0], .blk b3 28 [code.v, words.v, .int .i64 locks, .int .i64 regs], .at_ code, .at_ words]) [1, 2, 3, 4, 5, 6] (by decide) ⟨rfl, rfl, rfl, rfl, rfl, rfl, trivial⟩), rfl⟩
    · rw [hm20]; first | omega | (simp only [List.length_append, List.length_cons, List.length_nil, List.length_set, List.length_replicate, List.length_map, List.length_range]; omega)
    · omega
    · rw [hws, List.append_assoc, List.replicate_succ']
    · simp; omega
  ·
    have hp27 : ¬ (((lk : Nat) : Int) < locks) := of_decide_eq_false hb27
    refine wp_exit ?_
    refine hK17 _ _ ?_
    have hlk2 : ws = words.l ++ List.replicate locks.toNat 0 := by rw [hws, show locks.toNat = lk by omega]
    refine wp_seq_k fun K38 hK38 => ?_
    refine wp_seq_k fun K39 hK39 => ?_
    refine wp_region_lit ?_
    refine wms 1 h26 rfl fun a40 h40 => ?_
    clear h26
    refine wpList_nil ?_
    refine hK39 _ _ ?_
    refine wp_block ?_
    have h42 := h40.nilDeep (α := Ls Ins) 64
    clear h40
    refine x_loop (fun m a w => ∃ (t : Nat) (qs : List (Ls Ins)) (vq : Value), (t ≤ code.l.length) ∧ (qs.map (·.l) = ((code.l.take t).map (·.l)).map (linkL words.l.length)) ∧ (qs.length = t) ∧ St 101 (fun _ => False) W a w [(1, .pointer (some ⟨b3, 0, none⟩)), (2, .pointer (some ⟨b4, 0, none⟩)), (4, .pointer (some ⟨b8, 0, none⟩)), (6, .int .i64 ((t : Nat) : Int))] [.own 3 (⟨vw, ws⟩ : Ls Int), .blk b8 28 [vq, vw, .int .i64 0, .int .i64 8], .blk b4 28 [(.slice none 0 0), (.slice none 0 0), .int .i64 0, .int .i64 0], .blk b3 28 [code.v, words.v, .int .i64 locks, .int .i64 regs], .at_ code, .at_ words, .deep 64 (⟨vq, qs⟩ : Ls (Ls Ins))] ∧ m = code.l.length - t) ⟨_, 0, [], (.slice none 0 0), (by omega), (rfl), (rfl), ((h42.sub (F' := [(1, .pointer (some ⟨b3, 0, none⟩)), (2, .pointer (some ⟨b4, 0, none⟩)), (4, .pointer (some ⟨b8, 0, none⟩)), (6, .int .i64 0)]) ⟨rfl, rfl, rfl, rfl, trivial⟩).sel (L' := [.own 3 (⟨vw, ws⟩ : Ls Int), .blk b8 28 [(.slice none 0 0), vw, .int .i64 0, .int .i64 8], .blk b4 28 [(.slice none 0 0), (.slice none 0 0), .int .i64 0, .int .i64 0], .blk b3 28 [code.v, words.v, .int .i64 locks, .int .i64 regs], .at_ code, .at_ words, .deep 64 (⟨.slice none 0 0, []⟩ : Ls (Ls Ins))]) [1, 2, 3, 4, 5, 6, 0] (by decide) ⟨rfl, rfl, rfl, rfl, rfl, rfl, rfl, trivial⟩), rfl⟩ ?_
    clear h42
    rintro m41 a41 w41 ⟨t, qs, vq, ht, hqs, hql, h41, hm41⟩
    refine wp_seq_k fun K43 hK43 => ?_
    refine wp_seq_k fun K44 hK44 => ?_
    refine wp_region_lit ?_
    refine wms 1 h41 rfl fun a45 h45 => ?_
    clear h41
    refine wv h45 (r_fieldB (r := 0) fl_28_0 rfl rfl rfl) rfl rfl fun a46 h46 => ?_
    clear h45
    refine wv h46 (r_ldb (i := 3) ti_26 rfl rfl rfl rfl) rfl rfl fun a47 h47 => ?_
    clear h46
    have hl48 : code.l.length ≤ 140737488355328 := (h47.sh.at 4 rfl).len
    refine wv h47 (r_len (s := code) (n := code.l.length) sl_26 rfl rfl (fun w h => (h.at 4 rfl)) rfl) rfl rfl fun a49 h49 => ?_
    clear h47
    refine wv h49 (r_lssN (p := t) (q := code.l.length) rfl rfl rfl) rfl rfl fun a50 h50 => ?_
    clear h49
    refine wpList_nil ?_
    refine hK44 _ _ ?_
    refine x_cond h50 rfl (fun hb51 => ?_) (fun hb51 => ?_)
    ·
      have hp51 : t < code.l.length := of_decide_eq_true hb51
      refine wp_skip ?_
      refine hK43 _ _ ?_
      refine wp_seq_k fun K52 hK52 => ?_
      refine wp_block ?_
      refine wp_seq_k fun K53 hK53 => ?_
      refine wp_region_lit ?_
      refine wms 1 h50 rfl fun a54 h54 => ?_
      clear h50
      refine wpList_nil ?_
      refine hK53 _ _ ?_
      refine wp_seq_k fun K55 hK55 => ?_
      refine wp_seq_k fun K56 hK56 => ?_
      refine wp_region_lit ?_
      refine wms 1 h54 rfl fun a57 h57 => ?_
      clear h54
      refine wpList_nil ?_
      refine hK56 _ _ ?_
      refine wp_block ?_
      have h59 := h57.nilDeep (α := Ls Ins) 64
      clear h57
      obtain ⟨hl4, hjt⟩ := ok_thread hok t (by omega)
      refine x_loop (fun m a w => ∃ (j : Nat) (bc : List (Ls Ins)) (vb : Value), (j ≤ (nth code.l t).l.length) ∧ (bc.map (·.l) = (List.range j).map (fun i => linkR words.l.length i (nth (nth code.l t).l i))) ∧ (bc.length = j) ∧ St 101 (fun _ => False) W a w [(1, .pointer (some ⟨b3, 0, none⟩)), (2, .pointer (some ⟨b4, 0, none⟩)), (4, .pointer (some ⟨b8, 0, none⟩)), (6, .int .i64 ((t : Nat) : Int)), (7, vb), (8, .int .i64 ((j : Nat) : Int))] [.own 3 (⟨vw, ws⟩ : Ls Int), .blk b8 28 [vq, vw, .int .i64 0, .int .i64 8], .blk b4 28 [(.slice none 0 0), (.slice none 0 0), .int .i64 0, .int .i64 0], .blk b3 28 [code.v, words.v, .int .i64 locks, .int .i64 regs], .at_ code, .at_ words, .deep 64 (⟨vq, qs⟩ : Ls (Ls Ins)), .deep 64 (⟨vb, bc⟩ : Ls (Ls Ins))] ∧ m = (nth code.l t).l.length - j) ⟨_, 0, [], (.slice none 0 0), (by omega), (rfl), (rfl), ((h59.sub (F' := [(1, .pointer (some ⟨b3, 0, none⟩)), (2, .pointer (some ⟨b4, 0, none⟩)), (4, .pointer (some ⟨b8, 0, none⟩)), (6, .int .i64 ((t : Nat) : Int)), (7, (.slice none 0 0)), (8, .int .i64 0)]) ⟨rfl, rfl, rfl, rfl, rfl, rfl, trivial⟩).sel (L' := [.own 3 (⟨vw, ws⟩ : Ls Int), .blk b8 28 [vq, vw, .int .i64 0, .int .i64 8], .blk b4 28 [(.slice none 0 0), (.slice none 0 0), .int .i64 0, .int .i64 0], .blk b3 28 [code.v, words.v, .int .i64 locks, .int .i64 regs], .at_ code, .at_ words, .deep 64 (⟨vq, qs⟩ : Ls (Ls Ins)), .deep 64 (⟨.slice none 0 0, []⟩ : Ls (Ls Ins))]) [1, 2, 3, 4, 5, 6, 7, 0] (by decide) ⟨rfl, rfl, rfl, rfl, rfl, rfl, rfl, rfl, trivial⟩), rfl⟩ ?_
      clear h59
      rintro m58 a58 w58 ⟨j, bc, vb, hj, hbc, hbl, h58, hm58⟩
      refine wp_seq_k fun K60 hK60 => ?_
      refine wp_seq_k fun K61 hK61 => ?_
      refine wp_region_lit ?_
      refine wms 1 h58 rfl fun a62 h62 => ?_
      clear h58
      refine wv h62 (r_fieldB (r := 0) fl_28_0 rfl rfl rfl) rfl rfl fun a63 h63 => ?_
      clear h62
      refine wv h63 (r_ldb (i := 3) ti_26 rfl rfl rfl rfl) rfl rfl fun a64 h64 => ?_
      clear h63
      refine wms 1 h64 rfl fun a65 h65 => ?_
      clear h64
      refine wv h65 (r_ixN (s := code) (q := t) sl_26 ti_64 rfl rfl rfl (fun w h => (h.at 4 rfl)) (show t < code.l.length from (by first | omega | (simp only [List.length_append, List.length_cons, List.length_nil, List.length_set, List.length_replicate, List.length_map, List.length_range]; omega)))) rfl rfl fun a66 h66 => ?_
      clear h65
      refine wv h66 (r_lde (s := code) (i := t) (v := (nth code.l t).v) ti_64 rfl rfl rfl (fun w h => (h.at 4 rfl)) (show t < code.l.length from (by first | omega | (simp only [List.length_append, List.length_cons, List.length_nil, List.length_set, List.length_replicate, List.length_map, List.length_range]; omega))) (Nat.le_of_ble_eq_true rfl) rfl) rfl rfl fun a67 h67 => ?_
      clear h66
      have hl68 : ((nth code.l t).l).length ≤ 140737488355328 := ((h67.sh.at 4 rfl).nth t (show t < code.l.length from (by first | omega | (simp only [List.length_append, List.length_cons, List.length_nil, List.length_set, List.length_replicate, List.length_map, List.length_range]; omega)))).len
      refine wv h67 (r_len (s := nth code.l t) (n := ((nth code.l t).l).length) sl_64 rfl rfl (fun w h => ((h.at 4 rfl).nth t (show t < code.l.length from (by first | omega | (simp only [List.length_append, List.length_cons, List.length_nil, List.length_set, List.length_replicate, List.length_map, List.length_range]; omega))))) rfl) rfl rfl fun a69 h69 => ?_
      clear h67
      refine wv h69 (r_lssN (p := j) (q := ((nth code.l t).l).length) rfl rfl rfl) rfl rfl fun a70 h70 => ?_
      clear h69
      refine wpList_nil ?_
      refine hK61 _ _ ?_
      refine x_cond h70 rfl (fun hb71 => ?_) (fun hb71 => ?_)
      ·
        have hp71 : j < ((nth code.l t).l).length := of_decide_eq_true hb71
        refine wp_skip ?_
        refine hK60 _ _ ?_
        have hoa := ok_as hok t j (by omega) (by omega)
        refine wp_seq_k fun K72 hK72 => ?_
        refine wp_block ?_
        refine wp_seq_k fun K73 hK73 => ?_
        refine wp_region_lit ?_
        refine wv h70 (r_fieldB (r := 0) fl_28_0 rfl rfl rfl) rfl rfl fun a74 h74 => ?_
        clear h70
        refine wv h74 (r_ldb (i := 3) ti_26 rfl rfl rfl rfl) rfl rfl fun a75 h75 => ?_
        clear h74
        refine wms 1 h75 rfl fun a76 h76 => ?_
        clear h75
        refine wv h76 (r_ixN (s := code) (q := t) sl_26 ti_64 rfl rfl rfl (fun w h => (h.at 4 rfl)) (show t < code.l.length from (by first | omega | (simp only [List.length_append, List.length_cons, List.length_nil, List.length_set, List.length_replicate, List.length_map, List.length_range]; omega)))) rfl rfl fun a77 h77 => ?_
        clear h76
        refine wv h77 (r_lde (s := code) (i := t) (v := (nth code.l t).v) ti_64 rfl rfl rfl (fun w h => (h.at 4 rfl)) (show t < code.l.length from (by first | omega | (simp only [List.length_append, List.length_cons, List.length_nil, List.length_set, List.length_replicate, List.length_map, List.length_range]; omega))) (Nat.le_of_ble_eq_true rfl) rfl) rfl rfl fun a78 h78 => ?_
        clear h77
        refine wms 1 h78 rfl fun a79 h79 => ?_
        clear h78
        refine wv h79 (r_ixN (s := nth code.l t) (q := j) sl_64 ti_73 rfl rfl rfl (fun w h => ((h.at 4 rfl).nth t (show t < code.l.length from (by first | omega | (simp only [List.length_append, List.length_cons, List.length_nil, List.length_set, List.length_replicate, List.length_map, List.length_range]; omega))))) (show j < ((nth code.l t).l).length from (by first | omega | (simp only [List.length_append, List.length_cons, List.length_nil, List.length_set, List.length_replicate, List.length_map, List.length_range]; omega)))) rfl rfl fun a80 h80 => ?_
        clear h79
        refine wv h80 (r_ldew (s := nth code.l t) (i := j) (vs := [.int .i64 ((nth ((nth code.l t).l) j).op), .int .i64 ((nth ((nth code.l t).l) j).a), .int .i64 ((nth ((nth code.l t).l) j).b), .int .i64 ((nth ((nth code.l t).l) j).c)]) ti_73 rfl rfl rfl (fun w h => ((h.at 4 rfl).nth t (show t < code.l.length from (by first | omega | (simp only [List.length_append, List.length_cons, List.length_nil, List.length_set, List.length_replicate, List.length_map, List.length_range]; omega))))) (show j < ((nth code.l t).l).length from (by first | omega | (simp only [List.length_append, List.length_cons, List.length_nil, List.length_set, List.length_replicate, List.length_map, List.length_range]; omega))) (Nat.le_of_ble_eq_true rfl) rfl) rfl rfl fun a81 h81 => ?_
        clear h80
        refine wl_ex (x_alloc h81 ti_73 rfl rfl rfl) (wanted_none rfl _) ?_
        rintro a82 w82 ⟨b82, h82⟩
        clear h81
        refine wl_ex (x_stb (i := 0) (vs := [.int .i64 ((nth ((nth code.l t).l) j).op), .int .i64 ((nth ((nth code.l t).l) j).a), .int .i64 ((nth ((nth code.l t).l) j).b), .int .i64 ((nth ((nth code.l t).l) j).c)]) (cs' := [.int .i64 ((nth ((nth code.l t).l) j).op), .int .i64 ((nth ((nth code.l t).l) j).a), .int .i64 ((nth ((nth code.l t).l) j).b), .int .i64 ((nth ((nth code.l t).l) j).c)]) h82 ti_73 rfl rfl rfl rfl rfl rfl rfl (allOne_cons rfl (allOne_cons rfl (allOne_cons rfl (allOne_cons rfl allOne_nil)))) (Nat.le_of_ble_eq_true rfl) rfl) (wanted_none rfl _) ?_
        rintro a83 w83 h83
        clear h82
        refine wpList_nil ?_
        refine hK73 _ _ ?_
        refine wp_seq_k fun K84 hK84 => ?_
        refine wp_region_lit ?_
        refine wv h83 (r_fieldB (r := 1) fl_28_1 rfl rfl rfl) rfl rfl fun a85 h85 => ?_
        clear h83
        refine wv h85 (r_ldb (i := 4) ti_24 rfl rfl rfl rfl) rfl rfl fun a86 h86 => ?_
        clear h85
        have hl87 : words.l.length ≤ 140737488355328 := (h86.sh.at 6 rfl).len
        refine wv h86 (r_len (s := words) (n := words.l.length) sl_24 rfl rfl (fun w h => (h.at 6 rfl)) rfl) rfl rfl fun a88 h88 => ?_
        clear h86
        refine wv h88 (r_fieldB (r := 1) fl_73_1 rfl rfl rfl) rfl rfl fun a89 h89 => ?_
        clear h88
        refine wv h89 (r_ldb (i := 0) ti_3 rfl rfl rfl rfl) rfl rfl fun a90 h90 => ?_
        clear h89
        refine wv h90 (r_addI (p := ((words.l.length : Nat) : Int)) (q := (nth ((nth code.l t).l) j).a) rfl rfl rfl (show -9223372036854775808 ≤ ((words.l.length : Nat) : Int) + ((nth ((nth code.l t).l) j).a) ∧ ((words.l.length : Nat) : Int) + ((nth ((nth code.l t).l) j).a) < 9223372036854775808 from (by first | omega | (simp only [List.length_append, List.length_cons, List.length_nil, List.length_set, List.length_replicate, List.length_map, List.length_range]; omega)))) rfl rfl fun a91 h91 => ?_
        clear h90
        refine wms 1 h91 rfl fun a92 h92 => ?_
        clear h91
        refine wpList_nil ?_
        refine hK84 _ _ ?_
        refine wp_seq_k fun K93 hK93 => ?_
        refine wp_region_lit ?_
        refine wv h92 (r_ldbw (i := 0) (vs := [.int .i64 ((nth ((nth code.l t).l) j).op), .int .i64 ((nth ((nth code.l t).l) j).a), .int .i64 ((nth ((nth code.l t).l) j).b), .int .i64 ((nth ((nth code.l t).l) j).c)]) ti_73 rfl rfl rfl rfl rfl) rfl rfl fun a94 h94 => ?_
        clear h92
        refine wl_ex (x_lit (n := 1) (cs := [.int .i64 ((nth ((nth code.l t).l) j).op), .int .i64 ((nth ((nth code.l t).l) j).a), .int .i64 ((nth ((nth code.l t).l) j).b), .int .i64 ((nth ((nth code.l t).l) j).c)]) ([⟨(nth ((nth code.l t).l) j).op, (nth ((nth code.l t).l) j).a, (nth ((nth code.l t).l) j).b, (nth ((nth code.l t).l) j).c⟩] : List Ins) h94 sl_64 ti_73 rfl rfl rfl (by decide) rfl (by kernel_rfl) rfl (fun q hq w h => Flat.inner _ _) (fun q hq b hb => (Flat.on _ _ hb).elim) rfl rfl) (wanted_none rfl _) ?_
        rintro a95 w95 ⟨v95, h95⟩
        clear h94
        refine wms 1 h95 rfl fun a96 h96 => ?_
        clear h95
        refine wpList_nil ?_
        refine hK93 _ _ ?_
        have h97 : St 101 (fun _ => False) W a96 w95 [(1, .pointer (some ⟨b3, 0, none⟩)), (2, .pointer (some ⟨b4, 0, none⟩)), (4, .pointer (some ⟨b8, 0, none⟩)), (6, .int .i64 ((t : Nat) : Int)), (7, vb), (8, .int .i64 ((j : Nat) : Int)), (9, .pointer (some ⟨b82, 0, none⟩)), (10, .int .i64 (((words.l.length : Nat) : Int) + ((nth ((nth code.l t).l) j).a))), (11, v95)] [.own 73 (⟨v95, [⟨(nth ((nth code.l t).l) j).op, (nth ((nth code.l t).l) j).a, (nth ((nth code.l t).l) j).b, (nth ((nth code.l t).l) j).c⟩]⟩ : Ls Ins), .blk b82 73 [.int .i64 ((nth ((nth code.l t).l) j).op), .int .i64 ((nth ((nth code.l t).l) j).a), .int .i64 ((nth ((nth code.l t).l) j).b), .int .i64 ((nth ((nth code.l t).l) j).c)], .own 3 (⟨vw, ws⟩ : Ls Int), .blk b8 28 [vq, vw, .int .i64 0, .int .i64 8], .blk b4 28 [(.slice none 0 0), (.slice none 0 0), .int .i64 0, .int .i64 0], .blk b3 28 [code.v, words.v, .int .i64 locks, .int .i64 regs], .at_ code, .at_ words, .deep 64 (⟨vq, qs⟩ : Ls (Ls Ins)), .deep 64 (⟨vb, bc⟩ : Ls (Ls Ins))] := h96.nrm ⟨rfl, rfl, rfl, rfl, rfl, rfl, rfl, rfl, rfl, trivial⟩ [0, 1, 2, 3, 4, 5, 6, 7, 8, 9] (by decide) ⟨rfl, rfl, rfl, rfl, rfl, rfl, rfl, rfl, rfl, rfl, trivial⟩
        clear h96
        refine wp_seq_k fun K98 hK98 => ?_
        refine wp_seq_k fun K99 hK99 => ?_
        refine wp_region_lit ?_
        refine wv h97 (r_fieldB (r := 0) fl_73_0 rfl rfl rfl) rfl rfl fun a100 h100 => ?_
        clear h97
        refine wv h100 (r_ldb (i := 1) ti_3 rfl rfl rfl rfl) rfl rfl fun a101 h101 => ?_
        clear h100
        refine wv h101 (r_eqlI (p := (nth ((nth code.l t).l) j).op) (q := 17) rfl rfl rfl) rfl rfl fun a102 h102 => ?_
        clear h101
        refine wpList_nil ?_
        refine hK99 _ _ ?_
        refine x_cond h102 rfl (fun hb103 => ?_) (fun hb103 => ?_)
        ·
          have hp103 : (nth ((nth code.l t).l) j).op = 17 := of_decide_eq_true hb103
          refine wp_region_lit ?_
          refine wv h102 (r_build (cs := [.int .i64 1, .int .i64 6, .int .i64 0, .int .i64 0]) rfl rfl (by kernel_rfl)) rfl rfl fun a104 h104 => ?_
          clear h102
          refine wv h104 (r_build (cs := [.int .i64 1, .int .i64 7, .int .i64 1, .int .i64 0]) rfl rfl (by kernel_rfl)) rfl rfl fun a105 h105 => ?_
          clear h104
          refine wms 1 h105 rfl fun a106 h106 => ?_
          clear h105
          refine wv h106 (r_build (cs := [.int .i64 13, .int .i64 (((words.l.length : Nat) : Int) + ((nth ((nth code.l t).l) j).a)), .int .i64 6, .int .i64 7]) rfl rfl (by kernel_rfl)) rfl rfl fun a107 h107 => ?_
          clear h106
          refine wv h107 (r_build (cs := [.int .i64 15, .int .i64 6, .int .i64 0, .int .i64 0]) rfl rfl (by kernel_rfl)) rfl rfl fun a108 h108 => ?_
          clear h107
          refine wl_ex (x_lit (n := 4) (cs := [.int .i64 1, .int .i64 6, .int .i64 0, .int .i64 0, .int .i64 1, .int .i64 7, .int .i64 1, .int .i64 0, .int .i64 13, .int .i64 (((words.l.length : Nat) : Int) + ((nth ((nth code.l t).l) j).a)), .int .i64 6, .int .i64 7, .int .i64 15, .int .i64 6, .int .i64 0, .int .i64 0]) ([⟨1, 6, 0, 0⟩, ⟨1, 7, 1, 0⟩, ⟨13, ((words.l.length : Nat) : Int) + ((nth ((nth code.l t).l) j).a), 6, 7⟩, ⟨15, 6, 0, 0⟩] : List Ins) h108 sl_64 ti_73 rfl rfl rfl (by decide) rfl (by kernel_rfl) rfl (fun q hq w h => Flat.inner _ _) (fun q hq b hb => (Flat.on _ _ hb).elim) rfl rfl) (wanted_none rfl _) ?_
          rintro a109 w109 ⟨v109, h109⟩
          clear h108
          refine wms 1 h109 rfl fun a110 h110 => ?_
          clear h109
          refine wpList_nil ?_
          refine hK98 _ _ ?_
          refine wp_seq_k fun K111 hK111 => ?_
          refine wp_seq_k fun K112 hK112 => ?_
          refine wp_region_lit ?_
          refine wv h110 (r_fieldB (r := 0) fl_73_0 rfl rfl rfl) rfl rfl fun a113 h113 => ?_
          clear h110
          refine wv h113 (r_ldb (i := 2) ti_3 rfl rfl rfl rfl) rfl rfl fun a114 h114 => ?_
          clear h113
          refine wv h114 (r_eqlI (p := (nth ((nth code.l t).l) j).op) (q := 18) rfl rfl rfl) rfl rfl fun a115 h115 => ?_
          clear h114
          refine wpList_nil ?_
          refine hK112 _ _ ?_
          refine x_condF h115 rfl (decide_eq_false (by omega)) ?_
          refine wp_skip ?_
          refine hK111 _ _ ?_
          refine wp_region_lit ?_
          refine wms 2 h115 rfl fun a116 h116 => ?_
          clear h115
          refine wl_ex (x_litD (E := 0) (x := (⟨v109, [⟨1, 6, 0, 0⟩, ⟨1, 7, 1, 0⟩, ⟨13, ((words.l.length : Nat) : Int) + ((nth ((nth code.l t).l) j).a), 6, 7⟩, ⟨15, 6, 0, 0⟩]⟩ : Ls Ins)) h116 sl_26 ti_64 rfl rfl rfl ((h116.sh.own 0 rfl)) (fun b hb => (own_on (h116.sh.ok _ (by simp)) hb).elim (fun h => h) (fun h => Flat.noRd h)) (fun b hb => Flat.noRd hb) rfl rfl) (wanted_none rfl _) ?_
          rintro a117 w117 ⟨v117, h117⟩
          clear h116
          have h118 := h117.sel (L' := [.deep 64 (⟨vb, bc⟩ : Ls (Ls Ins)), .deep 64 (⟨v117, [(⟨v109, [⟨1, 6, 0, 0⟩, ⟨1, 7, 1, 0⟩, ⟨13, ((words.l.length : Nat) : Int) + ((nth ((nth code.l t).l) j).a), 6, 7⟩, ⟨15, 6, 0, 0⟩]⟩ : Ls Ins)]⟩ : Ls (Ls Ins)), .own 73 (⟨v95, [⟨(nth ((nth code.l t).l) j).op, (nth ((nth code.l t).l) j).a, (nth ((nth code.l t).l) j).b, (nth ((nth code.l t).l) j).c⟩]⟩ : Ls Ins), .blk b82 73 [.int .i64 ((nth ((nth code.l t).l) j).op), .int .i64 ((nth ((nth code.l t).l) j).a), .int .i64 ((nth ((nth code.l t).l) j).b), .int .i64 ((nth ((nth code.l t).l) j).c)], .own 3 (⟨vw, ws⟩ : Ls Int), .blk b8 28 [vq, vw, .int .i64 0, .int .i64 8], .blk b4 28 [(.slice none 0 0), (.slice none 0 0), .int .i64 0, .int .i64 0], .blk b3 28 [code.v, words.v, .int .i64 locks, .int .i64 regs], .at_ code, .at_ words, .deep 64 (⟨vq, qs⟩ : Ls (Ls Ins))]) [10, 0, 1, 2, 3, 4, 5, 6, 7, 8, 9] (by decide) ⟨rfl, rfl, rfl, rfl, rfl, rfl, rfl, rfl, rfl, rfl, rfl, trivial⟩
          refine wl_ex (x_appD (s := (⟨vb, bc⟩ : Ls (Ls Ins))) (m := (⟨v117, [(⟨v109, [⟨1, 6, 0, 0⟩, ⟨1, 7, 1, 0⟩, ⟨13, ((words.l.length : Nat) : Int) + ((nth ((nth code.l t).l) j).a), 6, 7⟩, ⟨15, 6, 0, 0⟩]⟩ : Ls Ins)]⟩ : Ls (Ls Ins))) h118 sl_26 ti_64 rfl rfl rfl rfl rfl rfl rfl inferInstance (show (bc.length + ([(⟨v109, [⟨1, 6, 0, 0⟩, ⟨1, 7, 1, 0⟩, ⟨13, ((words.l.length : Nat) : Int) + ((nth ((nth code.l t).l) j).a), 6, 7⟩, ⟨15, 6, 0, 0⟩]⟩ : Ls Ins)]).length) * 24 ≤ 140737488355328 ∧ bc.length + ([(⟨v109, [⟨1, 6, 0, 0⟩, ⟨1, 7, 1, 0⟩, ⟨13, ((words.l.length : Nat) : Int) + ((nth ((nth code.l t).l) j).a), 6, 7⟩, ⟨15, 6, 0, 0⟩]⟩ : Ls Ins)]).length ≤ 140737488355328 from (by first | omega | (simp only [List.length_append, List.length_cons, List.length_nil, List.length_set, List.length_replicate, List.length_map, List.length_range]; omega))) rfl rfl) (wanted_none rfl _) ?_
          rintro a119 w119 ⟨v119, h119⟩
          clear h118
          refine wms 1 h119 rfl fun a120 h120 => ?_
          clear h119
          refine wpList_nil ?_
          refine hK72 _ _ ?_
          refine wp_region_lit ?_
          refine wms 1 h120 rfl fun a121 h121 => ?_
          clear h120
          refine wv h121 (r_addN (p := j) (q := 1) rfl rfl rfl (show j + 1 < 9223372036854775808 from (by first | omega | (simp only [List.length_append, List.length_cons, List.length_nil, List.length_set, List.length_replicate, List.length_map, List.length_range]; omega)))) rfl rfl fun a122 h122 => ?_
          clear h121
          refine wms 1 h122 rfl fun a123 h123 => ?_
          clear h122
          refine wpList_nil ?_
          refine x_again ⟨_, ?_, j + 1, bc ++ ([(⟨v109, [⟨1, 6, 0, 0⟩, ⟨1, 7, 1, 0⟩, ⟨13, ((words.l.length : Nat) : Int) + ((nth ((nth code.l t).l) j).a), 6, 7⟩, ⟨15, 6, 0, 0⟩]⟩ : Ls Ins)]), v119, ?_, ?_, ?_, ((h123.sub (F' := [(1, .pointer (some ⟨b3, 0, none⟩)), (2, .pointer (some ⟨b4, 0, none⟩)), (4, .pointer (some ⟨b8, 0, none⟩)), (6, .int .i64 ((t : Nat) : Int)), (7, v119), (8, .int .i64 ((j + 1 : Nat) : Int))]) ⟨rfl, rfl, rfl, rfl, rfl, rfl, trivial⟩).sel (L' := [.own 3 (⟨vw, ws⟩ : Ls Int), .blk b8 28 [vq, vw, .int .i64 0, .int .i64 8], .blk b4 28 [(.slice none 0 0), (.slice none 0 0), .int .i64 0, .int .i64 0], .blk b3 28 [code.v, words.v, .int .i64 locks, .int .i64 regs], .at_ code, .at_ words, .deep 64 (⟨vq, qs⟩ : Ls (Ls Ins)), .deep 64 (⟨v119, bc ++ ([(⟨v109, [⟨1, 6, 0, 0⟩, ⟨1, 7, 1, 0⟩, ⟨13, ((words.l.length : Nat) : Int) + ((nth ((nth code.l t).l) j).a), 6, 7⟩, ⟨15, 6, 0, 0⟩]⟩ : Ls Ins)])⟩ : Ls (Ls Ins))]) [3, 4, 5, 6, 7, 8, 9, 0] (by decide) ⟨rfl, rfl, rfl, rfl, rfl, rfl, rfl, rfl, trivial⟩), rfl⟩
          · rw [hm58]; first | omega | (simp only [List.length_append, List.length_cons, List.length_nil, List.length_set, List.length_replicate, List.length_map, List.length_range]; omega)
          · omega
          · rw [List.map_append, hbc, List.range_succ, List.map_append]; congr 1; simp only [List.map_cons, List.map_nil]; congr 1; unfold linkR; (repeat' split) <;> first | rfl | (exfalso; omega)
          · simp [hbl]
        ·
          have hp103 : ¬ ((nth ((nth code.l t).l) j).op = 17) := of_decide_eq_false hb103
          refine wp_skip ?_
          refine hK98 _ _ ?_
          refine wp_seq_k fun K124 hK124 => ?_
          refine wp_seq_k fun K125 hK125 => ?_
          refine wp_region_lit ?_
          refine wv h102 (r_fieldB (r := 0) fl_73_0 rfl rfl rfl) rfl rfl fun a126 h126 => ?_
          clear h102
          refine wv h126 (r_ldb (i := 1) ti_3 rfl rfl rfl rfl) rfl rfl fun a127 h127 => ?_
          clear h126
          refine wv h127 (r_eqlI (p := (nth ((nth code.l t).l) j).op) (q := 18) rfl rfl rfl) rfl rfl fun a128 h128 => ?_
          clear h127
          refine wpList_nil ?_
          refine hK125 _ _ ?_
          refine x_cond h128 rfl (fun hb129 => ?_) (fun hb129 => ?_)
          ·
            have hp129 : (nth ((nth code.l t).l) j).op = 18 := of_decide_eq_true hb129
            refine wp_region_lit ?_
            refine wv h128 (r_build (cs := [.int .i64 1, .int .i64 6, .int .i64 0, .int .i64 0]) rfl rfl (by kernel_rfl)) rfl rfl fun a130 h130 => ?_
            clear h128
            refine wms 1 h130 rfl fun a131 h131 => ?_
            clear h130
            refine wv h131 (r_build (cs := [.int .i64 9, .int .i64 (((words.l.length : Nat) : Int) + ((nth ((nth code.l t).l) j).a)), .int .i64 6, .int .i64 0]) rfl rfl (by kernel_rfl)) rfl rfl fun a132 h132 => ?_
            clear h131
            refine wl_ex (x_lit (n := 2) (cs := [.int .i64 1, .int .i64 6, .int .i64 0, .int .i64 0, .int .i64 9, .int .i64 (((words.l.length : Nat) : Int) + ((nth ((nth code.l t).l) j).a)), .int .i64 6, .int .i64 0]) ([⟨1, 6, 0, 0⟩, ⟨9, ((words.l.length : Nat) : Int) + ((nth ((nth code.l t).l) j).a), 6, 0⟩] : List Ins) h132 sl_64 ti_73 rfl rfl rfl (by decide) rfl (by kernel_rfl) rfl (fun q hq w h => Flat.inner _ _) (fun q hq b hb => (Flat.on _ _ hb).elim) rfl rfl) (wanted_none rfl _) ?_
            rintro a133 w133 ⟨v133, h133⟩
            clear h132
            refine wms 1 h133 rfl fun a134 h134 => ?_
            clear h133
            refine wpList_nil ?_
            refine hK124 _ _ ?_
            refine wp_region_lit ?_
            refine wms 2 h134 rfl fun a135 h135 => ?_
            clear h134
            refine wl_ex (x_litD (E := 0) (x := (⟨v133, [⟨1, 6, 0, 0⟩, ⟨9, ((words.l.length : Nat) : Int) + ((nth ((nth code.l t).l) j).a), 6, 0⟩]⟩ : Ls Ins)) h135 sl_26 ti_64 rfl rfl rfl ((h135.sh.own 0 rfl)) (fun b hb => (own_on (h135.sh.ok _ (by simp)) hb).elim (fun h => h) (fun h => Flat.noRd h)) (fun b hb => Flat.noRd hb) rfl rfl) (wanted_none rfl _) ?_
            rintro a136 w136 ⟨v136, h136⟩
            clear h135
            have h137 := h136.sel (L' := [.deep 64 (⟨vb, bc⟩ : Ls (Ls Ins)), .deep 64 (⟨v136, [(⟨v133, [⟨1, 6, 0, 0⟩, ⟨9, ((words.l.length : Nat) : Int) + ((nth ((nth code.l t).l) j).a), 6, 0⟩]⟩ : Ls Ins)]⟩ : Ls (Ls Ins)), .own 73 (⟨v95, [⟨(nth ((nth code.l t).l) j).op, (nth ((nth code.l t).l) j).a, (nth ((nth code.l t).l) j).b, (nth ((nth code.l t).l) j).c⟩]⟩ : Ls Ins), .blk b82 73 [.int .i64 ((nth ((nth code.l t).l) j).op), .int .i64 ((nth ((nth code.l t).l) j).a), .int .i64 ((nth ((nth code.l t).l) j).b), .int .i64 ((nth ((nth code.l t).l) j).c)], .own 3 (⟨vw, ws⟩ : Ls Int), .blk b8 28 [vq, vw, .int .i64 0, .int .i64 8], .blk b4 28 [(.slice none 0 0), (.slice none 0 0), .int .i64 0, .int .i64 0], .blk b3 28 [code.v, words.v, .int .i64 locks, .int .i64 regs], .at_ code, .at_ words, .deep 64 (⟨vq, qs⟩ : Ls (Ls Ins))]) [10, 0, 1, 2, 3, 4, 5, 6, 7, 8, 9] (by decide) ⟨rfl, rfl, rfl, rfl, rfl, rfl, rfl, rfl, rfl, rfl, rfl, trivial⟩
            refine wl_ex (x_appD (s := (⟨vb, bc⟩ : Ls (Ls Ins))) (m := (⟨v136, [(⟨v133, [⟨1, 6, 0, 0⟩, ⟨9, ((words.l.length : Nat) : Int) + ((nth ((nth code.l t).l) j).a), 6, 0⟩]⟩ : Ls Ins)]⟩ : Ls (Ls Ins))) h137 sl_26 ti_64 rfl rfl rfl rfl rfl rfl rfl inferInstance (show (bc.length + ([(⟨v133, [⟨1, 6, 0, 0⟩, ⟨9, ((words.l.length : Nat) : Int) + ((nth ((nth code.l t).l) j).a), 6, 0⟩]⟩ : Ls Ins)]).length) * 24 ≤ 140737488355328 ∧ bc.length + ([(⟨v133, [⟨1, 6, 0, 0⟩, ⟨9, ((words.l.length : Nat) : Int) + ((nth ((nth code.l t).l) j).a), 6, 0⟩]⟩ : Ls Ins)]).length ≤ 140737488355328 from (by first | omega | (simp only [List.length_append, List.length_cons, List.length_nil, List.length_set, List.length_replicate, List.length_map, List.length_range]; omega))) rfl rfl) (wanted_none rfl _) ?_
            rintro a138 w138 ⟨v138, h138⟩
            clear h137
            refine wms 1 h138 rfl fun a139 h139 => ?_
            clear h138
            refine wpList_nil ?_
            refine hK72 _ _ ?_
            refine wp_region_lit ?_
            refine wms 1 h139 rfl fun a140 h140 => ?_
            clear h139
            refine wv h140 (r_addN (p := j) (q := 1) rfl rfl rfl (show j + 1 < 9223372036854775808 from (by first | omega | (simp only [List.length_append, List.length_cons, List.length_nil, List.length_set, List.length_replicate, List.length_map, List.length_range]; omega)))) rfl rfl fun a141 h141 => ?_
            clear h140
            refine wms 1 h141 rfl fun a142 h142 => ?_
            clear h141
            refine wpList_nil ?_
            refine x_again ⟨_, ?_, j + 1, bc ++ ([(⟨v133, [⟨1, 6, 0, 0⟩, ⟨9, ((words.l.length : Nat) : Int) + ((nth ((nth code.l t).l) j).a), 6, 0⟩]⟩ : Ls Ins)]), v138, ?_, ?_, ?_, ((h142.sub (F' := [(1, .pointer (some ⟨b3, 0, none⟩)), (2, .pointer (some ⟨b4, 0, none⟩)), (4, .pointer (some ⟨b8, 0, none⟩)), (6, .int .i64 ((t : Nat) : Int)), (7, v138), (8, .int .i64 ((j + 1 : Nat) : Int))]) ⟨rfl, rfl, rfl, rfl, rfl, rfl, trivial⟩).sel (L' := [.own 3 (⟨vw, ws⟩ : Ls Int), .blk b8 28 [vq, vw, .int .i64 0, .int .i64 8], .blk b4 28 [(.slice none 0 0), (.slice none 0 0), .int .i64 0, .int .i64 0], .blk b3 28 [code.v, words.v, .int .i64 locks, .int .i64 regs], .at_ code, .at_ words, .deep 64 (⟨vq, qs⟩ : Ls (Ls Ins)), .deep 64 (⟨v138, bc ++ ([(⟨v133, [⟨1, 6, 0, 0⟩, ⟨9, ((words.l.length : Nat) : Int) + ((nth ((nth code.l t).l) j).a), 6, 0⟩]⟩ : Ls Ins)])⟩ : Ls (Ls Ins))]) [3, 4, 5, 6, 7, 8, 9, 0] (by decide) ⟨rfl, rfl, rfl, rfl, rfl, rfl, rfl, rfl, trivial⟩), rfl⟩
            · rw [hm58]; first | omega | (simp only [List.length_append, List.length_cons, List.length_nil, List.length_set, List.length_replicate, List.length_map, List.length_range]; omega)
            · omega
            · rw [List.map_append, hbc, List.range_succ, List.map_append]; congr 1; simp only [List.map_cons, List.map_nil]; congr 1; unfold linkR; (repeat' split) <;> first | rfl | (exfalso; omega)
            · simp [hbl]
          ·
            have hp129 : ¬ ((nth ((nth code.l t).l) j).op = 18) := of_decide_eq_false hb129
            refine wp_skip ?_
            refine hK124 _ _ ?_
            refine wp_region_lit ?_
            refine wms 2 h128 rfl fun a143 h143 => ?_
            clear h128
            refine wl_ex (x_litD (E := 0) (x := (⟨v95, [⟨(nth ((nth code.l t).l) j).op, (nth ((nth code.l t).l) j).a, (nth ((nth code.l t).l) j).b, (nth ((nth code.l t).l) j).c⟩]⟩ : Ls Ins)) h143 sl_26 ti_64 rfl rfl rfl ((h143.sh.own 0 rfl)) (fun b hb => (own_on (h143.sh.ok _ (by simp)) hb).elim (fun h => h) (fun h => Flat.noRd h)) (fun b hb => Flat.noRd hb) rfl rfl) (wanted_none rfl _) ?_
            rintro a144 w144 ⟨v144, h144⟩
            clear h143
            have h145 := h144.sel (L' := [.deep 64 (⟨vb, bc⟩ : Ls (Ls Ins)), .deep 64 (⟨v144, [(⟨v95, [⟨(nth ((nth code.l t).l) j).op, (nth ((nth code.l t).l) j).a, (nth ((nth code.l t).l) j).b, (nth ((nth code.l t).l) j).c⟩]⟩ : Ls Ins)]⟩ : Ls (Ls Ins)), .blk b82 73 [.int .i64 ((nth ((nth code.l t).l) j).op), .int .i64 ((nth ((nth code.l t).l) j).a), .int .i64 ((nth ((nth code.l t).l) j).b), .int .i64 ((nth ((nth code.l t).l) j).c)], .own 3 (⟨vw, ws⟩ : Ls Int), .blk b8 28 [vq, vw, .int .i64 0, .int .i64 8], .blk b4 28 [(.slice none 0 0), (.slice none 0 0), .int .i64 0, .int .i64 0], .blk b3 28 [code.v, words.v, .int .i64 locks, .int .i64 regs], .at_ code, .at_ words, .deep 64 (⟨vq, qs⟩ : Ls (Ls Ins))]) [9, 0, 1, 2, 3, 4, 5, 6, 7, 8] (by decide) ⟨rfl, rfl, rfl, rfl, rfl, rfl, rfl, rfl, rfl, rfl, trivial⟩
            refine wl_ex (x_appD (s := (⟨vb, bc⟩ : Ls (Ls Ins))) (m := (⟨v144, [(⟨v95, [⟨(nth ((nth code.l t).l) j).op, (nth ((nth code.l t).l) j).a, (nth ((nth code.l t).l) j).b, (nth ((nth code.l t).l) j).c⟩]⟩ : Ls Ins)]⟩ : Ls (Ls Ins))) h145 sl_26 ti_64 rfl rfl rfl rfl rfl rfl rfl inferInstance (show (bc.length + ([(⟨v95, [⟨(nth ((nth code.l t).l) j).op, (nth ((nth code.l t).l) j).a, (nth ((nth code.l t).l) j).b, (nth ((nth code.l t).l) j).c⟩]⟩ : Ls Ins)]).length) * 24 ≤ 140737488355328 ∧ bc.length + ([(⟨v95, [⟨(nth ((nth code.l t).l) j).op, (nth ((nth code.l t).l) j).a, (nth ((nth code.l t).l) j).b, (nth ((nth code.l t).l) j).c⟩]⟩ : Ls Ins)]).length ≤ 140737488355328 from (by first | omega | (simp only [List.length_append, List.length_cons, List.length_nil, List.length_set, List.length_replicate, List.length_map, List.length_range]; omega))) rfl rfl) (wanted_none rfl _) ?_
            rintro a146 w146 ⟨v146, h146⟩
            clear h145
            refine wms 1 h146 rfl fun a147 h147 => ?_
            clear h146
            refine wpList_nil ?_
            refine hK72 _ _ ?_
            refine wp_region_lit ?_
            refine wms 1 h147 rfl fun a148 h148 => ?_
            clear h147
            refine wv h148 (r_addN (p := j) (q := 1) rfl rfl rfl (show j + 1 < 9223372036854775808 from (by first | omega | (simp only [List.length_append, List.length_cons, List.length_nil, List.length_set, List.length_replicate, List.length_map, List.length_range]; omega)))) rfl rfl fun a149 h149 => ?_
            clear h148
            refine wms 1 h149 rfl fun a150 h150 => ?_
            clear h149
            refine wpList_nil ?_
            refine x_again ⟨_, ?_, j + 1, bc ++ ([(⟨v95, [⟨(nth ((nth code.l t).l) j).op, (nth ((nth code.l t).l) j).a, (nth ((nth code.l t).l) j).b, (nth ((nth code.l t).l) j).c⟩]⟩ : Ls Ins)]), v146, ?_, ?_, ?_, ((h150.sub (F' := [(1, .pointer (some ⟨b3, 0, none⟩)), (2, .pointer (some ⟨b4, 0, none⟩)), (4, .pointer (some ⟨b8, 0, none⟩)), (6, .int .i64 ((t : Nat) : Int)), (7, v146), (8, .int .i64 ((j + 1 : Nat) : Int))]) ⟨rfl, rfl, rfl, rfl, rfl, rfl, trivial⟩).sel (L' := [.own 3 (⟨vw, ws⟩ : Ls Int), .blk b8 28 [vq, vw, .int .i64 0, .int .i64 8], .blk b4 28 [(.slice none 0 0), (.slice none 0 0), .int .i64 0, .int .i64 0], .blk b3 28 [code.v, words.v, .int .i64 locks, .int .i64 regs], .at_ code, .at_ words, .deep 64 (⟨vq, qs⟩ : Ls (Ls Ins)), .deep 64 (⟨v146, bc ++ ([(⟨v95, [⟨(nth ((nth code.l t).l) j).op, (nth ((nth code.l t).l) j).a, (nth ((nth code.l t).l) j).b, (nth ((nth code.l t).l) j).c⟩]⟩ : Ls Ins)])⟩ : Ls (Ls Ins))]) [2, 3, 4, 5, 6, 7, 8, 0] (by decide) ⟨rfl, rfl, rfl, rfl, rfl, rfl, rfl, rfl, trivial⟩), rfl⟩
            · rw [hm58]; first | omega | (simp only [List.length_append, List.length_cons, List.length_nil, List.length_set, List.length_replicate, List.length_map, List.length_range]; omega)
            · omega
            · rw [List.map_append, hbc, List.range_succ, List.map_append]; congr 1; simp only [List.map_cons, List.map_nil]; congr 1; unfold linkR; (repeat' split) <;> first | rfl | (exfalso; omega)
            · simp [hbl]
      ·
        have hp71 : ¬ (j < ((nth code.l t).l).length) := of_decide_eq_false hb71
        refine wp_exit ?_
        refine hK55 _ _ ?_
        refine wp_seq_k fun K151 hK151 => ?_
        refine wp_region_lit ?_
        refine wms 1 h70 rfl fun a152 h152 => ?_
        clear h70
        refine wv h152 (r_fieldB (r := 0) fl_28_0 rfl rfl rfl) rfl rfl fun a153 h153 => ?_
        clear h152
        refine wv h153 (r_ldb (i := 3) ti_26 rfl rfl rfl rfl) rfl rfl fun a154 h154 => ?_
        clear h153
        refine wms 1 h154 rfl fun a155 h155 => ?_
        clear h154
        refine wv h155 (r_ixN (s := code) (q := t) sl_26 ti_64 rfl rfl rfl (fun w h => (h.at 4 rfl)) (show t < code.l.length from (by first | omega | (simp only [List.length_append, List.length_cons, List.length_nil, List.length_set, List.length_replicate, List.length_map, List.length_range]; omega)))) rfl rfl fun a156 h156 => ?_
        clear h155
        refine wv h156 (r_lde (s := code) (i := t) (v := (nth code.l t).v) ti_64 rfl rfl rfl (fun w h => (h.at 4 rfl)) (show t < code.l.length from (by first | omega | (simp only [List.length_append, List.length_cons, List.length_nil, List.length_set, List.length_replicate, List.length_map, List.length_range]; omega))) (Nat.le_of_ble_eq_true rfl) rfl) rfl rfl fun a157 h157 => ?_
        clear h156
        refine wl_ex (x_call h157 bd_73 rfl rfl rfl rfl rfl (rPut_c (⟨vb, bc⟩ : Ls (Ls Ins)) (nth code.l t) _ (h157.sh.deep 7 rfl) ((h157.sh.at 4 rfl).nth t (show t < code.l.length from (by first | omega | (simp only [List.length_append, List.length_cons, List.length_nil, List.length_set, List.length_replicate, List.length_map, List.length_range]; omega)))) (show bc.length = (nth code.l t).l.length by omega) (show (nth code.l t).l.length ≤ 5000 by omega) (show ∀ i, i < (nth code.l t).l.length → (nth bc i).l.length ≤ 8 from fun i hi => by have e : nth (bc.map (·.l)) i = nth ((List.range j).map (fun i => linkR words.l.length i (nth (nth code.l t).l i))) i := (by rw [hbc]); rw [nth_map' _ _ _ (by omega), nth_map' _ _ _ (by simp; omega)] at e; rw [e]; have := linkR_len words.l.length (nth (List.range j) i) (nth (nth code.l t).l (nth (List.range j) i)); omega) (linkR_ok2 words.l.length (nth code.l t).l hjt bc (by rw [hbc, becL, show j = (nth code.l t).l.length by omega])))) (wanted_none rfl _) ?_
        rintro a158 w158 ⟨_, ⟨s158, rfl, hl158, hs158⟩, hf158⟩
        have h158 := (⟨hf158, h157.sh.call hs158 (by intro A hA b hb; first | (simp at hA; done) | (simp at hA; subst hA; first | exact Flat.noRd hb | exact (hb : False).elim) | (simp at hA; rcases hA with rfl | rfl <;> first | exact Flat.noRd hb | exact (hb : False).elim))⟩ : St 101 (fun _ => False) W a158 w158 _ _)
        clear hf158 hs158
        clear h157
        refine wms 1 h158 rfl fun a159 h159 => ?_
        clear h158
        refine wpList_nil ?_
        refine hK151 _ _ ?_
        have hq1 : s158.l = linkL words.l.length (nth code.l t).l := by rw [linkL, hl158, hbc, becL, show j = (nth code.l t).l.length by omega]
        refine wp_region_lit ?_
        refine wv h159 (r_fieldB (r := 0) fl_28_0 rfl rfl rfl) rfl rfl fun a160 h160 => ?_
        clear h159
        refine wv h160 (r_ldb (i := 2) ti_26 rfl rfl rfl rfl) rfl rfl fun a161 h161 => ?_
        clear h160
        refine wms 1 h161 rfl fun a162 h162 => ?_
        clear h161
        refine wl_ex (x_litD (E := 0) (x := s158) h162 sl_26 ti_64 rfl rfl rfl ((h162.sh.own 0 rfl)) (fun b hb => (own_on (h162.sh.ok _ (by simp)) hb).elim (fun h => h) (fun h => Flat.noRd h)) (fun b hb => Flat.noRd hb) rfl rfl) (wanted_none rfl _) ?_
        rintro a163 w163 ⟨v163, h163⟩
        clear h162
        have h164 := h163.sel (L' := [.deep 64 (⟨vq, qs⟩ : Ls (Ls Ins)), .deep 64 (⟨v163, [s158]⟩ : Ls (Ls Ins)), .own 3 (⟨vw, ws⟩ : Ls Int), .blk b8 28 [vq, vw, .int .i64 0, .int .i64 8], .blk b4 28 [(.slice none 0 0), (.slice none 0 0), .int .i64 0, .int .i64 0], .blk b3 28 [code.v, words.v, .int .i64 locks, .int .i64 regs], .at_ code, .at_ words, .deep 64 (⟨vb, bc⟩ : Ls (Ls Ins))]) [7, 0, 1, 2, 3, 4, 5, 6, 8] (by decide) ⟨rfl, rfl, rfl, rfl, rfl, rfl, rfl, rfl, rfl, trivial⟩
        refine wl_ex (x_appD (s := (⟨vq, qs⟩ : Ls (Ls Ins))) (m := (⟨v163, [s158]⟩ : Ls (Ls Ins))) h164 sl_26 ti_64 rfl rfl rfl rfl rfl rfl rfl inferInstance (show (qs.length + ([s158]).length) * 24 ≤ 140737488355328 ∧ qs.length + ([s158]).length ≤ 140737488355328 from (by first | omega | (simp only [List.length_append, List.length_cons, List.length_nil, List.length_set, List.length_replicate, List.length_map, List.length_range]; omega))) rfl rfl) (wanted_none rfl _) ?_
        rintro a165 w165 ⟨v165, h165⟩
        clear h164
        refine wv h165 (r_fieldB (r := 0) fl_28_0 rfl rfl rfl) rfl rfl fun a166 h166 => ?_
        clear h165
        refine wl_ex (x_stb (i := 2) (vs := [v165]) (cs' := [v165, vw, .int .i64 0, .int .i64 8]) h166 ti_26 rfl rfl rfl rfl rfl (cells_oneL ((h166.sh.deep 0 rfl)).one) rfl (allOne_cons ((h166.sh.deep 0 rfl)).one allOne_nil) (Nat.le_of_ble_eq_true rfl) rfl) (wanted_none rfl _) ?_
        rintro a167 w167 h167
        clear h166
        refine wpList_nil ?_
        refine hK52 _ _ ?_
        have h168 : St 101 (fun _ => False) W a167 w167 [(1, .pointer (some ⟨b3, 0, none⟩)), (2, .pointer (some ⟨b4, 0, none⟩)), (4, .pointer (some ⟨b8, 0, none⟩)), (6, .int .i64 ((t : Nat) : Int))] [.deep 64 (⟨v165, qs ++ ([s158])⟩ : Ls (Ls Ins)), .own 3 (⟨vw, ws⟩ : Ls Int), .blk b8 28 [v165, vw, .int .i64 0, .int .i64 8], .blk b4 28 [(.slice none 0 0), (.slice none 0 0), .int .i64 0, .int .i64 0], .blk b3 28 [code.v, words.v, .int .i64 locks, .int .i64 regs], .at_ code, .at_ words, .deep 64 (⟨vb, bc⟩ : Ls (Ls Ins))] := h167.nrm ⟨rfl, rfl, rfl, rfl, trivial⟩ [0, 1, 2, 3, 4, 5, 6, 7] (by decide) ⟨rfl, rfl, rfl, rfl, rfl, rfl, rfl, rfl, trivial⟩
        clear h167
        refine wp_region_lit ?_
        refine wms 1 h168 rfl fun a169 h169 => ?_
        clear h168
        refine wv h169 (r_addN (p := t) (q := 1) rfl rfl rfl (show t + 1 < 9223372036854775808 from (by first | omega | (simp only [List.length_append, List.length_cons, List.length_nil, List.length_set, List.length_replicate, List.length_map, List.length_range]; omega)))) rfl rfl fun a170 h170 => ?_
        clear h169
        refine wms 1 h170 rfl fun a171 h171 => ?_
        clear h170
        refine wpList_nil ?_
        refine x_again ⟨_, ?_, t + 1, qs ++ ([s158]), v165, ?_, ?_, ?_, ((h171.sub (F' := [(1, .pointer (some ⟨b3, 0, none⟩)), (2, .pointer (some ⟨b4, 0, none⟩)), (4, .pointer (some ⟨b8, 0, none⟩)), (6, .int .i64 ((t + 1 : Nat) : Int))]) ⟨rfl, rfl, rfl, rfl, trivial⟩).sel (L' := [.own 3 (⟨vw, ws⟩ : Ls Int), .blk b8 28 [v165, vw, .int .i64 0, .int .i64 8], .blk b4 28 [(.slice none 0 0), (.slice none 0 0), .int .i64 0, .int .i64 0], .blk b3 28 [code.v, words.v, .int .i64 locks, .int .i64 regs], .at_ code, .at_ words, .deep 64 (⟨v165, qs ++ ([s158])⟩ : Ls (Ls Ins))]) [1, 2, 3, 4, 5, 6, 0] (by decide) ⟨rfl, rfl, rfl, rfl, rfl, rfl, rfl, trivial⟩), rfl⟩
        · rw [hm41]; first | omega | (simp only [List.length_append, List.length_cons, List.length_nil, List.length_set, List.length_replicate, List.length_map, List.length_range]; omega)
        · omega
        · rw [List.map_append, hqs, take_succ_nth _ _ (by omega)]; simp [hq1]
        · simp [hql]
    ·
      have hp51 : ¬ (t < code.l.length) := of_decide_eq_false hb51
      refine wp_exit ?_
      refine hK38 _ _ ?_
      refine wp_seq_k fun K172 hK172 => ?_
      refine wp_region_lit ?_
      refine wv h50 (r_ldbw (i := 1) (vs := [vq, vw, .int .i64 0, .int .i64 8]) ti_28 rfl rfl rfl rfl rfl) rfl rfl fun a173 h173 => ?_
      clear h50
      refine wl_ex (x_call h173 bd_50 rfl rfl rfl rfl rfl (rLong_c (⟨vq, qs⟩ : Ls (Ls Ins)) (⟨vw, ws⟩ : Ls Int) 0 8 _ (h173.sh.deep 6 rfl) (h173.sh.own 0 rfl))) (wanted_none rfl _) ?_
      rintro a174 w174 ⟨_, ⟨n174, rfl, hlong, hs174⟩, hf174⟩
      have h174 : St 101 (fun _ => False) W a174 w174 _ _ := ⟨hf174, h173.sh.call0 hs174⟩
      clear hf174 hs174
      clear h173
      refine wms 1 h174 rfl fun a175 h175 => ?_
      clear h174
      refine wpList_nil ?_
      refine hK172 _ _ ?_
      refine wp_seq_k fun K176 hK176 => ?_
      refine wp_region_lit ?_
      refine wv h175 (r_ldbw (i := 1) (vs := [vq, vw, .int .i64 0, .int .i64 8]) ti_28 rfl rfl rfl rfl rfl) rfl rfl fun a177 h177 => ?_
      clear h175
      refine wms 1 h177 rfl fun a178 h178 => ?_
      clear h177
      refine wl_ex (x_stb (i := 2) (vs := [vq, vw, .int .i64 0, .int .i64 8]) (cs' := [vq, vw, .int .i64 0, .int .i64 8]) h178 ti_28 rfl rfl rfl rfl rfl rfl rfl (allOne_cons ((h178.sh.deep 6 rfl)).one (allOne_cons ((h178.sh.own 0 rfl)).one (allOne_cons rfl (allOne_cons rfl allOne_nil)))) (Nat.le_of_ble_eq_true rfl) rfl) (wanted_none rfl _) ?_
      rintro a179 w179 h179
      clear h178
      refine wms 1 h179 rfl fun a180 h180 => ?_
      clear h179
      refine wpList_nil ?_
      refine hK176 _ _ ?_
      refine wp_ret ?_
      try simp only [Exit.then, Exit.inBlock]
      refine x_retct (fn := Try.f32) (t := 2) (u := 3) (i := 2) ti_28 rfl h180 rfl rfl rfl rfl ?_
      refine ⟨⟨vq, qs⟩, ⟨vw, ws⟩, _, rfl, ?_, hlk2, ?_, (h180.sh.sel (L' := [.deep 64 (⟨vq, qs⟩ : Ls (Ls Ins)), .own 3 (⟨vw, ws⟩ : Ls Int)]) [6, 0] (by decide) ⟨rfl, rfl, trivial⟩)⟩
      · show qs.map (·.l) = _; rw [hqs, List.take_of_length_le (by omega)]
      · exact hlong

end Go.Proofs.Ytanhbpofhebbaaa
