/-
  Contracts of functions of this program and of the references, each walked once.
-/
import Derived.Test.YtanhbpofhebbaaaX6
namespace Go.Proofs.Ytanhbpofhebbaaa
open Go.RowKit
set_option linter.unusedSimpArgs false
set_option linter.unusedVariables false


/-- The first number of an order that may be is small. -/
theorem ok_a {p : Pg} {size : Int} {x : Ins} (h : OkIns p size x) (hr : p.regs ≤ 200) (hw : p.words.length ≤ 64) (hl : p.locks ≤ 4) (hs : 0 ≤ size ∧ size ≤ 400) : 0 ≤ x.a ∧ x.a ≤ 400 := by
  have h0 := h.n0
  have hs1 : wrap64 (size + 1) = size + 1 := IntWalk.wrap64_in _ ⟨by omega, by omega⟩
  have key : ∀ (k : UInt8), k ≠ 110 → fitsG p size (k.toNat : Int) x.a = true → 0 ≤ x.a ∧ x.a ≤ 400 := by
    intro k hk hf
    unfold fitsG at hf
    have hk' : ¬ ((k.toNat : Int) = 110) := fun e => hk (by have : k.toNat = 110 := (by omega); exact UInt8.toNat_inj.1 this)
    rw [if_neg hk'] at hf
    simp only [Bool.and_eq_true, decide_eq_true_eq, hs1] at hf
    (repeat' split at hf) <;> omega
  unfold okNumG at h0
  obtain ⟨h1, h2⟩ := h.op
  have hc := cases18 x.op ⟨h1, h2⟩
  rcases hc with e | e | e | e | e | e | e | e | e | e | e | e | e | e | e | e | e | e <;> rw [e] at h0 <;> first | exact key _ (by decide) h0 | (rw [dif_neg (by decide)] at h0; have : x.a = 0 := (by simpa [Ins.num] using h0); omega)
theorem ok_as {code : Ls (Ls Ins)} {words : Ls Int} {locks regs : Int} (h : OkPg (pgOf code words locks regs)) (t i : Nat) (ht : t < code.l.length) (hi : i < (nth code.l t).l.length) : 0 ≤ (nth (nth code.l t).l i).a ∧ (nth (nth code.l t).l i).a ≤ 400 := by
  have e : nth (pgOf code words locks regs).code t = (nth code.l t).l := nth_map' _ _ _ ht
  have ht' : t < (pgOf code words locks regs).code.length := by simpa [pgOf] using ht
  have h2 := h.ins t i ht' (by rw [e]; exact hi)
  have h3 := h.len t ht'
  rw [e] at h2 h3
  exact ok_a h2 h.regs.2 h.words h.locks.2 ⟨by omega, by omega⟩
def linkB (nw : Nat) (_ : Nat) (x : Ins) : List Ins :=
  if x.op = 17 then [⟨1, 6, 0, 0⟩, ⟨1, 7, 1, 0⟩, ⟨13, nw + x.a, 6, 7⟩, ⟨15, 6, -1, 0⟩] else if x.op = 18 then [⟨1, 6, 0, 0⟩, ⟨9, nw + x.a, 6, 0⟩] else [x]
def linkR (nw : Nat) (_ : Nat) (x : Ins) : List Ins :=
  if x.op = 17 then [⟨1, 6, 0, 0⟩, ⟨1, 7, 1, 0⟩, ⟨13, nw + x.a, 6, 7⟩, ⟨15, 6, 0, 0⟩] else if x.op = 18 then [⟨1, 6, 0, 0⟩, ⟨9, nw + x.a, 6, 0⟩] else [x]
theorem linkB_len (nw i : Nat) (x : Ins) : (linkB nw i x).length ≤ 4 := by unfold linkB; split; simp; split <;> simp
theorem linkBR_len (nw i : Nat) (x : Ins) : (linkB nw i x).length = (linkR nw i x).length := by unfold linkB linkR; split; rfl; split <;> rfl
def linkL (nw : Nat) (code : List Ins) : List Ins := putL (becL (linkR nw) code) code
theorem link_nth {P : Ins → Prop} (nw i : Nat) (x : Ins) (B : Nat → Nat → Ins → List Ins) (hB : B = linkR ∨ B = linkB) (h1 : ¬ x.op = 17 → ¬ x.op = 18 → P x) (h2 : x.op = 17 ∨ x.op = 18 → ∀ y ∈ B nw i x, P y) (k : Nat) (hk : k < (B nw i x).length) : P (nth (B nw i x) k) := by
  by_cases h : x.op = 17 ∨ x.op = 18
  · exact h2 h _ (nth_mem _ _ hk)
  · have e : B nw i x = [x] := by rcases hB with rfl | rfl <;> simp only [linkR, linkB] <;> rw [if_neg (by omega), if_neg (by omega)]
    rw [e] at hk ⊢
    obtain rfl : k = 0 := by simpa using hk
    exact h1 (by omega) (by omega)
theorem linkB_ok (nw : Nat) (code : List Ins) (hj : JumpsOK code) : BecB (linkB nw) code := by
  intro i hi k hk
  have := hj i hi
  refine link_nth (P := fun y => (y.op ≠ 14 ∨ ((nth code i).op ≠ 14 ∧ (nth code i).op ≠ 15) ∨ (0 ≤ y.a ∧ y.a ≤ code.length)) ∧ (y.op ≠ 15 ∨ (nth code i).op ≠ 15 ∨ (0 ≤ y.b ∧ y.b ≤ code.length))) nw i (nth code i) linkB (.inr rfl) (fun _ _ => ?_) (fun h y _ => ⟨.inr (.inl (by omega)), .inr (.inl (by omega))⟩) k hk
  refine ⟨?_, ?_⟩
  · by_cases h : (nth code i).op = 14
    · exact .inr (.inr (this.1 h))
    · exact .inl h
  · by_cases h : (nth code i).op = 15
    · exact .inr (.inr (this.2 h))
    · exact .inl h

set_option maxRecDepth 100000 in
set_option maxHeartbeats 1000000 in
theorem link1_c (i : Nat) (x : Ins) (b : Nat) (code : Ls (Ls Ins)) (words : Ls Int) (locks regs : Int) (W : World) (hi : i ≤ 100000) (hB : Blk W b 28 #[code.v, words.v, .int .i64 locks, .int .i64 regs]) (hw : words.At W) (ha : 0 ≤ x.a ∧ x.a ≤ 400) :
    Rets Try.prog 74 [.int .i64 ((i : Nat) : Int), .agg #[.int .i64 x.op, .int .i64 x.a, .int .i64 x.b, .int .i64 x.c], .pointer (some ⟨b, 0, none⟩)] W (fun v w' => ∃ s : Ls Ins, v = s.v ∧ Sh0 W w' [.own 73 (⟨s.v, linkB words.l.length i x⟩ : Ls Ins)]) := by
 refine x_enter (N := 31) Try.func74 rfl Try.ntmps74 (Nat.le_of_ble_eq_true rfl) fun a1 hf1 => ?_
 have h1 : St 31 (fun _ => False) W a1 W [(0, .int .i64 ((i : Nat) : Int)), (1, .agg #[.int .i64 x.op, .int .i64 x.a, .int .i64 x.b, .int .i64 x.c]), (2, .pointer (some ⟨b, 0, none⟩))] [.rblk b 28 [code.v, words.v, .int .i64 locks, .int .i64 regs], .at_ words] := ⟨hf1.sub ⟨rfl, rfl, rfl, trivial⟩, Sh0.ext (by intro A hA; simp at hA; rcases hA with rfl | rfl; exact hB; exact hw) (by intro A hA b hb; simp at hA; rcases hA with rfl | rfl <;> exact hb)⟩
 clear hf1
 refine wp_seq_k fun K2 hK2 => wp_region_lit <| wl_ex (x_box (cs := [.int .i64 x.op, .int .i64 x.a, .int .i64 x.b, .int .i64 x.c]) h1 rfl rfl rfl rfl rfl) (wanted_none rfl _) ?_
 rintro a3 w3 ⟨b3, h3⟩; clear h1
 refine wms 1 h3 rfl fun a4 h4 => wpList_nil <| hK2 _ _ <| wp_seq_k fun K5 hK5 => wp_region_lit <| wv h4 (r_fieldB (r := 1) fl_28_1 rfl rfl rfl) rfl rfl fun a6 h6 => wv h6 (r_ldbR ti_24 rfl rfl (fun w h => h.rblk 1 rfl) rfl) rfl rfl fun a7 h7 => ?_; clear h3 h4 h6
 have hl8 : words.l.length ≤ 140737488355328 := (h7.sh.at 2 rfl).len
 refine wv h7 (r_len (s := words) (n := words.l.length) sl_24 rfl rfl (fun w h => (h.at 2 rfl)) rfl) rfl rfl fun a9 h9 => wv h9 (r_fieldB (r := 1) fl_73_1 rfl rfl rfl) rfl rfl fun a10 h10 => wv h10 (r_ldb (i := 0) ti_3 rfl rfl rfl rfl) rfl rfl fun a11 h11 => wv h11 (r_addI (p := ((words.l.length : Nat) : Int)) (q := x.a) rfl rfl rfl (show -9223372036854775808 ≤ ((words.l.length : Nat) : Int) + x.a ∧ ((words.l.length : Nat) : Int) + x.a < 9223372036854775808 from (by omega))) rfl rfl fun a12 h12 => wms 1 h12 rfl fun a13 h13 => wpList_nil <| hK5 _ _ <| wp_seq_k fun K14 hK14 => wp_seq_k fun K15 hK15 => wp_region_lit <| wv h13 (r_fieldB (r := 0) fl_73_0 rfl rfl rfl) rfl rfl fun a16 h16 => wv h16 (r_ldb (i := 0) ti_3 rfl rfl rfl rfl) rfl rfl fun a17 h17 => wpList_nil <| hK15 _ _ ?_; clear h7 h9 h10 h11 h12 h13 h16
 refine wp_block <| wp_seq_k fun K18 hK18 => wp_region_lit <| wv h17 (r_eqlI (p := x.op) (q := 17) rfl rfl rfl) rfl rfl fun a19 h19 => wms 1 h19 rfl fun a20 h20 => wpList_nil <| hK18 _ _ <| x_cond h20 rfl (fun hb21 => ?_) (fun hb21 => ?_); clear h17 h19
 ·
  have hp21 : x.op = 17 := of_decide_eq_true hb21
  refine wp_seq_k fun K22 hK22 => wp_region_lit <| wv h20 (r_build (cs := [.int .i64 1, .int .i64 6, .int .i64 0, .int .i64 0]) rfl rfl (by kernel_rfl)) rfl rfl fun a23 h23 => wv h23 (r_build (cs := [.int .i64 1, .int .i64 7, .int .i64 1, .int .i64 0]) rfl rfl (by kernel_rfl)) rfl rfl fun a24 h24 => wms 1 h24 rfl fun a25 h25 => wv h25 (r_build (cs := [.int .i64 13, .int .i64 (((words.l.length : Nat) : Int) + x.a), .int .i64 6, .int .i64 7]) rfl rfl (by kernel_rfl)) rfl rfl fun a26 h26 => wv h26 (r_build (cs := [.int .i64 15, .int .i64 6, .int .i64 (-1), .int .i64 0]) rfl rfl (by kernel_rfl)) rfl rfl fun a27 h27 => wl_ex (x_lit (n := 4) (cs := [.int .i64 1, .int .i64 6, .int .i64 0, .int .i64 0, .int .i64 1, .int .i64 7, .int .i64 1, .int .i64 0, .int .i64 13, .int .i64 (((words.l.length : Nat) : Int) + x.a), .int .i64 6, .int .i64 7, .int .i64 15, .int .i64 6, .int .i64 (-1), .int .i64 0]) ([(⟨1, 6, 0, 0⟩ : Ins), (⟨1, 7, 1, 0⟩ : Ins), (⟨13, ((words.l.length : Nat) : Int) + x.a, 6, 7⟩ : Ins), (⟨15, 6, (-1), 0⟩ : Ins)] : List Ins) h27 sl_64 ti_73 rfl rfl rfl (by decide) rfl (by kernel_rfl) rfl (fun q hq w h => Flat.inner _ _) (fun q hq b hb => (Flat.on _ _ hb).elim) rfl rfl) (wanted_none rfl _) ?_; clear h20 h23 h24 h25 h26
  rintro a28 w28 ⟨v28, h28⟩; clear h27
  refine wms 1 h28 rfl fun a29 h29 => wpList_nil <| hK22 _ _ <| wp_ret ?_; clear h28
  try simp only [Exit.then, Exit.inBlock]
  refine x_ret1 (fn := Try.f74) (t := 5) rfl h29 rfl <| ⟨⟨v28, []⟩, rfl, ?_⟩
  rw [show linkB words.l.length i x = [(⟨1, 6, 0, 0⟩ : Ins), (⟨1, 7, 1, 0⟩ : Ins), (⟨13, ((words.l.length : Nat) : Int) + x.a, 6, 7⟩ : Ins), (⟨15, 6, (-1), 0⟩ : Ins)] from by unfold linkB; (repeat' split) <;> first | rfl | (exfalso; omega)]
  exact (h29.sh.sel (L' := [.own 73 (⟨v28, [(⟨1, 6, 0, 0⟩ : Ins), (⟨1, 7, 1, 0⟩ : Ins), (⟨13, ((words.l.length : Nat) : Int) + x.a, 6, 7⟩ : Ins), (⟨15, 6, (-1), 0⟩ : Ins)]⟩ : Ls Ins)]) [0] (by decide) ⟨rfl, trivial⟩)
 have hp21 : ¬ (x.op = 17) := of_decide_eq_false hb21
 refine wp_seq_k fun K30 hK30 => wp_region_lit <| wv h20 (r_eqlI (p := x.op) (q := 18) rfl rfl rfl) rfl rfl fun a31 h31 => wms 1 h31 rfl fun a32 h32 => wpList_nil <| hK30 _ _ <| x_cond h32 rfl (fun hb33 => ?_) (fun hb33 => ?_); clear h20 h31
 ·
  have hp33 : x.op = 18 := of_decide_eq_true hb33
  refine wp_seq_k fun K34 hK34 => wp_region_lit <| wv h32 (r_build (cs := [.int .i64 1, .int .i64 6, .int .i64 0, .int .i64 0]) rfl rfl (by kernel_rfl)) rfl rfl fun a35 h35 => wms 1 h35 rfl fun a36 h36 => wv h36 (r_build (cs := [.int .i64 9, .int .i64 (((words.l.length : Nat) : Int) + x.a), .int .i64 6, .int .i64 0]) rfl rfl (by kernel_rfl)) rfl rfl fun a37 h37 => wl_ex (x_lit (n := 2) (cs := [.int .i64 1, .int .i64 6, .int .i64 0, .int .i64 0, .int .i64 9, .int .i64 (((words.l.length : Nat) : Int) + x.a), .int .i64 6, .int .i64 0]) ([(⟨1, 6, 0, 0⟩ : Ins), (⟨9, ((words.l.length : Nat) : Int) + x.a, 6, 0⟩ : Ins)] : List Ins) h37 sl_64 ti_73 rfl rfl rfl (by decide) rfl (by kernel_rfl) rfl (fun q hq w h => Flat.inner _ _) (fun q hq b hb => (Flat.on _ _ hb).elim) rfl rfl) (wanted_none rfl _) ?_; clear h32 h35 h36
  rintro a38 w38 ⟨v38, h38⟩; clear h37
  refine wms 1 h38 rfl fun a39 h39 => wpList_nil <| hK34 _ _ <| wp_ret ?_; clear h38
  try simp only [Exit.then, Exit.inBlock]
  refine x_ret1 (fn := Try.f74) (t := 5) rfl h39 rfl <| ⟨⟨v38, []⟩, rfl, ?_⟩
  rw [show linkB words.l.length i x = [(⟨1, 6, 0, 0⟩ : Ins), (⟨9, ((words.l.length : Nat) : Int) + x.a, 6, 0⟩ : Ins)] from by unfold linkB; (repeat' split) <;> first | rfl | (exfalso; omega)]
  exact (h39.sh.sel (L' := [.own 73 (⟨v38, [(⟨1, 6, 0, 0⟩ : Ins), (⟨9, ((words.l.length : Nat) : Int) + x.a, 6, 0⟩ : Ins)]⟩ : Ls Ins)]) [0] (by decide) ⟨rfl, trivial⟩)
 have hp33 : ¬ (x.op = 18) := of_decide_eq_false hb33
 refine wp_skip <| hK14 _ _ <| wp_seq_k fun K40 hK40 => wp_region_lit <| wv h32 (r_ldbw (i := 0) (vs := [.int .i64 x.op, .int .i64 x.a, .int .i64 x.b, .int .i64 x.c]) ti_73 rfl rfl rfl rfl rfl) rfl rfl fun a41 h41 => wl_ex (x_lit (n := 1) (cs := [.int .i64 x.op, .int .i64 x.a, .int .i64 x.b, .int .i64 x.c]) ([x] : List Ins) h41 sl_64 ti_73 rfl rfl rfl (by decide) rfl (by kernel_rfl) rfl (fun q hq w h => Flat.inner _ _) (fun q hq b hb => (Flat.on _ _ hb).elim) rfl rfl) (wanted_none rfl _) ?_; clear h32
 rintro a42 w42 ⟨v42, h42⟩; clear h41
 refine wms 1 h42 rfl fun a43 h43 => wpList_nil <| hK40 _ _ <| wp_ret ?_; clear h42
 try simp only [Exit.then, Exit.inBlock]
 refine x_ret1 (fn := Try.f74) (t := 5) rfl h43 rfl <| ⟨⟨v42, []⟩, rfl, ?_⟩
 rw [show linkB words.l.length i x = [x] from by unfold linkB; (repeat' split) <;> first | rfl | (exfalso; omega)]
 exact (h43.sh.sel (L' := [.own 73 (⟨v42, [x]⟩ : Ls Ins)]) [0] (by decide) ⟨rfl, trivial⟩)

end Go.Proofs.Ytanhbpofhebbaaa
