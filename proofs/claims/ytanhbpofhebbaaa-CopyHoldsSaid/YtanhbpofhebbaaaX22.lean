/-
  Contracts of functions of this program and of the references, each walked once.
-/
import Derived.Test.YtanhbpofhebbaaaX21
namespace Go.Proofs.Ytanhbpofhebbaaa
open Go.RowKit
set_option linter.unusedSimpArgs false
set_option linter.unusedVariables false


/-- The last of n keys with a sum. -/
def LastSum (ks : List (List Int)) (n h : Nat) (r : Int) : Prop := (r = -1 ∧ ∀ j, j < n → sumL (nth ks j) ≠ h) ∨ ∃ k : Nat, r = k ∧ k < n ∧ sumL (nth ks k) = h ∧ ∀ j, k < j → j < n → sumL (nth ks j) ≠ h
theorem LastSum.lt {ks : List (List Int)} {n h : Nat} {r : Int} (hl : LastSum ks n h r) : -1 ≤ r ∧ r < n := by
  rcases hl with ⟨h, _⟩ | ⟨k, h, h2, _⟩ <;> omega
theorem LastSum.at {ks : List (List Int)} {n h : Nat} {r : Int} (hl : LastSum ks n h r) (h0 : 0 ≤ r) : sumL (nth ks r.toNat) = h ∧ ∀ j, r.toNat < j → j < n → sumL (nth ks j) ≠ h := by
  rcases hl with ⟨h, _⟩ | ⟨k, rfl, h2, h3, h4⟩
  · omega
  · exact ⟨by simpa using h3, fun j hj => h4 j (by simpa using hj)⟩
theorem LastSum.none {ks : List (List Int)} {n h : Nat} {r : Int} (hl : LastSum ks n h r) (h0 : ¬ 0 ≤ r) : ∀ j, j < n → sumL (nth ks j) ≠ h := by
  rcases hl with ⟨_, h⟩ | ⟨k, rfl, _⟩
  · exact h
  · omega
structure HeadsOK (ks : List (List Int)) (heads before : List Int) : Prop where
  hl : heads.length = 4096
  bl : before.length = ks.length
  hd : ∀ h, h < 4096 → LastSum ks ks.length h (nth heads h)
  bf : ∀ i, i < ks.length → LastSum ks i (sumL (nth ks i)) (nth before i)
theorem nth_app0 {α : Type} [Inhabited α] (l m : List α) (k : Nat) : nth (l ++ m) k = if k < l.length then nth l k else nth m (k - l.length) := by
  simp only [nth, List.getD]
  by_cases h : k < l.length
  · rw [List.getElem?_append_left h, if_pos h]
  · rw [List.getElem?_append_right (by omega), if_neg h]
theorem LastSum.more {ks : List (List Int)} {n h : Nat} {r : Int} (x : List Int) (hl : LastSum ks n h r) (hn : n ≤ ks.length) : LastSum (ks ++ [x]) n h r := by
  have e : ∀ j, j < n → nth (ks ++ [x]) j = nth ks j := fun j hj => by rw [nth_app0, if_pos (by omega)]
  rcases hl with ⟨h1, h2⟩ | ⟨k, h1, h2, h3, h4⟩
  · exact .inl ⟨h1, fun j hj => by rw [e j hj]; exact h2 j hj⟩
  · exact .inr ⟨k, h1, h2, by rw [e k h2]; exact h3, fun j hj hj2 => by rw [e j hj2]; exact h4 j hj hj2⟩
theorem HeadsOK.put {ks : List (List Int)} {heads before : List Int} (h : HeadsOK ks heads before) (x : List Int) : HeadsOK (ks ++ [x]) (heads.set (sumL x) ((ks.length : Nat) : Int)) (before ++ [nth heads (sumL x)]) := by
  have hx : nth (ks ++ [x]) ks.length = x := by rw [nth_app0, if_neg (by omega)]; simp [nth]
  refine ⟨by simpa using h.hl, by simp [h.bl], fun s hs => ?_, fun i hi => ?_⟩
  · rw [nth_set]
    by_cases e : sumL x = s
    · rw [if_pos ⟨e, by rw [h.hl]; exact sumL_lt x⟩]
      exact .inr ⟨ks.length, rfl, by simp, by rw [hx]; exact e, fun j hj hj2 => by simp at hj2; omega⟩
    · rw [if_neg (fun hh => e hh.1)]
      rcases h.hd s hs with ⟨h1, h2⟩ | ⟨k, h1, h2, h3, h4⟩
      · refine .inl ⟨h1, fun j hj => ?_⟩
        simp at hj
        rcases Nat.lt_or_ge j ks.length with hlt | hge
        · rw [nth_app0, if_pos hlt]; exact h2 j hlt
        · obtain rfl : j = ks.length := by omega
          rw [hx]; exact e
      · refine .inr ⟨k, h1, by simp; omega, by rw [nth_app0, if_pos h2]; exact h3, fun j hj hj2 => ?_⟩
        simp at hj2
        rcases Nat.lt_or_ge j ks.length with hlt | hge
        · rw [nth_app0, if_pos hlt]; exact h4 j hj hlt
        · obtain rfl : j = ks.length := by omega
          rw [hx]; exact e
  · simp at hi
    rcases Nat.lt_or_ge i ks.length with hlt | hge
    · rw [nth_app0 ks, if_pos hlt, nth_app0 before, if_pos (by rw [h.bl]; exact hlt)]
      exact (h.bf i hlt).more x (by omega)
    · obtain rfl : i = ks.length := by omega
      rw [hx, nth_app0 before, if_neg (by rw [h.bl]; omega), h.bl]
      have := (h.hd (sumL x) (sumL_lt x)).more x (Nat.le_refl _)
      simpa [nth] using this
/-- Which outcomes are there when one more is put in. -/
def PutRel (o : OutL) (l l' : List OutL) : Prop := ((∃ i, i < l.length ∧ aheadB o.out (nth l i).out = false ∧ aheadB (nth l i).out o.out = false) ∧ l' = l) ∨
  ∃ k, k ≤ l.length ∧ (∀ j, j < k → aheadB o.out (nth l j).out = false ∧ aheadB (nth l j).out o.out = true) ∧ (k < l.length → aheadB o.out (nth l k).out = true) ∧ l' = l.take k ++ o :: l.drop k
def PutInv (o : OutL) (l : List OutL) (i : Nat) (dn : Bool) (ol : List OutL) : Prop := (dn = false ∧ ol = l.take i ∧ ∀ j, j < i → aheadB o.out (nth l j).out = false ∧ aheadB (nth l j).out o.out = true) ∨
  (dn = true ∧ ∃ k, k < i ∧ k < l.length ∧ (∀ j, j < k → aheadB o.out (nth l j).out = false ∧ aheadB (nth l j).out o.out = true) ∧ aheadB o.out (nth l k).out = true ∧ ol = l.take k ++ o :: (l.drop k).take (i - k))
theorem PutInv.one {o : OutL} {l ol : List OutL} {i : Nat} (h : PutInv o l i false ol) (hi : i < l.length) (h1 : aheadB o.out (nth l i).out = true) : PutInv o l (i + 1) true ((ol ++ [o]) ++ [nth l i]) := by
  rcases h with ⟨_, h2, h3⟩ | ⟨h, _⟩
  · refine .inr ⟨rfl, i, by omega, hi, h3, h1, ?_⟩
    have e1 : (l.drop i).take 1 = [nth l i] := by rw [List.drop_eq_getElem_cons hi, nth_lt l i hi]; rfl
    rw [h2, show i + 1 - i = 1 by omega, e1]
    simp
  · cases h
theorem PutInv.two {o : OutL} {l ol : List OutL} {i : Nat} {dn : Bool} (h : PutInv o l i dn ol) (hi : i < l.length) (h1 : dn = true ∨ (aheadB o.out (nth l i).out = false ∧ aheadB (nth l i).out o.out = true)) : PutInv o l (i + 1) dn (ol ++ [nth l i]) := by
  rcases h with ⟨h, h2, h3⟩ | ⟨h, k, h2, h3, h4, h5, h6⟩
  · refine .inl ⟨h, by rw [h2, take_succ_nth _ _ hi], fun j hj => ?_⟩
    rcases Nat.lt_or_ge j i with hlt | hge
    · exact h3 j hlt
    · obtain rfl : j = i := by omega
      rcases h1 with h1 | h1
      · rw [h] at h1; cases h1
      · exact h1
  · refine .inr ⟨h, k, by omega, h3, h4, h5, ?_⟩
    rw [h6, show i + 1 - k = (i - k) + 1 by omega, take_succ_nth _ _ (by simp; omega)]
    have : nth (l.drop k) (i - k) = nth l i := by simp only [nth, List.getD, List.getElem?_drop, show k + (i - k) = i by omega]
    rw [this]; simp
theorem PutInv.rel {o : OutL} {l ol : List OutL} {i : Nat} (h : PutInv o l i true ol) (hi : i = l.length) : PutRel o l ol := by
  rcases h with ⟨h, _⟩ | ⟨_, k, h2, h3, h4, h5, h6⟩
  · cases h
  · exact .inr ⟨k, by omega, h4, fun _ => h5, by rw [h6, List.take_of_length_le (l := l.drop k) (by rw [List.length_drop]; omega)]⟩
theorem PutInv.rel0 {o : OutL} {l ol : List OutL} {i : Nat} (h : PutInv o l i false ol) (hi : i = l.length) : PutRel o l (ol ++ [o]) := by
  rcases h with ⟨_, h2, h3⟩ | ⟨h, _⟩
  · subst hi
    exact .inr ⟨l.length, Nat.le_refl _, h3, fun h => absurd h (by omega), by rw [h2]; simp⟩
  · cases h
theorem PutInv.len {o : OutL} {l ol : List OutL} {i : Nat} {dn : Bool} (h : PutInv o l i dn ol) (hi : i ≤ l.length) : ol.length ≤ i + 1 := by
  rcases h with ⟨_, h2, _⟩ | ⟨_, k, h2, h3, _, _, h6⟩
  · rw [h2]; simp; omega
  · rw [h6]; simp; omega
/-- What a state is put in for. -/
def KeyRel (L : List Int) (x : SD) (states states' : List SD) (keys keys' : List (Ls Int)) (heads before heads' before' : List Int) (full full' : Bool) : Prop :=
  ((∃ j, j < keys.length ∧ (nth keys j).l = L) ∧ states' = states ∧ keys'.map (·.l) = keys.map (·.l) ∧ HeadsOK (keys'.map (·.l)) heads' before' ∧ full' = full) ∨
  ((∀ j, j < keys.length → (nth keys j).l ≠ L) ∧ states' = states ++ [x] ∧ keys'.map (·.l) = keys.map (·.l) ++ [L] ∧ HeadsOK (keys'.map (·.l)) heads' before' ∧ full' = (full || decide (4000 < states.length + 1)))

set_option maxRecDepth 100000 in
set_option maxHeartbeats 8000000 in
theorem put_c (K : Nat → Prop) (gs : Nat) (x : SD) (states : Ls SD) (keys : Ls (Ls Int)) (heads before : Ls Int) (ev : Value) (full : Bool) (cv pw : Value) (locks nregs mode : Int) (W : World) (hS : Sh K W W [.blk gs 49 [states.v, keys.v, heads.v, before.v, ev, .bool full], .own 94 states, .deep 24 keys, .own 3 heads, .own 3 before, .rd1 x]) (hok : HeadsOK (keys.l.map (·.l)) heads.l before.l) (hlen : states.l.length = keys.l.length) (hkl : keys.l.length ≤ 5000) (hhd : x.hd = [cv, pw, .int .i64 locks, .int .i64 nregs, .int .i64 mode]) (hE : x.E = 104) (hcl : x.thr.l.length ≤ 4) (hrg : ∀ i, i < x.thr.l.length → (nth x.thr.l i).regs.l.length ≤ 100000) (hwl : ∀ i, i < x.thr.l.length → (nth x.thr.l i).wait.l.length ≤ 3) (hwn : x.words.l.length ≤ 100000 ∧ x.owner.l.length ≤ 100000 ∧ x.prints.l.length ≤ 100000000) :
    Rets Try.prog 103 [.pointer (some ⟨gs, 0, none⟩), .pointer (some ⟨x.g, 0, none⟩)] W (fun v w' => v = .tuple #[] ∧ ∃ (states' : Ls SD) (keys' : Ls (Ls Int)) (heads' before' : Ls Int) (full' : Bool), KeyRel (numbersL (x.thr.l.map ThL.th) x.words.l x.owner.l x.prints.l) x states.l states'.l keys.l keys'.l heads.l before.l heads'.l before'.l full full' ∧ Sh K W w' [.blk gs 49 [states'.v, keys'.v, heads'.v, before'.v, ev, .bool full'], .own 94 states', .deep 24 keys', .own 3 heads', .own 3 before', .rd1 x]) := by
 have hbl : before.l.length = keys.l.length := by simpa using hok.bl
 have hhl : heads.l.length = 4096 := hok.hl
 have hslt := fun l => sumL_lt l
 refine x_enter (N := 100) Try.func103 rfl Try.ntmps103 (Nat.le_of_ble_eq_true rfl) fun a1 hf1 => ?_
 have h1 : St 100 K W a1 W [(0, .pointer (some ⟨gs, 0, none⟩)), (1, .pointer (some ⟨x.g, 0, none⟩))] [.blk gs 49 [states.v, keys.v, heads.v, before.v, ev, .bool full], .own 94 states, .deep 24 keys, .own 3 heads, .own 3 before, .rd1 x] := ⟨hf1.sub ⟨rfl, rfl, trivial⟩, hS⟩
 clear hf1
 refine wp_seq_k fun K2 hK2 => wp_region_lit ?_
 refine wms 1 h1 rfl fun a3 h3 => ?_; clear h1
 refine wl_ex (x_call h3 bd_117 rfl rfl rfl rfl rfl (numbers_c x.g x.thr x.words x.owner x.prints _ _ _ _ _ _ _ (by have h9 := (show Enc.inner x _ from (h3.sh.ok _ (List.mem_of_getElem? (i := 5) rfl))).1; rw [hE, SD.cells, hhd] at h9; exact h9) (show Enc.inner x _ from (h3.sh.ok _ (List.mem_of_getElem? (i := 5) rfl))).2.1 (show Enc.inner x _ from (h3.sh.ok _ (List.mem_of_getElem? (i := 5) rfl))).2.2.1 (show Enc.inner x _ from (h3.sh.ok _ (List.mem_of_getElem? (i := 5) rfl))).2.2.2.1 (show Enc.inner x _ from (h3.sh.ok _ (List.mem_of_getElem? (i := 5) rfl))).2.2.2.2 hcl hrg hwl hwn)) (wanted_none rfl _) ?_
 rintro a4 w4 ⟨_, ⟨s4, rfl, hml4, hs4⟩, hf4⟩
 have hml := hml4
 have h4 := (⟨hf4, h3.sh.call hs4 (by intro A hA b hb; first | (simp at hA; done) | (simp at hA; subst hA; first | exact Flat.noRd hb | exact (hb : False).elim) | (simp at hA; rcases hA with rfl | rfl <;> first | exact Flat.noRd hb | exact (hb : False).elim))⟩ : St 100 K W a4 w4 _ _)
 clear hf4 hs4
 clear h3
 refine wms 1 h4 rfl fun a5 h5 => ?_; clear h4
 refine wpList_nil (hK2 _ _ ?_)
 refine wp_seq_k fun K6 hK6 => wp_region_lit ?_
 refine wms 1 h5 rfl fun a7 h7 => ?_; clear h5
 refine wl_ex (x_call h7 bd_118 rfl rfl rfl rfl rfl (sum_c s4 _ (h7.sh.own 0 rfl))) (wanted_none rfl _) ?_
 rintro a8 w8 ⟨_, ⟨rfl, hs8⟩, hf8⟩
 have h8 : St 100 K W a8 w8 _ _ := ⟨hf8, h7.sh.call0 hs8⟩
 clear hf8 hs8
 clear h7
 refine wms 1 h8 rfl fun a9 h9 => ?_; clear h8
 refine wpList_nil (hK6 _ _ ?_)
 have hsl := sumL_lt s4.l
 refine wp_seq_k fun K10 hK10 => ?_
 refine wp_seq_k fun K11 hK11 => wp_region_lit ?_
 refine wms 1 h9 rfl fun a12 h12 => ?_; clear h9
 refine wv h12 (r_nil rfl rfl) rfl rfl fun a13 h13 => ?_; clear h12
 refine wv h13 (r_fieldB (r := 2) fl_49_2 rfl rfl rfl) rfl rfl fun a14 h14 => ?_; clear h13
 refine wv h14 (r_ldb (i := 1) ti_24 rfl rfl rfl rfl) rfl rfl fun a15 h15 => ?_; clear h14
 refine wms 1 h15 rfl fun a16 h16 => ?_; clear h15
 have hl17 : heads.l.length ≤ 140737488355328 := (h16.sh.own 4 rfl).len
 refine wv h16 (r_ixN (s := heads) (q := sumL s4.l) sl_24 ti_3 rfl rfl rfl (fun w h => (h.own 4 rfl)) (show sumL s4.l < heads.l.length from (by omega))) rfl rfl fun a18 h18 => ?_; clear h16
 refine wv h18 (r_lde (s := heads) (i := sumL s4.l) (v := .int .i64 (nth heads.l (sumL s4.l))) ti_3 rfl rfl rfl (fun w h => (h.own 4 rfl)) (show sumL s4.l < heads.l.length from (by omega)) (Nat.le_of_ble_eq_true rfl) rfl) rfl rfl fun a19 h19 => ?_; clear h18
 refine wms 1 h19 rfl fun a20 h20 => ?_; clear h19
 refine wpList_nil (hK11 _ _ ?_)
 refine wp_block ?_
 refine x_loop (fun m a w => ∃ (i : Int) (mm : Nat), (LastSum (keys.l.map (·.l)) mm (sumL s4.l) i) ∧ (mm ≤ keys.l.length) ∧ (∀ j, mm ≤ j → j < keys.l.length → (nth keys.l j).l ≠ s4.l) ∧ St 100 K W a w [(0, .pointer (some ⟨gs, 0, none⟩)), (1, .pointer (some ⟨x.g, 0, none⟩)), (4, s4.v), (5, .int .i64 ((sumL s4.l : Nat) : Int)), (6, .int .i64 i)] [.own 3 s4, .blk gs 49 [states.v, keys.v, heads.v, before.v, ev, .bool full], .own 94 states, .deep 24 keys, .own 3 heads, .own 3 before, .rd1 x] ∧ m = (i + 1).toNat) ⟨_, _, keys.l.length, (by have := hok.hd _ (sumL_lt s4.l); simpa using this), (Nat.le_refl _), (fun j hj hj2 => absurd hj2 (by omega)), h20.nrm ⟨rfl, rfl, rfl, rfl, rfl, trivial⟩ [0, 1, 2, 3, 4, 5, 6] (by decide) ⟨rfl, rfl, rfl, rfl, rfl, rfl, rfl, trivial⟩, rfl⟩ ?_
 clear h20
 rintro m21 a21 w21 ⟨i, mm, hls, hm, hno, h21, hm21⟩
 have hlt := hls.lt
 refine wp_seq_k fun K22 hK22 => ?_
 refine wp_seq_k fun K23 hK23 => wp_region_lit ?_
 refine wms 1 h21 rfl fun a24 h24 => ?_; clear h21
 refine wv h24 (r_geqI (p := i) (q := 0) rfl rfl rfl) rfl rfl fun a25 h25 => ?_; clear h24
 refine wpList_nil (hK23 _ _ ?_)
 refine x_cond h25 rfl (fun hb26 => ?_) (fun hb26 => ?_)
 ·
  have hp26 : 0 ≤ i := of_decide_eq_true hb26
  refine wp_skip ?_
  refine hK22 _ _ ?_
  refine wp_seq_k fun K27 hK27 => ?_
  refine wp_block ?_
  refine wp_seq_k fun K28 hK28 => wp_region_lit ?_
  refine wms 1 h25 rfl fun a29 h29 => ?_; clear h25
  refine wv h29 (r_nil rfl rfl) rfl rfl fun a30 h30 => ?_; clear h29
  refine wv h30 (r_fieldB (r := 1) fl_49_1 rfl rfl rfl) rfl rfl fun a31 h31 => ?_; clear h30
  refine wv h31 (r_ldb (i := 1) ti_46 rfl rfl rfl rfl) rfl rfl fun a32 h32 => ?_; clear h31
  refine wms 1 h32 rfl fun a33 h33 => ?_; clear h32
  have hl34 : keys.l.length ≤ 140737488355328 := (h33.sh.deep 3 rfl).len
  refine wv h33 (r_ixI (s := keys) (q := i) sl_46 ti_24 rfl rfl rfl (fun w h => (h.deep 3 rfl)) (show 0 ≤ i ∧ i < keys.l.length from (by omega))) rfl rfl fun a35 h35 => ?_; clear h33
  refine wv h35 (r_lde (s := keys) (i := i.toNat) (v := (nth keys.l i.toNat).v) ti_24 rfl rfl rfl (fun w h => (h.deep 3 rfl)) (show i.toNat < keys.l.length from (by omega)) (Nat.le_of_ble_eq_true rfl) rfl) rfl rfl fun a36 h36 => ?_; clear h35
  refine wms 1 h36 rfl fun a37 h37 => ?_; clear h36
  refine wl_ex (x_call h37 bd_41 rfl rfl rfl rfl rfl (ints_c (nth keys.l i.toNat) s4 _ ((h37.sh.deep 3 rfl).nth i.toNat (show i.toNat < keys.l.length from (by omega))) (h37.sh.own 0 rfl))) (wanted_none rfl _) ?_
  rintro a38 w38 ⟨_, ⟨rfl, hs38⟩, hf38⟩
  have h38 : St 100 K W a38 w38 _ _ := ⟨hf38, h37.sh.call0 hs38⟩
  clear hf38 hs38
  clear h37
  refine wms 1 h38 rfl fun a39 h39 => ?_; clear h38
  refine wpList_nil (hK28 _ _ ?_)
  refine wp_seq_k fun K40 hK40 => wp_region_lit ?_
  refine wms 1 h39 rfl fun a41 h41 => ?_; clear h39
  refine wpList_nil (hK40 _ _ ?_)
  refine x_cond h41 rfl (fun hb42 => ?_) (fun hb42 => ?_)
  ·
   have hp42 : (nth keys.l i.toNat).l = s4.l := of_decide_eq_true hb42
   refine wp_ret ?_
   try simp only [Exit.then, Exit.inBlock]
   refine x_ret0 (fn := Try.f103) rfl h41 ?_
   refine ⟨rfl, states, keys, heads, before, full, ?_, (h41.sh.sel (L' := [.blk gs 49 [states.v, keys.v, heads.v, before.v, ev, .bool full], .own 94 states, .deep 24 keys, .own 3 heads, .own 3 before, .rd1 x]) [1, 2, 3, 4, 5, 6] (by decide) ⟨rfl, rfl, rfl, rfl, rfl, rfl, trivial⟩)⟩
   exact .inl ⟨⟨i.toNat, by omega, by rw [← hml]; assumption⟩, rfl, rfl, hok, rfl⟩
  have hp42 : ¬ ((nth keys.l i.toNat).l = s4.l) := of_decide_eq_false hb42
  refine wp_skip ?_
  refine hK27 _ _ ?_
  refine wp_region_lit ?_
  refine wms 1 h41 rfl fun a43 h43 => ?_; clear h41
  refine wv h43 (r_nil rfl rfl) rfl rfl fun a44 h44 => ?_; clear h43
  refine wv h44 (r_fieldB (r := 3) fl_49_3 rfl rfl rfl) rfl rfl fun a45 h45 => ?_; clear h44
  refine wv h45 (r_ldb (i := 1) ti_24 rfl rfl rfl rfl) rfl rfl fun a46 h46 => ?_; clear h45
  refine wms 1 h46 rfl fun a47 h47 => ?_; clear h46
  have hl48 : before.l.length ≤ 140737488355328 := (h47.sh.own 5 rfl).len
  refine wv h47 (r_ixI (s := before) (q := i) sl_24 ti_3 rfl rfl rfl (fun w h => (h.own 5 rfl)) (show 0 ≤ i ∧ i < before.l.length from (by omega))) rfl rfl fun a49 h49 => ?_; clear h47
  refine wv h49 (r_lde (s := before) (i := i.toNat) (v := .int .i64 (nth before.l i.toNat)) ti_3 rfl rfl rfl (fun w h => (h.own 5 rfl)) (show i.toNat < before.l.length from (by omega)) (Nat.le_of_ble_eq_true rfl) rfl) rfl rfl fun a50 h50 => ?_; clear h49
  refine wms 1 h50 rfl fun a51 h51 => ?_; clear h50
  refine wpList_nil ?_
  refine x_again ⟨_, ?_, _, i.toNat, ?_, ?_, ?_, h51.nrm ⟨rfl, rfl, rfl, rfl, rfl, trivial⟩ [0, 1, 2, 3, 4, 5, 6] (by decide) ⟨rfl, rfl, rfl, rfl, rfl, rfl, rfl, trivial⟩, rfl⟩
  · rw [hm21]; have h9 := (hok.bf i.toNat (by simp; omega)).lt; omega
  · have h9 := hok.bf i.toNat (by simp; omega); rw [(hls.at (by omega)).1] at h9; exact h9
  · omega
  · intro j hj hj2; rcases Nat.lt_or_ge j mm with h9 | h9; (rcases Nat.lt_or_ge i.toNat j with h8 | h8; (intro e9; have h7 := (hls.at (by omega)).2 j h8 h9; rw [nth_map' _ _ _ hj2, e9] at h7; exact h7 rfl); (obtain rfl : j = i.toNat := (by omega); assumption)); exact hno j h9 hj2
 have hp26 : ¬ (0 ≤ i) := of_decide_eq_false hb26
 refine wp_exit ?_
 refine hK10 _ _ ?_
 refine wp_seq_k fun K52 hK52 => ?_
 have h53 : St 100 K W a25 w21 [(0, .pointer (some ⟨gs, 0, none⟩)), (1, .pointer (some ⟨x.g, 0, none⟩)), (4, s4.v), (5, .int .i64 ((sumL s4.l : Nat) : Int)), (6, .int .i64 i), (19, .int .i64 i), (20, .bool (decide (0 ≤ i)))] [.own 3 s4, .blk gs 49 [states.v, keys.v, heads.v, before.v, ev, .bool full], .own 94 states, .deep 24 keys, .own 3 heads, .own 3 before, .rd1 x] := h25.nrm ⟨rfl, rfl, rfl, rfl, rfl, rfl, rfl, trivial⟩ [0, 1, 2, 3, 4, 5, 6] (by decide) ⟨rfl, rfl, rfl, rfl, rfl, rfl, rfl, trivial⟩
 clear h25
 refine x_any (fun S a w => (S 12 = false ∧ S 13 = false ∧ S 16 = false ∧ FrI 100 S [(0, .pointer (some ⟨gs, 0, none⟩)), (1, .pointer (some ⟨x.g, 0, none⟩)), (4, s4.v), (5, .int .i64 ((sumL s4.l : Nat) : Int)), (6, .int .i64 i), (19, .int .i64 i), (20, .bool (decide (0 ≤ i)))] [(0, 38, .pointer (some ⟨gs, 0, none⟩)), (1, 39, .pointer (some ⟨gs, 0, none⟩)), (2, 40, .pointer (some ⟨gs, 0, none⟩)), (3, 41, .pointer (some ⟨gs, 3, none⟩)), (4, 42, before.v), (5, 43, .pointer (some ⟨gs, 0, none⟩)), (6, 44, .pointer (some ⟨gs, 0, none⟩)), (7, 45, .pointer (some ⟨gs, 2, none⟩)), (8, 46, heads.v), (9, 47, .int .i64 ((sumL s4.l : Nat) : Int)), (10, 48, .pointer (some (padr heads.v 1 (sumL s4.l) 0))), (11, 49, .int .i64 (nth heads.l (sumL s4.l)))] a ∧ Sh K W w [.own 3 s4, .blk gs 49 [states.v, keys.v, heads.v, before.v, ev, .bool full], .own 94 states, .deep 24 keys, .own 3 heads, .own 3 before, .rd1 x]) ∨ (S 12 = true ∧ S 13 = false ∧ S 16 = false ∧ ∃ (v7012 : Value), FrI 100 S [(0, .pointer (some ⟨gs, 0, none⟩)), (1, .pointer (some ⟨x.g, 0, none⟩)), (4, s4.v), (5, .int .i64 ((sumL s4.l : Nat) : Int)), (6, .int .i64 i), (19, .int .i64 i), (20, .bool (decide (0 ≤ i)))] [(0, 38, .pointer (some ⟨gs, 0, none⟩)), (1, 39, .pointer (some ⟨gs, 0, none⟩)), (2, 40, .pointer (some ⟨gs, 0, none⟩)), (3, 41, .pointer (some ⟨gs, 3, none⟩)), (4, 42, before.v), (5, 43, .pointer (some ⟨gs, 0, none⟩)), (6, 44, .pointer (some ⟨gs, 0, none⟩)), (7, 45, .pointer (some ⟨gs, 2, none⟩)), (8, 46, heads.v), (9, 47, .int .i64 ((sumL s4.l : Nat) : Int)), (10, 48, .pointer (some (padr heads.v 1 (sumL s4.l) 0))), (11, 49, .int .i64 (nth heads.l (sumL s4.l))), (12, 50, v7012)] a ∧ Sh K W w [.own 3 (⟨v7012, [nth heads.l (sumL s4.l)]⟩ : Ls Int), .own 3 s4, .blk gs 49 [states.v, keys.v, heads.v, before.v, ev, .bool full], .own 94 states, .deep 24 keys, .own 3 heads, .own 3 before, .rd1 x]) ∨ (S 12 = true ∧ S 13 = true ∧ S 16 = false ∧ ∃ (v7012 : Value) (v7013 : Value), FrI 100 S [(0, .pointer (some ⟨gs, 0, none⟩)), (1, .pointer (some ⟨x.g, 0, none⟩)), (4, s4.v), (5, .int .i64 ((sumL s4.l : Nat) : Int)), (6, .int .i64 i), (19, .int .i64 i), (20, .bool (decide (0 ≤ i)))] [(0, 38, .pointer (some ⟨gs, 0, none⟩)), (1, 39, .pointer (some ⟨gs, 0, none⟩)), (2, 40, .pointer (some ⟨gs, 0, none⟩)), (3, 41, .pointer (some ⟨gs, 3, none⟩)), (4, 42, before.v), (5, 43, .pointer (some ⟨gs, 0, none⟩)), (6, 44, .pointer (some ⟨gs, 0, none⟩)), (7, 45, .pointer (some ⟨gs, 2, none⟩)), (8, 46, heads.v), (9, 47, .int .i64 ((sumL s4.l : Nat) : Int)), (10, 48, .pointer (some (padr heads.v 1 (sumL s4.l) 0))), (11, 49, .int .i64 (nth heads.l (sumL s4.l))), (12, 50, v7012), (13, 51, v7013), (14, 52, .pointer (some ⟨gs, 0, none⟩)), (15, 53, .pointer (some ⟨gs, 3, none⟩))] a ∧ Sh K W w [.own 3 (⟨v7012, [nth heads.l (sumL s4.l)]⟩ : Ls Int), .own 3 s4, .blk gs 49 [states.v, keys.v, heads.v, before.v, ev, .bool full], .own 94 states, .deep 24 keys, .own 3 heads, .own 3 (⟨v7013, before.l ++ ([nth heads.l (sumL s4.l)])⟩ : Ls Int), .rd1 x]) ∨ (S 12 = true ∧ S 13 = true ∧ S 16 = true ∧ ∃ (v7012 : Value) (v7013 : Value), FrI 100 S [(0, .pointer (some ⟨gs, 0, none⟩)), (1, .pointer (some ⟨x.g, 0, none⟩)), (4, s4.v), (5, .int .i64 ((sumL s4.l : Nat) : Int)), (6, .int .i64 i), (19, .int .i64 i), (20, .bool (decide (0 ≤ i)))] [(0, 38, .pointer (some ⟨gs, 0, none⟩)), (1, 39, .pointer (some ⟨gs, 0, none⟩)), (2, 40, .pointer (some ⟨gs, 0, none⟩)), (3, 41, .pointer (some ⟨gs, 3, none⟩)), (4, 42, before.v), (5, 43, .pointer (some ⟨gs, 0, none⟩)), (6, 44, .pointer (some ⟨gs, 0, none⟩)), (7, 45, .pointer (some ⟨gs, 2, none⟩)), (8, 46, heads.v), (9, 47, .int .i64 ((sumL s4.l : Nat) : Int)), (10, 48, .pointer (some (padr heads.v 1 (sumL s4.l) 0))), (11, 49, .int .i64 (nth heads.l (sumL s4.l))), (12, 50, v7012), (13, 51, v7013), (14, 52, .pointer (some ⟨gs, 0, none⟩)), (15, 53, .pointer (some ⟨gs, 3, none⟩))] a ∧ Sh K W w [.own 3 (⟨v7012, [nth heads.l (sumL s4.l)]⟩ : Ls Int), .own 3 s4, .blk gs 49 [states.v, keys.v, heads.v, v7013, ev, .bool full], .own 94 states, .deep 24 keys, .own 3 heads, .own 3 (⟨v7013, before.l ++ ([nth heads.l (sumL s4.l)])⟩ : Ls Int), .rd1 x])) (by kernel_rfl) (by kernel_rfl) (Or.inl (⟨rfl, rfl, rfl, FrI.start h53.fr, h53.sh.drew⟩)) ?_ ?_
 ·intro S i o ho hSi hcl hdep a w hI
  clear h53
  rcases i with _ | _ | _ | _ | _ | _ | _ | _ | _ | _ | _ | _ | _ | _ | _ | _ | _ | i
  ·
   obtain rfl : _ = o := Option.some.inj ho
   rcases hI with ⟨hw12, hw13, hw16, hfr, hsh⟩ | ⟨hw12, hw13, hw16, v7012, hfr, hsh⟩ | ⟨hw12, hw13, hw16, v7012, v7013, hfr, hsh⟩ | ⟨hw12, hw13, hw16, v7012, v7013, hfr, hsh⟩
   ·
    exact sq hfr hfr.fr0 hsh (r_move rfl rfl) 0 rfl rfl rfl rfl rfl rfl fun a hg => Or.inl (⟨un rfl hw12, un rfl hw13, un rfl hw16, hg, hsh⟩)
   ·
    exact sq hfr hfr.fr0 hsh (r_move rfl rfl) 0 rfl rfl rfl rfl rfl rfl fun a hg => Or.inr (Or.inl (⟨un rfl hw12, un rfl hw13, un rfl hw16, v7012, hg, hsh⟩))
   ·
    exact sq hfr hfr.fr0 hsh (r_move rfl rfl) 0 rfl rfl rfl rfl rfl rfl fun a hg => Or.inr (Or.inr (Or.inl (⟨un rfl hw12, un rfl hw13, un rfl hw16, v7012, v7013, hg, hsh⟩)))
   ·
    exact no_way (cA hcl 16 0 rfl hw16) hSi
  ·
   obtain rfl : _ = o := Option.some.inj ho
   rcases hI with ⟨hw12, hw13, hw16, hfr, hsh⟩ | ⟨hw12, hw13, hw16, v7012, hfr, hsh⟩ | ⟨hw12, hw13, hw16, v7012, v7013, hfr, hsh⟩ | ⟨hw12, hw13, hw16, v7012, v7013, hfr, hsh⟩
   ·
    exact sq hfr hfr.fr0 hsh (r_move rfl rfl) 1 rfl rfl rfl rfl rfl rfl fun a hg => Or.inl (⟨un rfl hw12, un rfl hw13, un rfl hw16, hg, hsh⟩)
   ·
    exact sq hfr hfr.fr0 hsh (r_move rfl rfl) 1 rfl rfl rfl rfl rfl rfl fun a hg => Or.inr (Or.inl (⟨un rfl hw12, un rfl hw13, un rfl hw16, v7012, hg, hsh⟩))
   ·
    exact no_way (cA hcl 13 1 rfl hw13) hSi
   ·
    exact no_way (cA hcl 13 1 rfl hw13) hSi
  ·
   obtain rfl : _ = o := Option.some.inj ho
   have hd1 : S 1 = true := depAt hdep 0 rfl rfl
   rcases hI with ⟨hw12, hw13, hw16, hfr, hsh⟩ | ⟨hw12, hw13, hw16, v7012, hfr, hsh⟩ | ⟨hw12, hw13, hw16, v7012, v7013, hfr, hsh⟩ | ⟨hw12, hw13, hw16, v7012, v7013, hfr, hsh⟩
   ·
    exact sq hfr (Fr.cons hfr.fr0 (hfr.at_ 1 1 39 _ rfl hd1)) hsh (r_nil rfl rfl) 2 rfl rfl rfl rfl rfl rfl fun a hg => Or.inl (⟨un rfl hw12, un rfl hw13, un rfl hw16, hg, hsh⟩)
   ·
    exact sq hfr (Fr.cons hfr.fr0 (hfr.at_ 1 1 39 _ rfl hd1)) hsh (r_nil rfl rfl) 2 rfl rfl rfl rfl rfl rfl fun a hg => Or.inr (Or.inl (⟨un rfl hw12, un rfl hw13, un rfl hw16, v7012, hg, hsh⟩))
   ·
    exact no_way (cA hcl 13 2 rfl hw13) hSi
   ·
    exact no_way (cA hcl 13 2 rfl hw13) hSi
  ·
   obtain rfl : _ = o := Option.some.inj ho
   have hd2 : S 2 = true := depAt hdep 0 rfl rfl
   rcases hI with ⟨hw12, hw13, hw16, hfr, hsh⟩ | ⟨hw12, hw13, hw16, v7012, hfr, hsh⟩ | ⟨hw12, hw13, hw16, v7012, v7013, hfr, hsh⟩ | ⟨hw12, hw13, hw16, v7012, v7013, hfr, hsh⟩
   ·
    exact sq hfr (Fr.cons hfr.fr0 (hfr.at_ 2 2 40 _ rfl hd2)) hsh (r_fieldB (r := 3) fl_49_3 rfl rfl rfl) 3 rfl rfl rfl rfl rfl rfl fun a hg => Or.inl (⟨un rfl hw12, un rfl hw13, un rfl hw16, hg, hsh⟩)
   ·
    exact sq hfr (Fr.cons hfr.fr0 (hfr.at_ 2 2 40 _ rfl hd2)) hsh (r_fieldB (r := 3) fl_49_3 rfl rfl rfl) 3 rfl rfl rfl rfl rfl rfl fun a hg => Or.inr (Or.inl (⟨un rfl hw12, un rfl hw13, un rfl hw16, v7012, hg, hsh⟩))
   ·
    exact no_way (cA hcl 13 3 rfl hw13) hSi
   ·
    exact no_way (cA hcl 13 3 rfl hw13) hSi
  ·
   obtain rfl : _ = o := Option.some.inj ho
   have hd3 : S 3 = true := depAt hdep 0 rfl rfl
   rcases hI with ⟨hw12, hw13, hw16, hfr, hsh⟩ | ⟨hw12, hw13, hw16, v7012, hfr, hsh⟩ | ⟨hw12, hw13, hw16, v7012, v7013, hfr, hsh⟩ | ⟨hw12, hw13, hw16, v7012, v7013, hfr, hsh⟩
   ·
    exact sq hfr (Fr.cons hfr.fr0 (hfr.at_ 3 3 41 _ rfl hd3)) hsh (r_ldb (i := 1) ti_24 rfl rfl rfl rfl) 4 rfl rfl rfl rfl rfl rfl fun a hg => Or.inl (⟨un rfl hw12, un rfl hw13, un rfl hw16, hg, hsh⟩)
   ·
    exact sq hfr (Fr.cons hfr.fr0 (hfr.at_ 3 3 41 _ rfl hd3)) hsh (r_ldb (i := 2) ti_24 rfl rfl rfl rfl) 4 rfl rfl rfl rfl rfl rfl fun a hg => Or.inr (Or.inl (⟨un rfl hw12, un rfl hw13, un rfl hw16, v7012, hg, hsh⟩))
   ·
    exact no_way (cA hcl 13 4 rfl hw13) hSi
   ·
    exact no_way (cA hcl 13 4 rfl hw13) hSi
  ·
   obtain rfl : _ = o := Option.some.inj ho
   rcases hI with ⟨hw12, hw13, hw16, hfr, hsh⟩ | ⟨hw12, hw13, hw16, v7012, hfr, hsh⟩ | ⟨hw12, hw13, hw16, v7012, v7013, hfr, hsh⟩ | ⟨hw12, hw13, hw16, v7012, v7013, hfr, hsh⟩
   ·
    exact sq hfr hfr.fr0 hsh (r_move rfl rfl) 5 rfl rfl rfl rfl rfl rfl fun a hg => Or.inl (⟨un rfl hw12, un rfl hw13, un rfl hw16, hg, hsh⟩)
   ·
    exact no_way (cA hcl 12 5 rfl hw12) hSi
   ·
    exact no_way (cA hcl 12 5 rfl hw12) hSi
   ·
    exact no_way (cA hcl 12 5 rfl hw12) hSi
  ·
   obtain rfl : _ = o := Option.some.inj ho
   have hd5 : S 5 = true := depAt hdep 0 rfl rfl
   rcases hI with ⟨hw12, hw13, hw16, hfr, hsh⟩ | ⟨hw12, hw13, hw16, v7012, hfr, hsh⟩ | ⟨hw12, hw13, hw16, v7012, v7013, hfr, hsh⟩ | ⟨hw12, hw13, hw16, v7012, v7013, hfr, hsh⟩
   ·
    exact sq hfr (Fr.cons hfr.fr0 (hfr.at_ 5 5 43 _ rfl hd5)) hsh (r_nil rfl rfl) 6 rfl rfl rfl rfl rfl rfl fun a hg => Or.inl (⟨un rfl hw12, un rfl hw13, un rfl hw16, hg, hsh⟩)
   ·
    exact no_way (cA hcl 12 6 rfl hw12) hSi
   ·
    exact no_way (cA hcl 12 6 rfl hw12) hSi
   ·
    exact no_way (cA hcl 12 6 rfl hw12) hSi
  ·
   obtain rfl : _ = o := Option.some.inj ho
   have hd6 : S 6 = true := depAt hdep 0 rfl rfl
   rcases hI with ⟨hw12, hw13, hw16, hfr, hsh⟩ | ⟨hw12, hw13, hw16, v7012, hfr, hsh⟩ | ⟨hw12, hw13, hw16, v7012, v7013, hfr, hsh⟩ | ⟨hw12, hw13, hw16, v7012, v7013, hfr, hsh⟩
   ·
    exact sq hfr (Fr.cons hfr.fr0 (hfr.at_ 6 6 44 _ rfl hd6)) hsh (r_fieldB (r := 2) fl_49_2 rfl rfl rfl) 7 rfl rfl rfl rfl rfl rfl fun a hg => Or.inl (⟨un rfl hw12, un rfl hw13, un rfl hw16, hg, hsh⟩)
   ·
    exact no_way (cA hcl 12 7 rfl hw12) hSi
   ·
    exact no_way (cA hcl 12 7 rfl hw12) hSi
   ·
    exact no_way (cA hcl 12 7 rfl hw12) hSi
  ·
   obtain rfl : _ = o := Option.some.inj ho
   have hd7 : S 7 = true := depAt hdep 0 rfl rfl
   rcases hI with ⟨hw12, hw13, hw16, hfr, hsh⟩ | ⟨hw12, hw13, hw16, v7012, hfr, hsh⟩ | ⟨hw12, hw13, hw16, v7012, v7013, hfr, hsh⟩ | ⟨hw12, hw13, hw16, v7012, v7013, hfr, hsh⟩
   ·
    exact sq hfr (Fr.cons hfr.fr0 (hfr.at_ 7 7 45 _ rfl hd7)) hsh (r_ldb (i := 1) ti_24 rfl rfl rfl rfl) 8 rfl rfl rfl rfl rfl rfl fun a hg => Or.inl (⟨un rfl hw12, un rfl hw13, un rfl hw16, hg, hsh⟩)
   ·
    exact no_way (cA hcl 12 8 rfl hw12) hSi
   ·
    exact no_way (cA hcl 12 8 rfl hw12) hSi
   ·
    exact no_way (cA hcl 12 8 rfl hw12) hSi
  ·
   obtain rfl : _ = o := Option.some.inj ho
   rcases hI with ⟨hw12, hw13, hw16, hfr, hsh⟩ | ⟨hw12, hw13, hw16, v7012, hfr, hsh⟩ | ⟨hw12, hw13, hw16, v7012, v7013, hfr, hsh⟩ | ⟨hw12, hw13, hw16, v7012, v7013, hfr, hsh⟩
   ·
    exact sq hfr hfr.fr0 hsh (r_move rfl rfl) 9 rfl rfl rfl rfl rfl rfl fun a hg => Or.inl (⟨un rfl hw12, un rfl hw13, un rfl hw16, hg, hsh⟩)
   ·
    exact no_way (cA hcl 12 9 rfl hw12) hSi
   ·
    exact no_way (cA hcl 12 9 rfl hw12) hSi
   ·
    exact no_way (cA hcl 12 9 rfl hw12) hSi
  ·
   obtain rfl : _ = o := Option.some.inj ho
   have hd8 : S 8 = true := depAt hdep 0 rfl rfl
   have hd9 : S 9 = true := depAt hdep 1 rfl rfl
   rcases hI with ⟨hw12, hw13, hw16, hfr, hsh⟩ | ⟨hw12, hw13, hw16, v7012, hfr, hsh⟩ | ⟨hw12, hw13, hw16, v7012, v7013, hfr, hsh⟩ | ⟨hw12, hw13, hw16, v7012, v7013, hfr, hsh⟩
   ·
    exact sq hfr (Fr.cons (Fr.cons hfr.fr0 (hfr.at_ 8 8 46 _ rfl hd8)) (hfr.at_ 9 9 47 _ rfl hd9)) hsh (r_ixN (s := heads) (q := sumL s4.l) sl_24 ti_3 rfl rfl rfl (fun w h => (h.own 4 rfl)) (show sumL s4.l < heads.l.length from (by omega))) 10 rfl rfl rfl rfl rfl rfl fun a hg => Or.inl (⟨un rfl hw12, un rfl hw13, un rfl hw16, hg, hsh⟩)
   ·
    exact no_way (cA hcl 12 10 rfl hw12) hSi
   ·
    exact no_way (cA hcl 12 10 rfl hw12) hSi
   ·
    exact no_way (cA hcl 12 10 rfl hw12) hSi
  ·
   obtain rfl : _ = o := Option.some.inj ho
   have hd10 : S 10 = true := depAt hdep 0 rfl rfl
   rcases hI with ⟨hw12, hw13, hw16, hfr, hsh⟩ | ⟨hw12, hw13, hw16, v7012, hfr, hsh⟩ | ⟨hw12, hw13, hw16, v7012, v7013, hfr, hsh⟩ | ⟨hw12, hw13, hw16, v7012, v7013, hfr, hsh⟩
   ·
    exact sq hfr (Fr.cons hfr.fr0 (hfr.at_ 10 10 48 _ rfl hd10)) hsh (r_lde (s := heads) (i := sumL s4.l) (v := .int .i64 (nth heads.l (sumL s4.l))) ti_3 rfl rfl rfl (fun w h => (h.own 4 rfl)) (show sumL s4.l < heads.l.length from (by omega)) (Nat.le_of_ble_eq_true rfl) rfl) 11 rfl rfl rfl rfl rfl rfl fun a hg => Or.inl (⟨un rfl hw12, un rfl hw13, un rfl hw16, hg, hsh⟩)
   ·
    exact no_way (cA hcl 12 11 rfl hw12) hSi
   ·
    exact no_way (cA hcl 12 11 rfl hw12) hSi
   ·
    exact no_way (cA hcl 12 11 rfl hw12) hSi
  ·
   obtain rfl : _ = o := Option.some.inj ho
   have hd11 : S 11 = true := depAt hdep 0 rfl rfl
   rcases hI with ⟨hw12, hw13, hw16, hfr, hsh⟩ | ⟨hw12, hw13, hw16, v7012, hfr, hsh⟩ | ⟨hw12, hw13, hw16, v7012, v7013, hfr, hsh⟩ | ⟨hw12, hw13, hw16, v7012, v7013, hfr, hsh⟩
   ·
    have hs := St.mk (Fr.cons hfr.fr0 (hfr.at_ 11 11 49 _ rfl hd11)) hsh
    refine step_ex (x_lit (n := 1) (cs := [.int .i64 (nth heads.l (sumL s4.l))]) ([nth heads.l (sumL s4.l)] : List Int) hs sl_24 ti_3 rfl rfl rfl (by decide) rfl (by kernel_rfl) rfl (fun q hq w h => Flat.inner _ _) (fun q hq b hb => (Flat.on _ _ hb).elim) rfl rfl) (wanted_none rfl _) ?_
    rintro a73 w73 ⟨v73, h73⟩ ⟨v0, ht73⟩
    have hm73 : FrI 100 S [(0, .pointer (some ⟨gs, 0, none⟩)), (1, .pointer (some ⟨x.g, 0, none⟩)), (4, s4.v), (5, .int .i64 ((sumL s4.l : Nat) : Int)), (6, .int .i64 i), (19, .int .i64 i), (20, .bool (decide (0 ≤ i)))] [(0, 38, .pointer (some ⟨gs, 0, none⟩)), (1, 39, .pointer (some ⟨gs, 0, none⟩)), (2, 40, .pointer (some ⟨gs, 0, none⟩)), (3, 41, .pointer (some ⟨gs, 3, none⟩)), (4, 42, before.v), (5, 43, .pointer (some ⟨gs, 0, none⟩)), (6, 44, .pointer (some ⟨gs, 0, none⟩)), (7, 45, .pointer (some ⟨gs, 2, none⟩)), (8, 46, heads.v), (9, 47, .int .i64 ((sumL s4.l : Nat) : Int)), (10, 48, .pointer (some (padr heads.v 1 (sumL s4.l) 0))), (11, 49, .int .i64 (nth heads.l (sumL s4.l))), (12, 50, v73)] a := hfr.more (by
     intro k j d v hk hS
     rcases k with _ | _ | _ | _ | _ | _ | _ | _ | _ | _ | _ | _ | _ | k
     ·obtain ⟨rfl, rfl, rfl⟩ : _ = j ∧ _ = d ∧ _ = v := by simpa using hk
      exact hfr.at_ 0 _ _ _ rfl hS
     ·obtain ⟨rfl, rfl, rfl⟩ : _ = j ∧ _ = d ∧ _ = v := by simpa using hk
      exact hfr.at_ 1 _ _ _ rfl hS
     ·obtain ⟨rfl, rfl, rfl⟩ : _ = j ∧ _ = d ∧ _ = v := by simpa using hk
      exact hfr.at_ 2 _ _ _ rfl hS
     ·obtain ⟨rfl, rfl, rfl⟩ : _ = j ∧ _ = d ∧ _ = v := by simpa using hk
      exact hfr.at_ 3 _ _ _ rfl hS
     ·obtain ⟨rfl, rfl, rfl⟩ : _ = j ∧ _ = d ∧ _ = v := by simpa using hk
      exact hfr.at_ 4 _ _ _ rfl hS
     ·obtain ⟨rfl, rfl, rfl⟩ : _ = j ∧ _ = d ∧ _ = v := by simpa using hk
      exact hfr.at_ 5 _ _ _ rfl hS
     ·obtain ⟨rfl, rfl, rfl⟩ : _ = j ∧ _ = d ∧ _ = v := by simpa using hk
      exact hfr.at_ 6 _ _ _ rfl hS
     ·obtain ⟨rfl, rfl, rfl⟩ : _ = j ∧ _ = d ∧ _ = v := by simpa using hk
      exact hfr.at_ 7 _ _ _ rfl hS
     ·obtain ⟨rfl, rfl, rfl⟩ : _ = j ∧ _ = d ∧ _ = v := by simpa using hk
      exact hfr.at_ 8 _ _ _ rfl hS
     ·obtain ⟨rfl, rfl, rfl⟩ : _ = j ∧ _ = d ∧ _ = v := by simpa using hk
      exact hfr.at_ 9 _ _ _ rfl hS
     ·obtain ⟨rfl, rfl, rfl⟩ : _ = j ∧ _ = d ∧ _ = v := by simpa using hk
      exact hfr.at_ 10 _ _ _ rfl hS
     ·obtain ⟨rfl, rfl, rfl⟩ : _ = j ∧ _ = d ∧ _ = v := by simpa using hk
      exact hfr.at_ 11 _ _ _ rfl hS
     ·obtain ⟨rfl, rfl, rfl⟩ : _ = j ∧ _ = d ∧ _ = v := by simpa using hk
      exact no_way hS hSi
     · simp at hk)
    exact Or.inr (Or.inl (⟨upd_self _ _, un rfl hw13, un rfl hw16, v73, hm73.step ht73 h73.fr.defers (h73.fr.at_ 50 _ rfl) 12 rfl rfl rfl rfl, (h73.sh.sel (L' := [.own 3 (⟨v73, [nth heads.l (sumL s4.l)]⟩ : Ls Int), .own 3 s4, .blk gs 49 [states.v, keys.v, heads.v, before.v, ev, .bool full], .own 94 states, .deep 24 keys, .own 3 heads, .own 3 before, .rd1 x]) [0, 1, 2, 3, 4, 5, 6, 7] (by decide) ⟨rfl, rfl, rfl, rfl, rfl, rfl, rfl, rfl, trivial⟩)⟩))
   ·
    exact no_way hw12 hSi
   ·
    exact no_way hw12 hSi
   ·
    exact no_way hw12 hSi
  ·
   obtain rfl : _ = o := Option.some.inj ho
   have hd4 : S 4 = true := depAt hdep 0 rfl rfl
   have hd12 : S 12 = true := depAt hdep 1 rfl rfl
   rcases hI with ⟨hw12, hw13, hw16, hfr, hsh⟩ | ⟨hw12, hw13, hw16, v7012, hfr, hsh⟩ | ⟨hw12, hw13, hw16, v7012, v7013, hfr, hsh⟩ | ⟨hw12, hw13, hw16, v7012, v7013, hfr, hsh⟩
   ·
    exact no_way hd12 hw12
   ·
    have hs := St.mk (Fr.cons (Fr.cons hfr.fr0 (hfr.at_ 4 4 42 _ rfl hd4)) (hfr.at_ 12 12 50 _ rfl hd12)) hsh
    refine step_ex (x_app (r := 6) (rm := 0) (s := before) (m := (⟨v7012, [nth heads.l (sumL s4.l)]⟩ : Ls Int)) hs sl_24 ti_3 rfl rfl rfl rfl rfl rfl rfl (fun w h => (h.own 0 rfl)) (fun b hb => own_on (hs.sh.ok _ (List.mem_of_getElem? (i := 0) rfl)) hb) (fun q hq b hb => ⟨q, hq, hb⟩) rfl rfl rfl inferInstance (show (before.l.length + ([nth heads.l (sumL s4.l)]).length) * 8 ≤ 140737488355328 ∧ before.l.length + ([nth heads.l (sumL s4.l)]).length ≤ 140737488355328 from (by first | omega | (simp only [lens9]; omega))) rfl rfl) (wanted_none rfl _) ?_
    rintro a74 w74 ⟨v74, h74⟩ ⟨v0, ht74⟩
    have hm74 : FrI 100 S [(0, .pointer (some ⟨gs, 0, none⟩)), (1, .pointer (some ⟨x.g, 0, none⟩)), (4, s4.v), (5, .int .i64 ((sumL s4.l : Nat) : Int)), (6, .int .i64 i), (19, .int .i64 i), (20, .bool (decide (0 ≤ i)))] [(0, 38, .pointer (some ⟨gs, 0, none⟩)), (1, 39, .pointer (some ⟨gs, 0, none⟩)), (2, 40, .pointer (some ⟨gs, 0, none⟩)), (3, 41, .pointer (some ⟨gs, 3, none⟩)), (4, 42, before.v), (5, 43, .pointer (some ⟨gs, 0, none⟩)), (6, 44, .pointer (some ⟨gs, 0, none⟩)), (7, 45, .pointer (some ⟨gs, 2, none⟩)), (8, 46, heads.v), (9, 47, .int .i64 ((sumL s4.l : Nat) : Int)), (10, 48, .pointer (some (padr heads.v 1 (sumL s4.l) 0))), (11, 49, .int .i64 (nth heads.l (sumL s4.l))), (12, 50, v7012), (13, 51, v74), (14, 52, .pointer (some ⟨gs, 0, none⟩)), (15, 53, .pointer (some ⟨gs, 3, none⟩))] a := hfr.more (by
     intro k j d v hk hS
     rcases k with _ | _ | _ | _ | _ | _ | _ | _ | _ | _ | _ | _ | _ | _ | _ | _ | k
     ·obtain ⟨rfl, rfl, rfl⟩ : _ = j ∧ _ = d ∧ _ = v := by simpa using hk
      exact hfr.at_ 0 _ _ _ rfl hS
     ·obtain ⟨rfl, rfl, rfl⟩ : _ = j ∧ _ = d ∧ _ = v := by simpa using hk
      exact hfr.at_ 1 _ _ _ rfl hS
     ·obtain ⟨rfl, rfl, rfl⟩ : _ = j ∧ _ = d ∧ _ = v := by simpa using hk
      exact hfr.at_ 2 _ _ _ rfl hS
     ·obtain ⟨rfl, rfl, rfl⟩ : _ = j ∧ _ = d ∧ _ = v := by simpa using hk
      exact hfr.at_ 3 _ _ _ rfl hS
     ·obtain ⟨rfl, rfl, rfl⟩ : _ = j ∧ _ = d ∧ _ = v := by simpa using hk
      exact hfr.at_ 4 _ _ _ rfl hS
     ·obtain ⟨rfl, rfl, rfl⟩ : _ = j ∧ _ = d ∧ _ = v := by simpa using hk
      exact hfr.at_ 5 _ _ _ rfl hS
     ·obtain ⟨rfl, rfl, rfl⟩ : _ = j ∧ _ = d ∧ _ = v := by simpa using hk
      exact hfr.at_ 6 _ _ _ rfl hS
     ·obtain ⟨rfl, rfl, rfl⟩ : _ = j ∧ _ = d ∧ _ = v := by simpa using hk
      exact hfr.at_ 7 _ _ _ rfl hS
     ·obtain ⟨rfl, rfl, rfl⟩ : _ = j ∧ _ = d ∧ _ = v := by simpa using hk
      exact hfr.at_ 8 _ _ _ rfl hS
     ·obtain ⟨rfl, rfl, rfl⟩ : _ = j ∧ _ = d ∧ _ = v := by simpa using hk
      exact hfr.at_ 9 _ _ _ rfl hS
     ·obtain ⟨rfl, rfl, rfl⟩ : _ = j ∧ _ = d ∧ _ = v := by simpa using hk
      exact hfr.at_ 10 _ _ _ rfl hS
     ·obtain ⟨rfl, rfl, rfl⟩ : _ = j ∧ _ = d ∧ _ = v := by simpa using hk
      exact hfr.at_ 11 _ _ _ rfl hS
     ·obtain ⟨rfl, rfl, rfl⟩ : _ = j ∧ _ = d ∧ _ = v := by simpa using hk
      exact hfr.at_ 12 _ _ _ rfl hS
     ·obtain ⟨rfl, rfl, rfl⟩ : _ = j ∧ _ = d ∧ _ = v := by simpa using hk
      exact no_way hS hSi
     ·obtain ⟨rfl, rfl, rfl⟩ : _ = j ∧ _ = d ∧ _ = v := by simpa using hk
      exact no_way (cA hcl 14 13 rfl hS) hSi
     ·obtain ⟨rfl, rfl, rfl⟩ : _ = j ∧ _ = d ∧ _ = v := by simpa using hk
      exact no_way (cA hcl 15 13 rfl hS) hSi
     · simp at hk)
    exact Or.inr (Or.inr (Or.inl (⟨un rfl hw12, upd_self _ _, un rfl hw16, v7012, v74, hm74.step ht74 h74.fr.defers (h74.fr.at_ 51 _ rfl) 13 rfl rfl rfl rfl, (h74.sh.sel (L' := [.own 3 (⟨v7012, [nth heads.l (sumL s4.l)]⟩ : Ls Int), .own 3 s4, .blk gs 49 [states.v, keys.v, heads.v, before.v, ev, .bool full], .own 94 states, .deep 24 keys, .own 3 heads, .own 3 (⟨v74, before.l ++ ([nth heads.l (sumL s4.l)])⟩ : Ls Int), .rd1 x]) [0, 1, 2, 3, 4, 5, 6, 7] (by decide) ⟨rfl, rfl, rfl, rfl, rfl, rfl, rfl, rfl, trivial⟩)⟩)))
   ·
    exact no_way hw13 hSi
   ·
    exact no_way hw13 hSi
  ·
   obtain rfl : _ = o := Option.some.inj ho
   have hd0 : S 0 = true := depAt hdep 0 rfl rfl
   have hd12 : S 12 = true := depAt hdep 13 rfl rfl
   have hd13 : S 13 = true := depAt hdep 14 rfl rfl
   rcases hI with ⟨hw12, hw13, hw16, hfr, hsh⟩ | ⟨hw12, hw13, hw16, v7012, hfr, hsh⟩ | ⟨hw12, hw13, hw16, v7012, v7013, hfr, hsh⟩ | ⟨hw12, hw13, hw16, v7012, v7013, hfr, hsh⟩
   ·
    exact no_way hd12 hw12
   ·
    exact no_way hd13 hw13
   ·
    exact sq hfr (Fr.cons hfr.fr0 (hfr.at_ 0 0 38 _ rfl hd0)) hsh (r_nil rfl rfl) 14 rfl rfl rfl rfl rfl rfl fun a hg => Or.inr (Or.inr (Or.inl (⟨un rfl hw12, un rfl hw13, un rfl hw16, v7012, v7013, hg, hsh⟩)))
   ·
    exact no_way (cA hcl 16 14 rfl hw16) hSi
  ·
   obtain rfl : _ = o := Option.some.inj ho
   have hd14 : S 14 = true := depAt hdep 0 rfl rfl
   have hd12 : S 12 = true := depAt hdep 13 rfl rfl
   have hd13 : S 13 = true := depAt hdep 14 rfl rfl
   rcases hI with ⟨hw12, hw13, hw16, hfr, hsh⟩ | ⟨hw12, hw13, hw16, v7012, hfr, hsh⟩ | ⟨hw12, hw13, hw16, v7012, v7013, hfr, hsh⟩ | ⟨hw12, hw13, hw16, v7012, v7013, hfr, hsh⟩
   ·
    exact no_way hd12 hw12
   ·
    exact no_way hd13 hw13
   ·
    exact sq hfr (Fr.cons hfr.fr0 (hfr.at_ 14 14 52 _ rfl hd14)) hsh (r_fieldB (r := 3) fl_49_3 rfl rfl rfl) 15 rfl rfl rfl rfl rfl rfl fun a hg => Or.inr (Or.inr (Or.inl (⟨un rfl hw12, un rfl hw13, un rfl hw16, v7012, v7013, hg, hsh⟩)))
   ·
    exact no_way (cA hcl 16 15 rfl hw16) hSi
  ·
   obtain rfl : _ = o := Option.some.inj ho
   have hd15 : S 15 = true := depAt hdep 0 rfl rfl
   have hd13 : S 13 = true := depAt hdep 1 rfl rfl
   have hd12 : S 12 = true := depAt hdep 15 rfl rfl
   rcases hI with ⟨hw12, hw13, hw16, hfr, hsh⟩ | ⟨hw12, hw13, hw16, v7012, hfr, hsh⟩ | ⟨hw12, hw13, hw16, v7012, v7013, hfr, hsh⟩ | ⟨hw12, hw13, hw16, v7012, v7013, hfr, hsh⟩
   ·
    exact no_way hd12 hw12
   ·
    exact no_way hd13 hw13
   ·
    have hs := St.mk (Fr.cons (Fr.cons hfr.fr0 (hfr.at_ 13 13 51 _ rfl hd13)) (hfr.at_ 15 15 53 _ rfl hd15)) hsh
    refine step_ex (x_stb (i := 2) (vs := [v7013]) (cs' := [states.v, keys.v, heads.v, v7013, ev, .bool full]) hs ti_24 rfl rfl rfl rfl rfl (cells_oneL ((hs.sh.own 6 rfl)).one) rfl (allOne_cons ((hs.sh.own 6 rfl)).one allOne_nil) (Nat.le_of_ble_eq_true rfl) rfl) (wanted_none rfl _) ?_
    rintro a77 w77 h77 ⟨v0, ht77⟩
    have hm77 : FrI 100 S [(0, .pointer (some ⟨gs, 0, none⟩)), (1, .pointer (some ⟨x.g, 0, none⟩)), (4, s4.v), (5, .int .i64 ((sumL s4.l : Nat) : Int)), (6, .int .i64 i), (19, .int .i64 i), (20, .bool (decide (0 ≤ i)))] [(0, 38, .pointer (some ⟨gs, 0, none⟩)), (1, 39, .pointer (some ⟨gs, 0, none⟩)), (2, 40, .pointer (some ⟨gs, 0, none⟩)), (3, 41, .pointer (some ⟨gs, 3, none⟩)), (4, 42, before.v), (5, 43, .pointer (some ⟨gs, 0, none⟩)), (6, 44, .pointer (some ⟨gs, 0, none⟩)), (7, 45, .pointer (some ⟨gs, 2, none⟩)), (8, 46, heads.v), (9, 47, .int .i64 ((sumL s4.l : Nat) : Int)), (10, 48, .pointer (some (padr heads.v 1 (sumL s4.l) 0))), (11, 49, .int .i64 (nth heads.l (sumL s4.l))), (12, 50, v7012), (13, 51, v7013), (14, 52, .pointer (some ⟨gs, 0, none⟩)), (15, 53, .pointer (some ⟨gs, 3, none⟩))] a := hfr.more (by
     intro k j d v hk hS
     rcases k with _ | _ | _ | _ | _ | _ | _ | _ | _ | _ | _ | _ | _ | _ | _ | _ | k
     ·obtain ⟨rfl, rfl, rfl⟩ : _ = j ∧ _ = d ∧ _ = v := by simpa using hk
      exact hfr.at_ 0 _ _ _ rfl hS
     ·obtain ⟨rfl, rfl, rfl⟩ : _ = j ∧ _ = d ∧ _ = v := by simpa using hk
      exact hfr.at_ 1 _ _ _ rfl hS
     ·obtain ⟨rfl, rfl, rfl⟩ : _ = j ∧ _ = d ∧ _ = v := by simpa using hk
      exact hfr.at_ 2 _ _ _ rfl hS
     ·obtain ⟨rfl, rfl, rfl⟩ : _ = j ∧ _ = d ∧ _ = v := by simpa using hk
      exact hfr.at_ 3 _ _ _ rfl hS
     ·obtain ⟨rfl, rfl, rfl⟩ : _ = j ∧ _ = d ∧ _ = v := by simpa using hk
      exact hfr.at_ 4 _ _ _ rfl hS
     ·obtain ⟨rfl, rfl, rfl⟩ : _ = j ∧ _ = d ∧ _ = v := by simpa using hk
      exact hfr.at_ 5 _ _ _ rfl hS
     ·obtain ⟨rfl, rfl, rfl⟩ : _ = j ∧ _ = d ∧ _ = v := by simpa using hk
      exact hfr.at_ 6 _ _ _ rfl hS
     ·obtain ⟨rfl, rfl, rfl⟩ : _ = j ∧ _ = d ∧ _ = v := by simpa using hk
      exact hfr.at_ 7 _ _ _ rfl hS
     ·obtain ⟨rfl, rfl, rfl⟩ : _ = j ∧ _ = d ∧ _ = v := by simpa using hk
      exact hfr.at_ 8 _ _ _ rfl hS
     ·obtain ⟨rfl, rfl, rfl⟩ : _ = j ∧ _ = d ∧ _ = v := by simpa using hk
      exact hfr.at_ 9 _ _ _ rfl hS
     ·obtain ⟨rfl, rfl, rfl⟩ : _ = j ∧ _ = d ∧ _ = v := by simpa using hk
      exact hfr.at_ 10 _ _ _ rfl hS
     ·obtain ⟨rfl, rfl, rfl⟩ : _ = j ∧ _ = d ∧ _ = v := by simpa using hk
      exact hfr.at_ 11 _ _ _ rfl hS
     ·obtain ⟨rfl, rfl, rfl⟩ : _ = j ∧ _ = d ∧ _ = v := by simpa using hk
      exact hfr.at_ 12 _ _ _ rfl hS
     ·obtain ⟨rfl, rfl, rfl⟩ : _ = j ∧ _ = d ∧ _ = v := by simpa using hk
      exact hfr.at_ 13 _ _ _ rfl hS
     ·obtain ⟨rfl, rfl, rfl⟩ : _ = j ∧ _ = d ∧ _ = v := by simpa using hk
      exact hfr.at_ 14 _ _ _ rfl hS
     ·obtain ⟨rfl, rfl, rfl⟩ : _ = j ∧ _ = d ∧ _ = v := by simpa using hk
      exact hfr.at_ 15 _ _ _ rfl hS
     · simp at hk)
    exact Or.inr (Or.inr (Or.inr (⟨un rfl hw12, un rfl hw13, upd_self _ _, v7012, v7013, hm77.none ht77 h77.fr.defers rfl, (h77.sh.sel (L' := [.own 3 (⟨v7012, [nth heads.l (sumL s4.l)]⟩ : Ls Int), .own 3 s4, .blk gs 49 [states.v, keys.v, heads.v, v7013, ev, .bool full], .own 94 states, .deep 24 keys, .own 3 heads, .own 3 (⟨v7013, before.l ++ ([nth heads.l (sumL s4.l)])⟩ : Ls Int), .rd1 x]) [0, 1, 2, 3, 4, 5, 6, 7] (by decide) ⟨rfl, rfl, rfl, rfl, rfl, rfl, rfl, rfl, trivial⟩)⟩)))
   ·
    exact no_way hw16 hSi
  · simp at ho
 intro S hall a w hI
 clear h53
 rcases hI with ⟨hw12, hw13, hw16, hfr, hsh⟩ | ⟨hw12, hw13, hw16, v7012, hfr, hsh⟩ | ⟨hw12, hw13, hw16, v7012, v7013, hfr, hsh⟩ | ⟨hw12, hw13, hw16, v7012, v7013, hfr, hsh⟩
 · exact no_way (hall 12 (by decide)) hw12
 · exact no_way (hall 13 (by decide)) hw13
 · exact no_way (hall 16 (by decide)) hw16
 have h78 : St 100 K W a w _ [.own 3 (⟨v7012, [nth heads.l (sumL s4.l)]⟩ : Ls Int), .own 3 s4, .blk gs 49 [states.v, keys.v, heads.v, v7013, ev, .bool full], .own 94 states, .deep 24 keys, .own 3 heads, .own 3 (⟨v7013, before.l ++ ([nth heads.l (sumL s4.l)])⟩ : Ls Int), .rd1 x] := ⟨hfr.fr0, hsh⟩
 clear hall hfr hsh hw12 hw13 hw16
 refine hK52 _ _ ?_
 refine wp_seq_k fun K79 hK79 => ?_
 refine x_tail 11 [] (by kernel_rfl) (by kernel_rfl) h78 fun Z80 hZ80 => ?_
 have hq80 := h78.fr
 refine wq_val hq80 (r_move rfl rfl) (wanted_none rfl _) rfl rfl fun a81 hq81 => ?_; clear hq80
 refine wq_val hq81 (r_nil rfl rfl) (wanted_none rfl _) rfl rfl fun a82 hq82 => ?_; clear hq81
 refine wq_val hq82 (r_fieldB (r := 2) fl_49_2 rfl rfl rfl) (wanted_none rfl _) rfl rfl fun a83 hq83 => ?_; clear hq82
 refine wq_val hq83 (r_ldb (i := 2) ti_24 rfl rfl rfl rfl) (wanted_none rfl _) rfl rfl fun a84 hq84 => ?_; clear hq83
 refine wq_val hq84 (r_move rfl rfl) (wanted_none rfl _) rfl rfl fun a85 hq85 => ?_; clear hq84
 refine wq_val hq85 (r_move rfl rfl) (wanted_none rfl _) rfl rfl fun a86 hq86 => ?_; clear hq85
 refine wq_val hq86 (r_nil rfl rfl) (wanted_none rfl _) rfl rfl fun a87 hq87 => ?_; clear hq86
 refine wq_val hq87 (r_fieldB (r := 0) fl_49_0 rfl rfl rfl) (wanted_none rfl _) rfl rfl fun a88 hq88 => ?_; clear hq87
 refine wq_val hq88 (r_ldb (i := 2) ti_45 rfl rfl rfl rfl) (wanted_none rfl _) rfl rfl fun a89 hq89 => ?_; clear hq88
 have hl90 : states.l.length ≤ 140737488355328 := (h78.sh.own 3 rfl).len
 refine wq_val hq89 (r_len (s := states) (n := states.l.length) sl_45 rfl rfl (fun w h => (h.own 3 rfl)) rfl) (wanted_none rfl _) rfl rfl fun a91 hq91 => ?_; clear hq89
 refine wq_val hq91 (r_ixN (s := heads) (q := sumL s4.l) sl_24 ti_3 rfl rfl rfl (fun w h => (h.own 5 rfl)) (show sumL s4.l < heads.l.length from (by omega))) (wanted_none rfl _) rfl rfl fun a92 hq92 => ?_; clear hq91
 refine wpQuiet_nil (hZ80 _ fun w93 hw93 => ?_)
 have h93 : St 100 K W a92 w93 _ _ := ⟨hq92, hw93⟩
 clear hq92 hw93 h78
 refine wl_ex (x_ste (r := 5) (i := sumL s4.l) (j := 0) (x' := (((states.l.length : Nat) : Int) : Int)) h93 ti_3 rfl rfl rfl rfl rfl (show sumL s4.l < heads.l.length from (by omega)) (Nat.le_of_ble_eq_true rfl) rfl rfl rfl (by intro q hq; obtain rfl : q = 0 := (by omega); rfl) (fun w h => Flat.inner _ _) (fun b hb => (Flat.on _ _ hb).elim)) (wanted_none rfl _) ?_
 rintro a94 w94 h94
 clear h93
 refine wpList_nil (hK79 _ _ ?_)
 refine wp_seq_k fun K95 hK95 => wp_region_lit ?_
 refine wms 2 h94 rfl fun a96 h96 => ?_; clear h94
 refine wv h96 (r_nil rfl rfl) rfl rfl fun a97 h97 => ?_; clear h96
 refine wv h97 (r_fieldB (r := 0) fl_49_0 rfl rfl rfl) rfl rfl fun a98 h98 => ?_; clear h97
 refine wv h98 (r_ldb (i := 2) ti_45 rfl rfl rfl rfl) rfl rfl fun a99 h99 => ?_; clear h98
 refine wms 1 h99 rfl fun a100 h100 => ?_; clear h99
 refine wl_ex (x_lit (n := 1) (cs := [.pointer (some ⟨x.g, 0, none⟩)]) ([x] : List SD) h100 sl_45 ti_94 rfl rfl rfl (by decide) rfl (by kernel_rfl) rfl (fun q hq w h => by obtain rfl : q = 0 := (by simpa using hq); exact h.ok _ (List.mem_of_getElem? (i := 7) rfl)) (fun q hq b hb => by obtain rfl : q = 0 := (by simpa using hq); exact ⟨_, List.mem_of_getElem? (i := 7) rfl, hb⟩) rfl rfl) (wanted_none rfl _) ?_
 rintro a101 w101 ⟨v101, h101⟩; clear h100
 refine wl_ex (x_app (r := 4) (rm := 0) (s := states) (m := (⟨v101, [x]⟩ : Ls SD)) h101 sl_45 ti_94 rfl rfl rfl rfl rfl rfl rfl (fun w h => (h.own 0 rfl)) (fun b hb => own_on (h101.sh.ok _ (List.mem_of_getElem? (i := 0) rfl)) hb) (fun q hq b hb => ⟨q, hq, hb⟩) rfl rfl rfl inferInstance (show (states.l.length + ([x]).length) * 8 ≤ 140737488355328 ∧ states.l.length + ([x]).length ≤ 140737488355328 from (by first | omega | (simp only [lens9]; omega))) rfl rfl) (wanted_none rfl _) ?_
 rintro a102 w102 ⟨v102, h102⟩; clear h101
 refine wv h102 (r_nil rfl rfl) rfl rfl fun a103 h103 => ?_; clear h102
 refine wv h103 (r_fieldB (r := 0) fl_49_0 rfl rfl rfl) rfl rfl fun a104 h104 => ?_; clear h103
 refine wl_ex (x_stb (i := 3) (vs := [v102]) (cs' := [v102, keys.v, heads.v, v7013, ev, .bool full]) h104 ti_45 rfl rfl rfl rfl rfl (cells_oneL ((h104.sh.own 4 rfl)).one) rfl (allOne_cons ((h104.sh.own 4 rfl)).one allOne_nil) (Nat.le_of_ble_eq_true rfl) rfl) (wanted_none rfl _) ?_
 rintro a105 w105 h105
 clear h104
 refine wpList_nil (hK95 _ _ ?_)
 have h106 : St 100 K W a105 w105 [(0, .pointer (some ⟨gs, 0, none⟩)), (4, s4.v)] [.own 94 (⟨v101, [x]⟩ : Ls SD), .own 3 (⟨v7012, [nth heads.l (sumL s4.l)]⟩ : Ls Int), .own 3 s4, .blk gs 49 [v102, keys.v, heads.v, v7013, ev, .bool full], .own 94 (⟨v102, states.l ++ ([x])⟩ : Ls SD), .deep 24 keys, .own 3 (⟨heads.v, heads.l.set (sumL s4.l) ((states.l.length : Nat) : Int)⟩ : Ls Int), .own 3 (⟨v7013, before.l ++ ([nth heads.l (sumL s4.l)])⟩ : Ls Int), .rd1 x] := h105.nrm ⟨rfl, rfl, trivial⟩ [0, 1, 2, 3, 4, 5, 6, 7, 8] (by decide) ⟨rfl, rfl, rfl, rfl, rfl, rfl, rfl, rfl, rfl, trivial⟩
 clear h105
 refine wp_seq_k fun K107 hK107 => wp_region_lit ?_
 refine wms 2 h106 rfl fun a108 h108 => ?_; clear h106
 refine wv h108 (r_nil rfl rfl) rfl rfl fun a109 h109 => ?_; clear h108
 refine wv h109 (r_fieldB (r := 1) fl_49_1 rfl rfl rfl) rfl rfl fun a110 h110 => ?_; clear h109
 refine wv h110 (r_ldb (i := 3) ti_46 rfl rfl rfl rfl) rfl rfl fun a111 h111 => ?_; clear h110
 refine wms 1 h111 rfl fun a112 h112 => ?_; clear h111
 have h113 := h112.sel (L' := [.own 3 s4, .own 94 (⟨v101, [x]⟩ : Ls SD), .own 3 (⟨v7012, [nth heads.l (sumL s4.l)]⟩ : Ls Int), .blk gs 49 [v102, keys.v, heads.v, v7013, ev, .bool full], .own 94 (⟨v102, states.l ++ ([x])⟩ : Ls SD), .deep 24 keys, .own 3 (⟨heads.v, heads.l.set (sumL s4.l) ((states.l.length : Nat) : Int)⟩ : Ls Int), .own 3 (⟨v7013, before.l ++ ([nth heads.l (sumL s4.l)])⟩ : Ls Int), .rd1 x]) [2, 0, 1, 3, 4, 5, 6, 7, 8] (by decide) ⟨rfl, rfl, rfl, rfl, rfl, rfl, rfl, rfl, rfl, trivial⟩
 refine wl_ex (x_litD (E := 0) (x := s4) h113 sl_46 ti_24 rfl rfl rfl ((h113.sh.own 0 rfl)) (fun b hb => (own_on (h113.sh.ok _ (List.mem_of_getElem? (i := 0) rfl)) hb).elim (fun h => h) (fun h => Flat.noRd h)) (fun b hb => Flat.noRd hb) rfl rfl) (wanted_none rfl _) ?_
 rintro a114 w114 ⟨v114, h114⟩; clear h113
 have h115 := h114.sel (L' := [.deep 24 keys, .deep 24 (⟨v114, [s4]⟩ : Ls (Ls Int)), .own 94 (⟨v101, [x]⟩ : Ls SD), .own 3 (⟨v7012, [nth heads.l (sumL s4.l)]⟩ : Ls Int), .blk gs 49 [v102, keys.v, heads.v, v7013, ev, .bool full], .own 94 (⟨v102, states.l ++ ([x])⟩ : Ls SD), .own 3 (⟨heads.v, heads.l.set (sumL s4.l) ((states.l.length : Nat) : Int)⟩ : Ls Int), .own 3 (⟨v7013, before.l ++ ([nth heads.l (sumL s4.l)])⟩ : Ls Int), .rd1 x]) [5, 0, 1, 2, 3, 4, 6, 7, 8] (by decide) ⟨rfl, rfl, rfl, rfl, rfl, rfl, rfl, rfl, rfl, trivial⟩
 refine wl_ex (x_appD (s := keys) (m := (⟨v114, [s4]⟩ : Ls (Ls Int))) h115 sl_46 ti_24 rfl rfl rfl rfl rfl rfl rfl inferInstance (show (keys.l.length + ([s4]).length) * 24 ≤ 140737488355328 ∧ keys.l.length + ([s4]).length ≤ 140737488355328 from (by first | omega | (simp only [lens9]; omega))) rfl rfl) (wanted_none rfl _) ?_
 rintro a116 w116 ⟨v116, h116⟩; clear h115
 refine wv h116 (r_nil rfl rfl) rfl rfl fun a117 h117 => ?_; clear h116
 refine wv h117 (r_fieldB (r := 1) fl_49_1 rfl rfl rfl) rfl rfl fun a118 h118 => ?_; clear h117
 refine wl_ex (x_stb (i := 3) (vs := [v116]) (cs' := [v102, v116, heads.v, v7013, ev, .bool full]) h118 ti_46 rfl rfl rfl rfl rfl (cells_oneL ((h118.sh.deep 0 rfl)).one) rfl (allOne_cons ((h118.sh.deep 0 rfl)).one allOne_nil) (Nat.le_of_ble_eq_true rfl) rfl) (wanted_none rfl _) ?_
 rintro a119 w119 h119
 clear h118
 refine wpList_nil (hK107 _ _ ?_)
 refine wp_region_lit ?_
 refine wms 2 h119 rfl fun a120 h120 => ?_; clear h119
 refine wv h120 (r_nil rfl rfl) rfl rfl fun a121 h121 => ?_; clear h120
 refine wv h121 (r_fieldB (r := 5) fl_49_5 rfl rfl rfl) rfl rfl fun a122 h122 => ?_; clear h121
 refine wv h122 (r_ldb (i := 3) ti_4 rfl rfl rfl rfl) rfl rfl fun a123 h123 => ?_; clear h122
 refine wms 1 h123 rfl fun a124 h124 => ?_; clear h123
 rcases Bool.eq_false_or_eq_true full with hb125 | hb125
 ·
  skip
  refine wl_skip h124 (wanted_no h124.fr rfl rfl rfl rfl hb125) rfl rfl fun a126 h126 => ?_; clear h124
  refine wl_skip h126 (wanted_no h126.fr rfl rfl rfl rfl hb125) rfl rfl fun a127 h127 => ?_; clear h126
  refine wl_skip h127 (wanted_no h127.fr rfl rfl rfl rfl hb125) rfl rfl fun a128 h128 => ?_; clear h127
  refine wl_skip h128 (wanted_no h128.fr rfl rfl rfl rfl hb125) rfl rfl fun a129 h129 => ?_; clear h128
  refine wl_skip h129 (wanted_no h129.fr rfl rfl rfl rfl hb125) rfl rfl fun a130 h130 => ?_; clear h129
  refine wl_skip h130 (wanted_no h130.fr rfl rfl rfl rfl hb125) rfl rfl fun a131 h131 => ?_; clear h130
  refine wv h131 (r_pickT rfl rfl hb125 rfl) rfl rfl fun a132 h132 => ?_; clear h131
  refine wv h132 (r_nil rfl rfl) rfl rfl fun a133 h133 => ?_; clear h132
  refine wv h133 (r_fieldB (r := 5) fl_49_5 rfl rfl rfl) rfl rfl fun a134 h134 => ?_; clear h133
  refine wl_ex (x_stb (i := 3) (vs := [.bool true]) (cs' := [v102, v116, heads.v, v7013, ev, .bool true]) h134 ti_4 rfl rfl rfl rfl rfl rfl rfl (allOne_cons rfl allOne_nil) (Nat.le_of_ble_eq_true rfl) rfl) (wanted_none rfl _) ?_
  rintro a135 w135 h135
  clear h134
  refine wpList_nil ?_
  try simp only [Exit.then, Exit.inBlock, if_true]
  refine x_end0 (fn := Try.f103) rfl h135 ?_
  refine ⟨rfl, ⟨v102, states.l ++ ([x])⟩, ⟨v116, keys.l ++ ([s4])⟩, ⟨heads.v, heads.l.set (sumL s4.l) ((states.l.length : Nat) : Int)⟩, ⟨v7013, before.l ++ ([nth heads.l (sumL s4.l)])⟩, true, ?_, (h135.sh.sel (L' := [.blk gs 49 [v102, v116, heads.v, v7013, ev, .bool true], .own 94 (⟨v102, states.l ++ ([x])⟩ : Ls SD), .deep 24 (⟨v116, keys.l ++ ([s4])⟩ : Ls (Ls Int)), .own 3 (⟨heads.v, heads.l.set (sumL s4.l) ((states.l.length : Nat) : Int)⟩ : Ls Int), .own 3 (⟨v7013, before.l ++ ([nth heads.l (sumL s4.l)])⟩ : Ls Int), .rd1 x]) [3, 4, 0, 5, 6, 7] (by decide) ⟨rfl, rfl, rfl, rfl, rfl, rfl, trivial⟩)⟩
  refine .inr ⟨fun j hj => ?_, rfl, ?_, ?_, ?_⟩
  · rw [← hml]; rcases Nat.lt_or_ge j mm with h9 | h9; (intro e9; have h8 := hls.none (by omega) j h9; rw [nth_map' _ _ _ hj, e9] at h8; exact h8 rfl); exact hno j h9 hj
  · rw [List.map_append, ← hml]; rfl
  · have h9 := hok.put s4.l; rw [List.length_map, ← hlen] at h9; rw [List.map_append]; exact h9
  · first | rfl | (rw [show full = true by assumption]; rfl) | (rw [show full = false by assumption]; simp)
 refine wl_val h124 (r_move rfl rfl) (wanted_yes h124.fr rfl rfl rfl rfl hb125) rfl rfl fun a136 h136 => ?_; clear h124
 refine wl_val h136 (r_nil rfl rfl) (wanted_yes h136.fr rfl rfl rfl rfl hb125) rfl rfl fun a137 h137 => ?_; clear h136
 refine wl_val h137 (r_fieldB (r := 0) fl_49_0 rfl rfl rfl) (wanted_yes h137.fr rfl rfl rfl rfl hb125) rfl rfl fun a138 h138 => ?_; clear h137
 refine wl_val h138 (r_ldb (i := 3) ti_45 rfl rfl rfl rfl) (wanted_yes h138.fr rfl rfl rfl rfl hb125) rfl rfl fun a139 h139 => ?_; clear h138
 refine wl_val h139 (r_len (s := (⟨v102, states.l ++ ([x])⟩ : Ls SD)) (n := (states.l ++ ([x])).length) sl_45 rfl rfl (fun w h => (h.own 4 rfl)) rfl) (wanted_yes h139.fr rfl rfl rfl rfl hb125) rfl rfl fun a140 h140 => ?_; clear h139
 refine wl_val h140 (r_gtrN (p := (states.l ++ ([x])).length) (q := 4000) rfl rfl rfl) (wanted_yes h140.fr rfl rfl rfl rfl hb125) rfl rfl fun a141 h141 => ?_; clear h140
 refine wv h141 (r_pickF rfl rfl hb125 rfl) rfl rfl fun a142 h142 => ?_; clear h141
 refine wv h142 (r_nil rfl rfl) rfl rfl fun a143 h143 => ?_; clear h142
 refine wv h143 (r_fieldB (r := 5) fl_49_5 rfl rfl rfl) rfl rfl fun a144 h144 => ?_; clear h143
 refine wl_ex (x_stb (i := 3) (vs := [.bool (decide (4000 < (states.l ++ ([x])).length))]) (cs' := [v102, v116, heads.v, v7013, ev, .bool (decide (4000 < (states.l ++ ([x])).length))]) h144 ti_4 rfl rfl rfl rfl rfl rfl rfl (allOne_cons rfl allOne_nil) (Nat.le_of_ble_eq_true rfl) rfl) (wanted_none rfl _) ?_
 rintro a145 w145 h145
 clear h144
 refine wpList_nil ?_
 try simp only [Exit.then, Exit.inBlock, if_true]
 refine x_end0 (fn := Try.f103) rfl h145 ?_
 refine ⟨rfl, ⟨v102, states.l ++ ([x])⟩, ⟨v116, keys.l ++ ([s4])⟩, ⟨heads.v, heads.l.set (sumL s4.l) ((states.l.length : Nat) : Int)⟩, ⟨v7013, before.l ++ ([nth heads.l (sumL s4.l)])⟩, decide (4000 < (states.l ++ ([x])).length), ?_, (h145.sh.sel (L' := [.blk gs 49 [v102, v116, heads.v, v7013, ev, .bool (decide (4000 < (states.l ++ ([x])).length))], .own 94 (⟨v102, states.l ++ ([x])⟩ : Ls SD), .deep 24 (⟨v116, keys.l ++ ([s4])⟩ : Ls (Ls Int)), .own 3 (⟨heads.v, heads.l.set (sumL s4.l) ((states.l.length : Nat) : Int)⟩ : Ls Int), .own 3 (⟨v7013, before.l ++ ([nth heads.l (sumL s4.l)])⟩ : Ls Int), .rd1 x]) [3, 4, 0, 5, 6, 7] (by decide) ⟨rfl, rfl, rfl, rfl, rfl, rfl, trivial⟩)⟩
 refine .inr ⟨fun j hj => ?_, rfl, ?_, ?_, ?_⟩
 · rw [← hml]; rcases Nat.lt_or_ge j mm with h9 | h9; (intro e9; have h8 := hls.none (by omega) j h9; rw [nth_map' _ _ _ hj, e9] at h8; exact h8 rfl); exact hno j h9 hj
 · rw [List.map_append, ← hml]; rfl
 · have h9 := hok.put s4.l; rw [List.length_map, ← hlen] at h9; rw [List.map_append]; exact h9
 · first | rfl | (rw [show full = true by assumption]; rfl) | (rw [show full = false by assumption]; simp)

set_option maxRecDepth 100000 in
set_option maxHeartbeats 4000000 in
theorem putO_c (K : Nat → Prop) (gs : Nat) (o : OutL) (ends : Ls OutL) (sv kv hv bv : Value) (full : Bool) (W : World) (hS : Sh K W W [.blk gs 49 [sv, kv, hv, bv, ends.v, .bool full], .own 56 ends, .at_ o.words, .at_ o.prints]) (hel : ends.l.length ≤ 100000000) :
    Rets Try.prog 105 [.pointer (some ⟨gs, 0, none⟩), .agg #[.int .i64 o.st, o.words.v, o.prints.v]] W (fun v w' => v = .tuple #[] ∧ ∃ ends' : Ls OutL, PutRel o ends.l ends'.l ∧ Sh K W w' [.blk gs 49 [sv, kv, hv, bv, ends'.v, .bool full], .own 56 ends', .at_ o.words, .at_ o.prints]) := by
 refine x_enter (N := 71) Try.func105 rfl Try.ntmps105 (Nat.le_of_ble_eq_true rfl) fun a1 hf1 => ?_
 have h1 : St 71 K W a1 W [(0, .pointer (some ⟨gs, 0, none⟩)), (1, .agg #[.int .i64 o.st, o.words.v, o.prints.v])] [.blk gs 49 [sv, kv, hv, bv, ends.v, .bool full], .own 56 ends, .at_ o.words, .at_ o.prints] := ⟨hf1.sub ⟨rfl, rfl, trivial⟩, hS⟩
 clear hf1
 refine wp_seq_k fun K2 hK2 => wp_region_lit ?_
 refine wl_ex (x_box (cs := [.int .i64 o.st, o.words.v, o.prints.v]) h1 rfl rfl rfl rfl rfl) (wanted_none rfl _) ?_
 rintro a3 w3 ⟨b3, h3⟩; clear h1
 refine wpList_nil (hK2 _ _ ?_)
 refine wp_seq_k fun K4 hK4 => wp_region_lit ?_
 refine wms 1 h3 rfl fun a5 h5 => ?_; clear h3
 refine wpList_nil (hK4 _ _ ?_)
 refine wp_seq_k fun K6 hK6 => wp_region_lit ?_
 refine wms 1 h5 rfl fun a7 h7 => ?_; clear h5
 refine wpList_nil (hK6 _ _ ?_)
 refine wp_seq_k fun K8 hK8 => ?_
 refine wp_seq_k fun K9 hK9 => wp_region_lit ?_
 refine wms 1 h7 rfl fun a10 h10 => ?_; clear h7
 refine wpList_nil (hK9 _ _ ?_)
 refine wp_block ?_
 have h12 := h10.nil (α := OutL) 56
 clear h10
 refine x_loop (fun m a w => ∃ (i : Nat) (dn : Bool) (ol : List OutL) (vo : Value), (i ≤ ends.l.length) ∧ (PutInv o ends.l i dn ol) ∧ St 71 K W a w [(0, .pointer (some ⟨gs, 0, none⟩)), (3, .pointer (some ⟨b3, 0, none⟩)), (4, vo), (5, .bool dn), (6, .int .i64 ((i : Nat) : Int))] [.blk b3 56 [.int .i64 o.st, o.words.v, o.prints.v], .blk gs 49 [sv, kv, hv, bv, ends.v, .bool full], .own 56 ends, .at_ o.words, .at_ o.prints, .own 56 (⟨vo, ol⟩ : Ls OutL)] ∧ m = ends.l.length - i) ⟨_, 0, false, [], _, (by omega), (.inl ⟨rfl, rfl, fun j hj => absurd hj (by omega)⟩), h12.nrm ⟨rfl, rfl, rfl, rfl, rfl, trivial⟩ [1, 2, 3, 4, 5, 0] (by decide) ⟨rfl, rfl, rfl, rfl, rfl, rfl, trivial⟩, rfl⟩ ?_
 clear h12
 rintro m11 a11 w11 ⟨i, dn, ol, vo, hi, hinv, h11, hm11⟩
 have hol := hinv.len (by omega)
 refine wp_seq_k fun K13 hK13 => ?_
 refine wp_seq_k fun K14 hK14 => wp_region_lit ?_
 refine wms 2 h11 rfl fun a15 h15 => ?_; clear h11
 refine wv h15 (r_nil rfl rfl) rfl rfl fun a16 h16 => ?_; clear h15
 refine wv h16 (r_fieldB (r := 4) fl_49_4 rfl rfl rfl) rfl rfl fun a17 h17 => ?_; clear h16
 refine wv h17 (r_ldb (i := 1) ti_47 rfl rfl rfl rfl) rfl rfl fun a18 h18 => ?_; clear h17
 have hl19 : ends.l.length ≤ 140737488355328 := (h18.sh.own 2 rfl).len
 refine wv h18 (r_len (s := ends) (n := ends.l.length) sl_47 rfl rfl (fun w h => (h.own 2 rfl)) rfl) rfl rfl fun a20 h20 => ?_; clear h18
 refine wv h20 (r_lssN (p := i) (q := ends.l.length) rfl rfl rfl) rfl rfl fun a21 h21 => ?_; clear h20
 refine wpList_nil (hK14 _ _ ?_)
 refine x_cond h21 rfl (fun hb22 => ?_) (fun hb22 => ?_)
 ·
  have hp22 : i < ends.l.length := of_decide_eq_true hb22
  refine wp_skip ?_
  refine hK13 _ _ ?_
  refine wp_seq_k fun K23 hK23 => ?_
  refine wp_block ?_
  refine wp_seq_k fun K24 hK24 => ?_
  refine x_quiet (by kernel_rfl) (by kernel_rfl) h21 fun Z25 hZ25 => ?_
  have hq25 := h21.fr
  refine wq_val hq25 (r_ldbw (i := 0) (vs := [.int .i64 o.st, o.words.v, o.prints.v]) ti_56 rfl rfl rfl rfl rfl) (wanted_none rfl _) rfl rfl fun a26 hq26 => ?_; clear hq25
  refine wq_val hq26 (r_move rfl rfl) (wanted_none rfl _) rfl rfl fun a27 hq27 => ?_; clear hq26
  refine wq_val hq27 (r_nil rfl rfl) (wanted_none rfl _) rfl rfl fun a28 hq28 => ?_; clear hq27
  refine wq_val hq28 (r_fieldB (r := 4) fl_49_4 rfl rfl rfl) (wanted_none rfl _) rfl rfl fun a29 hq29 => ?_; clear hq28
  refine wq_val hq29 (r_ldb (i := 1) ti_47 rfl rfl rfl rfl) (wanted_none rfl _) rfl rfl fun a30 hq30 => ?_; clear hq29
  refine wq_val hq30 (r_move rfl rfl) (wanted_none rfl _) rfl rfl fun a31 hq31 => ?_; clear hq30
  refine wq_val hq31 (r_ixN (s := ends) (q := i) sl_47 ti_56 rfl rfl rfl (fun w h => (h.own 2 rfl)) (show i < ends.l.length from (by omega))) (wanted_none rfl _) rfl rfl fun a32 hq32 => ?_; clear hq31
  refine wq_val hq32 (r_ldew (s := ends) (i := i) (vs := [.int .i64 ((nth ends.l i).st), ((nth ends.l i).words).v, ((nth ends.l i).prints).v]) ti_56 rfl rfl rfl (fun w h => (h.own 2 rfl)) (show i < ends.l.length from (by omega)) (Nat.le_of_ble_eq_true rfl) rfl) (wanted_none rfl _) rfl rfl fun a33 hq33 => ?_; clear hq32
  refine wq_call hq33 bd_75 rfl rfl rfl (wanted_none rfl _) rfl rfl (fun w h => (ahead_c o (nth ends.l i) _ (h.at 3 rfl) (h.at 4 rfl) ((h.own 2 rfl).inner i (show i < ends.l.length from (by omega))).1 ((h.own 2 rfl).inner i (show i < ends.l.length from (by omega))).2)) fun a34 hq34 => ?_; clear hq33
  refine wq_val hq34 (r_assign rfl rfl) (wanted_none rfl _) rfl rfl fun a35 hq35 => ?_; clear hq34
  refine wpQuiet_nil (hZ25 _ fun w36 hw36 => ?_)
  have h36 : St 71 K W a35 w36 _ _ := ⟨hq35, hw36⟩
  clear hq35 hw36 h21
  refine hK24 _ _ ?_
  refine wp_seq_k fun K37 hK37 => ?_
  refine x_quiet (by kernel_rfl) (by kernel_rfl) h36 fun Z38 hZ38 => ?_
  have hq38 := h36.fr
  refine wq_val hq38 (r_move rfl rfl) (wanted_none rfl _) rfl rfl fun a39 hq39 => ?_; clear hq38
  refine wq_val hq39 (r_nil rfl rfl) (wanted_none rfl _) rfl rfl fun a40 hq40 => ?_; clear hq39
  refine wq_val hq40 (r_fieldB (r := 4) fl_49_4 rfl rfl rfl) (wanted_none rfl _) rfl rfl fun a41 hq41 => ?_; clear hq40
  refine wq_val hq41 (r_ldb (i := 1) ti_47 rfl rfl rfl rfl) (wanted_none rfl _) rfl rfl fun a42 hq42 => ?_; clear hq41
  refine wq_val hq42 (r_move rfl rfl) (wanted_none rfl _) rfl rfl fun a43 hq43 => ?_; clear hq42
  refine wq_val hq43 (r_ixN (s := ends) (q := i) sl_47 ti_56 rfl rfl rfl (fun w h => (h.own 2 rfl)) (show i < ends.l.length from (by omega))) (wanted_none rfl _) rfl rfl fun a44 hq44 => ?_; clear hq43
  refine wq_val hq44 (r_ldew (s := ends) (i := i) (vs := [.int .i64 ((nth ends.l i).st), ((nth ends.l i).words).v, ((nth ends.l i).prints).v]) ti_56 rfl rfl rfl (fun w h => (h.own 2 rfl)) (show i < ends.l.length from (by omega)) (Nat.le_of_ble_eq_true rfl) rfl) (wanted_none rfl _) rfl rfl fun a45 hq45 => ?_; clear hq44
  refine wq_val hq45 (r_ldbw (i := 0) (vs := [.int .i64 o.st, o.words.v, o.prints.v]) ti_56 rfl rfl rfl rfl rfl) (wanted_none rfl _) rfl rfl fun a46 hq46 => ?_; clear hq45
  refine wq_call hq46 bd_75 rfl rfl rfl (wanted_none rfl _) rfl rfl (fun w h => (ahead_c (nth ends.l i) o _ ((h.own 2 rfl).inner i (show i < ends.l.length from (by omega))).1 ((h.own 2 rfl).inner i (show i < ends.l.length from (by omega))).2 (h.at 3 rfl) (h.at 4 rfl))) fun a47 hq47 => ?_; clear hq46
  refine wq_val hq47 (r_assign rfl rfl) (wanted_none rfl _) rfl rfl fun a48 hq48 => ?_; clear hq47
  refine wpQuiet_nil (hZ38 _ fun w49 hw49 => ?_)
  have h49 : St 71 K W a48 w49 _ _ := ⟨hq48, hw49⟩
  clear hq48 hw49 h36
  refine hK37 _ _ ?_
  have h50 : St 71 K W a48 w49 [(0, .pointer (some ⟨gs, 0, none⟩)), (3, .pointer (some ⟨b3, 0, none⟩)), (4, vo), (5, .bool dn), (6, .int .i64 ((i : Nat) : Int)), (7, .bool (aheadB (OutL.out o) (OutL.out (nth ends.l i)))), (8, .bool (aheadB (OutL.out (nth ends.l i)) (OutL.out o)))] [.blk b3 56 [.int .i64 o.st, o.words.v, o.prints.v], .blk gs 49 [sv, kv, hv, bv, ends.v, .bool full], .own 56 ends, .at_ o.words, .at_ o.prints, .own 56 (⟨vo, ol⟩ : Ls OutL)] := h49.nrm ⟨rfl, rfl, rfl, rfl, rfl, rfl, rfl, trivial⟩ [0, 1, 2, 3, 4, 5] (by decide) ⟨rfl, rfl, rfl, rfl, rfl, rfl, trivial⟩
  clear h49
  refine wp_seq_k fun K51 hK51 => ?_
  refine wp_seq_k fun K52 hK52 => wp_region_lit ?_
  refine wms 1 h50 rfl fun a53 h53 => ?_; clear h50
  refine wv h53 (r_not rfl rfl) rfl rfl fun a54 h54 => ?_; clear h53
  refine wms 1 h54 rfl fun a55 h55 => ?_; clear h54
  rcases Bool.eq_false_or_eq_true (!(aheadB (OutL.out o) (OutL.out (nth ends.l i)))) with hb56 | hb56
  ·
   have hn56 : aheadB (OutL.out o) (OutL.out (nth ends.l i)) = false := (Bool.not_eq_true' _).mp hb56
   refine wl_val h55 (r_move rfl rfl) (wanted_yes h55.fr rfl rfl rfl rfl hb56) rfl rfl fun a57 h57 => ?_; clear h55
   refine wl_val h57 (r_not rfl rfl) (wanted_yes h57.fr rfl rfl rfl rfl hb56) rfl rfl fun a58 h58 => ?_; clear h57
   refine wv h58 (r_pickT rfl rfl hb56 rfl) rfl rfl fun a59 h59 => ?_; clear h58
   refine wpList_nil (hK52 _ _ ?_)
   refine x_cond h59 rfl (fun hb60 => ?_) (fun hb60 => ?_)
   ·
    have hn60 : aheadB (OutL.out (nth ends.l i)) (OutL.out o) = false := (Bool.not_eq_true' _).mp hb60
    refine wp_ret ?_
    try simp only [Exit.then, Exit.inBlock]
    refine x_ret0 (fn := Try.f105) rfl h59 ?_
    refine ⟨rfl, ends, ?_, (h59.sh.sel (L' := [.blk gs 49 [sv, kv, hv, bv, ends.v, .bool full], .own 56 ends, .at_ o.words, .at_ o.prints]) [1, 2, 3, 4] (by decide) ⟨rfl, rfl, rfl, rfl, trivial⟩)⟩
    first | exact .inl ⟨⟨i, by omega, by assumption, by assumption⟩, rfl⟩ | exact PutInv.rel (by first | exact hinv | (rw [show dn = true by assumption] at hinv; exact hinv)) (by omega) | exact PutInv.rel0 (by first | exact hinv | (rw [show dn = false by assumption] at hinv; exact hinv)) (by omega)
   have hn60 : aheadB (OutL.out (nth ends.l i)) (OutL.out o) = true := (Bool.not_eq_false' _).mp hb60
   refine wp_skip ?_
   refine hK51 _ _ ?_
   refine wp_seq_k fun K61 hK61 => ?_
   refine wp_seq_k fun K62 hK62 => wp_region_lit ?_
   refine wms 2 h59 rfl fun a63 h63 => ?_; clear h59
   refine wl_skip h63 (wanted_no h63.fr rfl rfl rfl rfl hn56) rfl rfl fun a64 h64 => ?_; clear h63
   refine wl_skip h64 (wanted_no h64.fr rfl rfl rfl rfl hn56) rfl rfl fun a65 h65 => ?_; clear h64
   refine wv h65 (r_pickF rfl rfl hn56 rfl) rfl rfl fun a66 h66 => ?_; clear h65
   refine wpList_nil (hK62 _ _ ?_)
   refine x_condF h66 rfl rfl ?_
   refine wp_skip ?_
   refine hK61 _ _ ?_
   refine wp_region_lit ?_
   refine wms 2 h66 rfl fun a67 h67 => ?_; clear h66
   refine wv h67 (r_nil rfl rfl) rfl rfl fun a68 h68 => ?_; clear h67
   refine wv h68 (r_fieldB (r := 4) fl_49_4 rfl rfl rfl) rfl rfl fun a69 h69 => ?_; clear h68
   refine wv h69 (r_ldb (i := 1) ti_47 rfl rfl rfl rfl) rfl rfl fun a70 h70 => ?_; clear h69
   refine wms 1 h70 rfl fun a71 h71 => ?_; clear h70
   refine wv h71 (r_ixN (s := ends) (q := i) sl_47 ti_56 rfl rfl rfl (fun w h => (h.own 2 rfl)) (show i < ends.l.length from (by omega))) rfl rfl fun a72 h72 => ?_; clear h71
   refine wv h72 (r_ldew (s := ends) (i := i) (vs := [.int .i64 ((nth ends.l i).st), ((nth ends.l i).words).v, ((nth ends.l i).prints).v]) ti_56 rfl rfl rfl (fun w h => (h.own 2 rfl)) (show i < ends.l.length from (by omega)) (Nat.le_of_ble_eq_true rfl) rfl) rfl rfl fun a73 h73 => ?_; clear h72
   refine wl_ex (x_lit (n := 1) (cs := [.int .i64 ((nth ends.l i).st), ((nth ends.l i).words).v, ((nth ends.l i).prints).v]) ([nth ends.l i] : List OutL) h73 sl_47 ti_56 rfl rfl rfl (by decide) rfl (by kernel_rfl) rfl (fun q hq w h => by obtain rfl : q = 0 := (by simpa using hq); exact ⟨((h.own 2 rfl).inner i (show i < ends.l.length from (by omega))).1, ((h.own 2 rfl).inner i (show i < ends.l.length from (by omega))).2⟩) (fun q hq b hb => by obtain rfl : q = 0 := (by simpa using hq); rcases hb with hb | hb; exact ⟨_, List.mem_of_getElem? (i := 2) rfl, i, (show i < ends.l.length from (by omega)), .inl hb⟩; exact ⟨_, List.mem_of_getElem? (i := 2) rfl, i, (show i < ends.l.length from (by omega)), .inr hb⟩) rfl rfl) (wanted_none rfl _) ?_
   rintro a74 w74 ⟨v74, h74⟩; clear h73
   refine wl_ex (x_app (r := 6) (rm := 0) (s := (⟨vo, ol⟩ : Ls OutL)) (m := (⟨v74, [nth ends.l i]⟩ : Ls OutL)) h74 sl_47 ti_56 rfl rfl rfl rfl rfl rfl rfl (fun w h => (h.own 0 rfl)) (fun b hb => own_on (h74.sh.ok _ (List.mem_of_getElem? (i := 0) rfl)) hb) (fun q hq b hb => ⟨q, hq, hb⟩) rfl rfl rfl inferInstance (show (ol.length + ([nth ends.l i]).length) * 56 ≤ 140737488355328 ∧ ol.length + ([nth ends.l i]).length ≤ 140737488355328 from (by first | omega | (simp only [lens9]; omega))) rfl rfl) (wanted_none rfl _) ?_
   rintro a75 w75 ⟨v75, h75⟩; clear h74
   refine wms 1 h75 rfl fun a76 h76 => ?_; clear h75
   refine wpList_nil (hK23 _ _ ?_)
   have h77 : St 71 K W a76 w75 [(0, .pointer (some ⟨gs, 0, none⟩)), (3, .pointer (some ⟨b3, 0, none⟩)), (4, v75), (5, .bool dn), (6, .int .i64 ((i : Nat) : Int))] [.own 56 (⟨v74, [nth ends.l i]⟩ : Ls OutL), .blk b3 56 [.int .i64 o.st, o.words.v, o.prints.v], .blk gs 49 [sv, kv, hv, bv, ends.v, .bool full], .own 56 ends, .at_ o.words, .at_ o.prints, .own 56 (⟨v75, ol ++ ([nth ends.l i])⟩ : Ls OutL)] := h76.nrm ⟨rfl, rfl, rfl, rfl, rfl, trivial⟩ [0, 1, 2, 3, 4, 5, 6] (by decide) ⟨rfl, rfl, rfl, rfl, rfl, rfl, rfl, trivial⟩
   clear h76
   refine wp_region_lit ?_
   refine wms 1 h77 rfl fun a78 h78 => ?_; clear h77
   refine wv h78 (r_addN (p := i) (q := 1) rfl rfl rfl (show i + 1 < 9223372036854775808 from (by omega))) rfl rfl fun a79 h79 => ?_; clear h78
   refine wms 1 h79 rfl fun a80 h80 => ?_; clear h79
   refine wpList_nil ?_
   refine x_again ⟨_, ?_, i + 1, dn, ol ++ ([nth ends.l i]), v75, ?_, ?_, h80.nrm ⟨rfl, rfl, rfl, rfl, rfl, trivial⟩ [1, 2, 3, 4, 5, 6] (by decide) ⟨rfl, rfl, rfl, rfl, rfl, rfl, trivial⟩, rfl⟩
   · rw [hm11]; first | omega | (simp only [lens9]; omega)
   · omega
   · first | exact PutInv.one hinv (by omega) (by assumption) | exact PutInv.two hinv (by omega) (.inl (by assumption)) | exact PutInv.two hinv (by omega) (.inr ⟨by assumption, by assumption⟩) | (subst_vars; first | exact PutInv.one hinv (by omega) (by assumption) | exact PutInv.two hinv (by omega) (.inl rfl) | exact PutInv.two hinv (by omega) (.inr ⟨by assumption, by assumption⟩))
  have hn56 : aheadB (OutL.out o) (OutL.out (nth ends.l i)) = true := (Bool.not_eq_false' _).mp hb56
  refine wl_skip h55 (wanted_no h55.fr rfl rfl rfl rfl hb56) rfl rfl fun a81 h81 => ?_; clear h55
  refine wl_skip h81 (wanted_no h81.fr rfl rfl rfl rfl hb56) rfl rfl fun a82 h82 => ?_; clear h81
  refine wv h82 (r_pickF rfl rfl hb56 rfl) rfl rfl fun a83 h83 => ?_; clear h82
  refine wpList_nil (hK52 _ _ ?_)
  refine x_condF h83 rfl rfl ?_
  refine wp_skip ?_
  refine hK51 _ _ ?_
  refine wp_seq_k fun K84 hK84 => ?_
  refine wp_seq_k fun K85 hK85 => wp_region_lit ?_
  refine wms 2 h83 rfl fun a86 h86 => ?_; clear h83
  refine wl_val h86 (r_move rfl rfl) (wanted_yes h86.fr rfl rfl rfl rfl hn56) rfl rfl fun a87 h87 => ?_; clear h86
  refine wl_val h87 (r_not rfl rfl) (wanted_yes h87.fr rfl rfl rfl rfl hn56) rfl rfl fun a88 h88 => ?_; clear h87
  refine wv h88 (r_pickT rfl rfl hn56 rfl) rfl rfl fun a89 h89 => ?_; clear h88
  refine wpList_nil (hK85 _ _ ?_)
  refine x_cond h89 rfl (fun hb90 => ?_) (fun hb90 => ?_)
  ·
   have hn90 : dn = false := (Bool.not_eq_true' _).mp hb90
   refine wp_seq_k fun K91 hK91 => wp_region_lit ?_
   refine wms 1 h89 rfl fun a92 h92 => ?_; clear h89
   refine wv h92 (r_ldbw (i := 0) (vs := [.int .i64 o.st, o.words.v, o.prints.v]) ti_56 rfl rfl rfl rfl rfl) rfl rfl fun a93 h93 => ?_; clear h92
   refine wl_ex (x_lit (n := 1) (cs := [.int .i64 o.st, o.words.v, o.prints.v]) ([o] : List OutL) h93 sl_47 ti_56 rfl rfl rfl (by decide) rfl (by kernel_rfl) rfl (fun q hq w h => by obtain rfl : q = 0 := (by simpa using hq); exact ⟨(h.at 3 rfl), (h.at 4 rfl)⟩) (fun q hq b hb => by obtain rfl : q = 0 := (by simpa using hq); rcases hb with hb | hb; exact ⟨_, List.mem_of_getElem? (i := 3) rfl, hb⟩; exact ⟨_, List.mem_of_getElem? (i := 4) rfl, hb⟩) rfl rfl) (wanted_none rfl _) ?_
   rintro a94 w94 ⟨v94, h94⟩; clear h93
   refine wl_ex (x_app (r := 6) (rm := 0) (s := (⟨vo, ol⟩ : Ls OutL)) (m := (⟨v94, [o]⟩ : Ls OutL)) h94 sl_47 ti_56 rfl rfl rfl rfl rfl rfl rfl (fun w h => (h.own 0 rfl)) (fun b hb => own_on (h94.sh.ok _ (List.mem_of_getElem? (i := 0) rfl)) hb) (fun q hq b hb => ⟨q, hq, hb⟩) rfl rfl rfl inferInstance (show (ol.length + ([o]).length) * 56 ≤ 140737488355328 ∧ ol.length + ([o]).length ≤ 140737488355328 from (by first | omega | (simp only [lens9]; omega))) rfl rfl) (wanted_none rfl _) ?_
   rintro a95 w95 ⟨v95, h95⟩; clear h94
   refine wms 1 h95 rfl fun a96 h96 => ?_; clear h95
   refine wpList_nil (hK91 _ _ ?_)
   refine wp_region_lit ?_
   refine wms 1 h96 rfl fun a97 h97 => ?_; clear h96
   refine wpList_nil (hK84 _ _ ?_)
   refine wp_region_lit ?_
   refine wms 2 h97 rfl fun a98 h98 => ?_; clear h97
   refine wv h98 (r_nil rfl rfl) rfl rfl fun a99 h99 => ?_; clear h98
   refine wv h99 (r_fieldB (r := 4) fl_49_4 rfl rfl rfl) rfl rfl fun a100 h100 => ?_; clear h99
   refine wv h100 (r_ldb (i := 2) ti_47 rfl rfl rfl rfl) rfl rfl fun a101 h101 => ?_; clear h100
   refine wms 1 h101 rfl fun a102 h102 => ?_; clear h101
   refine wv h102 (r_ixN (s := ends) (q := i) sl_47 ti_56 rfl rfl rfl (fun w h => (h.own 3 rfl)) (show i < ends.l.length from (by omega))) rfl rfl fun a103 h103 => ?_; clear h102
   refine wv h103 (r_ldew (s := ends) (i := i) (vs := [.int .i64 ((nth ends.l i).st), ((nth ends.l i).words).v, ((nth ends.l i).prints).v]) ti_56 rfl rfl rfl (fun w h => (h.own 3 rfl)) (show i < ends.l.length from (by omega)) (Nat.le_of_ble_eq_true rfl) rfl) rfl rfl fun a104 h104 => ?_; clear h103
   refine wl_ex (x_lit (n := 1) (cs := [.int .i64 ((nth ends.l i).st), ((nth ends.l i).words).v, ((nth ends.l i).prints).v]) ([nth ends.l i] : List OutL) h104 sl_47 ti_56 rfl rfl rfl (by decide) rfl (by kernel_rfl) rfl (fun q hq w h => by obtain rfl : q = 0 := (by simpa using hq); exact ⟨((h.own 3 rfl).inner i (show i < ends.l.length from (by omega))).1, ((h.own 3 rfl).inner i (show i < ends.l.length from (by omega))).2⟩) (fun q hq b hb => by obtain rfl : q = 0 := (by simpa using hq); rcases hb with hb | hb; exact ⟨_, List.mem_of_getElem? (i := 3) rfl, i, (show i < ends.l.length from (by omega)), .inl hb⟩; exact ⟨_, List.mem_of_getElem? (i := 3) rfl, i, (show i < ends.l.length from (by omega)), .inr hb⟩) rfl rfl) (wanted_none rfl _) ?_
   rintro a105 w105 ⟨v105, h105⟩; clear h104
   refine wl_ex (x_app (r := 7) (rm := 0) (s := (⟨v95, ol ++ ([o])⟩ : Ls OutL)) (m := (⟨v105, [nth ends.l i]⟩ : Ls OutL)) h105 sl_47 ti_56 rfl rfl rfl rfl rfl rfl rfl (fun w h => (h.own 0 rfl)) (fun b hb => own_on (h105.sh.ok _ (List.mem_of_getElem? (i := 0) rfl)) hb) (fun q hq b hb => ⟨q, hq, hb⟩) rfl rfl rfl inferInstance (show ((ol ++ ([o])).length + ([nth ends.l i]).length) * 56 ≤ 140737488355328 ∧ (ol ++ ([o])).length + ([nth ends.l i]).length ≤ 140737488355328 from (by first | omega | (simp only [lens9]; omega))) rfl rfl) (wanted_none rfl _) ?_
   rintro a106 w106 ⟨v106, h106⟩; clear h105
   refine wms 1 h106 rfl fun a107 h107 => ?_; clear h106
   refine wpList_nil (hK23 _ _ ?_)
   have h108 : St 71 K W a107 w106 [(0, .pointer (some ⟨gs, 0, none⟩)), (3, .pointer (some ⟨b3, 0, none⟩)), (4, v106), (5, .bool true), (6, .int .i64 ((i : Nat) : Int))] [.own 56 (⟨v105, [nth ends.l i]⟩ : Ls OutL), .own 56 (⟨v94, [o]⟩ : Ls OutL), .blk b3 56 [.int .i64 o.st, o.words.v, o.prints.v], .blk gs 49 [sv, kv, hv, bv, ends.v, .bool full], .own 56 ends, .at_ o.words, .at_ o.prints, .own 56 (⟨v106, (ol ++ ([o])) ++ ([nth ends.l i])⟩ : Ls OutL)] := h107.nrm ⟨rfl, rfl, rfl, rfl, rfl, trivial⟩ [0, 1, 2, 3, 4, 5, 6, 7] (by decide) ⟨rfl, rfl, rfl, rfl, rfl, rfl, rfl, rfl, trivial⟩
   clear h107
   refine wp_region_lit ?_
   refine wms 1 h108 rfl fun a109 h109 => ?_; clear h108
   refine wv h109 (r_addN (p := i) (q := 1) rfl rfl rfl (show i + 1 < 9223372036854775808 from (by omega))) rfl rfl fun a110 h110 => ?_; clear h109
   refine wms 1 h110 rfl fun a111 h111 => ?_; clear h110
   refine wpList_nil ?_
   refine x_again ⟨_, ?_, i + 1, true, (ol ++ ([o])) ++ ([nth ends.l i]), v106, ?_, ?_, h111.nrm ⟨rfl, rfl, rfl, rfl, rfl, trivial⟩ [2, 3, 4, 5, 6, 7] (by decide) ⟨rfl, rfl, rfl, rfl, rfl, rfl, trivial⟩, rfl⟩
   · rw [hm11]; first | omega | (simp only [lens9]; omega)
   · omega
   · first | exact PutInv.one hinv (by omega) (by assumption) | exact PutInv.two hinv (by omega) (.inl (by assumption)) | exact PutInv.two hinv (by omega) (.inr ⟨by assumption, by assumption⟩) | (subst_vars; first | exact PutInv.one hinv (by omega) (by assumption) | exact PutInv.two hinv (by omega) (.inl rfl) | exact PutInv.two hinv (by omega) (.inr ⟨by assumption, by assumption⟩))
  have hn90 : dn = true := (Bool.not_eq_false' _).mp hb90
  refine wp_skip ?_
  refine hK84 _ _ ?_
  refine wp_region_lit ?_
  refine wms 2 h89 rfl fun a112 h112 => ?_; clear h89
  refine wv h112 (r_nil rfl rfl) rfl rfl fun a113 h113 => ?_; clear h112
  refine wv h113 (r_fieldB (r := 4) fl_49_4 rfl rfl rfl) rfl rfl fun a114 h114 => ?_; clear h113
  refine wv h114 (r_ldb (i := 1) ti_47 rfl rfl rfl rfl) rfl rfl fun a115 h115 => ?_; clear h114
  refine wms 1 h115 rfl fun a116 h116 => ?_; clear h115
  refine wv h116 (r_ixN (s := ends) (q := i) sl_47 ti_56 rfl rfl rfl (fun w h => (h.own 2 rfl)) (show i < ends.l.length from (by omega))) rfl rfl fun a117 h117 => ?_; clear h116
  refine wv h117 (r_ldew (s := ends) (i := i) (vs := [.int .i64 ((nth ends.l i).st), ((nth ends.l i).words).v, ((nth ends.l i).prints).v]) ti_56 rfl rfl rfl (fun w h => (h.own 2 rfl)) (show i < ends.l.length from (by omega)) (Nat.le_of_ble_eq_true rfl) rfl) rfl rfl fun a118 h118 => ?_; clear h117
  refine wl_ex (x_lit (n := 1) (cs := [.int .i64 ((nth ends.l i).st), ((nth ends.l i).words).v, ((nth ends.l i).prints).v]) ([nth ends.l i] : List OutL) h118 sl_47 ti_56 rfl rfl rfl (by decide) rfl (by kernel_rfl) rfl (fun q hq w h => by obtain rfl : q = 0 := (by simpa using hq); exact ⟨((h.own 2 rfl).inner i (show i < ends.l.length from (by omega))).1, ((h.own 2 rfl).inner i (show i < ends.l.length from (by omega))).2⟩) (fun q hq b hb => by obtain rfl : q = 0 := (by simpa using hq); rcases hb with hb | hb; exact ⟨_, List.mem_of_getElem? (i := 2) rfl, i, (show i < ends.l.length from (by omega)), .inl hb⟩; exact ⟨_, List.mem_of_getElem? (i := 2) rfl, i, (show i < ends.l.length from (by omega)), .inr hb⟩) rfl rfl) (wanted_none rfl _) ?_
  rintro a119 w119 ⟨v119, h119⟩; clear h118
  refine wl_ex (x_app (r := 6) (rm := 0) (s := (⟨vo, ol⟩ : Ls OutL)) (m := (⟨v119, [nth ends.l i]⟩ : Ls OutL)) h119 sl_47 ti_56 rfl rfl rfl rfl rfl rfl rfl (fun w h => (h.own 0 rfl)) (fun b hb => own_on (h119.sh.ok _ (List.mem_of_getElem? (i := 0) rfl)) hb) (fun q hq b hb => ⟨q, hq, hb⟩) rfl rfl rfl inferInstance (show (ol.length + ([nth ends.l i]).length) * 56 ≤ 140737488355328 ∧ ol.length + ([nth ends.l i]).length ≤ 140737488355328 from (by first | omega | (simp only [lens9]; omega))) rfl rfl) (wanted_none rfl _) ?_
  rintro a120 w120 ⟨v120, h120⟩; clear h119
  refine wms 1 h120 rfl fun a121 h121 => ?_; clear h120
  refine wpList_nil (hK23 _ _ ?_)
  have h122 : St 71 K W a121 w120 [(0, .pointer (some ⟨gs, 0, none⟩)), (3, .pointer (some ⟨b3, 0, none⟩)), (4, v120), (5, .bool dn), (6, .int .i64 ((i : Nat) : Int))] [.own 56 (⟨v119, [nth ends.l i]⟩ : Ls OutL), .blk b3 56 [.int .i64 o.st, o.words.v, o.prints.v], .blk gs 49 [sv, kv, hv, bv, ends.v, .bool full], .own 56 ends, .at_ o.words, .at_ o.prints, .own 56 (⟨v120, ol ++ ([nth ends.l i])⟩ : Ls OutL)] := h121.nrm ⟨rfl, rfl, rfl, rfl, rfl, trivial⟩ [0, 1, 2, 3, 4, 5, 6] (by decide) ⟨rfl, rfl, rfl, rfl, rfl, rfl, rfl, trivial⟩
  clear h121
  refine wp_region_lit ?_
  refine wms 1 h122 rfl fun a123 h123 => ?_; clear h122
  refine wv h123 (r_addN (p := i) (q := 1) rfl rfl rfl (show i + 1 < 9223372036854775808 from (by omega))) rfl rfl fun a124 h124 => ?_; clear h123
  refine wms 1 h124 rfl fun a125 h125 => ?_; clear h124
  refine wpList_nil ?_
  refine x_again ⟨_, ?_, i + 1, dn, ol ++ ([nth ends.l i]), v120, ?_, ?_, h125.nrm ⟨rfl, rfl, rfl, rfl, rfl, trivial⟩ [1, 2, 3, 4, 5, 6] (by decide) ⟨rfl, rfl, rfl, rfl, rfl, rfl, trivial⟩, rfl⟩
  · rw [hm11]; first | omega | (simp only [lens9]; omega)
  · omega
  · first | exact PutInv.one hinv (by omega) (by assumption) | exact PutInv.two hinv (by omega) (.inl (by assumption)) | exact PutInv.two hinv (by omega) (.inr ⟨by assumption, by assumption⟩) | (subst_vars; first | exact PutInv.one hinv (by omega) (by assumption) | exact PutInv.two hinv (by omega) (.inl rfl) | exact PutInv.two hinv (by omega) (.inr ⟨by assumption, by assumption⟩))
 have hp22 : ¬ (i < ends.l.length) := of_decide_eq_false hb22
 refine wp_exit ?_
 refine hK8 _ _ ?_
 refine wp_seq_k fun K126 hK126 => ?_
 refine wp_seq_k fun K127 hK127 => wp_region_lit ?_
 refine wms 1 h21 rfl fun a128 h128 => ?_; clear h21
 refine wv h128 (r_not rfl rfl) rfl rfl fun a129 h129 => ?_; clear h128
 refine wpList_nil (hK127 _ _ ?_)
 refine x_cond h129 rfl (fun hb130 => ?_) (fun hb130 => ?_)
 ·
  have hn130 : dn = false := (Bool.not_eq_true' _).mp hb130
  refine wp_region_lit ?_
  refine wms 1 h129 rfl fun a131 h131 => ?_; clear h129
  refine wv h131 (r_ldbw (i := 0) (vs := [.int .i64 o.st, o.words.v, o.prints.v]) ti_56 rfl rfl rfl rfl rfl) rfl rfl fun a132 h132 => ?_; clear h131
  refine wl_ex (x_lit (n := 1) (cs := [.int .i64 o.st, o.words.v, o.prints.v]) ([o] : List OutL) h132 sl_47 ti_56 rfl rfl rfl (by decide) rfl (by kernel_rfl) rfl (fun q hq w h => by obtain rfl : q = 0 := (by simpa using hq); exact ⟨(h.at 3 rfl), (h.at 4 rfl)⟩) (fun q hq b hb => by obtain rfl : q = 0 := (by simpa using hq); rcases hb with hb | hb; exact ⟨_, List.mem_of_getElem? (i := 3) rfl, hb⟩; exact ⟨_, List.mem_of_getElem? (i := 4) rfl, hb⟩) rfl rfl) (wanted_none rfl _) ?_
  rintro a133 w133 ⟨v133, h133⟩; clear h132
  refine wl_ex (x_app (r := 6) (rm := 0) (s := (⟨vo, ol⟩ : Ls OutL)) (m := (⟨v133, [o]⟩ : Ls OutL)) h133 sl_47 ti_56 rfl rfl rfl rfl rfl rfl rfl (fun w h => (h.own 0 rfl)) (fun b hb => own_on (h133.sh.ok _ (List.mem_of_getElem? (i := 0) rfl)) hb) (fun q hq b hb => ⟨q, hq, hb⟩) rfl rfl rfl inferInstance (show (ol.length + ([o]).length) * 56 ≤ 140737488355328 ∧ ol.length + ([o]).length ≤ 140737488355328 from (by first | omega | (simp only [lens9]; omega))) rfl rfl) (wanted_none rfl _) ?_
  rintro a134 w134 ⟨v134, h134⟩; clear h133
  refine wms 1 h134 rfl fun a135 h135 => ?_; clear h134
  refine wpList_nil (hK126 _ _ ?_)
  refine wp_region_lit ?_
  refine wms 2 h135 rfl fun a136 h136 => ?_; clear h135
  refine wv h136 (r_nil rfl rfl) rfl rfl fun a137 h137 => ?_; clear h136
  refine wv h137 (r_fieldB (r := 4) fl_49_4 rfl rfl rfl) rfl rfl fun a138 h138 => ?_; clear h137
  refine wl_ex (x_stb (i := 2) (vs := [v134]) (cs' := [sv, kv, hv, bv, v134, .bool full]) h138 ti_47 rfl rfl rfl rfl rfl (cells_oneL ((h138.sh.own 6 rfl)).one) rfl (allOne_cons ((h138.sh.own 6 rfl)).one allOne_nil) (Nat.le_of_ble_eq_true rfl) rfl) (wanted_none rfl _) ?_
  rintro a139 w139 h139
  clear h138
  refine wpList_nil ?_
  try simp only [Exit.then, Exit.inBlock, if_true]
  refine x_end0 (fn := Try.f105) rfl h139 ?_
  refine ⟨rfl, ⟨v134, ol ++ ([o])⟩, ?_, (h139.sh.sel (L' := [.blk gs 49 [sv, kv, hv, bv, v134, .bool full], .own 56 (⟨v134, ol ++ ([o])⟩ : Ls OutL), .at_ o.words, .at_ o.prints]) [2, 6, 4, 5] (by decide) ⟨rfl, rfl, rfl, rfl, trivial⟩)⟩
  first | exact .inl ⟨⟨i, by omega, by assumption, by assumption⟩, rfl⟩ | exact PutInv.rel (by first | exact hinv | (rw [show dn = true by assumption] at hinv; exact hinv)) (by omega) | exact PutInv.rel0 (by first | exact hinv | (rw [show dn = false by assumption] at hinv; exact hinv)) (by omega)
 have hn130 : dn = true := (Bool.not_eq_false' _).mp hb130
 refine wp_skip ?_
 refine hK126 _ _ ?_
 refine wp_region_lit ?_
 refine wms 2 h129 rfl fun a140 h140 => ?_; clear h129
 refine wv h140 (r_nil rfl rfl) rfl rfl fun a141 h141 => ?_; clear h140
 refine wv h141 (r_fieldB (r := 4) fl_49_4 rfl rfl rfl) rfl rfl fun a142 h142 => ?_; clear h141
 refine wl_ex (x_stb (i := 1) (vs := [vo]) (cs' := [sv, kv, hv, bv, vo, .bool full]) h142 ti_47 rfl rfl rfl rfl rfl (cells_oneL ((h142.sh.own 5 rfl)).one) rfl (allOne_cons ((h142.sh.own 5 rfl)).one allOne_nil) (Nat.le_of_ble_eq_true rfl) rfl) (wanted_none rfl _) ?_
 rintro a143 w143 h143
 clear h142
 refine wpList_nil ?_
 try simp only [Exit.then, Exit.inBlock, if_true]
 refine x_end0 (fn := Try.f105) rfl h143 ?_
 refine ⟨rfl, ⟨vo, ol⟩, ?_, (h143.sh.sel (L' := [.blk gs 49 [sv, kv, hv, bv, vo, .bool full], .own 56 (⟨vo, ol⟩ : Ls OutL), .at_ o.words, .at_ o.prints]) [1, 5, 3, 4] (by decide) ⟨rfl, rfl, rfl, rfl, trivial⟩)⟩
 first | exact .inl ⟨⟨i, by omega, by assumption, by assumption⟩, rfl⟩ | exact PutInv.rel (by first | exact hinv | (rw [show dn = true by assumption] at hinv; exact hinv)) (by omega) | exact PutInv.rel0 (by first | exact hinv | (rw [show dn = false by assumption] at hinv; exact hinv)) (by omega)

end Go.Proofs.Ytanhbpofhebbaaa
