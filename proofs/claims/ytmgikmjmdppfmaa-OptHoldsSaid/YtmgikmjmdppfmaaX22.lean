/-
  Contracts of functions of this program and of the references, each walked once.
-/
import Derived.Test.YtmgikmjmdppfmaaX21
namespace Go.Proofs.Ytmgikmjmdppfmaa
open Go.RowKit
set_option linter.unusedSimpArgs false
set_option linter.unusedVariables false
set_option maxRecDepth 100000
set_option maxHeartbeats 8000000


/-- The last of n keys with a sum. -/
def LastSum (ks : List (List Int)) (n h : Nat) (r : Int) : Prop := (r = -1 ∧ ∀ j, j < n → sumL (nth ks j) ≠ h) ∨ ∃ k : Nat, r = k ∧ k < n ∧ sumL (nth ks k) = h ∧ ∀ j, k < j → j < n → sumL (nth ks j) ≠ h
theorem LastSum.lt {ks : List (List Int)} {n h : Nat} {r : Int} (hl : LastSum ks n h r) : -1 ≤ r ∧ r < n := by
  rcases hl with ⟨h, _⟩ | ⟨k, h, h2, _⟩ <;> omega
theorem LastSum.at {ks : List (List Int)} {n h : Nat} {r : Int} (hl : LastSum ks n h r) (h0 : 0 ≤ r) : sumL (nth ks r.toNat) = h ∧ ∀ j, r.toNat < j → j < n → sumL (nth ks j) ≠ h := by
  rcases hl with ⟨h, _⟩ | ⟨k, rfl, h2, h3, h4⟩
  · omega
  · exact ⟨by simpa using h3, fun j hj => h4 j (by simpa using hj)⟩
theorem LastSum.none {ks : List (List Int)} {n h : Nat} {r : Int} (hl : LastSum ks n h r) (h0 : ¬ 0 ≤ r) : ∀ j, j < n → sumL (nth ks j) ≠ h := by
  rcases hl with ⟨_, h⟩ | ⟨k, rfl, _⟩
  · exact h
  · omega
structure HeadsOK (ks : List (List Int)) (heads before : List Int) : Prop where
  hl : heads.length = 4096
  bl : before.length = ks.length
  hd : ∀ h, h < 4096 → LastSum ks ks.length h (nth heads h)
  bf : ∀ i, i < ks.length → LastSum ks i (sumL (nth ks i)) (nth before i)
theorem nth_app0 {α : Type} [Inhabited α] (l m : List α) (k : Nat) : nth (l ++ m) k = if k < l.length then nth l k else nth m (k - l.length) := by
  simp only [nth, List.getD]
  by_cases h : k < l.length
  · rw [List.getElem?_append_left h, if_pos h]
  · rw [List.getElem?_append_right (by omega), if_neg h]
theorem LastSum.more {ks : List (List Int)} {n h : Nat} {r : Int} (x : List Int) (hl : LastSum ks n h r) (hn : n ≤ ks.length) : LastSum (ks ++ [x]) n h r := by
  have e : ∀ j, j < n → nth (ks ++ [x]) j = nth ks j := fun j hj => by rw [nth_app0, if_pos (by omega)]
  rcases hl with ⟨h1, h2⟩ | ⟨k, h1, h2, h3, h4⟩
  · exact .inl ⟨h1, fun j hj => by rw [e j hj]; exact h2 j hj⟩
  · exact .inr ⟨k, h1, h2, by rw [e k h2]; exact h3, fun j hj hj2 => by rw [e j hj2]; exact h4 j hj hj2⟩
theorem HeadsOK.put {ks : List (List Int)} {heads before : List Int} (h : HeadsOK ks heads before) (x : List Int) : HeadsOK (ks ++ [x]) (heads.set (sumL x) ((ks.length : Nat) : Int)) (before ++ [nth heads (sumL x)]) := by
  have hx : nth (ks ++ [x]) ks.length = x := by rw [nth_app0, if_neg (by omega)]; simp [nth]
  refine ⟨by simpa using h.hl, by simp [h.bl], fun s hs => ?_, fun i hi => ?_⟩
  · rw [nth_set]
    by_cases e : sumL x = s
    · rw [if_pos ⟨e, by rw [h.hl]; exact sumL_lt x⟩]
      exact .inr ⟨ks.length, rfl, by simp, by rw [hx]; exact e, fun j hj hj2 => by simp at hj2; omega⟩
    · rw [if_neg (fun hh => e hh.1)]
      rcases h.hd s hs with ⟨h1, h2⟩ | ⟨k, h1, h2, h3, h4⟩
      · refine .inl ⟨h1, fun j hj => ?_⟩
        simp at hj
        rcases Nat.lt_or_ge j ks.length with hlt | hge
        · rw [nth_app0, if_pos hlt]; exact h2 j hlt
        · obtain rfl : j = ks.length := by omega
          rw [hx]; exact e
      · refine .inr ⟨k, h1, by simp; omega, by rw [nth_app0, if_pos h2]; exact h3, fun j hj hj2 => ?_⟩
        simp at hj2
        rcases Nat.lt_or_ge j ks.length with hlt | hge
        · rw [nth_app0, if_pos hlt]; exact h4 j hj hlt
        · obtain rfl : j = ks.length := by omega
          rw [hx]; exact e
  · simp at hi
    rcases Nat.lt_or_ge i ks.length with hlt | hge
    · rw [nth_app0 ks, if_pos hlt, nth_app0 before, if_pos (by rw [h.bl]; exact hlt)]
      exact (h.bf i hlt).more x (by omega)
    · obtain rfl : i = ks.length := by omega
      rw [hx, nth_app0 before, if_neg (by rw [h.bl]; omega), h.bl]
      have := (h.hd (sumL x) (sumL_lt x)).more x (Nat.le_refl _)
      simpa [nth] using this
/-- Which outcomes are there when one more is put in. -/
def PutRel (o : OutL) (l l' : List OutL) : Prop := ((∃ i, i < l.length ∧ aheadB o.out (nth l i).out = false ∧ aheadB (nth l i).out o.out = false) ∧ l' = l) ∨
  ∃ k, k ≤ l.length ∧ (∀ j, j < k → aheadB o.out (nth l j).out = false ∧ aheadB (nth l j).out o.out = true) ∧ (k < l.length → aheadB o.out (nth l k).out = true) ∧ l' = l.take k ++ o :: l.drop k
def PutInv (o : OutL) (l : List OutL) (i : Nat) (dn : Bool) (ol : List OutL) : Prop := (dn = false ∧ ol = l.take i ∧ ∀ j, j < i → aheadB o.out (nth l j).out = false ∧ aheadB (nth l j).out o.out = true) ∨
  (dn = true ∧ ∃ k, k < i ∧ k < l.length ∧ (∀ j, j < k → aheadB o.out (nth l j).out = false ∧ aheadB (nth l j).out o.out = true) ∧ aheadB o.out (nth l k).out = true ∧ ol = l.take k ++ o :: (l.drop k).take (i - k))
theorem PutInv.one {o : OutL} {l ol : List OutL} {i : Nat} (h : PutInv o l i false ol) (hi : i < l.length) (h1 : aheadB o.out (nth l i).out = true) : PutInv o l (i + 1) true ((ol ++ [o]) ++ [nth l i]) := by
  rcases h with ⟨_, h2, h3⟩ | ⟨h, _⟩
  · refine .inr ⟨rfl, i, by omega, hi, h3, h1, ?_⟩
    have e1 : (l.drop i).take 1 = [nth l i] := by rw [List.drop_eq_getElem_cons hi, nth_lt l i hi]; rfl
    rw [h2, show i + 1 - i = 1 by omega, e1]
    simp
  · cases h
theorem PutInv.two {o : OutL} {l ol : List OutL} {i : Nat} {dn : Bool} (h : PutInv o l i dn ol) (hi : i < l.length) (h1 : dn = true ∨ (aheadB o.out (nth l i).out = false ∧ aheadB (nth l i).out o.out = true)) : PutInv o l (i + 1) dn (ol ++ [nth l i]) := by
  rcases h with ⟨h, h2, h3⟩ | ⟨h, k, h2, h3, h4, h5, h6⟩
  · refine .inl ⟨h, by rw [h2, take_succ_nth _ _ hi], fun j hj => ?_⟩
    rcases Nat.lt_or_ge j i with hlt | hge
    · exact h3 j hlt
    · obtain rfl : j = i := by omega
      rcases h1 with h1 | h1
      · rw [h] at h1; cases h1
      · exact h1
  · refine .inr ⟨h, k, by omega, h3, h4, h5, ?_⟩
    rw [h6, show i + 1 - k = (i - k) + 1 by omega, take_succ_nth _ _ (by simp; omega)]
    have : nth (l.drop k) (i - k) = nth l i := by simp only [nth, List.getD, List.getElem?_drop, show k + (i - k) = i by omega]
    rw [this]; simp
theorem PutInv.rel {o : OutL} {l ol : List OutL} {i : Nat} (h : PutInv o l i true ol) (hi : i = l.length) : PutRel o l ol := by
  rcases h with ⟨h, _⟩ | ⟨_, k, h2, h3, h4, h5, h6⟩
  · cases h
  · exact .inr ⟨k, by omega, h4, fun _ => h5, by rw [h6, List.take_of_length_le (l := l.drop k) (by rw [List.length_drop]; omega)]⟩
theorem PutInv.rel0 {o : OutL} {l ol : List OutL} {i : Nat} (h : PutInv o l i false ol) (hi : i = l.length) : PutRel o l (ol ++ [o]) := by
  rcases h with ⟨_, h2, h3⟩ | ⟨h, _⟩
  · subst hi
    exact .inr ⟨l.length, Nat.le_refl _, h3, fun h => absurd h (by omega), by rw [h2]; simp⟩
  · cases h
theorem PutInv.len {o : OutL} {l ol : List OutL} {i : Nat} {dn : Bool} (h : PutInv o l i dn ol) (hi : i ≤ l.length) : ol.length ≤ i + 1 := by
  rcases h with ⟨_, h2, _⟩ | ⟨_, k, h2, h3, _, _, h6⟩
  · rw [h2]; simp; omega
  · rw [h6]; simp; omega
/-- What a state is put in for. -/
def KeyRel (L : List Int) (x : SD) (states states' : List SD) (keys keys' : List (Ls Int)) (heads before heads' before' : List Int) (full full' : Bool) : Prop :=
  ((∃ j, j < keys.length ∧ (nth keys j).l = L) ∧ states' = states ∧ keys'.map (·.l) = keys.map (·.l) ∧ HeadsOK (keys'.map (·.l)) heads' before' ∧ full' = full) ∨
  ((∀ j, j < keys.length → (nth keys j).l ≠ L) ∧ states' = states ++ [x] ∧ keys'.map (·.l) = keys.map (·.l) ++ [L] ∧ HeadsOK (keys'.map (·.l)) heads' before' ∧ full' = (full || decide (4000 < states.length + 1)))

theorem put_c (K : Nat → Prop) (gs : Nat) (x : SD) (states : Ls SD) (keys : Ls (Ls Int)) (heads before : Ls Int) (ev : Value) (full : Bool) (cv pw : Value) (locks nregs mode : Int) (W : World) (hS : Sh K W W [.blk gs 42 [states.v, keys.v, heads.v, before.v, ev, .bool full], .own 104 states, .deep 23 keys, .own 3 heads, .own 3 before, .rd1 x]) (hok : HeadsOK (keys.l.map (·.l)) heads.l before.l) (hlen : states.l.length = keys.l.length) (hkl : keys.l.length ≤ 5000) (hhd : x.hd = [cv, pw, .int .i64 locks, .int .i64 nregs, .int .i64 mode]) (hE : x.E = 112) (hcl : x.thr.l.length ≤ 4) (hrg : ∀ i, i < x.thr.l.length → (nth x.thr.l i).regs.l.length ≤ 100000) (hwl : ∀ i, i < x.thr.l.length → (nth x.thr.l i).wait.l.length ≤ 3) (hwn : x.words.l.length ≤ 100000 ∧ x.owner.l.length ≤ 100000 ∧ x.prints.l.length ≤ 100000000) :
    Rets Try.prog 52 [.pointer (some ⟨gs, 0, none⟩), .pointer (some ⟨x.g, 0, none⟩)] W (fun v w' => v = .tuple #[] ∧ ∃ (states' : Ls SD) (keys' : Ls (Ls Int)) (heads' before' : Ls Int) (full' : Bool), KeyRel (numbersL (x.thr.l.map ThL.th) x.words.l x.owner.l x.prints.l) x states.l states'.l keys.l keys'.l heads.l before.l heads'.l before'.l full full' ∧ Sh K W w' [.blk gs 42 [states'.v, keys'.v, heads'.v, before'.v, ev, .bool full'], .own 104 states', .deep 23 keys', .own 3 heads', .own 3 before', .rd1 x]) := by
 have hbl : before.l.length = keys.l.length := by simpa using hok.bl
 have hhl : heads.l.length = 4096 := hok.hl
 have hslt := fun l => sumL_lt l
 refine gen Try.func52 Try.ntmps52 hS rfl fun a10 h10 => gG h10<|sK fun _ k11 => gRn (oM 1 rfl<|.nl)<|fun a13 w13 h13 => wl_ex (x_call h13 bd_65 rfl rfl rfl rfl rfl (numbers_c x.g x.thr x.words x.owner x.prints _ _ _ _ _ _ _ (by have h9 := (show Enc.inner x _ from (h13.sh.ok _ (List.mem_of_getElem? (i := 5) rfl))).1; rw [hE, SD.cells, hhd] at h9; exact h9) (show Enc.inner x _ from (h13.sh.ok _ (List.mem_of_getElem? (i := 5) rfl))).2.1 (show Enc.inner x _ from (h13.sh.ok _ (List.mem_of_getElem? (i := 5) rfl))).2.2.1 (show Enc.inner x _ from (h13.sh.ok _ (List.mem_of_getElem? (i := 5) rfl))).2.2.2.1 (show Enc.inner x _ from (h13.sh.ok _ (List.mem_of_getElem? (i := 5) rfl))).2.2.2.2 hcl hrg hwl hwn)) (wanted_none rfl _) ?_; clear h10
 rintro a14 w14 ⟨_, ⟨s14, rfl, hml14, hs14⟩, hf14⟩
 have hml := hml14
 have h14 : St _ K W a14 w14 _ _ := ⟨hf14, h13.sh.callI hs14⟩
 clear hf14 hs14
 clear h13
 refine gG h14<|gRn (oM 1 rfl<|.nl)<|nK k11<|sK fun _ k15 => gRn (oM 1 rfl<|.nl)<|gP (fun _ _ h_ => xCl h_ bd_66 rfl (sum_c s14 _ (h_.sh.own 0 rfl))) rfl<|gRn (oM 1 rfl<|.nl)<|nK k15<|?_; clear h14
 have hsl := sumL_lt s14.l
 refine gK fun _ k17 => sK fun _ k18 => gNl (aO 4 rfl) fun hl19 => gRn (oM 1 rfl<|onfl 1 fl_42_2 ti_23 rfl rfl<|oM 1 rfl<|oxN sl_23 ti_3 (aO 4 rfl) _ om9 rfl<|olI ti_3 (aO 4 rfl) om9 rfl<|oM 1 rfl<|.nl)<|nK k18<|gB<|fun a21 w21 h21 => x_loop (fun m a w => ∃ (i : Int) (mm : Nat), (LastSum (keys.l.map (·.l)) mm (sumL s14.l) i) ∧ (mm ≤ keys.l.length) ∧ (∀ j, mm ≤ j → j < keys.l.length → (nth keys.l j).l ≠ s14.l) ∧ St 100 K W a w [(0, .pointer (some ⟨gs, 0, none⟩)), (1, .pointer (some ⟨x.g, 0, none⟩)), (4, s14.v), (5, .int .i64 ((sumL s14.l : Nat) : Int)), (6, .int .i64 i)] [.own 3 s14, .blk gs 42 [states.v, keys.v, heads.v, before.v, ev, .bool full], .own 104 states, .deep 23 keys, .own 3 heads, .own 3 before, .rd1 x] ∧ m = (i + 1).toNat) ⟨_, _, keys.l.length, (by have := hok.hd _ (sumL_lt s14.l); simpa using this), (Nat.le_refl _), (fun j hj hj2 => absurd hj2 (by omega)), h21.nf ⟨rfl, rfl, rfl, rfl, rfl, trivial⟩, rfl⟩ ?_
 clear h21
 rintro m20 a20 w20 ⟨i, mm, hls, hm, hno, h20, hm20⟩
 have hlt := hls.lt
 refine gG h20<|gK fun _ k22 => sG (oM 1 rfl<|ogeI _ _ rfl<|.nl)<|?_; clear h20
 refine gcd rfl (fun hb24 hp24 => ?_) fun hb24 hp24 => ?_
 ·skip
  refine gS<|hK k22<|gK fun _ k25 => gB<|sK fun _ k26 => gNl (aD 3 rfl) fun hl27 => gRn (oM 1 rfl<|onfl 1 fl_42_1 ti_39 rfl rfl<|oM 1 rfl<|oxI sl_39 ti_23 (aD 3 rfl) om9 rfl<|olE ((nth keys.l i.toNat).v) ti_23 (aD 3 rfl) om9 rfl<|oM 1 rfl<|.nl)<|gP (fun _ _ h_ => xCl h_ bd_34 rfl (ints_c (nth keys.l i.toNat) s14 _ ((h_.sh.deep 3 rfl).nth i.toNat (show i.toNat < keys.l.length from (by omega))) (h_.sh.own 0 rfl))) rfl<|gRn (oM 1 rfl<|.nl)<|nK k26<|sG (oM 1 rfl<|.nl)<|gcd rfl (fun hb30 hp30 => ?_) fun hb30 hp30 => ?_
  ·skip
   refine gR<|uB<|uT<|uT<|uB<|uT<|fun a31 w31 h31 => x_ret0 (fn := Try.f52) rfl h31 <| ⟨rfl, states, keys, heads, before, full, ?_, (h31.sh.sel [1, 2, 3, 4, 5, 6] rfl)⟩
   exact .inl ⟨⟨i.toNat, by omega, by rw [← hml]; assumption⟩, rfl, rfl, hok, rfl⟩
  refine gS<|hK k25<|gL<|gNl (aO 5 rfl) fun hl32 => gRn (oM 1 rfl<|onfl 1 fl_42_3 ti_23 rfl rfl<|oM 1 rfl<|oxI sl_23 ti_3 (aO 5 rfl) om9 rfl<|olI ti_3 (aO 5 rfl) om9 rfl<|oM 1 rfl<|.nl)<|nN<|fun a33 w33 h33 => x_again ⟨_, ?_, _, i.toNat, ?_, ?_, ?_, h33.nf ⟨rfl, rfl, rfl, rfl, rfl, trivial⟩, rfl⟩
  · rw [hm20]; have h9 := (hok.bf i.toNat (by simp; omega)).lt; omega
  · have h9 := hok.bf i.toNat (by simp; omega); rw [(hls.at (by omega)).1] at h9; exact h9
  · omega
  · intro j hj hj2; rcases Nat.lt_or_ge j mm with h9 | h9; (rcases Nat.lt_or_ge i.toNat j with h8 | h8; (intro e9; have h7 := (hls.at (by omega)).2 j h8 h9; rw [nth_map' _ _ _ hj2, e9] at h7; exact h7 rfl); (obtain rfl : j = i.toNat := (by omega); assumption)); exact hno j h9 hj2
 refine gX<|hK k17<|gK fun _ k34 => rC [12, 13, 16] rfl<|pR [0, 1, 2, 3, 4, 5, 6, 7, 8, 9, 10, 11] rfl (oM 2 rfl<|onfl 1 fl_42_3 ti_23 rfl rfl<|oM 1 rfl<|onfl 1 fl_42_2 ti_23 rfl rfl<|oM 1 rfl<|oxN sl_23 ti_3 (aO 4 rfl) _ om9 rfl<|olI ti_3 (aO 4 rfl) om9 rfl<|.nl) rfl<|pX (fun _ _ h_ => x_lit (n := 1) (cs := [.int .i64 (nth heads.l (sumL s14.l))]) ([nth heads.l (sumL s14.l)] : List Int) h_ sl_23 ti_3 rfl rfl rfl (by decide) rfl (by kernel_rfl) rfl (fun q hq w h => Flat.inner _ _) (fun q hq b hb => (Flat.on _ _ hb).elim) rfl rfl) rfl fun v35 => pR [0, 1, 2, 3, 4] rfl (oM 2 rfl<|onfl 2 fl_42_3 ti_23 rfl rfl<|.nl) rfl<|pX (fun _ _ h_ => x_app (r := 6) (rm := 0) (s := before) (m := (⟨v35, [nth heads.l (sumL s14.l)]⟩ : Ls Int)) h_ sl_23 ti_3 rfl rfl rfl rfl rfl rfl rfl (fun w h => (h.own 0 rfl)) (fun b hb => own_on (h_.sh.ok _ (List.mem_of_getElem? (i := 0) rfl)) hb) (fun q hq b hb => ⟨q, hq, hb⟩) rfl rfl rfl inferInstance (show (before.l.length + ([nth heads.l (sumL s14.l)]).length) * 8 ≤ 140737488355328 ∧ before.l.length + ([nth heads.l (sumL s14.l)]).length ≤ 140737488355328 from om9) rfl rfl) rfl fun v36 => pR [0, 14, 15] rfl (oM 1 rfl<|onf fl_42_3 rfl<|.nl) rfl<|pS (fun _ _ h_ => x_stb (i := 2) (vs := [v36]) (cs' := [states.v, keys.v, heads.v, v36, ev, .bool full]) h_ ti_23 rfl rfl rfl rfl rfl (cells_oneL ((h_.sh.own 6 rfl)).one) rfl (allOne_cons ((h_.sh.own 6 rfl)).one allOne_nil) (Nat.le_of_ble_eq_true rfl) rfl) rfl<|pE [] rfl (.nl) rfl<|hK k34<|gK fun _ k38 => gNl (aO 3 rfl) fun hl39 => rT 11 [] (oM 1 rfl<|onfl 2 fl_42_2 ti_23 rfl rfl<|oM 2 rfl<|onfl 2 fl_42_0 ti_38 rfl rfl<|oln sl_38 (aO 3 rfl) rfl<|oxN sl_23 ti_3 (aO 5 rfl) _ om9 rfl<|.nl)<|gte 5 (((states.l.length : Nat) : Int) : Int) ti_3 om9 rfl rfl<|nK k38<|gF [0, 1, 4] rfl<|sK fun _ k41 => gRn (oM 2 rfl<|onfl 2 fl_42_0 ti_38 rfl rfl<|oM 1 rfl<|.nl)<|gE1 (fun _ _ h_ => x_lit (n := 1) (cs := [.pointer (some ⟨x.g, 0, none⟩)]) ([x] : List SD) h_ sl_38 ti_104 rfl rfl rfl (by decide) rfl (by kernel_rfl) rfl (fun q hq w h => by obtain rfl : q = 0 := (by simpa using hq); exact h.ok _ (List.mem_of_getElem? (i := 7) rfl)) (fun q hq b hb => by obtain rfl : q = 0 := (by simpa using hq); exact ⟨_, List.mem_of_getElem? (i := 7) rfl, hb⟩) rfl rfl) rfl fun v42 => gE1 (fun _ _ h_ => x_app (r := 4) (rm := 0) (s := states) (m := (⟨v42, [x]⟩ : Ls SD)) h_ sl_38 ti_104 rfl rfl rfl rfl rfl rfl rfl (fun w h => (h.own 0 rfl)) (fun b hb => own_on (h_.sh.ok _ (List.mem_of_getElem? (i := 0) rfl)) hb) (fun q hq b hb => ⟨q, hq, hb⟩) rfl rfl rfl inferInstance (show (states.l.length + ([x]).length) * 8 ≤ 140737488355328 ∧ states.l.length + ([x]).length ≤ 140737488355328 from om9) rfl rfl) rfl fun v43 => gRn (onf fl_42_0 rfl<|.nl)<|gsr 3 ti_38 rfl (aO 4 rfl) rfl<|nK k41<|sK fun _ k45 => gRn (oM 2 rfl<|onfl 3 fl_42_1 ti_39 rfl rfl<|oM 1 rfl<|.nl)<|gO [2, 0, 1, 3, 4, 5, 6, 7, 8] rfl<|gE1 (fun _ _ h_ => x_litD (E := 0) (x := s14) h_ sl_39 ti_23 rfl rfl rfl ((h_.sh.own 0 rfl)) (fun b hb => (own_on (h_.sh.ok _ (List.mem_of_getElem? (i := 0) rfl)) hb).elim (fun h => h) (fun h => Flat.noRd h)) (fun b hb => Flat.noRd hb) rfl rfl) rfl fun v47 => gO [5, 0, 1, 2, 3, 4, 6, 7, 8] rfl<|gE1 (fun _ _ h_ => x_appD (s := keys) (m := (⟨v47, [s14]⟩ : Ls (Ls Int))) h_ sl_39 ti_23 rfl rfl rfl rfl rfl rfl rfl inferInstance (show (keys.l.length + ([s14]).length) * 24 ≤ 140737488355328 ∧ keys.l.length + ([s14]).length ≤ 140737488355328 from om9) rfl rfl) rfl fun v49 => gRn (onf fl_42_1 rfl<|.nl)<|gsr 3 ti_39 rfl (aD 0 rfl) rfl<|nK k45<|gL<|gRn (oM 2 rfl<|onfl 3 fl_42_5 ti_4 rfl rfl<|oM 1 rfl<|.nl)<|?_
 rcases Bool.eq_false_or_eq_true full with hb51 | hb51
 ·skip
  refine gRn (oKs 6 hb51 rfl rfl<|opT hb51 rfl<|onf fl_42_5 rfl<|.nl)<|gst (v := .bool true) 3 ti_4 rfl rfl rfl<|nN<|fun a53 w53 h53 => ?_
  try simp only [Exit.then, Exit.inBlock, if_true]
  refine x_end0 (fn := Try.f52) rfl h53 <| ⟨rfl, ⟨v43, states.l ++ ([x])⟩, ⟨v49, keys.l ++ ([s14])⟩, ⟨heads.v, heads.l.set (sumL s14.l) ((states.l.length : Nat) : Int)⟩, ⟨v36, before.l ++ ([nth heads.l (sumL s14.l)])⟩, true, ?_, (h53.sh.sel [3, 4, 0, 5, 6, 7] rfl)⟩
  refine .inr ⟨fun j hj => ?_, rfl, ?_, ?_, ?_⟩
  · rw [← hml]; rcases Nat.lt_or_ge j mm with h9 | h9; (intro e9; have h8 := hls.none (by omega) j h9; rw [nth_map' _ _ _ hj, e9] at h8; exact h8 rfl); exact hno j h9 hj
  · rw [List.map_append, ← hml]; rfl
  · have h9 := hok.put s14.l; rw [List.length_map, ← hlen] at h9; rw [List.map_append]; exact h9
  · first | rfl | (rw [show full = true by assumption]; rfl) | (rw [show full = false by assumption]; simp)
 refine gRn (oG hb51 (r_move rfl rfl) rfl<|oG hb51 (r_nil rfl rfl) rfl<|oG hb51 (r_fieldB (r := 0) fl_42_0 rfl rfl rfl) rfl<|oG hb51 (r_ldb (i := 3) ti_38 rfl rfl rfl rfl) rfl<|oG hb51 (r_len (s := (⟨v43, states.l ++ ([x])⟩ : Ls SD)) (n := (states.l ++ ([x])).length) sl_38 rfl rfl (fun w h => (h.own 4 rfl)) rfl) rfl<|oG hb51 (r_gtrN (p := (states.l ++ ([x])).length) (q := 4000) rfl rfl rfl) rfl<|opF hb51 rfl<|onf fl_42_5 rfl<|.nl)<|gst 3 ti_4 rfl rfl rfl<|nN<|fun a55 w55 h55 => ?_
 try simp only [Exit.then, Exit.inBlock, if_true]
 refine x_end0 (fn := Try.f52) rfl h55 <| ⟨rfl, ⟨v43, states.l ++ ([x])⟩, ⟨v49, keys.l ++ ([s14])⟩, ⟨heads.v, heads.l.set (sumL s14.l) ((states.l.length : Nat) : Int)⟩, ⟨v36, before.l ++ ([nth heads.l (sumL s14.l)])⟩, decide (4000 < (states.l ++ ([x])).length), ?_, (h55.sh.sel [3, 4, 0, 5, 6, 7] rfl)⟩
 refine .inr ⟨fun j hj => ?_, rfl, ?_, ?_, ?_⟩
 · rw [← hml]; rcases Nat.lt_or_ge j mm with h9 | h9; (intro e9; have h8 := hls.none (by omega) j h9; rw [nth_map' _ _ _ hj, e9] at h8; exact h8 rfl); exact hno j h9 hj
 · rw [List.map_append, ← hml]; rfl
 · have h9 := hok.put s14.l; rw [List.length_map, ← hlen] at h9; rw [List.map_append]; exact h9
 · first | rfl | (rw [show full = true by assumption]; rfl) | (rw [show full = false by assumption]; simp)

theorem putO_c (K : Nat → Prop) (gs : Nat) (o : OutL) (ends : Ls OutL) (sv kv hv bv : Value) (full : Bool) (W : World) (hS : Sh K W W [.blk gs 42 [sv, kv, hv, bv, ends.v, .bool full], .own 77 ends, .at_ o.words, .at_ o.prints]) (hel : ends.l.length ≤ 100000000) :
    Rets Try.prog 55 [.pointer (some ⟨gs, 0, none⟩), .agg #[.int .i64 o.st, o.words.v, o.prints.v]] W (fun v w' => v = .tuple #[] ∧ ∃ ends' : Ls OutL, PutRel o ends.l ends'.l ∧ Sh K W w' [.blk gs 42 [sv, kv, hv, bv, ends'.v, .bool full], .own 77 ends', .at_ o.words, .at_ o.prints]) := by
 refine gen Try.func55 Try.ntmps55 hS rfl fun a10 h10 => gG h10<|sK fun _ k11 => gbx rfl rfl fun b12 => nK k11<|sG (oM 1 rfl<|.nl)<|sG (oM 1 rfl<|.nl)<|gK fun _ k15 => sG (oM 1 rfl<|.nl)<|gB<|fun a19 w19 h19 => ?_; clear h10
 have h18 := h19.nil (α := OutL) 77
 clear h19
 refine x_loop (fun m a w => ∃ (i : Nat) (dn : Bool) (ol : List OutL) (vo : Value), (i ≤ ends.l.length) ∧ (PutInv o ends.l i dn ol) ∧ St 71 K W a w [(0, .pointer (some ⟨gs, 0, none⟩)), (3, .pointer (some ⟨b12, 0, none⟩)), (4, vo), (5, .bool dn), (6, .int .i64 ((i : Nat) : Int))] [.blk b12 77 [.int .i64 o.st, o.words.v, o.prints.v], .blk gs 42 [sv, kv, hv, bv, ends.v, .bool full], .own 77 ends, .at_ o.words, .at_ o.prints, .own 77 (⟨vo, ol⟩ : Ls OutL)] ∧ m = ends.l.length - i) ⟨_, 0, false, [], _, (by omega), (.inl ⟨rfl, rfl, fun j hj => absurd hj (by omega)⟩), h18.nrm ⟨rfl, rfl, rfl, rfl, rfl, trivial⟩ [1, 2, 3, 4, 5, 0] rfl, rfl⟩ ?_
 clear h18
 rintro m17 a17 w17 ⟨i, dn, ol, vo, hi, hinv, h17, hm17⟩
 have hol := hinv.len (by omega)
 refine gG h17<|gK fun _ k20 => sK fun _ k21 => gNl (aO 2 rfl) fun hl22 => gRn (oM 2 rfl<|onfl 1 fl_42_4 ti_40 rfl rfl<|oln sl_40 (aO 2 rfl) rfl<|oltN _ _ rfl<|.nl)<|nK k21<|?_; clear h17
 refine gcd rfl (fun hb23 hp23 => ?_) fun hb23 hp23 => ?_
 ·skip
  refine gS<|hK k20<|gK fun _ k24 => gB<|gK fun _ k25 => fun a26 w26 h26 => x_quiet (by kernel_rfl) (by kernel_rfl) h26 fun _ z27 => qQ h26.fr<|qRn (olw 0 ti_77 rfl rfl<|oM 1 rfl<|onfl 1 fl_42_4 ti_40 rfl rfl<|oM 1 rfl<|oxN sl_40 ti_77 (aO 2 rfl) _ om9 rfl<|olw2 [.int .i64 ((nth ends.l i).st), ((nth ends.l i).words).v, ((nth ends.l i).prints).v] ti_77 (aO 2 rfl) om9 rfl<|.nl)<|qP bd_70 rfl (fun w h => (ahead_c o (nth ends.l i) _ (h.at 3 rfl) (h.at 4 rfl) ((h.own 2 rfl).inner i (show i < ends.l.length from (by omega))).1 ((h.own 2 rfl).inner i (show i < ends.l.length from (by omega))).2))<|qRn (oM 1 rfl<|.nl)<|qN z27<|hK k25<|gK fun _ k28 => fun a29 w29 h29 => x_quiet (by kernel_rfl) (by kernel_rfl) h29 fun _ z30 => qQ h29.fr<|qRn (oM 1 rfl<|onfl 1 fl_42_4 ti_40 rfl rfl<|oM 1 rfl<|oxN sl_40 ti_77 (aO 2 rfl) _ om9 rfl<|olw2 [.int .i64 ((nth ends.l i).st), ((nth ends.l i).words).v, ((nth ends.l i).prints).v] ti_77 (aO 2 rfl) om9 rfl<|olw 0 ti_77 rfl rfl<|.nl)<|qP bd_70 rfl (fun w h => (ahead_c (nth ends.l i) o _ ((h.own 2 rfl).inner i (show i < ends.l.length from (by omega))).1 ((h.own 2 rfl).inner i (show i < ends.l.length from (by omega))).2 (h.at 3 rfl) (h.at 4 rfl)))<|qRn (oM 1 rfl<|.nl)<|qN z30<|hK k28<|gF [0, 3, 4, 5, 6, 7, 8] rfl<|gK fun _ k31 => sK fun _ k32 => gRn (oM 1 rfl<|ont rfl<|oM 1 rfl<|.nl)<|?_; clear h26 h29
  rcases Bool.eq_false_or_eq_true (!(aheadB (OutL.out o) (OutL.out (nth ends.l i)))) with hb33 | hb33
  ·have hn33 : aheadB (OutL.out o) (OutL.out (nth ends.l i)) = false := (Bool.not_eq_true' _).mp hb33
   refine gRn (oG hb33 (r_move rfl rfl) rfl<|oG hb33 (r_not rfl rfl) rfl<|opT hb33 rfl<|.nl)<|nK k32<|gCb rfl (fun hb34 => ?_) fun hb34 => ?_
   ·have hn34 : aheadB (OutL.out (nth ends.l i)) (OutL.out o) = false := (Bool.not_eq_true' _).mp hb34
    refine gR<|uT<|uB<|uT<|uT<|uB<|uT<|fun a35 w35 h35 => x_ret0 (fn := Try.f55) rfl h35 <| ⟨rfl, ends, ?_, (h35.sh.sel [1, 2, 3, 4] rfl)⟩
    first | exact .inl ⟨⟨i, by omega, by assumption, by assumption⟩, rfl⟩ | exact PutInv.rel (by first | exact hinv | (rw [show dn = true by assumption] at hinv; exact hinv)) (by omega) | exact PutInv.rel0 (by first | exact hinv | (rw [show dn = false by assumption] at hinv; exact hinv)) (by omega)
   have hn34 : aheadB (OutL.out (nth ends.l i)) (OutL.out o) = true := (Bool.not_eq_false' _).mp hb34
   refine gS<|hK k31<|gK fun _ k36 => sG (oM 2 rfl<|oKs 2 hn33 rfl rfl<|opF hn33 rfl<|.nl)<|gcF rfl rfl<|gS<|hK k36<|gL<|gRn (oM 2 rfl<|onfl 1 fl_42_4 ti_40 rfl rfl<|oM 1 rfl<|oxN sl_40 ti_77 (aO 2 rfl) _ om9 rfl<|olw2 [.int .i64 ((nth ends.l i).st), ((nth ends.l i).words).v, ((nth ends.l i).prints).v] ti_77 (aO 2 rfl) om9 rfl<|.nl)<|gE1 (fun _ _ h_ => x_lit (n := 1) (cs := [.int .i64 ((nth ends.l i).st), ((nth ends.l i).words).v, ((nth ends.l i).prints).v]) ([nth ends.l i] : List OutL) h_ sl_40 ti_77 rfl rfl rfl (by decide) rfl (by kernel_rfl) rfl (fun q hq w h => by obtain rfl : q = 0 := (by simpa using hq); exact ⟨((h.own 2 rfl).inner i (show i < ends.l.length from om9)).1, ((h.own 2 rfl).inner i (show i < ends.l.length from om9)).2⟩) (fun q hq b hb => by obtain rfl : q = 0 := (by simpa using hq); rcases hb with hb | hb; exact ⟨_, List.mem_of_getElem? (i := 2) rfl, i, (show i < ends.l.length from om9), .inl hb⟩; exact ⟨_, List.mem_of_getElem? (i := 2) rfl, i, (show i < ends.l.length from om9), .inr hb⟩) rfl rfl) rfl fun v38 => gE1 (fun _ _ h_ => x_app (r := 6) (rm := 0) (s := (⟨vo, ol⟩ : Ls OutL)) (m := (⟨v38, [nth ends.l i]⟩ : Ls OutL)) h_ sl_40 ti_77 rfl rfl rfl rfl rfl rfl rfl (fun w h => (h.own 0 rfl)) (fun b hb => own_on (h_.sh.ok _ (List.mem_of_getElem? (i := 0) rfl)) hb) (fun q hq b hb => ⟨q, hq, hb⟩) rfl rfl rfl inferInstance (show (ol.length + ([nth ends.l i]).length) * 56 ≤ 140737488355328 ∧ ol.length + ([nth ends.l i]).length ≤ 140737488355328 from om9) rfl rfl) rfl fun v39 => gRn (oM 1 rfl<|.nl)<|nK k24<|gF [0, 3, 4, 5, 6] rfl<|gL<|gRn (oM 1 rfl<|oadN _ 1 om9 rfl<|oM 1 rfl<|.nl)<|nN<|fun a40 w40 h40 => x_again ⟨_, ?_, i + 1, dn, ol ++ ([nth ends.l i]), v39, ?_, ?_, h40.nrm ⟨rfl, rfl, rfl, rfl, rfl, trivial⟩ [1, 2, 3, 4, 5, 6] rfl, rfl⟩
   · rw [hm17]; first | omega | (simp only [lens9]; omega)
   · omega
   · first | exact PutInv.one hinv (by omega) (by assumption) | exact PutInv.two hinv (by omega) (.inl (by assumption)) | exact PutInv.two hinv (by omega) (.inr ⟨by assumption, by assumption⟩) | (subst_vars; first | exact PutInv.one hinv (by omega) (by assumption) | exact PutInv.two hinv (by omega) (.inl rfl) | exact PutInv.two hinv (by omega) (.inr ⟨by assumption, by assumption⟩))
  have hn33 : aheadB (OutL.out o) (OutL.out (nth ends.l i)) = true := (Bool.not_eq_false' _).mp hb33
  refine gRn (oKs 2 hb33 rfl rfl<|opF hb33 rfl<|.nl)<|nK k32<|gcF rfl rfl<|gS<|hK k31<|gK fun _ k41 => sG (oM 2 rfl<|oG hn33 (r_move rfl rfl) rfl<|oG hn33 (r_not rfl rfl) rfl<|opT hn33 rfl<|.nl)<|gCb rfl (fun hb43 => ?_) fun hb43 => ?_
  ·have hn43 : dn = false := (Bool.not_eq_true' _).mp hb43
   refine sK fun _ k44 => gRn (oM 1 rfl<|olw 0 ti_77 rfl rfl<|.nl)<|gE1 (fun _ _ h_ => x_lit (n := 1) (cs := [.int .i64 o.st, o.words.v, o.prints.v]) ([o] : List OutL) h_ sl_40 ti_77 rfl rfl rfl (by decide) rfl (by kernel_rfl) rfl (fun q hq w h => by obtain rfl : q = 0 := (by simpa using hq); exact ⟨(h.at 3 rfl), (h.at 4 rfl)⟩) (fun q hq b hb => by obtain rfl : q = 0 := (by simpa using hq); rcases hb with hb | hb; exact ⟨_, List.mem_of_getElem? (i := 3) rfl, hb⟩; exact ⟨_, List.mem_of_getElem? (i := 4) rfl, hb⟩) rfl rfl) rfl fun v45 => gE1 (fun _ _ h_ => x_app (r := 6) (rm := 0) (s := (⟨vo, ol⟩ : Ls OutL)) (m := (⟨v45, [o]⟩ : Ls OutL)) h_ sl_40 ti_77 rfl rfl rfl rfl rfl rfl rfl (fun w h => (h.own 0 rfl)) (fun b hb => own_on (h_.sh.ok _ (List.mem_of_getElem? (i := 0) rfl)) hb) (fun q hq b hb => ⟨q, hq, hb⟩) rfl rfl rfl inferInstance (show (ol.length + ([o]).length) * 56 ≤ 140737488355328 ∧ ol.length + ([o]).length ≤ 140737488355328 from om9) rfl rfl) rfl fun v46 => gRn (oM 1 rfl<|.nl)<|nK k44<|gL<|gRn (oM 1 rfl<|.nl)<|nK k41<|gL<|gRn (oM 2 rfl<|onfl 2 fl_42_4 ti_40 rfl rfl<|oM 1 rfl<|oxN sl_40 ti_77 (aO 3 rfl) _ om9 rfl<|olw2 [.int .i64 ((nth ends.l i).st), ((nth ends.l i).words).v, ((nth ends.l i).prints).v] ti_77 (aO 3 rfl) om9 rfl<|.nl)<|gE1 (fun _ _ h_ => x_lit (n := 1) (cs := [.int .i64 ((nth ends.l i).st), ((nth ends.l i).words).v, ((nth ends.l i).prints).v]) ([nth ends.l i] : List OutL) h_ sl_40 ti_77 rfl rfl rfl (by decide) rfl (by kernel_rfl) rfl (fun q hq w h => by obtain rfl : q = 0 := (by simpa using hq); exact ⟨((h.own 3 rfl).inner i (show i < ends.l.length from om9)).1, ((h.own 3 rfl).inner i (show i < ends.l.length from om9)).2⟩) (fun q hq b hb => by obtain rfl : q = 0 := (by simpa using hq); rcases hb with hb | hb; exact ⟨_, List.mem_of_getElem? (i := 3) rfl, i, (show i < ends.l.length from om9), .inl hb⟩; exact ⟨_, List.mem_of_getElem? (i := 3) rfl, i, (show i < ends.l.length from om9), .inr hb⟩) rfl rfl) rfl fun v47 => gE1 (fun _ _ h_ => x_app (r := 7) (rm := 0) (s := (⟨v46, ol ++ ([o])⟩ : Ls OutL)) (m := (⟨v47, [nth ends.l i]⟩ : Ls OutL)) h_ sl_40 ti_77 rfl rfl rfl rfl rfl rfl rfl (fun w h => (h.own 0 rfl)) (fun b hb => own_on (h_.sh.ok _ (List.mem_of_getElem? (i := 0) rfl)) hb) (fun q hq b hb => ⟨q, hq, hb⟩) rfl rfl rfl inferInstance (show ((ol ++ ([o])).length + ([nth ends.l i]).length) * 56 ≤ 140737488355328 ∧ (ol ++ ([o])).length + ([nth ends.l i]).length ≤ 140737488355328 from om9) rfl rfl) rfl fun v48 => gRn (oM 1 rfl<|.nl)<|nK k24<|gF [0, 3, 4, 5, 6] rfl<|gL<|gRn (oM 1 rfl<|oadN _ 1 om9 rfl<|oM 1 rfl<|.nl)<|nN<|fun a49 w49 h49 => x_again ⟨_, ?_, i + 1, true, (ol ++ ([o])) ++ ([nth ends.l i]), v48, ?_, ?_, h49.nrm ⟨rfl, rfl, rfl, rfl, rfl, trivial⟩ [2, 3, 4, 5, 6, 7] rfl, rfl⟩
   · rw [hm17]; first | omega | (simp only [lens9]; omega)
   · omega
   · first | exact PutInv.one hinv (by omega) (by assumption) | exact PutInv.two hinv (by omega) (.inl (by assumption)) | exact PutInv.two hinv (by omega) (.inr ⟨by assumption, by assumption⟩) | (subst_vars; first | exact PutInv.one hinv (by omega) (by assumption) | exact PutInv.two hinv (by omega) (.inl rfl) | exact PutInv.two hinv (by omega) (.inr ⟨by assumption, by assumption⟩))
  have hn43 : dn = true := (Bool.not_eq_false' _).mp hb43
  refine gS<|hK k41<|gL<|gRn (oM 2 rfl<|onfl 1 fl_42_4 ti_40 rfl rfl<|oM 1 rfl<|oxN sl_40 ti_77 (aO 2 rfl) _ om9 rfl<|olw2 [.int .i64 ((nth ends.l i).st), ((nth ends.l i).words).v, ((nth ends.l i).prints).v] ti_77 (aO 2 rfl) om9 rfl<|.nl)<|gE1 (fun _ _ h_ => x_lit (n := 1) (cs := [.int .i64 ((nth ends.l i).st), ((nth ends.l i).words).v, ((nth ends.l i).prints).v]) ([nth ends.l i] : List OutL) h_ sl_40 ti_77 rfl rfl rfl (by decide) rfl (by kernel_rfl) rfl (fun q hq w h => by obtain rfl : q = 0 := (by simpa using hq); exact ⟨((h.own 2 rfl).inner i (show i < ends.l.length from om9)).1, ((h.own 2 rfl).inner i (show i < ends.l.length from om9)).2⟩) (fun q hq b hb => by obtain rfl : q = 0 := (by simpa using hq); rcases hb with hb | hb; exact ⟨_, List.mem_of_getElem? (i := 2) rfl, i, (show i < ends.l.length from om9), .inl hb⟩; exact ⟨_, List.mem_of_getElem? (i := 2) rfl, i, (show i < ends.l.length from om9), .inr hb⟩) rfl rfl) rfl fun v50 => gE1 (fun _ _ h_ => x_app (r := 6) (rm := 0) (s := (⟨vo, ol⟩ : Ls OutL)) (m := (⟨v50, [nth ends.l i]⟩ : Ls OutL)) h_ sl_40 ti_77 rfl rfl rfl rfl rfl rfl rfl (fun w h => (h.own 0 rfl)) (fun b hb => own_on (h_.sh.ok _ (List.mem_of_getElem? (i := 0) rfl)) hb) (fun q hq b hb => ⟨q, hq, hb⟩) rfl rfl rfl inferInstance (show (ol.length + ([nth ends.l i]).length) * 56 ≤ 140737488355328 ∧ ol.length + ([nth ends.l i]).length ≤ 140737488355328 from om9) rfl rfl) rfl fun v51 => gRn (oM 1 rfl<|.nl)<|nK k24<|gF [0, 3, 4, 5, 6] rfl<|gL<|gRn (oM 1 rfl<|oadN _ 1 om9 rfl<|oM 1 rfl<|.nl)<|nN<|fun a52 w52 h52 => x_again ⟨_, ?_, i + 1, dn, ol ++ ([nth ends.l i]), v51, ?_, ?_, h52.nrm ⟨rfl, rfl, rfl, rfl, rfl, trivial⟩ [1, 2, 3, 4, 5, 6] rfl, rfl⟩
  · rw [hm17]; first | omega | (simp only [lens9]; omega)
  · omega
  · first | exact PutInv.one hinv (by omega) (by assumption) | exact PutInv.two hinv (by omega) (.inl (by assumption)) | exact PutInv.two hinv (by omega) (.inr ⟨by assumption, by assumption⟩) | (subst_vars; first | exact PutInv.one hinv (by omega) (by assumption) | exact PutInv.two hinv (by omega) (.inl rfl) | exact PutInv.two hinv (by omega) (.inr ⟨by assumption, by assumption⟩))
 refine gX<|hK k15<|gK fun _ k53 => sG (oM 1 rfl<|ont rfl<|.nl)<|gCb rfl (fun hb55 => ?_) fun hb55 => ?_
 ·have hn55 : dn = false := (Bool.not_eq_true' _).mp hb55
  refine gL<|gRn (oM 1 rfl<|olw 0 ti_77 rfl rfl<|.nl)<|gE1 (fun _ _ h_ => x_lit (n := 1) (cs := [.int .i64 o.st, o.words.v, o.prints.v]) ([o] : List OutL) h_ sl_40 ti_77 rfl rfl rfl (by decide) rfl (by kernel_rfl) rfl (fun q hq w h => by obtain rfl : q = 0 := (by simpa using hq); exact ⟨(h.at 3 rfl), (h.at 4 rfl)⟩) (fun q hq b hb => by obtain rfl : q = 0 := (by simpa using hq); rcases hb with hb | hb; exact ⟨_, List.mem_of_getElem? (i := 3) rfl, hb⟩; exact ⟨_, List.mem_of_getElem? (i := 4) rfl, hb⟩) rfl rfl) rfl fun v56 => gE1 (fun _ _ h_ => x_app (r := 6) (rm := 0) (s := (⟨vo, ol⟩ : Ls OutL)) (m := (⟨v56, [o]⟩ : Ls OutL)) h_ sl_40 ti_77 rfl rfl rfl rfl rfl rfl rfl (fun w h => (h.own 0 rfl)) (fun b hb => own_on (h_.sh.ok _ (List.mem_of_getElem? (i := 0) rfl)) hb) (fun q hq b hb => ⟨q, hq, hb⟩) rfl rfl rfl inferInstance (show (ol.length + ([o]).length) * 56 ≤ 140737488355328 ∧ ol.length + ([o]).length ≤ 140737488355328 from om9) rfl rfl) rfl fun v57 => gRn (oM 1 rfl<|.nl)<|nK k53<|gL<|gRn (oM 2 rfl<|onf fl_42_4 rfl<|.nl)<|gsr 2 ti_40 rfl (aO 6 rfl) rfl<|nN<|fun a59 w59 h59 => ?_
  try simp only [Exit.then, Exit.inBlock, if_true]
  refine x_end0 (fn := Try.f55) rfl h59 <| ⟨rfl, ⟨v57, ol ++ ([o])⟩, ?_, (h59.sh.sel [2, 6, 4, 5] rfl)⟩
  first | exact .inl ⟨⟨i, by omega, by assumption, by assumption⟩, rfl⟩ | exact PutInv.rel (by first | exact hinv | (rw [show dn = true by assumption] at hinv; exact hinv)) (by omega) | exact PutInv.rel0 (by first | exact hinv | (rw [show dn = false by assumption] at hinv; exact hinv)) (by omega)
 have hn55 : dn = true := (Bool.not_eq_false' _).mp hb55
 refine gS<|hK k53<|gL<|gRn (oM 2 rfl<|onf fl_42_4 rfl<|.nl)<|gsr 1 ti_40 rfl (aO 5 rfl) rfl<|nN<|fun a61 w61 h61 => ?_
 try simp only [Exit.then, Exit.inBlock, if_true]
 refine x_end0 (fn := Try.f55) rfl h61 <| ⟨rfl, ⟨vo, ol⟩, ?_, (h61.sh.sel [1, 5, 3, 4] rfl)⟩
 first | exact .inl ⟨⟨i, by omega, by assumption, by assumption⟩, rfl⟩ | exact PutInv.rel (by first | exact hinv | (rw [show dn = true by assumption] at hinv; exact hinv)) (by omega) | exact PutInv.rel0 (by first | exact hinv | (rw [show dn = false by assumption] at hinv; exact hinv)) (by omega)

end Go.Proofs.Ytmgikmjmdppfmaa
