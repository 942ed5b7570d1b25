/-
  Contracts of functions of this program and of the references, each walked once.
-/
import Derived.Test.YtanhbpofhebbaaaL2
namespace Go.Proofs.Ytanhbpofhebbaaa
open Go.RowKit
set_option linter.unusedSimpArgs false
set_option linter.unusedVariables false


theorem do_tk (K : Nat → Prop) (g mv t k : Nat) (code : Ls (Ls Ins)) (vt : Value) (rows : List ThL) (words owner prints : Ls Int) (pw : Value) (locks nregs mode : Int) (fell : Bool) (W : World)
    (hS : Sh K W W (stA g [code.v, pw, .int .i64 locks, .int .i64 nregs, .int .i64 mode] vt rows words owner prints fell ++ [.at_ code])) (et : mv / 8 = t) (ek : mv % 8 = k)
    (hn : t < rows.length) (htc : t < code.l.length) (hmv : mv < 1000000) (hpc : 0 ≤ (nth rows t).pc ∧ (nth rows t).pc < 1000000) (hwl : (nth rows t).wait.l.length ≤ 3) (hkw : k ≤ (nth rows t).wait.l.length) (hpl : prints.l.length ≤ 100000000) (hol : owner.l.length ≤ 100)
    (hwt : ∀ j, j < (nth rows t).wait.l.length → if (nth (nth rows t).wait.l j).lock = true then 0 ≤ (nth (nth rows t).wait.l j).wh ∧ (nth (nth rows t).wait.l j).wh < owner.l.length else 0 ≤ (nth (nth rows t).wait.l j).wh ∧ (nth (nth rows t).wait.l j).wh < words.l.length)
    (hio : k = 0 → InsR (nth rows t).regs.l.length words.l.length owner.l.length (nextIns (nth code.l t).l (nth rows t).pc)) :
    Rets Try.prog 62 [.pointer (some ⟨g, 0, none⟩), .int .i64 ((mv : Nat) : Int)] W (fun v w' => v = .tuple #[] ∧ ∃ (rows' : List ThL) (words' owner' prints' : Ls Int) (fell' : Bool) (y : TS),
      y = doT mode t (nth code.l t).l k ⟨(nth rows t).pc, (nth rows t).regs.l, (nth rows t).wait.l, words.l, owner.l, prints.l, fell⟩ ∧ rows'.map ThL.th = (rows.map ThL.th).set t ⟨y.pc, y.regs, y.wait⟩ ∧ words'.l = y.words ∧ owner'.l = y.owner ∧ prints'.l = y.prints ∧ fell' = y.fell ∧
      Sh K W w' (stA g [code.v, pw, .int .i64 locks, .int .i64 nregs, .int .i64 mode] vt rows' words' owner' prints' fell' ++ [.at_ code])) := by
  subst et; subst ek
  exact do_full K g mv code vt rows words owner prints pw locks nregs mode fell W hS hn htc hmv hpc hwl hkw hpl hol hwt hio
theorem Sh.own_new {α : Type} [Enc α] [Flat α] {K : Nat → Prop} {W w : World} {L : List Asn} {E : TypeId} {s : Ls α} (h : Sh K W w L) (i : Nat) (hi : L[i]? = some (.own E s)) : ∀ b, s.on b → K b ∨ W.heap.size ≤ b := fun b hb => by
  have hm := List.mem_of_getElem? hi
  rcases own_on (h.ok _ hm) hb with h1 | h1
  · exact h.mine _ hm b h1
  · exact Flat.noRd h1
theorem nilOn {b : Nat} (h : (⟨.slice none 0 0, []⟩ : Ls Int).on b) : False := by
  rcases h with ⟨h, _⟩ | ⟨_, h, _⟩ <;> exact absurd h (by simp)
/-- What a search has of its states' data. -/
structure SData (W : World) (ST : TypeId) (hd : List Value) (states : List SD) (ends : List OutL) : Prop where
  hd : ∀ x ∈ states, x.hd = hd ∧ x.E = ST ∧ x.fell = false ∧ ∀ b, Enc.on x b → W.heap.size ≤ b
  en : ∀ o ∈ ends, ∀ b, Enc.on o b → W.heap.size ≤ b
theorem SData.put {W : World} {ST : TypeId} {hd : List Value} {states : List SD} {ends ends' : List OutL} {o : OutL} (h : SData W ST hd states ends) (hr : PutRel o ends ends') (ho : ∀ b, Enc.on o b → W.heap.size ≤ b) : SData W ST hd states ends' ∧ ends'.length ≤ ends.length + 1 := by
  rcases hr with ⟨_, rfl⟩ | ⟨k, hk, _, _, rfl⟩
  · exact ⟨h, by omega⟩
  · refine ⟨⟨h.hd, fun x hx => ?_⟩, by simp; omega⟩
    rcases List.mem_append.1 hx with hx | hx
    · exact h.en x (List.mem_of_mem_take hx)
    · rcases List.mem_cons.1 hx with rfl | hx
      · exact ho
      · exact h.en x (List.mem_of_mem_drop hx)
theorem SData.more {W : World} {ST : TypeId} {hd : List Value} {states : List SD} {ends : List OutL} {x : SD} (h : SData W ST hd states ends) (hx : x.hd = hd ∧ x.E = ST ∧ x.fell = false ∧ ∀ b, Enc.on x b → W.heap.size ≤ b) : SData W ST hd (states ++ [x]) ends :=
  ⟨fun y hy => (List.mem_append.1 hy).elim (h.hd y) (fun hy => by obtain rfl : y = x := by simpa using hy
                                                                  exact hx), h.en⟩
/-- What a put leaves. -/
theorem key_put {p : Pg} (hok : OkPg p) {m : Int} {x : SD} {states states' : List SD} {keys keys' : List (Ls Int)} {heads before heads' before' : List Int} {full full' : Bool} {E : List Outc} {i : Nat}
    (h : KeyRel (keyOf x.st) x states states' keys keys' heads before heads' before' full full') (hk : keys.map (·.l) = (states.map SD.st).map keyOf) (hlen : states.length = keys.length)
    (hi : Inv p m (states.map SD.st) E full i) (hf : full = false) (hil : i ≤ states.length) (hr : Reach p m x.st) (hp : x.st.prints.length ≤ 2 * states.length) :
    Inv p m (states'.map SD.st) E full' i ∧ keys'.map (·.l) = (states'.map SD.st).map keyOf ∧ states'.length = keys'.length ∧ x.st ∈ states'.map SD.st ∧ (∀ s ∈ states.map SD.st, s ∈ states'.map SD.st) ∧ (states' = states ∨ states' = states ++ [x]) := by
  rcases h with ⟨⟨j, hj, e⟩, e1, e2, _, e5⟩ | ⟨_, rfl, e2, _, rfl⟩
  · have h1 : (nth (states.map SD.st) j) ∈ states.map SD.st := nth_mem _ _ (by simp; omega)
    have e3 : keyOf (nth (states.map SD.st) j) = keyOf x.st := by
      have := congrArg (fun l => nth l j) hk
      simp only [nth_map' (fun s : Ls Int => s.l) _ _ hj, nth_map' keyOf (states.map SD.st) j (by simp; omega)] at this
      rw [← this]; exact e
    have e4 := key_inj ((hi.reach _ h1).wf hok) (hr.wf hok) e3
    rw [e1, e5]
    refine ⟨hi, e2.trans hk, ?_, e4 ▸ h1, fun s hs => hs, .inl rfl⟩
    have := congrArg List.length e2
    simp at this; omega
  · refine ⟨?_, ?_, ?_, by simp, fun s hs => by simp at hs ⊢; exact .inl hs, .inr rfl⟩
    · have := hi.addState hf (by simpa using hil) hr (by simpa using hp)
      simpa using this
    · rw [e2, hk]; simp
    · have := congrArg List.length e2
      simp at this ⊢; omega
theorem keyRel_ok {L : List Int} {x : SD} {states states' : List SD} {keys keys' : List (Ls Int)} {heads before heads' before' : List Int} {full full' : Bool} (h : KeyRel L x states states' keys keys' heads before heads' before' full full') : HeadsOK (keys'.map (·.l)) heads' before' := by
  rcases h with ⟨_, _, _, h, _⟩ | ⟨_, _, _, h, _⟩ <;> exact h
theorem headsOK0 : HeadsOK (([] : List (Ls Int)).map (·.l)) (List.replicate 4096 (-1)) [] := by
  refine ⟨List.length_replicate, rfl, fun h hh => .inl ⟨?_, fun j hj => absurd hj (Nat.not_lt_zero _)⟩, fun i hi => absurd hi (Nat.not_lt_zero _)⟩
  simp only [nth, List.getD, List.getElem?_replicate, if_pos hh]; rfl
theorem bigNoRd {INT WT : TypeId} {rows : List ThL} {X : Prop} {b : Nat} (h : (Asn.big (rowsA INT WT rows)).rd b) : X := by
  obtain ⟨A, hA, hb⟩ := h
  obtain ⟨x, _, hx⟩ := List.mem_flatMap.1 hA
  simp only [thA, List.mem_cons, List.not_mem_nil, or_false] at hx
  rcases hx with rfl | rfl <;> exact Flat.noRd hb
theorem KeyRel.rd {L : List Int} {x : SD} {states states' : Ls SD} {keys keys' : List (Ls Int)} {heads before heads' before' : List Int} {full full' : Bool} (h : KeyRel L x states.l states'.l keys keys' heads before heads' before' full full') {E : TypeId} {b : Nat} (hb : (Asn.own E states').rd b) : (Asn.own E states).rd b ∨ (Asn.rd1 x).rd b := by
  obtain ⟨i, hi, hb⟩ := hb
  rcases h with ⟨_, e1, _⟩ | ⟨_, e1, _⟩
  · rw [e1] at hi hb; exact .inl ⟨i, hi, hb⟩
  · rw [e1] at hi hb
    simp at hi
    rcases Nat.lt_or_ge i states.l.length with h1 | h1
    · rw [nth_left _ _ _ h1] at hb; exact .inl ⟨i, h1, hb⟩
    · obtain rfl : i = states.l.length := by omega
      rw [nth_last] at hb; exact .inr hb
theorem PutRel.rd {o : OutL} {ends ends' : Ls OutL} (h : PutRel o ends.l ends'.l) {E : TypeId} {b : Nat} (hb : (Asn.own E ends').rd b) : (Asn.own E ends).rd b ∨ o.words.on b ∨ o.prints.on b := by
  obtain ⟨i, hi, hb⟩ := hb
  have hm := nth_mem _ _ hi
  have key : ∀ y ∈ ends.l, Enc.on y b → (Asn.own E ends).rd b := fun y hy hyb => by
    obtain ⟨j, hj⟩ := List.getElem?_of_mem hy
    obtain ⟨hlt, e⟩ := List.getElem?_eq_some_iff.1 hj
    exact ⟨j, hlt, by rw [nth_lt _ _ hlt, e]; exact hyb⟩
  rcases h with ⟨_, e1⟩ | ⟨k, _, _, _, e1⟩
  · exact .inl (key _ (e1 ▸ hm) hb)
  · rw [e1] at hm hb
    rcases List.mem_append.1 hm with h1 | h1
    · exact .inl (key _ (List.mem_of_mem_take h1) hb)
    · rcases List.mem_cons.1 h1 with h1 | h1
      · rw [h1] at hb; exact .inr hb
      · exact .inl (key _ (List.mem_of_mem_drop h1) hb)
theorem ok_lenN {code : Ls (Ls Ins)} {words : Ls Int} {Lk R : Nat} (h : OkPg (pgN code words Lk R)) : 1 ≤ code.l.length ∧ code.l.length ≤ 4 ∧ words.l.length ≤ 64 ∧ 0 ≤ (Lk : Int) ∧ (Lk : Int) ≤ 4 ∧ 1 ≤ (R : Int) ∧ (R : Int) ≤ 200 := by
  have h1 := h.code
  have h2 := h.words
  have h3 := h.locks
  have h4 := h.regs
  simp only [pgN, pgOf, List.length_map] at h1 h2 h3 h4
  omega
theorem st_mapAt {states : List SD} {i : Nat} (h : i < states.length) : nth (states.map SD.st) i = (nth states i).st := nth_map' _ _ _ h

set_option maxRecDepth 100000 in
set_option maxHeartbeats 40000000 in
theorem by_c (code : Ls (Ls Ins)) (words : Ls Int) (Lk R : Nat) (mode : Int) (W : World) (hcode : code.At W) (hwords : words.At W) (hok : OkPg (pgN code words Lk R)) :
    Rets Try.prog 67 [.agg #[code.v, words.v, .int .i64 ((Lk : Nat) : Int), .int .i64 ((R : Nat) : Int)], .int .i64 mode] W (fun v w' => ∃ (g : Nat) (full : Bool) (sv kv hv bv : Value) (ends : Ls OutL), v = .pointer (some ⟨g, 0, none⟩) ∧ (full = false → Sorted_ (ends.l.map OutL.out) ∧ ∀ o, o ∈ ends.l.map OutL.out ↔ Outs (pgN code words Lk R) mode o) ∧ ends.l.length ≤ 70000 ∧ (∀ o ∈ ends.l, ∀ b, Enc.on o b → W.heap.size ≤ b) ∧ Sh0 W w' [.blk g 49 [sv, kv, hv, bv, ends.v, .bool full], .own 56 ends]) := by
 obtain ⟨hl1, hcl, hwn, _, hlk9, _, hR9⟩ := ok_lenN hok
 have hlk : Lk ≤ 4 := by omega
 have hR : R ≤ 200 := by omega
 refine x_enter (N := 124) Try.func67 rfl Try.ntmps67 (Nat.le_of_ble_eq_true rfl) fun a1 hf1 => ?_
 have h1 : St 124 (fun _ => False) W a1 W [(0, .agg #[code.v, words.v, .int .i64 ((Lk : Nat) : Int), .int .i64 ((R : Nat) : Int)]), (1, .int .i64 mode)] [.at_ code, .at_ words] := ⟨hf1.sub ⟨rfl, rfl, trivial⟩, Sh0.ext2 hcode hwords⟩
 clear hf1
 refine wp_seq_k fun K2 hK2 => wp_region_lit ?_
 refine wl_ex (x_box (cs := [code.v, words.v, .int .i64 ((Lk : Nat) : Int), .int .i64 ((R : Nat) : Int)]) h1 rfl rfl rfl rfl rfl) (wanted_none rfl _) ?_
 rintro a3 w3 ⟨b3, h3⟩; clear h1
 refine wms 1 h3 rfl fun a4 h4 => ?_; clear h3
 refine wpList_nil (hK2 _ _ ?_)
 refine wp_seq_k fun K5 hK5 => wp_region_lit ?_
 refine wv h4 (r_build (cs := [(.slice none 0 0), (.slice none 0 0), (.slice none 0 0), (.slice none 0 0), (.slice none 0 0), .bool false]) rfl rfl (by kernel_rfl)) rfl rfl fun a6 h6 => ?_; clear h4
 refine wl_ex (x_box (cs := [(.slice none 0 0), (.slice none 0 0), (.slice none 0 0), (.slice none 0 0), (.slice none 0 0), .bool false]) h6 rfl rfl rfl rfl rfl) (wanted_none rfl _) ?_
 rintro a7 w7 ⟨b7, h7⟩; clear h6
 refine wms 1 h7 rfl fun a8 h8 => ?_; clear h7
 refine wpList_nil (hK5 _ _ ?_)
 refine wp_seq_k fun K9 hK9 => ?_
 refine wp_seq_k fun K10 hK10 => wp_region_lit ?_
 refine wms 1 h8 rfl fun a11 h11 => ?_; clear h8
 refine wpList_nil (hK10 _ _ ?_)
 refine wp_block ?_
 have h13 := h11.nil (α := Int) 3
 clear h11
 refine x_loop (fun m a w => ∃ (i : Nat) (hl : List Int) (vh : Value), (i ≤ 4096) ∧ (hl = List.replicate i (-1)) ∧ (hl.length = i) ∧ St 124 (fun _ => False) W a w [(1, .int .i64 mode), (2, .pointer (some ⟨b3, 0, none⟩)), (5, .pointer (some ⟨b7, 0, none⟩)), (6, .int .i64 ((i : Nat) : Int))] [.blk b7 49 [(.slice none 0 0), (.slice none 0 0), vh, (.slice none 0 0), (.slice none 0 0), .bool false], .blk b3 28 [code.v, words.v, .int .i64 ((Lk : Nat) : Int), .int .i64 ((R : Nat) : Int)], .at_ code, .at_ words, .own 3 (⟨vh, hl⟩ : Ls Int)] ∧ m = 4096 - i) ⟨_, 0, [], (.slice none 0 0), (by omega), (rfl), (rfl), h13.nrm ⟨rfl, rfl, rfl, rfl, trivial⟩ [1, 2, 3, 4, 0] (by decide) ⟨rfl, rfl, rfl, rfl, rfl, trivial⟩, rfl⟩ ?_
 clear h13
 rintro m12 a12 w12 ⟨i, hl, vh, hi, hhl, hhn, h12, hm12⟩
 refine wp_seq_k fun K14 hK14 => ?_
 refine wp_seq_k fun K15 hK15 => wp_region_lit ?_
 refine wms 1 h12 rfl fun a16 h16 => ?_; clear h12
 refine wv h16 (r_lssN (p := i) (q := 4096) rfl rfl rfl) rfl rfl fun a17 h17 => ?_; clear h16
 refine wpList_nil (hK15 _ _ ?_)
 refine x_cond h17 rfl (fun hb18 => ?_) (fun hb18 => ?_)
 ·
  have hp18 : i < 4096 := of_decide_eq_true hb18
  refine wp_skip ?_
  refine hK14 _ _ ?_
  refine wp_seq_k fun K19 hK19 => ?_
  refine wp_block ?_
  refine wp_region_lit ?_
  refine wms 2 h17 rfl fun a20 h20 => ?_; clear h17
  refine wv h20 (r_nil rfl rfl) rfl rfl fun a21 h21 => ?_; clear h20
  refine wv h21 (r_fieldB (r := 2) fl_49_2 rfl rfl rfl) rfl rfl fun a22 h22 => ?_; clear h21
  refine wv h22 (r_ldb (i := 0) ti_24 rfl rfl rfl rfl) rfl rfl fun a23 h23 => ?_; clear h22
  refine wl_ex (x_lit (n := 1) (cs := [.int .i64 (-1)]) ([(-1)] : List Int) h23 sl_24 ti_3 rfl rfl rfl (by decide) rfl (by kernel_rfl) rfl (fun q hq w h => Flat.inner _ _) (fun q hq b hb => (Flat.on _ _ hb).elim) rfl rfl) (wanted_none rfl _) ?_
  rintro a24 w24 ⟨v24, h24⟩; clear h23
  refine wl_ex (x_app (r := 5) (rm := 0) (s := (⟨vh, hl⟩ : Ls Int)) (m := (⟨v24, [(-1)]⟩ : Ls Int)) h24 sl_24 ti_3 rfl rfl rfl rfl rfl rfl rfl (fun w h => (h.own 0 rfl)) (fun b hb => own_on (h24.sh.ok _ (List.mem_of_getElem? (i := 0) rfl)) hb) (fun q hq b hb => ⟨q, hq, hb⟩) rfl rfl rfl inferInstance (show (hl.length + ([(-1)]).length) * 8 ≤ 140737488355328 ∧ hl.length + ([(-1)]).length ≤ 140737488355328 from (by first | omega | (simp only [lens9]; omega))) rfl rfl) (wanted_none rfl _) ?_
  rintro a25 w25 ⟨v25, h25⟩; clear h24
  refine wv h25 (r_nil rfl rfl) rfl rfl fun a26 h26 => ?_; clear h25
  refine wv h26 (r_fieldB (r := 2) fl_49_2 rfl rfl rfl) rfl rfl fun a27 h27 => ?_; clear h26
  refine wl_ex (x_stb (i := 1) (vs := [v25]) (cs' := [(.slice none 0 0), (.slice none 0 0), v25, (.slice none 0 0), (.slice none 0 0), .bool false]) h27 ti_24 rfl rfl rfl rfl rfl (cells_oneL ((h27.sh.own 5 rfl)).one) rfl (allOne_cons ((h27.sh.own 5 rfl)).one allOne_nil) (Nat.le_of_ble_eq_true rfl) rfl) (wanted_none rfl _) ?_
  rintro a28 w28 h28
  clear h27
  refine wpList_nil (hK19 _ _ ?_)
  refine wp_region_lit ?_
  refine wms 1 h28 rfl fun a29 h29 => ?_; clear h28
  refine wv h29 (r_addN (p := i) (q := 1) rfl rfl rfl (show i + 1 < 9223372036854775808 from (by omega))) rfl rfl fun a30 h30 => ?_; clear h29
  refine wms 1 h30 rfl fun a31 h31 => ?_; clear h30
  refine wpList_nil ?_
  refine x_again ⟨_, ?_, i + 1, hl ++ ([(-1)]), v25, ?_, ?_, ?_, h31.nrm ⟨rfl, rfl, rfl, rfl, trivial⟩ [1, 2, 3, 4, 5] (by decide) ⟨rfl, rfl, rfl, rfl, rfl, trivial⟩, rfl⟩
  · rw [hm12]; first | omega | (simp only [lens9]; omega)
  · omega
  · rw [hhl, List.replicate_succ']
  · simp [hhn]
 have hp18 : ¬ (i < 4096) := of_decide_eq_false hb18
 refine wp_exit ?_
 refine hK9 _ _ ?_
 have hi9 : i = 4096 := by omega
 refine wp_seq_k fun K32 hK32 => wp_region_lit ?_
 refine wv h17 (r_ldbw (i := 1) (vs := [code.v, words.v, .int .i64 ((Lk : Nat) : Int), .int .i64 ((R : Nat) : Int)]) ti_28 rfl rfl rfl rfl rfl) rfl rfl fun a33 h33 => ?_; clear h17
 refine wms 1 h33 rfl fun a34 h34 => ?_; clear h33
 refine wl_ex (x_call h34 bd_59 rfl rfl rfl rfl rfl (begin_c code words Lk R mode _ (h34.sh.at 2 rfl) (h34.sh.at 3 rfl) hcl hlk hR hwn)) (wanted_none rfl _) ?_
 rintro a35 w35 ⟨_, ⟨g35, rows35, vt35, w35w, o35w, p35w, rfl, hrw35, hw35, ho35, hp35, hs35⟩, hf35⟩
 have hyb := hrw35; have hyw := hw35; have hyo := ho35; have hyp := hp35
 have h35 := (⟨hf35, h34.sh.call hs35 (by intro A hA b hb; simp only [List.mem_cons, List.not_mem_nil, or_false] at hA; rcases hA with rfl | rfl | rfl | rfl | rfl | rfl <;> first | exact (hb : False).elim | exact Flat.noRd hb | exact bigNoRd hb)⟩ : St 124 (fun _ => False) W a35 w35 _ _)
 clear hf35 hs35
 clear h34
 refine wms 1 h35 rfl fun a36 h36 => ?_; clear h35
 refine wpList_nil (hK32 _ _ ?_)
 refine wp_seq_k fun K37 hK37 => wp_region_lit ?_
 refine wms 2 h36 rfl fun a38 h38 => ?_; clear h36
 have h39 := h38.nil (α := SD) 94
 clear h38
 have h40 := h39.nilDeep (α := Ls Int) 24
 clear h39
 have h41 := h40.nil (α := Int) 3
 clear h40
 have h42 := h41.nil (α := OutL) 56
 clear h41
 have h43 := h42.sel (L' := [.blk g35 104 [code.v, words.v, .int .i64 ((Lk : Nat) : Int), .int .i64 ((R : Nat) : Int), .int .i64 mode, vt35, w35w.v, o35w.v, p35w.v, .bool false], .own 101 (⟨vt35, rows35.map ThL.toV⟩ : Ls ThV), .big (rowsA 3 139 rows35), .own 3 w35w, .own 3 o35w, .own 3 p35w, .own 56 (⟨.slice none 0 0, []⟩ : Ls OutL), .own 3 (⟨.slice none 0 0, []⟩ : Ls Int), .deep 24 (⟨.slice none 0 0, []⟩ : Ls (Ls Int)), .own 94 (⟨.slice none 0 0, []⟩ : Ls SD), .blk b7 49 [(.slice none 0 0), (.slice none 0 0), vh, (.slice none 0 0), (.slice none 0 0), .bool false], .blk b3 28 [code.v, words.v, .int .i64 ((Lk : Nat) : Int), .int .i64 ((R : Nat) : Int)], .at_ code, .at_ words, .own 3 (⟨vh, hl⟩ : Ls Int)]) [4, 5, 6, 7, 8, 9, 0, 1, 2, 3, 10, 11, 12, 13, 14] (by decide) ⟨rfl, rfl, rfl, rfl, rfl, rfl, rfl, rfl, rfl, rfl, rfl, rfl, rfl, rfl, rfl, trivial⟩
 obtain ⟨x44, hx44⟩ : ∃ x, x = (⟨g35, 104, [code.v, words.v, .int .i64 ((Lk : Nat) : Int), .int .i64 ((R : Nat) : Int), .int .i64 mode], ⟨vt35, rows35⟩, w35w, o35w, p35w, false⟩ : SD) := ⟨_, rfl⟩
 have hfz44 := (Sh.freeze (hd := [code.v, words.v, .int .i64 ((Lk : Nat) : Int), .int .i64 ((R : Nat) : Int), .int .i64 mode]) (rows := rows35) (words := w35w) (owner := o35w) (prints := p35w) (vt := vt35) h43.sh)
 rw [← hx44] at hfz44
 have hz44 : St 124 (fun _ => False) W a38 w35 _ [.rd1 x44, .own 56 (⟨.slice none 0 0, []⟩ : Ls OutL), .own 3 (⟨.slice none 0 0, []⟩ : Ls Int), .deep 24 (⟨.slice none 0 0, []⟩ : Ls (Ls Int)), .own 94 (⟨.slice none 0 0, []⟩ : Ls SD), .blk b7 49 [(.slice none 0 0), (.slice none 0 0), vh, (.slice none 0 0), (.slice none 0 0), .bool false], .blk b3 28 [code.v, words.v, .int .i64 ((Lk : Nat) : Int), .int .i64 ((R : Nat) : Int)], .at_ code, .at_ words, .own 3 (⟨vh, hl⟩ : Ls Int)] := ⟨h43.fr, hfz44.1⟩
 clear h43
 have hg44 : g35 = x44.g := by rw [hx44]
 have hst44 : x44.st = begin_ (pgN code words Lk R) := by rw [hx44]; unfold SD.st begin_; simp only [hyb, hyw, hyo, hyp]; simp [pgN, pgOf, Function.comp_def, List.map_const']
 have hwf44 : WfX code words Lk R x44 := by have h9 := Wf.begin_ hok; rw [← hst44] at h9; exact h9.toX
 have hpl44 : x44.prints.l.length = 0 := by rw [hx44]; simp only [hyp]; rfl
 have hdy44 : x44.hd = [code.v, words.v, .int .i64 ((Lk : Nat) : Int), .int .i64 ((R : Nat) : Int), .int .i64 mode] ∧ x44.E = 104 ∧ x44.fell = false ∧ ∀ b, Enc.on x44 b → W.heap.size ≤ b := ⟨by rw [hx44], by rw [hx44], by rw [hx44], fun b hb => (hfz44.2 b hb).elim (fun h => h.elim) id⟩
 have h45 := hz44.sel (L' := [.blk b7 49 [(.slice none 0 0), (.slice none 0 0), vh, (.slice none 0 0), (.slice none 0 0), .bool false], .own 94 (⟨.slice none 0 0, []⟩ : Ls SD), .deep 24 (⟨.slice none 0 0, []⟩ : Ls (Ls Int)), .own 3 (⟨vh, hl⟩ : Ls Int), .own 3 (⟨.slice none 0 0, []⟩ : Ls Int), .rd1 x44, .own 56 (⟨.slice none 0 0, []⟩ : Ls OutL), .blk b3 28 [code.v, words.v, .int .i64 ((Lk : Nat) : Int), .int .i64 ((R : Nat) : Int)], .at_ code, .at_ words]) [5, 4, 3, 9, 2, 0, 1, 6, 7, 8] (by decide) ⟨rfl, rfl, rfl, rfl, rfl, rfl, rfl, rfl, rfl, rfl, trivial⟩
 have hp46 := h45.sh.passL (Lp := [.blk b7 49 [(.slice none 0 0), (.slice none 0 0), vh, (.slice none 0 0), (.slice none 0 0), .bool false], .own 94 (⟨.slice none 0 0, []⟩ : Ls SD), .deep 24 (⟨.slice none 0 0, []⟩ : Ls (Ls Int)), .own 3 (⟨vh, hl⟩ : Ls Int), .own 3 (⟨.slice none 0 0, []⟩ : Ls Int), .rd1 x44])
 refine wl_ex (x_call h45 bd_103 rfl rfl rfl rfl rfl (by have h9 := put_c _ b7 x44 (⟨.slice none 0 0, []⟩ : Ls SD) (⟨.slice none 0 0, []⟩ : Ls (Ls Int)) (⟨vh, hl⟩ : Ls Int) (⟨.slice none 0 0, []⟩ : Ls Int) (.slice none 0 0) false _ _ _ _ _ _ hp46 (by rw [hhl, hi9]; exact headsOK0) rfl (by simp) hdy44.1 hdy44.2.1 (by rw [hwf44.thl]; exact hcl) (fun i hi => by have h9 := hwf44.regs i hi; omega) hwf44.wait (by have h9 := hwf44.words; have h8 := hwf44.owner; have h7 := hpl44; omega); rw [← hg44] at h9; exact h9)) (wanted_none rfl _) ?_
 rintro a47 w47 ⟨_, ⟨rfl, st47, ke47, he47, be47, fu47, hkr47, hs47⟩, hf47⟩
 have h47 : St 124 (fun _ => False) W a47 w47 _ [.blk b7 49 [st47.v, ke47.v, he47.v, be47.v, (.slice none 0 0), .bool fu47], .own 94 st47, .deep 24 ke47, .own 3 he47, .own 3 be47, .rd1 x44, .own 56 (⟨.slice none 0 0, []⟩ : Ls OutL), .blk b3 28 [code.v, words.v, .int .i64 ((Lk : Nat) : Int), .int .i64 ((R : Nat) : Int)], .at_ code, .at_ words] := ⟨hf47, h45.sh.backL (Lp := [.blk b7 49 [(.slice none 0 0), (.slice none 0 0), vh, (.slice none 0 0), (.slice none 0 0), .bool false], .own 94 (⟨.slice none 0 0, []⟩ : Ls SD), .deep 24 (⟨.slice none 0 0, []⟩ : Ls (Ls Int)), .own 3 (⟨vh, hl⟩ : Ls Int), .own 3 (⟨.slice none 0 0, []⟩ : Ls Int), .rd1 x44]) hs47 (by intro A hA b hb; simp only [List.mem_cons, List.not_mem_nil, or_false] at hA; rcases hA with rfl | rfl | rfl | rfl | rfl | rfl <;> first | exact (hb : False).elim | exact Flat.noRd hb | exact .inl ⟨_, List.mem_cons_self .., .inr hb⟩ | exact (hkr47.rd hb).elim (fun h => .inl ⟨_, List.mem_of_getElem? (i := 1) rfl, .inr h⟩) (fun h => .inl ⟨_, List.mem_of_getElem? (i := 5) rfl, .inr h⟩) | exact .inl ⟨_, by simp, .inr hb⟩)⟩
 clear hf47 hs47
 clear h45
 refine wpList_nil (hK37 _ _ ?_)
 obtain ⟨hc1, hc2, hc3⟩ : st47.l = [x44] ∧ ke47.l.map (·.l) = [keyOf x44.st] ∧ fu47 = (false || decide (4000 < 0 + 1)) := by rcases hkr47 with ⟨⟨j, hj, _⟩, _⟩ | ⟨_, e1, e2, _, e3⟩; exact absurd hj (by simp); exact ⟨e1, e2, e3⟩
 have hinv0 : Inv (pgN code words Lk R) mode (st47.l.map SD.st) (([] : List OutL).map OutL.out) fu47 0 := by rw [hc1, hc3]; exact Inv.first _ hst44
 have hkey0 : ke47.l.map (·.l) = (st47.l.map SD.st).map keyOf := by rw [hc2, hc1]; rfl
 have hhok0 := keyRel_ok hkr47
 have hlen0 : st47.l.length = ke47.l.length := by have h9 := congrArg List.length hc2; simp at h9; rw [hc1]; simp [h9]
 have hsd0 : SData W 104 [code.v, words.v, .int .i64 ((Lk : Nat) : Int), .int .i64 ((R : Nat) : Int), .int .i64 mode] st47.l ([] : List OutL) := ⟨fun y hy => (by rw [hc1] at hy; obtain rfl : y = x44 := (by simpa using hy); exact hdy44), fun o ho => (by cases ho)⟩
 have hel0 : ([] : List OutL).length ≤ 16 * 0 := by simp
 refine wp_seq_k fun K48 hK48 => ?_
 refine wp_seq_k fun K49 hK49 => wp_region_lit ?_
 refine wms 1 h47 rfl fun a50 h50 => ?_; clear h47
 refine wpList_nil (hK49 _ _ ?_)
 refine wp_block ?_
 refine x_loop (fun m a w => ∃ (i : Nat) (full : Bool) (states : Ls SD) (keys : Ls (Ls Int)) (heads before : Ls Int) (ends : Ls OutL), (i ≤ states.l.length) ∧ (Inv (pgN code words Lk R) mode (states.l.map SD.st) (ends.l.map OutL.out) full i) ∧ (keys.l.map (·.l) = (states.l.map SD.st).map keyOf) ∧ (HeadsOK (keys.l.map (·.l)) heads.l before.l) ∧ (states.l.length = keys.l.length) ∧ (SData W 104 [code.v, words.v, .int .i64 ((Lk : Nat) : Int), .int .i64 ((R : Nat) : Int), .int .i64 mode] states.l ends.l) ∧ (ends.l.length ≤ 16 * i) ∧ St 124 (fun _ => False) W a w [(5, .pointer (some ⟨b7, 0, none⟩)), (8, .int .i64 ((i : Nat) : Int))] [.blk b7 49 [states.v, keys.v, heads.v, before.v, ends.v, .bool full], .own 94 states, .deep 24 keys, .own 3 heads, .own 3 before, .rd1 x44, .own 56 ends, .blk b3 28 [code.v, words.v, .int .i64 ((Lk : Nat) : Int), .int .i64 ((R : Nat) : Int)], .at_ code, .at_ words] ∧ m = 4002 - i) ⟨_, 0, fu47, st47, ke47, he47, be47, (⟨.slice none 0 0, []⟩ : Ls OutL), (by omega), (hinv0), (hkey0), (hhok0), (hlen0), (hsd0), (hel0), h50.nrm ⟨rfl, rfl, trivial⟩ [0, 1, 2, 3, 4, 5, 6, 7, 8, 9] (by decide) ⟨rfl, rfl, rfl, rfl, rfl, rfl, rfl, rfl, rfl, rfl, trivial⟩, rfl⟩ ?_
 clear h50
 rintro m51 a51 w51 ⟨i, full, states, keys, heads, before, ends, hi, hinv, hkey, hhok, hlen, hsd, hel, h51, hm51⟩
 refine wp_seq_k fun K52 hK52 => ?_
 refine wp_seq_k fun K53 hK53 => wp_region_lit ?_
 refine wms 2 h51 rfl fun a54 h54 => ?_; clear h51
 refine wv h54 (r_nil rfl rfl) rfl rfl fun a55 h55 => ?_; clear h54
 refine wv h55 (r_fieldB (r := 0) fl_49_0 rfl rfl rfl) rfl rfl fun a56 h56 => ?_; clear h55
 refine wv h56 (r_ldb (i := 0) ti_45 rfl rfl rfl rfl) rfl rfl fun a57 h57 => ?_; clear h56
 have hl58 : states.l.length ≤ 140737488355328 := (h57.sh.own 1 rfl).len
 refine wv h57 (r_len (s := states) (n := states.l.length) sl_45 rfl rfl (fun w h => (h.own 1 rfl)) rfl) rfl rfl fun a59 h59 => ?_; clear h57
 refine wv h59 (r_lssN (p := i) (q := states.l.length) rfl rfl rfl) rfl rfl fun a60 h60 => ?_; clear h59
 refine wms 1 h60 rfl fun a61 h61 => ?_; clear h60
 rcases Bool.eq_false_or_eq_true (decide (i < states.l.length)) with hb62 | hb62
 ·
  have hp62 : i < states.l.length := of_decide_eq_true hb62
  refine wl_val h61 (r_move rfl rfl) (wanted_yes h61.fr rfl rfl rfl rfl hb62) rfl rfl fun a63 h63 => ?_; clear h61
  refine wl_val h63 (r_nil rfl rfl) (wanted_yes h63.fr rfl rfl rfl rfl hb62) rfl rfl fun a64 h64 => ?_; clear h63
  refine wl_val h64 (r_fieldB (r := 5) fl_49_5 rfl rfl rfl) (wanted_yes h64.fr rfl rfl rfl rfl hb62) rfl rfl fun a65 h65 => ?_; clear h64
  refine wl_val h65 (r_ldb (i := 0) ti_4 rfl rfl rfl rfl) (wanted_yes h65.fr rfl rfl rfl rfl hb62) rfl rfl fun a66 h66 => ?_; clear h65
  refine wl_val h66 (r_not rfl rfl) (wanted_yes h66.fr rfl rfl rfl rfl hb62) rfl rfl fun a67 h67 => ?_; clear h66
  refine wv h67 (r_pickT rfl rfl hb62 rfl) rfl rfl fun a68 h68 => ?_; clear h67
  refine wpList_nil (hK53 _ _ ?_)
  refine x_cond h68 rfl (fun hb69 => ?_) (fun hb69 => ?_)
  ·
   have hn69 : full = false := (Bool.not_eq_true' _).mp hb69
   refine wp_skip ?_
   refine hK52 _ _ ?_
   refine wp_seq_k fun K70 hK70 => ?_
   refine wp_block ?_
   refine wp_seq_k fun K71 hK71 => wp_region_lit ?_
   refine wms 1 h68 rfl fun a72 h72 => ?_; clear h68
   refine wv h72 (r_nil rfl rfl) rfl rfl fun a73 h73 => ?_; clear h72
   refine wv h73 (r_fieldB (r := 0) fl_49_0 rfl rfl rfl) rfl rfl fun a74 h74 => ?_; clear h73
   refine wv h74 (r_ldb (i := 0) ti_45 rfl rfl rfl rfl) rfl rfl fun a75 h75 => ?_; clear h74
   refine wms 1 h75 rfl fun a76 h76 => ?_; clear h75
   refine wv h76 (r_ixN (s := states) (q := i) sl_45 ti_94 rfl rfl rfl (fun w h => (h.own 1 rfl)) (show i < states.l.length from (by omega))) rfl rfl fun a77 h77 => ?_; clear h76
   refine wv h77 (r_lde (s := states) (i := i) (v := .pointer (some ⟨(nth states.l i).g, 0, none⟩)) ti_94 rfl rfl rfl (fun w h => (h.own 1 rfl)) (show i < states.l.length from (by omega)) (Nat.le_of_ble_eq_true rfl) rfl) rfl rfl fun a78 h78 => ?_; clear h77
   refine wms 1 h78 rfl fun a79 h79 => ?_; clear h78
   refine wpList_nil (hK71 _ _ ?_)
   obtain ⟨x, hxx⟩ : ∃ x, x = nth states.l i := ⟨_, rfl⟩
   rw [← hxx] at h79
   have hil : i < states.l.length := by omega
   have hxm : x ∈ states.l := by rw [hxx]; exact nth_mem _ _ hil
   have hxs : x.st ∈ states.l.map SD.st := List.mem_map.2 ⟨x, hxm, rfl⟩
   have hxi : nth (states.l.map SD.st) i = x.st := by rw [st_mapAt hil, ← hxx]
   have hws := (hinv.reach _ hxs).wf hok
   have hwx := hws.toX
   obtain ⟨hd1, hd2, hd3, hd4⟩ := hsd.hd x hxm
   have hin80 := (h79.sh.own 1 rfl).inner i (by omega)
   rw [← hxx] at hin80
   obtain ⟨hn1, hn2, hn3, hn4, hn5⟩ := (show Enc.inner x _ from hin80)
   rw [hd2, SD.cells, hd1, hd3] at hn1
   have hprx : x.prints.l.length ≤ 2 * i := by have h9 := hinv.pr i (by simpa using hil); rw [hxi] at h9; exact h9
   have hnl : states.l.length ≤ 4001 := by have h9 := hinv.len; simpa using h9
   have hxl : x.words.l.length ≤ 100000 ∧ x.owner.l.length ≤ 100000 ∧ x.prints.l.length ≤ 100000000 := by have h9 := hwx.words; have h8 := hwx.owner; omega
   have h81 := h79.addRd (A := .rblk x.g 104 [code.v, words.v, .int .i64 ((Lk : Nat) : Int), .int .i64 ((R : Nat) : Int), .int .i64 mode, x.thr.v, x.words.v, x.owner.v, x.prints.v, .bool false]) hn1 (fun b hb => hb) (fun b hb => ⟨.own 94 states, List.mem_of_getElem? (i := 1) rfl, i, hil, by rw [← hxx]; exact .inl hb⟩)
   clear h79
   have h82 := h81.addRd (A := .at_ x.thr) hn2 (fun b hb => hb) (fun b hb => ⟨.own 94 states, List.mem_of_getElem? (i := 2) rfl, i, hil, by rw [← hxx]; exact .inr (.inl hb)⟩)
   clear h81
   have h83 := h82.addRd (A := .at_ x.words) hn3 (fun b hb => hb) (fun b hb => ⟨.own 94 states, List.mem_of_getElem? (i := 3) rfl, i, hil, by rw [← hxx]; exact .inr (.inr (.inl hb))⟩)
   clear h82
   have h84 := h83.addRd (A := .at_ x.owner) hn4 (fun b hb => hb) (fun b hb => ⟨.own 94 states, List.mem_of_getElem? (i := 4) rfl, i, hil, by rw [← hxx]; exact .inr (.inr (.inr (.inl hb)))⟩)
   clear h83
   have h85 := h84.addRd (A := .at_ x.prints) hn5 (fun b hb => hb) (fun b hb => ⟨.own 94 states, List.mem_of_getElem? (i := 5) rfl, i, hil, by rw [← hxx]; exact .inr (.inr (.inr (.inr hb)))⟩)
   clear h84
   skip
   refine wp_seq_k fun K86 hK86 => wp_region_lit ?_
   refine wms 1 h85 rfl fun a87 h87 => ?_; clear h85
   refine wl_ex (x_call h87 bd_104 rfl rfl rfl rfl rfl (ended_c x.g code x.thr _ _ _ _ _ _ _ _ _ (h87.sh.rblk 4 rfl) (h87.sh.at 13 rfl) (h87.sh.at 3 rfl) hcl hwx.thl (fun t ht => (hwx.pc t ht).1))) (wanted_none rfl _) ?_
   rintro a88 w88 ⟨_, ⟨rfl, hs88⟩, hf88⟩
   have h88 : St 124 (fun _ => False) W a88 w88 _ _ := ⟨hf88, h87.sh.call0 hs88⟩
   clear hf88 hs88
   clear h87
   refine wms 1 h88 rfl fun a89 h89 => ?_; clear h88
   refine wpList_nil (hK86 _ _ ?_)
   have h90 : St 124 (fun _ => False) W a89 w88 [(5, .pointer (some ⟨b7, 0, none⟩)), (8, .int .i64 ((i : Nat) : Int)), (9, .pointer (some ⟨x.g, 0, none⟩)), (10, .bool (endedL code x.thr))] [.at_ x.prints, .at_ x.owner, .at_ x.words, .at_ x.thr, .rblk x.g 104 [code.v, words.v, .int .i64 ((Lk : Nat) : Int), .int .i64 ((R : Nat) : Int), .int .i64 mode, x.thr.v, x.words.v, x.owner.v, x.prints.v, .bool false], .blk b7 49 [states.v, keys.v, heads.v, before.v, ends.v, .bool full], .own 94 states, .deep 24 keys, .own 3 heads, .own 3 before, .rd1 x44, .own 56 ends, .blk b3 28 [code.v, words.v, .int .i64 ((Lk : Nat) : Int), .int .i64 ((R : Nat) : Int)], .at_ code, .at_ words] := h89.nrm ⟨rfl, rfl, rfl, rfl, trivial⟩ [0, 1, 2, 3, 4, 5, 6, 7, 8, 9, 10, 11, 12, 13, 14] (by decide) ⟨rfl, rfl, rfl, rfl, rfl, rfl, rfl, rfl, rfl, rfl, rfl, rfl, rfl, rfl, rfl, trivial⟩
   clear h89
   refine wp_seq_k fun K91 hK91 => wp_region_lit ?_
   refine wms 1 h90 rfl fun a92 h92 => ?_; clear h90
   refine wl_ex (x_call h92 bd_60 rfl rfl rfl rfl rfl (moves_c x.g code x.thr x.owner _ _ _ _ _ _ _ _ (h92.sh.rblk 4 rfl) (h92.sh.at 13 rfl) (h92.sh.at 3 rfl) (h92.sh.at 1 rfl) hcl hwx.thl (fun t ht => (hwx.pc t ht).1) (fun t ht i hi h17 => by have h9 := lock_N hok ht hi h17; rw [hwx.owner]; exact h9) (fun t ht => hwx.wait t (by rw [hwx.thl]; exact ht)))) (wanted_none rfl _) ?_
   rintro a93 w93 ⟨_, ⟨ml93, rfl, hml93, hs93⟩, hf93⟩
   rw [moves_eq (Lk := Lk) (R := R) (words := words) hwx.thl] at hml93
   have hmv := hml93
   have hmvl : ml93.l.length ≤ 16 := by rw [hmv]; exact moves_len hwx.thl hcl hwx.wait
   have h93 := (⟨hf93, h92.sh.call hs93 (by intro A hA b hb; first | (simp at hA; done) | (simp at hA; subst hA; first | exact Flat.noRd hb | exact (hb : False).elim) | (simp at hA; rcases hA with rfl | rfl <;> first | exact Flat.noRd hb | exact (hb : False).elim))⟩ : St 124 (fun _ => False) W a93 w93 _ _)
   clear hf93 hs93
   clear h92
   refine wms 1 h93 rfl fun a94 h94 => ?_; clear h93
   refine wpList_nil (hK91 _ _ ?_)
   refine wp_seq_k fun K95 hK95 => ?_
   refine wp_seq_k fun K96 hK96 => wp_region_lit ?_
   refine wms 1 h94 rfl fun a97 h97 => ?_; clear h94
   refine wpList_nil (hK96 _ _ ?_)
   refine x_cond h97 rfl (fun hb98 => ?_) (fun hb98 => ?_)
   ·
    skip
    refine wp_seq_k fun K99 hK99 => ?_
    refine x_tail 10 [] (by kernel_rfl) (by kernel_rfl) h97 fun Z100 hZ100 => ?_
    have hq100 := h97.fr
    refine wq_val hq100 (r_move rfl rfl) (wanted_none rfl _) rfl rfl fun a101 hq101 => ?_; clear hq100
    refine wq_val hq101 (r_move rfl rfl) (wanted_none rfl _) rfl rfl fun a102 hq102 => ?_; clear hq101
    refine wq_val hq102 (r_nil rfl rfl) (wanted_none rfl _) rfl rfl fun a103 hq103 => ?_; clear hq102
    refine wq_val hq103 (r_fieldB (r := 6) fl_104_3 rfl rfl rfl) (wanted_none rfl _) rfl rfl fun a104 hq104 => ?_; clear hq103
    refine wq_val hq104 (r_ldbR ti_24 rfl rfl (fun w h => h.rblk 5 rfl) rfl) (wanted_none rfl _) rfl rfl fun a105 hq105 => ?_; clear hq104
    refine wq_val hq105 (r_move rfl rfl) (wanted_none rfl _) rfl rfl fun a106 hq106 => ?_; clear hq105
    refine wq_val hq106 (r_nil rfl rfl) (wanted_none rfl _) rfl rfl fun a107 hq107 => ?_; clear hq106
    refine wq_val hq107 (r_fieldB (r := 8) fl_104_5 rfl rfl rfl) (wanted_none rfl _) rfl rfl fun a108 hq108 => ?_; clear hq107
    refine wq_val hq108 (r_ldbR ti_24 rfl rfl (fun w h => h.rblk 5 rfl) rfl) (wanted_none rfl _) rfl rfl fun a109 hq109 => ?_; clear hq108
    refine wq_val hq109 (r_build (cs := [.int .i64 0, x.words.v, x.prints.v]) rfl rfl (by obtain ⟨A111, n111, c111, (e111 : x.prints.v = _)⟩ := ((h97.sh.at 1 rfl)).form; rw [e111]; obtain ⟨A110, n110, c110, (e110 : x.words.v = _)⟩ := ((h97.sh.at 3 rfl)).form; rw [e110]; kernel_rfl)) (wanted_none rfl _) rfl rfl fun a112 hq112 => ?_; clear hq109
    refine wpQuiet_nil (hZ100 _ fun w113 hw113 => ?_)
    have h113 : St 124 (fun _ => False) W a112 w113 _ _ := ⟨hq112, hw113⟩
    clear hq112 hw113 h97
    have h114 := h113.sel (L' := [.blk b7 49 [states.v, keys.v, heads.v, before.v, ends.v, .bool full], .own 56 ends, .at_ x.words, .at_ x.prints, .own 3 ml93, .at_ x.owner, .at_ x.thr, .rblk x.g 104 [code.v, words.v, .int .i64 ((Lk : Nat) : Int), .int .i64 ((R : Nat) : Int), .int .i64 mode, x.thr.v, x.words.v, x.owner.v, x.prints.v, .bool false], .own 94 states, .deep 24 keys, .own 3 heads, .own 3 before, .rd1 x44, .blk b3 28 [code.v, words.v, .int .i64 ((Lk : Nat) : Int), .int .i64 ((R : Nat) : Int)], .at_ code, .at_ words]) [6, 12, 3, 1, 0, 2, 4, 5, 7, 8, 9, 10, 11, 13, 14, 15] (by decide) ⟨rfl, rfl, rfl, rfl, rfl, rfl, rfl, rfl, rfl, rfl, rfl, rfl, rfl, rfl, rfl, rfl, trivial⟩
    have hp115 := h114.sh.passL (Lp := [.blk b7 49 [states.v, keys.v, heads.v, before.v, ends.v, .bool full], .own 56 ends, .at_ x.words, .at_ x.prints])
    refine wl_ex (x_call h114 bd_105 rfl rfl rfl rfl rfl (putO_c _ _ (⟨0, x.words, x.prints⟩ : OutL) ends _ _ _ _ _ _ hp115 (by omega))) (wanted_none rfl _) ?_
    rintro a116 w116 ⟨_, ⟨rfl, en116, hpr116, hs116⟩, hf116⟩
    have h116 : St 124 (fun _ => False) W a116 w116 _ [.blk b7 49 [states.v, keys.v, heads.v, before.v, en116.v, .bool full], .own 56 en116, .at_ x.words, .at_ x.prints, .own 3 ml93, .at_ x.owner, .at_ x.thr, .rblk x.g 104 [code.v, words.v, .int .i64 ((Lk : Nat) : Int), .int .i64 ((R : Nat) : Int), .int .i64 mode, x.thr.v, x.words.v, x.owner.v, x.prints.v, .bool false], .own 94 states, .deep 24 keys, .own 3 heads, .own 3 before, .rd1 x44, .blk b3 28 [code.v, words.v, .int .i64 ((Lk : Nat) : Int), .int .i64 ((R : Nat) : Int)], .at_ code, .at_ words] := ⟨hf116, h114.sh.backL (Lp := [.blk b7 49 [states.v, keys.v, heads.v, before.v, ends.v, .bool full], .own 56 ends, .at_ x.words, .at_ x.prints]) hs116 (by intro A hA b hb; simp only [List.mem_cons, List.not_mem_nil, or_false] at hA; rcases hA with rfl | rfl | rfl | rfl <;> first | exact (hb : False).elim | exact Flat.noRd hb | exact .inl ⟨_, List.mem_cons_self .., .inr hb⟩ | exact (hpr116.rd hb).elim (fun h => .inl ⟨_, List.mem_of_getElem? (i := 1) rfl, .inr h⟩) (fun h => h.elim (fun h => .inl ⟨_, List.mem_of_getElem? (i := 2) rfl, .inr h⟩) (fun h => .inl ⟨_, List.mem_of_getElem? (i := 3) rfl, .inr h⟩)) | exact .inl ⟨_, by simp, .inr hb⟩)⟩
    clear hf116 hs116
    clear h114
    refine wpList_nil (hK99 _ _ ?_)
    refine wp_exit ?_
    refine hK70 _ _ ?_
    refine wp_region_lit ?_
    refine wms 1 h116 rfl fun a117 h117 => ?_; clear h116
    refine wv h117 (r_addN (p := i) (q := 1) rfl rfl rfl (show i + 1 < 9223372036854775808 from (by omega))) rfl rfl fun a118 h118 => ?_; clear h117
    refine wms 1 h118 rfl fun a119 h119 => ?_; clear h118
    refine wpList_nil ?_
    have hps := hpr116.sorted hinv.sorted
    have hinvN := hinv.ended (by simpa using hil) (by rw [hxi, ← ended_eq hwx.thl]; assumption) hps.1 (by intro y; rw [hps.2 y, hxi]; rfl)
    obtain ⟨hsdN, hle9⟩ := hsd.put hpr116 (fun b hb => hd4 b (hb.elim (fun hb => .inr (.inr (.inl hb))) (fun hb => .inr (.inr (.inr (.inr hb))))))
    have helN : en116.l.length ≤ 16 * (i + 1) := by omega
    have hiN : i + 1 ≤ states.l.length := by omega
    refine x_again ⟨_, ?_, (i + 1), full, states, keys, heads, before, en116, ?_, ?_, ?_, ?_, ?_, ?_, ?_, h119.nrm ⟨rfl, rfl, trivial⟩ [0, 8, 9, 10, 11, 12, 1, 13, 14, 15] (by decide) ⟨rfl, rfl, rfl, rfl, rfl, rfl, rfl, rfl, rfl, rfl, trivial⟩, rfl⟩
    · rw [hm51]; omega
    · first | exact hiN | omega
    · first | exact hinvN | exact hinv
    · first | exact hkeyN | exact hkey
    · first | exact hhokN | exact hhok
    · first | exact hlenN | exact hlen
    · first | exact hsdN | exact hsd
    · first | exact helN | omega
   refine wp_skip ?_
   refine hK95 _ _ ?_
   refine wp_seq_k fun K120 hK120 => ?_
   refine wp_seq_k fun K121 hK121 => wp_region_lit ?_
   refine wms 1 h97 rfl fun a122 h122 => ?_; clear h97
   have hl123 : ml93.l.length ≤ 140737488355328 := (h122.sh.own 0 rfl).len
   refine wv h122 (r_len (s := ml93) (n := ml93.l.length) sl_24 rfl rfl (fun w h => (h.own 0 rfl)) rfl) rfl rfl fun a124 h124 => ?_; clear h122
   refine wv h124 (r_eqlN (p := ml93.l.length) (q := 0) rfl rfl rfl) rfl rfl fun a125 h125 => ?_; clear h124
   refine wpList_nil (hK121 _ _ ?_)
   refine x_cond h125 rfl (fun hb126 => ?_) (fun hb126 => ?_)
   ·
    have hp126 : ml93.l.length = 0 := of_decide_eq_true hb126
    refine wp_seq_k fun K127 hK127 => ?_
    refine x_tail 10 [] (by kernel_rfl) (by kernel_rfl) h125 fun Z128 hZ128 => ?_
    have hq128 := h125.fr
    refine wq_val hq128 (r_move rfl rfl) (wanted_none rfl _) rfl rfl fun a129 hq129 => ?_; clear hq128
    refine wq_val hq129 (r_move rfl rfl) (wanted_none rfl _) rfl rfl fun a130 hq130 => ?_; clear hq129
    refine wq_val hq130 (r_nil rfl rfl) (wanted_none rfl _) rfl rfl fun a131 hq131 => ?_; clear hq130
    refine wq_val hq131 (r_fieldB (r := 6) fl_104_3 rfl rfl rfl) (wanted_none rfl _) rfl rfl fun a132 hq132 => ?_; clear hq131
    refine wq_val hq132 (r_ldbR ti_24 rfl rfl (fun w h => h.rblk 5 rfl) rfl) (wanted_none rfl _) rfl rfl fun a133 hq133 => ?_; clear hq132
    refine wq_val hq133 (r_move rfl rfl) (wanted_none rfl _) rfl rfl fun a134 hq134 => ?_; clear hq133
    refine wq_val hq134 (r_nil rfl rfl) (wanted_none rfl _) rfl rfl fun a135 hq135 => ?_; clear hq134
    refine wq_val hq135 (r_fieldB (r := 8) fl_104_5 rfl rfl rfl) (wanted_none rfl _) rfl rfl fun a136 hq136 => ?_; clear hq135
    refine wq_val hq136 (r_ldbR ti_24 rfl rfl (fun w h => h.rblk 5 rfl) rfl) (wanted_none rfl _) rfl rfl fun a137 hq137 => ?_; clear hq136
    refine wq_val hq137 (r_build (cs := [.int .i64 2, x.words.v, x.prints.v]) rfl rfl (by obtain ⟨A139, n139, c139, (e139 : x.prints.v = _)⟩ := ((h125.sh.at 1 rfl)).form; rw [e139]; obtain ⟨A138, n138, c138, (e138 : x.words.v = _)⟩ := ((h125.sh.at 3 rfl)).form; rw [e138]; kernel_rfl)) (wanted_none rfl _) rfl rfl fun a140 hq140 => ?_; clear hq137
    refine wpQuiet_nil (hZ128 _ fun w141 hw141 => ?_)
    have h141 : St 124 (fun _ => False) W a140 w141 _ _ := ⟨hq140, hw141⟩
    clear hq140 hw141 h125
    have h142 := h141.sel (L' := [.blk b7 49 [states.v, keys.v, heads.v, before.v, ends.v, .bool full], .own 56 ends, .at_ x.words, .at_ x.prints, .own 3 ml93, .at_ x.owner, .at_ x.thr, .rblk x.g 104 [code.v, words.v, .int .i64 ((Lk : Nat) : Int), .int .i64 ((R : Nat) : Int), .int .i64 mode, x.thr.v, x.words.v, x.owner.v, x.prints.v, .bool false], .own 94 states, .deep 24 keys, .own 3 heads, .own 3 before, .rd1 x44, .blk b3 28 [code.v, words.v, .int .i64 ((Lk : Nat) : Int), .int .i64 ((R : Nat) : Int)], .at_ code, .at_ words]) [6, 12, 3, 1, 0, 2, 4, 5, 7, 8, 9, 10, 11, 13, 14, 15] (by decide) ⟨rfl, rfl, rfl, rfl, rfl, rfl, rfl, rfl, rfl, rfl, rfl, rfl, rfl, rfl, rfl, rfl, trivial⟩
    have hp143 := h142.sh.passL (Lp := [.blk b7 49 [states.v, keys.v, heads.v, before.v, ends.v, .bool full], .own 56 ends, .at_ x.words, .at_ x.prints])
    refine wl_ex (x_call h142 bd_105 rfl rfl rfl rfl rfl (putO_c _ _ (⟨2, x.words, x.prints⟩ : OutL) ends _ _ _ _ _ _ hp143 (by omega))) (wanted_none rfl _) ?_
    rintro a144 w144 ⟨_, ⟨rfl, en144, hpr144, hs144⟩, hf144⟩
    have h144 : St 124 (fun _ => False) W a144 w144 _ [.blk b7 49 [states.v, keys.v, heads.v, before.v, en144.v, .bool full], .own 56 en144, .at_ x.words, .at_ x.prints, .own 3 ml93, .at_ x.owner, .at_ x.thr, .rblk x.g 104 [code.v, words.v, .int .i64 ((Lk : Nat) : Int), .int .i64 ((R : Nat) : Int), .int .i64 mode, x.thr.v, x.words.v, x.owner.v, x.prints.v, .bool false], .own 94 states, .deep 24 keys, .own 3 heads, .own 3 before, .rd1 x44, .blk b3 28 [code.v, words.v, .int .i64 ((Lk : Nat) : Int), .int .i64 ((R : Nat) : Int)], .at_ code, .at_ words] := ⟨hf144, h142.sh.backL (Lp := [.blk b7 49 [states.v, keys.v, heads.v, before.v, ends.v, .bool full], .own 56 ends, .at_ x.words, .at_ x.prints]) hs144 (by intro A hA b hb; simp only [List.mem_cons, List.not_mem_nil, or_false] at hA; rcases hA with rfl | rfl | rfl | rfl <;> first | exact (hb : False).elim | exact Flat.noRd hb | exact .inl ⟨_, List.mem_cons_self .., .inr hb⟩ | exact (hpr144.rd hb).elim (fun h => .inl ⟨_, List.mem_of_getElem? (i := 1) rfl, .inr h⟩) (fun h => h.elim (fun h => .inl ⟨_, List.mem_of_getElem? (i := 2) rfl, .inr h⟩) (fun h => .inl ⟨_, List.mem_of_getElem? (i := 3) rfl, .inr h⟩)) | exact .inl ⟨_, by simp, .inr hb⟩)⟩
    clear hf144 hs144
    clear h142
    refine wpList_nil (hK127 _ _ ?_)
    refine wp_exit ?_
    refine hK70 _ _ ?_
    refine wp_region_lit ?_
    refine wms 1 h144 rfl fun a145 h145 => ?_; clear h144
    refine wv h145 (r_addN (p := i) (q := 1) rfl rfl rfl (show i + 1 < 9223372036854775808 from (by omega))) rfl rfl fun a146 h146 => ?_; clear h145
    refine wms 1 h146 rfl fun a147 h147 => ?_; clear h146
    refine wpList_nil ?_
    have hps := hpr144.sorted hinv.sorted
    have hinvN := hinv.stuck (by simpa using hil) (by rw [hxi, ← ended_eq hwx.thl]; assumption) (by rw [hxi, ← hmv]; exact List.eq_nil_of_length_eq_zero (by omega)) hps.1 (by intro y; rw [hps.2 y, hxi]; rfl)
    obtain ⟨hsdN, hle9⟩ := hsd.put hpr144 (fun b hb => hd4 b (hb.elim (fun hb => .inr (.inr (.inl hb))) (fun hb => .inr (.inr (.inr (.inr hb))))))
    have helN : en144.l.length ≤ 16 * (i + 1) := by omega
    have hiN : i + 1 ≤ states.l.length := by omega
    refine x_again ⟨_, ?_, (i + 1), full, states, keys, heads, before, en144, ?_, ?_, ?_, ?_, ?_, ?_, ?_, h147.nrm ⟨rfl, rfl, trivial⟩ [0, 8, 9, 10, 11, 12, 1, 13, 14, 15] (by decide) ⟨rfl, rfl, rfl, rfl, rfl, rfl, rfl, rfl, rfl, rfl, trivial⟩, rfl⟩
    · rw [hm51]; omega
    · first | exact hiN | omega
    · first | exact hinvN | exact hinv
    · first | exact hkeyN | exact hkey
    · first | exact hhokN | exact hhok
    · first | exact hlenN | exact hlen
    · first | exact hsdN | exact hsd
    · first | exact helN | omega
   have hp126 : ¬ (ml93.l.length = 0) := of_decide_eq_false hb126
   refine wp_skip ?_
   refine hK120 _ _ ?_
   refine wp_seq_k fun K148 hK148 => wp_region_lit ?_
   refine wms 1 h125 rfl fun a149 h149 => ?_; clear h125
   refine wpList_nil (hK148 _ _ ?_)
   refine wp_block ?_
   have hmv0 : ml93.l.length ≠ 0 := by omega
   refine x_loop (fun m a w => ∃ (k : Nat) (full2 : Bool) (states2 : Ls SD) (keys2 : Ls (Ls Int)) (heads2 before2 : Ls Int) (ends2 : Ls OutL), (k ≤ ml93.l.length) ∧ (Inv (pgN code words Lk R) mode (states2.l.map SD.st) (ends2.l.map OutL.out) full2 i) ∧ (keys2.l.map (·.l) = (states2.l.map SD.st).map keyOf) ∧ (HeadsOK (keys2.l.map (·.l)) heads2.l before2.l) ∧ (states2.l.length = keys2.l.length) ∧ (SData W 104 [code.v, words.v, .int .i64 ((Lk : Nat) : Int), .int .i64 ((R : Nat) : Int), .int .i64 mode] states2.l ends2.l) ∧ (ends2.l.length ≤ 16 * i + k) ∧ (states.l.length ≤ states2.l.length) ∧ (nth (states2.l.map SD.st) i = x.st) ∧ (x ∈ states2.l) ∧ (full2 = false → ∀ q, q < k → HandM (pgN code words Lk R) mode (states2.l.map SD.st) (ends2.l.map OutL.out) x.st (nth ml93.l q)) ∧ St 124 (fun _ => False) W a w [(5, .pointer (some ⟨b7, 0, none⟩)), (8, .int .i64 ((i : Nat) : Int)), (9, .pointer (some ⟨x.g, 0, none⟩)), (11, ml93.v), (12, .int .i64 ((k : Nat) : Int))] [.own 3 ml93, .at_ x.prints, .at_ x.owner, .at_ x.words, .at_ x.thr, .rblk x.g 104 [code.v, words.v, .int .i64 ((Lk : Nat) : Int), .int .i64 ((R : Nat) : Int), .int .i64 mode, x.thr.v, x.words.v, x.owner.v, x.prints.v, .bool false], .blk b7 49 [states2.v, keys2.v, heads2.v, before2.v, ends2.v, .bool full2], .own 94 states2, .deep 24 keys2, .own 3 heads2, .own 3 before2, .rd1 x44, .own 56 ends2, .blk b3 28 [code.v, words.v, .int .i64 ((Lk : Nat) : Int), .int .i64 ((R : Nat) : Int)], .at_ code, .at_ words] ∧ m = ml93.l.length - k) ⟨_, 0, full, states, keys, heads, before, ends, (by omega), (hinv), (hkey), (hhok), (hlen), (hsd), (by omega), (Nat.le_refl _), (hxi), (hxm), (fun _ q hq => absurd hq (by omega)), h149.nrm ⟨rfl, rfl, rfl, rfl, rfl, trivial⟩ [0, 1, 2, 3, 4, 5, 6, 7, 8, 9, 10, 11, 12, 13, 14, 15] (by decide) ⟨rfl, rfl, rfl, rfl, rfl, rfl, rfl, rfl, rfl, rfl, rfl, rfl, rfl, rfl, rfl, rfl, trivial⟩, rfl⟩ ?_
   clear h149
   rintro m150 a150 w150 ⟨k, full2, states2, keys2, heads2, before2, ends2, hk, hinv2, hkey2, hhok2, hlen2, hsd2, hel2, hle2, hx2, hrd2, hhand, h150, hm150⟩
   refine wp_seq_k fun K151 hK151 => ?_
   refine wp_seq_k fun K152 hK152 => wp_region_lit ?_
   refine wms 2 h150 rfl fun a153 h153 => ?_; clear h150
   refine wv h153 (r_len (s := ml93) (n := ml93.l.length) sl_24 rfl rfl (fun w h => (h.own 0 rfl)) rfl) rfl rfl fun a154 h154 => ?_; clear h153
   refine wv h154 (r_lssN (p := k) (q := ml93.l.length) rfl rfl rfl) rfl rfl fun a155 h155 => ?_; clear h154
   refine wms 1 h155 rfl fun a156 h156 => ?_; clear h155
   rcases Bool.eq_false_or_eq_true (decide (k < ml93.l.length)) with hb157 | hb157
   ·
    have hp157 : k < ml93.l.length := of_decide_eq_true hb157
    refine wl_val h156 (r_move rfl rfl) (wanted_yes h156.fr rfl rfl rfl rfl hb157) rfl rfl fun a158 h158 => ?_; clear h156
    refine wl_val h158 (r_nil rfl rfl) (wanted_yes h158.fr rfl rfl rfl rfl hb157) rfl rfl fun a159 h159 => ?_; clear h158
    refine wl_val h159 (r_fieldB (r := 5) fl_49_5 rfl rfl rfl) (wanted_yes h159.fr rfl rfl rfl rfl hb157) rfl rfl fun a160 h160 => ?_; clear h159
    refine wl_val h160 (r_ldb (i := 6) ti_4 rfl rfl rfl rfl) (wanted_yes h160.fr rfl rfl rfl rfl hb157) rfl rfl fun a161 h161 => ?_; clear h160
    refine wl_val h161 (r_not rfl rfl) (wanted_yes h161.fr rfl rfl rfl rfl hb157) rfl rfl fun a162 h162 => ?_; clear h161
    refine wv h162 (r_pickT rfl rfl hb157 rfl) rfl rfl fun a163 h163 => ?_; clear h162
    refine wpList_nil (hK152 _ _ ?_)
    refine x_cond h163 rfl (fun hb164 => ?_) (fun hb164 => ?_)
    ·
     have hn164 : full2 = false := (Bool.not_eq_true' _).mp hb164
     refine wp_skip ?_
     refine hK151 _ _ ?_
     refine wp_seq_k fun K165 hK165 => ?_
     refine wp_block ?_
     refine wp_seq_k fun K166 hK166 => wp_region_lit ?_
     refine wms 1 h163 rfl fun a167 h167 => ?_; clear h163
     refine wl_ex (x_call h167 bd_106 rfl rfl rfl rfl rfl (copy_c x.g x.thr x.words x.owner x.prints _ _ _ _ _ _ _ (h167.sh.rblk 5 rfl) (h167.sh.at 4 rfl) (h167.sh.at 3 rfl) (h167.sh.at 2 rfl) (h167.sh.at 1 rfl) (by rw [hwx.thl]; exact hcl) (fun i hi => by have h9 := hwx.regs i hi; omega) hwx.wait hxl)) (wanted_none rfl _) ?_
     rintro a168 w168 ⟨_, ⟨g168, rows168, vt168, w168w, o168w, p168w, rfl, hrw168, hw168, ho168, hp168, hs168⟩, hf168⟩
     have h168 := (⟨hf168, h167.sh.call hs168 (by intro A hA b hb; simp only [List.mem_cons, List.not_mem_nil, or_false] at hA; rcases hA with rfl | rfl | rfl | rfl | rfl | rfl <;> first | exact (hb : False).elim | exact Flat.noRd hb | exact bigNoRd hb)⟩ : St 124 (fun _ => False) W a168 w168 _ _)
     clear hf168 hs168
     clear h167
     refine wms 1 h168 rfl fun a169 h169 => ?_; clear h168
     refine wpList_nil (hK166 _ _ ?_)
     refine wp_seq_k fun K170 hK170 => wp_region_lit ?_
     refine wms 3 h169 rfl fun a171 h171 => ?_; clear h169
     refine wv h171 (r_ixN (s := ml93) (q := k) sl_24 ti_3 rfl rfl rfl (fun w h => (h.own 6 rfl)) (show k < ml93.l.length from (by omega))) rfl rfl fun a172 h172 => ?_; clear h171
     refine wv h172 (r_lde (s := ml93) (i := k) (v := .int .i64 (nth ml93.l k)) ti_3 rfl rfl rfl (fun w h => (h.own 6 rfl)) (show k < ml93.l.length from (by omega)) (Nat.le_of_ble_eq_true rfl) rfl) rfl rfl fun a173 h173 => ?_; clear h172
     obtain ⟨t, kk, htt, hkk, hmt⟩ := mem_moves.1 (by rw [← hmv]; exact nth_mem ml93.l k (by omega))
     rw [pgN_len] at htt
     have hk3 : kk ≤ 3 := mvOK_le hkk ((hws.th t (by rw [pgN_len]; exact htt)).wait)
     obtain ⟨hrl, hra⟩ := rows_at hrw168
     obtain ⟨hr1, hr2, hr3⟩ := hra t (by rw [hwx.thl]; exact htt)
     have hpcx := hwx.pc t htt
     have h400 : (nth code.l t).l.length ≤ 400 := by have h9 := hok.len t (by rw [pgN_len]; exact htt); rwa [pgN_code htt] at h9
     have hkw : kk ≤ (nth rows168 t).wait.l.length ∧ (kk = 0 → (nth x.thr.l t).pc < (nth code.l t).l.length) := by rw [hr3]; rw [pgN_code htt, st_view (by rw [hwx.thl]; exact htt)] at hkk; rcases mvOK_k hkk with ⟨e9, h9, _⟩ | ⟨h9, h8, _⟩; exact ⟨by omega, fun _ => h9⟩; exact ⟨h8, fun e => by omega⟩
     have h174 := h173.same (d := 107) (v' := .int .i64 ((8 * t + kk : Nat) : Int)) rfl (by rw [hmt])
     clear h173
     have h175 := h174.sel (L' := [.blk g168 104 [code.v, words.v, .int .i64 ((Lk : Nat) : Int), .int .i64 ((R : Nat) : Int), .int .i64 mode, vt168, w168w.v, o168w.v, p168w.v, .bool false], .own 101 (⟨vt168, rows168.map ThL.toV⟩ : Ls ThV), .big (rowsA 3 139 rows168), .own 3 w168w, .own 3 o168w, .own 3 p168w, .at_ code, .own 3 ml93, .at_ x.prints, .at_ x.owner, .at_ x.words, .at_ x.thr, .rblk x.g 104 [code.v, words.v, .int .i64 ((Lk : Nat) : Int), .int .i64 ((R : Nat) : Int), .int .i64 mode, x.thr.v, x.words.v, x.owner.v, x.prints.v, .bool false], .blk b7 49 [states2.v, keys2.v, heads2.v, before2.v, ends2.v, .bool full2], .own 94 states2, .deep 24 keys2, .own 3 heads2, .own 3 before2, .rd1 x44, .own 56 ends2, .blk b3 28 [code.v, words.v, .int .i64 ((Lk : Nat) : Int), .int .i64 ((R : Nat) : Int)], .at_ words]) [0, 1, 2, 3, 4, 5, 20, 6, 7, 8, 9, 10, 11, 12, 13, 14, 15, 16, 17, 18, 19, 21] (by decide) ⟨rfl, rfl, rfl, rfl, rfl, rfl, rfl, rfl, rfl, rfl, rfl, rfl, rfl, rfl, rfl, rfl, rfl, rfl, rfl, rfl, rfl, rfl, trivial⟩
     have hp176 := h175.sh.passL (Lp := [.blk g168 104 [code.v, words.v, .int .i64 ((Lk : Nat) : Int), .int .i64 ((R : Nat) : Int), .int .i64 mode, vt168, w168w.v, o168w.v, p168w.v, .bool false], .own 101 (⟨vt168, rows168.map ThL.toV⟩ : Ls ThV), .big (rowsA 3 139 rows168), .own 3 w168w, .own 3 o168w, .own 3 p168w, .at_ code])
     refine wl_ex (x_call h175 bd_62 rfl rfl rfl rfl rfl (do_tk _ g168 (8 * t + kk) t kk code vt168 rows168 w168w o168w p168w _ _ _ mode false _ hp176 (by omega) (by omega) (by rw [hrl, hwx.thl]; exact htt) htt (by omega) (by rw [hr1]; omega) (by rw [hr3]; exact hwx.wait t (by rw [hwx.thl]; exact htt)) hkw.1 (by rw [hp168]; exact hxl.2.2) (by rw [ho168]; have h9 := hwx.owner; omega) (by rw [hr3, ho168, hw168]; exact hwx.wt t (by rw [hwx.thl]; exact htt)) (fun e => by rw [hr1, hr2, hw168, ho168, hwx.regs t (by rw [hwx.thl]; exact htt), hwx.words, hwx.owner]; exact insR_N hok htt hpcx.1 (hkw.2 e)))) (wanted_none rfl _) ?_
     rintro a177 w177 ⟨_, ⟨rfl, rows177, w177w, o177w, p177w, f177w, y177, hy177, hyr177, hyw177, hyo177, hyp177, hyf177, hs177⟩, hf177⟩
     change Sh _ _ _ [.blk g168 104 [code.v, words.v, .int .i64 ((Lk : Nat) : Int), .int .i64 ((R : Nat) : Int), .int .i64 mode, vt168, w177w.v, o177w.v, p177w.v, .bool f177w], .own 101 (⟨vt168, rows177.map ThL.toV⟩ : Ls ThV), .big (rowsA 3 139 rows177), .own 3 w177w, .own 3 o177w, .own 3 p177w, .at_ code] at hs177
     have h177 : St 124 (fun _ => False) W a177 w177 _ [.blk g168 104 [code.v, words.v, .int .i64 ((Lk : Nat) : Int), .int .i64 ((R : Nat) : Int), .int .i64 mode, vt168, w177w.v, o177w.v, p177w.v, .bool f177w], .own 101 (⟨vt168, rows177.map ThL.toV⟩ : Ls ThV), .big (rowsA 3 139 rows177), .own 3 w177w, .own 3 o177w, .own 3 p177w, .at_ code, .own 3 ml93, .at_ x.prints, .at_ x.owner, .at_ x.words, .at_ x.thr, .rblk x.g 104 [code.v, words.v, .int .i64 ((Lk : Nat) : Int), .int .i64 ((R : Nat) : Int), .int .i64 mode, x.thr.v, x.words.v, x.owner.v, x.prints.v, .bool false], .blk b7 49 [states2.v, keys2.v, heads2.v, before2.v, ends2.v, .bool full2], .own 94 states2, .deep 24 keys2, .own 3 heads2, .own 3 before2, .rd1 x44, .own 56 ends2, .blk b3 28 [code.v, words.v, .int .i64 ((Lk : Nat) : Int), .int .i64 ((R : Nat) : Int)], .at_ words] := ⟨hf177, h175.sh.backL (Lp := [.blk g168 104 [code.v, words.v, .int .i64 ((Lk : Nat) : Int), .int .i64 ((R : Nat) : Int), .int .i64 mode, vt168, w168w.v, o168w.v, p168w.v, .bool false], .own 101 (⟨vt168, rows168.map ThL.toV⟩ : Ls ThV), .big (rowsA 3 139 rows168), .own 3 w168w, .own 3 o168w, .own 3 p168w, .at_ code]) hs177 (by intro A hA b hb; simp only [List.mem_cons, List.not_mem_nil, or_false] at hA; rcases hA with rfl | rfl | rfl | rfl | rfl | rfl | rfl <;> first | exact (hb : False).elim | exact Flat.noRd hb | exact .inl ⟨_, List.mem_cons_self .., .inr hb⟩ | exact bigNoRd hb | exact .inl ⟨_, List.mem_of_getElem? (i := 6) rfl, .inr hb⟩ | exact .inl ⟨_, by simp, .inr hb⟩)⟩
     clear hf177 hs177
     clear h175
     refine wpList_nil (hK170 _ _ ?_)
     refine wp_seq_k fun K178 hK178 => wp_region_lit ?_
     refine wms 1 h177 rfl fun a179 h179 => ?_; clear h177
     refine wv h179 (r_nil rfl rfl) rfl rfl fun a180 h180 => ?_; clear h179
     refine wv h180 (r_fieldB (r := 9) fl_104_6 rfl rfl rfl) rfl rfl fun a181 h181 => ?_; clear h180
     refine wv h181 (r_ldb (i := 0) ti_4 rfl rfl rfl rfl) rfl rfl fun a182 h182 => ?_; clear h181
     refine wpList_nil (hK178 _ _ ?_)
     refine x_cond h182 rfl (fun hb183 => ?_) (fun hb183 => ?_)
     ·
      skip
      obtain ⟨hya, _⟩ := st_step (x := x) (z := x) (rows' := rows177) htt hwx.thl hrw168 hw168 ho168 hp168 hy177
      have hfy : (stepT (pgN code words Lk R) mode x.st t kk).fell = true := by rw [← hya, ← hyf177]; assumption
      have hyps : p177w.l = (stepT (pgN code words Lk R) mode x.st t kk).prints := by rw [hyp177, hya]
      refine wp_region_lit ?_
      refine wms 2 h182 rfl fun a184 h184 => ?_; clear h182
      refine wv h184 (r_nil rfl rfl) rfl rfl fun a185 h185 => ?_; clear h184
      refine wv h185 (r_fieldB (r := 8) fl_104_5 rfl rfl rfl) rfl rfl fun a186 h186 => ?_; clear h185
      refine wv h186 (r_ldb (i := 0) ti_24 rfl rfl rfl rfl) rfl rfl fun a187 h187 => ?_; clear h186
      refine wv h187 (r_build (cs := [.int .i64 1, (.slice none 0 0), p177w.v]) rfl rfl (by obtain ⟨A188, n188, c188, (e188 : p177w.v = _)⟩ := ((h187.sh.own 5 rfl)).form; rw [e188]; kernel_rfl)) rfl rfl fun a189 h189 => ?_; clear h187
      have h190 := h189.addRd (A := .at_ (⟨.slice none 0 0, []⟩ : Ls Int)) (LsNil _) (fun b hb => hb) (fun b hb => (nilOn hb).elim)
      clear h189
      have hnw191 := h190.sh.own_new 6 rfl
      have h191 : St 124 (fun _ => False) W a189 w177 _ _ := ⟨h190.fr, h190.sh.share 6 rfl⟩
      clear h190
      have h192 := h191.sel (L' := [.blk b7 49 [states2.v, keys2.v, heads2.v, before2.v, ends2.v, .bool full2], .own 56 ends2, .at_ (⟨.slice none 0 0, []⟩ : Ls Int), .at_ p177w, .blk g168 104 [code.v, words.v, .int .i64 ((Lk : Nat) : Int), .int .i64 ((R : Nat) : Int), .int .i64 mode, vt168, w177w.v, o177w.v, p177w.v, .bool f177w], .own 101 (⟨vt168, rows177.map ThL.toV⟩ : Ls ThV), .big (rowsA 3 139 rows177), .own 3 w177w, .own 3 o177w, .at_ code, .own 3 ml93, .at_ x.prints, .at_ x.owner, .at_ x.words, .at_ x.thr, .rblk x.g 104 [code.v, words.v, .int .i64 ((Lk : Nat) : Int), .int .i64 ((R : Nat) : Int), .int .i64 mode, x.thr.v, x.words.v, x.owner.v, x.prints.v, .bool false], .own 94 states2, .deep 24 keys2, .own 3 heads2, .own 3 before2, .rd1 x44, .blk b3 28 [code.v, words.v, .int .i64 ((Lk : Nat) : Int), .int .i64 ((R : Nat) : Int)], .at_ words]) [14, 20, 0, 6, 1, 2, 3, 4, 5, 7, 8, 9, 10, 11, 12, 13, 15, 16, 17, 18, 19, 21, 22] (by decide) ⟨rfl, rfl, rfl, rfl, rfl, rfl, rfl, rfl, rfl, rfl, rfl, rfl, rfl, rfl, rfl, rfl, rfl, rfl, rfl, rfl, rfl, rfl, rfl, trivial⟩
      have hp193 := h192.sh.passL (Lp := [.blk b7 49 [states2.v, keys2.v, heads2.v, before2.v, ends2.v, .bool full2], .own 56 ends2, .at_ (⟨.slice none 0 0, []⟩ : Ls Int), .at_ p177w])
      refine wl_ex (x_call h192 bd_105 rfl rfl rfl rfl rfl (putO_c _ _ (⟨1, (⟨.slice none 0 0, []⟩ : Ls Int), p177w⟩ : OutL) ends2 _ _ _ _ _ _ hp193 (by omega))) (wanted_none rfl _) ?_
      rintro a194 w194 ⟨_, ⟨rfl, en194, hpr194, hs194⟩, hf194⟩
      have h194 : St 124 (fun _ => False) W a194 w194 _ [.blk b7 49 [states2.v, keys2.v, heads2.v, before2.v, en194.v, .bool full2], .own 56 en194, .at_ (⟨.slice none 0 0, []⟩ : Ls Int), .at_ p177w, .blk g168 104 [code.v, words.v, .int .i64 ((Lk : Nat) : Int), .int .i64 ((R : Nat) : Int), .int .i64 mode, vt168, w177w.v, o177w.v, p177w.v, .bool f177w], .own 101 (⟨vt168, rows177.map ThL.toV⟩ : Ls ThV), .big (rowsA 3 139 rows177), .own 3 w177w, .own 3 o177w, .at_ code, .own 3 ml93, .at_ x.prints, .at_ x.owner, .at_ x.words, .at_ x.thr, .rblk x.g 104 [code.v, words.v, .int .i64 ((Lk : Nat) : Int), .int .i64 ((R : Nat) : Int), .int .i64 mode, x.thr.v, x.words.v, x.owner.v, x.prints.v, .bool false], .own 94 states2, .deep 24 keys2, .own 3 heads2, .own 3 before2, .rd1 x44, .blk b3 28 [code.v, words.v, .int .i64 ((Lk : Nat) : Int), .int .i64 ((R : Nat) : Int)], .at_ words] := ⟨hf194, h192.sh.backL (Lp := [.blk b7 49 [states2.v, keys2.v, heads2.v, before2.v, ends2.v, .bool full2], .own 56 ends2, .at_ (⟨.slice none 0 0, []⟩ : Ls Int), .at_ p177w]) hs194 (by intro A hA b hb; simp only [List.mem_cons, List.not_mem_nil, or_false] at hA; rcases hA with rfl | rfl | rfl | rfl <;> first | exact (hb : False).elim | exact Flat.noRd hb | exact .inl ⟨_, List.mem_cons_self .., .inr hb⟩ | exact (hpr194.rd hb).elim (fun h => .inl ⟨_, List.mem_of_getElem? (i := 1) rfl, .inr h⟩) (fun h => h.elim (fun h => .inl ⟨_, List.mem_of_getElem? (i := 2) rfl, .inr h⟩) (fun h => .inl ⟨_, List.mem_of_getElem? (i := 3) rfl, .inr h⟩)) | exact .inl ⟨_, by simp, .inr hb⟩)⟩
      clear hf194 hs194
      clear h192
      refine wpList_nil (hK165 _ _ ?_)
      have h195 : St 124 (fun _ => False) W a194 w194 [(5, .pointer (some ⟨b7, 0, none⟩)), (8, .int .i64 ((i : Nat) : Int)), (9, .pointer (some ⟨x.g, 0, none⟩)), (11, ml93.v), (12, .int .i64 ((k : Nat) : Int))] [.blk b7 49 [states2.v, keys2.v, heads2.v, before2.v, en194.v, .bool full2], .own 56 en194, .at_ (⟨.slice none 0 0, []⟩ : Ls Int), .at_ p177w, .blk g168 104 [code.v, words.v, .int .i64 ((Lk : Nat) : Int), .int .i64 ((R : Nat) : Int), .int .i64 mode, vt168, w177w.v, o177w.v, p177w.v, .bool f177w], .own 101 (⟨vt168, rows177.map ThL.toV⟩ : Ls ThV), .big (rowsA 3 139 rows177), .own 3 w177w, .own 3 o177w, .at_ code, .own 3 ml93, .at_ x.prints, .at_ x.owner, .at_ x.words, .at_ x.thr, .rblk x.g 104 [code.v, words.v, .int .i64 ((Lk : Nat) : Int), .int .i64 ((R : Nat) : Int), .int .i64 mode, x.thr.v, x.words.v, x.owner.v, x.prints.v, .bool false], .own 94 states2, .deep 24 keys2, .own 3 heads2, .own 3 before2, .rd1 x44, .blk b3 28 [code.v, words.v, .int .i64 ((Lk : Nat) : Int), .int .i64 ((R : Nat) : Int)], .at_ words] := h194.nrm ⟨rfl, rfl, rfl, rfl, rfl, trivial⟩ [0, 1, 2, 3, 4, 5, 6, 7, 8, 9, 10, 11, 12, 13, 14, 15, 16, 17, 18, 19, 20, 21, 22] (by decide) ⟨rfl, rfl, rfl, rfl, rfl, rfl, rfl, rfl, rfl, rfl, rfl, rfl, rfl, rfl, rfl, rfl, rfl, rfl, rfl, rfl, rfl, rfl, rfl, trivial⟩
      clear h194
      refine wp_region_lit ?_
      refine wms 1 h195 rfl fun a196 h196 => ?_; clear h195
      refine wv h196 (r_addN (p := k) (q := 1) rfl rfl rfl (show k + 1 < 9223372036854775808 from (by omega))) rfl rfl fun a197 h197 => ?_; clear h196
      refine wms 1 h197 rfl fun a198 h198 => ?_; clear h197
      refine wpList_nil ?_
      have hps := hpr194.sorted hinv2.sorted
      have hinvM := hinv2.addOut (.fell (hinv.reach _ hxs) (by rw [pgN_len]; exact htt) hkk hfy) hps.1 (by intro y; rw [hps.2 y]; simp only [OutL.out, hyps])
      obtain ⟨hsdM, hle9⟩ := hsd2.put hpr194 (fun b hb => hb.elim (fun hb => (nilOn hb).elim) (fun hb => (hnw191 b hb).elim (fun h => h.elim) id))
      have hkeyM := hkey2; have hhokM := hhok2; have hlenM := hlen2; have hleM := hle2; have hxM := hx2; have hrdM := hrd2
      have helM : en194.l.length ≤ 16 * i + (k + 1) := by omega
      have hhandM : full2 = false → ∀ q, q < k + 1 → HandM (pgN code words Lk R) mode (states2.l.map SD.st) (en194.l.map OutL.out) x.st (nth ml93.l q) := by
       intro hf q hq; rcases Nat.lt_or_ge q k with h9 | h9; exact (hhand hf q h9).mono (fun _ h => h) (fun y hy => (hps.2 y).2 (.inl hy)); obtain rfl : q = k := (by omega); exact HandM.of hmt hk3 (by unfold Handled; rw [if_pos hfy]; exact (hps.2 _).2 (.inr (by simp only [OutL.out, hyps])))
      refine x_again ⟨_, ?_, (k + 1), full2, states2, keys2, heads2, before2, en194, ?_, ?_, ?_, ?_, ?_, ?_, ?_, ?_, ?_, ?_, ?_, h198.nrm ⟨rfl, rfl, rfl, rfl, rfl, trivial⟩ [10, 11, 12, 13, 14, 15, 0, 16, 17, 18, 19, 20, 1, 21, 9, 22] (by decide) ⟨rfl, rfl, rfl, rfl, rfl, rfl, rfl, rfl, rfl, rfl, rfl, rfl, rfl, rfl, rfl, rfl, trivial⟩, rfl⟩
      · rw [hm150]; first | omega | (simp only [lens9]; omega)
      · omega
      · exact hinvM
      · exact hkeyM
      · exact hhokM
      · exact hlenM
      · exact hsdM
      · exact helM
      · exact hleM
      · exact hxM
      · exact hrdM
      · exact hhandM
     refine wp_region_lit ?_
     refine wms 2 h182 rfl fun a199 h199 => ?_; clear h182
     have hff200 : f177w = false := by assumption
     rw [hff200] at h199
     obtain ⟨x200, hx200⟩ : ∃ x, x = (⟨g168, 104, [code.v, words.v, .int .i64 ((Lk : Nat) : Int), .int .i64 ((R : Nat) : Int), .int .i64 mode], ⟨vt168, rows177⟩, w177w, o177w, p177w, false⟩ : SD) := ⟨_, rfl⟩
     have hfz200 := (Sh.freeze (hd := [code.v, words.v, .int .i64 ((Lk : Nat) : Int), .int .i64 ((R : Nat) : Int), .int .i64 mode]) (rows := rows177) (words := w177w) (owner := o177w) (prints := p177w) (vt := vt168) h199.sh)
     rw [← hx200] at hfz200
     have hz200 : St 124 (fun _ => False) W a199 w177 _ [.rd1 x200, .at_ code, .own 3 ml93, .at_ x.prints, .at_ x.owner, .at_ x.words, .at_ x.thr, .rblk x.g 104 [code.v, words.v, .int .i64 ((Lk : Nat) : Int), .int .i64 ((R : Nat) : Int), .int .i64 mode, x.thr.v, x.words.v, x.owner.v, x.prints.v, .bool false], .blk b7 49 [states2.v, keys2.v, heads2.v, before2.v, ends2.v, .bool full2], .own 94 states2, .deep 24 keys2, .own 3 heads2, .own 3 before2, .rd1 x44, .own 56 ends2, .blk b3 28 [code.v, words.v, .int .i64 ((Lk : Nat) : Int), .int .i64 ((R : Nat) : Int)], .at_ words] := ⟨h199.fr, hfz200.1⟩
     clear h199
     have hg200 : g168 = x200.g := by rw [hx200]
     obtain ⟨hya, hyb⟩ := st_step (x := x) (z := x200) (rows' := rows177) htt hwx.thl hrw168 hw168 ho168 hp168 hy177
     have hst200 : x200.st = x.st.putT t (stepT (pgN code words Lk R) mode x.st t kk) := by rw [← hya]; exact hyb (by rw [hx200]) hyr177 (by rw [hx200]; exact hyw177) (by rw [hx200]; exact hyo177) (by rw [hx200]; exact hyp177)
     have hfy : (stepT (pgN code words Lk R) mode x.st t kk).fell = false := by rw [← hya, ← hyf177]; assumption
     have hry200 : Reach (pgN code words Lk R) mode x200.st := by rw [hst200]; exact .step (hinv.reach _ hxs) (by rw [pgN_len]; exact htt) hkk hfy
     have hwf200 := (hry200.wf hok).toX
     have hpy200 : x200.st.prints.length ≤ 2 * states2.l.length := by rw [hst200]; have h9 := doT_prints mode t (nth (pgN code words Lk R).code t) kk (x.st.view t); have h8 : (x.st.view t).prints.length = x.prints.l.length := rfl; have h7 : (x.st.putT t (stepT (pgN code words Lk R) mode x.st t kk)).prints = (stepT (pgN code words Lk R) mode x.st t kk).prints := rfl; rw [h7]; unfold stepT; omega
     have hpl200 : x200.prints.l.length ≤ 100000000 := by have h9 : x200.st.prints.length = x200.prints.l.length := rfl; have h8 := hinv2.len; simp at h8; omega
     have hdy200 : x200.hd = [code.v, words.v, .int .i64 ((Lk : Nat) : Int), .int .i64 ((R : Nat) : Int), .int .i64 mode] ∧ x200.E = 104 ∧ x200.fell = false ∧ ∀ b, Enc.on x200 b → W.heap.size ≤ b := ⟨by rw [hx200], by rw [hx200], by rw [hx200], fun b hb => (hfz200.2 b hb).elim (fun h => h.elim) id⟩
     have h201 := hz200.sel (L' := [.blk b7 49 [states2.v, keys2.v, heads2.v, before2.v, ends2.v, .bool full2], .own 94 states2, .deep 24 keys2, .own 3 heads2, .own 3 before2, .rd1 x200, .at_ code, .own 3 ml93, .at_ x.prints, .at_ x.owner, .at_ x.words, .at_ x.thr, .rblk x.g 104 [code.v, words.v, .int .i64 ((Lk : Nat) : Int), .int .i64 ((R : Nat) : Int), .int .i64 mode, x.thr.v, x.words.v, x.owner.v, x.prints.v, .bool false], .rd1 x44, .own 56 ends2, .blk b3 28 [code.v, words.v, .int .i64 ((Lk : Nat) : Int), .int .i64 ((R : Nat) : Int)], .at_ words]) [8, 9, 10, 11, 12, 0, 1, 2, 3, 4, 5, 6, 7, 13, 14, 15, 16] (by decide) ⟨rfl, rfl, rfl, rfl, rfl, rfl, rfl, rfl, rfl, rfl, rfl, rfl, rfl, rfl, rfl, rfl, rfl, trivial⟩
     have hp202 := h201.sh.passL (Lp := [.blk b7 49 [states2.v, keys2.v, heads2.v, before2.v, ends2.v, .bool full2], .own 94 states2, .deep 24 keys2, .own 3 heads2, .own 3 before2, .rd1 x200])
     refine wl_ex (x_call h201 bd_103 rfl rfl rfl rfl rfl (by have h9 := put_c _ b7 x200 states2 keys2 heads2 before2 ends2.v full2 _ _ _ _ _ _ hp202 hhok2 hlen2 (by have h9 := hinv2.len; simp at h9; omega) hdy200.1 hdy200.2.1 (by rw [hwf200.thl]; exact hcl) (fun i hi => by have h9 := hwf200.regs i hi; omega) hwf200.wait (by have h9 := hwf200.words; have h8 := hwf200.owner; have h7 := hpl200; omega); rw [← hg200] at h9; exact h9)) (wanted_none rfl _) ?_
     rintro a203 w203 ⟨_, ⟨rfl, st203, ke203, he203, be203, fu203, hkr203, hs203⟩, hf203⟩
     have h203 : St 124 (fun _ => False) W a203 w203 _ [.blk b7 49 [st203.v, ke203.v, he203.v, be203.v, ends2.v, .bool fu203], .own 94 st203, .deep 24 ke203, .own 3 he203, .own 3 be203, .rd1 x200, .at_ code, .own 3 ml93, .at_ x.prints, .at_ x.owner, .at_ x.words, .at_ x.thr, .rblk x.g 104 [code.v, words.v, .int .i64 ((Lk : Nat) : Int), .int .i64 ((R : Nat) : Int), .int .i64 mode, x.thr.v, x.words.v, x.owner.v, x.prints.v, .bool false], .rd1 x44, .own 56 ends2, .blk b3 28 [code.v, words.v, .int .i64 ((Lk : Nat) : Int), .int .i64 ((R : Nat) : Int)], .at_ words] := ⟨hf203, h201.sh.backL (Lp := [.blk b7 49 [states2.v, keys2.v, heads2.v, before2.v, ends2.v, .bool full2], .own 94 states2, .deep 24 keys2, .own 3 heads2, .own 3 before2, .rd1 x200]) hs203 (by intro A hA b hb; simp only [List.mem_cons, List.not_mem_nil, or_false] at hA; rcases hA with rfl | rfl | rfl | rfl | rfl | rfl <;> first | exact (hb : False).elim | exact Flat.noRd hb | exact .inl ⟨_, List.mem_cons_self .., .inr hb⟩ | exact (hkr203.rd hb).elim (fun h => .inl ⟨_, List.mem_of_getElem? (i := 1) rfl, .inr h⟩) (fun h => .inl ⟨_, List.mem_of_getElem? (i := 5) rfl, .inr h⟩) | exact .inl ⟨_, by simp, .inr hb⟩)⟩
     clear hf203 hs203
     clear h201
     refine wpList_nil (hK165 _ _ ?_)
     have h204 : St 124 (fun _ => False) W a203 w203 [(5, .pointer (some ⟨b7, 0, none⟩)), (8, .int .i64 ((i : Nat) : Int)), (9, .pointer (some ⟨x.g, 0, none⟩)), (11, ml93.v), (12, .int .i64 ((k : Nat) : Int))] [.blk b7 49 [st203.v, ke203.v, he203.v, be203.v, ends2.v, .bool fu203], .own 94 st203, .deep 24 ke203, .own 3 he203, .own 3 be203, .rd1 x200, .at_ code, .own 3 ml93, .at_ x.prints, .at_ x.owner, .at_ x.words, .at_ x.thr, .rblk x.g 104 [code.v, words.v, .int .i64 ((Lk : Nat) : Int), .int .i64 ((R : Nat) : Int), .int .i64 mode, x.thr.v, x.words.v, x.owner.v, x.prints.v, .bool false], .rd1 x44, .own 56 ends2, .blk b3 28 [code.v, words.v, .int .i64 ((Lk : Nat) : Int), .int .i64 ((R : Nat) : Int)], .at_ words] := h203.nrm ⟨rfl, rfl, rfl, rfl, rfl, trivial⟩ [0, 1, 2, 3, 4, 5, 6, 7, 8, 9, 10, 11, 12, 13, 14, 15, 16] (by decide) ⟨rfl, rfl, rfl, rfl, rfl, rfl, rfl, rfl, rfl, rfl, rfl, rfl, rfl, rfl, rfl, rfl, rfl, trivial⟩
     clear h203
     refine wp_region_lit ?_
     refine wms 1 h204 rfl fun a205 h205 => ?_; clear h204
     refine wv h205 (r_addN (p := k) (q := 1) rfl rfl rfl (show k + 1 < 9223372036854775808 from (by omega))) rfl rfl fun a206 h206 => ?_; clear h205
     refine wms 1 h206 rfl fun a207 h207 => ?_; clear h206
     refine wpList_nil ?_
     obtain ⟨hinvM, hkeyM, hlenM, hmemM, hsubM, hcM⟩ := key_put hok hkr203 hkey2 hlen2 hinv2 (by assumption) (by omega) hry200 hpy200
     have hhokM := keyRel_ok hkr203
     have hsdM : SData W 104 [code.v, words.v, .int .i64 ((Lk : Nat) : Int), .int .i64 ((R : Nat) : Int), .int .i64 mode] st203.l ends2.l := by rcases hcM with e9 | e9 <;> rw [e9]; exact hsd2; exact hsd2.more hdy200
     have helM : ends2.l.length ≤ 16 * i + (k + 1) := by omega
     have hleM : states.l.length ≤ st203.l.length := by rcases hcM with e9 | e9 <;> rw [e9]; exact hle2; simp; omega
     have hxM : nth (st203.l.map SD.st) i = x.st := by rcases hcM with e9 | e9 <;> rw [e9]; exact hx2; rw [List.map_append, nth_left _ _ _ (by simp; omega)]; exact hx2
     have hrdM : x ∈ st203.l := by rcases hcM with e9 | e9 <;> rw [e9]; exact hrd2; simp [hrd2]
     have hhandM : fu203 = false → ∀ q, q < k + 1 → HandM (pgN code words Lk R) mode (st203.l.map SD.st) (ends2.l.map OutL.out) x.st (nth ml93.l q) := by
      intro hf q hq; rcases Nat.lt_or_ge q k with h9 | h9; exact (hhand (by assumption) q h9).mono hsubM (fun _ h => h); obtain rfl : q = k := (by omega); exact HandM.of hmt hk3 (by unfold Handled; rw [if_neg (by rw [hfy]; decide)]; rw [← hst200]; exact hmemM)
     refine x_again ⟨_, ?_, (k + 1), fu203, st203, ke203, he203, be203, ends2, ?_, ?_, ?_, ?_, ?_, ?_, ?_, ?_, ?_, ?_, ?_, h207.nrm ⟨rfl, rfl, rfl, rfl, rfl, trivial⟩ [7, 8, 9, 10, 11, 12, 0, 1, 2, 3, 4, 13, 14, 15, 6, 16] (by decide) ⟨rfl, rfl, rfl, rfl, rfl, rfl, rfl, rfl, rfl, rfl, rfl, rfl, rfl, rfl, rfl, rfl, trivial⟩, rfl⟩
     · rw [hm150]; first | omega | (simp only [lens9]; omega)
     · omega
     · exact hinvM
     · exact hkeyM
     · exact hhokM
     · exact hlenM
     · exact hsdM
     · exact helM
     · exact hleM
     · exact hxM
     · exact hrdM
     · exact hhandM
    have hn164 : full2 = true := (Bool.not_eq_false' _).mp hb164
    refine wp_exit ?_
    refine hK70 _ _ ?_
    refine wp_region_lit ?_
    refine wms 1 h163 rfl fun a208 h208 => ?_; clear h163
    refine wv h208 (r_addN (p := i) (q := 1) rfl rfl rfl (show i + 1 < 9223372036854775808 from (by omega))) rfl rfl fun a209 h209 => ?_; clear h208
    refine wms 1 h209 rfl fun a210 h210 => ?_; clear h209
    refine wpList_nil ?_
    have hinvN := hinv2.expanded (by simp; omega) (by rw [hx2, ← ended_eq hwx.thl]; assumption) (by rw [hx2, ← hmv]; intro e9; rw [e9] at hmv0; simp at hmv0) (by rw [hx2]; exact hws) (fun hf q hq => by rw [hx2] at hq ⊢; rw [← hmv] at hq ⊢; exact hhand hf q (by first | omega | exact absurd (hf.symm.trans (show _ = true by assumption)) Bool.false_ne_true))
    have hkeyN := hkey2; have hhokN := hhok2; have hlenN := hlen2; have hsdN := hsd2
    have helN : ends2.l.length ≤ 16 * (i + 1) := by omega
    have hiN : i + 1 ≤ states2.l.length := by omega
    have hnl2 : states2.l.length ≤ 4001 := by have h9 := hinv2.len; simpa using h9
    refine x_again ⟨_, ?_, (i + 1), full2, states2, keys2, heads2, before2, ends2, ?_, ?_, ?_, ?_, ?_, ?_, ?_, h210.nrm ⟨rfl, rfl, trivial⟩ [6, 7, 8, 9, 10, 11, 12, 13, 14, 15] (by decide) ⟨rfl, rfl, rfl, rfl, rfl, rfl, rfl, rfl, rfl, rfl, trivial⟩, rfl⟩
    · rw [hm51]; omega
    · first | exact hiN | omega
    · first | exact hinvN | exact hinv
    · first | exact hkeyN | exact hkey
    · first | exact hhokN | exact hhok
    · first | exact hlenN | exact hlen
    · first | exact hsdN | exact hsd
    · first | exact helN | omega
   have hp157 : ¬ (k < ml93.l.length) := of_decide_eq_false hb157
   refine wl_skip h156 (wanted_no h156.fr rfl rfl rfl rfl hb157) rfl rfl fun a211 h211 => ?_; clear h156
   refine wl_skip h211 (wanted_no h211.fr rfl rfl rfl rfl hb157) rfl rfl fun a212 h212 => ?_; clear h211
   refine wl_skip h212 (wanted_no h212.fr rfl rfl rfl rfl hb157) rfl rfl fun a213 h213 => ?_; clear h212
   refine wl_skip h213 (wanted_no h213.fr rfl rfl rfl rfl hb157) rfl rfl fun a214 h214 => ?_; clear h213
   refine wl_skip h214 (wanted_no h214.fr rfl rfl rfl rfl hb157) rfl rfl fun a215 h215 => ?_; clear h214
   refine wv h215 (r_pickF rfl rfl hb157 rfl) rfl rfl fun a216 h216 => ?_; clear h215
   refine wpList_nil (hK152 _ _ ?_)
   refine x_condF h216 rfl rfl ?_
   refine wp_exit ?_
   refine hK70 _ _ ?_
   refine wp_region_lit ?_
   refine wms 1 h216 rfl fun a217 h217 => ?_; clear h216
   refine wv h217 (r_addN (p := i) (q := 1) rfl rfl rfl (show i + 1 < 9223372036854775808 from (by omega))) rfl rfl fun a218 h218 => ?_; clear h217
   refine wms 1 h218 rfl fun a219 h219 => ?_; clear h218
   refine wpList_nil ?_
   have hinvN := hinv2.expanded (by simp; omega) (by rw [hx2, ← ended_eq hwx.thl]; assumption) (by rw [hx2, ← hmv]; intro e9; rw [e9] at hmv0; simp at hmv0) (by rw [hx2]; exact hws) (fun hf q hq => by rw [hx2] at hq ⊢; rw [← hmv] at hq ⊢; exact hhand hf q (by first | omega | exact absurd (hf.symm.trans (show _ = true by assumption)) Bool.false_ne_true))
   have hkeyN := hkey2; have hhokN := hhok2; have hlenN := hlen2; have hsdN := hsd2
   have helN : ends2.l.length ≤ 16 * (i + 1) := by omega
   have hiN : i + 1 ≤ states2.l.length := by omega
   have hnl2 : states2.l.length ≤ 4001 := by have h9 := hinv2.len; simpa using h9
   refine x_again ⟨_, ?_, (i + 1), full2, states2, keys2, heads2, before2, ends2, ?_, ?_, ?_, ?_, ?_, ?_, ?_, h219.nrm ⟨rfl, rfl, trivial⟩ [6, 7, 8, 9, 10, 11, 12, 13, 14, 15] (by decide) ⟨rfl, rfl, rfl, rfl, rfl, rfl, rfl, rfl, rfl, rfl, trivial⟩, rfl⟩
   · rw [hm51]; omega
   · first | exact hiN | omega
   · first | exact hinvN | exact hinv
   · first | exact hkeyN | exact hkey
   · first | exact hhokN | exact hhok
   · first | exact hlenN | exact hlen
   · first | exact hsdN | exact hsd
   · first | exact helN | omega
  have hn69 : full = true := (Bool.not_eq_false' _).mp hb69
  refine wp_exit ?_
  refine hK48 _ _ ?_
  refine wp_seq_k fun K220 hK220 => wp_region_lit ?_
  refine wms 2 h68 rfl fun a221 h221 => ?_; clear h68
  refine wpList_nil (hK220 _ _ ?_)
  refine wp_ret ?_
  try simp only [Exit.then, Exit.inBlock]
  refine x_ret1 (fn := Try.f67) (t := 4) rfl h221 rfl ?_
  refine ⟨b7, full, _, _, _, _, ends, rfl, ?_, (by have h9 := hinv.len; simp at h9; omega), fun o ho b hb => hsd.en o ho b hb, (h221.sh.sel (L' := [.blk b7 49 [states.v, keys.v, heads.v, before.v, ends.v, .bool full], .own 56 ends]) [0, 6] (by decide) ⟨rfl, rfl, trivial⟩)⟩
  intro hf; first | exact absurd (hf.symm.trans (show _ = true by assumption)) Bool.false_ne_true | (refine ⟨hinv.sorted, ?_⟩; rw [hf] at hinv; exact hinv.all (by simp; omega))
 have hp62 : ¬ (i < states.l.length) := of_decide_eq_false hb62
 refine wl_skip h61 (wanted_no h61.fr rfl rfl rfl rfl hb62) rfl rfl fun a222 h222 => ?_; clear h61
 refine wl_skip h222 (wanted_no h222.fr rfl rfl rfl rfl hb62) rfl rfl fun a223 h223 => ?_; clear h222
 refine wl_skip h223 (wanted_no h223.fr rfl rfl rfl rfl hb62) rfl rfl fun a224 h224 => ?_; clear h223
 refine wl_skip h224 (wanted_no h224.fr rfl rfl rfl rfl hb62) rfl rfl fun a225 h225 => ?_; clear h224
 refine wl_skip h225 (wanted_no h225.fr rfl rfl rfl rfl hb62) rfl rfl fun a226 h226 => ?_; clear h225
 refine wv h226 (r_pickF rfl rfl hb62 rfl) rfl rfl fun a227 h227 => ?_; clear h226
 refine wpList_nil (hK53 _ _ ?_)
 refine x_condF h227 rfl rfl ?_
 refine wp_exit ?_
 refine hK48 _ _ ?_
 refine wp_seq_k fun K228 hK228 => wp_region_lit ?_
 refine wms 2 h227 rfl fun a229 h229 => ?_; clear h227
 refine wpList_nil (hK228 _ _ ?_)
 refine wp_ret ?_
 try simp only [Exit.then, Exit.inBlock]
 refine x_ret1 (fn := Try.f67) (t := 4) rfl h229 rfl ?_
 refine ⟨b7, full, _, _, _, _, ends, rfl, ?_, (by have h9 := hinv.len; simp at h9; omega), fun o ho b hb => hsd.en o ho b hb, (h229.sh.sel (L' := [.blk b7 49 [states.v, keys.v, heads.v, before.v, ends.v, .bool full], .own 56 ends]) [0, 6] (by decide) ⟨rfl, rfl, trivial⟩)⟩
 intro hf; first | exact absurd (hf.symm.trans (show _ = true by assumption)) Bool.false_ne_true | (refine ⟨hinv.sorted, ?_⟩; rw [hf] at hinv; exact hinv.all (by simp; omega))

end Go.Proofs.Ytanhbpofhebbaaa
