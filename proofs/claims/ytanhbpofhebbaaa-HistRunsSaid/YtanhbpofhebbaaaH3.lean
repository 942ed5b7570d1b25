/-
  The events of a run could have been: plain Lean.
-/
import Derived.Test.YtanhbpofhebbaaaX42
import Derived.Test.YtanhbpofhebbaaaLS
namespace Go.Proofs.Ytanhbpofhebbaaa
open Go.RowKit
set_option linter.unusedSimpArgs false
set_option linter.unusedVariables false

/-- Events in their order: what words hold behind them; none: a Load does not find what it tells. -/
def repW (ws : List Int) : List Ins → Option (List Int)
  | [] => some ws
  | e :: es => if e.b = 2 then repW (ws.set e.a.toNat e.c) es else if nth ws e.a.toNat = e.c then repW ws es else none
theorem repW_app : ∀ (es es2 : List Ins) (ws : List Int), repW ws (es ++ es2) = (repW ws es).bind fun w => repW w es2
  | [], _, _ => rfl
  | e :: es, es2, ws => by
    rw [List.cons_append, repW, repW]
    split
    · exact repW_app es es2 _
    · split
      · exact repW_app es es2 _
      · rfl
def posE (es : List Ins) : List Nat := (List.range 4).map fun t => (rowE es t).length
theorem posE_nth (es : List Ins) {t : Nat} (h : t < 4) : nth (posE es) t = (rowE es t).length := by
  unfold posE
  rw [nth_map' _ _ _ (by simpa using h)]
  simp [nth, h]
theorem rowE_app (es es2 : List Ins) (t : Nat) : rowE (es ++ es2) t = rowE es t ++ rowE es2 t := by unfold rowE; rw [List.filter_append]
theorem thrE_len' (es : List Ins) : (thrE es).length = 4 := by simp [thrE]
theorem thrE_nth' (es : List Ins) {t : Nat} (h : t < 4) : nth (thrE es) t = rowE es t := by
  unfold thrE
  rw [nth_map' _ _ _ (by simpa using h)]
  simp [nth, h]
theorem can_rep : ∀ (suf pre : List Ins) (ws w : List Int), (∀ e ∈ suf, 0 ≤ e.op ∧ e.op < 4) → repW ws suf = some w → Can (thrE (pre ++ suf)) (posE pre) ws
  | [], pre, ws, w, _, _ => by
    refine .done _ _ fun t ht => ?_
    rw [thrE_len'] at ht
    rw [thrE_nth' _ ht, posE_nth _ ht, List.append_nil]
  | e :: suf, pre, ws, w, he, hr => by
    have h4 := he e (by simp)
    obtain ⟨t, ht⟩ : ∃ t : Nat, e.op = (t : Int) := ⟨e.op.toNat, by omega⟩
    have ht4 : t < 4 := by omega
    have hrow : rowE (pre ++ e :: suf) t = rowE pre t ++ e :: rowE suf t := by
      rw [rowE_app]
      congr 1
      unfold rowE
      rw [List.filter_cons, if_pos (by simpa using ht)]
    have hlt : nth (posE pre) t < (nth (thrE (pre ++ e :: suf)) t).length := by
      rw [posE_nth _ ht4, thrE_nth' _ ht4, hrow]
      simp
    have hel : nth (nth (thrE (pre ++ e :: suf)) t) (nth (posE pre) t) = e := by
      rw [posE_nth _ ht4, thrE_nth' _ ht4, hrow]
      simp [nth]
    have hpos : (posE pre).set t (nth (posE pre) t + 1) = posE (pre ++ [e]) := by
      apply List.ext_getElem (by simp [posE])
      intro i h1 h2
      have hi : i < 4 := by simpa [posE] using h2
      rw [← nth_lt ((posE pre).set t (nth (posE pre) t + 1)) i h1, ← nth_lt (posE (pre ++ [e])) i h2, posE_nth _ hi, nth_setN, posE_nth _ hi, posE_nth _ ht4, rowE_app, List.length_append]
      have : (rowE [e] i).length = if t = i then 1 else 0 := by
        unfold rowE
        by_cases hti : t = i
        · subst hti; simp [ht]
        · have : ¬ e.op = (i : Int) := by omega
          simp [this, hti]
      rw [this]
      have hl : t < (posE pre).length := by simpa [posE] using ht4
      by_cases hti : t = i
      · subst hti; rw [if_pos ⟨rfl, hl⟩, if_pos rfl]
      · rw [if_neg (fun h => hti h.1), if_neg hti]; rfl
    have happ : pre ++ e :: suf = (pre ++ [e]) ++ suf := by simp
    rw [repW] at hr
    split at hr
    · rename_i hb
      refine .store _ _ t (by rw [thrE_len']; exact ht4) hlt (by rw [hel]; exact hb) ?_
      rw [hel, hpos]
      rw [happ]
      exact can_rep suf (pre ++ [e]) _ w (fun x hx => he x (by simp [hx])) hr
    · rename_i hb
      split at hr
      · rename_i hv
        refine .load _ _ t (by rw [thrE_len']; exact ht4) hlt (by rw [hel]; exact hb) (by rw [hel]; exact hv) ?_
        rw [hpos]
        rw [happ]
        exact can_rep suf (pre ++ [e]) _ w (fun x hx => he x (by simp [hx])) hr
      · cases hr
theorem may_rep {ws w : List Int} {es : List Ins} (hok : OkH ws es) (h : repW ws es = some w) : mayB ws es = true := by
  have h1 := can_rep es [] ws w (fun e he => by
    obtain ⟨j, hj, rfl⟩ := List.mem_iff_getElem.1 he
    have := hok.ok j hj
    rw [nth_lt _ _ hj] at this
    exact ⟨this.1, this.2.1⟩) h
  rw [List.nil_append] at h1
  have e : posE [] = [0, 0, 0, 0] := rfl
  rw [e] at h1
  exact (can_iff _ rfl (by rw [thrE_len']; rfl)).2 h1
/-! ### What a step tells -/
def evsT (t : Nat) (i : Ins) (regs words : List Int) (room : Bool) : List Ins :=
  if i.op = 8 then [⟨t, i.b, 1, nth words i.b.toNat⟩]
  else if i.op = 10 then [⟨t, nth regs i.b.toNat, 1, nth words (nth regs i.b.toNat).toNat⟩]
  else if i.op = 9 then [⟨t, i.a, 2, nth regs i.b.toNat⟩]
  else if i.op = 11 then [⟨t, nth regs i.a.toNat, 2, nth regs i.b.toNat⟩]
  else if i.op = 13 then ⟨t, i.a, 1, nth words i.a.toNat⟩ :: (if nth words i.a.toNat = nth regs i.b.toNat ∧ room = true then [⟨t, i.a, 2, nth regs i.c.toNat⟩] else [])
  else []
section
variable {t : Nat} {i : Ins} {regs words : List Int} {room : Bool}
theorem evs_8 (h : i.op = 8) : evsT t i regs words room = [⟨t, i.b, 1, nth words i.b.toNat⟩] := by unfold evsT; rw [if_pos h]
theorem evs_10 (h : i.op = 10) : evsT t i regs words room = [⟨t, nth regs i.b.toNat, 1, nth words (nth regs i.b.toNat).toNat⟩] := by unfold evsT; rw [if_neg (by omega), if_pos h]
theorem evs_9 (h : i.op = 9) : evsT t i regs words room = [⟨t, i.a, 2, nth regs i.b.toNat⟩] := by unfold evsT; rw [if_neg (by omega), if_neg (by omega), if_pos h]
theorem evs_11 (h : i.op = 11) : evsT t i regs words room = [⟨t, nth regs i.a.toNat, 2, nth regs i.b.toNat⟩] := by unfold evsT; rw [if_neg (by omega), if_neg (by omega), if_neg (by omega), if_pos h]
theorem evs_13t (h : i.op = 13) (h2 : nth words i.a.toNat = nth regs i.b.toNat) : evsT t i regs words true = [⟨t, i.a, 1, nth words i.a.toNat⟩, ⟨t, i.a, 2, nth regs i.c.toNat⟩] := by unfold evsT; rw [if_neg (by omega), if_neg (by omega), if_neg (by omega), if_neg (by omega), if_pos h, if_pos ⟨h2, rfl⟩]
theorem evs_13f (h : i.op = 13) (h2 : ¬ nth words i.a.toNat = nth regs i.b.toNat) : evsT t i regs words room = [⟨t, i.a, 1, nth words i.a.toNat⟩] := by unfold evsT; rw [if_neg (by omega), if_neg (by omega), if_neg (by omega), if_neg (by omega), if_pos h, if_neg (fun e => h2 e.1)]
theorem evs_13r (h : i.op = 13) : evsT t i regs words false = [⟨t, i.a, 1, nth words i.a.toNat⟩] := by unfold evsT; rw [if_neg (by omega), if_neg (by omega), if_neg (by omega), if_neg (by omega), if_pos h, if_neg (fun e => by cases e.2)]
theorem evs_no (h : i.op ≠ 8 ∧ i.op ≠ 9 ∧ i.op ≠ 10 ∧ i.op ≠ 11 ∧ i.op ≠ 13) : evsT t i regs words room = [] := by unfold evsT; rw [if_neg h.1, if_neg h.2.2.1, if_neg h.2.1, if_neg h.2.2.2.1, if_neg h.2.2.2.2]
end
/-- A step without stores that wait: what it does to words, and what it tells. -/
structure StepE (t : Nat) (i : Ins) (x y : TS) : Prop where
  wait : y.wait = []
  all : repW x.words (evsT t i x.regs x.words true) = some y.words
  cut : ∃ w, repW x.words (evsT t i x.regs x.words false) = some w
  ok : ∀ room, ∀ e ∈ evsT t i x.regs x.words room, EvOk x.words.length e
theorem rep_load {ws : List Int} {e : Ins} (hb : e.b ≠ 2) (hv : nth ws e.a.toNat = e.c) : repW ws [e] = some ws := by rw [repW, if_neg hb, if_pos hv]; rfl
theorem rep_store {ws : List Int} {e : Ins} (hb : e.b = 2) : repW ws [e] = some (ws.set e.a.toNat e.c) := by rw [repW, if_pos hb]; rfl
theorem stepE_of {t n : Nat} {i : Ins} {x y : TS} {R W L : Nat} (ht : t < 4) (hx : x.wait = []) (hW : x.words.length = W) (hR : InsR R W L i) (hy : y = execT 0 n i x) (hf : y.fell = false) (hxf : x.fell = false) : StepE t i x y := by
  have fin : ∀ ws : List Int, x.finds ws.length = nth x.words ((ws.length : Int)).toNat := fun ws => by unfold TS.finds; rw [hx]; rfl
  have fnd : ∀ w : Int, x.finds w = nth x.words w.toNat := fun w => by unfold TS.finds; rw [hx]; rfl
  have no : (i.op ≠ 8 ∧ i.op ≠ 9 ∧ i.op ≠ 10 ∧ i.op ≠ 11 ∧ i.op ≠ 13) → y.wait = x.wait → y.words = x.words → StepE t i x y := fun h h1 h2 => by
    refine ⟨h1.trans hx, ?_, ⟨x.words, ?_⟩, fun room e he => ?_⟩
    · rw [evs_no h, h2]; rfl
    · rw [evs_no h]; rfl
    · rw [evs_no h] at he; cases he
  have one : ∀ {e : Ins}, (∀ room, evsT t i x.regs x.words room = [e]) → y.wait = [] → repW x.words [e] = some y.words → EvOk x.words.length e → StepE t i x y := fun {e} h h1 h2 h3 => by
    refine ⟨h1, by rw [h]; exact h2, ⟨_, by rw [h]; exact h2⟩, fun room e2 he => ?_⟩
    rw [h] at he
    obtain rfl : e2 = e := by simpa using he
    exact h3
  have st : ∀ w : Wt, w.lock = false → (x.store 0 w).wait = [] ∧ (x.store 0 w).words = x.words.set w.wh.toNat w.what := fun w hw => by
    unfold TS.store
    rw [if_neg (by decide)]
    refine ⟨hx, ?_⟩
    show (if w.lock = true then _ else _) = _
    rw [hw]; rfl
  by_cases e1 : i.op = 1
  · rw [execT_1 e1] at hy; subst hy; exact no (by omega) rfl rfl
  by_cases e2 : i.op = 2
  · rw [execT_2 e2] at hy; subst hy; exact no (by omega) rfl rfl
  by_cases e3 : i.op = 3
  · rw [execT_3 e3] at hy; subst hy; exact no (by omega) rfl rfl
  by_cases e4 : i.op = 4
  · rw [execT_4 e4] at hy; subst hy; exact no (by omega) rfl rfl
  by_cases e5 : i.op = 5
  · rw [execT_5 e5] at hy; subst hy; exact no (by omega) rfl rfl
  by_cases e6 : i.op = 6
  · rw [execT_6 e6] at hy; subst hy; exact no (by omega) rfl rfl
  by_cases e7 : i.op = 7
  · rw [execT_7 e7] at hy; subst hy; exact no (by omega) rfl rfl
  by_cases e8 : i.op = 8
  · rw [execT_8 e8] at hy
    have q := hR.o8 e8
    subst hy
    exact one (fun room => evs_8 e8) hx (rep_load (show (1 : Int) ≠ 2 by decide) rfl) ⟨by show (0 : Int) ≤ (t : Int); omega, by show (t : Int) < 4; omega, q.2.1, by rw [hW]; exact q.2.2, .inl rfl⟩
  by_cases e9 : i.op = 9
  · rw [execT_9 e9] at hy
    have q := hR.o9 e9
    obtain ⟨h1, h2⟩ := st ⟨false, i.a, x.reg i.b⟩ rfl
    subst hy
    exact one (fun room => evs_9 e9) h1 (by rw [h2]; exact rep_store rfl) ⟨by show (0 : Int) ≤ (t : Int); omega, by show (t : Int) < 4; omega, q.1.1, by rw [hW]; exact q.1.2, .inr rfl⟩
  by_cases e10 : i.op = 10
  · by_cases hw : 0 ≤ x.reg i.b ∧ x.reg i.b < (x.words.length : Int)
    · rw [execT_10t e10 hw] at hy
      subst hy
      exact one (fun room => evs_10 e10) hx (rep_load (show (1 : Int) ≠ 2 by decide) rfl) ⟨by show (0 : Int) ≤ (t : Int); omega, by show (t : Int) < 4; omega, hw.1, hw.2, .inl rfl⟩
    · rw [execT_10f e10 hw] at hy
      subst hy; cases hf
  by_cases e11 : i.op = 11
  · by_cases hw : 0 ≤ x.reg i.a ∧ x.reg i.a < (x.words.length : Int)
    · rw [execT_11t e11 hw] at hy
      obtain ⟨h1, h2⟩ := st ⟨false, x.reg i.a, x.reg i.b⟩ rfl
      subst hy
      exact one (fun room => evs_11 e11) h1 (by rw [h2]; exact rep_store rfl) ⟨by show (0 : Int) ≤ (t : Int); omega, by show (t : Int) < 4; omega, hw.1, hw.2, .inr rfl⟩
    · rw [execT_11f e11 hw] at hy
      subst hy; cases hf
  by_cases e13 : i.op = 13
  · have q := hR.o13 e13
    have okl : EvOk x.words.length (⟨t, i.a, 1, nth x.words i.a.toNat⟩ : Ins) := ⟨by show (0 : Int) ≤ (t : Int); omega, by show (t : Int) < 4; omega, q.1.1, by rw [hW]; exact q.1.2, .inl rfl⟩
    have oks : EvOk x.words.length (⟨t, i.a, 2, nth x.regs i.c.toNat⟩ : Ins) := ⟨by show (0 : Int) ≤ (t : Int); omega, by show (t : Int) < 4; omega, q.1.1, by rw [hW]; exact q.1.2, .inr rfl⟩
    by_cases hw : nth x.words i.a.toNat = x.reg i.b
    · rw [execT_13t e13 hw] at hy
      subst hy
      refine ⟨hx, ?_, ⟨x.words, ?_⟩, fun room e he => ?_⟩
      · rw [evs_13t e13 hw, repW, if_neg (by show (1 : Int) ≠ 2; decide), if_pos rfl]
        exact rep_store rfl
      · rw [evs_13r e13]; exact rep_load (show (1 : Int) ≠ 2 by decide) rfl
      · cases room with
        | true =>
          rw [evs_13t e13 hw] at he
          rcases (by simpa using he : e = _ ∨ e = _) with rfl | rfl
          · exact okl
          · exact oks
        | false =>
          rw [evs_13r e13] at he
          obtain rfl : e = _ := by simpa using he
          exact okl
    · rw [execT_13f e13 hw] at hy
      subst hy
      exact one (fun room => evs_13f e13 hw) hx (rep_load (show (1 : Int) ≠ 2 by decide) rfl) okl
  by_cases e14 : i.op = 14
  · rw [execT_14 e14] at hy; subst hy; exact no (by omega) rfl rfl
  by_cases e15 : i.op = 15
  · by_cases hw : x.reg i.a = 0
    · rw [execT_15t e15 hw] at hy; subst hy; exact no (by omega) rfl rfl
    · rw [execT_15f e15 hw] at hy; subst hy; exact no (by omega) rfl rfl
  by_cases e16 : i.op = 16
  · rw [execT_16 e16] at hy; subst hy; exact no (by omega) rfl rfl
  by_cases e17 : i.op = 17
  · rw [execT_17 e17] at hy; subst hy; exact no (by omega) rfl rfl
  by_cases e18 : i.op = 18
  · by_cases hw : nth x.owner i.a.toNat ≠ n
    · rw [execT_18a e18 hw] at hy; subst hy; cases hf
    · by_cases hh : ∃ j, j < x.wait.length ∧ (nth x.wait j).lock = true ∧ (nth x.wait j).wh = i.a
      · obtain ⟨j, hj, h1, h2⟩ := hh
        rw [hx] at hj
        cases hj
      · rw [execT_18c e18 hw (fun q hq hc => hh ⟨q, hq, hc⟩)] at hy
        subst hy
        refine no (by omega) ?_ ?_
        · unfold TS.store; rw [if_neg (by decide)]; rfl
        · unfold TS.store; rw [if_neg (by decide)]; rfl
  rw [execT_no ⟨e1, e2, e3, e4, e5, e6, e7, e8, e9, e10, e11, e13, e14, e15, e16, e17, e18⟩] at hy
  subst hy
  exact no (by omega) rfl rfl
/-- What a run's events are. -/
structure OfI (code : Ls (Ls Ins)) (words : Ls Int) (Lk R : Nat) (x : SD) (out : List Ins) (n : Nat) : Prop where
  wf : Wf (pgN code words Lk R) x.st
  wait : ∀ t, t < code.l.length → (nth x.thr.l t).wait.l = []
  pr : x.prints.l.length ≤ 2 * n
  few : out.length ≤ 12
  evs : ∀ e ∈ out, EvOk words.l.length e
  rep : ∃ w, repW words.l out = some w ∧ (out.length < 12 → w = x.words.l)
theorem OfI.okH {code : Ls (Ls Ins)} {words : Ls Int} {Lk R n : Nat} {x : SD} {out : List Ins} (hok : OkPg (pgN code words Lk R)) (h : OfI code words Lk R x out n) : OkH words.l out ∧ mayB words.l out = true := by
  have h1 : OkH words.l out := ⟨by have := hok.words; exact this, h.few, fun i hi => h.evs _ (nth_mem _ _ hi)⟩
  obtain ⟨w, hw, _⟩ := h.rep
  exact ⟨h1, may_rep h1 hw⟩
theorem OfI.step {code : Ls (Ls Ins)} {words : Ls Int} {Lk R n : Nat} {x z : SD} {out : List Ins} {t : Nat} {y : TS} (hok : OkPg (pgN code words Lk R)) (h : OfI code words Lk R x out n) (ht : t < code.l.length) (hlt : out.length < 12)
    (hm : mvOK 0 (nth code.l t).l ⟨(nth x.thr.l t).pc, (nth x.thr.l t).regs.l, (nth x.thr.l t).wait.l, x.words.l, x.owner.l, x.prints.l, false⟩ 0 = true)
    (hy : y = stepT (pgN code words Lk R) 0 x.st t 0) (hz : z.st = x.st.putT t y) (hf : y.fell = false) (room : Bool) (hr : room = true ∨ out.length + 1 = 12) (hfew : (out ++ evsT t (nextIns (nth code.l t).l (nth x.thr.l t).pc) (nth x.thr.l t).regs.l x.words.l room).length ≤ 12) :
    OfI code words Lk R z (out ++ evsT t (nextIns (nth code.l t).l (nth x.thr.l t).pc) (nth x.thr.l t).regs.l x.words.l room) (n + 1) := by
  have hwx := h.wf.toX
  have ht4 : t < 4 := by have := hok.code; rw [pgN_len] at this; omega
  have hm2 : mvOK 0 (nth (pgN code words Lk R).code t) (x.st.view t) 0 = true := by rw [pgN_code ht, st_view (by rw [hwx.thl]; exact ht)]; exact hm
  have hwf := h.wf.step hok (t := t) (k := 0) (m := 0) (by rw [pgN_len]; exact ht) hm2
  rw [← hy, ← hz] at hwf
  have hwz := hwf.toX
  obtain ⟨hm3⟩ : (nth x.thr.l t).pc < ((nth code.l t).l.length : Int) ∧ True := by
    rcases mvOK_k hm with ⟨_, h9, _⟩ | ⟨h9, _⟩
    · exact ⟨h9, trivial⟩
    · exact absurd h9 (by decide)
  have hy2 : y = execT 0 t (nextIns (nth code.l t).l (nth x.thr.l t).pc) ⟨(nth x.thr.l t).pc + 1, (nth x.thr.l t).regs.l, (nth x.thr.l t).wait.l, x.words.l, x.owner.l, x.prints.l, false⟩ := by
    rw [hy]
    unfold stepT
    rw [pgN_code ht, st_view (by rw [hwx.thl]; exact ht), doT_0 rfl]
  have hs := stepE_of (t := t) (R := R) (W := words.l.length) (L := Lk) ht4 (h.wait t ht) hwx.words (insR_N hok ht (hwx.pc t ht).1 (by assumption)) hy2 hf rfl
  have hzw : z.words.l = y.words := by have := congrArg MSt.words hz; exact this
  have hzp : z.prints.l = y.prints := by have := congrArg MSt.prints hz; exact this
  obtain ⟨w, hw, hwe⟩ := h.rep
  have hwe := hwe hlt
  subst hwe
  refine ⟨hwf, fun u hu => ?_, ?_, hfew, fun e he => ?_, ?_⟩
  · have e1 : nth z.st.ths u = (nth z.thr.l u).th := st_th (by rw [hwz.thl]; exact hu)
    have e2 : nth x.st.ths u = (nth x.thr.l u).th := st_th (by rw [hwx.thl]; exact hu)
    have e3 : nth z.st.ths u = if t = u ∧ t < x.st.ths.length then ⟨y.pc, y.regs, y.wait⟩ else nth x.st.ths u := by
      rw [hz]
      exact nth_set0 _ _ _ _
    have : (nth z.thr.l u).wait.l = (nth z.st.ths u).wait := by rw [e1]; rfl
    rw [this, e3]
    split
    · exact hs.wait
    · rw [e2]; exact h.wait u hu
  · have := h.pr
    have h9 := execT_prints 0 t (nextIns (nth code.l t).l (nth x.thr.l t).pc) ⟨(nth x.thr.l t).pc + 1, (nth x.thr.l t).regs.l, (nth x.thr.l t).wait.l, x.words.l, x.owner.l, x.prints.l, false⟩
    rw [← hy2] at h9
    rw [hzp]
    have e9 : (⟨(nth x.thr.l t).pc + 1, (nth x.thr.l t).regs.l, (nth x.thr.l t).wait.l, x.words.l, x.owner.l, x.prints.l, false⟩ : TS).prints.length = x.prints.l.length := rfl
    omega
  · rcases List.mem_append.1 he with he | he
    · exact h.evs e he
    · have := hs.ok room e he
      have e9 : (⟨(nth x.thr.l t).pc + 1, (nth x.thr.l t).regs.l, (nth x.thr.l t).wait.l, x.words.l, x.owner.l, x.prints.l, false⟩ : TS).words.length = words.l.length := hwx.words
      rw [e9] at this
      exact this
  · rw [repW_app, hw]
    cases room with
    | true => exact ⟨y.words, hs.all, fun _ => hzw.symm⟩
    | false =>
      obtain ⟨w2, hw2⟩ := hs.cut
      refine ⟨w2, hw2, fun h9 => ?_⟩
      have hl : 12 = out.length + 1 := by rcases hr with h8 | h8; cases h8; exact h8.symm
      by_cases hn : evsT t (nextIns (nth code.l t).l (nth x.thr.l t).pc) (nth x.thr.l t).regs.l x.words.l false = []
      · have e1 := hs.all
        have key : evsT t (nextIns (nth code.l t).l (nth x.thr.l t).pc) (nth x.thr.l t).regs.l x.words.l true = [] := by
          revert hn
          unfold evsT
          repeat' split
          all_goals intro hn; first | exact hn | cases hn
        have h2 : repW x.words.l (evsT t (nextIns (nth code.l t).l (nth x.thr.l t).pc) (nth x.thr.l t).regs.l x.words.l false) = some w2 := hw2
        have h3 : repW x.words.l (evsT t (nextIns (nth code.l t).l (nth x.thr.l t).pc) (nth x.thr.l t).regs.l x.words.l true) = some y.words := e1
        rw [hn] at h2
        rw [key] at h3
        rw [h2] at h3
        rw [hzw]
        exact Option.some.inj h3
      · have : 1 ≤ (evsT t (nextIns (nth code.l t).l (nth x.thr.l t).pc) (nth x.thr.l t).regs.l x.words.l false).length := by
          rcases List.length_pos_iff.2 hn with h8
          omega
        rw [List.length_append] at h9
        omega

theorem OfI.stepE {code : Ls (Ls Ins)} {words : Ls Int} {Lk R n : Nat} {x : SD} {out : List Ins} {t : Nat} {y : TS} (hok : OkPg (pgN code words Lk R)) (h : OfI code words Lk R x out n) (ht : t < code.l.length) (hpc : (nth x.thr.l t).pc < ((nth code.l t).l.length : Int)) (hy : y = stepT (pgN code words Lk R) 0 x.st t 0) (hf : y.fell = false) :
    StepE t (nextIns (nth code.l t).l (nth x.thr.l t).pc) ⟨(nth x.thr.l t).pc + 1, (nth x.thr.l t).regs.l, (nth x.thr.l t).wait.l, x.words.l, x.owner.l, x.prints.l, false⟩ y := by
  have hwx := h.wf.toX
  have ht4 : t < 4 := by have := hok.code; rw [pgN_len] at this; omega
  have hy2 : y = execT 0 t (nextIns (nth code.l t).l (nth x.thr.l t).pc) ⟨(nth x.thr.l t).pc + 1, (nth x.thr.l t).regs.l, (nth x.thr.l t).wait.l, x.words.l, x.owner.l, x.prints.l, false⟩ := by
    rw [hy]
    unfold stepT
    rw [pgN_code ht, st_view (by rw [hwx.thl]; exact ht), doT_0 rfl]
  exact stepE_of (t := t) (R := R) (W := words.l.length) (L := Lk) ht4 (h.wait t ht) hwx.words (insR_N hok ht (hwx.pc t ht).1 hpc) hy2 hf rfl
theorem StepE.ok10 {t : Nat} {i : Ins} {x y : TS} (h : StepE t i x y) (h10 : i.op = 10) : 0 ≤ nth x.regs i.b.toNat ∧ nth x.regs i.b.toNat < x.words.length := by
  have := h.ok true ⟨t, nth x.regs i.b.toNat, 1, nth x.words (nth x.regs i.b.toNat).toNat⟩ (by rw [evs_10 h10]; simp)
  exact ⟨this.2.2.1, this.2.2.2.1⟩
theorem OfI.start {code : Ls (Ls Ins)} {words : Ls Int} {Lk R : Nat} {x : SD} (hok : OkPg (pgN code words Lk R)) (hy : x.thr.l.map ThL.th = List.replicate code.l.length ⟨0, List.replicate R 0, []⟩) (hw : x.words.l = words.l) (ho : x.owner.l = List.replicate Lk (-1)) (hp : x.prints.l = []) : OfI code words Lk R x [] 0 := by
  have hst : x.st = begin_ (pgN code words Lk R) := by
    unfold SD.st begin_
    rw [hy, hw, ho, hp]
    have e1 : (pgN code words Lk R).code.map (fun _ => (⟨0, List.replicate (pgN code words Lk R).regs.toNat 0, []⟩ : Th)) = List.replicate code.l.length ⟨0, List.replicate R 0, []⟩ := by
      rw [List.map_const', pgN_len]
      rfl
    rw [e1]
    rfl
  have hwf : Wf (pgN code words Lk R) x.st := by rw [hst]; exact Wf.begin_ hok
  have hwx := hwf.toX
  refine ⟨hwf, fun t ht => ?_, by rw [hp]; simp, by simp, fun e he => (by cases he), words.l, rfl, fun _ => hw.symm⟩
  have e1 : nth (x.thr.l.map ThL.th) t = (nth x.thr.l t).th := nth_map' _ _ _ (by rw [hwx.thl]; exact ht)
  rw [hy, nth_replicate _ _ _ ht] at e1
  have := congrArg Th.wait e1
  exact this.symm
theorem mv0 {m : Int} {c : List Ins} {x : TS} {k : Nat} (h : mvOK m c x k = true) (hw : x.wait = []) : k = 0 := by
  rcases mvOK_k h with ⟨h1, _⟩ | ⟨h1, h2, _⟩
  · exact h1
  · rw [hw] at h2; simp at h2; omega
end Go.Proofs.Ytanhbpofhebbaaa
