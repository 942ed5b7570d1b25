/-
  Contracts of functions of this program and of the references, each walked once.
-/
import Derived.Test.YtmgikmjmdppfmaaL0
import Derived.Test.YtmgikmjmdppfmaaL1
section
namespace Go.Proofs.Ytmgikmjmdppfmaa
open Go.RowKit
set_option linter.unusedSimpArgs false
set_option linter.unusedVariables false

/-! ### Data of states -/
theorem flatMap_congr' {α β : Type} {f g : α → List β} : ∀ {l : List α}, (∀ x ∈ l, f x = g x) → l.flatMap f = l.flatMap g
  | [], _ => rfl
  | x :: l, h => by simp only [List.flatMap_cons]; rw [h x (by simp), flatMap_congr' fun y hy => h y (by simp [hy])]
theorem all_congr' {α : Type} {f g : α → Bool} : ∀ {l : List α}, (∀ x ∈ l, f x = g x) → l.all f = l.all g
  | [], _ => rfl
  | x :: l, h => by simp only [List.all_cons]; rw [h x (by simp), all_congr' fun y hy => h y (by simp [hy])]
section
variable {code : Ls (Ls Ins)} {words : Ls Int} {Lk R : Nat} {mode : Int} {x : SD}
abbrev pgN (code : Ls (Ls Ins)) (words : Ls Int) (Lk R : Nat) : Pg := pgOf code words (Lk : Int) (R : Int)
theorem pgN_len : (pgN code words Lk R).code.length = code.l.length := by simp [pgN, pgOf]
theorem pgN_code {t : Nat} (ht : t < code.l.length) : nth (pgN code words Lk R).code t = (nth code.l t).l := nth_map' _ _ _ ht
theorem st_th {t : Nat} (ht : t < x.thr.l.length) : nth x.st.ths t = (nth x.thr.l t).th := nth_map' _ _ _ ht
theorem st_view {t : Nat} (ht : t < x.thr.l.length) : x.st.view t = ⟨(nth x.thr.l t).pc, (nth x.thr.l t).regs.l, (nth x.thr.l t).wait.l, x.words.l, x.owner.l, x.prints.l, false⟩ := by
  unfold MSt.view
  rw [st_th ht]; rfl
theorem ended_eq (hl : x.thr.l.length = code.l.length) : endedL code x.thr = ended (pgN code words Lk R) x.st := by
  unfold endedL ended
  rw [pgN_len]
  refine all_congr' fun t ht => ?_
  have ht' : t < code.l.length := by simpa using ht
  rw [pgN_code ht', st_th (by omega)]; rfl
theorem moves_eq (hl : x.thr.l.length = code.l.length) : movesL mode code x.thr x.owner.l code.l.length = moves (pgN code words Lk R) mode x.st := by
  unfold movesL moves
  rw [pgN_len]
  refine flatMap_congr' fun t ht => ?_
  have ht' : t < code.l.length := by simpa using ht
  rw [pgN_code ht', st_view (by omega)]; rfl
structure WfX (code : Ls (Ls Ins)) (words : Ls Int) (Lk R : Nat) (x : SD) : Prop where
  thl : x.thr.l.length = code.l.length
  pc : ∀ t, t < code.l.length → 0 ≤ (nth x.thr.l t).pc ∧ (nth x.thr.l t).pc ≤ (nth code.l t).l.length
  regs : ∀ t, t < x.thr.l.length → (nth x.thr.l t).regs.l.length = R
  wait : ∀ t, t < x.thr.l.length → (nth x.thr.l t).wait.l.length ≤ 3
  wt : ∀ t, t < x.thr.l.length → ∀ j, j < (nth x.thr.l t).wait.l.length → if (nth (nth x.thr.l t).wait.l j).lock = true then 0 ≤ (nth (nth x.thr.l t).wait.l j).wh ∧ (nth (nth x.thr.l t).wait.l j).wh < x.owner.l.length else 0 ≤ (nth (nth x.thr.l t).wait.l j).wh ∧ (nth (nth x.thr.l t).wait.l j).wh < x.words.l.length
  words : x.words.l.length = words.l.length
  owner : x.owner.l.length = Lk
theorem Wf.toX (h : Wf (pgN code words Lk R) x.st) : WfX code words Lk R x := by
  have hl : x.thr.l.length = code.l.length := by have := h.ths; rw [pgN_len] at this; simpa [SD.st] using this
  have hw : x.words.l.length = words.l.length := h.words
  have ho : x.owner.l.length = Lk := by have := h.owner; simpa [pgN, pgOf, SD.st] using this
  have hv : ∀ t, t < code.l.length → WfS R words.l.length Lk (nth code.l t).l.length ⟨(nth x.thr.l t).pc, (nth x.thr.l t).regs.l, (nth x.thr.l t).wait.l, x.words.l, x.owner.l, x.prints.l, false⟩ := by
    intro t ht
    have := h.th t (by rw [pgN_len]; exact ht)
    rw [pgN_code ht, st_view (by omega)] at this
    simpa [pgN, pgOf] using this
  refine ⟨hl, fun t ht => (hv t ht).pc, fun t ht => (hv t (by omega)).regs, fun t ht => (hv t (by omega)).wait, fun t ht j hj => ?_, hw, ho⟩
  rw [ho, hw]
  exact (hv t (by omega)).wt _ (nth_mem _ _ hj)
theorem rows_at {rows : List ThL} (e : rows.map ThL.th = x.thr.l.map ThL.th) : rows.length = x.thr.l.length ∧ ∀ t, t < x.thr.l.length → (nth rows t).pc = (nth x.thr.l t).pc ∧ (nth rows t).regs.l = (nth x.thr.l t).regs.l ∧ (nth rows t).wait.l = (nth x.thr.l t).wait.l := by
  have hl : rows.length = x.thr.l.length := by simpa using congrArg List.length e
  refine ⟨hl, fun t ht => ?_⟩
  have h1 := congrArg (fun l => nth l t) e
  simp only [nth_map' ThL.th _ _ ht, nth_map' ThL.th rows t (by omega)] at h1
  exact ⟨congrArg Th.pc h1, congrArg Th.regs h1, congrArg Th.wait h1⟩
theorem insR_N (hok : OkPg (pgN code words Lk R)) {t : Nat} (ht : t < code.l.length) {pc : Int} (h0 : 0 ≤ pc) (h1 : pc < (nth code.l t).l.length) : InsR R words.l.length Lk (nextIns (nth code.l t).l pc) := by
  have h := (hok.insR (t := t) (i := pc.toNat) (by rw [pgN_len]; exact ht) (by rw [pgN_code ht]; omega)).1
  rw [pgN_code ht] at h
  rw [nextIns_t h1]
  simpa [pgN, pgOf] using h
theorem lock_N (hok : OkPg (pgN code words Lk R)) {t i : Nat} (ht : t < code.l.length) (hi : i < (nth code.l t).l.length) (h17 : (nth (nth code.l t).l i).op = 17) : 0 ≤ (nth (nth code.l t).l i).a ∧ (nth (nth code.l t).l i).a < (Lk : Int) := by
  have h := (hok.insR (t := t) (i := i) (by rw [pgN_len]; exact ht) (by rw [pgN_code ht]; exact hi)).1
  rw [pgN_code ht] at h
  have := h.o17 (.inl h17)
  simpa [pgN, pgOf] using this
theorem moves_len (hl : x.thr.l.length = code.l.length) (hc : code.l.length ≤ 4) (hw : ∀ t, t < x.thr.l.length → (nth x.thr.l t).wait.l.length ≤ 3) : (moves (pgN code words Lk R) mode x.st).length ≤ 16 := by
  rw [← moves_eq hl]
  have key : ∀ n, n ≤ code.l.length → (movesL mode code x.thr x.owner.l n).length ≤ 4 * n := by
    intro n
    induction n with
    | zero => intro _; simp [movesL]
    | succ n ih =>
      intro hn
      rw [movesL_succ, List.length_append]
      have h1 := ih (by omega)
      have h2 := hw n (by omega)
      have h3 := mayT_len mode x.thr n (nth x.thr.l n).wait.l.length
      have h4 : (moveT mode code x.thr x.owner.l n).length ≤ 4 := by
        unfold moveT
        rw [List.length_append]
        split <;> simp <;> omega
      omega
  have := key _ (Nat.le_refl _)
  omega
end
/-- A step's state, by its data. -/
theorem st_step {code : Ls (Ls Ins)} {words : Ls Int} {Lk R : Nat} {mode : Int} {x z : SD} {t k : Nat} {rows rows' : List ThL} {y : TS} {w0 o0 p0 : Ls Int} (ht : t < code.l.length) (hl : x.thr.l.length = code.l.length) (e : rows.map ThL.th = x.thr.l.map ThL.th) (ew : w0.l = x.words.l) (eo : o0.l = x.owner.l) (ep : p0.l = x.prints.l)
    (hy : y = doT mode t (nth code.l t).l k ⟨(nth rows t).pc, (nth rows t).regs.l, (nth rows t).wait.l, w0.l, o0.l, p0.l, false⟩) : y = stepT (pgN code words Lk R) mode x.st t k ∧ (z.thr.l = rows' → rows'.map ThL.th = (rows.map ThL.th).set t ⟨y.pc, y.regs, y.wait⟩ → z.words.l = y.words → z.owner.l = y.owner → z.prints.l = y.prints → z.st = x.st.putT t y) := by
  obtain ⟨h1, h2⟩ := rows_at e
  obtain ⟨q1, q2, q3⟩ := h2 t (by omega)
  constructor
  · rw [hy, q1, q2, q3, ew, eo, ep]
    unfold stepT
    rw [pgN_code ht, st_view (by omega)]
  · intro e1 e2 e3 e4 e5
    unfold MSt.putT SD.st
    rw [e1, e2, e3, e4, e5, e]
end Go.Proofs.Ytmgikmjmdppfmaa
end
section
namespace Go.Proofs.Ytmgikmjmdppfmaa
open Go.RowKit
set_option linter.unusedSimpArgs false
set_option linter.unusedVariables false

section
variable {p : Pg} {m : Int} {S : List MSt} {E : List Outc} {full : Bool} {i : Nat}
theorem Inv.addOut (h : Inv p m S E full i) {o : Outc} {E' : List Outc} (ho : Outs p m o) (hs : Sorted_ E') (hm : ∀ y, y ∈ E' ↔ y ∈ E ∨ y = o) : Inv p m S E' full i :=
  ⟨h.start, h.reach, h.pr, h.len, h.hfull, fun y hy => ((hm y).1 hy).elim (h.sound y) (fun e => e ▸ ho), hs, fun hf j hj => (h.done hf j hj).mono (fun _ h => h) fun y hy => (hm y).2 (.inl hy), h.nd⟩
theorem nth_left {α : Type} [Inhabited α] (l m : List α) (j : Nat) (h : j < l.length) : nth (l ++ m) j = nth l j := by rw [nth_app0, if_pos h]
theorem nth_last {α : Type} [Inhabited α] (l : List α) (x : α) : nth (l ++ [x]) l.length = x := by rw [nth_app0, if_neg (by omega)]; simp [nth]
theorem Inv.addState (h : Inv p m S E full i) (hf : full = false) (hi : i ≤ S.length) {s : MSt} (hr : Reach p m s) (hp : s.prints.length ≤ 2 * S.length) (hnw : s ∉ S) : Inv p m (S ++ [s]) E (full || decide (4000 < S.length + 1)) i := by
  have hl : S.length ≤ 4000 := by
    have := h.hfull
    rw [hf] at this
    have := of_decide_eq_false this.symm
    omega
  refine ⟨by simp [h.start], fun x hx => ?_, fun j hj => ?_, by simp; omega, by rw [hf]; simp, h.sound, h.sorted, fun _ j hj => ?_, ?_⟩
  · rcases List.mem_append.1 hx with hx | hx
    · exact h.reach x hx
    · obtain rfl : x = s := by simpa using hx
      exact hr
  · simp at hj
    rcases Nat.lt_or_ge j S.length with h1 | h1
    · rw [nth_left _ _ _ h1]; exact h.pr j h1
    · obtain rfl : j = S.length := by omega
      rw [nth_last]; exact hp
  · rw [nth_left _ _ _ (by omega)]
    exact (h.done hf j hj).mono (fun x hx => by simp [hx]) (fun _ h => h)
  · rw [List.nodup_append]
    exact ⟨h.nd, by simp, fun x hx y hy e => by obtain rfl : y = s := (by simpa using hy); exact hnw (e ▸ hx)⟩
theorem Inv.next (h : Inv p m S E full i) (hx : full = false → Expanded p m S E (nth S i)) : Inv p m S E full (i + 1) :=
  ⟨h.start, h.reach, h.pr, h.len, h.hfull, h.sound, h.sorted, fun hf j hj => by
    rcases Nat.lt_or_ge j i with h1 | h1
    · exact h.done hf j h1
    · obtain rfl : j = i := by omega
      exact hx hf, h.nd⟩
theorem Inv.first (s : MSt) (hs : s = begin_ p) : Inv p m [s] [] (false || decide (4000 < 0 + 1)) 0 := by
  subst hs
  refine ⟨by simp, fun x hx => ?_, fun j hj => ?_, by simp, by simp, fun o ho => ?_, List.Pairwise.nil, fun _ j hj => absurd hj (by omega), by simp⟩
  · obtain rfl : x = begin_ p := by simpa using hx
    exact .start
  · simp at hj; subst hj; exact Nat.zero_le _
  · cases ho
theorem ended_no {s : MSt} (he : ended p s = true) : ∀ t k, t < p.code.length → mvOK m (nth p.code t) (s.view t) k = false := by
  intro t k ht
  have h1 := (List.all_eq_true.1 he) t (by simpa using ht)
  simp only [Bool.and_eq_true, decide_eq_true_eq] at h1
  cases hk : mvOK m (nth p.code t) (s.view t) k with
  | false => rfl
  | true =>
    rcases mvOK_k hk with ⟨rfl, h2, _⟩ | ⟨h2, h3, _⟩
    · exact absurd h2 h1.1
    · have : (s.view t).wait.length = 0 := h1.2
      omega
theorem Inv.ended (h : Inv p m S E full i) (hi : i < S.length) (he : ended p (nth S i) = true) {E' : List Outc} (hs : Sorted_ E') (hm : ∀ y, y ∈ E' ↔ y ∈ E ∨ y = ⟨0, (nth S i).words, (nth S i).prints⟩) : Inv p m S E' full (i + 1) := by
  have h1 := h.addOut (.done (h.reach _ (nth_mem _ _ hi)) he) hs hm
  refine h1.next fun _ => ⟨fun _ => (hm _).2 (.inr rfl), fun e => ?_, fun t k ht hk => ?_⟩
  · rw [he] at e; cases e
  · rw [ended_no he t k ht] at hk; cases hk
theorem stuck_of {s : MSt} (hm : moves p m s = []) : Stuck_ p m s := by
  intro t k ht
  cases hk : mvOK m (nth p.code t) (s.view t) k with
  | false => rfl
  | true =>
    have : ((8 * t + k : Nat) : Int) ∈ moves p m s := mem_moves.2 ⟨t, k, ht, hk, rfl⟩
    rw [hm] at this; cases this
theorem Inv.stuck (h : Inv p m S E full i) (hi : i < S.length) (he : Go.Proofs.Ytmgikmjmdppfmaa.ended p (nth S i) = false) (hmv : moves p m (nth S i) = []) {E' : List Outc} (hs : Sorted_ E') (hm : ∀ y, y ∈ E' ↔ y ∈ E ∨ y = ⟨2, (nth S i).words, (nth S i).prints⟩) : Inv p m S E' full (i + 1) := by
  have hst := stuck_of hmv
  have h1 := h.addOut (.stuck (h.reach _ (nth_mem _ _ hi)) he hst) hs hm
  refine h1.next fun _ => ⟨fun e => ?_, fun _ _ => (hm _).2 (.inr rfl), fun t k ht hk => ?_⟩
  · rw [he] at e; cases e
  · rw [hst t k ht] at hk; cases hk
/-- A move, by its number, is seen to. -/
def HandM (p : Pg) (m : Int) (S : List MSt) (E : List Outc) (s : MSt) (v : Int) : Prop := ∀ t k, v = ((8 * t + k : Nat) : Int) → k ≤ 3 → Handled p m S E s t k
theorem HandM.mono {s : MSt} {v : Int} {S' : List MSt} {E' : List Outc} (h : HandM p m S E s v) (hS : ∀ x ∈ S, x ∈ S') (hE : ∀ x ∈ E, x ∈ E') : HandM p m S' E' s v := fun t k e hk => (h t k e hk).mono hS hE
theorem HandM.of {s : MSt} {v : Int} {t k : Nat} (hv : v = ((8 * t + k : Nat) : Int)) (hk : k ≤ 3) (h : Handled p m S E s t k) : HandM p m S E s v := by
  intro t' k' e hk'
  rw [hv] at e
  have e' : 8 * t + k = 8 * t' + k' := by omega
  obtain rfl : t = t' := by omega
  obtain rfl : k = k' := by omega
  exact h
theorem Inv.expanded (h : Inv p m S E full i) (hi : i < S.length) (he : Go.Proofs.Ytmgikmjmdppfmaa.ended p (nth S i) = false) (hne : moves p m (nth S i) ≠ []) (hw : Wf p (nth S i)) (hall : full = false → ∀ q, q < (moves p m (nth S i)).length → HandM p m S E (nth S i) (nth (moves p m (nth S i)) q)) : Inv p m S E full (i + 1) := by
  refine h.next fun hf => ⟨fun e => ?_, fun _ hst => ?_, fun t k ht hk => ?_⟩
  · rw [he] at e; cases e
  · exfalso
    apply hne
    apply List.eq_nil_iff_forall_not_mem.2
    intro v hv
    obtain ⟨t, k, ht, hk, _⟩ := mem_moves.1 hv
    rw [hst t k ht] at hk; cases hk
  · have hv : ((8 * t + k : Nat) : Int) ∈ moves p m (nth S i) := mem_moves.2 ⟨t, k, ht, hk, rfl⟩
    obtain ⟨q, hq⟩ := List.getElem?_of_mem hv
    obtain ⟨hlt, e⟩ := List.getElem?_eq_some_iff.1 hq
    exact hall hf q hlt t k (by rw [nth_lt _ _ hlt]; exact e) (mvOK_le hk (hw.th t ht).wait)
end

end Go.Proofs.Ytmgikmjmdppfmaa
end
namespace Go.Proofs.Ytmgikmjmdppfmaa
open Go.RowKit
set_option linter.unusedSimpArgs false
set_option linter.unusedVariables false
set_option maxRecDepth 100000
set_option maxHeartbeats 40000000


theorem do_tk (K : Nat → Prop) (g mv t k : Nat) (code : Ls (Ls Ins)) (vt : Value) (rows : List ThL) (words owner prints : Ls Int) (pw : Value) (locks nregs mode : Int) (fell : Bool) (W : World)
    (hS : Sh K W W (stA g [code.v, pw, .int .i64 locks, .int .i64 nregs, .int .i64 mode] vt rows words owner prints fell ++ [.at_ code])) (et : mv / 8 = t) (ek : mv % 8 = k)
    (hn : t < rows.length) (htc : t < code.l.length) (hmv : mv < 1000000) (hpc : 0 ≤ (nth rows t).pc ∧ (nth rows t).pc < 1000000) (hwl : (nth rows t).wait.l.length ≤ 3) (hkw : k ≤ (nth rows t).wait.l.length) (hpl : prints.l.length ≤ 100000000) (hol : owner.l.length ≤ 100)
    (hwt : ∀ j, j < (nth rows t).wait.l.length → if (nth (nth rows t).wait.l j).lock = true then 0 ≤ (nth (nth rows t).wait.l j).wh ∧ (nth (nth rows t).wait.l j).wh < owner.l.length else 0 ≤ (nth (nth rows t).wait.l j).wh ∧ (nth (nth rows t).wait.l j).wh < words.l.length)
    (hio : k = 0 → InsR (nth rows t).regs.l.length words.l.length owner.l.length (nextIns (nth code.l t).l (nth rows t).pc)) :
    Rets Try.prog 57 [.pointer (some ⟨g, 0, none⟩), .int .i64 ((mv : Nat) : Int)] W (fun v w' => v = .tuple #[] ∧ ∃ (rows' : List ThL) (words' owner' prints' : Ls Int) (fell' : Bool) (y : TS),
      y = doT mode t (nth code.l t).l k ⟨(nth rows t).pc, (nth rows t).regs.l, (nth rows t).wait.l, words.l, owner.l, prints.l, fell⟩ ∧ rows'.map ThL.th = (rows.map ThL.th).set t ⟨y.pc, y.regs, y.wait⟩ ∧ words'.l = y.words ∧ owner'.l = y.owner ∧ prints'.l = y.prints ∧ fell' = y.fell ∧
      Sh K W w' (stA g [code.v, pw, .int .i64 locks, .int .i64 nregs, .int .i64 mode] vt rows' words' owner' prints' fell' ++ [.at_ code])) := by
  subst et; subst ek
  exact do_full K g mv code vt rows words owner prints pw locks nregs mode fell W hS hn htc hmv hpc hwl hkw hpl hol hwt hio
theorem Sh.own_new {α : Type} [Enc α] [Flat α] {K : Nat → Prop} {W w : World} {L : List Asn} {E : TypeId} {s : Ls α} (h : Sh K W w L) (i : Nat) (hi : L[i]? = some (.own E s)) : ∀ b, s.on b → K b ∨ W.heap.size ≤ b := fun b hb => by
  have hm := List.mem_of_getElem? hi
  rcases own_on (h.ok _ hm) hb with h1 | h1
  · exact h.mine _ hm b h1
  · exact Flat.noRd h1
theorem nilOn {b : Nat} (h : (⟨.slice none 0 0, []⟩ : Ls Int).on b) : False := by
  rcases h with ⟨h, _⟩ | ⟨_, h, _⟩ <;> exact absurd h (by simp)
/-- What a search has of its states' data. -/
structure SData (W : World) (ST : TypeId) (hd : List Value) (states : List SD) (ends : List OutL) : Prop where
  hd : ∀ x ∈ states, x.hd = hd ∧ x.E = ST ∧ x.fell = false ∧ ∀ b, Enc.on x b → W.heap.size ≤ b
  en : ∀ o ∈ ends, ∀ b, Enc.on o b → W.heap.size ≤ b
theorem SData.put {W : World} {ST : TypeId} {hd : List Value} {states : List SD} {ends ends' : List OutL} {o : OutL} (h : SData W ST hd states ends) (hr : PutRel o ends ends') (ho : ∀ b, Enc.on o b → W.heap.size ≤ b) : SData W ST hd states ends' ∧ ends'.length ≤ ends.length + 1 := by
  rcases hr with ⟨_, rfl⟩ | ⟨k, hk, _, _, rfl⟩
  · exact ⟨h, by omega⟩
  · refine ⟨⟨h.hd, fun x hx => ?_⟩, by simp; omega⟩
    rcases List.mem_append.1 hx with hx | hx
    · exact h.en x (List.mem_of_mem_take hx)
    · rcases List.mem_cons.1 hx with rfl | hx
      · exact ho
      · exact h.en x (List.mem_of_mem_drop hx)
theorem SData.more {W : World} {ST : TypeId} {hd : List Value} {states : List SD} {ends : List OutL} {x : SD} (h : SData W ST hd states ends) (hx : x.hd = hd ∧ x.E = ST ∧ x.fell = false ∧ ∀ b, Enc.on x b → W.heap.size ≤ b) : SData W ST hd (states ++ [x]) ends :=
  ⟨fun y hy => (List.mem_append.1 hy).elim (h.hd y) (fun hy => by obtain rfl : y = x := by simpa using hy
                                                                  exact hx), h.en⟩
/-- What a put leaves. -/
theorem key_put {p : Pg} (hok : OkPg p) {m : Int} {x : SD} {states states' : List SD} {keys keys' : List (Ls Int)} {heads before heads' before' : List Int} {full full' : Bool} {E : List Outc} {i : Nat}
    (h : KeyRel (keyOf x.st) x states states' keys keys' heads before heads' before' full full') (hk : keys.map (·.l) = (states.map SD.st).map keyOf) (hlen : states.length = keys.length)
    (hi : Inv p m (states.map SD.st) E full i) (hf : full = false) (hil : i ≤ states.length) (hr : Reach p m x.st) (hp : x.st.prints.length ≤ 2 * states.length) :
    Inv p m (states'.map SD.st) E full' i ∧ keys'.map (·.l) = (states'.map SD.st).map keyOf ∧ states'.length = keys'.length ∧ x.st ∈ states'.map SD.st ∧ (∀ s ∈ states.map SD.st, s ∈ states'.map SD.st) ∧ (states' = states ∨ states' = states ++ [x]) := by
  rcases h with ⟨⟨j, hj, e⟩, e1, e2, _, e5⟩ | ⟨hno, rfl, e2, _, rfl⟩
  · have h1 : (nth (states.map SD.st) j) ∈ states.map SD.st := nth_mem _ _ (by simp; omega)
    have e3 : keyOf (nth (states.map SD.st) j) = keyOf x.st := by
      have := congrArg (fun l => nth l j) hk
      simp only [nth_map' (fun s : Ls Int => s.l) _ _ hj, nth_map' keyOf (states.map SD.st) j (by simp; omega)] at this
      rw [← this]; exact e
    have e4 := key_inj ((hi.reach _ h1).wf hok) (hr.wf hok) e3
    rw [e1, e5]
    refine ⟨hi, e2.trans hk, ?_, e4 ▸ h1, fun s hs => hs, .inl rfl⟩
    have := congrArg List.length e2
    simp at this; omega
  · refine ⟨?_, ?_, ?_, by simp, fun s hs => by simp at hs ⊢; exact .inl hs, .inr rfl⟩
    · have := hi.addState hf (by simpa using hil) hr (by simpa using hp) (fun hx => by
        obtain ⟨j, hj⟩ := List.getElem?_of_mem hx
        obtain ⟨hlt, e⟩ := List.getElem?_eq_some_iff.1 hj
        have hlt' : j < keys.length := by rw [← hlen]; simpa using hlt
        refine hno j hlt' ?_
        have := congrArg (fun l => nth l j) hk
        simp only [nth_map' (fun s : Ls Int => s.l) _ _ hlt', nth_map' keyOf (states.map SD.st) j hlt] at this
        rw [this, nth_lt _ _ hlt, e])
      simpa using this
    · rw [e2, hk]; simp
    · have := congrArg List.length e2
      simp at this ⊢; omega
theorem keyRel_ok {L : List Int} {x : SD} {states states' : List SD} {keys keys' : List (Ls Int)} {heads before heads' before' : List Int} {full full' : Bool} (h : KeyRel L x states states' keys keys' heads before heads' before' full full') : HeadsOK (keys'.map (·.l)) heads' before' := by
  rcases h with ⟨_, _, _, h, _⟩ | ⟨_, _, _, h, _⟩ <;> exact h
theorem headsOK0 : HeadsOK (([] : List (Ls Int)).map (·.l)) (List.replicate 4096 (-1)) [] := by
  refine ⟨List.length_replicate, rfl, fun h hh => .inl ⟨?_, fun j hj => absurd hj (Nat.not_lt_zero _)⟩, fun i hi => absurd hi (Nat.not_lt_zero _)⟩
  simp only [nth, List.getD, List.getElem?_replicate, if_pos hh]; rfl
theorem bigNoRd {INT WT : TypeId} {rows : List ThL} {X : Prop} {b : Nat} (h : (Asn.big (rowsA INT WT rows)).rd b) : X := by
  obtain ⟨A, hA, hb⟩ := h
  obtain ⟨x, _, hx⟩ := List.mem_flatMap.1 hA
  simp only [thA, List.mem_cons, List.not_mem_nil, or_false] at hx
  rcases hx with rfl | rfl <;> exact Flat.noRd hb
theorem KeyRel.rd {L : List Int} {x : SD} {states states' : Ls SD} {keys keys' : List (Ls Int)} {heads before heads' before' : List Int} {full full' : Bool} (h : KeyRel L x states.l states'.l keys keys' heads before heads' before' full full') {E : TypeId} {b : Nat} (hb : (Asn.own E states').rd b) : (Asn.own E states).rd b ∨ (Asn.rd1 x).rd b := by
  obtain ⟨i, hi, hb⟩ := hb
  rcases h with ⟨_, e1, _⟩ | ⟨_, e1, _⟩
  · rw [e1] at hi hb; exact .inl ⟨i, hi, hb⟩
  · rw [e1] at hi hb
    simp at hi
    rcases Nat.lt_or_ge i states.l.length with h1 | h1
    · rw [nth_left _ _ _ h1] at hb; exact .inl ⟨i, h1, hb⟩
    · obtain rfl : i = states.l.length := by omega
      rw [nth_last] at hb; exact .inr hb
theorem PutRel.rd {o : OutL} {ends ends' : Ls OutL} (h : PutRel o ends.l ends'.l) {E : TypeId} {b : Nat} (hb : (Asn.own E ends').rd b) : (Asn.own E ends).rd b ∨ o.words.on b ∨ o.prints.on b := by
  obtain ⟨i, hi, hb⟩ := hb
  have hm := nth_mem _ _ hi
  have key : ∀ y ∈ ends.l, Enc.on y b → (Asn.own E ends).rd b := fun y hy hyb => by
    obtain ⟨j, hj⟩ := List.getElem?_of_mem hy
    obtain ⟨hlt, e⟩ := List.getElem?_eq_some_iff.1 hj
    exact ⟨j, hlt, by rw [nth_lt _ _ hlt, e]; exact hyb⟩
  rcases h with ⟨_, e1⟩ | ⟨k, _, _, _, e1⟩
  · exact .inl (key _ (e1 ▸ hm) hb)
  · rw [e1] at hm hb
    rcases List.mem_append.1 hm with h1 | h1
    · exact .inl (key _ (List.mem_of_mem_take h1) hb)
    · rcases List.mem_cons.1 h1 with h1 | h1
      · rw [h1] at hb; exact .inr hb
      · exact .inl (key _ (List.mem_of_mem_drop h1) hb)
theorem ok_lenN {code : Ls (Ls Ins)} {words : Ls Int} {Lk R : Nat} (h : OkPg (pgN code words Lk R)) : 1 ≤ code.l.length ∧ code.l.length ≤ 4 ∧ words.l.length ≤ 64 ∧ 0 ≤ (Lk : Int) ∧ (Lk : Int) ≤ 4 ∧ 1 ≤ (R : Int) ∧ (R : Int) ≤ 200 := by
  have h1 := h.code
  have h2 := h.words
  have h3 := h.locks
  have h4 := h.regs
  simp only [pgN, pgOf, List.length_map] at h1 h2 h3 h4
  omega
theorem st_mapAt {states : List SD} {i : Nat} (h : i < states.length) : nth (states.map SD.st) i = (nth states i).st := nth_map' _ _ _ h

theorem by_s (code : Ls (Ls Ins)) (words : Ls Int) (Lk R : Nat) (mode : Int) (W : World) (hcode : code.At W) (hwords : words.At W) (hok : OkPg (pgN code words Lk R)) :
    Rets Try.prog 35 [.agg #[code.v, words.v, .int .i64 ((Lk : Nat) : Int), .int .i64 ((R : Nat) : Int)], .int .i64 mode] W (fun v w' => ∃ (g : Nat) (full : Bool) (kv hv bv : Value) (states : Ls SD) (ends : Ls OutL), v = .pointer (some ⟨g, 0, none⟩) ∧ (full = true ↔ Big (pgN code words Lk R) mode) ∧ (full = false → Sorted_ (ends.l.map OutL.out) ∧ ∀ o, o ∈ ends.l.map OutL.out ↔ Outs (pgN code words Lk R) mode o) ∧ ends.l.length ≤ 70000 ∧ (∀ o ∈ ends.l, ∀ b, Enc.on o b → W.heap.size ≤ b) ∧ ((full = false → (states.l.map SD.st).Nodup ∧ ∀ s, s ∈ states.l.map SD.st ↔ Reach (pgN code words Lk R) mode s) ∧ states.l.length ≤ 4001 ∧ SData W 112 [code.v, words.v, .int .i64 ((Lk : Nat) : Int), .int .i64 ((R : Nat) : Int), .int .i64 mode] states.l ends.l) ∧ Sh0 W w' [.blk g 42 [states.v, kv, hv, bv, ends.v, .bool full], .own 104 states, .own 77 ends]) := by
 obtain ⟨hl1, hcl, hwn, _, hlk9, _, hR9⟩ := ok_lenN hok
 have hlk : Lk ≤ 4 := by omega
 have hR : R ≤ 200 := by omega
 refine gen Try.func35 Try.ntmps35 (Sh0.ext2 hcode hwords : Sh (fun _ => False) W W [.at_ code, .at_ words]) rfl fun a10 h10 => gG h10<|sK fun _ k11 => gbx rfl rfl fun b12 => gRn (oM 1 rfl<|.nl)<|nK k11<|sK fun _ k13 => gRn (oV (r_build (cs := [(.slice none 0 0), (.slice none 0 0), (.slice none 0 0), (.slice none 0 0), (.slice none 0 0), .bool false]) rfl rfl (by kernel_rfl)) rfl<|.nl)<|gbx rfl rfl fun b14 => gRn (oM 1 rfl<|.nl)<|nK k13<|gK fun _ k15 => sG (oM 1 rfl<|.nl)<|gB<|fun a19 w19 h19 => ?_; clear h10
 have h18 := h19.nil (α := Int) 3
 clear h19
 refine x_loop (fun m a w => ∃ (i : Nat) (hl : List Int) (vh : Value), (i ≤ 4096) ∧ (hl = List.replicate i (-1)) ∧ (hl.length = i) ∧ St 124 (fun _ => False) W a w [(1, .int .i64 mode), (2, .pointer (some ⟨b12, 0, none⟩)), (5, .pointer (some ⟨b14, 0, none⟩)), (6, .int .i64 ((i : Nat) : Int))] [.blk b14 42 [(.slice none 0 0), (.slice none 0 0), vh, (.slice none 0 0), (.slice none 0 0), .bool false], .blk b12 25 [code.v, words.v, .int .i64 ((Lk : Nat) : Int), .int .i64 ((R : Nat) : Int)], .at_ code, .at_ words, .own 3 (⟨vh, hl⟩ : Ls Int)] ∧ m = 4096 - i) ⟨_, 0, [], (.slice none 0 0), (by omega), (rfl), (rfl), h18.nrm ⟨rfl, rfl, rfl, rfl, trivial⟩ [1, 2, 3, 4, 0] rfl, rfl⟩ ?_
 clear h18
 rintro m17 a17 w17 ⟨i, hl, vh, hi, hhl, hhn, h17, hm17⟩
 refine gG h17<|gK fun _ k20 => sG (oM 1 rfl<|oltN _ 4096 rfl<|.nl)<|?_; clear h17
 refine gcd rfl (fun hb22 hp22 => ?_) fun hb22 hp22 => ?_
 ·skip
  refine gS<|hK k20<|gK fun _ k23 => gB<|gL<|gRn (oM 2 rfl<|onfl 0 fl_42_2 ti_23 rfl rfl<|.nl)<|gE1 (fun _ _ h_ => x_lit (n := 1) (cs := [.int .i64 (-1)]) ([(-1)] : List Int) h_ sl_23 ti_3 rfl rfl rfl (by decide) rfl (by kernel_rfl) rfl (fun q hq w h => Flat.inner _ _) (fun q hq b hb => (Flat.on _ _ hb).elim) rfl rfl) rfl fun v24 => gE1 (fun _ _ h_ => x_app (r := 5) (rm := 0) (s := (⟨vh, hl⟩ : Ls Int)) (m := (⟨v24, [(-1)]⟩ : Ls Int)) h_ sl_23 ti_3 rfl rfl rfl rfl rfl rfl rfl (fun w h => (h.own 0 rfl)) (fun b hb => own_on (h_.sh.ok _ (List.mem_of_getElem? (i := 0) rfl)) hb) (fun q hq b hb => ⟨q, hq, hb⟩) rfl rfl rfl inferInstance (show (hl.length + ([(-1)]).length) * 8 ≤ 140737488355328 ∧ hl.length + ([(-1)]).length ≤ 140737488355328 from om9) rfl rfl) rfl fun v25 => gRn (onf fl_42_2 rfl<|.nl)<|gsr 1 ti_23 rfl (aO 5 rfl) rfl<|nK k23<|gL<|gRn (oM 1 rfl<|oadN _ 1 om9 rfl<|oM 1 rfl<|.nl)<|nN<|fun a27 w27 h27 => x_again ⟨_, ?_, i + 1, hl ++ ([(-1)]), v25, ?_, ?_, ?_, h27.nrm ⟨rfl, rfl, rfl, rfl, trivial⟩ [1, 2, 3, 4, 5] rfl, rfl⟩
  · rw [hm17]; first | omega | (simp only [lens9]; omega)
  · omega
  · rw [hhl, List.replicate_succ']
  · simp [hhn]
 refine gX<|hK k15<|?_
 have hi9 : i = 4096 := by omega
 refine sK fun _ k28 => gRn (olw 1 ti_25 rfl rfl<|oM 1 rfl<|.nl)<|fun a30 w30 h30 => wl_ex (x_call h30 bd_51 rfl rfl rfl rfl rfl (begin_c code words Lk R mode _ (h30.sh.at 2 rfl) (h30.sh.at 3 rfl) hcl hlk hR hwn)) (wanted_none rfl _) ?_
 rintro a31 w31 ⟨_, ⟨g31, rows31, vt31, w31w, o31w, p31w, rfl, hrw31, hw31, ho31, hp31, hs31⟩, hf31⟩
 have hyb := hrw31; have hyw := hw31; have hyo := ho31; have hyp := hp31
 have h31 := (⟨hf31, h30.sh.call hs31 (by intro A hA b hb; simp only [List.mem_cons, List.not_mem_nil, or_false] at hA; rcases hA with rfl | rfl | rfl | rfl | rfl | rfl <;> first | exact (hb : False).elim | exact Flat.noRd hb | exact bigNoRd hb)⟩ : St 124 (fun _ => False) W a31 w31 _ _)
 clear hf31 hs31
 clear h30
 refine gG h31<|gRn (oM 1 rfl<|.nl)<|nK k28<|sK fun _ k32 => gRn (oM 2 rfl<|.nl)<|fun a34 w34 h34 => ?_; clear h31
 have h33 := h34.nil (α := SD) 104
 clear h34
 have h35 := h33.nilDeep (α := Ls Int) 23
 clear h33
 have h36 := h35.nil (α := Int) 3
 clear h35
 have h37 := h36.nil (α := OutL) 77
 clear h36
 have h38 := h37.sel (L' := [_, _, _, _, _, _, _, _, _, _, _, _, _, _, _]) [4, 5, 6, 7, 8, 9, 0, 1, 2, 3, 10, 11, 12, 13, 14] rfl
 obtain ⟨x39, hx39⟩ : ∃ x, x = (⟨g31, 112, [code.v, words.v, .int .i64 ((Lk : Nat) : Int), .int .i64 ((R : Nat) : Int), .int .i64 mode], ⟨vt31, rows31⟩, w31w, o31w, p31w, false⟩ : SD) := ⟨_, rfl⟩
 have hfz39 := (Sh.freeze (hd := [code.v, words.v, .int .i64 ((Lk : Nat) : Int), .int .i64 ((R : Nat) : Int), .int .i64 mode]) (rows := rows31) (words := w31w) (owner := o31w) (prints := p31w) (vt := vt31) h38.sh)
 rw [← hx39] at hfz39
 have hz39 : St 124 (fun _ => False) W a34 w34 _ [.rd1 x39, .own 77 (⟨.slice none 0 0, []⟩ : Ls OutL), .own 3 (⟨.slice none 0 0, []⟩ : Ls Int), .deep 23 (⟨.slice none 0 0, []⟩ : Ls (Ls Int)), .own 104 (⟨.slice none 0 0, []⟩ : Ls SD), .blk b14 42 [(.slice none 0 0), (.slice none 0 0), vh, (.slice none 0 0), (.slice none 0 0), .bool false], .blk b12 25 [code.v, words.v, .int .i64 ((Lk : Nat) : Int), .int .i64 ((R : Nat) : Int)], .at_ code, .at_ words, .own 3 (⟨vh, hl⟩ : Ls Int)] := ⟨h38.fr, hfz39.1⟩
 clear h38
 have hg39 : g31 = x39.g := by rw [hx39]
 have hst39 : x39.st = begin_ (pgN code words Lk R) := by rw [hx39]; unfold SD.st begin_; simp only [hyb, hyw, hyo, hyp]; simp [pgN, pgOf, Function.comp_def, List.map_const']
 have hwf39 : WfX code words Lk R x39 := by have h9 := Wf.begin_ hok; rw [← hst39] at h9; exact h9.toX
 have hpl39 : x39.prints.l.length = 0 := by rw [hx39]; simp only [hyp]; rfl
 have hdy39 : x39.hd = [code.v, words.v, .int .i64 ((Lk : Nat) : Int), .int .i64 ((R : Nat) : Int), .int .i64 mode] ∧ x39.E = 112 ∧ x39.fell = false ∧ ∀ b, Enc.on x39 b → W.heap.size ≤ b := ⟨by rw [hx39], by rw [hx39], by rw [hx39], fun b hb => (hfz39.2 b hb).elim (fun h => h.elim) id⟩
 have h40 := hz39.sel (L' := [_, _, _, _, _, _, _, _, _, _]) [5, 4, 3, 9, 2, 0, 1, 6, 7, 8] rfl
 have hp41 := h40.sh.passL (Lp := [_, _, _, _, _, _])
 refine wl_ex (x_call h40 bd_52 rfl rfl rfl rfl rfl (by have h9 := put_c _ b14 x39 (⟨.slice none 0 0, []⟩ : Ls SD) (⟨.slice none 0 0, []⟩ : Ls (Ls Int)) (⟨vh, hl⟩ : Ls Int) (⟨.slice none 0 0, []⟩ : Ls Int) (.slice none 0 0) false _ _ _ _ _ _ hp41 (by rw [hhl, hi9]; exact headsOK0) rfl (by simp) hdy39.1 hdy39.2.1 (by rw [hwf39.thl]; exact hcl) (fun i hi => by have h9 := hwf39.regs i hi; omega) hwf39.wait (by have h9 := hwf39.words; have h8 := hwf39.owner; have h7 := hpl39; omega); rw [← hg39] at h9; exact h9)) (wanted_none rfl _) ?_
 rintro a42 w42 ⟨_, ⟨rfl, st42, ke42, he42, be42, fu42, hkr42, hs42⟩, hf42⟩
 have h42 : St 124 (fun _ => False) W a42 w42 _ [_, _, _, _, _, _, _, _, _, _] := ⟨hf42, h40.sh.backL (Lp := [_, _, _, _, _, _]) hs42 (by intro A hA b hb; simp only [List.mem_cons, List.not_mem_nil, or_false] at hA; rcases hA with rfl | rfl | rfl | rfl | rfl | rfl <;> first | exact (hb : False).elim | exact Flat.noRd hb | exact .inl ⟨_, List.mem_cons_self .., .inr hb⟩ | exact (hkr42.rd hb).elim (fun h => .inl ⟨_, List.mem_of_getElem? (i := 1) rfl, .inr h⟩) (fun h => .inl ⟨_, List.mem_of_getElem? (i := 5) rfl, .inr h⟩) | exact .inl ⟨_, by simp, .inr hb⟩)⟩
 clear hf42 hs42
 clear h40
 refine gG h42<|nK k32<|?_; clear h42
 obtain ⟨hc1, hc2, hc3⟩ : st42.l = [x39] ∧ ke42.l.map (·.l) = [keyOf x39.st] ∧ fu42 = (false || decide (4000 < 0 + 1)) := by rcases hkr42 with ⟨⟨j, hj, _⟩, _⟩ | ⟨_, e1, e2, _, e3⟩; exact absurd hj (by simp); exact ⟨e1, e2, e3⟩
 have hinv0 : Inv (pgN code words Lk R) mode (st42.l.map SD.st) (([] : List OutL).map OutL.out) fu42 0 := by rw [hc1, hc3]; exact Inv.first _ hst39
 have hkey0 : ke42.l.map (·.l) = (st42.l.map SD.st).map keyOf := by rw [hc2, hc1]; rfl
 have hhok0 := keyRel_ok hkr42
 have hlen0 : st42.l.length = ke42.l.length := by have h9 := congrArg List.length hc2; simp at h9; rw [hc1]; simp [h9]
 have hsd0 : SData W 112 [code.v, words.v, .int .i64 ((Lk : Nat) : Int), .int .i64 ((R : Nat) : Int), .int .i64 mode] st42.l ([] : List OutL) := ⟨fun y hy => (by rw [hc1] at hy; obtain rfl : y = x39 := (by simpa using hy); exact hdy39), fun o ho => (by cases ho)⟩
 have hel0 : ([] : List OutL).length ≤ 16 * 0 := by simp
 refine gK fun _ k43 => sG (oM 1 rfl<|.nl)<|gB<|fun a46 w46 h46 => x_loop (fun m a w => ∃ (i : Nat) (full : Bool) (states : Ls SD) (keys : Ls (Ls Int)) (heads before : Ls Int) (ends : Ls OutL), (i ≤ states.l.length) ∧ (Inv (pgN code words Lk R) mode (states.l.map SD.st) (ends.l.map OutL.out) full i) ∧ (keys.l.map (·.l) = (states.l.map SD.st).map keyOf) ∧ (HeadsOK (keys.l.map (·.l)) heads.l before.l) ∧ (states.l.length = keys.l.length) ∧ (SData W 112 [code.v, words.v, .int .i64 ((Lk : Nat) : Int), .int .i64 ((R : Nat) : Int), .int .i64 mode] states.l ends.l) ∧ (ends.l.length ≤ 16 * i) ∧ St 124 (fun _ => False) W a w [(5, .pointer (some ⟨b14, 0, none⟩)), (8, .int .i64 ((i : Nat) : Int))] [.blk b14 42 [states.v, keys.v, heads.v, before.v, ends.v, .bool full], .own 104 states, .deep 23 keys, .own 3 heads, .own 3 before, .rd1 x39, .own 77 ends, .blk b12 25 [code.v, words.v, .int .i64 ((Lk : Nat) : Int), .int .i64 ((R : Nat) : Int)], .at_ code, .at_ words] ∧ m = 4002 - i) ⟨_, 0, fu42, st42, ke42, he42, be42, (⟨.slice none 0 0, []⟩ : Ls OutL), (by omega), (hinv0), (hkey0), (hhok0), (hlen0), (hsd0), (hel0), h46.nf ⟨rfl, rfl, trivial⟩, rfl⟩ ?_
 clear h46
 rintro m45 a45 w45 ⟨i, full, states, keys, heads, before, ends, hi, hinv, hkey, hhok, hlen, hsd, hel, h45, hm45⟩
 refine gG h45<|gK fun _ k47 => sK fun _ k48 => gNl (aO 1 rfl) fun hl49 => gRn (oM 2 rfl<|onfl 0 fl_42_0 ti_38 rfl rfl<|oln sl_38 (aO 1 rfl) rfl<|oltN _ _ rfl<|oM 1 rfl<|.nl)<|?_; clear h45
 rcases dsp (i < states.l.length) with ⟨hb50, hp50⟩ | ⟨hb50, hp50⟩
 ·skip
  refine gRn (oG hb50 (r_move rfl rfl) rfl<|oG hb50 (r_nil rfl rfl) rfl<|oG hb50 (r_fieldB (r := 5) fl_42_5 rfl rfl rfl) rfl<|oG hb50 (r_ldb (i := 0) ti_4 rfl rfl rfl rfl) rfl<|oG hb50 (r_not rfl rfl) rfl<|opT hb50 rfl<|.nl)<|nK k48<|gCb rfl (fun hb51 => ?_) fun hb51 => ?_
  ·have hn51 : full = false := (Bool.not_eq_true' _).mp hb51
   refine gS<|hK k47<|gK fun _ k52 => gB<|sG (oM 1 rfl<|onfl 0 fl_42_0 ti_38 rfl rfl<|oM 1 rfl<|oxN sl_38 ti_104 (aO 1 rfl) _ om9 rfl<|olE (.pointer (some ⟨(nth states.l i).g, 0, none⟩)) ti_104 (aO 1 rfl) om9 rfl<|oM 1 rfl<|.nl)<|fun a55 w55 h55 => ?_
   obtain ⟨x, hxx⟩ : ∃ x, x = nth states.l i := ⟨_, rfl⟩
   rw [← hxx] at h55
   have hil : i < states.l.length := by omega
   have hxm : x ∈ states.l := by rw [hxx]; exact nth_mem _ _ hil
   have hxs : x.st ∈ states.l.map SD.st := List.mem_map.2 ⟨x, hxm, rfl⟩
   have hxi : nth (states.l.map SD.st) i = x.st := by rw [st_mapAt hil, ← hxx]
   have hws := (hinv.reach _ hxs).wf hok
   have hwx := hws.toX
   obtain ⟨hd1, hd2, hd3, hd4⟩ := hsd.hd x hxm
   have hin54 := (h55.sh.own 1 rfl).inner i (by omega)
   rw [← hxx] at hin54
   obtain ⟨hn1, hn2, hn3, hn4, hn5⟩ := (show Enc.inner x _ from hin54)
   rw [hd2, SD.cells, hd1, hd3] at hn1
   have hprx : x.prints.l.length ≤ 2 * i := by have h9 := hinv.pr i (by simpa using hil); rw [hxi] at h9; exact h9
   have hnl : states.l.length ≤ 4001 := by have h9 := hinv.len; simpa using h9
   have hxl : x.words.l.length ≤ 100000 ∧ x.owner.l.length ≤ 100000 ∧ x.prints.l.length ≤ 100000000 := by have h9 := hwx.words; have h8 := hwx.owner; omega
   have h56 := h55.addRd (A := .rblk x.g 112 [code.v, words.v, .int .i64 ((Lk : Nat) : Int), .int .i64 ((R : Nat) : Int), .int .i64 mode, x.thr.v, x.words.v, x.owner.v, x.prints.v, .bool false]) hn1 (fun b hb => hb) (fun b hb => ⟨.own 104 states, List.mem_of_getElem? (i := 1) rfl, i, hil, by rw [← hxx]; exact .inl hb⟩)
   clear h55
   have h57 := h56.addRd (A := .at_ x.thr) hn2 (fun b hb => hb) (fun b hb => ⟨.own 104 states, List.mem_of_getElem? (i := 2) rfl, i, hil, by rw [← hxx]; exact .inr (.inl hb)⟩)
   clear h56
   have h58 := h57.addRd (A := .at_ x.words) hn3 (fun b hb => hb) (fun b hb => ⟨.own 104 states, List.mem_of_getElem? (i := 3) rfl, i, hil, by rw [← hxx]; exact .inr (.inr (.inl hb))⟩)
   clear h57
   have h59 := h58.addRd (A := .at_ x.owner) hn4 (fun b hb => hb) (fun b hb => ⟨.own 104 states, List.mem_of_getElem? (i := 4) rfl, i, hil, by rw [← hxx]; exact .inr (.inr (.inr (.inl hb)))⟩)
   clear h58
   have h60 := h59.addRd (A := .at_ x.prints) hn5 (fun b hb => hb) (fun b hb => ⟨.own 104 states, List.mem_of_getElem? (i := 5) rfl, i, hil, by rw [← hxx]; exact .inr (.inr (.inr (.inr hb)))⟩)
   clear h59
   skip
   refine gG h60<|sK fun _ k61 => gRn (oM 1 rfl<|.nl)<|gP (fun _ _ h_ => xCl h_ bd_53 rfl (ended_c x.g code x.thr _ _ _ _ _ _ _ _ _ (h_.sh.rblk 4 rfl) (h_.sh.at 13 rfl) (h_.sh.at 3 rfl) hcl hwx.thl (fun t ht => (hwx.pc t ht).1))) rfl<|gRn (oM 1 rfl<|.nl)<|nK k61<|gF [5, 8, 9, 10] rfl<|sK fun _ k63 => gRn (oM 1 rfl<|.nl)<|fun a65 w65 h65 => wl_ex (x_call h65 bd_54 rfl rfl rfl rfl rfl (moves_c x.g code x.thr x.owner _ _ _ _ _ _ _ _ (h65.sh.rblk 4 rfl) (h65.sh.at 13 rfl) (h65.sh.at 3 rfl) (h65.sh.at 1 rfl) hcl hwx.thl (fun t ht => (hwx.pc t ht).1) (fun t ht i hi h17 => by have h9 := lock_N hok ht hi h17; rw [hwx.owner]; exact h9) (fun t ht => hwx.wait t (by rw [hwx.thl]; exact ht)))) (wanted_none rfl _) ?_; clear h60
   rintro a66 w66 ⟨_, ⟨ml66, rfl, hml66, hs66⟩, hf66⟩
   rw [moves_eq (Lk := Lk) (R := R) (words := words) hwx.thl] at hml66
   have hmv := hml66
   have hmvl : ml66.l.length ≤ 16 := by rw [hmv]; exact moves_len hwx.thl hcl hwx.wait
   have h66 : St _ (fun _ => False) W a66 w66 _ _ := ⟨hf66, h65.sh.callI hs66⟩
   clear hf66 hs66
   clear h65
   refine gG h66<|gRn (oM 1 rfl<|.nl)<|nK k63<|gK fun _ k67 => sG (oM 1 rfl<|.nl)<|?_; clear h66
   refine gCb rfl (fun hb69 => ?_) fun hb69 => ?_
   ·skip
    refine gK fun _ k70 => rT 10 [] (oM 2 rfl<|onf fl_112_3 rfl<|olR 5 ti_23 rfl rfl<|oM 1 rfl<|onf fl_112_5 rfl<|olR 5 ti_23 rfl rfl<|oV (r_buildS (cs := [.int .i64 0, x.words.v, x.prints.v]) rfl rfl (fun w h => by obtain ⟨A72, n72, c72, (e72 : x.prints.v = _)⟩ := ((h.at 1 rfl)).form; rw [e72]; obtain ⟨A71, n71, c71, (e71 : x.words.v = _)⟩ := ((h.at 3 rfl)).form; rw [e71]; kernel_rfl)) rfl<|.nl)<|gO [6, 12, 3, 1, 0, 2, 4, 5, 7, 8, 9, 10, 11, 13, 14, 15] rfl<|fun a78 w78 h78 => ?_
    have hp77 := h78.sh.passL (Lp := [_, _, _, _])
    refine wl_ex (x_call h78 bd_55 rfl rfl rfl rfl rfl (putO_c _ _ (⟨0, x.words, x.prints⟩ : OutL) ends _ _ _ _ _ _ hp77 (by omega))) (wanted_none rfl _) ?_
    rintro a79 w79 ⟨_, ⟨rfl, en79, hpr79, hs79⟩, hf79⟩
    have h79 : St 124 (fun _ => False) W a79 w79 _ [_, _, _, _, _, _, _, _, _, _, _, _, _, _, _, _] := ⟨hf79, h78.sh.backL (Lp := [_, _, _, _]) hs79 (by intro A hA b hb; simp only [List.mem_cons, List.not_mem_nil, or_false] at hA; rcases hA with rfl | rfl | rfl | rfl <;> first | exact (hb : False).elim | exact Flat.noRd hb | exact .inl ⟨_, List.mem_cons_self .., .inr hb⟩ | exact (hpr79.rd hb).elim (fun h => .inl ⟨_, List.mem_of_getElem? (i := 1) rfl, .inr h⟩) (fun h => h.elim (fun h => .inl ⟨_, List.mem_of_getElem? (i := 2) rfl, .inr h⟩) (fun h => .inl ⟨_, List.mem_of_getElem? (i := 3) rfl, .inr h⟩)) | exact .inl ⟨_, by simp, .inr hb⟩)⟩
    clear hf79 hs79
    clear h78
    refine gG h79<|nK k70<|gX<|hK k52<|gL<|gRn (oM 1 rfl<|oadN _ 1 om9 rfl<|oM 1 rfl<|.nl)<|nN<|?_; clear h79
    have hps := hpr79.sorted hinv.sorted
    have hinvN := hinv.ended (by simpa using hil) (by rw [hxi, ← ended_eq hwx.thl]; assumption) hps.1 (by intro y; rw [hps.2 y, hxi]; rfl)
    obtain ⟨hsdN, hle9⟩ := hsd.put hpr79 (fun b hb => hd4 b (hb.elim (fun hb => .inr (.inr (.inl hb))) (fun hb => .inr (.inr (.inr (.inr hb))))))
    have helN : en79.l.length ≤ 16 * (i + 1) := by omega
    have hiN : i + 1 ≤ states.l.length := by omega
    intro a80 w80 h80
    refine x_again ⟨_, ?_, (i + 1), full, states, keys, heads, before, en79, ?_, ?_, ?_, ?_, ?_, ?_, ?_, h80.nrm ⟨rfl, rfl, trivial⟩ [0, 8, 9, 10, 11, 12, 1, 13, 14, 15] rfl, rfl⟩
    · rw [hm45]; omega
    · first | exact hiN | omega
    · first | exact hinvN | exact hinv
    · first | exact hkeyN | exact hkey
    · first | exact hhokN | exact hhok
    · first | exact hlenN | exact hlen
    · first | exact hsdN | exact hsd
    · first | exact helN | omega
   refine gS<|hK k67<|gK fun _ k81 => sK fun _ k82 => gNl (aO 0 rfl) fun hl83 => gRn (oM 1 rfl<|oln sl_23 (aO 0 rfl) rfl<|oeqN _ 0 rfl<|.nl)<|nK k82<|gcd rfl (fun hb84 hp84 => ?_) fun hb84 hp84 => ?_
   ·skip
    refine gK fun _ k85 => rT 10 [] (oM 2 rfl<|onf fl_112_3 rfl<|olR 5 ti_23 rfl rfl<|oM 1 rfl<|onf fl_112_5 rfl<|olR 5 ti_23 rfl rfl<|oV (r_buildS (cs := [.int .i64 2, x.words.v, x.prints.v]) rfl rfl (fun w h => by obtain ⟨A87, n87, c87, (e87 : x.prints.v = _)⟩ := ((h.at 1 rfl)).form; rw [e87]; obtain ⟨A86, n86, c86, (e86 : x.words.v = _)⟩ := ((h.at 3 rfl)).form; rw [e86]; kernel_rfl)) rfl<|.nl)<|gO [6, 12, 3, 1, 0, 2, 4, 5, 7, 8, 9, 10, 11, 13, 14, 15] rfl<|fun a93 w93 h93 => ?_
    have hp92 := h93.sh.passL (Lp := [_, _, _, _])
    refine wl_ex (x_call h93 bd_55 rfl rfl rfl rfl rfl (putO_c _ _ (⟨2, x.words, x.prints⟩ : OutL) ends _ _ _ _ _ _ hp92 (by omega))) (wanted_none rfl _) ?_
    rintro a94 w94 ⟨_, ⟨rfl, en94, hpr94, hs94⟩, hf94⟩
    have h94 : St 124 (fun _ => False) W a94 w94 _ [_, _, _, _, _, _, _, _, _, _, _, _, _, _, _, _] := ⟨hf94, h93.sh.backL (Lp := [_, _, _, _]) hs94 (by intro A hA b hb; simp only [List.mem_cons, List.not_mem_nil, or_false] at hA; rcases hA with rfl | rfl | rfl | rfl <;> first | exact (hb : False).elim | exact Flat.noRd hb | exact .inl ⟨_, List.mem_cons_self .., .inr hb⟩ | exact (hpr94.rd hb).elim (fun h => .inl ⟨_, List.mem_of_getElem? (i := 1) rfl, .inr h⟩) (fun h => h.elim (fun h => .inl ⟨_, List.mem_of_getElem? (i := 2) rfl, .inr h⟩) (fun h => .inl ⟨_, List.mem_of_getElem? (i := 3) rfl, .inr h⟩)) | exact .inl ⟨_, by simp, .inr hb⟩)⟩
    clear hf94 hs94
    clear h93
    refine gG h94<|nK k85<|gX<|hK k52<|gL<|gRn (oM 1 rfl<|oadN _ 1 om9 rfl<|oM 1 rfl<|.nl)<|nN<|?_; clear h94
    have hps := hpr94.sorted hinv.sorted
    have hinvN := hinv.stuck (by simpa using hil) (by rw [hxi, ← ended_eq hwx.thl]; assumption) (by rw [hxi, ← hmv]; exact List.eq_nil_of_length_eq_zero (by omega)) hps.1 (by intro y; rw [hps.2 y, hxi]; rfl)
    obtain ⟨hsdN, hle9⟩ := hsd.put hpr94 (fun b hb => hd4 b (hb.elim (fun hb => .inr (.inr (.inl hb))) (fun hb => .inr (.inr (.inr (.inr hb))))))
    have helN : en94.l.length ≤ 16 * (i + 1) := by omega
    have hiN : i + 1 ≤ states.l.length := by omega
    intro a95 w95 h95
    refine x_again ⟨_, ?_, (i + 1), full, states, keys, heads, before, en94, ?_, ?_, ?_, ?_, ?_, ?_, ?_, h95.nrm ⟨rfl, rfl, trivial⟩ [0, 8, 9, 10, 11, 12, 1, 13, 14, 15] rfl, rfl⟩
    · rw [hm45]; omega
    · first | exact hiN | omega
    · first | exact hinvN | exact hinv
    · first | exact hkeyN | exact hkey
    · first | exact hhokN | exact hhok
    · first | exact hlenN | exact hlen
    · first | exact hsdN | exact hsd
    · first | exact helN | omega
   refine gS<|hK k81<|sG (oM 1 rfl<|.nl)<|gB<|?_
   have hmv0 : ml66.l.length ≠ 0 := by omega
   intro a98 w98 h98
   refine x_loop (fun m a w => ∃ (k : Nat) (full2 : Bool) (states2 : Ls SD) (keys2 : Ls (Ls Int)) (heads2 before2 : Ls Int) (ends2 : Ls OutL), (k ≤ ml66.l.length) ∧ (Inv (pgN code words Lk R) mode (states2.l.map SD.st) (ends2.l.map OutL.out) full2 i) ∧ (keys2.l.map (·.l) = (states2.l.map SD.st).map keyOf) ∧ (HeadsOK (keys2.l.map (·.l)) heads2.l before2.l) ∧ (states2.l.length = keys2.l.length) ∧ (SData W 112 [code.v, words.v, .int .i64 ((Lk : Nat) : Int), .int .i64 ((R : Nat) : Int), .int .i64 mode] states2.l ends2.l) ∧ (ends2.l.length ≤ 16 * i + k) ∧ (states.l.length ≤ states2.l.length) ∧ (nth (states2.l.map SD.st) i = x.st) ∧ (x ∈ states2.l) ∧ (full2 = false → ∀ q, q < k → HandM (pgN code words Lk R) mode (states2.l.map SD.st) (ends2.l.map OutL.out) x.st (nth ml66.l q)) ∧ St 124 (fun _ => False) W a w [(5, .pointer (some ⟨b14, 0, none⟩)), (8, .int .i64 ((i : Nat) : Int)), (9, .pointer (some ⟨x.g, 0, none⟩)), (11, ml66.v), (12, .int .i64 ((k : Nat) : Int))] [.own 3 ml66, .at_ x.prints, .at_ x.owner, .at_ x.words, .at_ x.thr, .rblk x.g 112 [code.v, words.v, .int .i64 ((Lk : Nat) : Int), .int .i64 ((R : Nat) : Int), .int .i64 mode, x.thr.v, x.words.v, x.owner.v, x.prints.v, .bool false], .blk b14 42 [states2.v, keys2.v, heads2.v, before2.v, ends2.v, .bool full2], .own 104 states2, .deep 23 keys2, .own 3 heads2, .own 3 before2, .rd1 x39, .own 77 ends2, .blk b12 25 [code.v, words.v, .int .i64 ((Lk : Nat) : Int), .int .i64 ((R : Nat) : Int)], .at_ code, .at_ words] ∧ m = ml66.l.length - k) ⟨_, 0, full, states, keys, heads, before, ends, (by omega), (hinv), (hkey), (hhok), (hlen), (hsd), (by omega), (Nat.le_refl _), (hxi), (hxm), (fun _ q hq => absurd hq (by omega)), h98.nf ⟨rfl, rfl, rfl, rfl, rfl, trivial⟩, rfl⟩ ?_
   clear h98
   rintro m97 a97 w97 ⟨k, full2, states2, keys2, heads2, before2, ends2, hk, hinv2, hkey2, hhok2, hlen2, hsd2, hel2, hle2, hx2, hrd2, hhand, h97, hm97⟩
   refine gG h97<|gK fun _ k99 => sK fun _ k100 => gRn (oM 2 rfl<|oln sl_23 (aO 0 rfl) rfl<|oltN _ _ rfl<|oM 1 rfl<|.nl)<|?_; clear h97
   rcases dsp (k < ml66.l.length) with ⟨hb101, hp101⟩ | ⟨hb101, hp101⟩
   ·skip
    refine gRn (oG hb101 (r_move rfl rfl) rfl<|oG hb101 (r_nil rfl rfl) rfl<|oG hb101 (r_fieldB (r := 5) fl_42_5 rfl rfl rfl) rfl<|oG hb101 (r_ldb (i := 6) ti_4 rfl rfl rfl rfl) rfl<|oG hb101 (r_not rfl rfl) rfl<|opT hb101 rfl<|.nl)<|nK k100<|gCb rfl (fun hb102 => ?_) fun hb102 => ?_
    ·have hn102 : full2 = false := (Bool.not_eq_true' _).mp hb102
     refine gS<|hK k99<|gK fun _ k103 => gB<|sK fun _ k104 => gRn (oM 1 rfl<|.nl)<|fun a106 w106 h106 => wl_ex (x_call h106 bd_56 rfl rfl rfl rfl rfl (copy_c x.g x.thr x.words x.owner x.prints _ _ _ _ _ _ _ (h106.sh.rblk 5 rfl) (h106.sh.at 4 rfl) (h106.sh.at 3 rfl) (h106.sh.at 2 rfl) (h106.sh.at 1 rfl) (by rw [hwx.thl]; exact hcl) (fun i hi => by have h9 := hwx.regs i hi; omega) hwx.wait hxl)) (wanted_none rfl _) ?_
     rintro a107 w107 ⟨_, ⟨g107, rows107, vt107, w107w, o107w, p107w, rfl, hrw107, hw107, ho107, hp107, hs107⟩, hf107⟩
     have h107 := (⟨hf107, h106.sh.call hs107 (by intro A hA b hb; simp only [List.mem_cons, List.not_mem_nil, or_false] at hA; rcases hA with rfl | rfl | rfl | rfl | rfl | rfl <;> first | exact (hb : False).elim | exact Flat.noRd hb | exact bigNoRd hb)⟩ : St 124 (fun _ => False) W a107 w107 _ _)
     clear hf107 hs107
     clear h106
     refine gG h107<|gRn (oM 1 rfl<|.nl)<|nK k104<|sK fun _ k108 => gRn (oM 3 rfl<|oxN sl_23 ti_3 (aO 6 rfl) _ om9 rfl<|olI ti_3 (aO 6 rfl) om9 rfl<|.nl)<|?_; clear h107
     obtain ⟨t, kk, htt, hkk, hmt⟩ := mem_moves.1 (by rw [← hmv]; exact nth_mem ml66.l k (by omega))
     rw [pgN_len] at htt
     have hk3 : kk ≤ 3 := mvOK_le hkk ((hws.th t (by rw [pgN_len]; exact htt)).wait)
     obtain ⟨hrl, hra⟩ := rows_at hrw107
     obtain ⟨hr1, hr2, hr3⟩ := hra t (by rw [hwx.thl]; exact htt)
     have hpcx := hwx.pc t htt
     have h400 : (nth code.l t).l.length ≤ 400 := by have h9 := hok.len t (by rw [pgN_len]; exact htt); rwa [pgN_code htt] at h9
     have hkw : kk ≤ (nth rows107 t).wait.l.length ∧ (kk = 0 → (nth x.thr.l t).pc < (nth code.l t).l.length) := by rw [hr3]; rw [pgN_code htt, st_view (by rw [hwx.thl]; exact htt)] at hkk; rcases mvOK_k hkk with ⟨e9, h9, _⟩ | ⟨h9, h8, _⟩; exact ⟨by omega, fun _ => h9⟩; exact ⟨h8, fun e => by omega⟩
     intro a110 w110 h110
     have h109 := h110.same (d := 107) (v' := .int .i64 ((8 * t + kk : Nat) : Int)) rfl (by rw [hmt])
     clear h110
     have h111 := h109.sel (L' := [_, _, _, _, _, _, _, _, _, _, _, _, _, _, _, _, _, _, _, _, _, _]) [0, 1, 2, 3, 4, 5, 20, 6, 7, 8, 9, 10, 11, 12, 13, 14, 15, 16, 17, 18, 19, 21] rfl
     have hp112 := h111.sh.passL (Lp := [_, _, _, _, _, _, _])
     refine wl_ex (x_call h111 bd_57 rfl rfl rfl rfl rfl (do_tk _ g107 (8 * t + kk) t kk code vt107 rows107 w107w o107w p107w _ _ _ mode false _ hp112 (by omega) (by omega) (by rw [hrl, hwx.thl]; exact htt) htt (by omega) (by rw [hr1]; omega) (by rw [hr3]; exact hwx.wait t (by rw [hwx.thl]; exact htt)) hkw.1 (by rw [hp107]; exact hxl.2.2) (by rw [ho107]; have h9 := hwx.owner; omega) (by rw [hr3, ho107, hw107]; exact hwx.wt t (by rw [hwx.thl]; exact htt)) (fun e => by rw [hr1, hr2, hw107, ho107, hwx.regs t (by rw [hwx.thl]; exact htt), hwx.words, hwx.owner]; exact insR_N hok htt hpcx.1 (hkw.2 e)))) (wanted_none rfl _) ?_
     rintro a113 w113 ⟨_, ⟨rfl, rows113, w113w, o113w, p113w, f113w, y113, hy113, hyr113, hyw113, hyo113, hyp113, hyf113, hs113⟩, hf113⟩
     change Sh _ _ _ [.blk g107 112 [code.v, words.v, .int .i64 ((Lk : Nat) : Int), .int .i64 ((R : Nat) : Int), .int .i64 mode, vt107, w113w.v, o113w.v, p113w.v, .bool f113w], .own 121 (⟨vt107, rows113.map ThL.toV⟩ : Ls ThV), .big (rowsA 3 130 rows113), .own 3 w113w, .own 3 o113w, .own 3 p113w, .at_ code] at hs113
     have h113 : St 124 (fun _ => False) W a113 w113 _ [_, _, _, _, _, _, _, _, _, _, _, _, _, _, _, _, _, _, _, _, _, _] := ⟨hf113, h111.sh.backL (Lp := [_, _, _, _, _, _, _]) hs113 (by intro A hA b hb; simp only [List.mem_cons, List.not_mem_nil, or_false] at hA; rcases hA with rfl | rfl | rfl | rfl | rfl | rfl | rfl <;> first | exact (hb : False).elim | exact Flat.noRd hb | exact .inl ⟨_, List.mem_cons_self .., .inr hb⟩ | exact bigNoRd hb | exact .inl ⟨_, List.mem_of_getElem? (i := 6) rfl, .inr hb⟩ | exact .inl ⟨_, by simp, .inr hb⟩)⟩
     clear hf113 hs113
     clear h111
     refine gG h113<|nK k108<|sG (oM 1 rfl<|onfl 0 fl_112_6 ti_4 rfl rfl<|.nl)<|?_; clear h113
     refine gCb rfl (fun hb115 => ?_) fun hb115 => ?_
     ·skip
      obtain ⟨hya, _⟩ := st_step (x := x) (z := x) (rows' := rows113) htt hwx.thl hrw107 hw107 ho107 hp107 hy113
      have hfy : (stepT (pgN code words Lk R) mode x.st t kk).fell = true := by rw [← hya, ← hyf113]; assumption
      have hyps : p113w.l = (stepT (pgN code words Lk R) mode x.st t kk).prints := by rw [hyp113, hya]
      refine gL<|gRn (oM 2 rfl<|onfl 0 fl_112_5 ti_23 rfl rfl<|oV (r_buildS (cs := [.int .i64 1, (.slice none 0 0), p113w.v]) rfl rfl (fun w h => by obtain ⟨A116, n116, c116, (e116 : p113w.v = _)⟩ := ((h.own 5 rfl)).form; rw [e116]; kernel_rfl)) rfl<|.nl)<|fun a118 w118 h118 => ?_
      have h117 := h118.addRd (A := .at_ (⟨.slice none 0 0, []⟩ : Ls Int)) (LsNil _) (fun b hb => hb) (fun b hb => (nilOn hb).elim)
      clear h118
      have hnw119 := h117.sh.own_new 6 rfl
      have h119 : St 124 (fun _ => False) W a118 w118 _ _ := ⟨h117.fr, h117.sh.share 6 rfl⟩
      clear h117
      have h120 := h119.sel (L' := [_, _, _, _, _, _, _, _, _, _, _, _, _, _, _, _, _, _, _, _, _, _, _]) [14, 20, 0, 6, 1, 2, 3, 4, 5, 7, 8, 9, 10, 11, 12, 13, 15, 16, 17, 18, 19, 21, 22] rfl
      have hp121 := h120.sh.passL (Lp := [_, _, _, _])
      refine wl_ex (x_call h120 bd_55 rfl rfl rfl rfl rfl (putO_c _ _ (⟨1, (⟨.slice none 0 0, []⟩ : Ls Int), p113w⟩ : OutL) ends2 _ _ _ _ _ _ hp121 (by omega))) (wanted_none rfl _) ?_
      rintro a122 w122 ⟨_, ⟨rfl, en122, hpr122, hs122⟩, hf122⟩
      have h122 : St 124 (fun _ => False) W a122 w122 _ [_, _, _, _, _, _, _, _, _, _, _, _, _, _, _, _, _, _, _, _, _, _, _] := ⟨hf122, h120.sh.backL (Lp := [_, _, _, _]) hs122 (by intro A hA b hb; simp only [List.mem_cons, List.not_mem_nil, or_false] at hA; rcases hA with rfl | rfl | rfl | rfl <;> first | exact (hb : False).elim | exact Flat.noRd hb | exact .inl ⟨_, List.mem_cons_self .., .inr hb⟩ | exact (hpr122.rd hb).elim (fun h => .inl ⟨_, List.mem_of_getElem? (i := 1) rfl, .inr h⟩) (fun h => h.elim (fun h => .inl ⟨_, List.mem_of_getElem? (i := 2) rfl, .inr h⟩) (fun h => .inl ⟨_, List.mem_of_getElem? (i := 3) rfl, .inr h⟩)) | exact .inl ⟨_, by simp, .inr hb⟩)⟩
      clear hf122 hs122
      clear h120
      refine gG h122<|nK k103<|gF [5, 8, 9, 11, 12] rfl<|gL<|gRn (oM 1 rfl<|oadN _ 1 om9 rfl<|oM 1 rfl<|.nl)<|nN<|?_; clear h122
      have hps := hpr122.sorted hinv2.sorted
      have hinvM := hinv2.addOut (.fell (hinv.reach _ hxs) (by rw [pgN_len]; exact htt) hkk hfy) hps.1 (by intro y; rw [hps.2 y]; simp only [OutL.out, hyps])
      obtain ⟨hsdM, hle9⟩ := hsd2.put hpr122 (fun b hb => hb.elim (fun hb => (nilOn hb).elim) (fun hb => (hnw119 b hb).elim (fun h => h.elim) id))
      have hkeyM := hkey2; have hhokM := hhok2; have hlenM := hlen2; have hleM := hle2; have hxM := hx2; have hrdM := hrd2
      have helM : en122.l.length ≤ 16 * i + (k + 1) := by omega
      have hhandM : full2 = false → ∀ q, q < k + 1 → HandM (pgN code words Lk R) mode (states2.l.map SD.st) (en122.l.map OutL.out) x.st (nth ml66.l q) := by
       intro hf q hq; rcases Nat.lt_or_ge q k with h9 | h9; exact (hhand hf q h9).mono (fun _ h => h) (fun y hy => (hps.2 y).2 (.inl hy)); obtain rfl : q = k := (by omega); exact HandM.of hmt hk3 (by unfold Handled; rw [if_pos hfy]; exact (hps.2 _).2 (.inr (by simp only [OutL.out, hyps])))
      intro a123 w123 h123
      refine x_again ⟨_, ?_, (k + 1), full2, states2, keys2, heads2, before2, en122, ?_, ?_, ?_, ?_, ?_, ?_, ?_, ?_, ?_, ?_, ?_, h123.nrm ⟨rfl, rfl, rfl, rfl, rfl, trivial⟩ [10, 11, 12, 13, 14, 15, 0, 16, 17, 18, 19, 20, 1, 21, 9, 22] rfl, rfl⟩
      · rw [hm97]; first | omega | (simp only [lens9]; omega)
      · omega
      · exact hinvM
      · exact hkeyM
      · exact hhokM
      · exact hlenM
      · exact hsdM
      · exact helM
      · exact hleM
      · exact hxM
      · exact hrdM
      · exact hhandM
     refine gL<|gRn (oM 2 rfl<|.nl)<|?_
     have hff124 : f113w = false := by assumption
     intro a125 w125 h125
     rw [hff124] at h125
     obtain ⟨x124, hx124⟩ : ∃ x, x = (⟨g107, 112, [code.v, words.v, .int .i64 ((Lk : Nat) : Int), .int .i64 ((R : Nat) : Int), .int .i64 mode], ⟨vt107, rows113⟩, w113w, o113w, p113w, false⟩ : SD) := ⟨_, rfl⟩
     have hfz124 := (Sh.freeze (hd := [code.v, words.v, .int .i64 ((Lk : Nat) : Int), .int .i64 ((R : Nat) : Int), .int .i64 mode]) (rows := rows113) (words := w113w) (owner := o113w) (prints := p113w) (vt := vt107) h125.sh)
     rw [← hx124] at hfz124
     have hz124 : St 124 (fun _ => False) W a125 w125 _ [.rd1 x124, .at_ code, .own 3 ml66, .at_ x.prints, .at_ x.owner, .at_ x.words, .at_ x.thr, .rblk x.g 112 [code.v, words.v, .int .i64 ((Lk : Nat) : Int), .int .i64 ((R : Nat) : Int), .int .i64 mode, x.thr.v, x.words.v, x.owner.v, x.prints.v, .bool false], .blk b14 42 [states2.v, keys2.v, heads2.v, before2.v, ends2.v, .bool full2], .own 104 states2, .deep 23 keys2, .own 3 heads2, .own 3 before2, .rd1 x39, .own 77 ends2, .blk b12 25 [code.v, words.v, .int .i64 ((Lk : Nat) : Int), .int .i64 ((R : Nat) : Int)], .at_ words] := ⟨h125.fr, hfz124.1⟩
     clear h125
     have hg124 : g107 = x124.g := by rw [hx124]
     obtain ⟨hya, hyb⟩ := st_step (x := x) (z := x124) (rows' := rows113) htt hwx.thl hrw107 hw107 ho107 hp107 hy113
     have hst124 : x124.st = x.st.putT t (stepT (pgN code words Lk R) mode x.st t kk) := by rw [← hya]; exact hyb (by rw [hx124]) hyr113 (by rw [hx124]; exact hyw113) (by rw [hx124]; exact hyo113) (by rw [hx124]; exact hyp113)
     have hfy : (stepT (pgN code words Lk R) mode x.st t kk).fell = false := by rw [← hya, ← hyf113]; assumption
     have hry124 : Reach (pgN code words Lk R) mode x124.st := by rw [hst124]; exact .step (hinv.reach _ hxs) (by rw [pgN_len]; exact htt) hkk hfy
     have hwf124 := (hry124.wf hok).toX
     have hpy124 : x124.st.prints.length ≤ 2 * states2.l.length := by rw [hst124]; have h9 := doT_prints mode t (nth (pgN code words Lk R).code t) kk (x.st.view t); have h8 : (x.st.view t).prints.length = x.prints.l.length := rfl; have h7 : (x.st.putT t (stepT (pgN code words Lk R) mode x.st t kk)).prints = (stepT (pgN code words Lk R) mode x.st t kk).prints := rfl; rw [h7]; unfold stepT; omega
     have hpl124 : x124.prints.l.length ≤ 100000000 := by have h9 : x124.st.prints.length = x124.prints.l.length := rfl; have h8 := hinv2.len; simp at h8; omega
     have hdy124 : x124.hd = [code.v, words.v, .int .i64 ((Lk : Nat) : Int), .int .i64 ((R : Nat) : Int), .int .i64 mode] ∧ x124.E = 112 ∧ x124.fell = false ∧ ∀ b, Enc.on x124 b → W.heap.size ≤ b := ⟨by rw [hx124], by rw [hx124], by rw [hx124], fun b hb => (hfz124.2 b hb).elim (fun h => h.elim) id⟩
     have h126 := hz124.sel (L' := [_, _, _, _, _, _, _, _, _, _, _, _, _, _, _, _, _]) [8, 9, 10, 11, 12, 0, 1, 2, 3, 4, 5, 6, 7, 13, 14, 15, 16] rfl
     have hp127 := h126.sh.passL (Lp := [_, _, _, _, _, _])
     refine wl_ex (x_call h126 bd_52 rfl rfl rfl rfl rfl (by have h9 := put_c _ b14 x124 states2 keys2 heads2 before2 ends2.v full2 _ _ _ _ _ _ hp127 hhok2 hlen2 (by have h9 := hinv2.len; simp at h9; omega) hdy124.1 hdy124.2.1 (by rw [hwf124.thl]; exact hcl) (fun i hi => by have h9 := hwf124.regs i hi; omega) hwf124.wait (by have h9 := hwf124.words; have h8 := hwf124.owner; have h7 := hpl124; omega); rw [← hg124] at h9; exact h9)) (wanted_none rfl _) ?_
     rintro a128 w128 ⟨_, ⟨rfl, st128, ke128, he128, be128, fu128, hkr128, hs128⟩, hf128⟩
     have h128 : St 124 (fun _ => False) W a128 w128 _ [_, _, _, _, _, _, _, _, _, _, _, _, _, _, _, _, _] := ⟨hf128, h126.sh.backL (Lp := [_, _, _, _, _, _]) hs128 (by intro A hA b hb; simp only [List.mem_cons, List.not_mem_nil, or_false] at hA; rcases hA with rfl | rfl | rfl | rfl | rfl | rfl <;> first | exact (hb : False).elim | exact Flat.noRd hb | exact .inl ⟨_, List.mem_cons_self .., .inr hb⟩ | exact (hkr128.rd hb).elim (fun h => .inl ⟨_, List.mem_of_getElem? (i := 1) rfl, .inr h⟩) (fun h => .inl ⟨_, List.mem_of_getElem? (i := 5) rfl, .inr h⟩) | exact .inl ⟨_, by simp, .inr hb⟩)⟩
     clear hf128 hs128
     clear h126
     refine gG h128<|nK k103<|gF [5, 8, 9, 11, 12] rfl<|gL<|gRn (oM 1 rfl<|oadN _ 1 om9 rfl<|oM 1 rfl<|.nl)<|nN<|?_; clear h128
     obtain ⟨hinvM, hkeyM, hlenM, hmemM, hsubM, hcM⟩ := key_put hok hkr128 hkey2 hlen2 hinv2 (by assumption) (by omega) hry124 hpy124
     have hhokM := keyRel_ok hkr128
     have hsdM : SData W 112 [code.v, words.v, .int .i64 ((Lk : Nat) : Int), .int .i64 ((R : Nat) : Int), .int .i64 mode] st128.l ends2.l := by rcases hcM with e9 | e9 <;> rw [e9]; exact hsd2; exact hsd2.more hdy124
     have helM : ends2.l.length ≤ 16 * i + (k + 1) := by omega
     have hleM : states.l.length ≤ st128.l.length := by rcases hcM with e9 | e9 <;> rw [e9]; exact hle2; simp; omega
     have hxM : nth (st128.l.map SD.st) i = x.st := by rcases hcM with e9 | e9 <;> rw [e9]; exact hx2; rw [List.map_append, nth_left _ _ _ (by simp; omega)]; exact hx2
     have hrdM : x ∈ st128.l := by rcases hcM with e9 | e9 <;> rw [e9]; exact hrd2; simp [hrd2]
     have hhandM : fu128 = false → ∀ q, q < k + 1 → HandM (pgN code words Lk R) mode (st128.l.map SD.st) (ends2.l.map OutL.out) x.st (nth ml66.l q) := by
      intro hf q hq; rcases Nat.lt_or_ge q k with h9 | h9; exact (hhand (by assumption) q h9).mono hsubM (fun _ h => h); obtain rfl : q = k := (by omega); exact HandM.of hmt hk3 (by unfold Handled; rw [if_neg (by rw [hfy]; decide)]; rw [← hst124]; exact hmemM)
     intro a129 w129 h129
     refine x_again ⟨_, ?_, (k + 1), fu128, st128, ke128, he128, be128, ends2, ?_, ?_, ?_, ?_, ?_, ?_, ?_, ?_, ?_, ?_, ?_, h129.nrm ⟨rfl, rfl, rfl, rfl, rfl, trivial⟩ [7, 8, 9, 10, 11, 12, 0, 1, 2, 3, 4, 13, 14, 15, 6, 16] rfl, rfl⟩
     · rw [hm97]; first | omega | (simp only [lens9]; omega)
     · omega
     · exact hinvM
     · exact hkeyM
     · exact hhokM
     · exact hlenM
     · exact hsdM
     · exact helM
     · exact hleM
     · exact hxM
     · exact hrdM
     · exact hhandM
    have hn102 : full2 = true := (Bool.not_eq_false' _).mp hb102
    refine gX<|hK k52<|gL<|gRn (oM 1 rfl<|oadN _ 1 om9 rfl<|oM 1 rfl<|.nl)<|nN<|?_
    have hinvN := hinv2.expanded (by simp; omega) (by rw [hx2, ← ended_eq hwx.thl]; assumption) (by rw [hx2, ← hmv]; intro e9; rw [e9] at hmv0; simp at hmv0) (by rw [hx2]; exact hws) (fun hf q hq => by rw [hx2] at hq ⊢; rw [← hmv] at hq ⊢; exact hhand hf q (by first | omega | exact absurd (hf.symm.trans (show _ = true by assumption)) Bool.false_ne_true))
    have hkeyN := hkey2; have hhokN := hhok2; have hlenN := hlen2; have hsdN := hsd2
    have helN : ends2.l.length ≤ 16 * (i + 1) := by omega
    have hiN : i + 1 ≤ states2.l.length := by omega
    have hnl2 : states2.l.length ≤ 4001 := by have h9 := hinv2.len; simpa using h9
    intro a130 w130 h130
    refine x_again ⟨_, ?_, (i + 1), full2, states2, keys2, heads2, before2, ends2, ?_, ?_, ?_, ?_, ?_, ?_, ?_, h130.nrm ⟨rfl, rfl, trivial⟩ [6, 7, 8, 9, 10, 11, 12, 13, 14, 15] rfl, rfl⟩
    · rw [hm45]; omega
    · first | exact hiN | omega
    · first | exact hinvN | exact hinv
    · first | exact hkeyN | exact hkey
    · first | exact hhokN | exact hhok
    · first | exact hlenN | exact hlen
    · first | exact hsdN | exact hsd
    · first | exact helN | omega
   refine gRn (oKs 5 hb101 rfl rfl<|opF hb101 rfl<|.nl)<|nK k100<|gcF rfl rfl<|gX<|hK k52<|gL<|gRn (oM 1 rfl<|oadN _ 1 om9 rfl<|oM 1 rfl<|.nl)<|nN<|?_
   have hinvN := hinv2.expanded (by simp; omega) (by rw [hx2, ← ended_eq hwx.thl]; assumption) (by rw [hx2, ← hmv]; intro e9; rw [e9] at hmv0; simp at hmv0) (by rw [hx2]; exact hws) (fun hf q hq => by rw [hx2] at hq ⊢; rw [← hmv] at hq ⊢; exact hhand hf q (by first | omega | exact absurd (hf.symm.trans (show _ = true by assumption)) Bool.false_ne_true))
   have hkeyN := hkey2; have hhokN := hhok2; have hlenN := hlen2; have hsdN := hsd2
   have helN : ends2.l.length ≤ 16 * (i + 1) := by omega
   have hiN : i + 1 ≤ states2.l.length := by omega
   have hnl2 : states2.l.length ≤ 4001 := by have h9 := hinv2.len; simpa using h9
   intro a131 w131 h131
   refine x_again ⟨_, ?_, (i + 1), full2, states2, keys2, heads2, before2, ends2, ?_, ?_, ?_, ?_, ?_, ?_, ?_, h131.nrm ⟨rfl, rfl, trivial⟩ [6, 7, 8, 9, 10, 11, 12, 13, 14, 15] rfl, rfl⟩
   · rw [hm45]; omega
   · first | exact hiN | omega
   · first | exact hinvN | exact hinv
   · first | exact hkeyN | exact hkey
   · first | exact hhokN | exact hhok
   · first | exact hlenN | exact hlen
   · first | exact hsdN | exact hsd
   · first | exact helN | omega
  have hn51 : full = true := (Bool.not_eq_false' _).mp hb51
  refine gX<|hK k43<|sG (oM 2 rfl<|.nl)<|gR<|fun a133 w133 h133 => x_ret1 (fn := Try.f35) (t := 4) rfl h133 rfl <| ⟨b14, full, _, _, _, states, ends, rfl, hinv.big (by first | exact .inl (by assumption) | exact .inr (by simp; omega)), ?_, (by have h9 := hinv.len; simp at h9; omega), fun o ho b hb => hsd.en o ho b hb, ⟨?_, (by have h9 := hinv.len; simpa using h9), hsd⟩, (h133.sh.sel [0, 1, 6] rfl)⟩
  · intro hf; first | exact absurd (hf.symm.trans (show _ = true by assumption)) Bool.false_ne_true | (refine ⟨hinv.sorted, ?_⟩; rw [hf] at hinv; exact hinv.all (by simp; omega))
  · intro hf; first | exact absurd (hf.symm.trans (show _ = true by assumption)) Bool.false_ne_true | (rw [hf] at hinv; exact ⟨hinv.nd, hinv.states (by simp; omega)⟩)
 refine gRn (oKs 5 hb50 rfl rfl<|opF hb50 rfl<|.nl)<|nK k48<|gcF rfl rfl<|gX<|hK k43<|sG (oM 2 rfl<|.nl)<|gR<|fun a135 w135 h135 => x_ret1 (fn := Try.f35) (t := 4) rfl h135 rfl <| ⟨b14, full, _, _, _, states, ends, rfl, hinv.big (by first | exact .inl (by assumption) | exact .inr (by simp; omega)), ?_, (by have h9 := hinv.len; simp at h9; omega), fun o ho b hb => hsd.en o ho b hb, ⟨?_, (by have h9 := hinv.len; simpa using h9), hsd⟩, (h135.sh.sel [0, 1, 6] rfl)⟩
 · intro hf; first | exact absurd (hf.symm.trans (show _ = true by assumption)) Bool.false_ne_true | (refine ⟨hinv.sorted, ?_⟩; rw [hf] at hinv; exact hinv.all (by simp; omega))
 · intro hf; first | exact absurd (hf.symm.trans (show _ = true by assumption)) Bool.false_ne_true | (rw [hf] at hinv; exact ⟨hinv.nd, hinv.states (by simp; omega)⟩)

theorem by_c (code : Ls (Ls Ins)) (words : Ls Int) (Lk R : Nat) (mode : Int) (W : World) (hcode : code.At W) (hwords : words.At W) (hok : OkPg (pgN code words Lk R)) :
    Rets Try.prog 35 [.agg #[code.v, words.v, .int .i64 ((Lk : Nat) : Int), .int .i64 ((R : Nat) : Int)], .int .i64 mode] W (fun v w' => ∃ (g : Nat) (full : Bool) (sv kv hv bv : Value) (ends : Ls OutL), v = .pointer (some ⟨g, 0, none⟩) ∧ (full = true ↔ Big (pgN code words Lk R) mode) ∧ (full = false → Sorted_ (ends.l.map OutL.out) ∧ ∀ o, o ∈ ends.l.map OutL.out ↔ Outs (pgN code words Lk R) mode o) ∧ ends.l.length ≤ 70000 ∧ (∀ o ∈ ends.l, ∀ b, Enc.on o b → W.heap.size ≤ b) ∧ Sh0 W w' [.blk g 42 [sv, kv, hv, bv, ends.v, .bool full], .own 77 ends]) := by
  refine Rets.mono (by_s code words Lk R mode W hcode hwords hok) ?_
  rintro v w' ⟨g, full, kv, hv, bv, states, ends, rfl, h1, h2, h3, h4, _, hs⟩
  exact ⟨g, full, _, kv, hv, bv, ends, rfl, h1, h2, h3, h4, hs.sel [0, 2] rfl⟩

end Go.Proofs.Ytmgikmjmdppfmaa
