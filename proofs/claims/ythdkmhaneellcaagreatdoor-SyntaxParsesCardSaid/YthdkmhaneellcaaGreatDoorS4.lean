/-
  Laws for rows of a call's own: make, literals, stores, append; calls; how code goes on. It imports nothing of the dump.
-/
import Derived.Test.YthdkmhaneellcaaGreatDoorS3
namespace Go.Proofs.YthdkmhaneellcaaGreatDoor
open Go.RowKit
set_option linter.unusedSimpArgs false
set_option linter.unusedVariables false

section
variable {α : Type} [Enc α]
theorem encL_out (l : List α) (k : Nat) (h : l.length * Enc.sz α ≤ k) : (encL l)[k]? = none := List.getElem?_eq_none (by rw [length_encL]; exact h)
theorem encL_set (l : List α) (i j : Nat) (x : α) (v : Value) (hi : i < l.length) (hj : j < Enc.sz α) (hx : ∀ q, q < Enc.sz α → Enc.cell x q = if q = j then v else Enc.cell (nth l i) q) :
    encL (l.set i x) = (encL l).set (i * Enc.sz α + j) v := by
  have hs : 0 < Enc.sz α := by omega
  apply List.ext_getElem?
  intro k
  by_cases hk : k < l.length * Enc.sz α
  · have hq : k / Enc.sz α < l.length := (Nat.div_lt_iff_lt_mul hs).2 hk
    have hr : k % Enc.sz α < Enc.sz α := Nat.mod_lt _ hs
    have hkk : k = (k / Enc.sz α) * Enc.sz α + k % Enc.sz α := by rw [Nat.mul_comm]; exact (Nat.div_add_mod _ _).symm
    have h1 := encL_at (l.set i x) (k / Enc.sz α) (k % Enc.sz α) (by simpa using hq) hr
    have h2 := encL_at l (k / Enc.sz α) (k % Enc.sz α) hq hr
    rw [← hkk] at h1 h2
    rw [h1, List.getElem?_set]
    by_cases hki : k / Enc.sz α = i
    · have hn : nth (l.set i x) (k / Enc.sz α) = x := by rw [hki]; simp [nth, hi]
      rw [hn, hx _ hr]
      by_cases hkj : k % Enc.sz α = j
      · have e : i * Enc.sz α + j = k := by rw [hkk, hki, hkj]
        rw [if_pos hkj, if_pos e, if_pos (by rw [length_encL, e]; exact hk)]
      · have e : ¬ i * Enc.sz α + j = k := by intro e; rw [hki] at hkk; omega
        rw [if_neg hkj, if_neg e, h2, hki]
    · have hn : nth (l.set i x) (k / Enc.sz α) = nth l (k / Enc.sz α) := by
        have : ¬ i = k / Enc.sz α := fun e => hki e.symm
        simp [nth, List.getD, List.getElem?_set, this]
      have e : ¬ i * Enc.sz α + j = k := by
        intro e
        apply hki
        rw [← e, Nat.mul_comm, Nat.mul_add_div hs, Nat.div_eq_of_lt hj, Nat.add_zero]
      rw [hn, if_neg e, h2]
  · rw [encL_out _ _ (by simpa using hk), List.getElem?_set]
    have e : ¬ i * Enc.sz α + j = k := by
      intro e
      apply hk
      have : (i + 1) * Enc.sz α ≤ l.length * Enc.sz α := Nat.mul_le_mul_right _ hi
      rw [Nat.add_mul, Nat.one_mul] at this
      omega
    rw [if_neg e, encL_out _ _ (by omega)]
theorem nth_set (l : List α) (i k : Nat) (x : α) : nth (l.set i x) k = if i = k ∧ i < l.length then x else nth l k := by
  simp only [nth, List.getD, List.getElem?_set]
  by_cases h : i = k
  · subst h
    by_cases h2 : i < l.length <;> simp [h2]
  · simp [h]
theorem nth_append (l m : List α) (k : Nat) : nth (l ++ m) k = if k < l.length then nth l k else nth m (k - l.length) := by
  simp only [nth, List.getD]
  by_cases h : k < l.length
  · rw [List.getElem?_append_left h, if_pos h]
  · rw [List.getElem?_append_right (by omega), if_neg h]
end

def evp (F : List (Nat × Value)) : List (Nat × Operand) → Option (List (Nat × Value))
  | [] => some []
  | (i, x) :: r => match ev F x with
    | some v => match evp F r with
      | some vs => some ((i, v) :: vs)
      | none => none
    | none => none
theorem Fr.evp [Defs] {N : Nat} {a : Act} {F : List (Nat × Value)} (h : Fr N a F) : ∀ {xs : List (Nat × Operand)} {vs : List (Nat × Value)}, evp F xs = some vs → (xs.toArray.map fun (i, x) => (i, a.eval x)).toList = vs := by
  intro xs
  have key : ∀ (xs : List (Nat × Operand)) (vs : List (Nat × Value)), Go.Proofs.YthdkmhaneellcaaGreatDoor.evp F xs = some vs → (xs.map fun (i, x) => (i, a.eval x)) = vs := by
    intro xs
    induction xs with
    | nil => intro vs hx; simp [Go.Proofs.YthdkmhaneellcaaGreatDoor.evp] at hx; simp [hx]
    | cons x r ih =>
      obtain ⟨i, x⟩ := x
      intro vs hx
      unfold Go.Proofs.YthdkmhaneellcaaGreatDoor.evp at hx
      split at hx
      · rename_i v hv
        split at hx
        · rename_i us hu
          simp only [Option.some.injEq] at hx
          subst hx
          simp [h.ev hv, ih us hu]
        · cases hx
      · cases hx
  intro vs hx
  have := key xs vs hx
  simpa using this

section
variable {P : Program} {N : Nat} {K : Nat → Prop} {W w : World} {a : Act} {F F' : List (Nat × Value)} {L L' : List Asn} {o : Oper} {ops : Array Oper} {rest : List Oper} {Q : Exit → Act → World → Prop}
section
variable {α : Type} [Enc α]

/-- A store into one cell of an own row's element. -/
theorem x_ste [Defs] {T : TypeId} {gg : Bool} {by_ : Nat} {z : List Value} {x y : Operand} {i j sz r : Nat} {E : TypeId} {s : Ls α} {x' : α} {v : Value} (h : St N K W a w F L) (hT : tyI P T = some (gg, 1, by_, z)) (ho : o.op = .store T x y) (hd : o.dst = none)
    (hx : ev F x = some (.pointer (some (padr s.v sz i j)))) (hsz : Enc.sz α = sz) (hr : L[r]? = some (.own E s)) (hi : i < s.l.length) (hj : j < sz) (hy : ev F y = some v) (hv : v.cells.toList = [v]) (h1 : v.oneCell' = true)
    (hc : ∀ q, q < sz → Enc.cell x' q = if q = j then v else Enc.cell (nth s.l i) q)
    (hin : ∀ w, Sh K W w L → Enc.inner x' w) (hon : ∀ b, Enc.on x' b → s.v.ownBlock ≠ some b ∧ ∃ B ∈ L, B.rd b) :
    Ex P o a w (fun a' w' => St N K W a' w' F (L.set r (.own E ⟨s.v, s.l.set i x'⟩))) := by
  subst hsz
  obtain ⟨ti, e, zv, hti, he, _, hs, _⟩ := tyI_parts hT
  have hok := h.sh.ok _ (List.mem_of_getElem? hr)
  obtain ⟨hown, hlen, hinn⟩ := hok
  rcases hown.2 with ⟨_, h0⟩ | ⟨g, cap, cur, hsv, hb0, hg, hn, hm, hcs, htk⟩
  · omega
  have hp : padr s.v (Enc.sz α) i j = ⟨g, i * Enc.sz α + j, none⟩ := by rw [hsv]; simp [padr, vblk, voff]
  have hat := own_at (h.sh.ok _ (List.mem_of_getElem? hr))
  have hcell := hat.cell i j hi hj
  rw [hp] at hcell
  have hfz : w.frozen? ⟨g, i * Enc.sz α + j, none⟩ = false := frozen_of_row w g _ cur E hg
  refine Ex.of_skip (w' := w.setCell ⟨g, i * Enc.sz α + j, none⟩ v) ?_ ?_
  · unfold execOp
    have hcz : v.cells.size = ti.size := by rw [hs, ← Array.length_toList, hv]; rfl
    simp only [ho, h.fr.ev hx, h.fr.ev hy, Instr.storeAt, Instr.sureAddr, storeVar, Sem.run_bind, Sem.run_pure, Result.andThen_ok, run_sizeOf hti, hcz, hp]
    simp [hv, storeCells, run_store P w _ v _ h1, hcell, hfz, Addr.add_zero']
  · rw [hd]
    have hst := World.ownsRow.stored (w := w) (base := 0) (e := E) (size := Enc.sz α) (n := s.l.length) (xs := encL s.l) (g := g) (cap := cap) (by rw [← hsv]; exact hown) (i * Enc.sz α + j) v
    have hfp : (Asn.own E s).fp g := by show s.v.ownBlock = some g; rw [hsv]; rfl
    have hse := h.sh.self _ (List.mem_of_getElem? hr)
    refine ⟨h.fr, h.sh.put hr (Chg.setCell w _ hfp v) ⟨?_, by simpa using hlen, fun q hq => ?_⟩ (fun b hb => .inl hb) (fun b hb => ?_) (fun b hb hb' => ?_)⟩
    · show World.ownsRow _ 0 E (Enc.sz α) s.v (s.l.set i x').length (encL (s.l.set i x'))
      rw [encL_set s.l i j x' v hi hj hc, List.length_set, hsv]
      exact hst.1
    · have key : ∀ y : α, Enc.inner y w → (∀ b, Enc.on y b → g ≠ b) → Enc.inner y (w.setCell ⟨g, i * Enc.sz α + j, none⟩ v) := fun y hy hb =>
        Enc.keep y w _ hy fun b hb' => Below.heap_setCell w _ v b (fun e => hb b hb' e.symm)
      have hq' : q < s.l.length := by simpa using hq
      show Enc.inner (nth (s.l.set i x') q) _
      rw [nth_set]
      split
      · exact key _ (hin w h.sh) fun b hb e => (hon b hb).1 (by rw [hsv, e]; rfl)
      · exact key _ (hinn q hq') fun b hb e => hse g hfp ⟨q, hq', e ▸ hb⟩
    · obtain ⟨q, hq, hb⟩ := hb
      simp only [nth_set] at hb
      split at hb
      · exact .inr (.inr (.inl (hon b hb).2))
      · exact .inr (.inl ⟨q, by simpa using hq, hb⟩)
    · obtain ⟨q, hq, hb'⟩ := hb'
      simp only [nth_set] at hb'
      split at hb'
      · exact (hon b hb').1 hb
      · exact hse b hb ⟨q, by simpa using hq, hb'⟩

/-- A literal []T{..}. -/
theorem x_lit [Defs] {d : Nat} {T e : TypeId} {gg : Bool} {sz by_ n : Nat} {z : List Value} {parts : List (Nat × Operand)} {pv : List (Nat × Value)} {cs : List Value} (l : List α) (h : St N K W a w F L) (hT : slI P T = some e) (he : tyI P e = some (gg, sz, by_, z)) (ho : o.op = .buildSlice T n parts.toArray)
    (hn : l.length = n) (hsz : Enc.sz α = sz) (hpos : 0 < n * sz ∧ n * sz ≤ 1000) (hx : evp F parts = some pv)
    (hf : Instr.fill (fun i => some (i * sz, sz)) ((Array.range (n * sz)).map (z.toArray[· % z.toArray.size]!)) pv = some cs.toArray) (hcs : cs = encL l)
    (hin : ∀ q, q < l.length → ∀ w, Sh K W w L → Enc.inner (nth l q) w) (hon : ∀ q, q < l.length → ∀ b, Enc.on (nth l q) b → ∃ B ∈ L, B.rd b) (hd : o.dst = some d) (hdN : Nat.blt d N = true) :
    Ex P o a w (fun a' w' => ∃ v : Value, St N K W a' w' ((d, v) :: F) (.own e (⟨v, l⟩ : Ls α) :: L)) := by
  subst hsz
  subst hn
  obtain ⟨i, ed, zv, hi, hed, _, hsz, hby, hzz, hzc⟩ := tyI_parts he
  have hzv : zv.cells = z.toArray := by rw [← hzc]
  have hsp : 0 < Enc.sz α := Nat.pos_of_ne_zero (by rintro e; simp [e] at hpos)
  have hl1 : l.length ≤ 1000 := Nat.le_trans (Nat.le_mul_of_pos_right l.length hsp) hpos.2
  have hrun := run_buildSlice (P := P) w T e l.length (parts.toArray.map fun (i, x) => (i, a.eval x)) cs.toArray i zv (slI_parts hT) hi hzz (by rw [hsz]; omega) (by rw [hsz]; omega) (by rw [hsz, hzv, h.fr.evp hx]; exact hf)
  refine Ex.of_run (v := .slice (some ⟨w.heap.size, 0, none⟩) l.length l.length) (w' := w.alloc (.cells cs.toArray e)) ?_ ⟨.slice (some ⟨w.heap.size, 0, none⟩) l.length l.length, ?_⟩
  · unfold execOp
    simp only [ho, Sem.run_bind, hrun, Result.andThen_ok, Sem.run_pure]
  · rw [hd]
    have hold : ∀ q, q < l.length → ∀ b, Enc.on (nth l q) b → b < w.heap.size := fun q hq b hb => Enc.lt _ w (hin q hq w h.sh) b hb
    refine ⟨h.fr.put d (by simpa [Nat.blt_eq] using hdN) _, h.sh.push (Chg.alloc _ w _) ⟨⟨by rw [length_encL], .inr ⟨w.heap.size, l.length, cs.toArray, rfl, Nat.zero_le _, Go.heap_alloc_new w _, Nat.le_refl _, by unfold maxLen; omega, ?_, ?_⟩⟩, by show l.length ≤ _; omega, fun q hq => ?_⟩ (fun b hb => ?_) (fun b hb => ?_) (fun b hb hb' => ?_)⟩
    · simp [hcs, length_encL]
    · simp only [hcs]; rw [List.take_of_length_le (by rw [length_encL]; exact Nat.le_refl _)]
    · exact Enc.keep _ w _ (hin q hq w h.sh) fun b hb => Below.heap_alloc w _ b (hold q hq b hb)
    · have : w.heap.size = b := by simpa [Asn.own, Value.ownBlock] using hb
      omega
    · obtain ⟨q, hq, hb⟩ := hb
      exact .inl (hon q hq b hb)
    · have : w.heap.size = b := by simpa [Asn.own, Value.ownBlock] using hb
      obtain ⟨q, hq, hb'⟩ := hb'
      have := hold q hq b hb'
      omega

/-- The nil slice is a row of the call's own. -/
theorem Sh.nil (E : TypeId) (h : Sh K W w L) : Sh K W w (.own E (⟨.slice none 0 0, []⟩ : Ls α) :: L) :=
  h.push (Chg.refl _ _) ⟨World.ownsRow_nil w 0 E (Enc.sz α), Nat.zero_le _, fun i hi => absurd hi (by simp)⟩ (fun b hb => by simp [Asn.own, Value.ownBlock] at hb) (fun b hb => by obtain ⟨i, hi, _⟩ := hb; exact absurd hi (by simp)) (fun b hb => by simp [Asn.own, Value.ownBlock] at hb)
theorem St.nil [Defs] {α : Type} [Enc α] (E : TypeId) (h : St N K W a w F L) : St N K W a w F (.own E (⟨.slice none 0 0, []⟩ : Ls α) :: L) := ⟨h.fr, h.sh.nil E⟩
/-- Data whose cells are no structs. -/
class One (α : Type) [Enc α] : Prop where
  one : ∀ (x : α) (w : World), Enc.inner x w → ∀ q, q < Enc.sz α → (Enc.cell x q).oneCell' = true
instance : One Int := ⟨fun _ _ _ _ _ => rfl⟩
instance : One Bool := ⟨fun _ _ _ _ _ => rfl⟩
instance : One Ins := ⟨fun x _ _ q _ => by match q with | 0 => rfl | 1 => rfl | 2 => rfl | _ + 3 => rfl⟩
theorem Ls.At.one {s : Ls α} {w : World} (h : s.At w) : s.v.oneCell' = true := by
  obtain ⟨A, n, c, hv⟩ := h.form
  rw [hv]; rfl
instance {β : Type} [Enc β] : One (Ls β) := ⟨fun x w h q _ => Ls.At.one (s := x) h⟩
theorem cells_one {v : Value} (h : v.oneCell' = true) : v.cells = #[v] := by cases v <;> first | rfl | cases h
theorem cells_oneL {v : Value} (h : v.oneCell' = true) : v.cells.toList = [v] := by rw [cells_one h]
theorem allOne_cons {v : Value} {vs : List Value} (h : v.oneCell' = true) (hs : vs.all (·.oneCell') = true) : (v :: vs).all (·.oneCell') = true := by simp only [List.all_cons, h, hs, Bool.and_self]
theorem allOne_nil : ([] : List Value).all (·.oneCell') = true := rfl
/-- append(s, m...): s is an own row; m is read. -/
theorem x_app [Defs] {d : Nat} {T e : TypeId} {gg : Bool} {sz by_ r rm : Nat} {z : List Value} {x y : Operand} {s m : Ls α} {B : Asn} {E : TypeId} (h : St N K W a w F L) (hT : slI P T = some e) (he : tyI P e = some (gg, sz, by_, z)) (ho : o.op = .call ⟨.builtin .append, #[x, y], #[T, T]⟩)
    (hx : ev F x = some s.v) (hy : ev F y = some m.v) (hr : L[r]? = some (.own E s)) (hE : E = e) (hrm : L[rm]? = some B) (hne : Nat.beq r rm = false) (hat : ∀ w, Sh K W w L → m.At w) (hon : ∀ b, m.on b → B.fp b ∨ B.rd b) (hoi : ∀ q, q < m.l.length → ∀ b, Enc.on (nth m.l q) b → B.rd b)
    (hsz : Enc.sz α = sz) (hpos : Nat.blt 0 sz = true) (hzl : z.length = sz) (h1 : One α) (hn : (s.l.length + m.l.length) * by_ ≤ 140737488355328 ∧ s.l.length + m.l.length ≤ 140737488355328) (hd : o.dst = some d) (hdN : Nat.blt d N = true) :
    Ex P o a w (fun a' w' => ∃ v : Value, St N K W a' w' ((d, v) :: F) (L.set r (.own E ⟨v, s.l ++ m.l⟩))) := by
  subst hsz
  subst hE
  obtain ⟨i, ed, zv, hi, hed, _, hsz, hby, hzz, hzc⟩ := tyI_parts he
  have hsp : 0 < Enc.sz α := by simpa [Nat.blt_eq] using hpos
  obtain ⟨hown, hlen, hinn⟩ := h.sh.ok _ (List.mem_of_getElem? hr)
  have hself := h.sh.self _ (List.mem_of_getElem? hr)
  have hmat := hat w h.sh
  have hu := slI_parts hT
  have hap : (Asn.own E s).Apart B := by
    obtain ⟨l1, e1⟩ := List.getElem?_eq_some_iff.1 hr
    obtain ⟨l2, e2⟩ := List.getElem?_eq_some_iff.1 hrm
    have hne' : r ≠ rm := by rintro rfl; simp at hne
    have hpw := List.pairwise_iff_getElem.1 h.sh.apart
    rw [← e1, ← e2]
    rcases Nat.lt_or_gt_of_ne hne' with hlt | hgt
    · exact hpw r rm l1 l2 hlt
    · exact (hpw rm r l2 l1 hgt).symm
  have hzsz : zv.cells.size = Enc.sz α := by rw [← Array.length_toList, hzc, hzl]
  -- the run
  have key : ∃ v' w', (Builtin.append_ #[T, T] o.type #[s.v, m.v]).run P w = .ok v' w' ∧ w'.ownsRow 0 E (Enc.sz α) v' (s.l.length + m.l.length) (encL s.l ++ encL m.l) ∧ w.grownBy w' s.v.ownBlock ∧ (∀ b, v'.ownBlock = some b → s.v.ownBlock = some b ∨ w.heap.size ≤ b) := by
    obtain ⟨A, cap, hmv, hmA⟩ := hmat
    cases A with
    | none =>
      have hm0 : m.l.length = 0 := by
        rcases Nat.eq_zero_or_pos m.l.length with h0 | h0
        · exact h0
        · obtain ⟨b, hb, _⟩ := hmA.some h0; cases hb
      have hml : m.l = [] := List.eq_nil_of_length_eq_zero hm0
      refine ⟨s.v, w, ?_, by rw [hm0, hml, encL_nil, List.append_nil]; exact hown, ⟨rfl, rfl, rfl, Nat.le_refl _, fun _ _ _ => rfl⟩, fun b hb => .inl hb⟩
      rw [hmv, hm0]
      rcases hown.2 with ⟨hv, h0⟩ | ⟨g, c2, cur, hv, _, _, hnc, _⟩
      · rw [hv]; simp [Builtin.append_, run_underlying hu, sizeOf, typeInfo, hi, Builtin.lenOf, Builtin.firstCells]
      · rw [hv]; simp [Builtin.append_, run_underlying hu, sizeOf, typeInfo, hi, Builtin.lenOf, Builtin.firstCells, hnc, storeCells]
    | some ad =>
      have hnews : ∀ (j : Nat) (u : Value), (encL m.l)[j]? = some u → w.cell? (ad.add j) = some u := by
        intro j u hj
        have hjl : j < m.l.length * Enc.sz α := by
          have := (List.getElem?_eq_some_iff.1 hj).1
          rwa [length_encL] at this
        have hq : j / Enc.sz α < m.l.length := (Nat.div_lt_iff_lt_mul hsp).2 hjl
        have hq2 : j % Enc.sz α < Enc.sz α := Nat.mod_lt _ hsp
        have hkk : j = (j / Enc.sz α) * Enc.sz α + j % Enc.sz α := by rw [Nat.mul_comm]; exact (Nat.div_add_mod _ _).symm
        obtain ⟨b, hb, hbs⟩ := hmA.some (Nat.lt_of_le_of_lt (Nat.zero_le _) hq)
        simp only [Option.some.injEq] at hb
        subst hb
        have h2 := encL_at m.l (j / Enc.sz α) (j % Enc.sz α) hq hq2
        rw [← hkk, hj] at h2
        have h3 := hmA.cell (j / Enc.sz α) (j % Enc.sz α) hq hq2
        rw [← h2] at h3
        obtain ⟨blk, off, sp⟩ := ad
        simp only at hbs
        subst hbs
        rw [Addr.add_lit]
        have e : (⟨some ⟨blk, off, none⟩, cap, m.l⟩ : Sl α).adr (Enc.sz α) (j / Enc.sz α) (j % Enc.sz α) = ⟨blk, off + j, none⟩ := by
          have : off + (j / Enc.sz α) * Enc.sz α + j % Enc.sz α = off + j := by rw [Nat.add_assoc, ← hkk]
          simp [Sl.adr, this]
        rw [← e]; exact h3
      have h1c : ∀ u ∈ encL m.l, u.oneCell' = true := by
        intro u hu
        obtain ⟨x, hxm, hx⟩ := List.mem_flatMap.1 hu
        obtain ⟨q, hq, rfl⟩ := List.mem_map.1 hx
        obtain ⟨qi, hqi⟩ := List.getElem?_of_mem hxm
        have hql := (List.getElem?_eq_some_iff.1 hqi).1
        have hqx : nth m.l qi = x := by rw [nth_lt _ _ hql]; exact (List.getElem?_eq_some_iff.1 hqi).2
        exact h1.one x w (by rw [← hqx]; exact hmA.inner qi hql) q (by simpa using hq)
      have h63 : s.l.length + m.l.length ≤ maxLen := by unfold maxLen; omega
      have hlm : (encL m.l).length = m.l.length * Enc.sz α := length_encL _
      obtain ⟨v', w', hrun, ho', hg', _⟩ := run_append_own (P := P) w 0 T o.type E i zv (Enc.sz α) by_ hu hi hzz hsz hby hzsz hsp s.v s.l.length (encL s.l) hown ad m.l.length cap (encL m.l) hlm hnews h1c h63 hn.1 (Nat.zero_le _)
      refine ⟨v', w', by rw [hmv]; exact hrun, ho', hg', fun b hb => ?_⟩
      rcases hown.2 with ⟨hv, h0⟩ | ⟨g, c2, cur, hv, _, hgc, hnc, hcm, hcs, htk⟩
      · have hown2 : w.ownsRow w.heap.size E (Enc.sz α) s.v s.l.length (encL s.l) := ⟨hown.1, .inl ⟨hv, h0⟩⟩
        obtain ⟨v2, w2, hrun2, ho2, _⟩ := run_append_own (P := P) w w.heap.size T o.type E i zv (Enc.sz α) by_ hu hi hzz hsz hby hzsz hsp s.v s.l.length (encL s.l) hown2 ad m.l.length cap (encL m.l) hlm hnews h1c h63 hn.1 (Nat.le_refl _)
        rw [hrun] at hrun2
        injection hrun2 with e1 e2
        subst e1
        exact .inr (ho2.lt b hb).1
      · by_cases hroom : s.l.length + m.l.length ≤ c2
        · have hr2 := run_append_room (P := P) w T o.type E i hu hi g s.l.length c2 cur hgc ad m.l.length cap (encL m.l) (by rw [hlm, hsz]) hnews h1c hroom (by rw [hlm, hsz, hcs, ← Nat.add_mul]; exact Nat.mul_le_mul_right _ hroom)
          rw [hv, hr2] at hrun
          injection hrun with e1 e2
          subst e1
          left; rw [hv]; exact hb
        · have holds : ∀ (j : Nat) (u : Value), (encL s.l)[j]? = some u → w.cell? ((⟨g, 0, none⟩ : Addr).add j) = some u := hown.cells (g := g) (by rw [hv]; rfl)
          have hr2 := run_append_grow (P := P) w T o.type E i zv hu hi hzz ⟨g, 0, none⟩ s.l.length c2 (encL s.l) (by rw [length_encL, hsz]) holds ad m.l.length cap (encL m.l) (by rw [hlm, hsz]) hnews (by omega) (by unfold maxLen at h63; omega) (growslice_fits (by omega) (by rw [hby]; exact hn.1))
          rw [hv, hr2] at hrun
          injection hrun with e1 e2
          subst e1
          right
          have : w.heap.size = b := by simpa [Value.ownBlock] using hb
          omega
  obtain ⟨v', w', hrun, ho', hg', hv'⟩ := key
  refine Ex.of_run (v := v') (w' := w') ?_ ⟨v', ?_⟩
  · unfold execOp
    simp only [ho, resolve, invoke, builtin, Sem.run_bind, Sem.run_pure, Result.andThen_ok, List.map_toArray, List.map_cons, List.map_nil, h.fr.ev hx, h.fr.ev hy, hrun]
  · rw [hd]
    have hmin : ∀ q, q < m.l.length → Enc.inner (nth m.l q) w' := fun q hq => Enc.keep _ w w' (hmat.inner q hq) fun b hb => by
      have hbr := hoi q hq b hb
      refine hg'.block b (h.sh.lt (List.mem_of_getElem? hrm) (.inr hbr)) (fun e => ?_)
      exact ((hap b).1 e.symm).2 hbr
    have hsin : ∀ q, q < s.l.length → Enc.inner (nth s.l q) w' := fun q hq => Enc.keep _ w w' (hinn q hq) fun b hb => by
      refine hg'.block b (h.sh.lt (List.mem_of_getElem? hr) (.inr ⟨q, hq, hb⟩)) (fun e => ?_)
      exact hself b e.symm ⟨q, hq, hb⟩
    have honq : ∀ b, (∃ q, q < (s.l ++ m.l).length ∧ Enc.on (nth (s.l ++ m.l) q) b) → (Asn.own E s).rd b ∨ B.rd b := by
      rintro b ⟨q, hq, hb⟩
      rw [nth_append] at hb
      split at hb
      · exact .inl ⟨q, by assumption, hb⟩
      · exact .inr (hoi _ (by rw [List.length_append] at hq; omega) b hb)
    refine ⟨h.fr.put d (by simpa [Nat.blt_eq] using hdN) _, h.sh.put hr (Chg.grown hg' (fun k hk => hk)) ⟨?_, ?_, fun q hq => ?_⟩ (fun b hb => hv' b hb) (fun b hb => ?_) (fun b hb hb' => ?_)⟩
    · show World.ownsRow _ 0 E _ v' (s.l ++ m.l).length (encL (s.l ++ m.l))
      rw [List.length_append, encL_append]; exact ho'
    · show (s.l ++ m.l).length ≤ _
      rw [List.length_append]; exact hn.2
    · show Enc.inner (nth (s.l ++ m.l) q) w'
      rw [nth_append]
      have hq' : q < s.l.length + m.l.length := by rw [← List.length_append]; exact hq
      split
      · exact hsin q (by assumption)
      · exact hmin _ (by omega)
    · rcases honq b hb with hb | hb
      · exact .inr (.inl hb)
      · exact .inr (.inr (.inl ⟨B, List.mem_of_getElem? hrm, hb⟩))
    · rcases honq b hb' with hr' | hr'
      · rcases hv' b hb with hb | hb
        · exact hself b hb hr'
        · have := h.sh.lt (List.mem_of_getElem? hr) (.inr hr'); omega
      · rcases hv' b hb with hb | hb
        · exact ((hap b).1 hb).2 hr'
        · have := h.sh.lt (List.mem_of_getElem? hrm) (.inr hr'); omega
end


/-- A row of the call's own, whose elements' blocks are its own too. -/
def Asn.deep {α : Type} [Enc α] (E : TypeId) (s : Ls α) : Asn where
  fp b := s.v.ownBlock = some b ∨ ∃ i, i < s.l.length ∧ Enc.on (nth s.l i) b
  rd _ := False
  ok w := w.ownsRow 0 E (Enc.sz α) s.v s.l.length (encL s.l) ∧ s.l.length ≤ 140737488355328 ∧ (∀ i, i < s.l.length → Enc.inner (nth s.l i) w) ∧ ∀ b, s.v.ownBlock = some b → ¬ ∃ i, i < s.l.length ∧ Enc.on (nth s.l i) b
  keep w w' h hb := by
    obtain ⟨h1, h2, h3, h4⟩ := h
    refine ⟨⟨h1.1, ?_⟩, h2, fun i hi => Enc.keep _ w w' (h3 i hi) fun b hb' => hb b (.inl (.inr ⟨i, hi, hb'⟩)), h4⟩
    rcases h1.2 with hn | ⟨g, cap, cur, hv, h0, hg, hr⟩
    · exact .inl hn
    · exact .inr ⟨g, cap, cur, hv, h0, (hb g (.inl (.inl (by rw [hv]; rfl)))).trans hg, hr⟩
  lt w h b hb := by
    obtain ⟨h1, h2, h3, _⟩ := h
    rcases hb with (hb | ⟨i, hi, hb⟩) | hb
    · exact (h1.lt b hb).2
    · exact Enc.lt _ w (h3 i hi) b hb
    · exact hb.elim
section
variable {α : Type} [Enc α]
theorem deep_at {E : TypeId} {s : Ls α} (h : (Asn.deep E s).ok w) : s.At w := own_at ⟨h.1, h.2.1, h.2.2.1⟩
theorem Sh.deep (h : Sh K W w L) (i : Nat) {E : TypeId} {s : Ls α} (hi : L[i]? = some (.deep E s)) : s.At w := deep_at (h.ok _ (List.mem_of_getElem? hi))
/-- An own row whose elements have no blocks, or none at all, is a deep one; and the other way round. -/
theorem Sh.nilDeep (E : TypeId) (h : Sh K W w L) : Sh K W w (.deep E (⟨.slice none 0 0, []⟩ : Ls α) :: L) :=
  h.push (Chg.refl _ _) ⟨World.ownsRow_nil w 0 E (Enc.sz α), Nat.zero_le _, fun i hi => absurd hi (by simp), fun b hb => by simp [Value.ownBlock] at hb⟩ (fun b hb => by rcases hb with hb | ⟨i, hi, _⟩; (simp [Value.ownBlock] at hb); exact absurd hi (by simp)) (fun b hb => hb.elim) (fun b _ hb => hb)
theorem St.nilDeep [Defs] {α : Type} [Enc α] (E : TypeId) (h : St N K W a w F L) : St N K W a w F (.deep E (⟨.slice none 0 0, []⟩ : Ls α) :: L) := ⟨h.fr, h.sh.nilDeep E⟩
/-- append(s, m...) of deep rows: the elements' blocks go over. -/
theorem x_appD [Defs] {d : Nat} {T e : TypeId} {gg : Bool} {sz by_ : Nat} {z : List Value} {x y : Operand} {s m : Ls α} {E : TypeId} (h : St N K W a w F (.deep E s :: .deep e m :: L)) (hT : slI P T = some e) (he : tyI P e = some (gg, sz, by_, z)) (ho : o.op = .call ⟨.builtin .append, #[x, y], #[T, T]⟩)
    (hx : ev F x = some s.v) (hy : ev F y = some m.v) (hE : E = e) (hsz : Enc.sz α = sz) (hpos : Nat.blt 0 sz = true) (hzl : z.length = sz) (h1 : One α) (hn : (s.l.length + m.l.length) * by_ ≤ 140737488355328 ∧ s.l.length + m.l.length ≤ 140737488355328) (hd : o.dst = some d) (hdN : Nat.blt d N = true) :
    Ex P o a w (fun a' w' => ∃ v : Value, St N K W a' w' ((d, v) :: F) (.deep E (⟨v, s.l ++ m.l⟩ : Ls α) :: L)) := by
  -- by the law for rows whose elements are read: both rows' elements are lent out first
  have hs := h.sh
  have hsd := hs.ok (.deep E s) (by simp)
  have hmd := hs.ok (.deep e m) (by simp)
  have hpw := List.pairwise_cons.1 hs.apart
  have hpw2 := List.pairwise_cons.1 hpw.2
  have hap := hpw.1 (.deep e m) (by simp)
  -- the state with the rows laid open
  let As : Asn := ⟨fun _ => False, fun b => ∃ i, i < s.l.length ∧ Enc.on (nth s.l i) b, fun w => ∀ i, i < s.l.length → Enc.inner (nth s.l i) w, fun w w' h hb i hi => Enc.keep _ w w' (h i hi) fun b hb' => hb b (.inr ⟨i, hi, hb'⟩), fun w h b hb => hb.elim (fun h => h.elim) fun ⟨i, hi, hb⟩ => Enc.lt _ w (h i hi) b hb⟩
  have hopen : Sh K W w (.own E s :: .own e m :: L) := by
    refine Sh.step (Lp := [.deep E s, .deep e m]) (L' := [.own E s, .own e m]) hs (Chg.refl _ _) ?_ ?_ ?_ ?_ ?_
    · intro A hA
      simp only [List.mem_cons, List.not_mem_nil, or_false] at hA
      rcases hA with rfl | rfl
      · exact ⟨hsd.1, hsd.2.1, hsd.2.2.1⟩
      · exact ⟨hmd.1, hmd.2.1, hmd.2.2.1⟩
    · intro A hA b hb
      simp only [List.mem_cons, List.not_mem_nil, or_false] at hA
      rcases hA with rfl | rfl
      · exact .inl ⟨.deep E s, by simp, Or.inl hb⟩
      · exact .inl ⟨.deep e m, by simp, Or.inl hb⟩
    · intro A hA b hb
      simp only [List.mem_cons, List.not_mem_nil, or_false] at hA
      rcases hA with rfl | rfl
      · exact .inl ⟨.deep E s, by simp, .inl (.inr hb)⟩
      · exact .inl ⟨.deep e m, by simp, .inl (.inr hb)⟩
    · intro A hA b hb hb'
      simp only [List.mem_cons, List.not_mem_nil, or_false] at hA
      rcases hA with rfl | rfl
      · exact hsd.2.2.2 b hb hb'
      · exact hmd.2.2.2 b hb hb'
    · refine List.pairwise_cons.2 ⟨fun B hB b => ?_, List.pairwise_singleton _ _⟩
      simp only [List.mem_singleton] at hB
      subst hB
      exact ⟨fun hb => ⟨fun hb' => ((hap b).1 (.inl hb)).1 (.inl hb'), fun hb' => ((hap b).1 (.inl hb)).1 (.inr hb')⟩, fun hb hb' => ((hap b).1 (.inr hb')).1 (.inl hb)⟩
  have hx' := x_app (r := 0) (rm := 1) (s := s) (m := m) (E := E) (⟨h.fr, hopen⟩ : St N K W a w F _) hT he ho hx hy rfl hE rfl rfl (fun w h => h.own 1 rfl) (fun b hb => own_on (hopen.ok (.own e m) (by simp)) hb) (fun q hq b hb => ⟨q, hq, hb⟩) hsz hpos hzl h1 hn hd hdN
  intro next Q hnx
  refine hx' next Q fun a' w' ⟨v, hst⟩ => hnx a' w' ⟨v, hst.fr, ?_⟩
  have hp := List.pairwise_cons.1 hst.sh.apart
  have hp2 := List.pairwise_cons.1 hp.2
  have hself := hst.sh.self (.own E ⟨v, s.l ++ m.l⟩) (by simp)
  have honq : ∀ b, (∃ q, q < (s.l ++ m.l).length ∧ Enc.on (nth (s.l ++ m.l) q) b) → (Asn.deep E s).fp b ∨ (Asn.deep e m).fp b := by
    rintro b ⟨q, hq, hb⟩
    rw [nth_append] at hb
    split at hb
    · exact .inl (.inr ⟨q, by assumption, hb⟩)
    · exact .inr (.inr ⟨_, by rw [List.length_append] at hq; omega, hb⟩)
  refine ⟨hst.sh.chg, ?_, ?_, ?_, List.pairwise_cons.2 ⟨?_, hp2.2⟩⟩
  · intro A hA
    rcases List.mem_cons.1 hA with rfl | hA
    · have ho' := hst.sh.ok (.own E ⟨v, s.l ++ m.l⟩) (by simp)
      exact ⟨ho'.1, ho'.2.1, ho'.2.2, fun b hb hb' => hself b hb hb'⟩
    · exact hst.sh.ok A (by simp [hA])
  · intro A hA b hb
    rcases List.mem_cons.1 hA with rfl | hA
    · rcases hb with hb | hb
      · exact hst.sh.mine (.own E ⟨v, s.l ++ m.l⟩) (by simp) b hb
      · rcases honq b hb with hb | hb
        · exact hs.mine _ (by simp) b hb
        · exact hs.mine (.deep e m) (by simp) b hb
    · exact hst.sh.mine A (by simp [hA]) b hb
  · intro A hA b hb
    rcases List.mem_cons.1 hA with rfl | hA
    · exact fun h => h
    · exact hst.sh.self A (by simp [hA]) b hb
  · intro B hB b
    have a1 := hp.1 B (by simp [hB]) b
    have a2 := hpw.1 B (by simp [hB]) b
    have a3 := hpw2.1 B hB b
    refine ⟨fun hb => ?_, fun hb h => h⟩
    rcases hb with hb | hb
    · exact a1.1 hb
    · rcases honq b hb with hb | hb
      · exact a2.1 hb
      · exact a3.1 hb
end
theorem r_build [Defs] {T : TypeId} {parts : List (Nat × Operand)} {pv : List (Nat × Value)} {cs : List Value} (ho : o.op = .build T parts.toArray) (hx : evp F parts = some pv) (hb : P.built T pv = some cs.toArray) : Rn P o N K W F L (.agg cs.toArray) := fun a w h => by
  have hrun : (Instr.build T (parts.toArray.map fun (i, x) => (i, a.eval x))).run P w = .ok (.agg cs.toArray) w := by
    exact run_build (P := P) w T _ cs.toArray (by rw [h.fr.evp hx, hb])
  unfold execOp
  simp only [ho, Sem.run_bind, hrun, Result.andThen_ok, Sem.run_pure]

theorem r_eqS [Defs] {T U : TypeId} {x y : Operand} {u v : Value} {b : Bool} (ho : o.op = .binOp .eql T x y U) (hx : ev F x = some u) (hy : ev F y = some v) (hg : ∀ w, (eqGuard .eql T x y u v).run P w = .ok () w) (hb : ∀ w, (binOp .eql T u v).run P w = .ok (.bool b) w) : Rn P o N K W F L (.bool b) := fun a w h => by
  unfold execOp
  simp only [ho, h.fr.ev hx, h.fr.ev hy, Sem.run_bind, Sem.run_pure, Result.andThen_ok, hg, hb]

/-! ### Calls -/
theorem bodyI_parts {f : FuncId} (h : bodyI P f = true) : ∃ fn, P.funcs[f]? = some fn ∧ (fn.name == "runtime.NumGoroutine") = false ∧ fn.body.isNone = false := by
  unfold bodyI at h
  split at h
  · rename_i fn hf
    simp only [Bool.and_eq_true, Bool.not_eq_true'] at h
    exact ⟨fn, hf, h.1, by simpa using h.2⟩
  · cases h
theorem run_callFunc {f : FuncId} (h : bodyI P f = true) (args : Array Value) (w : World) : (callFunc f args).run P w = .ok (.enter f args) w := by
  obtain ⟨fn, hf, h1, h2⟩ := bodyI_parts h
  simp only [callFunc, Sem.run_bind, run_program, Result.andThen_ok, hf, h1, h2, Bool.false_eq_true, if_false, Sem.run_pure]
/-- What a call comes to: a value, and what holds of it. -/
def Rets (P : Program) (f : FuncId) (vs : List Value) (w : World) (R : Value → World → Prop) : Prop := Calls P f vs.toArray w fun e w' => ∃ v, e = .returned v ∧ R v w'
theorem Rets.mono {f : FuncId} {vs : List Value} {R R' : Value → World → Prop} (h : Rets P f vs w R) (hr : ∀ v w', R v w' → R' v w') : Rets P f vs w R' := Calls.mono h fun _ _ ⟨v, e, r⟩ => ⟨v, e, hr v _ r⟩
theorem call_wp [Defs] {f : FuncId} {fo : Operand} {xs : List Operand} {tys : Array TypeId} {us vs ws : List Value} {R : Value → World → Prop} (h : Fr N a F) (hb : bodyI P f = true) (ho : o.op = .call ⟨.value fo, xs.toArray, tys⟩) (hf : ev F fo = some (.func (.func f) us.toArray ws.toArray))
    (hx : evs F xs = some vs) (hc : Rets P f (us ++ vs ++ ws) w R) : Ex P o a w (fun a' w' => ∃ v, R v w' ∧ a' = a.put o.dst v) := by
  intro next Q hn
  unfold Oper.wp
  have hrun : (execOp a.eval o).run P w = .ok (.enter f (us ++ vs ++ ws).toArray) w := by
    unfold execOp
    simp [ho, resolve, h.ev hf, h.evs hx, Deferred.ofValue, invoke, run_callFunc hb]
  rw [hrun]
  show Calls P f (us ++ vs ++ ws).toArray w _
  exact Calls.mono hc fun e w' ⟨v, he, hr⟩ => by subst he; exact hn _ _ ⟨v, hr, rfl⟩
theorem x_call [Defs] {d f : Nat} {fo : Operand} {xs : List Operand} {tys : Array TypeId} {us vs ws : List Value} {R : Value → World → Prop} (h : St N K W a w F L) (hb : bodyI P f = true) (ho : o.op = .call ⟨.value fo, xs.toArray, tys⟩) (hf : ev F fo = some (.func (.func f) us.toArray ws.toArray))
    (hx : evs F xs = some vs) (hd : o.dst = some d) (hdN : Nat.blt d N = true) (hc : Rets P f (us ++ vs ++ ws) w R) : Ex P o a w (fun a' w' => ∃ v, R v w' ∧ Fr N a' ((d, v) :: F)) :=
  (call_wp h.fr hb ho hf hx hc).mono fun a' w' ⟨v, hr, e⟩ => ⟨v, hr, by rw [e, hd]; exact h.fr.put d (by simpa [Nat.blt_eq] using hdN) v⟩
/-- The state behind a call that turns nothing of what was. -/
theorem Sh.call {w' : World} (h : Sh K W w L) (h' : Sh0 w w' L') (hrd : ∀ A ∈ L', ∀ b, A.rd b → w.heap.size ≤ b ∨ ∃ B ∈ L, B.rd b) : Sh K W w' (L' ++ L) :=
  Sh.step (Lp := []) (Lr := L) (L' := L') h (h'.chg.mono fun _ h => h.elim) h'.ok (fun A hA b hb => .inr ((h'.mine A hA b hb).resolve_left (fun h => h)))
    (fun A hA b hb => (hrd A hA b hb).elim (fun h => .inr (.inr h)) (fun h => .inr (.inl h))) h'.self h'.apart
theorem Sh.call0 {w' : World} (h : Sh K W w L) (h' : Sh0 w w' []) : Sh K W w' L := h.call h' (by simp)
/-- What a contract without results in memory says. -/
theorem Sh0.start (w : World) : Sh0 w w [] := ⟨Chg.refl _ _, by simp, by simp, by simp, .nil⟩
theorem Sh0.ext {w : World} {L : List Asn} (hok : ∀ A ∈ L, A.ok w) (hfp : ∀ A ∈ L, ∀ b, ¬ A.fp b) : Sh0 w w L := by
  refine ⟨Chg.refl _ _, hok, fun A hA b hb => (hfp A hA b hb).elim, fun A hA b hb => (hfp A hA b hb).elim, ?_⟩
  rw [List.pairwise_iff_getElem]
  intro i j hi hj _ b
  exact ⟨fun h => (hfp _ (List.getElem_mem hi) b h).elim, fun h => (hfp _ (List.getElem_mem hj) b h).elim⟩
section
variable {α β γ δ : Type} [Enc α] [Enc β] [Enc γ] [Enc δ] {s : Ls α} {t : Ls β} {u : Ls γ} {v : Ls δ} {w : World}
theorem Sh0.ext1 (h1 : s.At w) : Sh0 w w [.at_ s] := Sh0.ext (by intro A hA; simp at hA; subst hA; exact h1) (by intro A hA b hb; simp at hA; subst hA; exact hb)
theorem Sh0.ext2 (h1 : s.At w) (h2 : t.At w) : Sh0 w w [.at_ s, .at_ t] := Sh0.ext (by intro A hA; simp at hA; rcases hA with rfl | rfl; exact h1; exact h2) (by intro A hA b hb; simp at hA; rcases hA with rfl | rfl <;> exact hb)
end

/-- Types whose data lie in their own cells alone. -/
class Flat (α : Type) [Enc α] : Prop where
  on : ∀ (x : α) (b : Nat), ¬ Enc.on x b
  inner : ∀ (x : α) (w : World), Enc.inner x w
instance : Flat Int := ⟨fun _ _ h => h, fun _ _ => trivial⟩
instance : Flat Bool := ⟨fun _ _ h => h, fun _ _ => trivial⟩
instance : Flat Ins := ⟨fun _ _ h => h, fun _ _ => trivial⟩
theorem Flat.noRd {α : Type} [Enc α] [Flat α] {E : TypeId} {s : Ls α} {X : Prop} {b : Nat} (h : (Asn.own E s).rd b) : X := by
  obtain ⟨i, _, hi⟩ := h
  exact (Flat.on _ _ hi).elim
/-! Who reads nothing of others, by instances. -/
class NoRd (A : Asn) : Prop where
  no : ∀ b, ¬ A.rd b
instance {α : Type} [Enc α] [Flat α] {E : TypeId} {s : Ls α} : NoRd (.own E s) := ⟨fun _ h => Flat.noRd h⟩
instance {g : Nat} {E : TypeId} {cs : List Value} : NoRd (.blk g E cs) := ⟨fun _ h => h⟩
instance {α : Type} [Enc α] {E : TypeId} {s : Ls α} : NoRd (.deep E s) := ⟨fun _ h => h⟩
class AllNo (L : List Asn) : Prop where
  no : ∀ A ∈ L, ∀ b, ¬ A.rd b
instance : AllNo [] := ⟨fun A hA => (by cases hA)⟩
instance {A : Asn} {L : List Asn} [NoRd A] [AllNo L] : AllNo (A :: L) := ⟨fun B hB b hb => by
  rcases List.mem_cons.1 hB with rfl | hB
  · exact NoRd.no b hb
  · exact AllNo.no B hB b hb⟩
class MemA (A : Asn) (L : List Asn) : Prop where
  mem : A ∈ L
instance {A : Asn} {L : List Asn} : MemA A (A :: L) := ⟨List.mem_cons_self ..⟩
instance {A B : Asn} {L : List Asn} [h : MemA A L] : MemA A (B :: L) := ⟨List.mem_cons_of_mem _ h.mem⟩
class RdIn (L' Lp : List Asn) : Prop where
  sub : ∀ C ∈ L', ∀ b, C.rd b → ∃ B ∈ Lp, B.fp b ∨ B.rd b
instance {Lp : List Asn} : RdIn [] Lp := ⟨fun A hA => (by cases hA)⟩
instance {A : Asn} {L Lp : List Asn} [h : MemA A Lp] [RdIn L Lp] : RdIn (A :: L) Lp := ⟨fun C hC b hb => by
  rcases List.mem_cons.1 hC with rfl | hC
  · exact ⟨_, h.mem, .inr hb⟩
  · exact RdIn.sub C hC b hb⟩
instance {A : Asn} {L Lp : List Asn} [NoRd A] [RdIn L Lp] : RdIn (A :: L) Lp := ⟨fun C hC b hb => by
  rcases List.mem_cons.1 hC with rfl | hC
  · exact (NoRd.no b hb).elim
  · exact RdIn.sub C hC b hb⟩
theorem Sh.callI {K : Nat → Prop} {W w w' : World} {L L' : List Asn} [AllNo L'] (h : Sh K W w L) (h' : Sh0 w w' L') : Sh K W w' (L' ++ L) := h.call h' fun A hA b hb => (AllNo.no A hA b hb).elim

/-! ### How code goes on -/
/-- A loop; n goes down. -/
theorem x_loop {c : Code} (I : Nat → Act → World → Prop) (h0 : ∃ n, I n a w) (round : ∀ n a w, I n a w → c.wp P (Exit.then (fun a' w' => ∃ m, m < n ∧ I m a' w') Q) a w) : (Code.loop c).wp P Q a w := by
  classical
  have least : ∀ a w, (∃ n, I n a w) → ∃ n, I n a w ∧ ∀ m, I m a w → n ≤ m := by
    intro a w ⟨n, hn⟩
    induction n using Nat.strongRecOn with
    | _ n ih =>
      by_cases h : ∃ m, m < n ∧ I m a w
      · obtain ⟨m, hm, hI⟩ := h
        exact ih m hm hI
      · exact ⟨n, hn, fun m hm => Nat.le_of_not_lt fun hlt => h ⟨m, hlt, hm⟩⟩
  let μ : Act → World → Nat := fun a w => if h : ∃ n, I n a w then (least a w h).choose else 0
  have hμ : ∀ a w (h : ∃ n, I n a w), I (μ a w) a w ∧ ∀ m, I m a w → μ a w ≤ m := by
    intro a w h
    have e : μ a w = (least a w h).choose := dif_pos h
    rw [e]
    exact (least a w h).choose_spec
  refine wp_loop (fun a w => ∃ n, I n a w) μ h0 fun a w hI => ?_
  refine Code.wp_mono (fun e a' w' hq => ?_) (round _ a w (hμ a w hI).1)
  cases e with
  | normal =>
    obtain ⟨m, hm, hI'⟩ := hq
    exact ⟨⟨m, hI'⟩, Nat.lt_of_le_of_lt ((hμ a' w' ⟨m, hI'⟩).2 m hI') hm⟩
  | _ => exact hq
theorem x_cond [Defs] {c : Operand} {x y : Code} {b : Bool} (h : St N K W a w F L) (hc : ev F c = some (.bool b)) (ht : b = true → x.wp P Q a w) (hf : b = false → y.wp P Q a w) : (Code.cond c x y).wp P Q a w := wp_cond_split (h.fr.ev hc) ht hf
theorem x_condT [Defs] {c : Operand} {x y : Code} {b : Bool} (h : St N K W a w F L) (hc : ev F c = some (.bool b)) (hb : b = true) (ht : x.wp P Q a w) : (Code.cond c x y).wp P Q a w := by subst hb; exact wp_cond_true (h.fr.ev hc) ht
theorem x_condF [Defs] {c : Operand} {x y : Code} {b : Bool} (h : St N K W a w F L) (hc : ev F c = some (.bool b)) (hb : b = false) (hf : y.wp P Q a w) : (Code.cond c x y).wp P Q a w := by subst hb; exact wp_cond_false (h.fr.ev hc) hf
theorem x_again {n : Nat} {I : Nat → Act → World → Prop} {Q : Exit → Act → World → Prop} (h : ∃ m, m < n ∧ I m a w) : Exit.then (fun a' w' => ∃ m, m < n ∧ I m a' w') Q .normal a w := h
/-- Entering a function. -/
theorem x_enter {f : FuncId} {fn : Func} {c : Code} {vs : List Value} {R : Value → World → Prop} {N : Nat} (hf : P.funcs[f]? = some fn) (hb : fn.body = some c) (hN : fn.ntmps = N) (hl : vs.length ≤ N)
    (h : ∀ a, @Fr noDefs N a ((vs.zipIdx 0).map fun x => (x.2, x.1)) → c.wp P (bodyPost P fn fun e w' => ∃ v, e = .returned v ∧ R v w') a w) : Rets P f vs w R := by
  refine calls_of_wp hf hb (h _ ⟨?_, rfl, fun t v htv => ?_⟩)
  · simp [hN]; omega
  · have key : ∀ (vs : List Value) (k t : Nat) (v : Value), lk ((vs.zipIdx k).map fun x => (x.2, x.1)) t = some v → k ≤ t ∧ vs[t - k]? = some v := by
      intro vs
      induction vs with
      | nil => intro k t v h; simp [lk] at h
      | cons x r ih =>
        intro k t v h
        rw [List.zipIdx_cons, List.map_cons, lk_cons] at h
        by_cases e : k = t
        · subst e; simp at h; simp [h]
        · rw [if_neg e] at h
          obtain ⟨h1, h2⟩ := ih (k + 1) t v h
          refine ⟨by omega, ?_⟩
          have : t - k = (t - (k + 1)) + 1 := by omega
          rw [this, List.getElem?_cons_succ]; exact h2
    obtain ⟨_, h2⟩ := key vs 0 t v htv
    rw [Nat.sub_zero] at h2
    have hlt := (List.getElem?_eq_some_iff.1 h2).1
    rw [Array.getElem?_append_left (by simpa using hlt)]
    simpa using h2
/-- A return: one result in a slot; none; two. -/
theorem x_ret1 {fn : Func} {t : Nat} {v : Value} {R : Value → World → Prop} (hs : fn.results = #[.tmp t]) (h : @St noDefs N K W a w F L) (ht : lk F t = some v) (hR : R v w) : bodyPost P fn (fun e w' => ∃ v, e = .returned v ∧ R v w') .ret a w := by
  refine ⟨h.fr.defers, v, ?_, v, rfl, hR⟩
  rw [results_tmp hs]
  have := h.fr.at_ t v ht
  simp [Array.getD_eq_getD_getElem?, this]
theorem x_ret0 {fn : Func} {R : Value → World → Prop} (hs : fn.results = #[]) (h : @St noDefs N K W a w F L) (hR : R (.tuple #[]) w) : bodyPost P fn (fun e w' => ∃ v, e = .returned v ∧ R v w') .ret a w := ⟨h.fr.defers, _, results_none hs _ _ _, _, rfl, hR⟩
theorem x_end0 {fn : Func} {R : Value → World → Prop} (hs : fn.results = #[]) (h : @St noDefs N K W a w F L) (hR : R (.tuple #[]) w) : bodyPost P fn (fun e w' => ∃ v, e = .returned v ∧ R v w') .normal a w := ⟨h.fr.defers, _, results_none hs _ _ _, _, rfl, hR⟩
theorem x_ret2 {fn : Func} {t u : Nat} {v v' : Value} {R : Value → World → Prop} (hs : fn.results = #[.tmp t, .tmp u]) (h : @St noDefs N K W a w F L) (ht : lk F t = some v) (hu : lk F u = some v') (hR : R (.tuple #[v, v']) w) : bodyPost P fn (fun e w' => ∃ v, e = .returned v ∧ R v w') .ret a w := by
  refine ⟨h.fr.defers, .tuple #[v, v'], ?_, _, rfl, hR⟩
  rw [results_tmp2 hs]
  have h1 := h.fr.at_ t v ht
  have h2 := h.fr.at_ u v' hu
  simp [Array.getD_eq_getD_getElem?, h1, h2]
/-- A result that lies in a variable of the call's own: a struct. -/
theorem x_ret1c {fn : Func} {t T g i n by_ : Nat} {E : TypeId} {z cs : List Value} {R : Value → World → Prop} (hT : tyI P T = some (true, n, by_, z)) (hs : fn.results = #[.cell t T]) (h : @St noDefs N K W a w F L) (ht : lk F t = some (.pointer (some ⟨g, 0, none⟩)))
    (hi : L[i]? = some (.blk g E cs)) (hn : cs.length = n) (hR : R (.agg cs.toArray) w) : bodyPost P fn (fun e w' => ∃ v, e = .returned v ∧ R v w') .ret a w := by
  obtain ⟨ti, d, zv, hti, hd, hg, hsz, _⟩ := tyI_parts hT
  refine ⟨h.fr.defers, .agg cs.toArray, ?_, _, rfl, hR⟩
  have hld := run_loadVar_row (P := P) w g E T cs.toArray (0, 0) d (h.sh.blk i hi) hd (by cases d <;> simp_all [aggD]) (by rw [hti]; simp [hsz, hn])
  have h1 : a.tmps[t]?.getD undef = .pointer (some ⟨g, 0, none⟩) := by
    rw [h.fr.at_ t _ ht]; rfl
  simp [results, hs, asAddr, h1, hld]
end
end Go.Proofs.YthdkmhaneellcaaGreatDoor
