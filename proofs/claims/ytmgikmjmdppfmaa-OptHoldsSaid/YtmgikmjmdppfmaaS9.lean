/-
  States of the machine as resources: each thread's rows; a call's state opened at a thread. It imports nothing of the dump.
-/
import Derived.Test.YtmgikmjmdppfmaaS8
namespace Go.Proofs.Ytmgikmjmdppfmaa
open Go.RowKit
set_option linter.unusedSimpArgs false
set_option linter.unusedVariables false

section
variable {P : Program} {N : Nat} {K : Nat → Prop} {W w : World} {a : Act} {F F' : List (Nat × Value)} {L L' : List Asn} {o : Oper} {ops : Array Oper} {rest : List Oper} {Q : Exit → Act → World → Prop}
section
variable {α : Type} [Enc α]
/-- x_app, of data whose cells are no structs this time. -/
theorem x_app1 {d : Nat} {T e : TypeId} {gg : Bool} {sz by_ r rm : Nat} {z : List Value} {x y : Operand} {s m : Ls α} {B : Asn} {E : TypeId} (h : St N K W a w F L) (hT : slI P T = some e) (he : tyI P e = some (gg, sz, by_, z)) (ho : o.op = .call ⟨.builtin .append, #[x, y], #[T, T]⟩)
    (hx : ev F x = some s.v) (hy : ev F y = some m.v) (hr : L[r]? = some (.own E s)) (hE : E = e) (hrm : L[rm]? = some B) (hne : Nat.beq r rm = false) (hat : ∀ w, Sh K W w L → m.At w) (hon : ∀ b, m.on b → B.fp b ∨ B.rd b) (hoi : ∀ q, q < m.l.length → ∀ b, Enc.on (nth m.l q) b → B.rd b)
    (hsz : Enc.sz α = sz) (hpos : Nat.blt 0 sz = true) (hzl : z.length = sz) (h1 : ∀ w, Sh K W w L → ∀ q, q < m.l.length → ∀ j, j < Enc.sz α → (Enc.cell (nth m.l q) j).oneCell' = true) (hn : (s.l.length + m.l.length) * by_ ≤ 140737488355328 ∧ s.l.length + m.l.length ≤ 140737488355328) (hd : o.dst = some d) (hdN : Nat.blt d N = true) :
    Ex P o a w (fun a' w' => ∃ v : Value, St N K W a' w' ((d, v) :: F) (L.set r (.own E ⟨v, s.l ++ m.l⟩))) := by
  subst hsz
  subst hE
  obtain ⟨i, ed, zv, hi, hed, _, hsz, hby, hzz, hzc⟩ := tyI_parts he
  have hsp : 0 < Enc.sz α := by simpa [Nat.blt_eq] using hpos
  obtain ⟨hown, hlen, hinn⟩ := h.sh.ok _ (List.mem_of_getElem? hr)
  have hself := h.sh.self _ (List.mem_of_getElem? hr)
  have hmat := hat w h.sh
  have hu := slI_parts hT
  have hap : (Asn.own E s).Apart B := by
    obtain ⟨l1, e1⟩ := List.getElem?_eq_some_iff.1 hr
    obtain ⟨l2, e2⟩ := List.getElem?_eq_some_iff.1 hrm
    have hne' : r ≠ rm := by rintro rfl; simp at hne
    have hpw := List.pairwise_iff_getElem.1 h.sh.apart
    rw [← e1, ← e2]
    rcases Nat.lt_or_gt_of_ne hne' with hlt | hgt
    · exact hpw r rm l1 l2 hlt
    · exact (hpw rm r l2 l1 hgt).symm
  have hzsz : zv.cells.size = Enc.sz α := by rw [← Array.length_toList, hzc, hzl]
  -- the run
  have key : ∃ v' w', (Builtin.append_ #[T, T] o.type #[s.v, m.v]).run P w = .ok v' w' ∧ w'.ownsRow 0 E (Enc.sz α) v' (s.l.length + m.l.length) (encL s.l ++ encL m.l) ∧ w.grownBy w' s.v.ownBlock ∧ (∀ b, v'.ownBlock = some b → s.v.ownBlock = some b ∨ w.heap.size ≤ b) := by
    obtain ⟨A, cap, hmv, hmA⟩ := hmat
    cases A with
    | none =>
      have hm0 : m.l.length = 0 := by
        rcases Nat.eq_zero_or_pos m.l.length with h0 | h0
        · exact h0
        · obtain ⟨b, hb, _⟩ := hmA.some h0; cases hb
      have hml : m.l = [] := List.eq_nil_of_length_eq_zero hm0
      refine ⟨s.v, w, ?_, by rw [hm0, hml, encL_nil, List.append_nil]; exact hown, ⟨rfl, rfl, rfl, Nat.le_refl _, fun _ _ _ => rfl⟩, fun b hb => .inl hb⟩
      rw [hmv, hm0]
      rcases hown.2 with ⟨hv, h0⟩ | ⟨g, c2, cur, hv, _, _, hnc, _⟩
      · rw [hv]; simp [Builtin.append_, run_underlying hu, sizeOf, typeInfo, hi, Builtin.lenOf, Builtin.firstCells]
      · rw [hv]; simp [Builtin.append_, run_underlying hu, sizeOf, typeInfo, hi, Builtin.lenOf, Builtin.firstCells, hnc, storeCells]
    | some ad =>
      have hnews : ∀ (j : Nat) (u : Value), (encL m.l)[j]? = some u → w.cell? (ad.add j) = some u := by
        intro j u hj
        have hjl : j < m.l.length * Enc.sz α := by
          have := (List.getElem?_eq_some_iff.1 hj).1
          rwa [length_encL] at this
        have hq : j / Enc.sz α < m.l.length := (Nat.div_lt_iff_lt_mul hsp).2 hjl
        have hq2 : j % Enc.sz α < Enc.sz α := Nat.mod_lt _ hsp
        have hkk : j = (j / Enc.sz α) * Enc.sz α + j % Enc.sz α := by rw [Nat.mul_comm]; exact (Nat.div_add_mod _ _).symm
        obtain ⟨b, hb, hbs⟩ := hmA.some (Nat.lt_of_le_of_lt (Nat.zero_le _) hq)
        simp only [Option.some.injEq] at hb
        subst hb
        have h2 := encL_at m.l (j / Enc.sz α) (j % Enc.sz α) hq hq2
        rw [← hkk, hj] at h2
        have h3 := hmA.cell (j / Enc.sz α) (j % Enc.sz α) hq hq2
        rw [← h2] at h3
        obtain ⟨blk, off, sp⟩ := ad
        simp only at hbs
        subst hbs
        rw [Addr.add_lit]
        have e : (⟨some ⟨blk, off, none⟩, cap, m.l⟩ : Sl α).adr (Enc.sz α) (j / Enc.sz α) (j % Enc.sz α) = ⟨blk, off + j, none⟩ := by
          have : off + (j / Enc.sz α) * Enc.sz α + j % Enc.sz α = off + j := by rw [Nat.add_assoc, ← hkk]
          simp [Sl.adr, this]
        rw [← e]; exact h3
      have h1c : ∀ u ∈ encL m.l, u.oneCell' = true := by
        intro u hu
        obtain ⟨x, hxm, hx⟩ := List.mem_flatMap.1 hu
        obtain ⟨q, hq, rfl⟩ := List.mem_map.1 hx
        obtain ⟨qi, hqi⟩ := List.getElem?_of_mem hxm
        have hql := (List.getElem?_eq_some_iff.1 hqi).1
        have hqx : nth m.l qi = x := by rw [nth_lt _ _ hql]; exact (List.getElem?_eq_some_iff.1 hqi).2
        rw [← hqx]; exact h1 w h.sh qi hql q (by simpa using hq)
      have h63 : s.l.length + m.l.length ≤ maxLen := by unfold maxLen; omega
      have hlm : (encL m.l).length = m.l.length * Enc.sz α := length_encL _
      obtain ⟨v', w', hrun, ho', hg', _⟩ := run_append_own (P := P) w 0 T o.type E i zv (Enc.sz α) by_ hu hi hzz hsz hby hzsz hsp s.v s.l.length (encL s.l) hown ad m.l.length cap (encL m.l) hlm hnews h1c h63 hn.1 (Nat.zero_le _)
      refine ⟨v', w', by rw [hmv]; exact hrun, ho', hg', fun b hb => ?_⟩
      rcases hown.2 with ⟨hv, h0⟩ | ⟨g, c2, cur, hv, _, hgc, hnc, hcm, hcs, htk⟩
      · have hown2 : w.ownsRow w.heap.size E (Enc.sz α) s.v s.l.length (encL s.l) := ⟨hown.1, .inl ⟨hv, h0⟩⟩
        obtain ⟨v2, w2, hrun2, ho2, _⟩ := run_append_own (P := P) w w.heap.size T o.type E i zv (Enc.sz α) by_ hu hi hzz hsz hby hzsz hsp s.v s.l.length (encL s.l) hown2 ad m.l.length cap (encL m.l) hlm hnews h1c h63 hn.1 (Nat.le_refl _)
        rw [hrun] at hrun2
        injection hrun2 with e1 e2
        subst e1
        exact .inr (ho2.lt b hb).1
      · by_cases hroom : s.l.length + m.l.length ≤ c2
        · have hr2 := run_append_room (P := P) w T o.type E i hu hi g s.l.length c2 cur hgc ad m.l.length cap (encL m.l) (by rw [hlm, hsz]) hnews h1c hroom (by rw [hlm, hsz, hcs, ← Nat.add_mul]; exact Nat.mul_le_mul_right _ hroom)
          rw [hv, hr2] at hrun
          injection hrun with e1 e2
          subst e1
          left; rw [hv]; exact hb
        · have holds : ∀ (j : Nat) (u : Value), (encL s.l)[j]? = some u → w.cell? ((⟨g, 0, none⟩ : Addr).add j) = some u := hown.cells (g := g) (by rw [hv]; rfl)
          have hr2 := run_append_grow (P := P) w T o.type E i zv hu hi hzz ⟨g, 0, none⟩ s.l.length c2 (encL s.l) (by rw [length_encL, hsz]) holds ad m.l.length cap (encL m.l) (by rw [hlm, hsz]) hnews (by omega) (by unfold maxLen at h63; omega) (growslice_fits (by omega) (by rw [hby]; exact hn.1))
          rw [hv, hr2] at hrun
          injection hrun with e1 e2
          subst e1
          right
          have : w.heap.size = b := by simpa [Value.ownBlock] using hb
          omega
  obtain ⟨v', w', hrun, ho', hg', hv'⟩ := key
  refine Ex.of_run (v := v') (w' := w') ?_ ⟨v', ?_⟩
  · unfold execOp
    simp only [ho, resolve, invoke, builtin, Sem.run_bind, Sem.run_pure, Result.andThen_ok, List.map_toArray, List.map_cons, List.map_nil, h.fr.ev hx, h.fr.ev hy, hrun]
  · rw [hd]
    have hmin : ∀ q, q < m.l.length → Enc.inner (nth m.l q) w' := fun q hq => Enc.keep _ w w' (hmat.inner q hq) fun b hb => by
      have hbr := hoi q hq b hb
      refine hg'.block b (h.sh.lt (List.mem_of_getElem? hrm) (.inr hbr)) (fun e => ?_)
      exact ((hap b).1 e.symm).2 hbr
    have hsin : ∀ q, q < s.l.length → Enc.inner (nth s.l q) w' := fun q hq => Enc.keep _ w w' (hinn q hq) fun b hb => by
      refine hg'.block b (h.sh.lt (List.mem_of_getElem? hr) (.inr ⟨q, hq, hb⟩)) (fun e => ?_)
      exact hself b e.symm ⟨q, hq, hb⟩
    have honq : ∀ b, (∃ q, q < (s.l ++ m.l).length ∧ Enc.on (nth (s.l ++ m.l) q) b) → (Asn.own E s).rd b ∨ B.rd b := by
      rintro b ⟨q, hq, hb⟩
      rw [nth_append] at hb
      split at hb
      · exact .inl ⟨q, by assumption, hb⟩
      · exact .inr (hoi _ (by rw [List.length_append] at hq; omega) b hb)
    refine ⟨h.fr.put d (by simpa [Nat.blt_eq] using hdN) _, h.sh.put hr (Chg.grown hg' (fun k hk => hk)) ⟨?_, ?_, fun q hq => ?_⟩ (fun b hb => hv' b hb) (fun b hb => ?_) (fun b hb hb' => ?_)⟩
    · show World.ownsRow _ 0 E _ v' (s.l ++ m.l).length (encL (s.l ++ m.l))
      rw [List.length_append, encL_append]; exact ho'
    · show (s.l ++ m.l).length ≤ _
      rw [List.length_append]; exact hn.2
    · show Enc.inner (nth (s.l ++ m.l) q) w'
      rw [nth_append]
      have hq' : q < s.l.length + m.l.length := by rw [← List.length_append]; exact hq
      split
      · exact hsin q (by assumption)
      · exact hmin _ (by omega)
    · rcases honq b hb with hb | hb
      · exact .inr (.inl hb)
      · exact .inr (.inr (.inl ⟨B, List.mem_of_getElem? hrm, hb⟩))
    · rcases honq b hb' with hr' | hr'
      · rcases hv' b hb with hb | hb
        · exact hself b hb hr'
        · have := h.sh.lt (List.mem_of_getElem? hr) (.inr hr'); omega
      · rcases hv' b hb with hb | hb
        · exact ((hap b).1 hb).2 hr'
        · have := h.sh.lt (List.mem_of_getElem? hrm) (.inr hr'); omega
end
theorem Sh.perm (h : Sh K W w L) (hp : L.Perm L') : Sh K W w L' :=
  ⟨h.chg, fun A hA => h.ok A (hp.mem_iff.2 hA), fun A hA => h.mine A (hp.mem_iff.2 hA), fun A hA => h.self A (hp.mem_iff.2 hA), (List.Perm.pairwise_iff (fun {x y} hxy => hxy.symm) hp).1 h.apart⟩
/-- The rows of a thread. -/
def thA (INT WT : TypeId) (x : ThL) : List Asn := [.own INT x.regs, .own WT x.wait]
def rowsA (INT WT : TypeId) (l : List ThL) : List Asn := l.flatMap (thA INT WT)
theorem rowsA_perm {INT WT : TypeId} {l l' : List ThL} (h : l.Perm l') : (rowsA INT WT l).Perm (rowsA INT WT l') := by
  unfold rowsA
  induction h with
  | nil => exact .refl _
  | cons x _ ih => simp only [List.flatMap_cons]; exact ih.append_left _
  | swap x y l =>
    simp only [List.flatMap_cons, ← List.append_assoc]
    exact (List.perm_append_comm).append_right _
  | trans _ _ h1 h2 => exact h1.trans h2
theorem Sh.fold {INT WT : TypeId} {l : List ThL} {x : ThL} {L : List Asn} (h : Sh K W w (.own INT x.regs :: .own WT x.wait :: .big (rowsA INT WT l) :: L)) : Sh K W w (.big (rowsA INT WT (l ++ [x])) :: L) := by
  have h1 : Sh K W w (.big (rowsA INT WT l) :: (thA INT WT x ++ L)) := h.perm ((List.Perm.swap _ _ _).cons _ |>.trans (List.Perm.swap _ _ _))
  have h2 := h1.open_
  rw [← List.append_assoc] at h2
  have e : rowsA INT WT (l ++ [x]) = rowsA INT WT l ++ thA INT WT x := by simp [rowsA]
  rw [← e] at h2
  exact h2.close
theorem St.fold {INT WT : TypeId} {l : List ThL} {x : ThL} {L : List Asn} (h : St N K W a w F (.own INT x.regs :: .own WT x.wait :: .big (rowsA INT WT l) :: L)) : St N K W a w F (.big (rowsA INT WT (l ++ [x])) :: L) := ⟨h.fr, h.sh.fold⟩
theorem Sh.openAt {INT WT : TypeId} {l : List ThL} {L : List Asn} (h : Sh K W w (.big (rowsA INT WT l) :: L)) (n : Nat) (hn : n < l.length) : Sh K W w (.own INT (nth l n).regs :: .own WT (nth l n).wait :: .big (rowsA INT WT (l.eraseIdx n)) :: L) := by
  have h1 := h.open_.perm ((rowsA_perm (perm_erase l n hn)).append_right L)
  have e : rowsA INT WT (l[n] :: l.eraseIdx n) = .own INT (nth l n).regs :: .own WT (nth l n).wait :: rowsA INT WT (l.eraseIdx n) := by rw [nth_lt l n hn]; rfl
  rw [e] at h1
  have h2 : Sh K W w (rowsA INT WT (l.eraseIdx n) ++ (.own INT (nth l n).regs :: .own WT (nth l n).wait :: L)) := h1.perm (by
    simp only [List.cons_append]
    exact ((List.perm_middle (a := Asn.own WT (nth l n).wait) (l₁ := rowsA INT WT (l.eraseIdx n)) (l₂ := L)).symm.cons _).trans (List.perm_middle (a := Asn.own INT (nth l n).regs) (l₁ := rowsA INT WT (l.eraseIdx n)) (l₂ := Asn.own WT (nth l n).wait :: L)).symm)
  exact h2.close.perm ((List.Perm.swap _ _ _).trans ((List.Perm.swap _ _ _).cons _))
theorem Sh.closeAt {INT WT : TypeId} {l : List ThL} {x : ThL} {L : List Asn} (n : Nat) (hn : n < l.length) (h : Sh K W w (.own INT x.regs :: .own WT x.wait :: .big (rowsA INT WT (l.eraseIdx n)) :: L)) : Sh K W w (.big (rowsA INT WT (l.set n x)) :: L) := by
  have h1 : Sh K W w (.big (rowsA INT WT (l.eraseIdx n)) :: (thA INT WT x ++ L)) := h.perm ((List.Perm.swap _ _ _).cons _ |>.trans (List.Perm.swap _ _ _))
  have h2 := h1.open_
  rw [← List.append_assoc] at h2
  have e : (rowsA INT WT (l.eraseIdx n) ++ thA INT WT x).Perm (rowsA INT WT (l.set n x)) := by
    refine List.perm_append_comm.trans ?_
    have : thA INT WT x ++ rowsA INT WT (l.eraseIdx n) = rowsA INT WT (x :: l.eraseIdx n) := by simp [rowsA]
    rw [this]
    exact rowsA_perm (perm_set x l n hn).symm
  exact (h2.perm (e.append_right L)).close
theorem St.big0 (INT WT : TypeId) (h : St N K W a w F L) : St N K W a w F (.big (rowsA INT WT []) :: L) :=
  ⟨h.fr, h.sh.push (Chg.refl _ _) ⟨fun A hA => (by cases hA), .nil, fun A hA => (by cases hA)⟩ (fun b hb => (by obtain ⟨A, hA, _⟩ := hb; cases hA)) (fun b hb => (by obtain ⟨A, hA, _⟩ := hb; cases hA)) (fun b hb => (by obtain ⟨A, hA, _⟩ := hb; cases hA))⟩
end
end Go.Proofs.Ytmgikmjmdppfmaa
