/-
  Arrays of truth values, as data. It imports nothing of the dump.
-/
import Derived.Test.YtmgikmjmdppfmaaS8
import Derived.Laws.Bits64
section
namespace Go.Proofs.Ytmgikmjmdppfmaa
open Go.RowKit
set_option linter.unusedSimpArgs false
set_option linter.unusedVariables false

section
variable {P : Program} {N : Nat} {K : Nat → Prop} {W w : World} {a : Act} {F F' : List (Nat × Value)} {L L' : List Asn} {o : Oper} {ops : Array Oper} {rest : List Oper} {Q : Exit → Act → World → Prop}
section
variable {α : Type} [Enc α]
/-- x_app, of data whose cells are no structs this time. -/
theorem x_app1 {d : Nat} {T e : TypeId} {gg : Bool} {sz by_ r rm : Nat} {z : List Value} {x y : Operand} {s m : Ls α} {B : Asn} {E : TypeId} (h : St N K W a w F L) (hT : slI P T = some e) (he : tyI P e = some (gg, sz, by_, z)) (ho : o.op = .call ⟨.builtin .append, #[x, y], #[T, T]⟩)
    (hx : ev F x = some s.v) (hy : ev F y = some m.v) (hr : L[r]? = some (.own E s)) (hE : E = e) (hrm : L[rm]? = some B) (hne : Nat.beq r rm = false) (hat : ∀ w, Sh K W w L → m.At w) (hon : ∀ b, m.on b → B.fp b ∨ B.rd b) (hoi : ∀ q, q < m.l.length → ∀ b, Enc.on (nth m.l q) b → B.rd b)
    (hsz : Enc.sz α = sz) (hpos : Nat.blt 0 sz = true) (hzl : z.length = sz) (h1 : ∀ w, Sh K W w L → ∀ q, q < m.l.length → ∀ j, j < Enc.sz α → (Enc.cell (nth m.l q) j).oneCell' = true) (hn : (s.l.length + m.l.length) * by_ ≤ 140737488355328 ∧ s.l.length + m.l.length ≤ 140737488355328) (hd : o.dst = some d) (hdN : Nat.blt d N = true) :
    Ex P o a w (fun a' w' => ∃ v : Value, St N K W a' w' ((d, v) :: F) (L.set r (.own E ⟨v, s.l ++ m.l⟩))) := by
  subst hsz
  subst hE
  obtain ⟨i, ed, zv, hi, hed, _, hsz, hby, hzz, hzc⟩ := tyI_parts he
  have hsp : 0 < Enc.sz α := by simpa [Nat.blt_eq] using hpos
  obtain ⟨hown, hlen, hinn⟩ := h.sh.ok _ (List.mem_of_getElem? hr)
  have hself := h.sh.self _ (List.mem_of_getElem? hr)
  have hmat := hat w h.sh
  have hu := slI_parts hT
  have hap : (Asn.own E s).Apart B := by
    obtain ⟨l1, e1⟩ := List.getElem?_eq_some_iff.1 hr
    obtain ⟨l2, e2⟩ := List.getElem?_eq_some_iff.1 hrm
    have hne' : r ≠ rm := by rintro rfl; simp at hne
    have hpw := List.pairwise_iff_getElem.1 h.sh.apart
    rw [← e1, ← e2]
    rcases Nat.lt_or_gt_of_ne hne' with hlt | hgt
    · exact hpw r rm l1 l2 hlt
    · exact (hpw rm r l2 l1 hgt).symm
  have hzsz : zv.cells.size = Enc.sz α := by rw [← Array.length_toList, hzc, hzl]
  -- the run
  have key : ∃ v' w', (Builtin.append_ #[T, T] o.type #[s.v, m.v]).run P w = .ok v' w' ∧ w'.ownsRow 0 E (Enc.sz α) v' (s.l.length + m.l.length) (encL s.l ++ encL m.l) ∧ w.grownBy w' s.v.ownBlock ∧ (∀ b, v'.ownBlock = some b → s.v.ownBlock = some b ∨ w.heap.size ≤ b) := by
    obtain ⟨A, cap, hmv, hmA⟩ := hmat
    cases A with
    | none =>
      have hm0 : m.l.length = 0 := by
        rcases Nat.eq_zero_or_pos m.l.length with h0 | h0
        · exact h0
        · obtain ⟨b, hb, _⟩ := hmA.some h0; cases hb
      have hml : m.l = [] := List.eq_nil_of_length_eq_zero hm0
      refine ⟨s.v, w, ?_, by rw [hm0, hml, encL_nil, List.append_nil]; exact hown, ⟨rfl, rfl, rfl, Nat.le_refl _, fun _ _ _ => rfl⟩, fun b hb => .inl hb⟩
      rw [hmv, hm0]
      rcases hown.2 with ⟨hv, h0⟩ | ⟨g, c2, cur, hv, _, _, hnc, _⟩
      · rw [hv]; simp [Builtin.append_, run_underlying hu, sizeOf, typeInfo, hi, Builtin.lenOf, Builtin.firstCells]
      · rw [hv]; simp [Builtin.append_, run_underlying hu, sizeOf, typeInfo, hi, Builtin.lenOf, Builtin.firstCells, hnc, storeCells]
    | some ad =>
      have hnews : ∀ (j : Nat) (u : Value), (encL m.l)[j]? = some u → w.cell? (ad.add j) = some u := by
        intro j u hj
        have hjl : j < m.l.length * Enc.sz α := by
          have := (List.getElem?_eq_some_iff.1 hj).1
          rwa [length_encL] at this
        have hq : j / Enc.sz α < m.l.length := (Nat.div_lt_iff_lt_mul hsp).2 hjl
        have hq2 : j % Enc.sz α < Enc.sz α := Nat.mod_lt _ hsp
        have hkk : j = (j / Enc.sz α) * Enc.sz α + j % Enc.sz α := by rw [Nat.mul_comm]; exact (Nat.div_add_mod _ _).symm
        obtain ⟨b, hb, hbs⟩ := hmA.some (Nat.lt_of_le_of_lt (Nat.zero_le _) hq)
        simp only [Option.some.injEq] at hb
        subst hb
        have h2 := encL_at m.l (j / Enc.sz α) (j % Enc.sz α) hq hq2
        rw [← hkk, hj] at h2
        have h3 := hmA.cell (j / Enc.sz α) (j % Enc.sz α) hq hq2
        rw [← h2] at h3
        obtain ⟨blk, off, sp⟩ := ad
        simp only at hbs
        subst hbs
        rw [Addr.add_lit]
        have e : (⟨some ⟨blk, off, none⟩, cap, m.l⟩ : Sl α).adr (Enc.sz α) (j / Enc.sz α) (j % Enc.sz α) = ⟨blk, off + j, none⟩ := by
          have : off + (j / Enc.sz α) * Enc.sz α + j % Enc.sz α = off + j := by rw [Nat.add_assoc, ← hkk]
          simp [Sl.adr, this]
        rw [← e]; exact h3
      have h1c : ∀ u ∈ encL m.l, u.oneCell' = true := by
        intro u hu
        obtain ⟨x, hxm, hx⟩ := List.mem_flatMap.1 hu
        obtain ⟨q, hq, rfl⟩ := List.mem_map.1 hx
        obtain ⟨qi, hqi⟩ := List.getElem?_of_mem hxm
        have hql := (List.getElem?_eq_some_iff.1 hqi).1
        have hqx : nth m.l qi = x := by rw [nth_lt _ _ hql]; exact (List.getElem?_eq_some_iff.1 hqi).2
        rw [← hqx]; exact h1 w h.sh qi hql q (by simpa using hq)
      have h63 : s.l.length + m.l.length ≤ maxLen := by unfold maxLen; omega
      have hlm : (encL m.l).length = m.l.length * Enc.sz α := length_encL _
      obtain ⟨v', w', hrun, ho', hg', _⟩ := run_append_own (P := P) w 0 T o.type E i zv (Enc.sz α) by_ hu hi hzz hsz hby hzsz hsp s.v s.l.length (encL s.l) hown ad m.l.length cap (encL m.l) hlm hnews h1c h63 hn.1 (Nat.zero_le _)
      refine ⟨v', w', by rw [hmv]; exact hrun, ho', hg', fun b hb => ?_⟩
      rcases hown.2 with ⟨hv, h0⟩ | ⟨g, c2, cur, hv, _, hgc, hnc, hcm, hcs, htk⟩
      · have hown2 : w.ownsRow w.heap.size E (Enc.sz α) s.v s.l.length (encL s.l) := ⟨hown.1, .inl ⟨hv, h0⟩⟩
        obtain ⟨v2, w2, hrun2, ho2, _⟩ := run_append_own (P := P) w w.heap.size T o.type E i zv (Enc.sz α) by_ hu hi hzz hsz hby hzsz hsp s.v s.l.length (encL s.l) hown2 ad m.l.length cap (encL m.l) hlm hnews h1c h63 hn.1 (Nat.le_refl _)
        rw [hrun] at hrun2
        injection hrun2 with e1 e2
        subst e1
        exact .inr (ho2.lt b hb).1
      · by_cases hroom : s.l.length + m.l.length ≤ c2
        · have hr2 := run_append_room (P := P) w T o.type E i hu hi g s.l.length c2 cur hgc ad m.l.length cap (encL m.l) (by rw [hlm, hsz]) hnews h1c hroom (by rw [hlm, hsz, hcs, ← Nat.add_mul]; exact Nat.mul_le_mul_right _ hroom)
          rw [hv, hr2] at hrun
          injection hrun with e1 e2
          subst e1
          left; rw [hv]; exact hb
        · have holds : ∀ (j : Nat) (u : Value), (encL s.l)[j]? = some u → w.cell? ((⟨g, 0, none⟩ : Addr).add j) = some u := hown.cells (g := g) (by rw [hv]; rfl)
          have hr2 := run_append_grow (P := P) w T o.type E i zv hu hi hzz ⟨g, 0, none⟩ s.l.length c2 (encL s.l) (by rw [length_encL, hsz]) holds ad m.l.length cap (encL m.l) (by rw [hlm, hsz]) hnews (by omega) (by unfold maxLen at h63; omega) (growslice_fits (by omega) (by rw [hby]; exact hn.1))
          rw [hv, hr2] at hrun
          injection hrun with e1 e2
          subst e1
          right
          have : w.heap.size = b := by simpa [Value.ownBlock] using hb
          omega
  obtain ⟨v', w', hrun, ho', hg', hv'⟩ := key
  refine Ex.of_run (v := v') (w' := w') ?_ ⟨v', ?_⟩
  · unfold execOp
    simp only [ho, resolve, invoke, builtin, Sem.run_bind, Sem.run_pure, Result.andThen_ok, List.map_toArray, List.map_cons, List.map_nil, h.fr.ev hx, h.fr.ev hy, hrun]
  · rw [hd]
    have hmin : ∀ q, q < m.l.length → Enc.inner (nth m.l q) w' := fun q hq => Enc.keep _ w w' (hmat.inner q hq) fun b hb => by
      have hbr := hoi q hq b hb
      refine hg'.block b (h.sh.lt (List.mem_of_getElem? hrm) (.inr hbr)) (fun e => ?_)
      exact ((hap b).1 e.symm).2 hbr
    have hsin : ∀ q, q < s.l.length → Enc.inner (nth s.l q) w' := fun q hq => Enc.keep _ w w' (hinn q hq) fun b hb => by
      refine hg'.block b (h.sh.lt (List.mem_of_getElem? hr) (.inr ⟨q, hq, hb⟩)) (fun e => ?_)
      exact hself b e.symm ⟨q, hq, hb⟩
    have honq : ∀ b, (∃ q, q < (s.l ++ m.l).length ∧ Enc.on (nth (s.l ++ m.l) q) b) → (Asn.own E s).rd b ∨ B.rd b := by
      rintro b ⟨q, hq, hb⟩
      rw [nth_append] at hb
      split at hb
      · exact .inl ⟨q, by assumption, hb⟩
      · exact .inr (hoi _ (by rw [List.length_append] at hq; omega) b hb)
    refine ⟨h.fr.put d (by simpa [Nat.blt_eq] using hdN) _, h.sh.put hr (Chg.grown hg' (fun k hk => hk)) ⟨?_, ?_, fun q hq => ?_⟩ (fun b hb => hv' b hb) (fun b hb => ?_) (fun b hb hb' => ?_)⟩
    · show World.ownsRow _ 0 E _ v' (s.l ++ m.l).length (encL (s.l ++ m.l))
      rw [List.length_append, encL_append]; exact ho'
    · show (s.l ++ m.l).length ≤ _
      rw [List.length_append]; exact hn.2
    · show Enc.inner (nth (s.l ++ m.l) q) w'
      rw [nth_append]
      have hq' : q < s.l.length + m.l.length := by rw [← List.length_append]; exact hq
      split
      · exact hsin q (by assumption)
      · exact hmin _ (by omega)
    · rcases honq b hb with hb | hb
      · exact .inr (.inl hb)
      · exact .inr (.inr (.inl ⟨B, List.mem_of_getElem? hrm, hb⟩))
    · rcases honq b hb' with hr' | hr'
      · rcases hv' b hb with hb | hb
        · exact hself b hb hr'
        · have := h.sh.lt (List.mem_of_getElem? hr) (.inr hr'); omega
      · rcases hv' b hb with hb | hb
        · exact ((hap b).1 hb).2 hr'
        · have := h.sh.lt (List.mem_of_getElem? hrm) (.inr hr'); omega
end
theorem Sh.perm (h : Sh K W w L) (hp : L.Perm L') : Sh K W w L' :=
  ⟨h.chg, fun A hA => h.ok A (hp.mem_iff.2 hA), fun A hA => h.mine A (hp.mem_iff.2 hA), fun A hA => h.self A (hp.mem_iff.2 hA), (List.Perm.pairwise_iff (fun {x y} hxy => hxy.symm) hp).1 h.apart⟩
end
end Go.Proofs.Ytmgikmjmdppfmaa
end
section
namespace Go.Proofs.Ytmgikmjmdppfmaa
open Go.RowKit
set_option linter.unusedSimpArgs false
set_option linter.unusedVariables false

/-- An outcome that is read. -/
structure OutL where
  st : Int
  words : Ls Int
  prints : Ls Int
instance : Inhabited OutL := ⟨⟨0, default, default⟩⟩
def OutL.cell (x : OutL) : Nat → Value
  | 0 => .int .i64 x.st
  | 1 => x.words.v
  | _ => x.prints.v
instance : Enc OutL where
  sz := 3
  cell := OutL.cell
  whole x := .agg #[.int .i64 x.st, x.words.v, x.prints.v]
  agg := true
  inner x w := x.words.At w ∧ x.prints.At w
  on x b := x.words.on b ∨ x.prints.on b
  one h := by cases h
  many _ _ := rfl
  keep _ _ _ h hb := ⟨h.1.keep fun b hb' => hb b (.inl hb'), h.2.keep fun b hb' => hb b (.inr hb')⟩
  lt _ _ h _ hb := hb.elim (fun hb => h.1.lt hb) (fun hb => h.2.lt hb)
instance : One OutL := ⟨fun x w h q hq => by
  rcases q with _ | _ | q
  · rfl
  · exact Ls.At.one (s := x.words) h.1
  · exact Ls.At.one (s := x.prints) h.2⟩
/-- What a run comes to. -/
structure Outc where
  st : Int
  words : List Int
  prints : List Int
  deriving DecidableEq
instance : Inhabited Outc := ⟨⟨0, [], []⟩⟩
def OutL.out (x : OutL) : Outc := ⟨x.st, x.words.l, x.prints.l⟩

/-- A state that turns no more, by its place. -/
structure SD where
  g : Nat
  E : TypeId
  hd : List Value
  thr : Ls ThL
  words : Ls Int
  owner : Ls Int
  prints : Ls Int
  fell : Bool
instance : Inhabited SD := ⟨⟨0, 0, [], default, default, default, default, false⟩⟩
def SD.cells (x : SD) : List Value := x.hd ++ [x.thr.v, x.words.v, x.owner.v, x.prints.v, .bool x.fell]
def SD.ptr (x : SD) : Value := .pointer (some ⟨x.g, 0, none⟩)
instance : Enc SD where
  sz := 1
  cell x _ := x.ptr
  whole x := x.ptr
  agg := false
  inner x w := Blk w x.g x.E x.cells.toArray ∧ x.thr.At w ∧ x.words.At w ∧ x.owner.At w ∧ x.prints.At w
  on x b := b = x.g ∨ x.thr.on b ∨ x.words.on b ∨ x.owner.on b ∨ x.prints.on b
  one _ := ⟨rfl, fun _ => rfl⟩
  many h := by cases h
  keep _ _ _ h hb := ⟨(hb _ (.inl rfl)).trans h.1, h.2.1.keep fun b hb' => hb b (.inr (.inl hb')), h.2.2.1.keep fun b hb' => hb b (.inr (.inr (.inl hb'))), h.2.2.2.1.keep fun b hb' => hb b (.inr (.inr (.inr (.inl hb')))), h.2.2.2.2.keep fun b hb' => hb b (.inr (.inr (.inr (.inr hb'))))⟩
  lt _ _ h _ hb := by
    rcases hb with rfl | hb | hb | hb | hb
    · exact h.1.lt
    · exact h.2.1.lt hb
    · exact h.2.2.1.lt hb
    · exact h.2.2.2.1.lt hb
    · exact h.2.2.2.2.lt hb
instance : One SD := ⟨fun _ _ _ _ _ => rfl⟩
def SD.st (x : SD) : MSt := ⟨x.thr.l.map ThL.th, x.words.l, x.owner.l, x.prints.l⟩

section
variable {P : Program} {N : Nat} {K : Nat → Prop} {W w : World} {a : Act} {F F' : List (Nat × Value)} {L L' : List Asn}
end

/-! ### Numbers of 64 bits without sign -/
section
variable {P : Program} {o : Oper} {N : Nat} {K : Nat → Prop} {W w : World} {F : List (Nat × Value)} {L : List Asn} {T U D : TypeId} {x y : Operand}
end
end Go.Proofs.Ytmgikmjmdppfmaa
end
section
namespace Go.Proofs.Ytmgikmjmdppfmaa
open Go.RowKit
set_option linter.unusedSimpArgs false
set_option linter.unusedVariables false

section
variable {α : Type} [Enc α] {s : Ls α} {w : World}
theorem nth_take0 {β : Type} [Inhabited β] {l : List β} {i j : Nat} (h : i < j) : nth (l.take j) i = nth l i := by
  simp only [nth, List.getD, List.getElem?_take, if_pos h]
theorem take_at (h : s.At w) {j : Nat} (hj : j ≤ s.l.length) : (⟨vtake s.v j, s.l.take j⟩ : Ls α).At w := by
  obtain ⟨A, cap, hv, h⟩ := h
  have hl : (s.l.take j).length = j := by rw [List.length_take]; omega
  refine ⟨A, cap, by show vtake s.v j = _; rw [hv, hl]; rfl, ?_⟩
  have hle : s.l.length ≤ cap := h.le
  have hln : s.l.length ≤ 140737488355328 := h.len
  refine ⟨by show (s.l.take j).length ≤ cap; omega, h.max, by show (s.l.take j).length ≤ _; omega, fun h0 => h.some (by simp only at h0; show 0 < s.l.length; omega), fun h0 => h.lt' (by simp only at h0; show 0 < s.l.length; omega), fun i q hi hq => ?_, fun i hi => ?_⟩
  · simp only at hi
    rw [show nth (s.l.take j) i = nth s.l i from nth_take0 (by omega)]
    exact h.cell i q (by show i < s.l.length; omega) hq
  · simp only at hi
    rw [show nth (s.l.take j) i = nth s.l i from nth_take0 (by omega)]
    exact h.inner i (by show i < s.l.length; omega)
end
section
variable {P : Program} {o : Oper} {N : Nat} {K : Nat → Prop} {W w : World} {a : Act} {F : List (Nat × Value)} {L : List Asn} {α : Type} [Enc α]
theorem r_slH0 {T e : TypeId} {g : Bool} {n by_ : Nat} {z : List Value} {x y : Operand} {s : Ls α} {j : Nat} (hT : slI P T = some e) (he : tyI P e = some (g, n, by_, z)) (ho : o.op = .slice T x none (some y) none) (hx : ev F x = some s.v) (hy : ev F y = some (.int .i64 (j : Int)))
    (hat : ∀ w, Sh K W w L → s.At w) (hj : j ≤ s.l.length) : Rn P o N K W F L (vtake s.v j) := fun a w h => by
  obtain ⟨A, cap, hv, hA⟩ := hat w h.sh
  have hle := hA.le
  simp only at hle
  obtain ⟨i, d, zv, hi, hd, _, rfl, _⟩ := tyI_parts he
  have hu := slI_parts hT
  have hel : P.elem T = e := by simp [Program.elem, hu]
  have hu' : P.underlying T = some (.slice (P.elem T)) := by rw [hel]; exact hu
  have e1 := run_sliceAt_slice (P := P) w T (.slice A s.l.length cap) none (some (.int .i64 (j : Int))) none hu'
  have e2 := run_slice_h (P := P) w T A s.l.length cap hu' .i64 (j : Int) (by omega) (by omega)
  rw [hel, run_sizeOf hi, Result.andThen_ok] at e2
  rw [e2] at e1
  have hs : (if cap = 0 then A else A.map (·.add (0 * i.size))) = A := by
    by_cases hc : cap = 0
    · rw [if_pos hc]
    · rw [if_neg hc]
      obtain ⟨_, _, hA1⟩ : True ∧ True ∧ True := ⟨trivial, trivial, trivial⟩
      cases A with
      | none => rfl
      | some a => obtain ⟨b, o, sp⟩ := a; cases sp <;> simp [Addr.add]
  unfold execOp
  simp only [ho, h.fr.ev hx, h.fr.ev hy, Option.map_some, Option.map_none, hv, Sem.run_bind, e1, Result.andThen_ok, Sem.run_pure, sliced, vtake]
  simp only [Nat.zero_mul] at hs
  simp [hs]
end
end Go.Proofs.Ytmgikmjmdppfmaa
end
namespace Go.Proofs.Ytmgikmjmdppfmaa
open Go.RowKit
set_option linter.unusedSimpArgs false
set_option linter.unusedVariables false

/-- How many elements an array has, and of which type. -/
def arI (P : Program) (T : TypeId) : Option (Nat × TypeId) := match P.underlying T with
  | some (.array n e) => some (n, e)
  | _ => none
theorem arI_parts {P : Program} {T e : TypeId} {n : Nat} (h : arI P T = some (n, e)) : P.underlying T = some (.array n e) := by
  unfold arI at h
  split at h
  · rename_i hu; cases h; exact hu
  · cases h
theorem splice_bool {l : List Bool} {q : Nat} {b : Bool} (h : q < l.length) : splice (l.map Value.bool) q [.bool b] = (l.set q b).map Value.bool := by
  unfold splice
  rw [List.set_eq_take_append_cons_drop, if_pos h]
  simp
theorem nth_bool {l : List Bool} {q : Nat} (h : q < l.length) : (l.map Value.bool)[q]? = some (.bool (nth l q)) := by
  rw [List.getElem?_map, List.getElem?_eq_getElem h, nth_lt _ _ h]; rfl
section
variable {P : Program} {o : Oper} {N : Nat} {K : Nat → Prop} {W w : World} {a : Act} {F : List (Nat × Value)} {L : List Asn}
theorem r_ixAr {T e : TypeId} {gg : Bool} {m by_ : Nat} {z : List Value} {x y : Operand} {n g q : Nat} (hT : arI P T = some (n, e)) (he : tyI P e = some (gg, m, by_, z)) (hm : m = 1) (ho : o.op = .indexAddr T x y) (hx : ev F x = some (.pointer (some ⟨g, 0, none⟩))) (hy : ev F y = some (.int .i64 (q : Int))) (hq : q < n) : Rn P o N K W F L (.pointer (some ⟨g, q, none⟩)) := fun a w h => by
  obtain ⟨i, d, zv, hi, hd, _, rfl, _⟩ := tyI_parts he
  have hu := arI_parts hT
  have hel : P.elem T = e := by simp [Program.elem, hu]
  have hal : P.arrayLen T = n := by simp [Program.arrayLen, hu]
  have hu' : P.underlying T = some (.array (P.arrayLen T) (P.elem T)) := by rw [hel, hal]; exact hu
  have e1 := run_indexAt_array (P := P) (w := w) T ⟨g, 0, none⟩ .i64 (q : Int) hu'
  rw [if_pos ⟨by omega, by rw [hal]; omega⟩, hel, run_sizeOf hi, Result.andThen_ok, hm] at e1
  unfold execOp
  simp only [ho, h.fr.ev hx, h.fr.ev hy, Sem.run_bind, e1, Result.andThen_ok, Sem.run_pure]
  simp [Addr.add_lit]
theorem run_part1 {e : TypeId} {n by_ : Nat} {z : List Value} {cs : Array Value} {q : Nat} {v : Value} (he : tyI P e = some (false, n, by_, z)) (hv : cs[q]? = some v) (w : World) : (part e cs q).run P w = .ok v w := by
  obtain ⟨i, d, zv, hi, hd, hg, _⟩ := tyI_parts he
  unfold part
  rw [Sem.run_bind, run_isAgg hd, hg, Result.andThen_ok]
  simp only [Bool.false_eq_true, if_false, hv, Sem.run_pure]
theorem r_ixV {T e : TypeId} {by_ : Nat} {z : List Value} {x y : Operand} {n q : Nat} {cs : List Value} {v : Value} (hT : arI P T = some (n, e)) (he : tyI P e = some (false, 1, by_, z)) (ho : o.op = .index T x y) (hx : ev F x = some (.agg cs.toArray)) (hy : ev F y = some (.int .i64 (q : Int))) (hq : q < n) (hv : cs[q]? = some v) : Rn P o N K W F L v := fun a w h => by
  obtain ⟨i, d, zv, hi, hd, _, hs, _⟩ := tyI_parts he
  have hu := arI_parts hT
  have e1 : (Instr.index T (.agg cs.toArray) (.int .i64 (q : Int))).run P w = .ok v w := by
    unfold Instr.index
    have h2 : (0 : Int) ≤ (q : Int) ∧ (q : Int) < (n : Int) := by omega
    simp only [asIntOf, Sem.run_bind, Sem.run_pure, Result.andThen_ok, run_underlying hu, if_pos h2, run_sizeOf hi, hs, Int.toNat_natCast, Nat.mul_one]
    exact run_part1 he (by simpa using hv) w
  unfold execOp
  simp only [ho, h.fr.ev hx, h.fr.ev hy, Sem.run_bind, e1, Result.andThen_ok, Sem.run_pure]
theorem forIn_eqArr {e : TypeId} {by_ d : Nat} {z : List Value} {n : Nat} {l m : List Bool} (he : tyI P e = some (false, 1, by_, z)) (hb : P.underlying e = some .bool) (hl : l.length = n) (hm : m.length = n) (w : World) : ∀ c k, k + c = n →
    Sem.run P (forIn (List.range' k c) ((none, ()) : Option Bool × Unit) fun i _ => do
      let x ← part e (l.map Value.bool).toArray (i * 1)
      let y ← part e (m.map Value.bool).toArray (i * 1)
      let b ← Op.equalIn (d + 1) e x y
      if (!b) = true then pure (ForInStep.done (some false, ())) else pure (ForInStep.yield (none, ()))) w = .ok (if l.drop k = m.drop k then (none, ()) else (some false, ())) w
  | 0, k, h => by
    rw [show List.range' k 0 = [] from rfl, List.forIn_nil, Sem.run_pure, if_pos (by rw [List.drop_of_length_le (by omega), List.drop_of_length_le (by omega)])]
  | c + 1, k, h => by
    have e1 : l.drop k = nth l k :: l.drop (k + 1) := by rw [List.drop_eq_getElem_cons (by omega), nth_lt _ _ (by omega)]
    have e2 : m.drop k = nth m k :: m.drop (k + 1) := by rw [List.drop_eq_getElem_cons (by omega), nth_lt _ _ (by omega)]
    have p1 := run_part1 (P := P) (q := k * 1) he (v := .bool (nth l k)) (by rw [Nat.mul_one, List.getElem?_toArray]; exact nth_bool (l := l) (q := k) (by omega)) w
    have p2 := run_part1 (P := P) (q := k * 1) he (v := .bool (nth m k)) (by rw [Nat.mul_one, List.getElem?_toArray]; exact nth_bool (l := m) (q := k) (by omega)) w
    rw [List.range'_succ, List.forIn_cons]
    simp only [Sem.run_bind, p1, p2, Result.andThen_ok, run_equalIn_bool' w d e _ _ hb]
    by_cases hk : nth l k = nth m k
    · have : (!(nth l k == nth m k)) = false := by rw [hk]; simp
      simp only [this, Bool.false_eq_true, if_false, Sem.run_pure, Result.andThen_ok]
      rw [forIn_eqArr he hb hl hm w c (k + 1) (by omega), e1, e2]
      congr 1
      by_cases h2 : l.drop (k + 1) = m.drop (k + 1)
      · rw [if_pos h2, if_pos (by rw [hk, h2])]
      · rw [if_neg h2, if_neg (fun h3 => h2 (List.cons.inj h3).2)]
    · have : (!(nth l k == nth m k)) = true := by simpa using hk
      simp only [this, if_true, Sem.run_pure, Result.andThen_ok]
      rw [e1, e2, if_neg (fun h3 => hk (List.cons.inj h3).1)]
/-- Two arrays of truth values are compared. -/
theorem run_eqArr {T e : TypeId} {by_ d : Nat} {z : List Value} {n : Nat} {l m : List Bool} (hT : arI P T = some (n, e)) (he : tyI P e = some (false, 1, by_, z)) (hb : P.underlying e = some .bool) (hl : l.length = n) (hm : m.length = n) (w : World) :
    (Op.equalIn (d + 1 + 1) T (.agg (l.map Value.bool).toArray) (.agg (m.map Value.bool).toArray)).run P w = .ok (decide (l = m)) w := by
  obtain ⟨i, dd, zv, hi, hd, _, hs, _⟩ := tyI_parts he
  have hu := arI_parts hT
  rw [Op.equalIn]
  simp only [Sem.run_bind, run_underlying hu, Result.andThen_ok, run_sizeOf hi, hs]
  rw [Std.Legacy.Range.forIn_eq_forIn_range']
  have hk := forIn_eqArr (P := P) (d := d) he hb hl hm w n 0 (by omega)
  rw [show List.range' [:n].start [:n].size [:n].step = List.range' 0 n by simp [Std.Legacy.Range.size], hk]
  simp only [List.drop_zero, Result.andThen_ok]
  by_cases h : l = m
  · rw [if_pos h, decide_eq_true h]; rfl
  · rw [if_neg h, decide_eq_false h]; rfl
theorem r_neqAr {T U e : TypeId} {by_ : Nat} {z : List Value} {n : Nat} {x y : Operand} {l m : List Bool} (hT : arI P T = some (n, e)) (he : tyI P e = some (false, 1, by_, z)) (hb : P.underlying e = some .bool) (hgt : P.eqGuardType P.depth T = false) (ho : o.op = .binOp .neq T x y U)
    (hx : ev F x = some (.agg (l.map Value.bool).toArray)) (hy : ev F y = some (.agg (m.map Value.bool).toArray)) (hl : l.length = n) (hm : m.length = n) : Rn P o N K W F L (.bool (decide (l ≠ m))) := fun a w h => by
  have e1 := run_eqGuard_agg (P := P) (w := w) .neq T x y (l.map Value.bool).toArray (m.map Value.bool).toArray hgt
  have e2 := run_neq_struct (P := P) (w := w) T (l.map Value.bool).toArray (m.map Value.bool).toArray
  rw [run_eqArr (d := 9998) hT he hb hl hm w, Result.andThen_ok] at e2
  unfold execOp
  simp only [ho, h.fr.ev hx, h.fr.ev hy, Sem.run_bind, e1, e2, Result.andThen_ok, Sem.run_pure]
  congr 2
  by_cases hh : l = m
  · simp [hh]
  · simp [hh]
/-- An array of 200 truth values. -/
structure BArr where
  l : List Bool
instance : Inhabited BArr := ⟨⟨List.replicate 200 false⟩⟩
instance : Enc BArr where
  sz := 200
  cell x j := .bool (nth x.l j)
  whole x := .agg ((List.range 200).map fun j => .bool (nth x.l j)).toArray
  agg := true
  inner x _ := x.l.length = 200
  on _ _ := False
  one h := by cases h
  many _ _ := rfl
  keep _ _ _ h _ := h
  lt _ _ _ _ hb := hb.elim
theorem barr_whole {l : List Bool} (h : l.length = 200) : (List.range 200).map (fun j => Value.bool (nth l j)) = l.map Value.bool := by
  refine List.ext_getElem? fun i => ?_
  by_cases hi : i < 200
  · rw [nth_bool (by omega), List.getElem?_map, List.getElem?_range hi]; rfl
  · rw [List.getElem?_eq_none (by simp; omega), List.getElem?_eq_none (by simp; omega)]
theorem x_allocAr {d : Nat} {T : TypeId} {g : Bool} {n by_ k : Nat} {z : List Value} (h : St N K W a w F L) (hT : tyI P T = some (g, n, by_, z)) (hz : z = (List.replicate k false).map Value.bool) (ho : o.op = .alloc T) (hd : o.dst = some d) (hdN : Nat.blt d N = true) :
    Ex P o a w (fun a' w' => ∃ b : Nat, St N K W a' w' ((d, .pointer (some ⟨b, 0, none⟩)) :: F) (.blk b T ((List.replicate k false).map Value.bool) :: L)) := by
  subst hz; exact x_alloc h hT ho hd hdN
theorem x_stAr {T : TypeId} {gg : Bool} {by_ : Nat} {z : List Value} {x y : Operand} {g q i : Nat} {E : TypeId} {l : List Bool} {b : Bool} (h : St N K W a w F L) (hT : tyI P T = some (gg, 1, by_, z)) (ho : o.op = .store T x y) (hd : o.dst = none)
    (hx : ev F x = some (.pointer (some ⟨g, q, none⟩))) (hy : ev F y = some (.bool b)) (hi : L[i]? = some (.blk g E (l.map Value.bool))) (hq : q < l.length) :
    Ex P o a w (fun a' w' => St N K W a' w' F (L.set i (.blk g E ((l.set q b).map Value.bool)))) :=
  x_stb h hT ho hd hx hy hi (vs := [.bool b]) rfl rfl rfl (by rw [List.length_map]; omega) (splice_bool hq)
theorem r_ldAr {T : TypeId} {n by_ : Nat} {z : List Value} {x : Operand} {g q i : Nat} {E : TypeId} {l : List Bool} (hT : tyI P T = some (false, n, by_, z)) (ho : o.op = .load T x) (hx : ev F x = some (.pointer (some ⟨g, q, none⟩))) (hi : L[i]? = some (.blk g E (l.map Value.bool))) (hq : q < l.length) : Rn P o N K W F L (.bool (nth l q)) :=
  r_ldb hT ho hx hi (nth_bool hq)
theorem r_ldwAr {T : TypeId} {n by_ : Nat} {z : List Value} {x : Operand} {g i : Nat} {E : TypeId} {l : List Bool} (hT : tyI P T = some (true, n, by_, z)) (ho : o.op = .load T x) (hx : ev F x = some (.pointer (some ⟨g, 0, none⟩))) (hi : L[i]? = some (.blk g E (l.map Value.bool))) (hl : l.length = n) : Rn P o N K W F L (.agg (l.map Value.bool).toArray) :=
  r_ldbw hT ho hx hi (by rw [List.drop_zero, List.take_of_length_le (by rw [List.length_map]; omega)]) (by rw [List.length_map]; exact hl)
/-- An array is read out of a row. -/
theorem r_ldewAr {T : TypeId} {n by_ : Nat} {z : List Value} {x : Operand} {i : Nat} {s : Ls BArr} (hT : tyI P T = some (true, 200, by_, z)) (ho : o.op = .load T x) (hx : ev F x = some (.pointer (some (padr s.v 200 i 0)))) (hat : ∀ w, Sh K W w L → s.At w) (hi : i < s.l.length) : Rn P o N K W F L (.agg ((nth s.l i).l.map Value.bool).toArray) := fun a w h => by
  have h1 : (nth s.l i).l.length = 200 := (hat w h.sh).inner i hi
  have h2 := r_ldew (N := N) (vs := (nth s.l i).l.map Value.bool) hT ho hx rfl hat hi (by decide) (by rw [← barr_whole h1]; rfl)
  exact h2 a w h
end
end Go.Proofs.Ytmgikmjmdppfmaa
