/-
  Resources (blocks that a call may write, data that it may read) and states of a walk. It imports nothing of the dump.
-/
import Derived.Test.YthdkmhaneellcaaGreatDoorBase
namespace Go.Proofs.YthdkmhaneellcaaGreatDoor
open Go.RowKit
set_option linter.unusedSimpArgs false
set_option linter.unusedVariables false

/-- A resource: blocks that are its own (they may be written), blocks that it reads, what holds. -/
structure Asn where
  fp : Nat → Prop
  rd : Nat → Prop
  ok : World → Prop
  keep : ∀ w w', ok w → (∀ b, fp b ∨ rd b → w'.heap[b]? = w.heap[b]?) → ok w'
  lt : ∀ w, ok w → ∀ b, fp b ∨ rd b → b < w.heap.size

/-- w' is w but for blocks of X and new ones. -/
structure Chg (X : Nat → Prop) (w w' : World) : Prop where
  os : w'.os = w.os
  tape : w'.tape = w.tape
  output : w'.output = w.output
  size : w.heap.size ≤ w'.heap.size
  same : ∀ b, b < w.heap.size → ¬ X b → w'.heap[b]? = w.heap[b]?

theorem Chg.refl (X : Nat → Prop) (w : World) : Chg X w w := ⟨rfl, rfl, rfl, Nat.le_refl _, fun _ _ _ => rfl⟩
theorem Chg.drew (X : Nat → Prop) (w : World) : Chg X w w.drew := ⟨rfl, rfl, rfl, Nat.le_refl _, fun _ _ _ => rfl⟩
theorem Chg.alloc (X : Nat → Prop) (w : World) (o : Obj) : Chg X w (w.alloc o) := ⟨rfl, rfl, rfl, by simp, fun b hb _ => Below.heap_alloc w o b hb⟩
theorem Chg.setCell {X : Nat → Prop} (w : World) (p : Addr) (hp : X p.block) (v : Value) : Chg X w (w.setCell p v) :=
  ⟨rfl, rfl, rfl, by simp, fun b hb hx => Below.heap_setCell w p v b (fun e => hx (e ▸ hp))⟩
theorem Chg.below {w w' : World} (h : Below w.heap.size w w') : Chg (fun _ => False) w w' := ⟨h.os, h.tape, h.output, h.size, fun b hb _ => h.block b hb⟩
theorem Chg.to_below {w w' : World} (h : Chg (fun _ => False) w w') : Below w.heap.size w w' := ⟨h.os, h.tape, h.output, h.size, fun b hb => h.same b hb (fun h => h)⟩
theorem Chg.grown {X : Nat → Prop} {w w' : World} {row : Option Nat} (h : w.grownBy w' row) (hr : ∀ k, row = some k → X k) : Chg X w w' :=
  ⟨h.os, h.tape, h.output, h.size, fun b hb hx => h.block b hb (fun e => hx (hr b e.symm))⟩
theorem Chg.mono {X Y : Nat → Prop} {w w' : World} (h : Chg X w w') (hxy : ∀ b, X b → Y b) : Chg Y w w' := ⟨h.os, h.tape, h.output, h.size, fun b hb hy => h.same b hb fun hx => hy (hxy b hx)⟩
/-- Blocks that X touches are K's, or new since W. -/
theorem Chg.trans {K X : Nat → Prop} {W w w' : World} (h : Chg K W w) (h' : Chg X w w') (hx : ∀ b, X b → K b ∨ W.heap.size ≤ b) : Chg K W w' :=
  ⟨h'.os.trans h.os, h'.tape.trans h.tape, h'.output.trans h.output, Nat.le_trans h.size h'.size, fun b hb hk =>
    (h'.same b (Nat.lt_of_lt_of_le hb h.size) (fun hxb => (hx b hxb).elim hk (fun hle => by omega))).trans (h.same b hb hk)⟩

def Asn.Apart (A B : Asn) : Prop := ∀ b, (A.fp b → ¬ B.fp b ∧ ¬ B.rd b) ∧ (B.fp b → ¬ A.rd b)
theorem Asn.Apart.symm {A B : Asn} (h : A.Apart B) : B.Apart A := fun b => ⟨fun hb => ⟨fun ha => ((h b).1 ha).1 hb, (h b).2 hb⟩, fun ha => ((h b).1 ha).2⟩

theorem apart_of_mem : ∀ {L : List Asn}, L.Pairwise Asn.Apart → ∀ {A B : Asn}, A ∈ L → B ∈ L → A = B ∨ A.Apart B
  | [], _, _, _, hA, _ => by cases hA
  | C :: L, h, A, B, hA, hB => by
    obtain ⟨h1, h2⟩ := List.pairwise_cons.1 h
    rcases List.mem_cons.1 hA with rfl | hA'
    · rcases List.mem_cons.1 hB with rfl | hB'
      · exact .inl rfl
      · exact .inr (h1 _ hB')
    · rcases List.mem_cons.1 hB with rfl | hB'
      · exact .inr (h1 _ hA').symm
      · exact apart_of_mem h2 hA' hB'
theorem perm_erase {α : Type} : ∀ (l : List α) (i : Nat) (h : i < l.length), l.Perm (l[i] :: l.eraseIdx i)
  | a :: l, 0, _ => List.Perm.refl _
  | a :: l, i + 1, h => by
    have ih := perm_erase l i (by simpa using h)
    simp only [List.getElem_cons_succ, List.eraseIdx_cons_succ]
    exact (ih.cons a).trans (List.Perm.swap _ _ _)
theorem perm_set {α : Type} (x : α) : ∀ (l : List α) (i : Nat) (h : i < l.length), (l.set i x).Perm (x :: l.eraseIdx i)
  | a :: l, 0, _ => List.Perm.refl _
  | a :: l, i + 1, h => by
    have ih := perm_set x l i (by simpa using h)
    simp only [List.set_cons_succ, List.eraseIdx_cons_succ]
    exact (ih.cons a).trans (List.Perm.swap _ _ _)

structure Sh (K : Nat → Prop) (W w : World) (L : List Asn) : Prop where
  chg : Chg K W w
  ok : ∀ A ∈ L, A.ok w
  mine : ∀ A ∈ L, ∀ b, A.fp b → K b ∨ W.heap.size ≤ b
  self : ∀ A ∈ L, ∀ b, A.fp b → ¬ A.rd b
  apart : L.Pairwise Asn.Apart

abbrev Sh0 := Sh (fun _ => False)

section
variable {K : Nat → Prop} {W w w' : World} {L : List Asn}

theorem Sh.lt (h : Sh K W w L) {A : Asn} (hA : A ∈ L) {b : Nat} (hb : A.fp b ∨ A.rd b) : b < w.heap.size := A.lt w (h.ok A hA) b hb

/-- THE STEP: some resources are given, others come back; the world turns in the blocks of those given and in new ones alone. -/
theorem Sh.step {Lp Lr L' : List Asn} (h : Sh K W w (Lp ++ Lr)) (hc : Chg (fun b => ∃ A ∈ Lp, A.fp b) w w')
    (hok : ∀ A ∈ L', A.ok w')
    (hfp : ∀ A ∈ L', ∀ b, A.fp b → (∃ B ∈ Lp, B.fp b) ∨ w.heap.size ≤ b)
    (hrd : ∀ A ∈ L', ∀ b, A.rd b → (∃ B ∈ Lp, B.fp b ∨ B.rd b) ∨ (∃ B ∈ Lr, B.rd b) ∨ w.heap.size ≤ b)
    (hself : ∀ A ∈ L', ∀ b, A.fp b → ¬ A.rd b) (hap : L'.Pairwise Asn.Apart) : Sh K W w' (L' ++ Lr) := by
  have hpr : ∀ A ∈ Lp, ∀ B ∈ Lr, A.Apart B := fun A hA B hB => (List.pairwise_append.1 h.apart).2.2 A hA B hB
  have hrr : Lr.Pairwise Asn.Apart := (List.pairwise_append.1 h.apart).2.1
  have hrest : ∀ B ∈ Lr, ∀ b, B.fp b ∨ B.rd b → ¬ ∃ A ∈ Lp, A.fp b := by
    rintro B hB b hb ⟨A, hA, hAb⟩
    have := hpr A hA B hB b
    exact hb.elim (this.1 hAb).1 (this.1 hAb).2
  refine ⟨h.chg.trans hc ?_, ?_, ?_, ?_, ?_⟩
  · rintro b ⟨A, hA, hb⟩
    exact h.mine A (List.mem_append.2 (.inl hA)) b hb
  · intro A hA
    rcases List.mem_append.1 hA with hA | hA
    · exact hok A hA
    · exact A.keep w w' (h.ok A (List.mem_append.2 (.inr hA))) fun b hb => hc.same b (h.lt (List.mem_append.2 (.inr hA)) hb) (hrest A hA b hb)
  · intro A hA b hb
    rcases List.mem_append.1 hA with hA | hA
    · rcases hfp A hA b hb with ⟨B, hB, hBb⟩ | hle
      · exact h.mine B (List.mem_append.2 (.inl hB)) b hBb
      · exact .inr (Nat.le_trans h.chg.size hle)
    · exact h.mine A (List.mem_append.2 (.inr hA)) b hb
  · intro A hA
    rcases List.mem_append.1 hA with hA | hA
    · exact hself A hA
    · exact h.self A (List.mem_append.2 (.inr hA))
  · refine List.pairwise_append.2 ⟨hap, hrr, fun A hA B hB b => ⟨fun ha => ?_, fun hb ha => ?_⟩⟩
    · rcases hfp A hA b ha with ⟨C, hC, hCb⟩ | hle
      · exact (hpr C hC B hB b).1 hCb
      · exact ⟨fun hb => by have := h.lt (List.mem_append.2 (.inr hB)) (.inl hb); omega, fun hb => by have := h.lt (List.mem_append.2 (.inr hB)) (.inr hb); omega⟩
    · rcases hrd A hA b ha with ⟨C, hC, hCb⟩ | ⟨C, hC, hCb⟩ | hle
      · exact hCb.elim (fun hCb => ((hpr C hC B hB b).1 hCb).1 hb) ((hpr C hC B hB b).2 hb)
      · by_cases hcb : C = B
        · subst hcb
          exact h.self C (List.mem_append.2 (.inr hC)) b hb hCb
        · rcases apart_of_mem hrr hC hB with e | hap
          · exact hcb e
          · exact (hap b).2 hb hCb
      · have := h.lt (List.mem_append.2 (.inr hB)) (.inl hb); omega

theorem Sh.drew (h : Sh K W w L) : Sh K W w.drew L := by
  have := Sh.step (Lp := []) (Lr := L) (L' := []) (w' := w.drew) h (Chg.drew _ w) (by simp) (by simp) (by simp) (by simp) .nil
  simpa using this

/-- Some of the resources, in another order. -/
def selOK (L : List Asn) : List Nat → List Asn → Prop
  | [], [] => True
  | i :: is, A :: r => L[i]? = some A ∧ selOK L is r
  | _, _ => False
theorem selOK.len : ∀ {is : List Nat} {L' : List Asn}, selOK L is L' → is.length = L'.length
  | [], [], _ => rfl
  | _ :: is, _ :: r, h => by simp [selOK.len (is := is) (L' := r) h.2]
  | [], _ :: _, h => h.elim
  | _ :: _, [], h => h.elim
theorem selOK_at {L : List Asn} : ∀ {is : List Nat} {L' : List Asn}, selOK L is L' → ∀ (k : Nat) (A : Asn), L'[k]? = some A → ∃ i : Nat, is[k]? = some i ∧ L[i]? = some A
  | [], [], _, k, A, hk => by simp at hk
  | i :: is, B :: r, h, 0, A, hk => ⟨i, rfl, by simpa using hk ▸ h.1⟩
  | i :: is, B :: r, h, k + 1, A, hk => by
    obtain ⟨j, h1, h2⟩ := selOK_at (is := is) (L' := r) h.2 k A (by simpa using hk)
    exact ⟨j, by simpa using h1, h2⟩
  | [], _ :: _, h, _, _, _ => h.elim
  | _ :: _, [], h, _, _, _ => h.elim
def nodB : List Nat → Bool
  | [] => true
  | i :: r => !(r.contains i) && nodB r
def selL9 (L : List Asn) : List Nat → Option (List Asn)
  | [] => some []
  | i :: r => match L[i]?, selL9 L r with
    | some A, some l => some (A :: l)
    | _, _ => none
def selB (L : List Asn) (is : List Nat) : Option (List Asn) := match nodB is with
  | true => selL9 L is
  | false => none
theorem nodB_ok : ∀ {is : List Nat}, nodB is = true → is.Nodup
  | [], _ => List.nodup_nil
  | i :: r, h => by
    simp only [nodB, Bool.and_eq_true, Bool.not_eq_true'] at h
    refine List.nodup_cons.2 ⟨fun hi => ?_, nodB_ok h.2⟩
    have := h.1
    rw [List.contains_iff_mem.2 hi] at this
    cases this
theorem selL9_ok {L : List Asn} : ∀ {is : List Nat} {L' : List Asn}, selL9 L is = some L' → selOK L is L'
  | [], L', h => by cases h; trivial
  | i :: r, L', h => by
    unfold selL9 at h
    split at h
    · rename_i A l h1 h2
      cases h
      exact ⟨h1, selL9_ok h2⟩
    · cases h
theorem Sh.sel {L' : List Asn} (h : Sh K W w L) (is : List Nat) (hsel : selB L is = some L') : Sh K W w L' := by
  obtain ⟨hnd, hs⟩ : is.Nodup ∧ selOK L is L' := by
    unfold selB at hsel
    split at hsel
    · rename_i hn; exact ⟨nodB_ok hn, selL9_ok hsel⟩
    · cases hsel
  have hm : ∀ A ∈ L', A ∈ L := by
    intro A hA
    obtain ⟨k, hk⟩ := List.getElem?_of_mem hA
    obtain ⟨i, _, hi⟩ := selOK_at hs k A hk
    exact List.mem_of_getElem? hi
  refine ⟨h.chg, fun A hA => h.ok A (hm A hA), fun A hA => h.mine A (hm A hA), fun A hA => h.self A (hm A hA), ?_⟩
  rw [List.pairwise_iff_getElem]
  intro p q hp hq hpq
  obtain ⟨i, hi1, hi2⟩ := selOK_at hs p _ (List.getElem?_eq_getElem hp)
  obtain ⟨j, hj1, hj2⟩ := selOK_at hs q _ (List.getElem?_eq_getElem hq)
  have hij : i ≠ j := by
    intro e
    subst e
    obtain ⟨hpi, e1⟩ := List.getElem?_eq_some_iff.1 hi1
    obtain ⟨hqi, e2⟩ := List.getElem?_eq_some_iff.1 hj1
    exact List.pairwise_iff_getElem.1 hnd p q hpi hqi hpq (e1.trans e2.symm)
  obtain ⟨li, e1⟩ := List.getElem?_eq_some_iff.1 hi2
  obtain ⟨lj, e2⟩ := List.getElem?_eq_some_iff.1 hj2
  have hpw := List.pairwise_iff_getElem.1 h.apart
  rw [← e1, ← e2]
  rcases Nat.lt_or_gt_of_ne hij with hlt | hgt
  · exact hpw i j li lj hlt
  · exact (hpw j i lj li hgt).symm

/-- One more. -/
theorem Sh.push (h : Sh K W w L) {A : Asn} (hc : Chg (fun _ => False) w w') (hok : A.ok w') (hfp : ∀ b, A.fp b → w.heap.size ≤ b) (hrd : ∀ b, A.rd b → (∃ B ∈ L, B.rd b) ∨ w.heap.size ≤ b) (hself : ∀ b, A.fp b → ¬ A.rd b) : Sh K W w' (A :: L) :=
  Sh.step (Lp := []) (Lr := L) (L' := [A]) h (hc.mono fun _ h => h.elim) (by simpa using hok) (by simpa using fun b hb => hfp b hb) (by simpa using fun b hb => hrd b hb) (by simpa using hself) (List.pairwise_singleton _ _)

/-- One is changed, in its place. -/
theorem Sh.put (h : Sh K W w L) {i : Nat} {A A' : Asn} (hi : L[i]? = some A) (hc : Chg A.fp w w') (hok : A'.ok w') (hfp : ∀ b, A'.fp b → A.fp b ∨ w.heap.size ≤ b)
    (hrd : ∀ b, A'.rd b → A.fp b ∨ A.rd b ∨ (∃ B ∈ L, B.rd b) ∨ w.heap.size ≤ b) (hself : ∀ b, A'.fp b → ¬ A'.rd b) : Sh K W w' (L.set i A') := by
  obtain ⟨hlt, rfl⟩ := List.getElem?_eq_some_iff.1 hi
  have h1 : Sh K W w ([L[i]] ++ L.eraseIdx i) := by
    refine ⟨h.chg, fun A hA => h.ok A ?_, fun A hA => h.mine A ?_, fun A hA => h.self A ?_, ?_⟩
    · simp only [List.singleton_append, List.mem_cons] at hA; exact hA.elim (fun e => e ▸ List.getElem_mem _) List.mem_of_mem_eraseIdx
    · simp only [List.singleton_append, List.mem_cons] at hA; exact hA.elim (fun e => e ▸ List.getElem_mem _) List.mem_of_mem_eraseIdx
    · simp only [List.singleton_append, List.mem_cons] at hA; exact hA.elim (fun e => e ▸ List.getElem_mem _) List.mem_of_mem_eraseIdx
    · refine (List.Perm.pairwise_iff (fun {x y} hxy => hxy.symm) ?_).1 h.apart
      exact perm_erase L i hlt
  have h2 := Sh.step (L' := [A']) h1 (hc.mono fun b hb => ⟨_, by simp, hb⟩) (by simpa using hok) (by simpa using hfp) (by
    intro A hA b hb
    simp only [List.mem_singleton] at hA
    subst hA
    rcases hrd b hb with hb | hb | ⟨B, hB, hb⟩ | hb
    · exact .inl ⟨_, by simp, .inl hb⟩
    · exact .inl ⟨_, by simp, .inr hb⟩
    · by_cases e : B = L[i]
      · subst e; exact .inl ⟨_, by simp, .inr hb⟩
      · refine .inr (.inl ⟨B, ?_, hb⟩)
        have := (perm_erase L i hlt).mem_iff.1 hB
        simpa [e] using this
    · exact .inr (.inr hb)) (by simpa using hself) (List.pairwise_singleton _ _)
  refine ⟨h2.chg, fun A hA => h2.ok A ?_, fun A hA => h2.mine A ?_, fun A hA => h2.self A ?_, ?_⟩
  all_goals try (have hp := perm_set A' L i hlt; exact hp.mem_iff.1 hA)
  exact (List.Perm.pairwise_iff (fun {x y} hxy => hxy.symm) (perm_set A' L i hlt).symm).1 h2.apart
end

/-! ### Data -/

/-- Where a slice's elements stand: cell j of element i. -/
def vblk (v : Value) : Nat := match v with | .slice A _ _ => (A.getD default).block | _ => 0
def voff (v : Value) : Nat := match v with | .slice A _ _ => (A.getD default).off | _ => 0
def padr (v : Value) (sz i j : Nat) : Addr := ⟨vblk v, voff v + i * sz + j, none⟩
theorem padr_add (v : Value) (sz i j k : Nat) : (padr v sz i j).add k = padr v sz i (j + k) := by
  simp [padr, Addr.add_lit, Nat.add_assoc]

/-- A slice that reads as a list. -/
structure Ls (α : Type) where
  v : Value
  l : List α
instance {α : Type} : Inhabited (Ls α) := ⟨⟨.slice none 0 0, []⟩⟩

section
variable {α : Type} [Enc α]
def Ls.At (s : Ls α) (w : World) : Prop := ∃ A cap, s.v = .slice A s.l.length cap ∧ (⟨A, cap, s.l⟩ : Sl α).At w
def Ls.on (s : Ls α) (b : Nat) : Prop := (0 < s.l.length ∧ vblk s.v = b) ∨ ∃ i, i < s.l.length ∧ Enc.on (nth s.l i) b
theorem Ls.on_iff {s : Ls α} {A : Option Addr} {cap : Nat} (h : s.v = .slice A s.l.length cap) (b : Nat) : s.on b ↔ (⟨A, cap, s.l⟩ : Sl α).on b := by
  unfold Ls.on Sl.on
  rw [h]
  rfl
theorem Ls.At.keep {s : Ls α} {w w' : World} (h : s.At w) (hb : ∀ b, s.on b → w'.heap[b]? = w.heap[b]?) : s.At w' := by
  obtain ⟨A, cap, hv, h⟩ := h
  exact ⟨A, cap, hv, h.keep fun b hb' => hb b ((Ls.on_iff hv b).2 hb')⟩
theorem Ls.At.lt {s : Ls α} {w : World} (h : s.At w) {b : Nat} (hb : s.on b) : b < w.heap.size := by
  obtain ⟨A, cap, hv, h⟩ := h
  exact h.lt ((Ls.on_iff hv b).1 hb)
theorem Ls.At.len {s : Ls α} {w : World} (h : s.At w) : s.l.length ≤ 140737488355328 := by
  obtain ⟨A, cap, hv, h⟩ := h
  exact h.len
theorem Ls.At.cell {s : Ls α} {w : World} (h : s.At w) (i j : Nat) (hi : i < s.l.length) (hj : j < Enc.sz α) : w.cell? (padr s.v (Enc.sz α) i j) = some (Enc.cell (nth s.l i) j) := by
  obtain ⟨A, cap, hv, h⟩ := h
  rw [hv]
  exact h.cell i j hi hj
theorem Ls.At.form {s : Ls α} {w : World} (h : s.At w) : ∃ A n c, s.v = .slice A n c := by
  obtain ⟨A, cap, hv, h⟩ := h
  exact ⟨_, _, _, hv⟩
theorem Ls.At.inner {s : Ls α} {w : World} (h : s.At w) (i : Nat) (hi : i < s.l.length) : Enc.inner (nth s.l i) w := by
  obtain ⟨A, cap, hv, h⟩ := h
  exact h.inner i hi
instance : Enc (Ls α) where
  sz := 1
  cell s _ := s.v
  whole s := s.v
  agg := false
  inner s w := s.At w
  on s b := s.on b
  one _ := ⟨rfl, fun _ => rfl⟩
  many h := by cases h
  keep _ _ _ h hb := h.keep hb
  lt _ _ h _ hb := h.lt hb
end
theorem Ls.At.nth {α : Type} [Enc α] {s : Ls (Ls α)} {w : World} (h : s.At w) (i : Nat) (hi : i < s.l.length) : (nth s.l i).At w := h.inner i hi

/-- A block of cells. -/
def Asn.blk (g : Nat) (E : TypeId) (cs : List Value) : Asn where
  fp b := b = g
  rd _ := False
  ok w := Blk w g E cs.toArray
  keep w w' h hb := (hb g (.inl rfl)).trans h
  lt w h b hb := by rcases hb with rfl | hb; exact h.lt; exact hb.elim
/-- Data that is read. -/
def Asn.at_ {α : Type} [Enc α] (s : Ls α) : Asn where
  fp _ := False
  rd := s.on
  ok w := s.At w
  keep w w' h hb := h.keep fun b hb' => hb b (.inr hb')
  lt w h b hb := by rcases hb with hb | hb; exact hb.elim; exact h.lt hb
/-- A slice whose row is the call's own. -/
def Asn.own {α : Type} [Enc α] (E : TypeId) (s : Ls α) : Asn where
  fp b := s.v.ownBlock = some b
  rd b := ∃ i, i < s.l.length ∧ Enc.on (nth s.l i) b
  ok w := w.ownsRow 0 E (Enc.sz α) s.v s.l.length (encL s.l) ∧ s.l.length ≤ 140737488355328 ∧ ∀ i, i < s.l.length → Enc.inner (nth s.l i) w
  keep w w' h hb := by
    obtain ⟨h1, h2, h3⟩ := h
    refine ⟨⟨h1.1, ?_⟩, h2, fun i hi => Enc.keep _ w w' (h3 i hi) fun b hb' => hb b (.inr ⟨i, hi, hb'⟩)⟩
    rcases h1.2 with hn | ⟨g, cap, cur, hv, h0, hg, hr⟩
    · exact .inl hn
    · exact .inr ⟨g, cap, cur, hv, h0, (hb g (.inl (by rw [hv]; rfl))).trans hg, hr⟩
  lt w h b hb := by
    obtain ⟨h1, h2, h3⟩ := h
    rcases hb with hb | ⟨i, hi, hb⟩
    · exact (h1.lt b hb).2
    · exact Enc.lt _ w (h3 i hi) b hb

section
variable {K : Nat → Prop} {W w w' : World} {L : List Asn} {α : Type} [Enc α]
theorem Sh.at (h : Sh K W w L) (i : Nat) {s : Ls α} (hi : L[i]? = some (.at_ s)) : s.At w := h.ok _ (List.mem_of_getElem? hi)
theorem Sh.blk (h : Sh K W w L) (i : Nat) {g : Nat} {E : TypeId} {cs : List Value} (hi : L[i]? = some (.blk g E cs)) : Blk w g E cs.toArray := h.ok _ (List.mem_of_getElem? hi)
theorem own_at {E : TypeId} {s : Ls α} (h : (Asn.own E s).ok w) : s.At w := by
  obtain ⟨h1, h2, h3⟩ := h
  obtain ⟨t, e, hv, hat, _⟩ := Sl.of_own h1 h2 h3
  obtain ⟨A, cap, l⟩ := t
  subst e
  exact ⟨A, cap, hv, hat⟩
theorem Sh.own (h : Sh K W w L) (i : Nat) {E : TypeId} {s : Ls α} (hi : L[i]? = some (.own E s)) : s.At w := own_at (h.ok _ (List.mem_of_getElem? hi))
theorem own_on {E : TypeId} {s : Ls α} (h : (Asn.own E s).ok w) {b : Nat} (hb : s.on b) : (Asn.own E s).fp b ∨ (Asn.own E s).rd b := by
  rcases hb with ⟨h0, rfl⟩ | hb
  · left
    rcases h.1.2 with ⟨hv, hn⟩ | ⟨g, cap, cur, hv, _⟩
    · omega
    · show s.v.ownBlock = _
      rw [hv]; rfl
  · exact .inr hb
end
end Go.Proofs.YthdkmhaneellcaaGreatDoor
