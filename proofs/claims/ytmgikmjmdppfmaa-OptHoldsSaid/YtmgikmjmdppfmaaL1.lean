/-
  The machine's law in plain Lean: states that may be, runs, outcomes; what a search for them keeps. No program is in sight.
-/
import Derived.Test.YtmgikmjmdppfmaaX22
import Derived.Test.YtmgikmjmdppfmaaL0
namespace Go.Proofs.Ytmgikmjmdppfmaa
open Go.RowKit
set_option linter.unusedSimpArgs false
set_option linter.unusedVariables false

/-! ### A state's numbers tell it -/
theorem wt_inj : ∀ {l m : List Wt} {r r' : List Int}, l.length = m.length → l.flatMap wtN ++ r = m.flatMap wtN ++ r' → l = m ∧ r = r'
  | [], [], r, r', _, h => ⟨rfl, h⟩
  | [], _ :: _, _, _, hl, _ => by simp at hl
  | _ :: _, [], _, _, hl, _ => by simp at hl
  | x :: l, y :: m, r, r', hl, h => by
    simp only [List.flatMap_cons, List.append_assoc] at h
    unfold wtN at h
    simp only [List.cons_append, List.nil_append, List.cons.injEq] at h
    obtain ⟨h1, h2, h3, h4⟩ := h
    obtain ⟨e1, e2⟩ := wt_inj (by simpa using hl) h4
    have hlk : x.lock = y.lock := by
      cases hx : x.lock <;> cases hy : y.lock <;> simp [hx, hy] at h1 ⊢
    refine ⟨?_, e2⟩
    rw [e1]
    congr 1
    cases x; cases y
    simp only at hlk h2 h3
    rw [hlk, h2, h3]
theorem th_inj {R : Nat} : ∀ {l m : List Th} {r r' : List Int}, l.length = m.length → (∀ x ∈ l, x.regs.length = R) → (∀ x ∈ m, x.regs.length = R) → l.flatMap thN ++ r = m.flatMap thN ++ r' → l = m ∧ r = r'
  | [], [], r, r', _, _, _, h => ⟨rfl, h⟩
  | [], _ :: _, _, _, hl, _, _, _ => by simp at hl
  | _ :: _, [], _, _, hl, _, _, _ => by simp at hl
  | x :: l, y :: m, r, r', hl, h1, h2, h => by
    simp only [List.flatMap_cons, List.append_assoc] at h
    unfold thN at h
    simp only [List.append_assoc, List.cons_append, List.nil_append, List.cons.injEq] at h
    obtain ⟨e1, e2, h3⟩ := h
    have hx := h1 x (by simp)
    have hy := h2 y (by simp)
    obtain ⟨e3, h4⟩ := List.append_inj h3 (by rw [hx, hy])
    obtain ⟨e4, h5⟩ := wt_inj (by omega) h4
    obtain ⟨e5, e6⟩ := th_inj (by simpa using hl) (fun z hz => h1 z (by simp [hz])) (fun z hz => h2 z (by simp [hz])) h5
    refine ⟨?_, e6⟩
    rw [e5]
    congr 1
    cases x; cases y
    simp only at e1 e3 e4
    rw [e1, e3, e4]
def keyOf (s : MSt) : List Int := numbersL s.ths s.words s.owner s.prints
theorem key_inj {p : Pg} {s s' : MSt} (h : Wf p s) (h' : Wf p s') (e : keyOf s = keyOf s') : s = s' := by
  unfold keyOf numbersL at e
  simp only [List.append_assoc] at e
  have hr : ∀ {s : MSt}, Wf p s → ∀ x ∈ s.ths, x.regs.length = p.regs.toNat := by
    intro s h x hx
    obtain ⟨i, hi⟩ := List.getElem?_of_mem hx
    obtain ⟨hlt, e⟩ := List.getElem?_eq_some_iff.1 hi
    have := (h.th i (by rw [← h.ths]; exact hlt)).regs
    have e2 : nth s.ths i = x := by rw [nth_lt _ _ hlt]; exact e
    unfold MSt.view at this
    simpa [e2] using this
  obtain ⟨e1, h2⟩ := th_inj (by rw [h.ths, h'.ths]) (hr h) (hr h') e
  obtain ⟨e2, h3⟩ := List.append_inj h2 (by rw [h.words, h'.words])
  obtain ⟨e3, e4⟩ := List.append_inj h3 (by rw [h.owner, h'.owner])
  cases s; cases s'
  simp only at e1 e2 e3 e4
  rw [e1, e2, e3, e4]

/-! ### The order of outcomes -/
theorem lessB_irr : ∀ l : List Int, lessB l l = false
  | [] => by simp [lessB]
  | a :: l => by unfold lessB; rw [if_pos rfl]; exact lessB_irr l
theorem lessB_trans : ∀ {l m n : List Int}, lessB l m = true → lessB m n = true → lessB l n = true
  | [], m, [], h1, h2 => by cases m <;> simp [lessB] at h1 h2
  | [], m, c :: n, h1, h2 => by simp [lessB]
  | a :: l, [], n, h1, h2 => by simp [lessB] at h1
  | a :: l, b :: m, [], h1, h2 => by simp [lessB] at h2
  | a :: l, b :: m, c :: n, h1, h2 => by
    unfold lessB at h1 h2 ⊢
    by_cases e1 : a = b
    · by_cases e2 : b = c
      · rw [if_pos e1] at h1; rw [if_pos e2] at h2; rw [if_pos (e1.trans e2)]; exact lessB_trans h1 h2
      · rw [if_neg e2] at h2; subst e1; rw [if_neg e2]; exact h2
    · rw [if_neg e1] at h1
      by_cases e2 : b = c
      · subst e2; rw [if_neg e1]; exact h1
      · rw [if_neg e2] at h2
        have h1' : a < b := by simpa using h1
        have h2' : b < c := by simpa using h2
        rw [if_neg (by omega)]
        simp; omega
theorem lessB_tri : ∀ {l m : List Int}, lessB l m = false → lessB m l = false → l = m
  | [], [], _, _ => rfl
  | [], b :: m, h1, _ => by simp [lessB] at h1
  | a :: l, [], _, h2 => by simp [lessB] at h2
  | a :: l, b :: m, h1, h2 => by
    unfold lessB at h1 h2
    by_cases e : a = b
    · rw [if_pos e] at h1; rw [if_pos e.symm] at h2
      rw [e, lessB_tri h1 h2]
    · rw [if_neg e] at h1; rw [if_neg (fun h => e h.symm)] at h2
      simp at h1 h2; omega
theorem aheadB_irr (a : Outc) : aheadB a a = false := by unfold aheadB; rw [if_pos rfl, if_pos rfl]; exact lessB_irr _
theorem aheadB_tri {a b : Outc} (h1 : aheadB a b = false) (h2 : aheadB b a = false) : a = b := by
  unfold aheadB at h1 h2
  by_cases e : a.st = b.st
  · rw [if_pos e] at h1; rw [if_pos e.symm] at h2
    by_cases e2 : a.words = b.words
    · rw [if_pos e2] at h1; rw [if_pos e2.symm] at h2
      have e3 := lessB_tri h1 h2
      cases a; cases b; simp only at e e2 e3; rw [e, e2, e3]
    · rw [if_neg e2] at h1; rw [if_neg (fun h => e2 h.symm)] at h2
      exact absurd (lessB_tri h1 h2) e2
  · rw [if_neg e] at h1; rw [if_neg (fun h => e h.symm)] at h2
    simp at h1 h2; omega
theorem aheadB_trans {a b c : Outc} (h1 : aheadB a b = true) (h2 : aheadB b c = true) : aheadB a c = true := by
  unfold aheadB at h1 h2 ⊢
  by_cases e1 : a.st = b.st
  · rw [if_pos e1] at h1
    by_cases e2 : b.st = c.st
    · rw [if_pos e2] at h2
      rw [if_pos (e1.trans e2)]
      by_cases f1 : a.words = b.words
      · rw [if_pos f1] at h1
        by_cases f2 : b.words = c.words
        · rw [if_pos f2] at h2; rw [if_pos (f1.trans f2)]; exact lessB_trans h1 h2
        · rw [if_neg f2] at h2; rw [if_neg (fun h => f2 (f1.symm.trans h)), f1]; exact h2
      · rw [if_neg f1] at h1
        by_cases f2 : b.words = c.words
        · rw [if_neg (fun h => f1 (h.trans f2.symm)), ← f2]; exact h1
        · rw [if_neg f2] at h2
          have h3 := lessB_trans h1 h2
          rw [if_neg (fun h => ?_)]
          · exact h3
          · rw [h, lessB_irr] at h3; cases h3
    · rw [if_neg e2] at h2; rw [if_neg (fun h => e2 (e1.symm.trans h)), e1]; exact h2
  · rw [if_neg e1] at h1
    have h1' : a.st < b.st := by simpa using h1
    by_cases e2 : b.st = c.st
    · rw [if_neg (by omega)]; simp; omega
    · rw [if_neg e2] at h2
      have h2' : b.st < c.st := by simpa using h2
      rw [if_neg (by omega)]; simp; omega
def Sorted_ (l : List Outc) : Prop := l.Pairwise fun a b => aheadB a b = true
theorem sorted_ext : ∀ {l m : List Outc}, Sorted_ l → Sorted_ m → (∀ o, o ∈ l ↔ o ∈ m) → l = m
  | [], [], _, _, _ => rfl
  | [], b :: m, _, _, h => by have := (h b).2 (by simp); cases this
  | a :: l, [], _, _, h => by have := (h a).1 (by simp); cases this
  | a :: l, b :: m, h1, h2, h => by
    obtain ⟨p1, p2⟩ := List.pairwise_cons.1 h1
    obtain ⟨q1, q2⟩ := List.pairwise_cons.1 h2
    have e : a = b := by
      rcases List.mem_cons.1 ((h a).1 (by simp)) with e | ha
      · exact e
      · rcases List.mem_cons.1 ((h b).2 (by simp)) with e | hb
        · exact e.symm
        · have := aheadB_trans (p1 b hb) (q1 a ha)
          rw [aheadB_irr] at this; cases this
    subst e
    have e2 : l = m := by
      refine sorted_ext p2 q2 fun o => ⟨fun ho => ?_, fun ho => ?_⟩
      · rcases List.mem_cons.1 ((h o).1 (by simp [ho])) with e | h3
        · subst e; have := p1 o ho; rw [aheadB_irr] at this; cases this
        · exact h3
      · rcases List.mem_cons.1 ((h o).2 (by simp [ho])) with e | h3
        · subst e; have := q1 o ho; rw [aheadB_irr] at this; cases this
        · exact h3
    rw [e2]
theorem PutRel.sorted {o : OutL} {l l' : List OutL} (h : PutRel o l l') (hs : Sorted_ (l.map OutL.out)) : Sorted_ (l'.map OutL.out) ∧ ∀ y, y ∈ l'.map OutL.out ↔ y ∈ l.map OutL.out ∨ y = o.out := by
  rcases h with ⟨⟨i, hi, h1, h2⟩, rfl⟩ | ⟨k, hk, h1, h2, rfl⟩
  · refine ⟨hs, fun y => ⟨.inl, fun h => h.elim id fun e => ?_⟩⟩
    rw [e, aheadB_tri h1 h2]
    exact List.mem_map.2 ⟨_, nth_mem _ _ hi, rfl⟩
  · have hsplit : l = l.take k ++ l.drop k := (List.take_append_drop k l).symm
    have hb : ∀ x ∈ l.take k, aheadB x.out o.out = true := by
      intro x hx
      obtain ⟨j, hj⟩ := List.getElem?_of_mem hx
      obtain ⟨hlt, e⟩ := List.getElem?_eq_some_iff.1 hj
      have hjk : j < k := by simp at hlt; omega
      have := (h1 j hjk).2
      rw [nth_lt _ _ (by simp at hlt; omega)] at this
      rw [← e, List.getElem_take]; exact this
    have hs2 : Sorted_ (l.take k |>.map OutL.out) ∧ Sorted_ (l.drop k |>.map OutL.out) ∧ ∀ x ∈ l.take k, ∀ y ∈ l.drop k, aheadB x.out y.out = true := by
      rw [hsplit, List.map_append] at hs
      obtain ⟨a1, a2, a3⟩ := List.pairwise_append.1 hs
      exact ⟨a1, a2, fun x hx y hy => a3 _ (List.mem_map.2 ⟨x, hx, rfl⟩) _ (List.mem_map.2 ⟨y, hy, rfl⟩)⟩
    have ha : ∀ x ∈ l.drop k, aheadB o.out x.out = true := by
      intro x hx
      rcases Nat.lt_or_ge k l.length with hlt | hge
      · have hok := h2 hlt
        rw [nth_lt l k hlt] at hok
        rw [List.drop_eq_getElem_cons hlt] at hx
        rcases List.mem_cons.1 hx with rfl | hx
        · exact hok
        · have h3 := hs2.2.1
          rw [List.drop_eq_getElem_cons hlt, List.map_cons] at h3
          exact aheadB_trans hok ((List.pairwise_cons.1 h3).1 _ (List.mem_map.2 ⟨x, hx, rfl⟩))
      · rw [List.drop_eq_nil_of_le hge] at hx; cases hx
    constructor
    · unfold Sorted_
      rw [List.map_append, List.map_cons]
      refine List.pairwise_append.2 ⟨hs2.1, List.pairwise_cons.2 ⟨fun y hy => ?_, hs2.2.1⟩, fun x hx y hy => ?_⟩
      · obtain ⟨z, hz, rfl⟩ := List.mem_map.1 hy; exact ha z hz
      · obtain ⟨z, hz, rfl⟩ := List.mem_map.1 hx
        rcases List.mem_cons.1 hy with rfl | hy
        · exact hb z hz
        · obtain ⟨u, hu, rfl⟩ := List.mem_map.1 hy; exact hs2.2.2 z hz u hu
    · intro y
      conv => rhs; rw [hsplit]
      simp only [List.map_append, List.map_cons, List.mem_append, List.mem_cons]
      constructor
      · rintro (h | h | h)
        · exact .inl (.inl h)
        · exact .inr h
        · exact .inl (.inr h)
      · rintro ((h | h) | h)
        · exact .inl h
        · exact .inr (.inr h)
        · exact .inr (.inl h)

/-! ### What the search keeps -/
def Handled (p : Pg) (m : Int) (S : List MSt) (E : List Outc) (s : MSt) (t k : Nat) : Prop := if (stepT p m s t k).fell = true then (⟨1, [], (stepT p m s t k).prints⟩ : Outc) ∈ E else s.putT t (stepT p m s t k) ∈ S
structure Expanded (p : Pg) (m : Int) (S : List MSt) (E : List Outc) (s : MSt) : Prop where
  done : ended p s = true → (⟨0, s.words, s.prints⟩ : Outc) ∈ E
  stuck : ended p s = false → Stuck_ p m s → (⟨2, s.words, s.prints⟩ : Outc) ∈ E
  moves : ∀ t k, t < p.code.length → mvOK m (nth p.code t) (s.view t) k = true → Handled p m S E s t k
structure Inv (p : Pg) (m : Int) (S : List MSt) (E : List Outc) (full : Bool) (i : Nat) : Prop where
  start : begin_ p ∈ S
  reach : ∀ s ∈ S, Reach p m s
  pr : ∀ j, j < S.length → (nth S j).prints.length ≤ 2 * j
  len : S.length ≤ 4001
  hfull : full = decide (4000 < S.length)
  sound : ∀ o ∈ E, Outs p m o
  sorted : Sorted_ E
  done : full = false → ∀ j, j < i → Expanded p m S E (nth S j)
  nd : S.Nodup
/-- More states than the document goes through can be come to. -/
def Big (p : Pg) (m : Int) : Prop := ∃ S : List MSt, S.Nodup ∧ (∀ s ∈ S, Reach p m s) ∧ 4000 < S.length
theorem nodup_sub : ∀ {S T : List MSt}, S.Nodup → (∀ s ∈ S, s ∈ T) → S.length ≤ T.length
  | [], _, _, _ => Nat.zero_le _
  | a :: S, T, h, hs => by
    obtain ⟨h1, h2⟩ := List.nodup_cons.1 h
    have ha := hs a (by simp)
    have := nodup_sub (S := S) (T := T.erase a) h2 fun s hm => (List.mem_erase_of_ne (fun (e : s = a) => h1 (by rw [← e]; exact hm))).2 (hs s (by simp [hm]))
    rw [List.length_erase_of_mem ha] at this
    have := List.length_pos_of_mem ha
    simp only [List.length_cons]; omega
theorem Handled.mono {p : Pg} {m : Int} {S S' : List MSt} {E E' : List Outc} {s : MSt} {t k : Nat} (h : Handled p m S E s t k) (hS : ∀ x ∈ S, x ∈ S') (hE : ∀ x ∈ E, x ∈ E') : Handled p m S' E' s t k := by
  unfold Handled at h ⊢
  split at h
  · rename_i hf; rw [if_pos hf]; exact hE _ h
  · rename_i hf; rw [if_neg hf]; exact hS _ h
theorem Expanded.mono {p : Pg} {m : Int} {S S' : List MSt} {E E' : List Outc} {s : MSt} (h : Expanded p m S E s) (hS : ∀ x ∈ S, x ∈ S') (hE : ∀ x ∈ E, x ∈ E') : Expanded p m S' E' s :=
  ⟨fun e => hE _ (h.done e), fun e e2 => hE _ (h.stuck e e2), fun t k ht hk => (h.moves t k ht hk).mono hS hE⟩
theorem Inv.states {p : Pg} {m : Int} {S : List MSt} {E : List Outc} {i : Nat} (h : Inv p m S E false i) (hi : S.length ≤ i) : ∀ s, s ∈ S ↔ Reach p m s := by
  intro s
  refine ⟨h.reach s, fun hs => ?_⟩
  induction hs with
  | start => exact h.start
  | @step s t k hr ht hk hf ih =>
    obtain ⟨j, hj⟩ := List.getElem?_of_mem ih
    obtain ⟨hlt, e⟩ := List.getElem?_eq_some_iff.1 hj
    have h9 := h.done rfl j (by omega)
    rw [nth_lt _ _ hlt, e] at h9
    have := h9.moves _ _ ht hk
    unfold Handled at this
    rw [if_neg (by rw [hf]; decide)] at this
    exact this
theorem Inv.big {p : Pg} {m : Int} {S : List MSt} {E : List Outc} {full : Bool} {i : Nat} (h : Inv p m S E full i) (hi : full = true ∨ S.length ≤ i) : full = true ↔ Big p m := by
  constructor
  · intro hf
    have := h.hfull
    rw [hf] at this
    exact ⟨S, h.nd, h.reach, of_decide_eq_true this.symm⟩
  · rintro ⟨T, h1, h2, h3⟩
    cases hf : full with
    | true => rfl
    | false =>
      rw [hf] at hi h
      have h4 := nodup_sub h1 fun s hs => (h.states (hi.resolve_left Bool.false_ne_true) s).2 (h2 s hs)
      have := h.hfull
      have := of_decide_eq_false this.symm
      omega
/-- At the end all is there. -/
theorem Inv.all {p : Pg} {m : Int} {S : List MSt} {E : List Outc} {i : Nat} (h : Inv p m S E false i) (hi : S.length ≤ i) : ∀ o, o ∈ E ↔ Outs p m o := by
  have hex : ∀ s ∈ S, Expanded p m S E s := by
    intro s hs
    obtain ⟨j, hj⟩ := List.getElem?_of_mem hs
    obtain ⟨hlt, e⟩ := List.getElem?_eq_some_iff.1 hj
    have := h.done rfl j (by omega)
    rwa [nth_lt _ _ hlt, e] at this
  have hall : ∀ s, Reach p m s → s ∈ S := by
    intro s hs
    induction hs with
    | start => exact h.start
    | step hr ht hk hf ih =>
      have := (hex _ ih).moves _ _ ht hk
      unfold Handled at this
      rw [if_neg (by rw [hf]; decide)] at this
      exact this
  intro o
  refine ⟨h.sound o, fun ho => ?_⟩
  cases ho with
  | done hr he => exact (hex _ (hall _ hr)).done he
  | stuck hr he hst => exact (hex _ (hall _ hr)).stuck he hst
  | fell hr ht hk hf =>
    have := (hex _ (hall _ hr)).moves _ _ ht hk
    unfold Handled at this
    rwa [if_pos hf] at this
/-- A law for programs with the same outcomes. -/
theorem same_ends {E E' : List Outc} {p q : Pg} {m : Int} (h1 : Sorted_ E) (h2 : ∀ o, o ∈ E ↔ Outs p m o) (h3 : Sorted_ E') (h4 : ∀ o, o ∈ E' ↔ Outs q m o) (h : ∀ o, Outs p m o ↔ Outs q m o) : E = E' :=
  sorted_ext h1 h3 fun o => (h2 o).trans ((h o).trans (h4 o).symm)
end Go.Proofs.Ytmgikmjmdppfmaa
