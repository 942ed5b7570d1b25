/-
  From what a parameter reads as (the rows' own words) to a reader of this claim's base.
-/
import Derived.Test.YtmgikmjmdppfmaaBase
import Derived.ProofKit
import Derived.OpenShut
import Derived.Deep.Slices
import Derived.Carry
namespace Go.Proofs.Ytmgikmjmdppfmaa
open Go.ChangeShapes Go.WideShapes Go.ChangeAt Go.RowKit
open Go.Deep (open_slice)
set_option linter.unusedSimpArgs false
set_option linter.unusedVariables false

class Rd (α : Type) extends Enc α where
  ty : Program → TypeId → Prop
  fine : α → Prop
  read : ∀ {H : Type} {enc : TypeId × Value → H} {P : Program} {w : World} {base : Nat} {spare : Nat → Bool} {held : Bool} {fuel : Nat} {T : TypeId} {cs : List Value} {x : DataW H × List MemPlace},
    ty P T → DataW.trod enc P w base spare held fuel T cs = some x → (∀ n ∈ DataW.weights P T x.1, n ≤ reachBytes) → ∃ a : α, cs = cellsOf a ∧ Enc.inner a w ∧ fine a

instance : Rd Int where
  ty P T := P.underlying T = some (.int .i64)
  fine n := (Lit.int .i64 n).wf = true
  read hT h _ := by
    obtain ⟨n, rfl, _, hw⟩ := DataW.trod_int hT h
    exact ⟨n, rfl, trivial, hw⟩
instance : Rd Bool where
  ty P T := P.underlying T = some .bool
  fine _ := True
  read hT h _ := by
    obtain ⟨b, rfl, _⟩ := DataW.trod_bool hT h
    exact ⟨b, rfl, trivial, trivial⟩

/-- A struct of n integers. -/
def intFields (P : Program) (fs : Array Field) (n : Nat) : Prop := fs.size = n ∧ ∀ (j : Nat) (f : Field), fs[j]? = some f → f.offset = j ∧ P.underlying f.type = some (.int .i64) ∧ P.cellsOf f.type = 1

theorem read_ints {H : Type} {enc : TypeId × Value → H} {P : Program} {w : World} {base : Nat} {spare : Nat → Bool} {held : Bool} {fuel : Nat} {T : TypeId} {cs : List Value} {x : DataW H × List MemPlace} {fs : Array Field} {n : Nat}
    (hT : P.underlying T = some (.struct fs)) (hfs : intFields P fs n) (hC : P.cellsOf T = n) (h : DataW.trod enc P w base spare held fuel T cs = some x) :
    cs.length = n ∧ ∀ j, j < n → ∃ k : Int, cs[j]? = some (.int .i64 k) ∧ (Lit.int .i64 k).wf = true := by
  obtain ⟨xs, m, _, _, hlen, hxl, hf⟩ := DataW.trod_struct hT h
  refine ⟨hlen.trans hC, fun j hj => ?_⟩
  obtain ⟨hs, hall⟩ := hfs
  have hjs : j < fs.size := by omega
  obtain ⟨ho, ht, hc⟩ := hall j fs[j] (by simp [hjs])
  have h1 := hf j fs[j] (by simp [hjs])
  rw [ho, hc, List.getElem?_eq_getElem (by omega)] at h1
  obtain ⟨k, hk, _, hw⟩ := DataW.trod_int ht h1
  refine ⟨k, ?_, hw⟩
  rw [List.drop_eq_getElem_cons (by omega)] at hk
  simp only [List.take_succ_cons, List.take_zero, List.cons.injEq, and_true] at hk
  rw [List.getElem?_eq_getElem (by omega), hk]

instance : Rd Ins where
  ty P T := ∃ fs, P.underlying T = some (.struct fs) ∧ intFields P fs 4 ∧ P.cellsOf T = 4
  fine x := (Lit.int .i64 x.op).wf = true ∧ (Lit.int .i64 x.a).wf = true ∧ (Lit.int .i64 x.b).wf = true ∧ (Lit.int .i64 x.c).wf = true
  read := by
    rintro H enc P w base spare held fuel T cs x ⟨fs, hT, hfs, hC⟩ h _
    obtain ⟨hl, hj⟩ := read_ints hT hfs hC h
    obtain ⟨k0, e0, w0⟩ := hj 0 (by omega)
    obtain ⟨k1, e1, w1⟩ := hj 1 (by omega)
    obtain ⟨k2, e2, w2⟩ := hj 2 (by omega)
    obtain ⟨k3, e3, w3⟩ := hj 3 (by omega)
    match cs, hl with
    | [c0, c1, c2, c3], _ =>
      simp only [List.getElem?_cons_zero, List.getElem?_cons_succ, Option.some.injEq] at e0 e1 e2 e3
      subst e0 e1 e2 e3
      exact ⟨⟨k0, k1, k2, k3⟩, rfl, trivial, w0, w1, w2, w3⟩

theorem weights_slice {H : Type} {P : Program} {T e : TypeId} {elems spare : List (DataW H)} (hT : P.underlying T = some (.slice e)) (h : ∀ n ∈ DataW.weights P T (.slice elems spare), n ≤ reachBytes) :
    (elems.length + spare.length) * P.bytesOf e ≤ reachBytes ∧ ∀ d ∈ elems, ∀ n ∈ DataW.weights P e d, n ≤ reachBytes := by
  unfold DataW.weights at h
  rw [hT] at h
  refine ⟨h _ (by simp), fun d hd n hn => h n ?_⟩
  have : ∀ l : List (DataW H), d ∈ l → n ∈ DataW.weightsAll P e l := by
    intro l hl
    induction l with
    | nil => cases hl
    | cons y l ih =>
      unfold DataW.weightsAll
      rcases List.mem_cons.1 hl with rfl | hl
      · exact List.mem_append.2 (.inl hn)
      · exact List.mem_append.2 (.inr (ih hl))
  simp only [List.mem_cons, List.mem_append]
  exact .inr (.inl (this _ hd))

instance {α : Type} [Rd α] : Rd (Sl α) where
  ty P T := ∃ e, P.underlying T = some (.slice e) ∧ P.cellsOf e = Enc.sz α ∧ 1 ≤ P.bytesOf e ∧ 0 < Enc.sz α ∧ Rd.ty α P e
  fine s := ∀ i, i < s.l.length → Rd.fine (nth s.l i)
  read := by
    rintro H enc P w base spare held fuel T cs x ⟨e, hT, hC, hB, hpos, hty⟩ h hw
    rcases open_slice hT h with ⟨rfl, rfl⟩ | ⟨a, len, cap, m, n, D, Pl, rfl, _, hl, hm, hmm, rfl, hi⟩
    · refine ⟨⟨none, 0, []⟩, rfl, ⟨Nat.le_refl _, by simp, by simp, fun hh => absurd hh (by simp), fun hh => absurd hh (by simp), fun i j hi => absurd hi (by simp), fun i hi => absurd hi (by simp)⟩, fun i hi => absurd hi (by simp)⟩
    · obtain ⟨hb, hd⟩ := weights_slice hT hw
      have hlm : len ≤ m := by rw [hmm]; split <;> omega
      have hlen : len ≤ 140737488355328 := by
        simp only [List.length_map, List.length_range, reachBytes] at hb
        have : (len + (m - len)) * 1 ≤ (len + (m - len)) * P.bytesOf e := Nat.mul_le_mul_left _ hB
        omega
      have key : ∀ i, i < len → ∃ y : α, (∀ j, j < Enc.sz α → w.cell? ((a.add (i * Enc.sz α)).add j) = some (Enc.cell y j)) ∧ Enc.inner y w ∧ Rd.fine y := by
        intro i hil
        obtain ⟨cs', hc', ht'⟩ := hi i (by omega)
        obtain ⟨y, hy, hin, hf⟩ := Rd.read hty ht' (hd _ (List.mem_map.2 ⟨i, by simpa using hil, rfl⟩))
        obtain ⟨_, hcl, hat⟩ := World.cells?_some hc'
        rw [hC] at hc' hat hcl
        refine ⟨y, fun j hj => ?_, hin, hf⟩
        rw [hat j (by first | exact hj | omega)]
        subst hy
        simp [cellsOf, hj]
      obtain ⟨F, hF⟩ := Go.Deep.choose_lt key
      let l := (List.range len).map F
      have hll : l.length = len := by simp [l]
      have hn : ∀ i, i < len → nth l i = F i := by intro i hil; simp [nth, l, hil]
      have hcell0 : 0 < len → ∃ v, w.cell? a = some v := fun h0 => ⟨_, by
        have h1 := (hF 0 h0).1 0 hpos
        rw [Nat.zero_mul, Addr.add_zero', Addr.add_zero'] at h1
        exact h1⟩
      have hspot : 0 < len → a.spot = none := by
        intro h0
        obtain ⟨v, hv⟩ := hcell0 h0
        unfold World.cell? at hv
        split at hv
        · split at hv
          · cases hv
          · rename_i hs
            simpa using hs
        · cases hv
      refine ⟨⟨some a, cap, l⟩, by simp [cellsOf, Enc.cell, Enc.sz, hll], ⟨by rw [hll]; exact hl, hm, by rw [hll]; exact hlen, ?_, ?_, ?_, ?_⟩, ?_⟩
      · intro h0
        exact ⟨a, rfl, hspot (by rw [← hll]; exact h0)⟩
      · intro h0
        obtain ⟨v, hv⟩ := hcell0 (by rw [← hll]; exact h0)
        exact World.block_lt_of_cell? w a hv
      · intro i j hi' hj
        rw [hll] at hi'
        show w.cell? ⟨a.block, a.off + i * Enc.sz α + j, none⟩ = some (Enc.cell (nth l i) j)
        rw [hn i hi', ← (hF i hi').1 j hj]
        have hs := hspot (by omega)
        rcases a with ⟨b, o, sp⟩
        simp only at hs
        subst hs
        rw [Addr.add_lit, Addr.add_lit]
      · intro i hi'
        rw [hll] at hi'
        rw [hn i hi']
        exact (hF i hi').2.1
      · intro i hi'
        rw [hll] at hi'
        rw [hn i hi']
        exact (hF i hi').2.2

/-- The fields of a program. -/
def prFields (P : Program) (fs : Array Field) : Prop :=
  ∃ f0 f1 f2 f3 : Field, fs = #[f0, f1, f2, f3] ∧ (f0.offset = 0 ∧ P.cellsOf f0.type = 1 ∧ Rd.ty (Sl (Sl Ins)) P f0.type) ∧ (f1.offset = 1 ∧ P.cellsOf f1.type = 1 ∧ Rd.ty (Sl Int) P f1.type) ∧
    (f2.offset = 2 ∧ P.cellsOf f2.type = 1 ∧ Rd.ty Int P f2.type) ∧ (f3.offset = 3 ∧ P.cellsOf f3.type = 1 ∧ Rd.ty Int P f3.type)
def PR.fine (p : PR) : Prop := Rd.fine p.code ∧ Rd.fine p.words ∧ (Lit.int .i64 p.locks).wf = true ∧ (Lit.int .i64 p.regs).wf = true

theorem weights_agg {H : Type} {P : Program} {T : TypeId} {f0 f1 f2 f3 : Field} {d0 d1 d2 d3 : DataW H} (hT : P.underlying T = some (.struct #[f0, f1, f2, f3])) (h : ∀ n ∈ DataW.weights P T (.agg [d0, d1, d2, d3]), n ≤ reachBytes) :
    (∀ n ∈ DataW.weights P f0.type d0, n ≤ reachBytes) ∧ (∀ n ∈ DataW.weights P f1.type d1, n ≤ reachBytes) ∧ (∀ n ∈ DataW.weights P f2.type d2, n ≤ reachBytes) ∧ (∀ n ∈ DataW.weights P f3.type d3, n ≤ reachBytes) := by
  unfold DataW.weights at h
  rw [hT] at h
  simp only [List.map_cons, List.map_nil, DataW.weightsEach, List.append_nil, List.mem_append] at h
  exact ⟨fun n hn => h n (.inl hn), fun n hn => h n (.inr (.inl hn)), fun n hn => h n (.inr (.inr (.inl hn))), fun n hn => h n (.inr (.inr (.inr hn)))⟩

/-- A PARAMETER THAT IS A PROGRAM. -/
theorem open_PR {H : Type} {enc : TypeId × Value → H} {P : Program} {w : World} {base : Nat} {spare : Nat → Bool} {held : Bool} {r : Go.Reach} {b0 : Nat} {T : TypeId} {fs : Array Field} {v : Value} {d : DataW H} {p : List MemPlace}
    (hT : P.underlying T = some (.struct fs)) (hfs : prFields P fs) (hC : P.cellsOf T = 4) (hv : Value.okWide P w r b0 T v) (h : DataW.Trod enc P w base spare held T v d p) (hw : ∀ n ∈ DataW.weights P T d, n ≤ reachBytes) :
    ∃ q : PR, v = q.val ∧ q.At w ∧ q.fine := by
  obtain ⟨f0, f1, f2, f3, rfl, ⟨o0, c0, t0⟩, ⟨o1, c1, t1⟩, ⟨o2, c2, t2⟩, ⟨o3, c3, t3⟩⟩ := hfs
  obtain ⟨cs, rfl, hsz⟩ := okWide_struct hT hv
  obtain ⟨l⟩ := cs
  match l, hsz.trans hC with
  | [v0, v1, v2, v3], _ =>
    obtain ⟨fuel, hf⟩ := h
    obtain ⟨xs, n, _, hx, _, hlen, hg⟩ := DataW.trod_struct hT hf
    match xs, hlen with
    | [y0, y1, y2, y3], _ =>
      simp only [Prod.mk.injEq, List.map_cons, List.map_nil] at hx
      rw [hx.1] at hw
      obtain ⟨w0, w1, w2, w3⟩ := weights_agg hT hw
      have g0 := hg 0 f0 rfl
      have g1 := hg 1 f1 rfl
      have g2 := hg 2 f2 rfl
      have g3 := hg 3 f3 rfl
      rw [o0, c0] at g0
      rw [o1, c1] at g1
      rw [o2, c2] at g2
      rw [o3, c3] at g3
      simp [Value.cells] at g0 g1 g2 g3
      obtain ⟨s0, e0, i0, k0⟩ := Rd.read t0 g0 w0
      obtain ⟨s1, e1, i1, k1⟩ := Rd.read t1 g1 w1
      obtain ⟨s2, e2, i2, k2⟩ := Rd.read t2 g2 w2
      obtain ⟨s3, e3, i3, k3⟩ := Rd.read t3 g3 w3
      simp [cellsOf, Enc.cell, Enc.sz] at e0 e1 e2 e3
      subst e0 e1 e2 e3
      exact ⟨⟨s0, s1, s2, s3⟩, rfl, ⟨i0, i1⟩, k0, k1, k2, k3⟩
end Go.Proofs.Ytmgikmjmdppfmaa
