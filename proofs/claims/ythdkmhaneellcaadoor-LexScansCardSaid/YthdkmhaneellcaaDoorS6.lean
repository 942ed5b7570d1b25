/-
  More resources: blocks that are read alone; several resources in one; what is lent to a call and comes back; append of noughts. It imports nothing of the dump.
-/
import Derived.Test.YthdkmhaneellcaaDoorS5
namespace Go.Proofs.YthdkmhaneellcaaDoor
open Go.RowKit
set_option linter.unusedSimpArgs false
set_option linter.unusedVariables false

/-- A block of cells that is read alone. -/
def Asn.rblk (g : Nat) (E : TypeId) (cs : List Value) : Asn where
  fp _ := False
  rd b := b = g
  ok w := Blk w g E cs.toArray
  keep w w' h hb := (hb g (.inr rfl)).trans h
  lt w h b hb := by rcases hb with hb | rfl; exact hb.elim; exact h.lt
/-- Resources that are read alone. -/
def Asn.ro (L : List Asn) : Asn where
  fp _ := False
  rd b := ∃ A ∈ L, A.fp b ∨ A.rd b
  ok w := ∀ A ∈ L, A.ok w
  keep w w' h hb A hA := A.keep w w' (h A hA) fun b hb' => hb b (.inr ⟨A, hA, hb'⟩)
  lt w h b hb := by rcases hb with hb | ⟨A, hA, hb⟩; exact hb.elim; exact A.lt w (h A hA) b hb
section
variable {P : Program} {N : Nat} {K : Nat → Prop} {W w : World} {a : Act} {F F' : List (Nat × Value)} {L L' B : List Asn} {o : Oper} {ops : Array Oper} {rest : List Oper} {Q : Exit → Act → World → Prop}

theorem Sh.rblk (h : Sh K W w L) (i : Nat) {g : Nat} {E : TypeId} {cs : List Value} (hi : L[i]? = some (.rblk g E cs)) : Blk w g E cs.toArray := h.ok _ (List.mem_of_getElem? hi)
/-- .. and comes back. -/
theorem Sh.back {w' : World} {A : Asn} (h : Sh K W w (A :: L)) (h' : Sh A.fp w w' L') (hrd : ∀ C ∈ L', ∀ b, C.rd b → (A.fp b ∨ A.rd b) ∨ (∃ D ∈ L, D.rd b) ∨ w.heap.size ≤ b) : Sh K W w' (L' ++ L) :=
  Sh.step (Lp := [A]) (Lr := L) (L' := L') h (h'.chg.mono fun b hb => ⟨A, by simp, hb⟩) h'.ok (fun C hC b hb => (h'.mine C hC b hb).imp (fun h => ⟨A, by simp, h⟩) (fun h => h))
    (fun C hC b hb => (hrd C hC b hb).imp (fun h => ⟨A, by simp, h⟩) (fun h => h)) h'.self h'.apart

theorem r_ldbR [Defs] {T : TypeId} {n by_ : Nat} {z : List Value} {x : Operand} {g q : Nat} {E : TypeId} {cs : List Value} {v : Value} (hT : tyI P T = some (false, n, by_, z)) (ho : o.op = .load T x) (hx : ev F x = some (.pointer (some ⟨g, q, none⟩)))
    (hB : ∀ w, Sh K W w L → Blk w g E cs.toArray) (hv : cs[q]? = some v) : Rn P o N K W F L v := fun a w h => by
  have hc : w.cell? ⟨g, q, none⟩ = some v := by rw [(hB w h.sh).cell q]; simpa using hv
  unfold execOp; simp only [ho, h.fr.ev hx, Sem.run_bind, run_load1 hT hc, Result.andThen_ok, Sem.run_pure]
theorem x_rettc {fn : Func} {t T g i n by_ u : Nat} {E : TypeId} {z cs : List Value} {v' : Value} {R : Value → World → Prop} (hT : tyI P T = some (true, n, by_, z)) (hs : fn.results = #[.tmp u, .cell t T]) (h : @St noDefs N K W a w F L) (ht : lk F t = some (.pointer (some ⟨g, 0, none⟩)))
    (hu : lk F u = some v') (hi : L[i]? = some (.blk g E cs)) (hn : cs.length = n) (hR : R (.tuple #[v', .agg cs.toArray]) w) : bodyPost P fn (fun e w' => ∃ v, e = .returned v ∧ R v w') .ret a w := by
  obtain ⟨ti, d, zv, hti, hd, hg, hsz, _⟩ := tyI_parts hT
  refine ⟨h.fr.defers, .tuple #[v', .agg cs.toArray], ?_, _, rfl, hR⟩
  have hld := run_loadVar_row (P := P) w g E T cs.toArray (0, 0) d (h.sh.blk i hi) hd (by cases d <;> simp_all [aggD]) (by rw [hti]; simp [hsz, hn])
  have h1 : a.tmps[t]?.getD undef = .pointer (some ⟨g, 0, none⟩) := by rw [h.fr.at_ t _ ht]; rfl
  have h2 : a.tmps[u]?.getD undef = v' := by rw [h.fr.at_ u _ hu]; rfl
  simp [results, hs, asAddr, h1, hld, h2]

/-! ### append(s, make([]T, n)...) -/
end
end Go.Proofs.YthdkmhaneellcaaDoor
