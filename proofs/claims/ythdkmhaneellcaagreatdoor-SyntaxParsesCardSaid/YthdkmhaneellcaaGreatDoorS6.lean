/-
  More resources: blocks that are read alone; several resources in one; what is lent to a call and comes back; append of noughts. It imports nothing of the dump.
-/
import Derived.Test.YthdkmhaneellcaaGreatDoorS5
namespace Go.Proofs.YthdkmhaneellcaaGreatDoor
open Go.RowKit
set_option linter.unusedSimpArgs false
set_option linter.unusedVariables false

/-- A block of cells that is read alone. -/
def Asn.rblk (g : Nat) (E : TypeId) (cs : List Value) : Asn where
  fp _ := False
  rd b := b = g
  ok w := Blk w g E cs.toArray
  keep w w' h hb := (hb g (.inr rfl)).trans h
  lt w h b hb := by rcases hb with hb | rfl; exact hb.elim; exact h.lt
/-- Resources that are read alone. -/
def Asn.ro (L : List Asn) : Asn where
  fp _ := False
  rd b := ∃ A ∈ L, A.fp b ∨ A.rd b
  ok w := ∀ A ∈ L, A.ok w
  keep w w' h hb A hA := A.keep w w' (h A hA) fun b hb' => hb b (.inr ⟨A, hA, hb'⟩)
  lt w h b hb := by rcases hb with hb | ⟨A, hA, hb⟩; exact hb.elim; exact A.lt w (h A hA) b hb
/-- Several resources in one. -/
def Asn.big (L : List Asn) : Asn where
  fp b := ∃ A ∈ L, A.fp b
  rd b := ∃ A ∈ L, A.rd b
  ok w := (∀ A ∈ L, A.ok w) ∧ L.Pairwise Asn.Apart ∧ ∀ A ∈ L, ∀ b, A.fp b → ¬ A.rd b
  keep w w' h hb := ⟨fun A hA => A.keep w w' (h.1 A hA) fun b hb' => hb b (hb'.imp (fun h => ⟨A, hA, h⟩) (fun h => ⟨A, hA, h⟩)), h.2⟩
  lt w h b hb := by rcases hb with ⟨A, hA, hb⟩ | ⟨A, hA, hb⟩; exact A.lt w (h.1 A hA) b (.inl hb); exact A.lt w (h.1 A hA) b (.inr hb)

section
variable {P : Program} {N : Nat} {K : Nat → Prop} {W w : World} {a : Act} {F F' : List (Nat × Value)} {L L' B : List Asn} {o : Oper} {ops : Array Oper} {rest : List Oper} {Q : Exit → Act → World → Prop}

theorem Sh.rblk (h : Sh K W w L) (i : Nat) {g : Nat} {E : TypeId} {cs : List Value} (hi : L[i]? = some (.rblk g E cs)) : Blk w g E cs.toArray := h.ok _ (List.mem_of_getElem? hi)
theorem Sh.close_ (h : Sh K W w (B ++ L)) (hbr : ∀ A ∈ B, ∀ C ∈ B, ∀ b, A.fp b → ¬ C.rd b := by intros; assumption) : Sh K W w (.big B :: L) := by
  have hp := List.pairwise_append.1 h.apart
  refine ⟨h.chg, ?_, ?_, ?_, List.pairwise_cons.2 ⟨fun C hC b => ?_, hp.2.1⟩⟩
  · intro A hA
    rcases List.mem_cons.1 hA with rfl | hA
    · exact ⟨fun A hA => h.ok A (by simp [hA]), hp.1, fun A hA => h.self A (by simp [hA])⟩
    · exact h.ok A (by simp [hA])
  · intro A hA b hb
    rcases List.mem_cons.1 hA with rfl | hA
    · obtain ⟨A, hA, hb⟩ := hb
      exact h.mine A (by simp [hA]) b hb
    · exact h.mine A (by simp [hA]) b hb
  · intro A hA b hb hr
    rcases List.mem_cons.1 hA with rfl | hA
    · obtain ⟨A, hA, hb⟩ := hb
      obtain ⟨C, hC, hr⟩ := hr
      exact hbr A hA C hC b hb hr
    · exact h.self A (by simp [hA]) b hb hr
  · refine ⟨?_, ?_⟩
    · rintro ⟨A, hA, hb⟩
      exact (hp.2.2 A hA C hC b).1 hb
    · rintro hb ⟨A, hA, hr⟩
      exact (hp.2.2 A hA C hC b).2 hb hr
/-- Within resources that stand apart none is read that is written. -/
theorem Sh.apartRd (h : Sh K W w L) : ∀ A ∈ L, ∀ C ∈ L, ∀ b, A.fp b → ¬ C.rd b := by
  intro A hA C hC b hb hr
  rcases apart_of_mem h.apart hA hC with rfl | hac
  · exact h.self _ hA b hb hr
  · exact ((hac b).1 hb).2 hr
theorem Sh.close (h : Sh K W w (B ++ L)) : Sh K W w (.big B :: L) := h.close_ fun A hA C hC => h.apartRd A (by simp [hA]) C (by simp [hC])

/-- .. and comes back. -/
theorem Sh.back {w' : World} {A : Asn} (h : Sh K W w (A :: L)) (h' : Sh A.fp w w' L') (hrd : ∀ C ∈ L', ∀ b, C.rd b → (A.fp b ∨ A.rd b) ∨ (∃ D ∈ L, D.rd b) ∨ w.heap.size ≤ b) : Sh K W w' (L' ++ L) :=
  Sh.step (Lp := [A]) (Lr := L) (L' := L') h (h'.chg.mono fun b hb => ⟨A, by simp, hb⟩) h'.ok (fun C hC b hb => (h'.mine C hC b hb).imp (fun h => ⟨A, by simp, h⟩) (fun h => h))
    (fun C hC b hb => (hrd C hC b hb).imp (fun h => ⟨A, by simp, h⟩) (fun h => h)) h'.self h'.apart

theorem r_ldbR [Defs] {T : TypeId} {n by_ : Nat} {z : List Value} {x : Operand} {g q : Nat} {E : TypeId} {cs : List Value} {v : Value} (hT : tyI P T = some (false, n, by_, z)) (ho : o.op = .load T x) (hx : ev F x = some (.pointer (some ⟨g, q, none⟩)))
    (hB : ∀ w, Sh K W w L → Blk w g E cs.toArray) (hv : cs[q]? = some v) : Rn P o N K W F L v := fun a w h => by
  have hc : w.cell? ⟨g, q, none⟩ = some v := by rw [(hB w h.sh).cell q]; simpa using hv
  unfold execOp; simp only [ho, h.fr.ev hx, Sem.run_bind, run_load1 hT hc, Result.andThen_ok, Sem.run_pure]
theorem x_rettc {fn : Func} {t T g i n by_ u : Nat} {E : TypeId} {z cs : List Value} {v' : Value} {R : Value → World → Prop} (hT : tyI P T = some (true, n, by_, z)) (hs : fn.results = #[.tmp u, .cell t T]) (h : @St noDefs N K W a w F L) (ht : lk F t = some (.pointer (some ⟨g, 0, none⟩)))
    (hu : lk F u = some v') (hi : L[i]? = some (.blk g E cs)) (hn : cs.length = n) (hR : R (.tuple #[v', .agg cs.toArray]) w) : bodyPost P fn (fun e w' => ∃ v, e = .returned v ∧ R v w') .ret a w := by
  obtain ⟨ti, d, zv, hti, hd, hg, hsz, _⟩ := tyI_parts hT
  refine ⟨h.fr.defers, .tuple #[v', .agg cs.toArray], ?_, _, rfl, hR⟩
  have hld := run_loadVar_row (P := P) w g E T cs.toArray (0, 0) d (h.sh.blk i hi) hd (by cases d <;> simp_all [aggD]) (by rw [hti]; simp [hsz, hn])
  have h1 : a.tmps[t]?.getD undef = .pointer (some ⟨g, 0, none⟩) := by rw [h.fr.at_ t _ ht]; rfl
  have h2 : a.tmps[u]?.getD undef = v' := by rw [h.fr.at_ u _ hu]; rfl
  simp [results, hs, asAddr, h1, hld, h2]

/-! ### append(s, make([]T, n)...) -/
end
end Go.Proofs.YthdkmhaneellcaaGreatDoor
