/-
  Data of the document's machine: what waits, threads, as rows. It imports nothing of the dump.
-/
import Derived.Test.YtmgikmjmdppfmaaS5
import Derived.Test.YtmgikmjmdppfmaaMach
import Derived.Test.YtmgikmjmdppfmaaC1
section
namespace Go.Proofs.Ytmgikmjmdppfmaa
open Go.RowKit
set_option linter.unusedSimpArgs false
set_option linter.unusedVariables false

/-- A block of cells that is read alone. -/
def Asn.rblk (g : Nat) (E : TypeId) (cs : List Value) : Asn where
  fp _ := False
  rd b := b = g
  ok w := Blk w g E cs.toArray
  keep w w' h hb := (hb g (.inr rfl)).trans h
  lt w h b hb := by rcases hb with hb | rfl; exact hb.elim; exact h.lt
/-- Resources that are read alone. -/
def Asn.ro (L : List Asn) : Asn where
  fp _ := False
  rd b := ∃ A ∈ L, A.fp b ∨ A.rd b
  ok w := ∀ A ∈ L, A.ok w
  keep w w' h hb A hA := A.keep w w' (h A hA) fun b hb' => hb b (.inr ⟨A, hA, hb'⟩)
  lt w h b hb := by rcases hb with hb | ⟨A, hA, hb⟩; exact hb.elim; exact A.lt w (h A hA) b hb
/-- Several resources in one. -/
def Asn.big (L : List Asn) : Asn where
  fp b := ∃ A ∈ L, A.fp b
  rd b := ∃ A ∈ L, A.rd b
  ok w := (∀ A ∈ L, A.ok w) ∧ L.Pairwise Asn.Apart ∧ ∀ A ∈ L, ∀ b, A.fp b → ¬ A.rd b
  keep w w' h hb := ⟨fun A hA => A.keep w w' (h.1 A hA) fun b hb' => hb b (hb'.imp (fun h => ⟨A, hA, h⟩) (fun h => ⟨A, hA, h⟩)), h.2⟩
  lt w h b hb := by rcases hb with ⟨A, hA, hb⟩ | ⟨A, hA, hb⟩; exact A.lt w (h.1 A hA) b (.inl hb); exact A.lt w (h.1 A hA) b (.inr hb)

section
variable {P : Program} {N : Nat} {K : Nat → Prop} {W w : World} {a : Act} {F F' : List (Nat × Value)} {L L' B : List Asn} {o : Oper} {ops : Array Oper} {rest : List Oper} {Q : Exit → Act → World → Prop}

theorem Sh.rblk (h : Sh K W w L) (i : Nat) {g : Nat} {E : TypeId} {cs : List Value} (hi : L[i]? = some (.rblk g E cs)) : Blk w g E cs.toArray := h.ok _ (List.mem_of_getElem? hi)
theorem Sh.open_ (h : Sh K W w (.big B :: L)) : Sh K W w (B ++ L) := by
  obtain ⟨h1, h2, h3⟩ := h.ok (.big B) (by simp)
  have hp := List.pairwise_cons.1 h.apart
  refine ⟨h.chg, ?_, ?_, ?_, List.pairwise_append.2 ⟨h2, hp.2, fun A hA C hC b => ?_⟩⟩
  · intro A hA
    rcases List.mem_append.1 hA with hA | hA
    · exact h1 A hA
    · exact h.ok A (by simp [hA])
  · intro A hA b hb
    rcases List.mem_append.1 hA with hA | hA
    · exact h.mine (.big B) (by simp) b ⟨A, hA, hb⟩
    · exact h.mine A (by simp [hA]) b hb
  · intro A hA
    rcases List.mem_append.1 hA with hA | hA
    · exact h3 A hA
    · exact h.self A (by simp [hA])
  · have := hp.1 C hC b
    exact ⟨fun hb => this.1 ⟨A, hA, hb⟩, fun hb hr => this.2 hb ⟨A, hA, hr⟩⟩
theorem Sh.close_ (h : Sh K W w (B ++ L)) (hbr : ∀ A ∈ B, ∀ C ∈ B, ∀ b, A.fp b → ¬ C.rd b := by intros; assumption) : Sh K W w (.big B :: L) := by
  have hp := List.pairwise_append.1 h.apart
  refine ⟨h.chg, ?_, ?_, ?_, List.pairwise_cons.2 ⟨fun C hC b => ?_, hp.2.1⟩⟩
  · intro A hA
    rcases List.mem_cons.1 hA with rfl | hA
    · exact ⟨fun A hA => h.ok A (by simp [hA]), hp.1, fun A hA => h.self A (by simp [hA])⟩
    · exact h.ok A (by simp [hA])
  · intro A hA b hb
    rcases List.mem_cons.1 hA with rfl | hA
    · obtain ⟨A, hA, hb⟩ := hb
      exact h.mine A (by simp [hA]) b hb
    · exact h.mine A (by simp [hA]) b hb
  · intro A hA b hb hr
    rcases List.mem_cons.1 hA with rfl | hA
    · obtain ⟨A, hA, hb⟩ := hb
      obtain ⟨C, hC, hr⟩ := hr
      exact hbr A hA C hC b hb hr
    · exact h.self A (by simp [hA]) b hb hr
  · refine ⟨?_, ?_⟩
    · rintro ⟨A, hA, hb⟩
      exact (hp.2.2 A hA C hC b).1 hb
    · rintro hb ⟨A, hA, hr⟩
      exact (hp.2.2 A hA C hC b).2 hb hr
/-- Within resources that stand apart none is read that is written. -/
theorem Sh.apartRd (h : Sh K W w L) : ∀ A ∈ L, ∀ C ∈ L, ∀ b, A.fp b → ¬ C.rd b := by
  intro A hA C hC b hb hr
  rcases apart_of_mem h.apart hA hC with rfl | hac
  · exact h.self _ hA b hb hr
  · exact ((hac b).1 hb).2 hr
theorem Sh.close (h : Sh K W w (B ++ L)) : Sh K W w (.big B :: L) := h.close_ fun A hA C hC => h.apartRd A (by simp [hA]) C (by simp [hC])

/-- What is lent to a call. -/
theorem Sh.pass (h : Sh K W w L) (i : Nat) {A : Asn} (hi : L[i]? = some A) : Sh A.fp w w [A] :=
  ⟨Chg.refl _ _, by simpa using h.ok A (List.mem_of_getElem? hi), by simpa using fun b hb => .inl hb, by simpa using h.self A (List.mem_of_getElem? hi), List.pairwise_singleton _ _⟩
/-- .. and comes back. -/
theorem Sh.back {w' : World} {A : Asn} (h : Sh K W w (A :: L)) (h' : Sh A.fp w w' L') (hrd : ∀ C ∈ L', ∀ b, C.rd b → (A.fp b ∨ A.rd b) ∨ (∃ D ∈ L, D.rd b) ∨ w.heap.size ≤ b) : Sh K W w' (L' ++ L) :=
  Sh.step (Lp := [A]) (Lr := L) (L' := L') h (h'.chg.mono fun b hb => ⟨A, by simp, hb⟩) h'.ok (fun C hC b hb => (h'.mine C hC b hb).imp (fun h => ⟨A, by simp, h⟩) (fun h => h))
    (fun C hC b hb => (hrd C hC b hb).imp (fun h => ⟨A, by simp, h⟩) (fun h => h)) h'.self h'.apart

theorem r_ldbR {T : TypeId} {n by_ : Nat} {z : List Value} {x : Operand} {g q : Nat} {E : TypeId} {cs : List Value} {v : Value} (hT : tyI P T = some (false, n, by_, z)) (ho : o.op = .load T x) (hx : ev F x = some (.pointer (some ⟨g, q, none⟩)))
    (hB : ∀ w, Sh K W w L → Blk w g E cs.toArray) (hv : cs[q]? = some v) : Rn P o N K W F L v := fun a w h => by
  have hc : w.cell? ⟨g, q, none⟩ = some v := by rw [(hB w h.sh).cell q]; simpa using hv
  unfold execOp; simp only [ho, h.fr.ev hx, Sem.run_bind, run_load1 hT hc, Result.andThen_ok, Sem.run_pure]
theorem x_retct {fn : Func} {t T g i n by_ u : Nat} {E : TypeId} {z cs : List Value} {v' : Value} {R : Value → World → Prop} (hT : tyI P T = some (true, n, by_, z)) (hs : fn.results = #[.cell t T, .tmp u]) (h : St N K W a w F L) (ht : lk F t = some (.pointer (some ⟨g, 0, none⟩)))
    (hu : lk F u = some v') (hi : L[i]? = some (.blk g E cs)) (hn : cs.length = n) (hR : R (.tuple #[.agg cs.toArray, v']) w) : bodyPost P fn (fun e w' => ∃ v, e = .returned v ∧ R v w') .ret a w := by
  obtain ⟨ti, d, zv, hti, hd, hg, hsz, _⟩ := tyI_parts hT
  refine ⟨h.fr.defers, .tuple #[.agg cs.toArray, v'], ?_, _, rfl, hR⟩
  have hld := run_loadVar_row (P := P) w g E T cs.toArray (0, 0) d (h.sh.blk i hi) hd (by cases d <;> simp_all [aggD]) (by rw [hti]; simp [hsz, hn])
  have h1 : a.tmps[t]?.getD undef = .pointer (some ⟨g, 0, none⟩) := by rw [h.fr.at_ t _ ht]; rfl
  have h2 : a.tmps[u]?.getD undef = v' := by rw [h.fr.at_ u _ hu]; rfl
  simp [results, hs, asAddr, h1, hld, h2]
/-! ### append(s, make([]T, n)...) -/
end
end Go.Proofs.Ytmgikmjmdppfmaa
end
namespace Go.Proofs.Ytmgikmjmdppfmaa
open Go.RowKit
set_option linter.unusedSimpArgs false
set_option linter.unusedVariables false

def Wt.cell (x : Wt) : Nat → Value
  | 0 => .bool x.lock
  | 1 => .int .i64 x.wh
  | _ => .int .i64 x.what
def Wt.val (x : Wt) : Value := .agg #[.bool x.lock, .int .i64 x.wh, .int .i64 x.what]
instance : Enc Wt where
  sz := 3
  cell := Wt.cell
  whole := Wt.val
  agg := true
  inner _ _ := True
  on _ _ := False
  one h := by cases h
  many _ _ := rfl
  keep _ _ _ h _ := h
  lt _ _ _ _ h := h.elim
instance : Flat Wt := ⟨fun _ _ h => h, fun _ _ => trivial⟩

/-- A thread's cells: where it stands, its two rows' values. -/
structure ThV where
  pc : Int
  rv : Value
  wv : Value
instance : Inhabited ThV := ⟨⟨0, .slice none 0 0, .slice none 0 0⟩⟩
def ThV.cell (x : ThV) : Nat → Value
  | 0 => .int .i64 x.pc
  | 1 => x.rv
  | _ => x.wv
def ThV.val (x : ThV) : Value := .agg #[.int .i64 x.pc, x.rv, x.wv]
instance : Enc ThV where
  sz := 3
  cell := ThV.cell
  whole := ThV.val
  agg := true
  inner _ _ := True
  on _ _ := False
  one h := by cases h
  many _ _ := rfl
  keep _ _ _ h _ := h
  lt _ _ _ _ h := h.elim
instance : Flat ThV := ⟨fun _ _ h => h, fun _ _ => trivial⟩

/-- A thread that is read. -/
structure ThL where
  pc : Int
  regs : Ls Int
  wait : Ls Wt
instance : Inhabited ThL := ⟨⟨0, default, default⟩⟩
def ThL.cell (x : ThL) : Nat → Value
  | 0 => .int .i64 x.pc
  | 1 => x.regs.v
  | _ => x.wait.v
def ThL.val (x : ThL) : Value := .agg #[.int .i64 x.pc, x.regs.v, x.wait.v]
instance : Enc ThL where
  sz := 3
  cell := ThL.cell
  whole := ThL.val
  agg := true
  inner x w := x.regs.At w ∧ x.wait.At w
  on x b := x.regs.on b ∨ x.wait.on b
  one h := by cases h
  many _ _ := rfl
  keep _ _ _ h hb := ⟨h.1.keep fun b hb' => hb b (.inl hb'), h.2.keep fun b hb' => hb b (.inr hb')⟩
  lt _ _ h _ hb := hb.elim (fun hb => h.1.lt hb) (fun hb => h.2.lt hb)
/-- What a row's threads are. -/
def ThL.th (x : ThL) : Th := ⟨x.pc, x.regs.l, x.wait.l⟩
/-- Resources lent to a call that turns them. -/
theorem Sh.passL {K : Nat → Prop} {W w : World} {Lp Lr : List Asn} (h : Sh K W w (Lp ++ Lr)) : Sh (fun b => ∃ A ∈ Lp, A.fp b) w w Lp :=
  ⟨Chg.refl _ _, fun A hA => h.ok A (List.mem_append.2 (.inl hA)), fun A hA b hb => .inl ⟨A, hA, hb⟩, fun A hA => h.self A (List.mem_append.2 (.inl hA)), (List.pairwise_append.1 h.apart).1⟩
/-- .. and what comes back of them. -/
theorem Sh.backL {K : Nat → Prop} {W w w' : World} {Lp Lr L' : List Asn} (h : Sh K W w (Lp ++ Lr)) (h' : Sh (fun b => ∃ A ∈ Lp, A.fp b) w w' L') (hrd : ∀ C ∈ L', ∀ b, C.rd b → (∃ B ∈ Lp, B.fp b ∨ B.rd b) ∨ (∃ B ∈ Lr, B.rd b) ∨ w.heap.size ≤ b) : Sh K W w' (L' ++ Lr) :=
  Sh.step h h'.chg h'.ok h'.mine hrd h'.self h'.apart
theorem Sh.backI {K : Nat → Prop} {W w w' : World} {Lp Lr L' : List Asn} [RdIn L' Lp] (h : Sh K W w (Lp ++ Lr)) (h' : Sh (fun b => ∃ A ∈ Lp, A.fp b) w w' L') : Sh K W w' (L' ++ Lr) := h.backL h' fun C hC b hb => .inl (RdIn.sub C hC b hb)
section
variable {P : Program} {o : Oper} {N : Nat} {K : Nat → Prop} {W : World} {F : List (Nat × Value)} {L : List Asn}
end
end Go.Proofs.Ytmgikmjmdppfmaa
