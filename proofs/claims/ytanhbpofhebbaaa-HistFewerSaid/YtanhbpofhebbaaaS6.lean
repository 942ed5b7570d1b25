/-
  More resources: blocks that are read alone; several resources in one; what is lent to a call and comes back; append of noughts. It imports nothing of the dump.
-/
import Derived.Test.YtanhbpofhebbaaaS5
namespace Go.Proofs.Ytanhbpofhebbaaa
open Go.RowKit
set_option linter.unusedSimpArgs false
set_option linter.unusedVariables false

/-- A block of cells that is read alone. -/
def Asn.rblk (g : Nat) (E : TypeId) (cs : List Value) : Asn where
  fp _ := False
  rd b := b = g
  ok w := Blk w g E cs.toArray
  keep w w' h hb := (hb g (.inr rfl)).trans h
  lt w h b hb := by rcases hb with hb | rfl; exact hb.elim; exact h.lt
/-- Resources that are read alone. -/
def Asn.ro (L : List Asn) : Asn where
  fp _ := False
  rd b := ∃ A ∈ L, A.fp b ∨ A.rd b
  ok w := ∀ A ∈ L, A.ok w
  keep w w' h hb A hA := A.keep w w' (h A hA) fun b hb' => hb b (.inr ⟨A, hA, hb'⟩)
  lt w h b hb := by rcases hb with hb | ⟨A, hA, hb⟩; exact hb.elim; exact A.lt w (h A hA) b hb
/-- Several resources in one. -/
def Asn.big (L : List Asn) : Asn where
  fp b := ∃ A ∈ L, A.fp b
  rd b := ∃ A ∈ L, A.rd b
  ok w := (∀ A ∈ L, A.ok w) ∧ L.Pairwise Asn.Apart ∧ ∀ A ∈ L, ∀ b, A.fp b → ¬ A.rd b
  keep w w' h hb := ⟨fun A hA => A.keep w w' (h.1 A hA) fun b hb' => hb b (hb'.imp (fun h => ⟨A, hA, h⟩) (fun h => ⟨A, hA, h⟩)), h.2⟩
  lt w h b hb := by rcases hb with ⟨A, hA, hb⟩ | ⟨A, hA, hb⟩; exact A.lt w (h.1 A hA) b (.inl hb); exact A.lt w (h.1 A hA) b (.inr hb)

section
variable {P : Program} {N : Nat} {K : Nat → Prop} {W w : World} {a : Act} {F F' : List (Nat × Value)} {L L' B : List Asn} {o : Oper} {ops : Array Oper} {rest : List Oper} {Q : Exit → Act → World → Prop}

theorem Sh.rblk (h : Sh K W w L) (i : Nat) {g : Nat} {E : TypeId} {cs : List Value} (hi : L[i]? = some (.rblk g E cs)) : Blk w g E cs.toArray := h.ok _ (List.mem_of_getElem? hi)
theorem Sh.open_ (h : Sh K W w (.big B :: L)) : Sh K W w (B ++ L) := by
  obtain ⟨h1, h2, h3⟩ := h.ok (.big B) (by simp)
  have hp := List.pairwise_cons.1 h.apart
  refine ⟨h.chg, ?_, ?_, ?_, List.pairwise_append.2 ⟨h2, hp.2, fun A hA C hC b => ?_⟩⟩
  · intro A hA
    rcases List.mem_append.1 hA with hA | hA
    · exact h1 A hA
    · exact h.ok A (by simp [hA])
  · intro A hA b hb
    rcases List.mem_append.1 hA with hA | hA
    · exact h.mine (.big B) (by simp) b ⟨A, hA, hb⟩
    · exact h.mine A (by simp [hA]) b hb
  · intro A hA
    rcases List.mem_append.1 hA with hA | hA
    · exact h3 A hA
    · exact h.self A (by simp [hA])
  · have := hp.1 C hC b
    exact ⟨fun hb => this.1 ⟨A, hA, hb⟩, fun hb hr => this.2 hb ⟨A, hA, hr⟩⟩
theorem Sh.close_ (h : Sh K W w (B ++ L)) (hbr : ∀ A ∈ B, ∀ C ∈ B, ∀ b, A.fp b → ¬ C.rd b := by intros; assumption) : Sh K W w (.big B :: L) := by
  have hp := List.pairwise_append.1 h.apart
  refine ⟨h.chg, ?_, ?_, ?_, List.pairwise_cons.2 ⟨fun C hC b => ?_, hp.2.1⟩⟩
  · intro A hA
    rcases List.mem_cons.1 hA with rfl | hA
    · exact ⟨fun A hA => h.ok A (by simp [hA]), hp.1, fun A hA => h.self A (by simp [hA])⟩
    · exact h.ok A (by simp [hA])
  · intro A hA b hb
    rcases List.mem_cons.1 hA with rfl | hA
    · obtain ⟨A, hA, hb⟩ := hb
      exact h.mine A (by simp [hA]) b hb
    · exact h.mine A (by simp [hA]) b hb
  · intro A hA b hb hr
    rcases List.mem_cons.1 hA with rfl | hA
    · obtain ⟨A, hA, hb⟩ := hb
      obtain ⟨C, hC, hr⟩ := hr
      exact hbr A hA C hC b hb hr
    · exact h.self A (by simp [hA]) b hb hr
  · refine ⟨?_, ?_⟩
    · rintro ⟨A, hA, hb⟩
      exact (hp.2.2 A hA C hC b).1 hb
    · rintro hb ⟨A, hA, hr⟩
      exact (hp.2.2 A hA C hC b).2 hb hr
/-- Within resources that stand apart none is read that is written. -/
theorem Sh.apartRd (h : Sh K W w L) : ∀ A ∈ L, ∀ C ∈ L, ∀ b, A.fp b → ¬ C.rd b := by
  intro A hA C hC b hb hr
  rcases apart_of_mem h.apart hA hC with rfl | hac
  · exact h.self _ hA b hb hr
  · exact ((hac b).1 hb).2 hr
theorem Sh.close (h : Sh K W w (B ++ L)) : Sh K W w (.big B :: L) := h.close_ fun A hA C hC => h.apartRd A (by simp [hA]) C (by simp [hC])

/-- What is lent to a call. -/
theorem Sh.pass (h : Sh K W w L) (i : Nat) {A : Asn} (hi : L[i]? = some A) : Sh A.fp w w [A] :=
  ⟨Chg.refl _ _, by simpa using h.ok A (List.mem_of_getElem? hi), by simpa using fun b hb => .inl hb, by simpa using h.self A (List.mem_of_getElem? hi), List.pairwise_singleton _ _⟩
/-- .. and comes back. -/
theorem Sh.back {w' : World} {A : Asn} (h : Sh K W w (A :: L)) (h' : Sh A.fp w w' L') (hrd : ∀ C ∈ L', ∀ b, C.rd b → (A.fp b ∨ A.rd b) ∨ (∃ D ∈ L, D.rd b) ∨ w.heap.size ≤ b) : Sh K W w' (L' ++ L) :=
  Sh.step (Lp := [A]) (Lr := L) (L' := L') h (h'.chg.mono fun b hb => ⟨A, by simp, hb⟩) h'.ok (fun C hC b hb => (h'.mine C hC b hb).imp (fun h => ⟨A, by simp, h⟩) (fun h => h))
    (fun C hC b hb => (hrd C hC b hb).imp (fun h => ⟨A, by simp, h⟩) (fun h => h)) h'.self h'.apart

theorem r_ldbR {T : TypeId} {n by_ : Nat} {z : List Value} {x : Operand} {g q : Nat} {E : TypeId} {cs : List Value} {v : Value} (hT : tyI P T = some (false, n, by_, z)) (ho : o.op = .load T x) (hx : ev F x = some (.pointer (some ⟨g, q, none⟩)))
    (hB : ∀ w, Sh K W w L → Blk w g E cs.toArray) (hv : cs[q]? = some v) : Rn P o N K W F L v := fun a w h => by
  have hc : w.cell? ⟨g, q, none⟩ = some v := by rw [(hB w h.sh).cell q]; simpa using hv
  unfold execOp; simp only [ho, h.fr.ev hx, Sem.run_bind, run_load1 hT hc, Result.andThen_ok, Sem.run_pure]
theorem r_ldbwR {T : TypeId} {n by_ : Nat} {z : List Value} {x : Operand} {g q : Nat} {E : TypeId} {cs vs : List Value} (hT : tyI P T = some (true, n, by_, z)) (ho : o.op = .load T x) (hx : ev F x = some (.pointer (some ⟨g, q, none⟩)))
    (hB : ∀ w, Sh K W w L → Blk w g E cs.toArray) (hv : (cs.drop q).take n = vs) (hn : vs.length = n) : Rn P o N K W F L (.agg vs.toArray) := fun a w h => by
  have hc : ∀ (j : Nat) (v : Value), vs[j]? = some v → w.cell? ((⟨g, q, none⟩ : Addr).add j) = some v := by
    intro j v hj
    rw [Addr.add_lit, (hB w h.sh).cell (q + j)]
    rw [← hv, List.getElem?_take] at hj
    split at hj
    · rw [List.getElem?_drop] at hj; simpa using hj
    · cases hj
  unfold execOp; simp only [ho, h.fr.ev hx, Sem.run_bind, run_loadN hT hn hc, Result.andThen_ok, Sem.run_pure]

theorem x_retct {fn : Func} {t T g i n by_ u : Nat} {E : TypeId} {z cs : List Value} {v' : Value} {R : Value → World → Prop} (hT : tyI P T = some (true, n, by_, z)) (hs : fn.results = #[.cell t T, .tmp u]) (h : St N K W a w F L) (ht : lk F t = some (.pointer (some ⟨g, 0, none⟩)))
    (hu : lk F u = some v') (hi : L[i]? = some (.blk g E cs)) (hn : cs.length = n) (hR : R (.tuple #[.agg cs.toArray, v']) w) : bodyPost P fn (fun e w' => ∃ v, e = .returned v ∧ R v w') .ret a w := by
  obtain ⟨ti, d, zv, hti, hd, hg, hsz, _⟩ := tyI_parts hT
  refine ⟨h.fr.defers, .tuple #[.agg cs.toArray, v'], ?_, _, rfl, hR⟩
  have hld := run_loadVar_row (P := P) w g E T cs.toArray (0, 0) d (h.sh.blk i hi) hd (by cases d <;> simp_all [aggD]) (by rw [hti]; simp [hsz, hn])
  have h1 : a.tmps[t]?.getD undef = .pointer (some ⟨g, 0, none⟩) := by rw [h.fr.at_ t _ ht]; rfl
  have h2 : a.tmps[u]?.getD undef = v' := by rw [h.fr.at_ u _ hu]; rfl
  simp [results, hs, asAddr, h1, hld, h2]
theorem x_rettc {fn : Func} {t T g i n by_ u : Nat} {E : TypeId} {z cs : List Value} {v' : Value} {R : Value → World → Prop} (hT : tyI P T = some (true, n, by_, z)) (hs : fn.results = #[.tmp u, .cell t T]) (h : St N K W a w F L) (ht : lk F t = some (.pointer (some ⟨g, 0, none⟩)))
    (hu : lk F u = some v') (hi : L[i]? = some (.blk g E cs)) (hn : cs.length = n) (hR : R (.tuple #[v', .agg cs.toArray]) w) : bodyPost P fn (fun e w' => ∃ v, e = .returned v ∧ R v w') .ret a w := by
  obtain ⟨ti, d, zv, hti, hd, hg, hsz, _⟩ := tyI_parts hT
  refine ⟨h.fr.defers, .tuple #[v', .agg cs.toArray], ?_, _, rfl, hR⟩
  have hld := run_loadVar_row (P := P) w g E T cs.toArray (0, 0) d (h.sh.blk i hi) hd (by cases d <;> simp_all [aggD]) (by rw [hti]; simp [hsz, hn])
  have h1 : a.tmps[t]?.getD undef = .pointer (some ⟨g, 0, none⟩) := by rw [h.fr.at_ t _ ht]; rfl
  have h2 : a.tmps[u]?.getD undef = v' := by rw [h.fr.at_ u _ hu]; rfl
  simp [results, hs, asAddr, h1, hld, h2]

/-! ### append(s, make([]T, n)...) -/
theorem zeroCells_zero (z : Array Value) : Builtin.zeroCells z 0 = #[] := by simp [Builtin.zeroCells]
theorem run_appZ (w : World) (t it ty e : TypeId) (i : TypeInfo) (z : Value) (size bytes : Nat) (ht : P.underlying t = some (.slice e)) (hit : P.underlying it = some (.int .i64)) (hi : P.info? e = some i) (hz : i.zero = some z)
    (hsize : i.size = size) (hby : i.bytes = bytes) (hzs : z.cells.size = size) (hsz : 0 < size) (hz1 : ∀ u ∈ z.cells.toList, u.oneCell' = true)
    (v : Value) (n : Nat) (xs : List Value) (hown : w.ownsRow 0 e size v n xs) (m : Nat) (h63 : n + m ≤ maxLen) (hbytes : (n + m) * bytes ≤ 140737488355328) :
    ∃ v' w', (Builtin.append_ #[t, it] ty #[v, .int .i64 (m : Int)]).run P w = .ok v' w' ∧ w'.ownsRow 0 e size v' (n + m) (xs ++ (Builtin.zeroCells z.cells m).toList) ∧ w.grownBy w' v.ownBlock ∧ ∀ b, v'.ownBlock = some b → v.ownBlock = some b ∨ w.heap.size ≤ b := by
  subst hsize
  subst hby
  have hmax : (m : Int) ≤ 9223372036854775807 := by unfold maxLen at h63; omega
  have hw : IntKind.i64.wrap (m : Int) = m := IntWalk.i64_in _ ⟨by omega, by omega⟩
  have hmb : m * i.bytes ≤ 140737488355328 := Nat.le_trans (Nat.mul_le_mul_right _ (Nat.le_add_left m n)) hbytes
  have hmb' : ¬ (281474976710656 < (m : Int) * (i.bytes : Int)) := by rw [← Int.natCast_mul]; omega
  have hn0 : ¬ ((m : Int) < 0) := by omega
  have hzl : (Builtin.zeroCells z.cells m).toList.length = m * i.size := by simp [size_zeroCells, hzs]
  have hlen : (xs ++ (Builtin.zeroCells z.cells m).toList).length = (n + m) * i.size := by rw [List.length_append, hown.1, hzl, Nat.add_mul]
  have h1c : ∀ u ∈ (Builtin.zeroCells z.cells m).toList, u.oneCell' = true := by
    intro u hu
    simp only [Builtin.zeroCells, Array.toList_map, List.mem_map] at hu
    obtain ⟨k, _, rfl⟩ := hu
    have hk : k % z.cells.size < z.cells.size := Nat.mod_lt _ (by omega)
    rw [getElem!_pos z.cells _ hk]
    exact hz1 _ (by simp)
  have hap : ∀ w : World, ((if m * i.size = 0 then pure #[] else do pure (Builtin.zeroCells (← zeroValue e).cells m) : Sem (Array Value))).run P w = .ok (Builtin.zeroCells z.cells m) w := by
    intro w
    by_cases h0 : m * i.size = 0
    · have : m = 0 := by
        rcases Nat.mul_eq_zero.1 h0 with h | h
        · exact h
        · omega
      subst this
      simp [zeroCells_zero]
    · simp [h0, run_zero hi hz]
  have head : ∀ (R : Result Value), ((Builtin.append_ #[t, it] ty #[v, .int .i64 (m : Int)]).run P w = R) → True := fun _ _ => trivial
  have grown : ∀ (old : Nat), (w.drew.alloc (.cells (xs.toArray ++ Builtin.zeroCells z.cells m ++ Builtin.zeroCells z.cells (grownCap w (n + m) old e - (n + m))) e)).ownsRow 0 e i.size
        (.slice (some ⟨w.heap.size, 0, none⟩) (n + m) (grownCap w (n + m) old e)) (n + m) (xs ++ (Builtin.zeroCells z.cells m).toList) ∧
      ∀ row, w.grownBy (w.drew.alloc (.cells (xs.toArray ++ Builtin.zeroCells z.cells m ++ Builtin.zeroCells z.cells (grownCap w (n + m) old e - (n + m))) e)) row := by
    intro old
    have hge := grownCap_ge w (n + m) old e
    have hcm : grownCap w (n + m) old e ≤ maxLen := grownCap_le_maxLen w (n + m) old e h63
    refine ⟨⟨hlen, .inr ⟨w.heap.size, _, _, rfl, Nat.zero_le _, heap_alloc_new w.drew _, hge, hcm, ?_, ?_⟩⟩, fun row => ⟨rfl, rfl, rfl, by simp, fun k hk _ => Below.heap_alloc w.drew _ k hk⟩⟩
    · simp only [Array.size_append, List.size_toArray, size_zeroCells, hzs, hown.1, ← Nat.add_mul]
      congr 1
      omega
    · simp only [Array.toList_append]
      rw [← hlen]
      exact List.take_left
  have h63' : ¬ (9223372036854775807 < ((n : Int) + (m : Int))) := by unfold maxLen at h63; omega
  rcases hown.2 with ⟨rfl, rfl⟩ | ⟨g, cap, cur, rfl, hbg, hg, hnc, hcm, hcs, htake⟩
  · have hx : xs = [] := List.eq_nil_of_length_eq_zero (by simpa using hown.1)
    subst hx
    by_cases hm : m = 0
    · subst hm
      refine ⟨.slice none 0 0, w, ?_, by rw [zeroCells_zero]; exact hown, ⟨rfl, rfl, rfl, Nat.le_refl _, fun _ _ _ => rfl⟩, fun b hb => .inl hb⟩
      have hw0 : IntKind.i64.wrap 0 = 0 := by simpa using hw
      simp [Builtin.append_, run_underlying ht, run_underlying hit, sizeOf, typeInfo, hi, asInt, asIntOf, hw0]
    · have hgr := grown 0
      have h48' : ¬ (281474976710656 < Builtin.nextslicecap m 0 * i.bytes) := by rw [nextslicecap_zero (by omega)]; omega
      refine ⟨_, _, ?_, hgr.1, hgr.2 _, fun b hb => .inr (by have : w.heap.size = b := (by simpa [Value.ownBlock] using hb); omega)⟩
      have hms : ¬ m * i.size = 0 := fun h => by rcases Nat.mul_eq_zero.1 h with h | h <;> omega
      have h63m : ¬ (9223372036854775807 < (m : Int)) := by omega
      simp [Builtin.append_, run_underlying ht, run_underlying hit, sizeOf, typeInfo, zeroValue, hi, hz, asInt, asIntOf, hw, hn0, hmb', hm, hms, h63m, h48', Question.forced, newRow, grownCap, Builtin.firstCells]
  · by_cases hroom : n + m ≤ cap
    · have hst := run_storeCells_at P g (n * i.size) e (Builtin.zeroCells z.cells m).toList 0 cur w hg (by rw [hzl, hcs, Nat.add_zero, ← Nat.add_mul]; exact Nat.mul_le_mul_right _ hroom) h1c
      simp only [Nat.add_zero] at hst
      have hnr : ((cur.toList.take (n * i.size) ++ (Builtin.zeroCells z.cells m).toList ++ cur.toList.drop (n * i.size + (Builtin.zeroCells z.cells m).toList.length)).toArray : Array Value).size = cap * i.size := by
        have : (n + m) * i.size ≤ cap * i.size := Nat.mul_le_mul_right _ hroom
        simp only [List.size_toArray, List.length_append, List.length_take, List.length_drop, Array.length_toList, hcs, hzl]
        rw [Nat.add_mul] at this
        omega
      refine ⟨_, w.setRow g (cur.toList.take (n * i.size) ++ (Builtin.zeroCells z.cells m).toList ++ cur.toList.drop (n * i.size + (Builtin.zeroCells z.cells m).toList.length)).toArray, ?_, ⟨hlen, .inr ⟨g, cap, _, rfl, hbg, setRow_heap w g cur _ e _ hg, hroom, hcm, hnr, ?_⟩⟩, ⟨rfl, rfl, rfl, by simp [World.setRow], fun k _ hk => setRow_other w g k _ (fun e => hk (by simp [Value.ownBlock, e]))⟩, fun b hb => .inl hb⟩
      · simp [Builtin.append_, run_underlying ht, run_underlying hit, sizeOf, typeInfo, zeroValue, hi, hz, asInt, asIntOf, hw, hn0, hmb', hroom]
        have e : (⟨g, 0, none⟩ : Addr).add (n * i.size) = ⟨g, n * i.size, none⟩ := by rw [Addr.add_lit, Nat.zero_add]
        rw [e]
        by_cases h0 : m * i.size = 0
        · have hm0 : m = 0 := by rcases Nat.mul_eq_zero.1 h0 with h | h <;> omega
          have hZ : (Builtin.zeroCells z.cells m).toList = [] := by rw [hm0, zeroCells_zero]
          have hZa : Builtin.zeroCells z.cells m = #[] := by rw [hm0, zeroCells_zero]
          rw [hZ] at hst ⊢
          rw [if_pos h0, hst]
          simp [hZa]
        · rw [if_neg h0, hst]
          simp
      · rw [htake, ← hlen]
        exact List.take_left
    · have hgr := grown cap
      have h48' : ¬ (281474976710656 < Builtin.nextslicecap (n + m) cap * i.bytes) := by have := growslice_fits (need := n + m) (old := cap) (by omega) hbytes; omega
      have holds : ∀ (j : Nat) (u : Value), xs[j]? = some u → w.cell? ((⟨g, 0, none⟩ : Addr).add j) = some u := hown.cells (g := g) rfl
      have hfo := run_firstCells_some (P := P) w.drew i.size n ⟨g, 0, none⟩ n cap xs hown.1 (by simpa using holds)
      refine ⟨_, _, ?_, hgr.1, hgr.2 _, fun b hb => .inr (by have : w.heap.size = b := (by simpa [Value.ownBlock] using hb); omega)⟩
      simp [Builtin.append_, run_underlying ht, run_underlying hit, sizeOf, typeInfo, zeroValue, hi, hz, asInt, asIntOf, hw, hn0, hmb', hroom, h63', h48', Question.forced, newRow, grownCap, hfo]
      intro h0
      have hm0 : m = 0 := by rcases Nat.mul_eq_zero.1 h0 with h | h <;> omega
      subst hm0
      simp [zeroCells_zero]

/-- append(s, make([]T, m)...): s is an own row of flat data. -/
theorem x_appZ {α : Type} [Enc α] [Flat α] {d : Nat} {T IT e : TypeId} {gg : Bool} {sz by_ r m : Nat} {z : List Value} {x y : Operand} {s : Ls α} {E : TypeId} (x0 : α) (h : St N K W a w F L) (hT : slI P T = some e) (he : tyI P e = some (gg, sz, by_, z)) (hIT : P.underlying IT = some (.int .i64)) (ho : o.op = .call ⟨.builtin .append, #[x, y], #[T, IT]⟩)
    (hx : ev F x = some s.v) (hy : ev F y = some (.int .i64 (m : Int))) (hr : L[r]? = some (.own E s)) (hE : E = e) (hz : z = cellsOf x0) (hsz : Enc.sz α = sz) (hpos : Nat.blt 0 sz = true) (h1 : One α)
    (hn : (s.l.length + m) * by_ ≤ 140737488355328 ∧ s.l.length + m ≤ 140737488355328) (hd : o.dst = some d) (hdN : Nat.blt d N = true) :
    Ex P o a w (fun a' w' => ∃ v : Value, St N K W a' w' ((d, v) :: F) (L.set r (.own E ⟨v, s.l ++ List.replicate m x0⟩))) := by
  subst hsz
  subst hE
  obtain ⟨i, ed, zv, hi, hed, _, hsz, hby, hzz, hzc⟩ := tyI_parts he
  have hsp : 0 < Enc.sz α := by simpa [Nat.blt_eq] using hpos
  obtain ⟨hown, hlen, hinn⟩ := h.sh.ok _ (List.mem_of_getElem? hr)
  have hzv : zv.cells = z.toArray := by rw [← hzc]
  have hzsz : zv.cells.size = Enc.sz α := by rw [hzv, hz]; simp [length_cellsOf]
  have hz1 : ∀ u ∈ zv.cells.toList, u.oneCell' = true := by
    intro u hu
    rw [hzc, hz] at hu
    obtain ⟨q, hq, rfl⟩ := List.mem_map.1 hu
    exact h1.one x0 w (Flat.inner _ _) q (by simpa using hq)
  obtain ⟨v', w', hrun, ho', hg', hv'⟩ := run_appZ (P := P) w T IT o.type E i zv (Enc.sz α) by_ (slI_parts hT) hIT hi hzz hsz hby hzsz hsp hz1 s.v s.l.length (encL s.l) hown m (by unfold maxLen; omega) hn.1
  have hzm : (Builtin.zeroCells zv.cells m).toList = encL (List.replicate m x0) := by
    have := made_eq z x0 m hz
    rw [← this, ← hzv]
    show (Builtin.zeroCells zv.cells m).toList = (madeCells zv.cells (m * Enc.sz α)).toList
    rw [← hzsz]; rfl
  rw [hzm] at ho'
  refine Ex.of_run (v := v') (w' := w') ?_ ⟨v', ?_⟩
  · unfold execOp
    simp only [ho, resolve, invoke, builtin, Sem.run_bind, Sem.run_pure, Result.andThen_ok, List.map_toArray, List.map_cons, List.map_nil, h.fr.ev hx, h.fr.ev hy, hrun]
  · rw [hd]
    refine ⟨h.fr.put d (by simpa [Nat.blt_eq] using hdN) _, h.sh.put hr (Chg.grown hg' (fun k hk => hk)) ⟨?_, ?_, fun q hq => Flat.inner _ _⟩ (fun b hb => hv' b hb) (fun b hb => ?_) (fun b hb hb' => ?_)⟩
    · show World.ownsRow _ 0 E _ v' (s.l ++ List.replicate m x0).length (encL (s.l ++ List.replicate m x0))
      rw [List.length_append, List.length_replicate, encL_append]; exact ho'
    · show (s.l ++ List.replicate m x0).length ≤ _
      rw [List.length_append, List.length_replicate]; exact hn.2
    · obtain ⟨q, _, hb⟩ := hb; exact (Flat.on _ _ hb).elim
    · obtain ⟨q, _, hb⟩ := hb'; exact (Flat.on _ _ hb).elim
theorem x_appZI {α : Type} [Enc α] [Flat α] {d : Nat} {T IT e : TypeId} {gg : Bool} {sz by_ r : Nat} {q : Int} {z : List Value} {x y : Operand} {s : Ls α} {E : TypeId} (x0 : α) (h : St N K W a w F L) (hT : slI P T = some e) (he : tyI P e = some (gg, sz, by_, z)) (hIT : P.underlying IT = some (.int .i64)) (ho : o.op = .call ⟨.builtin .append, #[x, y], #[T, IT]⟩)
    (hx : ev F x = some s.v) (hy : ev F y = some (.int .i64 q)) (hq : 0 ≤ q) (hr : L[r]? = some (.own E s)) (hE : E = e) (hz : z = cellsOf x0) (hsz : Enc.sz α = sz) (hpos : Nat.blt 0 sz = true) (h1 : One α)
    (hn : (s.l.length + q.toNat) * by_ ≤ 140737488355328 ∧ s.l.length + q.toNat ≤ 140737488355328) (hd : o.dst = some d) (hdN : Nat.blt d N = true) :
    Ex P o a w (fun a' w' => ∃ v : Value, St N K W a' w' ((d, v) :: F) (L.set r (.own E ⟨v, s.l ++ List.replicate q.toNat x0⟩))) :=
  x_appZ x0 h hT he hIT ho hx (by rw [Int.toNat_of_nonneg hq]; exact hy) hr hE hz hsz hpos h1 hn hd hdN
end
end Go.Proofs.Ytanhbpofhebbaaa
