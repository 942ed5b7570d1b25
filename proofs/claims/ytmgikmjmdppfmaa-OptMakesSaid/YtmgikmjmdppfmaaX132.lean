/-
  What always is one number: the document looks at a thread.
-/
import Derived.Test.YtmgikmjmdppfmaaX131
import Derived.Test.YtmgikmjmdppfmaaE4
import Derived.Test.YtmgikmjmdppfmaaS15
import Derived.Test.YtmgikmjmdppfmaaS14
section
namespace Go.Proofs.Ytmgikmjmdppfmaa
open Go.RowKit
set_option linter.unusedSimpArgs false
set_option linter.unusedVariables false

section
variable {R n t : Nat} {gs : List Bool} {M : List (Ls VV)} {code : List Ins} {e : List VV} {vs vn : Int}
theorem zeros_ok : OkEn R (zerosE R) := ⟨List.length_replicate, fun r => by
  rcases Nat.lt_or_ge r R with h | h
  · rw [show nth (zerosE R) r = ⟨0, 0⟩ by simp [nth, zerosE, h]]; exact .inl rfl
  · rw [nth_outE _ _ (by rw [zerosE, List.length_replicate]; exact h)]; exact .inl rfl⟩
theorem rd_start (hg : gs = (List.replicate (n + 1) false).set 0 true) (hM : M.length = n + 1) (h0 : (nth M 0).l = firstE R) (hz : ∀ t, t ≠ 0 → t ≤ n → (nth M t).l = zerosE R) : RdO R n gs M ∧ absR gs M = updA noneA 0 (firstE R) := by
  have hn : ∀ t, nth gs t = decide (t = 0) := fun t => by
    rw [hg, nth_setB, List.length_replicate]
    by_cases h : t = 0
    · subst h; rw [if_pos ⟨rfl, by omega⟩]; rfl
    · rw [if_neg (fun h9 => h h9.1.symm), decide_eq_false h]
      unfold nth List.getD
      rw [List.getElem?_replicate]
      split <;> rfl
  refine ⟨⟨by rw [hg, List.length_set, List.length_replicate], hM, fun t ht => ?_, fun t ht hf => ?_⟩, ?_⟩
  · by_cases h : t = 0
    · rw [h, h0]; exact first_ok
    · rw [hz t h ht]; exact zeros_ok
  · rw [hn] at hf
    exact hz t (of_decide_eq_false hf) ht
  · funext t
    unfold absR updA noneA
    rw [hn]
    by_cases h : t = 0
    · subst h; rw [if_pos (decide_eq_true rfl), if_pos rfl, h0]
    · rw [if_neg (by simp [h]), if_neg h]
/-- Does an order lead to its next one of this number? -/
def En (vs vn : Int) (j : Nat) : Prop := vs = 2 ∨ (vs = 1 ∧ (vn = 0 ↔ j = 1))
/-- What the document tests of an order. -/
structure VOf (code : List Ins) (t : Nat) (e : List VV) (vs vn : Int) : Prop where
  z : (nth code t).op = 15 → vs = (nth e (nth code t).a.toNat).s ∧ vn = (nth e (nth code t).a.toNat).n
  o : (nth code t).op ≠ 15 → vs = 2
theorem VOf.nx (h : VOf code t e vs vn) {j : Nat} (hj : j < (nextsL code t).length) (he : En vs vn j) : (nth (nextsL code t) j).toNat ∈ nxtE code t e := by
  by_cases h15 : (nth code t).op = 15
  · obtain ⟨h1, h2⟩ := h.z h15
    have hl : nextsL code t = [((t + 1 : Nat) : Int), (nth code t).b] := by unfold nextsL; rw [if_neg (by omega), if_pos h15]
    rw [hl] at hj ⊢
    rw [nxtE_15 h15, ← h1, ← h2]
    unfold En at he
    rcases j with _ | _ | j
    · exact .inl ⟨by omega, by show (((t + 1 : Nat) : Int)).toNat = t + 1; omega⟩
    · exact .inr ⟨by omega, rfl⟩
    · exact absurd hj (by simp)
  · rw [nxtE_no h15]
    exact List.mem_map.2 ⟨_, nth_mem _ _ hj, rfl⟩
theorem VOf.en (h : VOf code t e vs vn) {d : Nat} (hd : d ∈ nxtE code t e) : ∃ j, j < (nextsL code t).length ∧ En vs vn j ∧ d = (nth (nextsL code t) j).toNat := by
  by_cases h15 : (nth code t).op = 15
  · obtain ⟨h1, h2⟩ := h.z h15
    have hl : nextsL code t = [((t + 1 : Nat) : Int), (nth code t).b] := by unfold nextsL; rw [if_neg (by omega), if_pos h15]
    rw [nxtE_15 h15, ← h1, ← h2] at hd
    rw [hl]
    unfold En
    rcases hd with ⟨h3, rfl⟩ | ⟨h3, rfl⟩
    · exact ⟨0, by simp, by omega, by show t + 1 = (((t + 1 : Nat) : Int)).toNat; omega⟩
    · exact ⟨1, by simp, by omega, rfl⟩
  · rw [nxtE_no h15] at hd
    obtain ⟨y, hy, rfl⟩ := List.mem_map.1 hd
    obtain ⟨j, hj, e9⟩ := List.getElem_of_mem hy
    refine ⟨j, hj, .inl (h.o h15), ?_⟩
    rw [nth_lt _ _ hj, e9]
/-- At the head of a round. -/
structure HdI (code : List Ins) (R : Nat) (A : AF) (more : Bool) : Prop where
  low : LowA code R A
  first : ∃ e, A 0 = some e ∧ leL (firstE R) e
  done : more = false → Least code R A
theorem HdI.start : HdI code R (updA noneA 0 (firstE R)) true := ⟨low_first, ⟨_, updA_self, .refl _⟩, fun h => (by cases h)⟩
theorem HdI.go {A : AF} {more : Bool} (h : HdI code R A more) : RdI code R A A false 0 := ⟨h.low, h.first, fun _ t ht => absurd ht (by omega), fun h9 => (by cases h9)⟩
theorem HdI.next {A0 A : AF} {more : Bool} {k : Nat} (h : RdI code R A0 A more k) (hk : code.length ≤ k) : HdI code R A more := ⟨h.low, h.first, fun hm => by subst hm; exact h.least hk⟩
end
end Go.Proofs.Ytmgikmjmdppfmaa
end
section
namespace Go.Proofs.Ytmgikmjmdppfmaa
open Go.RowKit
set_option linter.unusedSimpArgs false
set_option linter.unusedVariables false
theorem rvs_app {α : Type} (M : List (Ls α)) (s : Ls α) : rvs (M ++ [s]) = rvs M ++ [⟨s.v⟩] := by simp [rvs]
section
variable {P : Program} {o : Oper} {N : Nat} {K : Nat → Prop} {W w : World} {a : Act} {F : List (Nat × Value)} {L : List Asn} {α : Type} [Enc α] {E IE : TypeId} {v : Value} {M : List (Ls α)}
/-- append of a row to a row of rows. -/
theorem x_appRow {d : Nat} {T e : TypeId} {gg : Bool} {by_ : Nat} {z : List Value} {x y : Operand} {s : Ls α} {mv : Value} (h : St N K W a w F (.big (matX (.own IE) E v M) :: .own IE s :: .own e (⟨mv, [⟨s.v⟩]⟩ : Ls RV) :: L)) (hT : slI P T = some e) (he : tyI P e = some (gg, 1, by_, z)) (ho : o.op = .call ⟨.builtin .append, #[x, y], #[T, T]⟩)
    (hx : ev F x = some v) (hy : ev F y = some mv) (hE : E = e) (hz : z.length = 1) (hn : (M.length + 1) * by_ ≤ 140737488355328 ∧ M.length + 1 ≤ 140737488355328) (hd : o.dst = some d) (hdN : Nat.blt d N = true) :
    Ex P o a w (fun a' w' => ∃ u : Value, St N K W a' w' ((d, u) :: F) (.big (matX (.own IE) E u (M ++ [s])) :: L)) := by
  have h1 : Sh K W w (.own E (⟨v, rvs M⟩ : Ls RV) :: .own e (⟨mv, [⟨s.v⟩]⟩ : Ls RV) :: (M.map (Asn.own IE) ++ (.own IE s :: L))) := h.sh.open_.perm (by
    unfold matX
    refine List.Perm.cons _ ?_
    refine (List.Perm.append_left _ (List.Perm.swap _ _ _)).trans ?_
    exact List.perm_middle)
  refine (x_app1 (r := 0) (rm := 1) (s := (⟨v, rvs M⟩ : Ls RV)) (m := (⟨mv, [⟨s.v⟩]⟩ : Ls RV)) ⟨h.fr, h1⟩ hT he ho hx hy rfl hE rfl rfl (fun w h => h.own 1 rfl) (fun b hb => own_on (h1.ok _ (List.mem_of_getElem? (i := 1) rfl)) hb) (fun q hq b hb => hb.elim) rfl rfl hz (fun w h q hq j hj => by
      obtain rfl : q = 0 := by simpa using hq
      exact (own_at (h.ok (.own IE s) (by simp))).one)
    (by rw [rvs_len]; exact hn) hd hdN).mono fun a' w' ⟨u, h2⟩ => ⟨u, h2.fr, ?_⟩
  have h3 : Sh K W w' (.own E (⟨u, rvs M ++ [⟨s.v⟩]⟩ : Ls RV) :: .own e (⟨mv, [⟨s.v⟩]⟩ : Ls RV) :: (M.map (Asn.own IE) ++ (.own IE s :: L))) := h2.sh
  refine Sh.close ((h3.perm (List.Perm.swap _ _ _)).tail.perm ?_)
  unfold matX
  rw [rvs_app, List.map_append]
  refine List.Perm.cons _ ?_
  simp
theorem Sh.nilMat (h : Sh K W w L) : Sh K W w (.big (matX (.own IE) E (.slice none 0 0) ([] : List (Ls α))) :: L) :=
  Sh.matMk (n := 0) (α := α) (IE := IE) (h.nil (α := RV) E)
end
end Go.Proofs.Ytmgikmjmdppfmaa
end
section
namespace Go.Proofs.Ytmgikmjmdppfmaa
open Go.RowKit
set_option linter.unusedSimpArgs false
set_option linter.unusedVariables false

section
variable {P : Program} {o : Oper} {N : Nat} {K : Nat → Prop} {W w : World} {a : Act} {F : List (Nat × Value)} {L : List Asn}
theorem cells4 (x : Ins) : cellsOf x = [.int .i64 x.op, .int .i64 x.a, .int .i64 x.b, .int .i64 x.c] := rfl
theorem r_eqBB {T U : TypeId} {x y : Operand} {p q : Bool} (ho : o.op = .binOp .eql T x y U) (hx : ev F x = some (.bool p)) (hy : ev F y = some (.bool q)) (hT : P.underlying T = some .bool) : Rn P o N K W F L (.bool (p == q)) := fun a w h => by
  have e1 : (eqGuard .eql T x y (.bool p) (.bool q)).run P w = .ok () w := by simp [eqGuard]
  have e2 : (binOp .eql T (.bool p) (.bool q)).run P w = .ok (.bool (p == q)) w := by simp [binOp, Op.equal, Op.maxDepth, go_sem, hT]
  unfold execOp
  simp only [ho, h.fr.ev hx, h.fr.ev hy, Sem.run_bind, Sem.run_pure, Result.andThen_ok, e1, e2]
end
end Go.Proofs.Ytmgikmjmdppfmaa
end
namespace Go.Proofs.Ytmgikmjmdppfmaa
open Go.RowKit
set_option linter.unusedSimpArgs false
set_option linter.unusedVariables false
set_option maxRecDepth 100000
set_option maxHeartbeats 16000000


theorem row_step {r R : Nat} (h : r < R) : (firstE r ++ zerosE (R - r)).set r ⟨1, 0⟩ = firstE (r + 1) ++ zerosE (R - (r + 1)) := by
  have e : R - r = (R - (r + 1)) + 1 := by omega
  have hl : (firstE r).length = r := List.length_replicate
  rw [List.set_append_right _ _ (by omega), hl, Nat.sub_self, e]
  unfold zerosE
  rw [List.replicate_succ, List.set_cons_zero]
  show _ = List.replicate (r + 1) _ ++ _
  rw [List.replicate_succ', List.append_assoc]
  rfl
theorem hd_down {code : List Ins} {R : Nat} {A0 A : AF} {more : Bool} {k : Nat} (h : RdI code R A0 A more k) (he : more = false → A = A0) : muA R A (code.length + 1) + (if more = true then 1 else 0) < muA R A0 (code.length + 1) + 1 := by
  cases hm : more with
  | false => rw [he hm]; simp
  | true => have := h.mu hm; simp; omega
theorem abs_go {gs : List Bool} {M : List (Ls VV)} {t : Nat} (h : nth gs t = true) : absR gs M t = some (nth M t).l := by unfold absR; rw [if_pos h]
theorem abs_not {gs : List Bool} {M : List (Ls VV)} {t : Nat} (h : nth gs t = false) : absR gs M t = none := by unfold absR; rw [if_neg (by rw [h]; decide)]

theorem lookAt_c (code : Ls Ins) (R : Nat) (W : World) (hcode : code.At W) (hov : OkV code.l (R : Int)) (hj : JumpsOK code.l) (hcl : code.l.length ≤ 400) (hR : R ≤ 200) :
    Rets Try.prog 29 [code.v, .int .i64 ((R : Nat) : Int)] W (fun v w' => ∃ (gl : Nat) (gs : Ls Bool) (vm : Value) (M : List (Ls VV)), v = .pointer (some ⟨gl, 0, none⟩) ∧ RdO R code.l.length gs.l M ∧ Least code.l R (absR gs.l M) ∧ Sh0 W w' [.blk gl 66 [gs.v, vm, .bool false], .own 4 gs, .big (matX (.own 68) 70 vm M)]) := by
 refine gen Try.func29 Try.ntmps29 (Sh0.ext1 hcode : Sh (fun _ => False) W W [.at_ code]) rfl fun a10 h10 => gG h10<|sG (oM 1 rfl<|.nl)<|sK fun _ k12 => gNl (aA 0 rfl) fun hl13 => gRn (oM 1 rfl<|oln sl_45 (aA 0 rfl) rfl<|oadN _ 1 om9 rfl<|.nl)<|gE1 (fun _ _ h_ => x_make (n := code.l.length + 1) (false : Bool) h_ sl_63 ti_4 rfl rfl rfl rfl rfl (show 1 * (code.l.length + 1) ≤ 140737488355328 ∧ code.l.length + 1 ≤ 140737488355328 from om9) (fun w => Flat.inner _ _) (fun b => Flat.on _ _) rfl rfl) rfl fun v14 => gRn (oV (r_buildS (cs := [v14, (.slice none 0 0), .bool true]) rfl rfl (fun w h => by obtain ⟨A15, n15, c15, (e15 : v14 = _)⟩ := ((h.own 0 rfl)).form; rw [e15]; kernel_rfl)) rfl<|.nl)<|gbx rfl rfl fun b16 => gRn (oM 1 rfl<|.nl)<|nK k12<|gK fun _ k17 => sG (oM 1 rfl<|.nl)<|gB<|fun a19 w19 h19 => ?_; clear h10
 have h20 : St 153 (fun _ => False) W a19 w19 _ _ := ⟨h19.fr, h19.sh.nilMat (α := VV) (IE := 68) (E := 70)⟩
 clear h19
 refine x_loop (fun m a w => ∃ (i0 : Nat) (M0 : List (Ls VV)) (v0 : Value), (i0 ≤ code.l.length + 1) ∧ (M0.length = i0 ∧ ∀ t, t < i0 → (nth M0 t).l = zerosE R) ∧ St 153 (fun _ => False) W a w [(0, code.v), (1, .int .i64 ((R : Nat) : Int)), (5, .pointer (some ⟨b16, 0, none⟩)), (6, .int .i64 ((i0 : Nat) : Int))] [.big (matX (.own 68) 70 v0 M0), .blk b16 66 [v14, v0, .bool true], .own 4 (⟨v14, List.replicate (code.l.length + 1) false⟩ : Ls Bool), .at_ code] ∧ m = code.l.length + 1 - i0) ⟨_, 0, [], _, (by omega), (⟨rfl, fun t h => absurd h (by omega)⟩), h20.nf ⟨rfl, rfl, rfl, rfl, trivial⟩, rfl⟩ ?_
 clear h20
 rintro m21 a21 w21 ⟨i0, M0, v0, hi0, hm0, h21, hm21⟩
 refine gG h21<|gK fun _ k22 => sG (oM 2 rfl<|oln sl_45 (aA 3 rfl) rfl<|oleN _ _ rfl<|.nl)<|?_; clear h21
 refine gcd rfl (fun hb24 hp24 => ?_) fun hb24 hp24 => ?_
 ·skip
  refine gS<|hK k22<|gK fun _ k25 => gB<|rC [6, 7, 8, 11] rfl<|pR [0, 1, 2, 3, 4, 5] rfl (oM 2 rfl<|onfl 1 fl_66_1 ti_64 rfl rfl<|oM 1 rfl<|.nl) rfl<|pX (fun _ _ h_ => x_make (n := R) (⟨0, 0⟩ : VV) h_ sl_70 ti_68 rfl rfl rfl rfl rfl (show 16 * R ≤ 140737488355328 ∧ R ≤ 140737488355328 from om9) (fun w => Flat.inner _ _) (fun b => Flat.on _ _) rfl rfl) rfl fun v26 => pR [0, 1, 2, 3, 4] rfl (oM 2 rfl<|onfl 2 fl_66_1 ti_64 rfl rfl<|.nl) rfl<|pX (fun _ _ h_ => x_lit (n := 1) (cs := [v26]) ([⟨v26⟩] : List RV) h_ sl_64 ti_70 rfl rfl rfl (by decide) rfl (by obtain ⟨A27, n27, c27, (e27 : v26 = _)⟩ := ((h_.sh.own 0 rfl)).form; rw [e27]; kernel_rfl) rfl (fun _ _ _ _ => trivial) (fun q hq b hb => (Flat.on _ _ hb).elim) rfl rfl) rfl fun v28 => pR [0, 1, 2, 3, 4] rfl (oM 2 rfl<|onfl 3 fl_66_1 ti_64 rfl rfl<|.nl) rfl<|pO [2, 1, 0, 3, 4, 5] rfl<|pX (fun _ _ h_ => x_appRow h_ sl_64 ti_70 rfl rfl rfl rfl rfl (show (M0.length + 1) * 24 ≤ 140737488355328 ∧ M0.length + 1 ≤ 140737488355328 from om9) rfl rfl) rfl fun v30 => pR [0, 9, 10] rfl (oM 1 rfl<|onf fl_66_1 rfl<|.nl) rfl<|pS (fun _ _ h_ => x_stb (i := 1) (vs := [v30]) (cs' := [v14, v30, .bool true]) h_ ti_64 rfl rfl rfl rfl rfl (cells_oneL ((h_.sh.matAt 0 rfl)).one) rfl (allOne_cons ((h_.sh.matAt 0 rfl)).one allOne_nil) (Nat.le_of_ble_eq_true rfl) rfl) rfl<|pE [] rfl (.nl) rfl<|hK k25<|gL<|gRn (oM 1 rfl<|oadN _ 1 om9 rfl<|oM 1 rfl<|.nl)<|nN<|fun a32 w32 h32 => x_again ⟨_, ?_, i0 + 1, M0 ++ [(⟨v26, List.replicate R ⟨0, 0⟩⟩ : Ls VV)], v30, ?_, ?_, h32.nf ⟨rfl, rfl, rfl, rfl, trivial⟩, rfl⟩
  · rw [hm21]; first | omega | (simp only [lens9]; omega)
  · omega
  · exact ⟨by simp [hm0.1], snoc_thE (A := fun (x : Ls VV) _ => x.l = zerosE R) hm0.1 hm0.2 rfl⟩
 refine gX<|hK k17<|sK fun _ k33 => gRn (oM 1 rfl<|onfl 1 fl_66_0 ti_63 rfl rfl<|oxN sl_63 ti_4 (aO 2 rfl) 0 (show 0 < (List.replicate (code.l.length + 1) false).length from om9) rfl<|.nl)<|gte 2 (true : Bool) ti_4 (show 0 < (List.replicate (code.l.length + 1) false).length from om9) rfl rfl<|nK k33<|gK fun _ k35 => sG (oM 1 rfl<|.nl)<|gB<|fun a38 w38 h38 => x_loop (fun m a w => ∃ (r1 : Nat) (M1 : List (Ls VV)), (r1 ≤ R) ∧ (M1.length = (code.l.length + 1) ∧ (∀ t, t ≠ 0 → t ≤ code.l.length → (nth M1 t).l = zerosE R) ∧ (nth M1 0).l = firstE r1 ++ zerosE (R - r1)) ∧ St 153 (fun _ => False) W a w [(0, code.v), (1, .int .i64 ((R : Nat) : Int)), (5, .pointer (some ⟨b16, 0, none⟩)), (7, .int .i64 ((r1 : Nat) : Int))] [.big (matX (.own 68) 70 v0 M1), .blk b16 66 [v14, v0, .bool true], .own 4 (⟨v14, (List.replicate (code.l.length + 1) false).set 0 true⟩ : Ls Bool), .at_ code] ∧ m = R - r1) ⟨_, 0, M0, (by omega), (⟨by omega, fun t _ h9 => hm0.2 t (by omega), hm0.2 0 (by omega)⟩), h38.nf ⟨rfl, rfl, rfl, rfl, trivial⟩, rfl⟩ ?_
 clear h38
 rintro m37 a37 w37 ⟨r1, M1, hr1, hm1, h37, hm37⟩
 have hl0 : (nth M1 0).l.length = R := by rw [hm1.2.2, List.length_append, firstE, zerosE, List.length_replicate, List.length_replicate]; omega
 refine gG h37<|gK fun _ k39 => sG (oM 2 rfl<|oltN _ _ rfl<|.nl)<|?_; clear h37
 refine gcd rfl (fun hb41 hp41 => ?_) fun hb41 hp41 => ?_
 ·skip
  refine gS<|hK k39<|gK fun _ k42 => gB<|gL<|gNl (fun w h => (h.matRow 0 rfl 0 (show 0 < M1.length from (by omega)))) fun (hl43 : ((nth M1 0).l).length ≤ 140737488355328) => gRn (oM 1 rfl<|onfl 1 fl_66_1 ti_64 rfl rfl<|oxN sl_64 ti_70 (fun w h => (h.matAt 0 rfl)) 0 (by rw [rvs_len]; exact (show 0 < M1.length from (by omega))) rfl<|oV (Rn.same (r_lde (s := (⟨v0, rvs M1⟩ : Ls RV)) (i := 0) (v := (nth (rvs M1) 0).v) ti_70 rfl rfl rfl (fun w h => h.matAt 0 rfl) (by rw [rvs_len]; exact (show 0 < M1.length from om9)) (Nat.le_of_ble_eq_true rfl) rfl) (nth_rvs M1 0)) rfl<|oM 1 rfl<|oV (r_build (cs := [.int .i64 1, .int .i64 0]) rfl rfl (by kernel_rfl)) rfl<|oxN sl_70 ti_68 (fun w h => (h.matRow 0 rfl 0 (show 0 < M1.length from (by omega)))) _ om9 rfl<|.nl)<|gE (fun _ _ h_ => x_stMatV (i := 0) (q := r1) (x' := (⟨1, 0⟩ : VV)) h_ ti_68 rfl rfl rfl (show 0 < M1.length from om9) (show r1 < (nth M1 0).l.length from om9) rfl) rfl<|nK k42<|gL<|gRn (oM 1 rfl<|oadN _ 1 om9 rfl<|oM 1 rfl<|.nl)<|nN<|fun a45 w45 h45 => ?_
  refine x_again ⟨_, ?_, (r1 + 1), M1.set 0 ⟨(nth M1 0).v, (nth M1 0).l.set r1 (⟨1, 0⟩ : VV)⟩, ?_, ?_, h45.nf ⟨rfl, rfl, rfl, rfl, trivial⟩, rfl⟩
  · rw [hm37]; first | omega | (simp only [lens9]; omega)
  · omega
  · exact ⟨by rw [List.length_set]; exact hm1.1, fun t h8 h9 => by rw [nth_setLs, if_neg (fun h7 => h8 h7.1.symm)]; exact hm1.2.1 t h8 h9, by rw [nth_setLs, if_pos ⟨rfl, by omega⟩]; show List.set _ _ _ = _; rw [hm1.2.2]; exact row_step (by omega)⟩
 refine gX<|hK k35<|gK fun _ k46 => gB<|?_
 have hst9 := rd_start (R := R) (n := code.l.length) (gs := (List.replicate (code.l.length + 1) false).set 0 true) rfl hm1.1 (by rw [hm1.2.2, show r1 = R by omega, Nat.sub_self]; exact List.append_nil _) hm1.2.1
 intro a48 w48 h48
 refine x_loop (fun m a w => ∃ (g2 : List Bool) (M2 : List (Ls VV)) (more2 : Bool), (RdO R code.l.length g2 M2) ∧ (HdI code.l R (absR g2 M2) more2) ∧ St 153 (fun _ => False) W a w [(0, code.v), (5, .pointer (some ⟨b16, 0, none⟩))] [.big (matX (.own 68) 70 v0 M2), .blk b16 66 [v14, v0, .bool more2], .own 4 (⟨v14, g2⟩ : Ls Bool), .at_ code] ∧ m = muA R (absR g2 M2) (code.l.length + 1) + (if more2 = true then 1 else 0)) ⟨_, (List.replicate (code.l.length + 1) false).set 0 true, M1, true, (hst9.1), (by rw [hst9.2]; exact HdI.start), h48.nf ⟨rfl, rfl, trivial⟩, rfl⟩ ?_
 clear h48
 rintro m47 a47 w47 ⟨g2, M2, more2, hO2, hH, h47, hm47⟩
 refine gG h47<|gK fun _ k49 => sG (oM 1 rfl<|onfl 1 fl_66_2 ti_4 rfl rfl<|.nl)<|?_; clear h47
 refine gCb rfl (fun hb51 => ?_) fun hb51 => ?_
 ·skip
  refine gS<|hK k49<|gB<|sK fun _ k52 => gRn (oM 1 rfl<|onf fl_66_2 rfl<|.nl)<|gst (v := .bool false) 1 ti_4 rfl rfl rfl<|nK k52<|sG (oM 1 rfl<|.nl)<|gB<|fun a56 w56 h56 => x_loop (fun m a w => ∃ (k : Nat) (g3 : List Bool) (M3 : List (Ls VV)) (more3 : Bool), (k ≤ code.l.length) ∧ (RdO R code.l.length g3 M3) ∧ (RdI code.l R (absR g2 M2) (absR g3 M3) more3 k) ∧ (more3 = false → absR g3 M3 = absR g2 M2) ∧ St 153 (fun _ => False) W a w [(0, code.v), (5, .pointer (some ⟨b16, 0, none⟩)), (8, .int .i64 ((k : Nat) : Int))] [.big (matX (.own 68) 70 v0 M3), .blk b16 66 [v14, v0, .bool more3], .own 4 (⟨v14, g3⟩ : Ls Bool), .at_ code] ∧ m = code.l.length - k) ⟨_, 0, g2, M2, false, (by omega), (hO2), (hH.go), (fun _ => rfl), h56.nf ⟨rfl, rfl, rfl, trivial⟩, rfl⟩ ?_
  clear h56
  rintro m55 a55 w55 ⟨k, g3, M3, more3, hk, hO3, hR3, hE3, h55, hm55⟩
  have hgl3 := hO3.gl
  have hml3 := hO3.ml
  have hl3 := (hO3.ok k hk).1
  refine gG h55<|gK fun _ k57 => sG (oM 2 rfl<|oln sl_45 (aA 3 rfl) rfl<|oltN _ _ rfl<|.nl)<|?_; clear h55
  refine gcd rfl (fun hb59 hp59 => ?_) fun hb59 hp59 => ?_
  ·skip
   refine gS<|hK k57<|gK fun _ k60 => gB<|gK fun _ k61 => sK fun _ k62 => gNl (aO 2 rfl) fun (hl63 : g3.length ≤ 140737488355328) => gRn (oM 1 rfl<|onfl 1 fl_66_0 ti_63 rfl rfl<|oM 1 rfl<|oxN sl_63 ti_4 (aO 2 rfl) _ om9 rfl<|olE (.bool (nth g3 k)) ti_4 (aO 2 rfl) om9 rfl<|ont rfl<|.nl)<|nK k62<|gCb rfl (fun hb64 => ?_) fun hb64 => ?_
   ·have hn64 : nth g3 k = false := (Bool.not_eq_true' _).mp hb64
    refine gX<|hK k60<|gL<|gRn (oM 1 rfl<|oadN _ 1 om9 rfl<|oM 1 rfl<|.nl)<|nN<|fun a65 w65 h65 => x_again ⟨_, ?_, (k + 1), g3, M3, more3, ?_, ?_, ?_, ?_, h65.nf ⟨rfl, rfl, rfl, trivial⟩, rfl⟩
    · rw [hm55]; first | omega | (simp only [lens9]; omega)
    · omega
    · first | exact hO4 | exact hO3
    · first | exact hM4.fin (fun d hd => by obtain ⟨j, hj1, hj2, rfl⟩ := hvo.en (by rw [hel]; exact hd); exact hds j (by omega) hj2) | exact hR3.skip (abs_not (by first | assumption | simpa using (by assumption)))
    · first | exact hM4.le | exact hE3
   have hn64 : nth g3 k = true := (Bool.not_eq_false' _).mp hb64
   refine gS<|hK k61<|?_
   have hxa := rk_a (t := k) hov (by omega)
   have hxb := rk_b (t := k) hov (by omega)
   have hxc := rk_c (t := k) hov (by omega)
   have hxw := (hov k (by omega)).2.2.1
   have hjk := hj k (by omega)
   refine sK fun _ k66 => gRn (oM 2 rfl<|oxN sl_45 ti_44 (aA 3 rfl) _ om9 rfl<|olw2 [.int .i64 ((nth code.l k).op), .int .i64 ((nth code.l k).a), .int .i64 ((nth code.l k).b), .int .i64 ((nth code.l k).c)] ti_44 (aA 3 rfl) om9 rfl<|.nl)<|gal ti_44 rfl fun b67 => gsw 0 ti_44 rfl rfl rfl<|nK k66<|sK fun _ k69 => gE1 (fun _ _ h_ => x_lit0 (α := VV) h_ sl_70 ti_68 rfl rfl rfl) rfl fun v70 => gRn (oM 1 rfl<|onfl 3 fl_66_1 ti_64 rfl rfl<|oM 1 rfl<|oxN sl_64 ti_70 (fun w h => (h.matAt 2 rfl)) _ (by rw [rvs_len]; exact (show k < M3.length from (by omega))) rfl<|oV (Rn.same (r_lde (s := (⟨v0, rvs M3⟩ : Ls RV)) (i := k) (v := (nth (rvs M3) k).v) ti_70 rfl rfl rfl (fun w h => h.matAt 2 rfl) (by rw [rvs_len]; exact (show k < M3.length from om9)) (Nat.le_of_ble_eq_true rfl) rfl) (nth_rvs M3 k)) rfl<|.nl)<|gE1 (fun _ _ h_ => x_app (r := 0) (rm := 2) (s := (⟨v70, []⟩ : Ls VV)) (m := (nth M3 k)) h_ sl_70 ti_68 rfl rfl rfl rfl rfl rfl rfl (fun w h => (h.matRow 2 rfl k (show k < M3.length from om9))) (fun b hb => .inl (mat_on (h_.sh.ok _ (List.mem_of_getElem? (i := 2) rfl)) (show k < M3.length from om9) hb)) (fun q hq b hb => (Flat.on _ _ hb).elim) rfl rfl rfl inferInstance (show (([]).length + ((nth M3 k).l).length) * 16 ≤ 140737488355328 ∧ ([]).length + ((nth M3 k).l).length ≤ 140737488355328 from om9) rfl rfl) rfl fun v71 => gRn (oM 1 rfl<|.nl)<|nK k69<|gF [0, 5, 8, 9, 10] rfl<|sK fun _ k72 => gRn (ofB fl_44_0 rfl<|olB 1 ti_3 rfl rfl<|.nl)<|gP (fun _ _ h_ => xCl h_ bd_30 rfl (rReckons_c ((nth code.l k).op) _)) rfl<|gRn (oM 1 rfl<|.nl)<|nK k72<|sK fun _ k74 => gRn (olw 1 ti_44 rfl rfl<|.nl)<|gP (fun _ _ h_ => xCl h_ bd_46 rfl (rWrites_c (nth code.l k) _ (hov k (by omega)).1.1)) rfl<|gRn (oM 1 rfl<|.nl)<|nK k74<|fun a76 w76 h76 => x_seq (fun a w => ∃ (el : List VV), (el = endV code.l k (nth M3 k).l) ∧ St 153 (fun _ => False) W a w [(0, code.v), (5, .pointer (some ⟨b16, 0, none⟩)), (8, .int .i64 ((k : Nat) : Int)), (9, .pointer (some ⟨b67, 0, none⟩)), (10, v71)] [.own 68 (⟨v71, el⟩ : Ls VV), .blk b67 44 [.int .i64 ((nth code.l k).op), .int .i64 ((nth code.l k).a), .int .i64 ((nth code.l k).b), .int .i64 ((nth code.l k).c)], .big (matX (.own 68) 70 v0 M3), .blk b16 66 [v14, v0, .bool more3], .own 4 (⟨v14, g3⟩ : Ls Bool), .at_ code]) ?_ ?_
   ·refine gG h76<|sG (oM 1 rfl<|.nl)<|?_; clear h76
    refine gcd rfl (fun hb78 hp78 => ?_) fun hb78 hp78 => ?_
    ·skip
     refine gF [0, 5, 8, 9, 10, 11, 12, 92, 93, 94, 95, 96, 97] rfl<|fun a81 w81 h81 => x_any ((fun Φ Ψ S a w => (S 5 = false ∧ S 7 = false ∧ FrI 153 S Φ Ψ a ∧ Sh (fun _ => False) W w [.own 68 (⟨v71, (nth M3 k).l⟩ : Ls VV), .blk b67 44 [.int .i64 ((nth code.l k).op), .int .i64 ((nth code.l k).a), .int .i64 ((nth code.l k).b), .int .i64 ((nth code.l k).c)], .big (matX (.own 68) 70 v0 M3), .blk b16 66 [v14, v0, .bool more3], .own 4 (⟨v14, g3⟩ : Ls Bool), .at_ code]) ∨ (S 5 = true ∧ S 7 = false ∧ FrI 153 S Φ (Ψ ++ [(5, 103, .agg #[.int .i64 ((rkV (nth code.l k) ((nth M3 k).l)).s), .int .i64 ((rkV (nth code.l k) ((nth M3 k).l)).n)]), (6, 104, .pointer (some (padr v71 2 (((nth code.l k).a).toNat) 0)))]) a ∧ Sh (fun _ => False) W w [.own 68 (⟨v71, (nth M3 k).l⟩ : Ls VV), .blk b67 44 [.int .i64 ((nth code.l k).op), .int .i64 ((nth code.l k).a), .int .i64 ((nth code.l k).b), .int .i64 ((nth code.l k).c)], .big (matX (.own 68) 70 v0 M3), .blk b16 66 [v14, v0, .bool more3], .own 4 (⟨v14, g3⟩ : Ls Bool), .at_ code]) ∨ (S 5 = true ∧ S 7 = true ∧ FrI 153 S Φ (Ψ ++ [(5, 103, .agg #[.int .i64 ((rkV (nth code.l k) ((nth M3 k).l)).s), .int .i64 ((rkV (nth code.l k) ((nth M3 k).l)).n)]), (6, 104, .pointer (some (padr v71 2 (((nth code.l k).a).toNat) 0)))]) a ∧ Sh (fun _ => False) W w [.own 68 (⟨v71, ((nth M3 k).l).set (((nth code.l k).a).toNat) (rkV (nth code.l k) ((nth M3 k).l))⟩ : Ls VV), .blk b67 44 [.int .i64 ((nth code.l k).op), .int .i64 ((nth code.l k).a), .int .i64 ((nth code.l k).b), .int .i64 ((nth code.l k).c)], .big (matX (.own 68) 70 v0 M3), .blk b16 66 [v14, v0, .bool more3], .own 4 (⟨v14, g3⟩ : Ls Bool), .at_ code])) [(0, code.v), (5, .pointer (some ⟨b16, 0, none⟩)), (8, .int .i64 ((k : Nat) : Int)), (9, .pointer (some ⟨b67, 0, none⟩)), (10, v71), (11, .bool (decide (1 ≤ (nth code.l k).op ∧ (nth code.l k).op ≤ 7))), (12, .int .i64 (wrG (nth code.l k))), (92, .pointer (some ⟨b67, 0, none⟩)), (93, .int .i64 ((nth code.l k).op)), (94, .bool (decide (1 ≤ (nth code.l k).op ∧ (nth code.l k).op ≤ 7))), (95, .agg #[.int .i64 ((nth code.l k).op), .int .i64 ((nth code.l k).a), .int .i64 ((nth code.l k).b), .int .i64 ((nth code.l k).c)]), (96, .int .i64 (wrG (nth code.l k))), (97, .bool (decide (1 ≤ (nth code.l k).op ∧ (nth code.l k).op ≤ 7)))] [(0, 98, v71), (1, 99, .pointer (some ⟨b67, 1, none⟩)), (2, 100, .int .i64 ((nth code.l k).a)), (3, 101, .agg #[.int .i64 ((nth code.l k).op), .int .i64 ((nth code.l k).a), .int .i64 ((nth code.l k).b), .int .i64 ((nth code.l k).c)]), (4, 102, v71)]) (by kernel_rfl) (by kernel_rfl) (Or.inl (⟨rfl, rfl, FrI.start h81.fr, h81.sh.drew⟩)) ?_ ?_
     ·intro S i o ho hSi hcl hdep a w hI
      clear h81
      rcases i with _ | _ | _ | _ | _ | _ | _ | _ | i
      ·obtain rfl : _ = o := Option.some.inj ho
       rcases hI with ⟨ν5, ν7, φ, ς⟩ | ⟨ν5, ν7, φ, ς⟩ | ⟨_, ν7, _⟩
       ·exact sq φ φ.fr0 ς (r_move rfl rfl) 0 rfl rfl rfl rfl rfl rfl fun a hg => Or.inl (⟨un rfl ν5, un rfl ν7, hg, ς⟩)
       ·exact sq φ φ.fr0 ς (r_move rfl rfl) 0 rfl rfl rfl rfl rfl rfl fun a hg => Or.inr (Or.inl (⟨un rfl ν5, un rfl ν7, hg, ς⟩))
       ·exact no_way (cA hcl 7 0 rfl ν7) hSi
      ·obtain rfl : _ = o := Option.some.inj ho
       rcases hI with ⟨ν5, ν7, φ, ς⟩ | ⟨ν5, ν7, φ, ς⟩ | ⟨_, ν7, _⟩
       ·exact sq φ φ.fr0 ς (r_fieldB (r := 1) fl_44_1 rfl rfl rfl) 1 rfl rfl rfl rfl rfl rfl fun a hg => Or.inl (⟨un rfl ν5, un rfl ν7, hg, ς⟩)
       ·exact sq φ φ.fr0 ς (r_fieldB (r := 1) fl_44_1 rfl rfl rfl) 1 rfl rfl rfl rfl rfl rfl fun a hg => Or.inr (Or.inl (⟨un rfl ν5, un rfl ν7, hg, ς⟩))
       ·exact no_way (cA hcl 7 1 rfl ν7) hSi
      ·obtain rfl : _ = o := Option.some.inj ho
       have hd1 : S 1 = true := depAt hdep 0 rfl rfl
       rcases hI with ⟨ν5, ν7, φ, ς⟩ | ⟨ν5, ν7, φ, ς⟩ | ⟨_, ν7, _⟩
       ·exact sq φ (Fr.cons φ.fr0 (φ.at_ 1 1 99 _ rfl hd1)) ς (r_ldb (i := 1) ti_3 rfl rfl rfl rfl) 2 rfl rfl rfl rfl rfl rfl fun a hg => Or.inl (⟨un rfl ν5, un rfl ν7, hg, ς⟩)
       ·exact sq φ (Fr.cons φ.fr0 (φ.at_ 1 1 99 _ rfl hd1)) ς (r_ldb (i := 1) ti_3 rfl rfl rfl rfl) 2 rfl rfl rfl rfl rfl rfl fun a hg => Or.inr (Or.inl (⟨un rfl ν5, un rfl ν7, hg, ς⟩))
       ·exact no_way (cA hcl 7 2 rfl ν7) hSi
      ·obtain rfl : _ = o := Option.some.inj ho
       rcases hI with ⟨ν5, ν7, φ, ς⟩ | ⟨ν5, _⟩ | ⟨ν5, _⟩
       ·exact sq φ φ.fr0 ς (r_ldbw (i := 1) (vs := [.int .i64 ((nth code.l k).op), .int .i64 ((nth code.l k).a), .int .i64 ((nth code.l k).b), .int .i64 ((nth code.l k).c)]) ti_44 rfl rfl rfl rfl rfl) 3 rfl rfl rfl rfl rfl rfl fun a hg => Or.inl (⟨un rfl ν5, un rfl ν7, hg, ς⟩)
       ·exact no_way (cA hcl 5 3 rfl ν5) hSi
       ·exact no_way (cA hcl 5 3 rfl ν5) hSi
      ·obtain rfl : _ = o := Option.some.inj ho
       rcases hI with ⟨ν5, ν7, φ, ς⟩ | ⟨ν5, _⟩ | ⟨ν5, _⟩
       ·exact sq φ φ.fr0 ς (r_move rfl rfl) 4 rfl rfl rfl rfl rfl rfl fun a hg => Or.inl (⟨un rfl ν5, un rfl ν7, hg, ς⟩)
       ·exact no_way (cA hcl 5 4 rfl ν5) hSi
       ·exact no_way (cA hcl 5 4 rfl ν5) hSi
      ·obtain rfl : _ = o := Option.some.inj ho
       have hd3 : S 3 = true := depAt hdep 0 rfl rfl
       have hd4 : S 4 = true := depAt hdep 1 rfl rfl
       rcases hI with ⟨ν5, ν7, φ, ς⟩ | ⟨ν5, _⟩ | ⟨ν5, _⟩
       ·have hs := St.mk (Fr.cons (Fr.cons φ.fr0 (φ.at_ 3 3 101 _ rfl hd3)) (φ.at_ 4 4 102 _ rfl hd4)) ς
        refine step_ex (x_call hs bd_31 rfl rfl rfl rfl rfl (result_c (nth code.l k) (⟨v71, (nth M3 k).l⟩ : Ls VV) _ (hs.sh.own 0 rfl) (by omega) (fun h9 => by simp only [lens9]; omega) (fun h9 => by simp only [lens9]; omega))) (wanted_none rfl _) ?_
        rintro a93 w93 ⟨_, ⟨rfl, hs93⟩, hf93⟩ ⟨v0, ht93⟩
        have h93 : St 153 (fun _ => False) W a93 w93 _ _ := ⟨hf93, hs.sh.call0 hs93⟩
        clear hf93 hs93
        exact Or.inr (Or.inl (⟨upd_self _ _, un rfl ν7, φ.stepW hcl hSi [0, 1, 2, 3, 4] (by kernel_rfl) (by kernel_rfl) ht93 h93.fr.defers (h93.fr.at_ 103 _ rfl) 5 rfl rfl rfl rfl, (h93.sh.sel [0, 1, 2, 3, 4, 5] rfl)⟩))
       ·exact no_way ν5 hSi
       ·exact no_way ν5 hSi
      ·obtain rfl : _ = o := Option.some.inj ho
       have hd0 : S 0 = true := depAt hdep 0 rfl rfl
       have hd2 : S 2 = true := depAt hdep 1 rfl rfl
       have hd5 : S 5 = true := depAt hdep 7 rfl rfl
       rcases hI with ⟨ν5, _⟩ | ⟨ν5, ν7, φ, ς⟩ | ⟨_, ν7, _⟩
       ·exact no_way hd5 ν5
       ·have hs := St.mk (Fr.cons (Fr.cons φ.fr0 (φ.at_ 0 0 98 _ rfl hd0)) (φ.at_ 2 2 100 _ rfl hd2)) ς
        have hl94 : ((nth M3 k).l).length ≤ 140737488355328 := (hs.sh.own 0 rfl).len
        exact sq φ (Fr.cons (Fr.cons φ.fr0 (φ.at_ 0 0 98 _ rfl hd0)) (φ.at_ 2 2 100 _ rfl hd2)) ς (r_ixI (s := (⟨v71, (nth M3 k).l⟩ : Ls VV)) (q := (nth code.l k).a) sl_70 ti_68 rfl rfl rfl (fun w h => (h.own 0 rfl)) (show 0 ≤ (nth code.l k).a ∧ (nth code.l k).a < ((nth M3 k).l).length from (by omega))) 6 rfl rfl rfl rfl rfl rfl fun a hg => Or.inr (Or.inl (⟨un rfl ν5, un rfl ν7, hg, ς⟩))
       ·exact no_way (cA hcl 7 6 rfl ν7) hSi
      ·obtain rfl : _ = o := Option.some.inj ho
       have hd6 : S 6 = true := depAt hdep 0 rfl rfl
       have hd5 : S 5 = true := depAt hdep 1 rfl rfl
       rcases hI with ⟨ν5, _⟩ | ⟨ν5, ν7, φ, ς⟩ | ⟨_, ν7, _⟩
       ·exact no_way hd5 ν5
       ·have hs := St.mk (Fr.cons (Fr.cons φ.fr0 (φ.at_ 5 5 103 _ rfl hd5)) (φ.at_ 6 6 104 _ rfl hd6)) ς
        refine step_ex (x_stewV (r := 0) (i := ((nth code.l k).a).toNat) (s := (⟨v71, (nth M3 k).l⟩ : Ls VV)) (x' := (rkV (nth code.l k) ((nth M3 k).l))) hs ti_68 rfl rfl rfl rfl (show ((nth code.l k).a).toNat < ((nth M3 k).l).length from (by omega)) rfl) (wanted_none rfl _) ?_
        rintro a96 w96 h96 ⟨v0, ht96⟩
        exact Or.inr (Or.inr (⟨un rfl ν5, upd_self _ _, φ.noneW hcl hSi [0, 1, 2, 3, 4, 5, 6] (by kernel_rfl) (by kernel_rfl) ht96 h96.fr.defers rfl, (h96.sh.sel [0, 1, 2, 3, 4, 5] rfl)⟩))
       ·exact no_way ν7 hSi
      · simp at ho
     intro S hall a w hI
     clear h81
     rcases hI with ⟨ν5, ν7, φ, ς⟩ | ⟨ν5, ν7, φ, ς⟩ | ⟨ν5, ν7, φ, ς⟩
     · exact no_way (hall 5 (by decide)) ν5
     · exact no_way (hall 7 (by decide)) ν7
     have h97 : St 153 (fun _ => False) W a w _ _ := ⟨φ.fr0, ς⟩
     clear hall φ ς ν5 ν7
     refine x_join ⟨((nth M3 k).l).set (((nth code.l k).a).toNat) (rkV (nth code.l k) ((nth M3 k).l)), ?_, h97.nf ⟨rfl, rfl, rfl, rfl, rfl, trivial⟩⟩
     · unfold endV outE; first | (rw [if_pos (by omega)]; done) | (rw [if_neg (by omega), if_pos (by omega)]; done) | (rw [if_neg (by omega), if_neg (by omega)]; done)
    refine sG (oM 1 rfl<|ogeI _ _ rfl<|.nl)<|gcd rfl (fun hb99 hp99 => ?_) fun hb99 hp99 => ?_
    ·skip
     refine gL<|gNl (aO 0 rfl) fun (hl100 : ((nth M3 k).l).length ≤ 140737488355328) => gRn (oM 2 rfl<|oV (r_build (cs := [.int .i64 2, .int .i64 0]) rfl rfl (by kernel_rfl)) rfl<|oxI sl_70 ti_68 (aO 0 rfl) om9 rfl<|.nl)<|gE (fun _ _ h_ => x_stewV (r := 0) (i := (wrG (nth code.l k)).toNat) (s := (⟨v71, (nth M3 k).l⟩ : Ls VV)) (x' := (⟨2, 0⟩ : VV)) h_ ti_68 rfl rfl rfl rfl (show (wrG (nth code.l k)).toNat < ((nth M3 k).l).length from om9) rfl) rfl<|nN<|fun a102 w102 h102 => x_join ⟨((nth M3 k).l).set ((wrG (nth code.l k)).toNat) (⟨2, 0⟩ : VV), ?_, h102.nf ⟨rfl, rfl, rfl, rfl, rfl, trivial⟩⟩
     · unfold endV outE; first | (rw [if_pos (by omega)]; done) | (rw [if_neg (by omega), if_pos (by omega)]; done) | (rw [if_neg (by omega), if_neg (by omega)]; done)
    refine gS<|fun a103 w103 h103 => x_join ⟨(nth M3 k).l, ?_, h103.nf ⟨rfl, rfl, rfl, rfl, rfl, trivial⟩⟩
    · unfold endV outE; first | (rw [if_pos (by omega)]; done) | (rw [if_neg (by omega), if_pos (by omega)]; done) | (rw [if_neg (by omega), if_neg (by omega)]; done)
   clear h76
   rintro a104 w104 ⟨el, hel, h104⟩
   have hlel : el.length = R := by rw [hel]; exact (outE_len).trans hl3
   refine gG h104<|sK fun _ k105 => gRn (oV (r_build (cs := [.int .i64 2, .int .i64 0]) rfl rfl (by kernel_rfl)) rfl<|.nl)<|gal ti_68 rfl fun b106 => gsw 0 ti_68 rfl rfl rfl<|nK k105<|fun a108 w108 h108 => x_seq (fun a w => ∃ (vs vn : Int), (VOf code.l k el vs vn) ∧ St 153 (fun _ => False) W a w [(0, code.v), (5, .pointer (some ⟨b16, 0, none⟩)), (8, .int .i64 ((k : Nat) : Int)), (10, v71), (13, .pointer (some ⟨b106, 0, none⟩))] [.blk b106 68 [.int .i64 vs, .int .i64 vn], .own 68 (⟨v71, el⟩ : Ls VV), .blk b67 44 [.int .i64 ((nth code.l k).op), .int .i64 ((nth code.l k).a), .int .i64 ((nth code.l k).b), .int .i64 ((nth code.l k).c)], .big (matX (.own 68) 70 v0 M3), .blk b16 66 [v14, v0, .bool more3], .own 4 (⟨v14, g3⟩ : Ls Bool), .at_ code]) ?_ ?_; clear h104
   ·refine gG h108<|sG (ofB fl_44_0 rfl<|olB 2 ti_3 rfl rfl<|oeqI _ _ rfl<|.nl)<|?_; clear h108
    refine gcd rfl (fun hb110 hp110 => ?_) fun hb110 hp110 => ?_
    ·skip
     refine gL<|gNl (aO 1 rfl) fun (hl111 : el.length ≤ 140737488355328) => gRn (oM 1 rfl<|ofB fl_44_1 rfl<|olB 2 ti_3 rfl rfl<|oxI sl_70 ti_68 (aO 1 rfl) om9 rfl<|olw2 [.int .i64 ((nth el (((nth code.l k).a).toNat)).s), .int .i64 ((nth el (((nth code.l k).a).toNat)).n)] ti_68 (aO 1 rfl) om9 rfl<|.nl)<|gsw 0 ti_68 rfl rfl rfl<|nN<|fun a113 w113 h113 => x_join ⟨(nth el (((nth code.l k).a).toNat)).s, (nth el (((nth code.l k).a).toNat)).n, ?_, h113.nf ⟨rfl, rfl, rfl, rfl, rfl, trivial⟩⟩
     · first | exact ⟨fun _ => ⟨rfl, rfl⟩, fun h9 => absurd (by assumption) h9⟩ | exact ⟨fun h9 => absurd h9 (by assumption), fun _ => rfl⟩
    refine gS<|fun a114 w114 h114 => x_join ⟨2, 0, ?_, h114.nf ⟨rfl, rfl, rfl, rfl, rfl, trivial⟩⟩
    · first | exact ⟨fun _ => ⟨rfl, rfl⟩, fun h9 => absurd (by assumption) h9⟩ | exact ⟨fun h9 => absurd h9 (by assumption), fun _ => rfl⟩
   clear h108
   rintro a115 w115 ⟨vs, vn, hvo, h115⟩
   refine gG h115<|sK fun _ k116 => gRn (oM 2 rfl<|.nl)<|gC (fun _ _ h_ => xCl h_ bd_47 rfl (rNexts_c code k _ (h_.sh.at 6 rfl) (by omega) (by omega))) rfl<|?_; clear h115
   rintro _ _ w117 ⟨s117, rfl, hs117⟩
   refine gWk hs117 rfl<|gU<|gRn (oM 1 rfl<|.nl)<|nK k116<|sG (oM 1 rfl<|.nl)<|gB<|fun a120 w120 h120 => ?_; clear hs117
   refine x_loop (fun m a w => ∃ (q : Nat) (g4 : List Bool) (M4 : List (Ls VV)) (more4 : Bool) (ds : List Nat), (q ≤ (nextsL code.l k).length) ∧ (RdO R code.l.length g4 M4) ∧ (RdM code.l R (absR g2 M2) (absR g4 M4) more4 k (nth M3 k).l ds) ∧ (∀ j, j < q → En vs vn j → (nth (nextsL code.l k) j).toNat ∈ ds) ∧ St 153 (fun _ => False) W a w [(0, code.v), (5, .pointer (some ⟨b16, 0, none⟩)), (8, .int .i64 ((k : Nat) : Int)), (10, v71), (13, .pointer (some ⟨b106, 0, none⟩)), (14, s117.v), (15, .int .i64 ((q : Nat) : Int))] [.own 3 (⟨s117.v, nextsL code.l k⟩ : Ls Int), .blk b106 68 [.int .i64 vs, .int .i64 vn], .own 68 (⟨v71, el⟩ : Ls VV), .blk b67 44 [.int .i64 ((nth code.l k).op), .int .i64 ((nth code.l k).a), .int .i64 ((nth code.l k).b), .int .i64 ((nth code.l k).c)], .big (matX (.own 68) 70 v0 M4), .blk b16 66 [v14, v0, .bool more4], .own 4 (⟨v14, g4⟩ : Ls Bool), .at_ code] ∧ m = (nextsL code.l k).length - q) ⟨_, 0, g3, M3, more3, [], (by omega), (hO3), (hR3.go hE3 (by omega) (abs_go (by assumption))), (fun j h9 => absurd h9 (by omega)), h120.nf ⟨rfl, rfl, rfl, rfl, rfl, rfl, rfl, trivial⟩, rfl⟩ ?_
   clear h120
   rintro m119 a119 w119 ⟨q, g4, M4, more4, ds, hq, hO4, hM4, hds, h119, hm119⟩
   refine gG h119<|gK fun _ k121 => sK fun _ k122 => gNl (aO 0 rfl) fun (hl123 : (nextsL code.l k).length ≤ 140737488355328) => gRn (oM 2 rfl<|oln (n := (nextsL code.l k).length) sl_23 (aO 0 rfl) rfl<|oltN _ _ rfl<|.nl)<|nK k122<|?_; clear h119
   refine gcd rfl (fun hb124 hp124 => ?_) fun hb124 hp124 => ?_
   ·skip
    refine gS<|hK k121<|gK fun _ k125 => gB<|sK fun _ k126 => gRn (ofB fl_68_0 rfl<|olB 1 ti_3 rfl rfl<|oeqI _ _ rfl<|oM 1 rfl<|.nl)<|?_
    rcases dsp (vs = 2) with ⟨hb127, hp127⟩ | ⟨hb127, hp127⟩
    ·skip
     refine gRn (oKs 4 hb127 rfl rfl<|oK2 rfl<|oK2 rfl<|oK2 rfl<|oK2 rfl<|oK2 rfl<|oK2 rfl<|oK hb127 rfl<|opT hb127 rfl<|.nl)<|nK k126<|gcT rfl rfl<|gL<|gRn (oM 3 rfl<|oxN sl_23 ti_3 (aO 0 rfl) _ om9 rfl<|olE (.int .i64 (nth (nextsL code.l k) q)) ti_3 (aO 0 rfl) om9 rfl<|oM 1 rfl<|.nl)<|?_
     have hnn := nx_le hj (show k < code.l.length by omega) _ (nth_mem _ _ (show q < (nextsL code.l k).length by omega))
     obtain ⟨d, hd⟩ := Int.eq_ofNat_of_zero_le hnn.1
     have hen : En vs vn q := by unfold En; first | omega | (refine .inr ⟨by omega, ?_⟩; have h9 := (by assumption : (decide (vn = 0) == decide (q = 1)) = true); simpa using h9)
     have hmem : d ∈ nxtE code.l k (endV code.l k (nth M3 k).l) := by have h9 := hvo.nx (by omega) hen; rw [hd, Int.toNat_natCast, hel] at h9; exact h9
     intro a129 w129 h129
     have h128 := h129.same (d := 149) (v' := .int .i64 ((d : Nat) : Int)) rfl (by rw [hd])
     clear h129
     have h133 := h128.sel (L' := [_, _, _, _, _, _, _, _]) [5, 6, 4, 2, 0, 1, 3, 7] rfl
     have hp134 := h133.sh.passL (Lp := [_, _, _, _])
     refine wl_ex (x_call h133 bd_48 rfl rfl rfl rfl rfl (rlead_c _ b16 R code.l.length d (⟨v14, g4⟩ : Ls Bool) v0 M4 more4 (⟨v71, el⟩ : Ls VV) _ hp134 hO4 (by omega) (by rw [hel]; exact outE_ok hM4.oe))) (wanted_none rfl _) ?_
     rintro a135 w135 ⟨_, ⟨gn135, N135, mn135, rfl, hOn135, hln135, hs135⟩, hf135⟩
     have h135 : St 153 (fun _ => False) W a135 w135 _ [_, _, _, _, _, _, _, _] := ⟨hf135, h133.sh.backL (Lp := [_, _, _, _]) hs135 (by intro A hA b hb; simp only [List.mem_cons, List.not_mem_nil, or_false] at hA; rcases hA with rfl | rfl | rfl | rfl <;> first | exact (hb : False).elim | exact Flat.noRd hb | exact .inl ⟨_, List.mem_cons_self .., .inr hb⟩ | exact (NoRd.no _ hb).elim | exact .inl ⟨_, by simp, .inr hb⟩)⟩
     clear hf135 hs135
     clear h133
     refine gG h135<|nK k125<|gF [0, 5, 8, 10, 13, 14, 15] rfl<|gL<|gRn (oM 1 rfl<|oadN _ 1 om9 rfl<|oM 1 rfl<|.nl)<|nN<|?_; clear h135
     have hM5 : RdM code.l R (absR g2 M2) (absR gn135 N135) mn135 k (nth M3 k).l (ds ++ [d]) := by have h9 := hM4.lead hM4.rd.mu hmem (by omega); have e0 := hln135; rw [hel] at e0; have e1 := congrArg Prod.fst e0; have e2 := congrArg Prod.snd e0; simp only at e1 e2; rw [e1, e2]; exact h9
     intro a136 w136 h136
     refine x_again ⟨_, ?_, (q + 1), gn135, N135, mn135, (ds ++ [d]), ?_, ?_, ?_, ?_, h136.nrm ⟨rfl, rfl, rfl, rfl, rfl, rfl, rfl, trivial⟩ [4, 5, 3, 6, 2, 0, 1, 7] rfl, rfl⟩
     · rw [hm119]; first | omega | (simp only [lens9]; omega)
     · omega
     · assumption
     · first | exact hM5 | exact hM4
     · intro j hj he9; rcases Nat.lt_or_ge j q with h9 | h9; (first | exact List.mem_append.2 (.inl (hds j h9 he9)) | exact hds j h9 he9); (obtain rfl : j = q := by omega); first | exact List.mem_append.2 (.inr (List.mem_singleton.2 (by omega))) | (exfalso; unfold En at he9; first | omega | simp_all)
    refine gRn (oG hb127 (r_fieldB (r := 0) fl_68_0 rfl rfl rfl) rfl<|oG hb127 (r_ldb (i := 1) ti_3 rfl rfl rfl rfl) rfl<|oG hb127 (r_eqlI (p := vs) (q := 1) rfl rfl rfl) rfl<|oG hb127 (r_move rfl rfl) rfl<|.nl)<|?_
    rcases dsp (vs = 1) with ⟨hb137, hp137⟩ | ⟨hb137, hp137⟩
    ·skip
     refine gRn (oG hb137 (r_fieldB (r := 1) fl_68_1 rfl rfl rfl) rfl<|oG hb137 (r_ldb (i := 1) ti_3 rfl rfl rfl rfl) rfl<|oG hb137 (r_eqlI (p := vn) (q := 0) rfl rfl rfl) rfl<|oG hb137 (r_move rfl rfl) rfl<|oG hb137 (r_eqlN (p := q) (q := 1) rfl rfl rfl) rfl<|oG hb137 (r_eqBB rfl rfl rfl (by kernel_rfl)) rfl<|oG hb127 (r_pickT rfl rfl hb137 rfl) rfl<|opF hb127 rfl<|.nl)<|nK k126<|gCb rfl (fun hb138 => ?_) fun hb138 => ?_
     ·skip
      refine gL<|gRn (oM 3 rfl<|oxN sl_23 ti_3 (aO 0 rfl) _ om9 rfl<|olE (.int .i64 (nth (nextsL code.l k) q)) ti_3 (aO 0 rfl) om9 rfl<|oM 1 rfl<|.nl)<|?_
      have hnn := nx_le hj (show k < code.l.length by omega) _ (nth_mem _ _ (show q < (nextsL code.l k).length by omega))
      obtain ⟨d, hd⟩ := Int.eq_ofNat_of_zero_le hnn.1
      have hen : En vs vn q := by unfold En; first | omega | (refine .inr ⟨by omega, ?_⟩; have h9 := (by assumption : (decide (vn = 0) == decide (q = 1)) = true); simpa using h9)
      have hmem : d ∈ nxtE code.l k (endV code.l k (nth M3 k).l) := by have h9 := hvo.nx (by omega) hen; rw [hd, Int.toNat_natCast, hel] at h9; exact h9
      intro a140 w140 h140
      have h139 := h140.same (d := 149) (v' := .int .i64 ((d : Nat) : Int)) rfl (by rw [hd])
      clear h140
      have h144 := h139.sel (L' := [_, _, _, _, _, _, _, _]) [5, 6, 4, 2, 0, 1, 3, 7] rfl
      have hp145 := h144.sh.passL (Lp := [_, _, _, _])
      refine wl_ex (x_call h144 bd_48 rfl rfl rfl rfl rfl (rlead_c _ b16 R code.l.length d (⟨v14, g4⟩ : Ls Bool) v0 M4 more4 (⟨v71, el⟩ : Ls VV) _ hp145 hO4 (by omega) (by rw [hel]; exact outE_ok hM4.oe))) (wanted_none rfl _) ?_
      rintro a146 w146 ⟨_, ⟨gn146, N146, mn146, rfl, hOn146, hln146, hs146⟩, hf146⟩
      have h146 : St 153 (fun _ => False) W a146 w146 _ [_, _, _, _, _, _, _, _] := ⟨hf146, h144.sh.backL (Lp := [_, _, _, _]) hs146 (by intro A hA b hb; simp only [List.mem_cons, List.not_mem_nil, or_false] at hA; rcases hA with rfl | rfl | rfl | rfl <;> first | exact (hb : False).elim | exact Flat.noRd hb | exact .inl ⟨_, List.mem_cons_self .., .inr hb⟩ | exact (NoRd.no _ hb).elim | exact .inl ⟨_, by simp, .inr hb⟩)⟩
      clear hf146 hs146
      clear h144
      refine gG h146<|nK k125<|gF [0, 5, 8, 10, 13, 14, 15] rfl<|gL<|gRn (oM 1 rfl<|oadN _ 1 om9 rfl<|oM 1 rfl<|.nl)<|nN<|?_; clear h146
      have hM5 : RdM code.l R (absR g2 M2) (absR gn146 N146) mn146 k (nth M3 k).l (ds ++ [d]) := by have h9 := hM4.lead hM4.rd.mu hmem (by omega); have e0 := hln146; rw [hel] at e0; have e1 := congrArg Prod.fst e0; have e2 := congrArg Prod.snd e0; simp only at e1 e2; rw [e1, e2]; exact h9
      intro a147 w147 h147
      refine x_again ⟨_, ?_, (q + 1), gn146, N146, mn146, (ds ++ [d]), ?_, ?_, ?_, ?_, h147.nrm ⟨rfl, rfl, rfl, rfl, rfl, rfl, rfl, trivial⟩ [4, 5, 3, 6, 2, 0, 1, 7] rfl, rfl⟩
      · rw [hm119]; first | omega | (simp only [lens9]; omega)
      · omega
      · assumption
      · first | exact hM5 | exact hM4
      · intro j hj he9; rcases Nat.lt_or_ge j q with h9 | h9; (first | exact List.mem_append.2 (.inl (hds j h9 he9)) | exact hds j h9 he9); (obtain rfl : j = q := by omega); first | exact List.mem_append.2 (.inr (List.mem_singleton.2 (by omega))) | (exfalso; unfold En at he9; first | omega | simp_all)
     refine gS<|hK k125<|gL<|gRn (oM 1 rfl<|oadN _ 1 om9 rfl<|oM 1 rfl<|.nl)<|nN<|fun a148 w148 h148 => x_again ⟨_, ?_, (q + 1), g4, M4, more4, ds, ?_, ?_, ?_, ?_, h148.nf ⟨rfl, rfl, rfl, rfl, rfl, rfl, rfl, trivial⟩, rfl⟩
     · rw [hm119]; first | omega | (simp only [lens9]; omega)
     · omega
     · assumption
     · first | exact hM5 | exact hM4
     · intro j hj he9; rcases Nat.lt_or_ge j q with h9 | h9; (first | exact List.mem_append.2 (.inl (hds j h9 he9)) | exact hds j h9 he9); (obtain rfl : j = q := by omega); first | exact List.mem_append.2 (.inr (List.mem_singleton.2 (by omega))) | (exfalso; unfold En at he9; first | omega | simp_all)
    refine gRn (oKs 6 hb137 rfl rfl<|oG hb127 (r_pickF rfl rfl hb137 rfl) rfl<|opF hb127 rfl<|.nl)<|nK k126<|gcF rfl rfl<|gS<|hK k125<|gL<|gRn (oM 1 rfl<|oadN _ 1 om9 rfl<|oM 1 rfl<|.nl)<|nN<|fun a149 w149 h149 => x_again ⟨_, ?_, (q + 1), g4, M4, more4, ds, ?_, ?_, ?_, ?_, h149.nf ⟨rfl, rfl, rfl, rfl, rfl, rfl, rfl, trivial⟩, rfl⟩
    · rw [hm119]; first | omega | (simp only [lens9]; omega)
    · omega
    · assumption
    · first | exact hM5 | exact hM4
    · intro j hj he9; rcases Nat.lt_or_ge j q with h9 | h9; (first | exact List.mem_append.2 (.inl (hds j h9 he9)) | exact hds j h9 he9); (obtain rfl : j = q := by omega); first | exact List.mem_append.2 (.inr (List.mem_singleton.2 (by omega))) | (exfalso; unfold En at he9; first | omega | simp_all)
   refine gX<|hK k60<|gL<|gRn (oM 1 rfl<|oadN _ 1 om9 rfl<|oM 1 rfl<|.nl)<|nN<|fun a150 w150 h150 => x_again ⟨_, ?_, (k + 1), g4, M4, more4, ?_, ?_, ?_, ?_, h150.nrm ⟨rfl, rfl, rfl, trivial⟩ [4, 5, 6, 7] rfl, rfl⟩
   · rw [hm55]; first | omega | (simp only [lens9]; omega)
   · omega
   · first | exact hO4 | exact hO3
   · first | exact hM4.fin (fun d hd => by obtain ⟨j, hj1, hj2, rfl⟩ := hvo.en (by rw [hel]; exact hd); exact hds j (by omega) hj2) | exact hR3.skip (abs_not (by first | assumption | simpa using (by assumption)))
   · first | exact hM4.le | exact hE3
  refine gX<|fun a151 w151 h151 => ?_
  change ∃ _m, _m < _ ∧ _
  refine ⟨_, ?_, g3, M3, more3, ?_, ?_, h151.nf ⟨rfl, rfl, trivial⟩, rfl⟩
  · rw [hm47]; have h8 := hd_down hR3 hE3; have h7 : (if more2 = true then 1 else 0) = 1 := if_pos (by assumption); omega
  · exact hO3
  · exact HdI.next hR3 (by omega)
 refine gX<|hK k46<|sG (oM 2 rfl<|.nl)<|gR<|fun a153 w153 h153 => x_ret1 (fn := Try.f29) (t := 4) rfl h153 rfl ?_
 obtain rfl : more2 = false := by first | assumption | simpa using (by assumption)
 exact ⟨_, ⟨v14, g2⟩, v0, M2, rfl, hO2, hH.done rfl, (h153.sh.sel [1, 2, 0] rfl)⟩

end Go.Proofs.Ytmgikmjmdppfmaa
