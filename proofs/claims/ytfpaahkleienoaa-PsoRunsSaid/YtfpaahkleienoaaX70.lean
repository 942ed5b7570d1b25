/-
  The memory in which stores wait, in order, does as the document says; runs of the program in it.
-/
import Derived.Test.YtfpaahkleienoaaX69
import Derived.Test.YtfpaahkleienoaaX61
import Derived.Test.YtfpaahkleienoaaX64
import Derived.Test.YtfpaahkleienoaaX6
import Derived.Test.YtfpaahkleienoaaS24
namespace Go.Proofs.Ytfpaahkleienoaa
open Go.RowKit
set_option linter.unusedSimpArgs false
set_option linter.unusedVariables false


theorem matX_rd {E E2 : TypeId} {v : Value} {M : List (Ls Wt)} {b : Nat} (h : (Asn.big (matX (.own E) E2 v M)).rd b) : False := by
  obtain ⟨A, hA, hb⟩ := h
  rcases List.mem_cons.1 hA with rfl | hA
  · exact Flat.noRd hb
  · obtain ⟨s, _, rfl⟩ := List.mem_map.1 hA
    exact Flat.noRd hb
/-- The memory in which stores wait. -/
def memT (g1 g0 : Nat) : MemS := ⟨Ls (Ls Wt), fun q => q.l.map (·.l), fun q => .big [.blk g1 214 [.pointer (some ⟨g0, 0, none⟩), q.v], .big (matX (.own 267) 268 q.v q.l)], 126, ⟨g1, 0, none⟩, g0, 1⟩
theorem memT_rd {g1 g0 : Nat} {q : Ls (Ls Wt)} {b : Nat} (h : ((memT g1 g0).X q).rd b) : False := by
  obtain ⟨A, hA, hb⟩ := h
  simp only [List.mem_cons, List.not_mem_nil, or_false] at hA
  rcases hA with rfl | rfl
  · exact hb
  · exact matX_rd hb
theorem memT_nth {q : Ls (Ls Wt)} {t : Nat} (h : t < (q.l.map (·.l)).length) : nth (q.l.map (·.l)) t = (nth q.l t).l := nth_map' (fun x : Ls Wt => x.l) q.l t (by simpa using h)
theorem memT_at {g1 g0 : Nat} {q : Ls (Ls Wt)} {w : World} (h : ((memT g1 g0).X q).ok w) : Blk w g1 214 #[.pointer (some ⟨g0, 0, none⟩), q.v] ∧ q.At w := by
  obtain ⟨h1, h2, h3⟩ := h
  refine ⟨h1 _ (List.mem_cons_self ..), ?_⟩
  have hb := h1 _ (List.mem_cons_of_mem _ (List.mem_cons_self ..))
  have hs : Sh (fun _ => True) w w [.big (matX (.own 267) 268 q.v q.l)] := ⟨Chg.refl _ _, by simpa using hb, fun _ _ _ _ => .inl trivial, by
    intro A hA b _ hr
    obtain rfl := List.mem_singleton.1 hA
    exact matX_rd hr, List.pairwise_singleton _ _⟩
  exact (hs.matDeep own_mat).deep 0 rfl
theorem memT_open {g1 g0 : Nat} {K : Nat → Prop} {W w : World} {words owner : Ls Int} {q : Ls (Ls Wt)} (h : Sh K W w (memA 205 3 (memT g1 g0) words owner q)) : Sh K W w ([.blk g1 214 [.pointer (some ⟨g0, 0, none⟩), q.v], .big (matX (.own 267) 268 q.v q.l)] ++ [.blk g0 205 [words.v, owner.v], .own 3 words, .own 3 owner]) :=
  (h.sel (L' := [(memT g1 g0).X q, .blk g0 205 [words.v, owner.v], .own 3 words, .own 3 owner]) [3, 0, 1, 2] (by decide) ⟨rfl, rfl, rfl, rfl, trivial⟩).open_
theorem memT_close {g1 g0 : Nat} {K : Nat → Prop} {W w : World} {words owner : Ls Int} {q : Ls (Ls Wt)} (h : Sh K W w ([.blk g1 214 [.pointer (some ⟨g0, 0, none⟩), q.v], .big (matX (.own 267) 268 q.v q.l)] ++ [.blk g0 205 [words.v, owner.v], .own 3 words, .own 3 owner])) : Sh K W w (memA 205 3 (memT g1 g0) words owner q) :=
  (Sh.close h).sel [1, 2, 3, 0] (by decide) ⟨rfl, rfl, rfl, rfl, trivial⟩
theorem memT_st {g1 g0 t : Nat} {x : Wt} {words owner : Ls Int} {q : Ls (Ls Wt)} {u : Ls Wt} (h : t < (q.l.map (·.l)).length) (e : u.l = (nth q.l t).l ++ [x]) : StoreP (memT g1 g0) t x words owner q words owner (⟨q.v, q.l.set t u⟩ : Ls (Ls Wt)) := by
  refine ⟨u.l, ?_, fun pc regs prints fell => ?_⟩
  · show (q.l.set t u).map (·.l) = (q.l.map (·.l)).set t u.l
    rw [List.map_set]
  · show _ = TS.store 1 ⟨pc, regs, nth (q.l.map (·.l)) t, words.l, owner.l, prints, fell⟩ x
    rw [memT_nth h, e]
    unfold TS.store
    rw [if_pos (by decide)]
/-- A method of a struct's first field, a pointer, as the method of a pointer to the struct. -/
def embI (P : Program) (T : TypeId) (name : String) : Option (FuncId × TypeId) :=
  match P.info? T with
  | none => none
  | some i => match i.methods.find? (·.name == name) with
    | none => none
    | some m => match m.path.toList, m.func with
      | [st], some (f, true) => match P.underlying st.struct with
        | some (.struct fs) => match fs[st.index]? with
          | none => none
          | some fd => match P.info? fd.type, P.underlying fd.type with
            | some fi, some (.pointer _) => if st.deref = true ∧ fd.offset = 0 ∧ fi.size ≠ 0 then some (f, fd.type) else none
            | _, _ => none
        | _ => none
      | _, _ => none
theorem meth_emb {P : Program} {n g1 : Nat} {T xt : TypeId} {name : String} {f : FuncId} {r : Value} {w : World} (hn : Nat.blt 0 n = true) (hI : embI P T name = some (f, xt)) (hl : (loadVar xt ⟨g1, 0, none⟩).run P w = .ok r w) : (method n T (.pointer (some ⟨g1, 0, none⟩)) name).run P w = .ok (f, r) w := by
  obtain ⟨n, rfl⟩ : ∃ n', n = n' + 1 := ⟨n - 1, by rw [Nat.blt_eq] at hn; omega⟩
  unfold embI at hI
  split at hI
  · cases hI
  rename_i i hi
  split at hI
  · cases hI
  rename_i m hm
  split at hI
  · rename_i st f' hp hf
    split at hI
    · rename_i fs hfs
      split at hI
      · cases hI
      rename_i fd hfd
      split at hI
      · rename_i fi e hfi hfu
        split at hI
        · rename_i hc
          cases hI
          obtain ⟨h1, h2, h3⟩ := hc
          unfold method
          simp [typeInfo, hi, hm, hp, hf, follow, run_underlying hfs, hfd, h1, Place.get, asAddr, fieldPlace, sizeOf, hfi, h3, h2, receiverAt, run_underlying hfu, hl, Addr.add]
        · cases hI
      · cases hI
    · cases hI
  · cases hI
theorem methT_ld {g1 g0 : Nat} {w : World} {v : Value} (h : Blk w g1 214 #[.pointer (some ⟨g0, 0, none⟩), v]) : (loadVar 116 ⟨g1, 0, none⟩).run Try.prog w = .ok (.pointer (some ⟨g0, 0, none⟩)) w := by
  have hc := h.cells2.1
  unfold Blk at h
  simp [loadVar, World.cell?, h]
theorem mayK_tso (l : List Wt) : ((List.range l.length).filter (mayK 1 l)).map (fun k => ((k : Nat) : Int)) = if l.length = 0 then [] else [0] := by
  have e : mayK 1 l = fun k => decide (k = 0) := by
    funext k
    unfold mayK
    simp
  rw [e]
  cases h : l.length with
  | zero => rfl
  | succ n =>
    rw [if_neg (by omega), List.range_succ_eq_map, List.filter_cons, if_pos (by rfl), List.filter_eq_nil_iff.2]
    · rfl
    · intro x hx
      obtain ⟨y, _, rfl⟩ := List.mem_map.1 hx
      simp
theorem memT_ok (g1 g0 : Nat) : MemI Try.prog 205 3 (memT g1 g0) where
  load w words owner q t wd h ht hl hwd := ⟨191, ⟨g1, 0, none⟩, by kernel_rfl, bd_191, by
    have e : nth ((memT g1 g0).qs q) t = (nth q.l t).l := memT_nth ht
    rw [e] at hl ⊢
    have ht' : t < q.l.length := by simpa [memT] using ht
    obtain ⟨hB, hq⟩ := memT_at h.x
    obtain ⟨A, cap, hv, hA⟩ := hq
    have hr := hA.inner t ht'
    obtain ⟨A2, cap2, hv2, hA2⟩ := hr
    have hB' := hB
    rw [hv] at hB'
    have hc := callsIn_wide.1 (bufLoad_in g1 g0 t ⟨A, cap, q.l⟩ ⟨A2, cap2, (nth q.l t).l⟩ words owner wd w hB' h.blk h.wa h.oa hA ht' hv2 hA2 hl hwd)
    exact Calls.mono hc fun e w' he => ⟨_, he.1, rfl, ⟨Chg.below he.2, fun A hA => (by cases hA), fun A hA => (by cases hA), fun A hA => (by cases hA), List.Pairwise.nil⟩⟩⟩
  waits w words owner q t h ht hl := ⟨194, ⟨g1, 0, none⟩, by kernel_rfl, bd_194, by
    have e : nth ((memT g1 g0).qs q) t = (nth q.l t).l := memT_nth ht
    rw [e]
    obtain ⟨hB, hq⟩ := memT_at h.x
    exact tbWaits_c g1 g0 q t 0 w hB hq (by simpa [memT] using ht)⟩
  freeing w words owner q t a h ht hl hlk := ⟨190, ⟨g1, 0, none⟩, by kernel_rfl, bd_190, by
    have e : nth ((memT g1 g0).qs q) t = (nth q.l t).l := memT_nth ht
    rw [e] at hlk ⊢
    obtain ⟨hB, hq⟩ := memT_at h.x
    exact tbFreeing_c g1 g0 q t a w hB hq (by simpa [memT] using ht) hlk⟩
  ready w words owner q t h ht hl := ⟨192, ⟨g1, 0, none⟩, by kernel_rfl, bd_192, by
    have e : nth ((memT g1 g0).qs q) t = (nth q.l t).l := memT_nth ht
    rw [e]
    obtain ⟨hB, hq⟩ := memT_at h.x
    refine Rets.mono (tbReady_c g1 g0 q t 0 w hB hq (by simpa [memT] using ht)) ?_
    rintro v w' ⟨s, rfl, hs, h9⟩
    exact ⟨s, rfl, hs.trans (mayK_tso _).symm, h9⟩⟩
  base w words owner q h := ⟨179, ⟨g0, 0, none⟩, meth_emb (xt := 116) (by kernel_rfl) (by kernel_rfl) (methT_ld (memT_at h.x).1), bd_179, plBase_c g0 words owner 0 0 0 w h.blk h.wa h.oa⟩
  store K W words owner q t wd what hS ht hl hwd := ⟨193, ⟨g1, 0, none⟩, by kernel_rfl, bd_193, by
    have h := memT_open hS
    have e : nth ((memT g1 g0).qs q) t = (nth q.l t).l := memT_nth ht
    rw [e] at hl
    refine Rets.mono (tbStore_c _ g1 g0 q.v q.l t wd what W h.passL (by simpa [memT] using ht) (by omega)) ?_
    rintro v w' ⟨rfl, u, hu, hs⟩
    exact ⟨rfl, words, owner, ⟨q.v, q.l.set t u⟩, memT_st ht hu, memT_close (q := ⟨q.v, q.l.set t u⟩) (h.backL hs (by intro A hA b hb; simp only [List.mem_cons, List.not_mem_nil, or_false] at hA; rcases hA with rfl | rfl <;> first | exact (hb : False).elim | exact Flat.noRd hb | exact (matX_rd hb).elim))⟩⟩
  free K W words owner q t a hS ht hl ha := ⟨189, ⟨g1, 0, none⟩, by kernel_rfl, bd_189, by
    have h := memT_open hS
    have e : nth ((memT g1 g0).qs q) t = (nth q.l t).l := memT_nth ht
    rw [e] at hl
    refine Rets.mono (tbFree_c _ g1 g0 q.v q.l t a 0 W h.passL (by simpa [memT] using ht) (by omega)) ?_
    rintro v w' ⟨rfl, u, hu, hs⟩
    exact ⟨rfl, words, owner, ⟨q.v, q.l.set t u⟩, memT_st ht hu, memT_close (q := ⟨q.v, q.l.set t u⟩) (h.backL hs (by intro A hA b hb; simp only [List.mem_cons, List.not_mem_nil, or_false] at hA; rcases hA with rfl | rfl <;> first | exact (hb : False).elim | exact Flat.noRd hb | exact (matX_rd hb).elim))⟩⟩
  swap K W words owner q t wd what hS hwd := ⟨186, ⟨g0, 0, none⟩, meth_emb (xt := 116) (by kernel_rfl) (by kernel_rfl) (methT_ld (memT_at (hS.ok _ (List.mem_cons_of_mem _ (List.mem_cons_of_mem _ (List.mem_cons_of_mem _ (List.mem_cons_self ..)))))).1), bd_186, by
    have h : Sh K W W ([.blk g0 205 [words.v, owner.v], .own 3 words, .own 3 owner] ++ [(memT g1 g0).X q]) := hS
    refine Rets.mono (plSwap_c _ g0 words owner _ wd what W h.passL hwd) ?_
    rintro v w' ⟨rfl, hs⟩
    exact ⟨rfl, ⟨words.v, words.l.set wd.toNat what⟩, owner, q, ⟨rfl, rfl, rfl⟩, h.backL hs (by intro A hA b hb; simp only [List.mem_cons, List.not_mem_nil, or_false] at hA; rcases hA with rfl | rfl | rfl <;> first | exact (hb : False).elim | exact Flat.noRd hb)⟩⟩
  flush K W words owner q t k hS ht hl hk hw := ⟨188, ⟨g1, 0, none⟩, by kernel_rfl, bd_188, by
    have h := memT_open hS
    have e : nth ((memT g1 g0).qs q) t = (nth q.l t).l := memT_nth ht
    rw [e] at hl hk hw
    refine Rets.mono (tbFlush_c K g1 g0 q.v q.l words owner t k W h (by simpa [memT] using ht) (by omega) hk (hw k hk)) ?_
    rintro v w' ⟨rfl, u, hu, hs⟩
    refine ⟨rfl, _, _, ⟨q.v, q.l.set t u⟩, ⟨u.l, ?_, fun pc regs prints fell => ?_⟩, memT_close (words := ⟨words.v, if (nth (nth q.l t).l k).lock = true then words.l else words.l.set (nth (nth q.l t).l k).wh.toNat (nth (nth q.l t).l k).what⟩) (owner := ⟨owner.v, if (nth (nth q.l t).l k).lock = true then owner.l.set (nth (nth q.l t).l k).wh.toNat (-1) else owner.l⟩) (q := ⟨q.v, q.l.set t u⟩) hs⟩
    · show (q.l.set t u).map (·.l) = (q.l.map (·.l)).set t u.l
      rw [List.map_set]
    · rw [e, hu]
      rfl⟩
  xrd q b h := memT_rd h

set_option maxRecDepth 100000 in
set_option maxHeartbeats 4000000 in
theorem tnew_c (code : Ls (Ls Ins)) (words0 : Ls Int) (Lk : Nat) (nregs : Int) (W : World) (hcode : code.At W) (hwords : words0.At W) (hcl : code.l.length ≤ 100) (hwn : words0.l.length ≤ 64) (hlk : Lk ≤ 4) :
    Rets Try.prog 81 [.agg #[code.v, words0.v, .int .i64 ((Lk : Nat) : Int), .int .i64 nregs]] W (fun v w' => ∃ (gt g : Nat) (words' owner' : Ls Int) (q : Ls (Ls Wt)), v = .pointer (some ⟨gt, 0, none⟩) ∧ words'.l = words0.l ∧ owner'.l = List.replicate Lk (-1) ∧ (memT gt g).qs q = List.replicate code.l.length [] ∧ Sh0 W w' (memA 205 3 (memT gt g) words' owner' q)) := by
 refine x_enter (N := 11) Try.func81 rfl Try.ntmps81 (Nat.le_of_ble_eq_true rfl) fun a1 hf1 => ?_
 have h1 : St 11 (fun _ => False) W a1 W [(0, .agg #[code.v, words0.v, .int .i64 ((Lk : Nat) : Int), .int .i64 nregs])] [.at_ code, .at_ words0] := ⟨hf1.sub ⟨rfl, trivial⟩, Sh0.ext2 hcode hwords⟩
 clear hf1
 refine wp_seq_k fun K2 hK2 => wp_region_lit <| wl_ex (x_box (cs := [code.v, words0.v, .int .i64 ((Lk : Nat) : Int), .int .i64 nregs]) h1 rfl rfl rfl rfl rfl) (wanted_none rfl _) ?_
 rintro a3 w3 ⟨b3, h3⟩; clear h1
 refine wms 1 h3 rfl fun a4 h4 => wpList_nil <| hK2 _ _ <| wp_seq_k fun K5 hK5 => ?_; clear h3
 have h6 : St 11 (fun _ => False) W a4 w3 [(0, .agg #[code.v, words0.v, .int .i64 ((Lk : Nat) : Int), .int .i64 nregs]), (1, .pointer (some ⟨b3, 0, none⟩))] [.blk b3 25 [code.v, words0.v, .int .i64 ((Lk : Nat) : Int), .int .i64 nregs], .at_ code, .at_ words0] := h4.nrm ⟨rfl, rfl, trivial⟩ [0, 1, 2] (by decide) ⟨rfl, rfl, rfl, trivial⟩
 clear h4
 refine x_any ((fun Φ Ψ S a w => (S 1 = false ∧ S 5 = false ∧ S 7 = false ∧ FrI 11 S Φ Ψ a ∧ Sh (fun _ => False) W w [.blk b3 25 [code.v, words0.v, .int .i64 ((Lk : Nat) : Int), .int .i64 nregs], .at_ code, .at_ words0]) ∨ (S 1 = true ∧ S 5 = false ∧ S 7 = false ∧ ∃ (g7001 : Nat) (mw7001 : Ls Int) (mo7001 : Ls Int), (mw7001.l = words0.l) ∧ (mo7001.l = List.replicate Lk (-1)) ∧ FrI 11 S Φ (Ψ ++ [(1, 4, .pointer (some ⟨g7001, 0, none⟩))]) a ∧ Sh (fun _ => False) W w [.blk g7001 205 [mw7001.v, mo7001.v], .own 3 mw7001, .own 3 mo7001, .blk b3 25 [code.v, words0.v, .int .i64 ((Lk : Nat) : Int), .int .i64 nregs], .at_ code, .at_ words0]) ∨ (S 1 = false ∧ S 5 = true ∧ S 7 = false ∧ ∃ (v7005 : Value), FrI 11 S Φ (Ψ ++ [(5, 8, v7005)]) a ∧ Sh (fun _ => False) W w [.big (matX (.own 267) 268 v7005 (List.replicate code.l.length (⟨.slice none 0 0, []⟩ : Ls Wt))), .blk b3 25 [code.v, words0.v, .int .i64 ((Lk : Nat) : Int), .int .i64 nregs], .at_ code, .at_ words0]) ∨ (S 1 = true ∧ S 5 = true ∧ S 7 = false ∧ ∃ (g7001 : Nat) (mw7001 : Ls Int) (mo7001 : Ls Int) (v7005 : Value), (mw7001.l = words0.l) ∧ (mo7001.l = List.replicate Lk (-1)) ∧ FrI 11 S Φ (Ψ ++ [(1, 4, .pointer (some ⟨g7001, 0, none⟩)), (5, 8, v7005), (6, 9, .agg #[.pointer (some ⟨g7001, 0, none⟩), v7005])]) a ∧ Sh (fun _ => False) W w [.big (matX (.own 267) 268 v7005 (List.replicate code.l.length (⟨.slice none 0 0, []⟩ : Ls Wt))), .blk g7001 205 [mw7001.v, mo7001.v], .own 3 mw7001, .own 3 mo7001, .blk b3 25 [code.v, words0.v, .int .i64 ((Lk : Nat) : Int), .int .i64 nregs], .at_ code, .at_ words0]) ∨ (S 1 = true ∧ S 5 = true ∧ S 7 = true ∧ ∃ (g7001 : Nat) (mw7001 : Ls Int) (mo7001 : Ls Int) (v7005 : Value) (b7007 : Nat), (mw7001.l = words0.l) ∧ (mo7001.l = List.replicate Lk (-1)) ∧ FrI 11 S Φ (Ψ ++ [(1, 4, .pointer (some ⟨g7001, 0, none⟩)), (5, 8, v7005), (6, 9, .agg #[.pointer (some ⟨g7001, 0, none⟩), v7005]), (7, 10, .pointer (some ⟨b7007, 0, none⟩)), (8, 2, .pointer (some ⟨b7007, 0, none⟩))]) a ∧ Sh (fun _ => False) W w [.blk b7007 214 [.pointer (some ⟨g7001, 0, none⟩), v7005], .big (matX (.own 267) 268 v7005 (List.replicate code.l.length (⟨.slice none 0 0, []⟩ : Ls Wt))), .blk g7001 205 [mw7001.v, mo7001.v], .own 3 mw7001, .own 3 mo7001, .blk b3 25 [code.v, words0.v, .int .i64 ((Lk : Nat) : Int), .int .i64 nregs], .at_ code, .at_ words0])) [(0, .agg #[code.v, words0.v, .int .i64 ((Lk : Nat) : Int), .int .i64 nregs]), (1, .pointer (some ⟨b3, 0, none⟩))] [(0, 3, .agg #[code.v, words0.v, .int .i64 ((Lk : Nat) : Int), .int .i64 nregs]), (2, 5, .pointer (some ⟨b3, 0, none⟩)), (3, 6, code.v), (4, 7, .int .i64 ((code.l.length : Nat) : Int))]) (by kernel_rfl) (by kernel_rfl) (Or.inl (⟨rfl, rfl, rfl, FrI.start h6.fr, h6.sh.drew⟩)) ?_ ?_
 ·intro S i o ho hSi hcl hdep a w hI
  clear h6
  rcases i with _ | _ | _ | _ | _ | _ | _ | _ | _ | i
  ·obtain rfl : _ = o := Option.some.inj ho
   rcases hI with ⟨ν1, ν5, ν7, φ, ς⟩ | ⟨ν1, _⟩ | ⟨ν1, ν5, ν7, v7005, φ, ς⟩ | ⟨ν1, _⟩ | ⟨ν1, _⟩
   ·exact sq φ φ.fr0 ς (r_ldbw (i := 0) (vs := [code.v, words0.v, .int .i64 ((Lk : Nat) : Int), .int .i64 nregs]) ti_25 rfl rfl rfl rfl rfl) 0 rfl rfl rfl rfl rfl rfl fun a hg => Or.inl (⟨un rfl ν1, un rfl ν5, un rfl ν7, hg, ς⟩)
   ·exact no_way (cA hcl 1 0 rfl ν1) hSi
   ·exact sq φ φ.fr0 ς (r_ldbw (i := 1) (vs := [code.v, words0.v, .int .i64 ((Lk : Nat) : Int), .int .i64 nregs]) ti_25 rfl rfl rfl rfl rfl) 0 rfl rfl rfl rfl rfl rfl fun a hg => Or.inr (Or.inr (Or.inl (⟨un rfl ν1, un rfl ν5, un rfl ν7, v7005, hg, ς⟩)))
   ·exact no_way (cA hcl 1 0 rfl ν1) hSi
   ·exact no_way (cA hcl 1 0 rfl ν1) hSi
  ·obtain rfl : _ = o := Option.some.inj ho
   have hd0 : S 0 = true := depAt hdep 0 rfl rfl
   rcases hI with ⟨ν1, ν5, ν7, φ, ς⟩ | ⟨ν1, _⟩ | ⟨ν1, ν5, ν7, v7005, φ, ς⟩ | ⟨ν1, _⟩ | ⟨ν1, _⟩
   ·have hs := St.mk (Fr.cons φ.fr0 (φ.at_ 0 0 3 _ rfl hd0)) ς
    refine step_ex (x_call hs bd_76 rfl rfl rfl rfl rfl (pnew_c words0 Lk code.v nregs _ (hs.sh.at 2 rfl) (by omega) (by omega))) (wanted_none rfl _) ?_
    rintro a17 w17 ⟨_, ⟨g17, mw17, mo17, rfl, hmw17, hmo17, hs17⟩, hf17⟩ ⟨v0, ht17⟩
    have h17 := (⟨hf17, hs.sh.call hs17 (by intro A hA b hb; simp only [memA, List.mem_cons, List.not_mem_nil, or_false] at hA; first | (subst hA; exact Flat.noRd hb) | (rcases hA with rfl | rfl | rfl | rfl <;> first | exact (hb : False).elim | exact Flat.noRd hb | exact (memT_rd hb).elim))⟩ : St 11 (fun _ => False) W a17 w17 _ _)
    clear hf17 hs17
    exact Or.inr (Or.inl (⟨upd_self _ _, un rfl ν5, un rfl ν7, g17, mw17, mo17, hmw17, hmo17, φ.stepW hcl hSi [0, 1, 2, 3] (by kernel_rfl) (by kernel_rfl) ht17 h17.fr.defers (h17.fr.at_ 4 _ rfl) 4 rfl rfl rfl rfl, (h17.sh.sel (L' := [.blk g17 205 [mw17.v, mo17.v], .own 3 mw17, .own 3 mo17, .blk b3 25 [code.v, words0.v, .int .i64 ((Lk : Nat) : Int), .int .i64 nregs], .at_ code, .at_ words0]) [0, 1, 2, 3, 4, 5] (by decide) ⟨rfl, rfl, rfl, rfl, rfl, rfl, trivial⟩)⟩))
   ·exact no_way ν1 hSi
   ·have hs := St.mk (Fr.cons φ.fr0 (φ.at_ 0 0 3 _ rfl hd0)) ς
    refine step_ex (x_call hs bd_76 rfl rfl rfl rfl rfl (pnew_c words0 Lk code.v nregs _ (hs.sh.at 3 rfl) (by omega) (by omega))) (wanted_none rfl _) ?_
    rintro a18 w18 ⟨_, ⟨g18, mw18, mo18, rfl, hmw18, hmo18, hs18⟩, hf18⟩ ⟨v0, ht18⟩
    have h18 := (⟨hf18, hs.sh.call hs18 (by intro A hA b hb; simp only [memA, List.mem_cons, List.not_mem_nil, or_false] at hA; first | (subst hA; exact Flat.noRd hb) | (rcases hA with rfl | rfl | rfl | rfl <;> first | exact (hb : False).elim | exact Flat.noRd hb | exact (memT_rd hb).elim))⟩ : St 11 (fun _ => False) W a18 w18 _ _)
    clear hf18 hs18
    exact Or.inr (Or.inr (Or.inr (Or.inl (⟨upd_self _ _, un rfl ν5, un rfl ν7, g18, mw18, mo18, v7005, hmw18, hmo18, φ.stepW hcl hSi [0, 1, 2, 3, 5] (by kernel_rfl) (by kernel_rfl) ht18 h18.fr.defers (h18.fr.at_ 4 _ rfl) 4 rfl rfl rfl rfl, (h18.sh.sel (L' := [.big (matX (.own 267) 268 v7005 (List.replicate code.l.length (⟨.slice none 0 0, []⟩ : Ls Wt))), .blk g18 205 [mw18.v, mo18.v], .own 3 mw18, .own 3 mo18, .blk b3 25 [code.v, words0.v, .int .i64 ((Lk : Nat) : Int), .int .i64 nregs], .at_ code, .at_ words0]) [3, 0, 1, 2, 4, 5, 6] (by decide) ⟨rfl, rfl, rfl, rfl, rfl, rfl, rfl, trivial⟩)⟩))))
   ·exact no_way ν1 hSi
   ·exact no_way ν1 hSi
  ·obtain rfl : _ = o := Option.some.inj ho
   rcases hI with ⟨ν1, ν5, ν7, φ, ς⟩ | ⟨ν1, ν5, ν7, g7001, mw7001, mo7001, hmw7001, hmo7001, φ, ς⟩ | ⟨_, ν5, _⟩ | ⟨_, ν5, _⟩ | ⟨_, ν5, _⟩
   ·exact sq φ φ.fr0 ς (r_fieldB (r := 0) fl_25_0 rfl rfl rfl) 1 rfl rfl rfl rfl rfl rfl fun a hg => Or.inl (⟨un rfl ν1, un rfl ν5, un rfl ν7, hg, ς⟩)
   ·exact sq φ φ.fr0 ς (r_fieldB (r := 0) fl_25_0 rfl rfl rfl) 1 rfl rfl rfl rfl rfl rfl fun a hg => Or.inr (Or.inl (⟨un rfl ν1, un rfl ν5, un rfl ν7, g7001, mw7001, mo7001, hmw7001, hmo7001, hg, ς⟩))
   ·exact no_way (cA hcl 5 2 rfl ν5) hSi
   ·exact no_way (cA hcl 5 2 rfl ν5) hSi
   ·exact no_way (cA hcl 5 2 rfl ν5) hSi
  ·obtain rfl : _ = o := Option.some.inj ho
   have hd2 : S 2 = true := depAt hdep 0 rfl rfl
   rcases hI with ⟨ν1, ν5, ν7, φ, ς⟩ | ⟨ν1, ν5, ν7, g7001, mw7001, mo7001, hmw7001, hmo7001, φ, ς⟩ | ⟨_, ν5, _⟩ | ⟨_, ν5, _⟩ | ⟨_, ν5, _⟩
   ·exact sq φ (Fr.cons φ.fr0 (φ.at_ 1 2 5 _ rfl hd2)) ς (r_ldb (i := 0) ti_22 rfl rfl rfl rfl) 2 rfl rfl rfl rfl rfl rfl fun a hg => Or.inl (⟨un rfl ν1, un rfl ν5, un rfl ν7, hg, ς⟩)
   ·exact sq φ (Fr.cons φ.fr0 (φ.at_ 1 2 5 _ rfl hd2)) ς (r_ldb (i := 3) ti_22 rfl rfl rfl rfl) 2 rfl rfl rfl rfl rfl rfl fun a hg => Or.inr (Or.inl (⟨un rfl ν1, un rfl ν5, un rfl ν7, g7001, mw7001, mo7001, hmw7001, hmo7001, hg, ς⟩))
   ·exact no_way (cA hcl 5 3 rfl ν5) hSi
   ·exact no_way (cA hcl 5 3 rfl ν5) hSi
   ·exact no_way (cA hcl 5 3 rfl ν5) hSi
  ·obtain rfl : _ = o := Option.some.inj ho
   have hd3 : S 3 = true := depAt hdep 0 rfl rfl
   rcases hI with ⟨ν1, ν5, ν7, φ, ς⟩ | ⟨ν1, ν5, ν7, g7001, mw7001, mo7001, hmw7001, hmo7001, φ, ς⟩ | ⟨_, ν5, _⟩ | ⟨_, ν5, _⟩ | ⟨_, ν5, _⟩
   ·have hs := St.mk (Fr.cons φ.fr0 (φ.at_ 2 3 6 _ rfl hd3)) ς
    have hl23 : code.l.length ≤ 140737488355328 := (hs.sh.at 1 rfl).len
    exact sq φ (Fr.cons φ.fr0 (φ.at_ 2 3 6 _ rfl hd3)) ς (r_len (s := code) (n := code.l.length) sl_22 rfl rfl (fun w h => (h.at 1 rfl)) rfl) 3 rfl rfl rfl rfl rfl rfl fun a hg => Or.inl (⟨un rfl ν1, un rfl ν5, un rfl ν7, hg, ς⟩)
   ·have hs := St.mk (Fr.cons φ.fr0 (φ.at_ 2 3 6 _ rfl hd3)) ς
    have hl25 : code.l.length ≤ 140737488355328 := (hs.sh.at 4 rfl).len
    exact sq φ (Fr.cons φ.fr0 (φ.at_ 2 3 6 _ rfl hd3)) ς (r_len (s := code) (n := code.l.length) sl_22 rfl rfl (fun w h => (h.at 4 rfl)) rfl) 3 rfl rfl rfl rfl rfl rfl fun a hg => Or.inr (Or.inl (⟨un rfl ν1, un rfl ν5, un rfl ν7, g7001, mw7001, mo7001, hmw7001, hmo7001, hg, ς⟩))
   ·exact no_way (cA hcl 5 4 rfl ν5) hSi
   ·exact no_way (cA hcl 5 4 rfl ν5) hSi
   ·exact no_way (cA hcl 5 4 rfl ν5) hSi
  ·obtain rfl : _ = o := Option.some.inj ho
   have hd4 : S 4 = true := depAt hdep 0 rfl rfl
   rcases hI with ⟨ν1, ν5, ν7, φ, ς⟩ | ⟨ν1, ν5, ν7, g7001, mw7001, mo7001, hmw7001, hmo7001, φ, ς⟩ | ⟨_, ν5, _⟩ | ⟨_, ν5, _⟩ | ⟨_, ν5, _⟩
   ·have hs := St.mk (Fr.cons φ.fr0 (φ.at_ 3 4 7 _ rfl hd4)) ς
    refine step_ex (x_makeMat (n := code.l.length) hs sl_212 ti_268 rfl rfl rfl (show 24 * code.l.length ≤ 140737488355328 ∧ code.l.length ≤ 140737488355328 from (by omega)) rfl rfl 267 Wt) (wanted_none rfl _) ?_
    rintro a27 w27 ⟨v27, h27⟩ ⟨v0, ht27⟩
    exact Or.inr (Or.inr (Or.inl (⟨un rfl ν1, upd_self _ _, un rfl ν7, v27, φ.stepW hcl hSi [0, 1, 2, 3] (by kernel_rfl) (by kernel_rfl) ht27 h27.fr.defers (h27.fr.at_ 8 _ rfl) 4 rfl rfl rfl rfl, (h27.sh.sel (L' := [.big (matX (.own 267) 268 v27 (List.replicate code.l.length (⟨.slice none 0 0, []⟩ : Ls Wt))), .blk b3 25 [code.v, words0.v, .int .i64 ((Lk : Nat) : Int), .int .i64 nregs], .at_ code, .at_ words0]) [0, 1, 2, 3] (by decide) ⟨rfl, rfl, rfl, rfl, trivial⟩)⟩)))
   ·have hs := St.mk (Fr.cons φ.fr0 (φ.at_ 3 4 7 _ rfl hd4)) ς
    refine step_ex (x_makeMat (n := code.l.length) hs sl_212 ti_268 rfl rfl rfl (show 24 * code.l.length ≤ 140737488355328 ∧ code.l.length ≤ 140737488355328 from (by omega)) rfl rfl 267 Wt) (wanted_none rfl _) ?_
    rintro a28 w28 ⟨v28, h28⟩ ⟨v0, ht28⟩
    exact Or.inr (Or.inr (Or.inr (Or.inl (⟨un rfl ν1, upd_self _ _, un rfl ν7, g7001, mw7001, mo7001, v28, hmw7001, hmo7001, φ.stepW hcl hSi [0, 1, 2, 3, 4] (by kernel_rfl) (by kernel_rfl) ht28 h28.fr.defers (h28.fr.at_ 8 _ rfl) 5 rfl rfl rfl rfl, (h28.sh.sel (L' := [.big (matX (.own 267) 268 v28 (List.replicate code.l.length (⟨.slice none 0 0, []⟩ : Ls Wt))), .blk g7001 205 [mw7001.v, mo7001.v], .own 3 mw7001, .own 3 mo7001, .blk b3 25 [code.v, words0.v, .int .i64 ((Lk : Nat) : Int), .int .i64 nregs], .at_ code, .at_ words0]) [0, 1, 2, 3, 4, 5, 6] (by decide) ⟨rfl, rfl, rfl, rfl, rfl, rfl, rfl, trivial⟩)⟩))))
   ·exact no_way ν5 hSi
   ·exact no_way ν5 hSi
   ·exact no_way ν5 hSi
  ·obtain rfl : _ = o := Option.some.inj ho
   have hd1 : S 1 = true := depAt hdep 0 rfl rfl
   have hd5 : S 5 = true := depAt hdep 1 rfl rfl
   rcases hI with ⟨ν1, _⟩ | ⟨_, ν5, _⟩ | ⟨ν1, _⟩ | ⟨ν1, ν5, ν7, g7001, mw7001, mo7001, v7005, hmw7001, hmo7001, φ, ς⟩ | ⟨_, _, ν7, _⟩
   ·exact no_way hd1 ν1
   ·exact no_way hd5 ν5
   ·exact no_way hd1 ν1
   ·have hs := St.mk (Fr.cons (Fr.cons φ.fr0 (φ.at_ 4 1 4 _ rfl hd1)) (φ.at_ 5 5 8 _ rfl hd5)) ς
    exact sq φ (Fr.cons (Fr.cons φ.fr0 (φ.at_ 4 1 4 _ rfl hd1)) (φ.at_ 5 5 8 _ rfl hd5)) ς (r_build (cs := [.pointer (some ⟨g7001, 0, none⟩), v7005]) rfl rfl (by obtain ⟨A29, n29, c29, (e29 : v7005 = _)⟩ := ((hs.sh.matAt 0 rfl)).form; rw [e29]; kernel_rfl)) 6 rfl rfl rfl rfl rfl rfl fun a hg => Or.inr (Or.inr (Or.inr (Or.inl (⟨un rfl ν1, un rfl ν5, un rfl ν7, g7001, mw7001, mo7001, v7005, hmw7001, hmo7001, hg, ς⟩))))
   ·exact no_way (cA hcl 7 6 rfl ν7) hSi
  ·obtain rfl : _ = o := Option.some.inj ho
   have hd6 : S 6 = true := depAt hdep 0 rfl rfl
   rcases hI with ⟨ν1, _⟩ | ⟨_, ν5, _⟩ | ⟨ν1, _⟩ | ⟨ν1, ν5, ν7, g7001, mw7001, mo7001, v7005, hmw7001, hmo7001, φ, ς⟩ | ⟨_, _, ν7, _⟩
   ·exact no_way (cA hcl 6 1 rfl hd6) ν1
   ·exact no_way (cA hcl 6 5 rfl hd6) ν5
   ·exact no_way (cA hcl 6 1 rfl hd6) ν1
   ·have hs := St.mk (Fr.cons φ.fr0 (φ.at_ 6 6 9 _ rfl hd6)) ς
    refine step_ex (x_box (cs := [.pointer (some ⟨g7001, 0, none⟩), v7005]) hs rfl rfl rfl rfl rfl) (wanted_none rfl _) ?_
    rintro a31 w31 ⟨b31, h31⟩ ⟨v0, ht31⟩
    exact Or.inr (Or.inr (Or.inr (Or.inr (⟨un rfl ν1, un rfl ν5, upd_self _ _, g7001, mw7001, mo7001, v7005, b31, hmw7001, hmo7001, φ.stepW hcl hSi [0, 1, 2, 3, 4, 5, 6] (by kernel_rfl) (by kernel_rfl) ht31 h31.fr.defers (h31.fr.at_ 10 _ rfl) 7 rfl rfl rfl rfl, (h31.sh.sel (L' := [.blk b31 214 [.pointer (some ⟨g7001, 0, none⟩), v7005], .big (matX (.own 267) 268 v7005 (List.replicate code.l.length (⟨.slice none 0 0, []⟩ : Ls Wt))), .blk g7001 205 [mw7001.v, mo7001.v], .own 3 mw7001, .own 3 mo7001, .blk b3 25 [code.v, words0.v, .int .i64 ((Lk : Nat) : Int), .int .i64 nregs], .at_ code, .at_ words0]) [0, 1, 2, 3, 4, 5, 6, 7] (by decide) ⟨rfl, rfl, rfl, rfl, rfl, rfl, rfl, rfl, trivial⟩)⟩))))
   ·exact no_way ν7 hSi
  ·obtain rfl : _ = o := Option.some.inj ho
   have hd7 : S 7 = true := depAt hdep 0 rfl rfl
   have hd1 : S 1 = true := depAt hdep 1 rfl rfl
   have hd5 : S 5 = true := depAt hdep 7 rfl rfl
   rcases hI with ⟨ν1, _⟩ | ⟨_, ν5, _⟩ | ⟨ν1, _⟩ | ⟨_, _, ν7, _⟩ | ⟨ν1, ν5, ν7, g7001, mw7001, mo7001, v7005, b7007, hmw7001, hmo7001, φ, ς⟩
   ·exact no_way hd1 ν1
   ·exact no_way hd5 ν5
   ·exact no_way hd1 ν1
   ·exact no_way hd7 ν7
   ·exact sq φ (Fr.cons φ.fr0 (φ.at_ 7 7 10 _ rfl hd7)) ς (r_assign rfl rfl) 8 rfl rfl rfl rfl rfl rfl fun a hg => Or.inr (Or.inr (Or.inr (Or.inr (⟨un rfl ν1, un rfl ν5, un rfl ν7, g7001, mw7001, mo7001, v7005, b7007, hmw7001, hmo7001, hg, ς⟩))))
  · simp at ho
 intro S hall a w hI
 clear h6
 rcases hI with ⟨ν1, ν5, ν7, φ, ς⟩ | ⟨ν1, ν5, ν7, g7001, mw7001, mo7001, hmw7001, hmo7001, φ, ς⟩ | ⟨ν1, ν5, ν7, v7005, φ, ς⟩ | ⟨ν1, ν5, ν7, g7001, mw7001, mo7001, v7005, hmw7001, hmo7001, φ, ς⟩ | ⟨ν1, ν5, ν7, g7001, mw7001, mo7001, v7005, b7007, hmw7001, hmo7001, φ, ς⟩
 · exact no_way (hall 1 (by decide)) ν1
 · exact no_way (hall 5 (by decide)) ν5
 · exact no_way (hall 1 (by decide)) ν1
 · exact no_way (hall 7 (by decide)) ν7
 have h33 : St 11 (fun _ => False) W a w _ [.blk b7007 214 [.pointer (some ⟨g7001, 0, none⟩), v7005], .big (matX (.own 267) 268 v7005 (List.replicate code.l.length (⟨.slice none 0 0, []⟩ : Ls Wt))), .blk g7001 205 [mw7001.v, mo7001.v], .own 3 mw7001, .own 3 mo7001, .blk b3 25 [code.v, words0.v, .int .i64 ((Lk : Nat) : Int), .int .i64 nregs], .at_ code, .at_ words0] := ⟨(Fr.cons φ.fr0 (φ.at_ 8 8 2 _ rfl (hall 8 (by decide)))), ς⟩
 clear hall φ ς ν1 ν5 ν7
 refine hK5 _ _ <| wp_ret ?_
 try simp only [Exit.then, Exit.inBlock]
 refine x_ret1 (fn := Try.f81) (t := 2) rfl h33 rfl ?_
 exact ⟨b7007, g7001, mw7001, mo7001, ⟨v7005, List.replicate code.l.length (⟨.slice none 0 0, []⟩ : Ls Wt)⟩, rfl, hmw7001, hmo7001, by simp [memT], memT_close (q := ⟨v7005, List.replicate code.l.length (⟨.slice none 0 0, []⟩ : Ls Wt)⟩) (h33.sh.sel (L' := [.blk b7007 214 [.pointer (some ⟨g7001, 0, none⟩), v7005], .big (matX (.own 267) 268 v7005 (List.replicate code.l.length (⟨.slice none 0 0, []⟩ : Ls Wt))), .blk g7001 205 [mw7001.v, mo7001.v], .own 3 mw7001, .own 3 mo7001]) [0, 1, 2, 3, 4] (by decide) ⟨rfl, rfl, rfl, rfl, rfl, trivial⟩)⟩

end Go.Proofs.Ytfpaahkleienoaa
