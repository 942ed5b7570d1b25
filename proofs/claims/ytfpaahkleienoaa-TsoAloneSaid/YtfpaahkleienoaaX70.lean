/-
  The memory in which stores wait, in order, does as the document says; runs of the program in it.
-/
import Derived.Test.YtfpaahkleienoaaX69
import Derived.Test.YtfpaahkleienoaaX66
namespace Go.Proofs.Ytfpaahkleienoaa
open Go.RowKit
set_option linter.unusedSimpArgs false
set_option linter.unusedVariables false


theorem matX_rd {E E2 : TypeId} {v : Value} {M : List (Ls Wt)} {b : Nat} (h : (Asn.big (matX (.own E) E2 v M)).rd b) : False := by
  obtain ⟨A, hA, hb⟩ := h
  rcases List.mem_cons.1 hA with rfl | hA
  · exact Flat.noRd hb
  · obtain ⟨s, _, rfl⟩ := List.mem_map.1 hA
    exact Flat.noRd hb
/-- The memory in which stores wait. -/
def memT (g1 g0 : Nat) : MemS := ⟨Ls (Ls Wt), fun q => q.l.map (·.l), fun q => .big [.blk g1 214 [.pointer (some ⟨g0, 0, none⟩), q.v], .big (matX (.own 267) 268 q.v q.l)], 126, ⟨g1, 0, none⟩, g0, 1⟩
theorem memT_rd {g1 g0 : Nat} {q : Ls (Ls Wt)} {b : Nat} (h : ((memT g1 g0).X q).rd b) : False := by
  obtain ⟨A, hA, hb⟩ := h
  simp only [List.mem_cons, List.not_mem_nil, or_false] at hA
  rcases hA with rfl | rfl
  · exact hb
  · exact matX_rd hb
theorem memT_nth {q : Ls (Ls Wt)} {t : Nat} (h : t < (q.l.map (·.l)).length) : nth (q.l.map (·.l)) t = (nth q.l t).l := nth_map' (fun x : Ls Wt => x.l) q.l t (by simpa using h)
theorem memT_at {g1 g0 : Nat} {q : Ls (Ls Wt)} {w : World} (h : ((memT g1 g0).X q).ok w) : Blk w g1 214 #[.pointer (some ⟨g0, 0, none⟩), q.v] ∧ q.At w := by
  obtain ⟨h1, h2, h3⟩ := h
  refine ⟨h1 _ (List.mem_cons_self ..), ?_⟩
  have hb := h1 _ (List.mem_cons_of_mem _ (List.mem_cons_self ..))
  have hs : Sh (fun _ => True) w w [.big (matX (.own 267) 268 q.v q.l)] := ⟨Chg.refl _ _, by simpa using hb, fun _ _ _ _ => .inl trivial, by
    intro A hA b _ hr
    obtain rfl := List.mem_singleton.1 hA
    exact matX_rd hr, List.pairwise_singleton _ _⟩
  exact (hs.matDeep own_mat).deep 0 rfl
theorem memT_open {g1 g0 : Nat} {K : Nat → Prop} {W w : World} {words owner : Ls Int} {q : Ls (Ls Wt)} (h : Sh K W w (memA 205 3 (memT g1 g0) words owner q)) : Sh K W w ([.blk g1 214 [.pointer (some ⟨g0, 0, none⟩), q.v], .big (matX (.own 267) 268 q.v q.l)] ++ [.blk g0 205 [words.v, owner.v], .own 3 words, .own 3 owner]) :=
  (h.sel (L' := [(memT g1 g0).X q, .blk g0 205 [words.v, owner.v], .own 3 words, .own 3 owner]) [3, 0, 1, 2] (by decide) ⟨rfl, rfl, rfl, rfl, trivial⟩).open_
theorem memT_close {g1 g0 : Nat} {K : Nat → Prop} {W w : World} {words owner : Ls Int} {q : Ls (Ls Wt)} (h : Sh K W w ([.blk g1 214 [.pointer (some ⟨g0, 0, none⟩), q.v], .big (matX (.own 267) 268 q.v q.l)] ++ [.blk g0 205 [words.v, owner.v], .own 3 words, .own 3 owner])) : Sh K W w (memA 205 3 (memT g1 g0) words owner q) :=
  (Sh.close h).sel [1, 2, 3, 0] (by decide) ⟨rfl, rfl, rfl, rfl, trivial⟩
theorem memT_st {g1 g0 t : Nat} {x : Wt} {words owner : Ls Int} {q : Ls (Ls Wt)} {u : Ls Wt} (h : t < (q.l.map (·.l)).length) (e : u.l = (nth q.l t).l ++ [x]) : StoreP (memT g1 g0) t x words owner q words owner (⟨q.v, q.l.set t u⟩ : Ls (Ls Wt)) := by
  refine ⟨u.l, ?_, fun pc regs prints fell => ?_⟩
  · show (q.l.set t u).map (·.l) = (q.l.map (·.l)).set t u.l
    rw [List.map_set]
  · show _ = TS.store 1 ⟨pc, regs, nth (q.l.map (·.l)) t, words.l, owner.l, prints, fell⟩ x
    rw [memT_nth h, e]
    unfold TS.store
    rw [if_pos (by decide)]
/-- A method of a struct's first field, a pointer, as the method of a pointer to the struct. -/
def embI (P : Program) (T : TypeId) (name : String) : Option (FuncId × TypeId) :=
  match P.info? T with
  | none => none
  | some i => match i.methods.find? (·.name == name) with
    | none => none
    | some m => match m.path.toList, m.func with
      | [st], some (f, true) => match P.underlying st.struct with
        | some (.struct fs) => match fs[st.index]? with
          | none => none
          | some fd => match P.info? fd.type, P.underlying fd.type with
            | some fi, some (.pointer _) => if st.deref = true ∧ fd.offset = 0 ∧ fi.size ≠ 0 then some (f, fd.type) else none
            | _, _ => none
        | _ => none
      | _, _ => none
theorem meth_emb {P : Program} {n g1 : Nat} {T xt : TypeId} {name : String} {f : FuncId} {r : Value} {w : World} (hn : Nat.blt 0 n = true) (hI : embI P T name = some (f, xt)) (hl : (loadVar xt ⟨g1, 0, none⟩).run P w = .ok r w) : (method n T (.pointer (some ⟨g1, 0, none⟩)) name).run P w = .ok (f, r) w := by
  obtain ⟨n, rfl⟩ : ∃ n', n = n' + 1 := ⟨n - 1, by rw [Nat.blt_eq] at hn; omega⟩
  unfold embI at hI
  split at hI
  · cases hI
  rename_i i hi
  split at hI
  · cases hI
  rename_i m hm
  split at hI
  · rename_i st f' hp hf
    split at hI
    · rename_i fs hfs
      split at hI
      · cases hI
      rename_i fd hfd
      split at hI
      · rename_i fi e hfi hfu
        split at hI
        · rename_i hc
          cases hI
          obtain ⟨h1, h2, h3⟩ := hc
          unfold method
          simp [typeInfo, hi, hm, hp, hf, follow, run_underlying hfs, hfd, h1, Place.get, asAddr, fieldPlace, sizeOf, hfi, h3, h2, receiverAt, run_underlying hfu, hl, Addr.add]
        · cases hI
      · cases hI
    · cases hI
  · cases hI
theorem methT_ld {g1 g0 : Nat} {w : World} {v : Value} (h : Blk w g1 214 #[.pointer (some ⟨g0, 0, none⟩), v]) : (loadVar 116 ⟨g1, 0, none⟩).run Try.prog w = .ok (.pointer (some ⟨g0, 0, none⟩)) w := by
  have hc := h.cells2.1
  unfold Blk at h
  simp [loadVar, World.cell?, h]
theorem mayK_tso (l : List Wt) : ((List.range l.length).filter (mayK 1 l)).map (fun k => ((k : Nat) : Int)) = if l.length = 0 then [] else [0] := by
  have e : mayK 1 l = fun k => decide (k = 0) := by
    funext k
    unfold mayK
    simp
  rw [e]
  cases h : l.length with
  | zero => rfl
  | succ n =>
    rw [if_neg (by omega), List.range_succ_eq_map, List.filter_cons, if_pos (by rfl), List.filter_eq_nil_iff.2]
    · rfl
    · intro x hx
      obtain ⟨y, _, rfl⟩ := List.mem_map.1 hx
      simp
theorem memT_ok (g1 g0 : Nat) : MemI Try.prog 205 3 (memT g1 g0) where
  load w words owner q t wd h ht hl hwd := ⟨191, ⟨g1, 0, none⟩, by kernel_rfl, bd_191, by
    have e : nth ((memT g1 g0).qs q) t = (nth q.l t).l := memT_nth ht
    rw [e] at hl ⊢
    have ht' : t < q.l.length := by simpa [memT] using ht
    obtain ⟨hB, hq⟩ := memT_at h.x
    obtain ⟨A, cap, hv, hA⟩ := hq
    have hr := hA.inner t ht'
    obtain ⟨A2, cap2, hv2, hA2⟩ := hr
    have hB' := hB
    rw [hv] at hB'
    have hc := callsIn_wide.1 (bufLoad_in g1 g0 t ⟨A, cap, q.l⟩ ⟨A2, cap2, (nth q.l t).l⟩ words owner wd w hB' h.blk h.wa h.oa hA ht' hv2 hA2 hl hwd)
    exact Calls.mono hc fun e w' he => ⟨_, he.1, rfl, ⟨Chg.below he.2, fun A hA => (by cases hA), fun A hA => (by cases hA), fun A hA => (by cases hA), List.Pairwise.nil⟩⟩⟩
  waits w words owner q t h ht hl := ⟨194, ⟨g1, 0, none⟩, by kernel_rfl, bd_194, by
    have e : nth ((memT g1 g0).qs q) t = (nth q.l t).l := memT_nth ht
    rw [e]
    obtain ⟨hB, hq⟩ := memT_at h.x
    exact tbWaits_c g1 g0 q t 0 w hB hq (by simpa [memT] using ht)⟩
  freeing w words owner q t a h ht hl hlk := ⟨190, ⟨g1, 0, none⟩, by kernel_rfl, bd_190, by
    have e : nth ((memT g1 g0).qs q) t = (nth q.l t).l := memT_nth ht
    rw [e] at hlk ⊢
    obtain ⟨hB, hq⟩ := memT_at h.x
    exact tbFreeing_c g1 g0 q t a w hB hq (by simpa [memT] using ht) hlk⟩
  ready w words owner q t h ht hl := ⟨192, ⟨g1, 0, none⟩, by kernel_rfl, bd_192, by
    have e : nth ((memT g1 g0).qs q) t = (nth q.l t).l := memT_nth ht
    rw [e]
    obtain ⟨hB, hq⟩ := memT_at h.x
    refine Rets.mono (tbReady_c g1 g0 q t 0 w hB hq (by simpa [memT] using ht)) ?_
    rintro v w' ⟨s, rfl, hs, h9⟩
    exact ⟨s, rfl, hs.trans (mayK_tso _).symm, h9⟩⟩
  base w words owner q h := ⟨179, ⟨g0, 0, none⟩, meth_emb (xt := 116) (by kernel_rfl) (by kernel_rfl) (methT_ld (memT_at h.x).1), bd_179, plBase_c g0 words owner 0 0 0 w h.blk h.wa h.oa⟩
  store K W words owner q t wd what hS ht hl hwd := ⟨193, ⟨g1, 0, none⟩, by kernel_rfl, bd_193, by
    have h := memT_open hS
    have e : nth ((memT g1 g0).qs q) t = (nth q.l t).l := memT_nth ht
    rw [e] at hl
    refine Rets.mono (tbStore_c _ g1 g0 q.v q.l t wd what W h.passL (by simpa [memT] using ht) (by omega)) ?_
    rintro v w' ⟨rfl, u, hu, hs⟩
    exact ⟨rfl, words, owner, ⟨q.v, q.l.set t u⟩, memT_st ht hu, memT_close (q := ⟨q.v, q.l.set t u⟩) (h.backL hs (by intro A hA b hb; simp only [List.mem_cons, List.not_mem_nil, or_false] at hA; rcases hA with rfl | rfl <;> first | exact (hb : False).elim | exact Flat.noRd hb | exact (matX_rd hb).elim))⟩⟩
  free K W words owner q t a hS ht hl ha := ⟨189, ⟨g1, 0, none⟩, by kernel_rfl, bd_189, by
    have h := memT_open hS
    have e : nth ((memT g1 g0).qs q) t = (nth q.l t).l := memT_nth ht
    rw [e] at hl
    refine Rets.mono (tbFree_c _ g1 g0 q.v q.l t a 0 W h.passL (by simpa [memT] using ht) (by omega)) ?_
    rintro v w' ⟨rfl, u, hu, hs⟩
    exact ⟨rfl, words, owner, ⟨q.v, q.l.set t u⟩, memT_st ht hu, memT_close (q := ⟨q.v, q.l.set t u⟩) (h.backL hs (by intro A hA b hb; simp only [List.mem_cons, List.not_mem_nil, or_false] at hA; rcases hA with rfl | rfl <;> first | exact (hb : False).elim | exact Flat.noRd hb | exact (matX_rd hb).elim))⟩⟩
  swap K W words owner q t wd what hS hwd := ⟨186, ⟨g0, 0, none⟩, meth_emb (xt := 116) (by kernel_rfl) (by kernel_rfl) (methT_ld (memT_at (hS.ok _ (List.mem_cons_of_mem _ (List.mem_cons_of_mem _ (List.mem_cons_of_mem _ (List.mem_cons_self ..)))))).1), bd_186, by
    have h : Sh K W W ([.blk g0 205 [words.v, owner.v], .own 3 words, .own 3 owner] ++ [(memT g1 g0).X q]) := hS
    refine Rets.mono (plSwap_c _ g0 words owner _ wd what W h.passL hwd) ?_
    rintro v w' ⟨rfl, hs⟩
    exact ⟨rfl, ⟨words.v, words.l.set wd.toNat what⟩, owner, q, ⟨rfl, rfl, rfl⟩, h.backL hs (by intro A hA b hb; simp only [List.mem_cons, List.not_mem_nil, or_false] at hA; rcases hA with rfl | rfl | rfl <;> first | exact (hb : False).elim | exact Flat.noRd hb)⟩⟩
  flush K W words owner q t k hS ht hl hk hw := ⟨188, ⟨g1, 0, none⟩, by kernel_rfl, bd_188, by
    have h := memT_open hS
    have e : nth ((memT g1 g0).qs q) t = (nth q.l t).l := memT_nth ht
    rw [e] at hl hk hw
    refine Rets.mono (tbFlush_c K g1 g0 q.v q.l words owner t k W h (by simpa [memT] using ht) (by omega) hk (hw k hk)) ?_
    rintro v w' ⟨rfl, u, hu, hs⟩
    refine ⟨rfl, _, _, ⟨q.v, q.l.set t u⟩, ⟨u.l, ?_, fun pc regs prints fell => ?_⟩, memT_close (words := ⟨words.v, if (nth (nth q.l t).l k).lock = true then words.l else words.l.set (nth (nth q.l t).l k).wh.toNat (nth (nth q.l t).l k).what⟩) (owner := ⟨owner.v, if (nth (nth q.l t).l k).lock = true then owner.l.set (nth (nth q.l t).l k).wh.toNat (-1) else owner.l⟩) (q := ⟨q.v, q.l.set t u⟩) hs⟩
    · show (q.l.set t u).map (·.l) = (q.l.map (·.l)).set t u.l
      rw [List.map_set]
    · rw [e, hu]
      rfl⟩
  xrd q b h := memT_rd h

set_option maxRecDepth 100000 in
set_option maxHeartbeats 4000000 in
theorem tnew_c (code : Ls (Ls Ins)) (words0 : Ls Int) (Lk : Nat) (nregs : Int) (W : World) (hcode : code.At W) (hwords : words0.At W) (hcl : code.l.length ≤ 100) (hwn : words0.l.length ≤ 64) (hlk : Lk ≤ 4) :
    Rets Try.prog 81 [.agg #[code.v, words0.v, .int .i64 ((Lk : Nat) : Int), .int .i64 nregs]] W (fun v w' => ∃ (gt g : Nat) (words' owner' : Ls Int) (q : Ls (Ls Wt)), v = .pointer (some ⟨gt, 0, none⟩) ∧ words'.l = words0.l ∧ owner'.l = List.replicate Lk (-1) ∧ (memT gt g).qs q = List.replicate code.l.length [] ∧ Sh0 W w' (memA 205 3 (memT gt g) words' owner' q)) := by
 refine x_enter (N := 11) Try.func81 rfl Try.ntmps81 (Nat.le_of_ble_eq_true rfl) fun a1 hf1 => ?_
 have h1 : St 11 (fun _ => False) W a1 W [(0, .agg #[code.v, words0.v, .int .i64 ((Lk : Nat) : Int), .int .i64 nregs])] [.at_ code, .at_ words0] := ⟨hf1.sub ⟨rfl, trivial⟩, Sh0.ext2 hcode hwords⟩
 clear hf1
 refine wp_seq_k fun K2 hK2 => wp_region_lit <| wl_ex (x_box (cs := [code.v, words0.v, .int .i64 ((Lk : Nat) : Int), .int .i64 nregs]) h1 rfl rfl rfl rfl rfl) (wanted_none rfl _) ?_
 rintro a3 w3 ⟨b3, h3⟩; clear h1
 refine wms 1 h3 rfl fun a4 h4 => wpList_nil <| hK2 _ _ <| wp_seq_k fun K5 hK5 => ?_; clear h3
 have h6 : St 11 (fun _ => False) W a4 w3 [(0, .agg #[code.v, words0.v, .int .i64 ((Lk : Nat) : Int), .int .i64 nregs]), (1, .pointer (some ⟨b3, 0, none⟩))] [.blk b3 25 [code.v, words0.v, .int .i64 ((Lk : Nat) : Int), .int .i64 nregs], .at_ code, .at_ words0] := h4.nrm ⟨rfl, rfl, trivial⟩ [0, 1, 2] (by decide) ⟨rfl, rfl, rfl, trivial⟩
 clear h4
 refine x_any ((fun Φ Ψ S a w => (S 1 = false ∧ S 5 = false ∧ S 7 = false ∧ FrI 11 S Φ Ψ a ∧ Sh (fun _ => False) W w [.blk b3 25 [code.v, words0.v, .int .i64 ((Lk : Nat) : Int), .int .i64 nregs], .at_ code, .at_ words0]) ∨ (S 1 = true ∧ S 5 = false ∧ S 7 = false ∧ ∃ (g7001 : Nat) (mw7001 : Ls Int) (mo7001 : Ls Int), (mw7001.l = words0.l) ∧ (mo7001.l = List.replicate Lk (-1)) ∧ FrI 11 S Φ (Ψ ++ [(1, 4, .pointer (some ⟨g7001, 0, none⟩))]) a ∧ Sh (fun _ => False) W w [.blk g7001 205 [mw7001.v, mo7001.v], .own 3 mw7001, .own 3 mo7001, .blk b3 25 [code.v, words0.v, .int .i64 ((Lk : Nat) : Int), .int .i64 nregs], .at_ code, .at_ words0]) ∨ (S 1 = false ∧ S 5 = true ∧ S 7 = false ∧ ∃ (v7005 : Value), FrI 11 S Φ (Ψ ++ [(5, 8, v7005)]) a ∧ Sh (fun _ => False) W w [.big (matX (.own 267) 268 v7005 (List.replicate code.l.length (⟨.slice none 0 0, []⟩ : Ls Wt))), .blk b3 25 [code.v, words0.v, .int .i64 ((Lk : Nat) : Int), .int .i64 nregs], .at_ code, .at_ words0]) ∨ (S 1 = true ∧ S 5 = true ∧ S 7 = false ∧ ∃ (g7001 : Nat) (mw7001 : Ls Int) (mo7001 : Ls Int) (v7005 : Value), (mw7001.l = words0.l) ∧ (mo7001.l = List.replicate Lk (-1)) ∧ FrI 11 S Φ (Ψ ++ [(1, 4, .pointer (some ⟨g7001, 0, none⟩)), (5, 8, v7005), (6, 9, .agg #[.pointer (some ⟨g7001, 0, none⟩), v7005])]) a ∧ Sh (fun _ => False) W w [.big (matX (.own 267) 268 v7005 (List.replicate code.l.length (⟨.slice none 0 0, []⟩ : Ls Wt))), .blk g7001 205 [mw7001.v, mo7001.v], .own 3 mw7001, .own 3 mo7001, .blk b3 25 [code.v, words0.v, .int .i64 ((Lk : Nat) : Int), .int .i64 nregs], .at_ code, .at_ words0]) ∨ (S 1 = true ∧ S 5 = true ∧ S 7 = true ∧ ∃ (g7001 : Nat) (mw7001 : Ls Int) (mo7001 : Ls Int) (v7005 : Value) (b7007 : Nat), (mw7001.l = words0.l) ∧ (mo7001.l = List.replicate Lk (-1)) ∧ FrI 11 S Φ (Ψ ++ [(1, 4, .pointer (some ⟨g7001, 0, none⟩)), (5, 8, v7005), (6, 9, .agg #[.pointer (some ⟨g7001, 0, none⟩), v7005]), (7, 10, .pointer (some ⟨b7007, 0, none⟩)), (8, 2, .pointer (some ⟨b7007, 0, none⟩))]) a ∧ Sh (fun _ => False) W w [.blk b7007 214 [.pointer (some ⟨g7001, 0, none⟩), v7005], .big (matX (.own 267) 268 v7005 (List.replicate code.l.length (⟨.slice none 0 0, []⟩ : Ls Wt))), .blk g7001 205 [mw7001.v, mo7001.v], .own 3 mw7001, .own 3 mo7001, .blk b3 25 [code.v, words0.v, .int .i64 ((Lk : Nat) : Int), .int .i64 nregs], .at_ code, .at_ words0])) [(0, .agg #[code.v, words0.v, .int .i64 ((Lk : Nat) : Int), .int .i64 nregs]), (1, .pointer (some ⟨b3, 0, none⟩))] [(0, 3, .agg #[code.v, words0.v, .int .i64 ((Lk : Nat) : Int), .int .i64 nregs]), (2, 5, .pointer (some ⟨b3, 0, none⟩)), (3, 6, code.v), (4, 7, .int .i64 ((code.l.length : Nat) : Int))]) (by kernel_rfl) (by kernel_rfl) (Or.inl (⟨rfl, rfl, rfl, FrI.start h6.fr, h6.sh.drew⟩)) ?_ ?_
 ·intro S i o ho hSi hcl hdep a w hI
  clear h6
  rcases i with _ | _ | _ | _ | _ | _ | _ | _ | _ | i
  ·obtain rfl : _ = o := Option.some.inj ho
   rcases hI with ⟨ν1, ν5, ν7, φ, ς⟩ | ⟨ν1, _⟩ | ⟨ν1, ν5, ν7, v7005, φ, ς⟩ | ⟨ν1, _⟩ | ⟨ν1, _⟩
   ·exact sq φ φ.fr0 ς (r_ldbw (i := 0) (vs := [code.v, words0.v, .int .i64 ((Lk : Nat) : Int), .int .i64 nregs]) ti_25 rfl rfl rfl rfl rfl) 0 rfl rfl rfl rfl rfl rfl fun a hg => Or.inl (⟨un rfl ν1, un rfl ν5, un rfl ν7, hg, ς⟩)
   ·exact no_way (cA hcl 1 0 rfl ν1) hSi
   ·exact sq φ φ.fr0 ς (r_ldbw (i := 1) (vs := [code.v, words0.v, .int .i64 ((Lk : Nat) : Int), .int .i64 nregs]) ti_25 rfl rfl rfl rfl rfl) 0 rfl rfl rfl rfl rfl rfl fun a hg => Or.inr (Or.inr (Or.inl (⟨un rfl ν1, un rfl ν5, un rfl ν7, v7005, hg, ς⟩)))
   ·exact no_way (cA hcl 1 0 rfl ν1) hSi
   ·exact no_way (cA hcl 1 0 rfl ν1) hSi
  ·obtain rfl : _ = o := Option.some.inj ho
   have hd0 : S 0 = true := depAt hdep 0 rfl rfl
   rcases hI with ⟨ν1, ν5, ν7, φ, ς⟩ | ⟨ν1, _⟩ | ⟨ν1, ν5, ν7, v7005, φ, ς⟩ | ⟨ν1, _⟩ | ⟨ν1, _⟩
   ·have hs := St.mk (Fr.cons φ.fr0 (φ.at_ 0 0 3 _ rfl hd0)) ς
    refine step_ex (x_call hs bd_76 rfl rfl rfl rfl rfl (pnew_c words0 Lk code.v nregs _ (hs.sh.at 2 rfl) (by omega) (by omega))) (wanted_none rfl _) ?_
    rintro a17 w17 ⟨_, ⟨g17, mw17, mo17, rfl, hmw17, hmo17, hs17⟩, hf17⟩ ⟨v0, ht17⟩
    have h17 := (⟨hf17, hs.sh.call hs17 (by intro A hA b hb; simp only [memA, List.mem_cons, List.not_mem_nil, or_false] at hA; first | (subst hA; exact Flat.noRd hb) | (rcases hA with rfl | rfl | rfl | rfl <;> first | exact (hb : False).elim | exact Flat.noRd hb | exact (memT_rd hb).elim))⟩ : St 11 (fun _ => False) W a17 w17 _ _)
    clear hf17 hs17
    exact Or.inr (Or.inl (⟨upd_self _ _, un rfl ν5, un rfl ν7, g17, mw17, mo17, hmw17, hmo17, φ.stepW hcl hSi [0, 1, 2, 3] (by kernel_rfl) (by kernel_rfl) ht17 h17.fr.defers (h17.fr.at_ 4 _ rfl) 4 rfl rfl rfl rfl, (h17.sh.sel (L' := [.blk g17 205 [mw17.v, mo17.v], .own 3 mw17, .own 3 mo17, .blk b3 25 [code.v, words0.v, .int .i64 ((Lk : Nat) : Int), .int .i64 nregs], .at_ code, .at_ words0]) [0, 1, 2, 3, 4, 5] (by decide) ⟨rfl, rfl, rfl, rfl, rfl, rfl, trivial⟩)⟩))
   ·exact no_way ν1 hSi
   ·have hs := St.mk (Fr.cons φ.fr0 (φ.at_ 0 0 3 _ rfl hd0)) ς
    refine step_ex (x_call hs bd_76 rfl rfl rfl rfl rfl (pnew_c words0 Lk code.v nregs _ (hs.sh.at 3 rfl) (by omega) (by omega))) (wanted_none rfl _) ?_
    rintro a18 w18 ⟨_, ⟨g18, mw18, mo18, rfl, hmw18, hmo18, hs18⟩, hf18⟩ ⟨v0, ht18⟩
    have h18 := (⟨hf18, hs.sh.call hs18 (by intro A hA b hb; simp only [memA, List.mem_cons, List.not_mem_nil, or_false] at hA; first | (subst hA; exact Flat.noRd hb) | (rcases hA with rfl | rfl | rfl | rfl <;> first | exact (hb : False).elim | exact Flat.noRd hb | exact (memT_rd hb).elim))⟩ : St 11 (fun _ => False) W a18 w18 _ _)
    clear hf18 hs18
    exact Or.inr (Or.inr (Or.inr (Or.inl (⟨upd_self _ _, un rfl ν5, un rfl ν7, g18, mw18, mo18, v7005, hmw18, hmo18, φ.stepW hcl hSi [0, 1, 2, 3, 5] (by kernel_rfl) (by kernel_rfl) ht18 h18.fr.defers (h18.fr.at_ 4 _ rfl) 4 rfl rfl rfl rfl, (h18.sh.sel (L' := [.big (matX (.own 267) 268 v7005 (List.replicate code.l.length (⟨.slice none 0 0, []⟩ : Ls Wt))), .blk g18 205 [mw18.v, mo18.v], .own 3 mw18, .own 3 mo18, .blk b3 25 [code.v, words0.v, .int .i64 ((Lk : Nat) : Int), .int .i64 nregs], .at_ code, .at_ words0]) [3, 0, 1, 2, 4, 5, 6] (by decide) ⟨rfl, rfl, rfl, rfl, rfl, rfl, rfl, trivial⟩)⟩))))
   ·exact no_way ν1 hSi
   ·exact no_way ν1 hSi
  ·obtain rfl : _ = o := Option.some.inj ho
   rcases hI with ⟨ν1, ν5, ν7, φ, ς⟩ | ⟨ν1, ν5, ν7, g7001, mw7001, mo7001, hmw7001, hmo7001, φ, ς⟩ | ⟨_, ν5, _⟩ | ⟨_, ν5, _⟩ | ⟨_, ν5, _⟩
   ·exact sq φ φ.fr0 ς (r_fieldB (r := 0) fl_25_0 rfl rfl rfl) 1 rfl rfl rfl rfl rfl rfl fun a hg => Or.inl (⟨un rfl ν1, un rfl ν5, un rfl ν7, hg, ς⟩)
   ·exact sq φ φ.fr0 ς (r_fieldB (r := 0) fl_25_0 rfl rfl rfl) 1 rfl rfl rfl rfl rfl rfl fun a hg => Or.inr (Or.inl (⟨un rfl ν1, un rfl ν5, un rfl ν7, g7001, mw7001, mo7001, hmw7001, hmo7001, hg, ς⟩))
   ·exact no_way (cA hcl 5 2 rfl ν5) hSi
   ·exact no_way (cA hcl 5 2 rfl ν5) hSi
   ·exact no_way (cA hcl 5 2 rfl ν5) hSi
  ·obtain rfl : _ = o := Option.some.inj ho
   have hd2 : S 2 = true := depAt hdep 0 rfl rfl
   rcases hI with ⟨ν1, ν5, ν7, φ, ς⟩ | ⟨ν1, ν5, ν7, g7001, mw7001, mo7001, hmw7001, hmo7001, φ, ς⟩ | ⟨_, ν5, _⟩ | ⟨_, ν5, _⟩ | ⟨_, ν5, _⟩
   ·exact sq φ (Fr.cons φ.fr0 (φ.at_ 1 2 5 _ rfl hd2)) ς (r_ldb (i := 0) ti_22 rfl rfl rfl rfl) 2 rfl rfl rfl rfl rfl rfl fun a hg => Or.inl (⟨un rfl ν1, un rfl ν5, un rfl ν7, hg, ς⟩)
   ·exact sq φ (Fr.cons φ.fr0 (φ.at_ 1 2 5 _ rfl hd2)) ς (r_ldb (i := 3) ti_22 rfl rfl rfl rfl) 2 rfl rfl rfl rfl rfl rfl fun a hg => Or.inr (Or.inl (⟨un rfl ν1, un rfl ν5, un rfl ν7, g7001, mw7001, mo7001, hmw7001, hmo7001, hg, ς⟩))
   ·exact no_way (cA hcl 5 3 rfl ν5) hSi
   ·exact no_way (cA hcl 5 3 rfl ν5) hSi
   ·exact no_way (cA hcl 5 3 rfl ν5) hSi
  ·obtain rfl : _ = o := Option.some.inj ho
   have hd3 : S 3 = true := depAt hdep 0 rfl rfl
   rcases hI with ⟨ν1, ν5, ν7, φ, ς⟩ | ⟨ν1, ν5, ν7, g7001, mw7001, mo7001, hmw7001, hmo7001, φ, ς⟩ | ⟨_, ν5, _⟩ | ⟨_, ν5, _⟩ | ⟨_, ν5, _⟩
   ·have hs := St.mk (Fr.cons φ.fr0 (φ.at_ 2 3 6 _ rfl hd3)) ς
    have hl23 : code.l.length ≤ 140737488355328 := (hs.sh.at 1 rfl).len
    exact sq φ (Fr.cons φ.fr0 (φ.at_ 2 3 6 _ rfl hd3)) ς (r_len (s := code) (n := code.l.length) sl_22 rfl rfl (fun w h => (h.at 1 rfl)) rfl) 3 rfl rfl rfl rfl rfl rfl fun a hg => Or.inl (⟨un rfl ν1, un rfl ν5, un rfl ν7, hg, ς⟩)
   ·have hs := St.mk (Fr.cons φ.fr0 (φ.at_ 2 3 6 _ rfl hd3)) ς
    have hl25 : code.l.length ≤ 140737488355328 := (hs.sh.at 4 rfl).len
    exact sq φ (Fr.cons φ.fr0 (φ.at_ 2 3 6 _ rfl hd3)) ς (r_len (s := code) (n := code.l.length) sl_22 rfl rfl (fun w h => (h.at 4 rfl)) rfl) 3 rfl rfl rfl rfl rfl rfl fun a hg => Or.inr (Or.inl (⟨un rfl ν1, un rfl ν5, un rfl ν7, g7001, mw7001, mo7001, hmw7001, hmo7001, hg, ς⟩))
   ·exact no_way (cA hcl 5 4 rfl ν5) hSi
   ·exact no_way (cA hcl 5 4 rfl ν5) hSi
   ·exact no_way (cA hcl 5 4 rfl ν5) hSi
  ·obtain rfl : _ = o := Option.some.inj ho
   have hd4 : S 4 = true := depAt hdep 0 rfl rfl
   rcases hI with ⟨ν1, ν5, ν7, φ, ς⟩ | ⟨ν1, ν5, ν7, g7001, mw7001, mo7001, hmw7001, hmo7001, φ, ς⟩ | ⟨_, ν5, _⟩ | ⟨_, ν5, _⟩ | ⟨_, ν5, _⟩
   ·have hs := St.mk (Fr.cons φ.fr0 (φ.at_ 3 4 7 _ rfl hd4)) ς
    refine step_ex (x_makeMat (n := code.l.length) hs sl_212 ti_268 rfl rfl rfl (show 24 * code.l.length ≤ 140737488355328 ∧ code.l.length ≤ 140737488355328 from (by omega)) rfl rfl 267 Wt) (wanted_none rfl _) ?_
    rintro a27 w27 ⟨v27, h27⟩ ⟨v0, ht27⟩
    exact Or.inr (Or.inr (Or.inl (⟨un rfl ν1, upd_self _ _, un rfl ν7, v27, φ.stepW hcl hSi [0, 1, 2, 3] (by kernel_rfl) (by kernel_rfl) ht27 h27.fr.defers (h27.fr.at_ 8 _ rfl) 4 rfl rfl rfl rfl, (h27.sh.sel (L' := [.big (matX (.own 267) 268 v27 (List.replicate code.l.length (⟨.slice none 0 0, []⟩ : Ls Wt))), .blk b3 25 [code.v, words0.v, .int .i64 ((Lk : Nat) : Int), .int .i64 nregs], .at_ code, .at_ words0]) [0, 1, 2, 3] (by decide) ⟨rfl, rfl, rfl, rfl, trivial⟩)⟩)))
   ·have hs := St.mk (Fr.cons φ.fr0 (φ.at_ 3 4 7 _ rfl hd4)) ς
    refine step_ex (x_makeMat (n := code.l.length) hs sl_212 ti_268 rfl rfl rfl (show 24 * code.l.length ≤ 140737488355328 ∧ code.l.length ≤ 140737488355328 from (by omega)) rfl rfl 267 Wt) (wanted_none rfl _) ?_
    rintro a28 w28 ⟨v28, h28⟩ ⟨v0, ht28⟩
    exact Or.inr (Or.inr (Or.inr (Or.inl (⟨un rfl ν1, upd_self _ _, un rfl ν7, g7001, mw7001, mo7001, v28, hmw7001, hmo7001, φ.stepW hcl hSi [0, 1, 2, 3, 4] (by kernel_rfl) (by kernel_rfl) ht28 h28.fr.defers (h28.fr.at_ 8 _ rfl) 5 rfl rfl rfl rfl, (h28.sh.sel (L' := [.big (matX (.own 267) 268 v28 (List.replicate code.l.length (⟨.slice none 0 0, []⟩ : Ls Wt))), .blk g7001 205 [mw7001.v, mo7001.v], .own 3 mw7001, .own 3 mo7001, .blk b3 25 [code.v, words0.v, .int .i64 ((Lk : Nat) : Int), .int .i64 nregs], .at_ code, .at_ words0]) [0, 1, 2, 3, 4, 5, 6] (by decide) ⟨rfl, rfl, rfl, rfl, rfl, rfl, rfl, trivial⟩)⟩))))
   ·exact no_way ν5 hSi
   ·exact no_way ν5 hSi
   ·exact no_way ν5 hSi
  ·obtain rfl : _ = o := Option.some.inj ho
   have hd1 : S 1 = true := depAt hdep 0 rfl rfl
   have hd5 : S 5 = true := depAt hdep 1 rfl rfl
   rcases hI with ⟨ν1, _⟩ | ⟨_, ν5, _⟩ | ⟨ν1, _⟩ | ⟨ν1, ν5, ν7, g7001, mw7001, mo7001, v7005, hmw7001, hmo7001, φ, ς⟩ | ⟨_, _, ν7, _⟩
   ·exact no_way hd1 ν1
   ·exact no_way hd5 ν5
   ·exact no_way hd1 ν1
   ·have hs := St.mk (Fr.cons (Fr.cons φ.fr0 (φ.at_ 4 1 4 _ rfl hd1)) (φ.at_ 5 5 8 _ rfl hd5)) ς
    exact sq φ (Fr.cons (Fr.cons φ.fr0 (φ.at_ 4 1 4 _ rfl hd1)) (φ.at_ 5 5 8 _ rfl hd5)) ς (r_build (cs := [.pointer (some ⟨g7001, 0, none⟩), v7005]) rfl rfl (by obtain ⟨A29, n29, c29, (e29 : v7005 = _)⟩ := ((hs.sh.matAt 0 rfl)).form; rw [e29]; kernel_rfl)) 6 rfl rfl rfl rfl rfl rfl fun a hg => Or.inr (Or.inr (Or.inr (Or.inl (⟨un rfl ν1, un rfl ν5, un rfl ν7, g7001, mw7001, mo7001, v7005, hmw7001, hmo7001, hg, ς⟩))))
   ·exact no_way (cA hcl 7 6 rfl ν7) hSi
  ·obtain rfl : _ = o := Option.some.inj ho
   have hd6 : S 6 = true := depAt hdep 0 rfl rfl
   rcases hI with ⟨ν1, _⟩ | ⟨_, ν5, _⟩ | ⟨ν1, _⟩ | ⟨ν1, ν5, ν7, g7001, mw7001, mo7001, v7005, hmw7001, hmo7001, φ, ς⟩ | ⟨_, _, ν7, _⟩
   ·exact no_way (cA hcl 6 1 rfl hd6) ν1
   ·exact no_way (cA hcl 6 5 rfl hd6) ν5
   ·exact no_way (cA hcl 6 1 rfl hd6) ν1
   ·have hs := St.mk (Fr.cons φ.fr0 (φ.at_ 6 6 9 _ rfl hd6)) ς
    refine step_ex (x_box (cs := [.pointer (some ⟨g7001, 0, none⟩), v7005]) hs rfl rfl rfl rfl rfl) (wanted_none rfl _) ?_
    rintro a31 w31 ⟨b31, h31⟩ ⟨v0, ht31⟩
    exact Or.inr (Or.inr (Or.inr (Or.inr (⟨un rfl ν1, un rfl ν5, upd_self _ _, g7001, mw7001, mo7001, v7005, b31, hmw7001, hmo7001, φ.stepW hcl hSi [0, 1, 2, 3, 4, 5, 6] (by kernel_rfl) (by kernel_rfl) ht31 h31.fr.defers (h31.fr.at_ 10 _ rfl) 7 rfl rfl rfl rfl, (h31.sh.sel (L' := [.blk b31 214 [.pointer (some ⟨g7001, 0, none⟩), v7005], .big (matX (.own 267) 268 v7005 (List.replicate code.l.length (⟨.slice none 0 0, []⟩ : Ls Wt))), .blk g7001 205 [mw7001.v, mo7001.v], .own 3 mw7001, .own 3 mo7001, .blk b3 25 [code.v, words0.v, .int .i64 ((Lk : Nat) : Int), .int .i64 nregs], .at_ code, .at_ words0]) [0, 1, 2, 3, 4, 5, 6, 7] (by decide) ⟨rfl, rfl, rfl, rfl, rfl, rfl, rfl, rfl, trivial⟩)⟩))))
   ·exact no_way ν7 hSi
  ·obtain rfl : _ = o := Option.some.inj ho
   have hd7 : S 7 = true := depAt hdep 0 rfl rfl
   have hd1 : S 1 = true := depAt hdep 1 rfl rfl
   have hd5 : S 5 = true := depAt hdep 7 rfl rfl
   rcases hI with ⟨ν1, _⟩ | ⟨_, ν5, _⟩ | ⟨ν1, _⟩ | ⟨_, _, ν7, _⟩ | ⟨ν1, ν5, ν7, g7001, mw7001, mo7001, v7005, b7007, hmw7001, hmo7001, φ, ς⟩
   ·exact no_way hd1 ν1
   ·exact no_way hd5 ν5
   ·exact no_way hd1 ν1
   ·exact no_way hd7 ν7
   ·exact sq φ (Fr.cons φ.fr0 (φ.at_ 7 7 10 _ rfl hd7)) ς (r_assign rfl rfl) 8 rfl rfl rfl rfl rfl rfl fun a hg => Or.inr (Or.inr (Or.inr (Or.inr (⟨un rfl ν1, un rfl ν5, un rfl ν7, g7001, mw7001, mo7001, v7005, b7007, hmw7001, hmo7001, hg, ς⟩))))
  · simp at ho
 intro S hall a w hI
 clear h6
 rcases hI with ⟨ν1, ν5, ν7, φ, ς⟩ | ⟨ν1, ν5, ν7, g7001, mw7001, mo7001, hmw7001, hmo7001, φ, ς⟩ | ⟨ν1, ν5, ν7, v7005, φ, ς⟩ | ⟨ν1, ν5, ν7, g7001, mw7001, mo7001, v7005, hmw7001, hmo7001, φ, ς⟩ | ⟨ν1, ν5, ν7, g7001, mw7001, mo7001, v7005, b7007, hmw7001, hmo7001, φ, ς⟩
 · exact no_way (hall 1 (by decide)) ν1
 · exact no_way (hall 5 (by decide)) ν5
 · exact no_way (hall 1 (by decide)) ν1
 · exact no_way (hall 7 (by decide)) ν7
 have h33 : St 11 (fun _ => False) W a w _ [.blk b7007 214 [.pointer (some ⟨g7001, 0, none⟩), v7005], .big (matX (.own 267) 268 v7005 (List.replicate code.l.length (⟨.slice none 0 0, []⟩ : Ls Wt))), .blk g7001 205 [mw7001.v, mo7001.v], .own 3 mw7001, .own 3 mo7001, .blk b3 25 [code.v, words0.v, .int .i64 ((Lk : Nat) : Int), .int .i64 nregs], .at_ code, .at_ words0] := ⟨(Fr.cons φ.fr0 (φ.at_ 8 8 2 _ rfl (hall 8 (by decide)))), ς⟩
 clear hall φ ς ν1 ν5 ν7
 refine hK5 _ _ <| wp_ret ?_
 try simp only [Exit.then, Exit.inBlock]
 refine x_ret1 (fn := Try.f81) (t := 2) rfl h33 rfl ?_
 exact ⟨b7007, g7001, mw7001, mo7001, ⟨v7005, List.replicate code.l.length (⟨.slice none 0 0, []⟩ : Ls Wt)⟩, rfl, hmw7001, hmo7001, by simp [memT], memT_close (q := ⟨v7005, List.replicate code.l.length (⟨.slice none 0 0, []⟩ : Ls Wt)⟩) (h33.sh.sel (L' := [.blk b7007 214 [.pointer (some ⟨g7001, 0, none⟩), v7005], .big (matX (.own 267) 268 v7005 (List.replicate code.l.length (⟨.slice none 0 0, []⟩ : Ls Wt))), .blk g7001 205 [mw7001.v, mo7001.v], .own 3 mw7001, .own 3 mo7001]) [0, 1, 2, 3, 4] (by decide) ⟨rfl, rfl, rfl, rfl, rfl, trivial⟩)⟩

set_option maxRecDepth 100000 in
set_option maxHeartbeats 20000000 in
theorem tsoRun_k (code : Ls (Ls Ins)) (words0 script : Ls Int) (Lk R : Nat) (W : World) (hcode : code.At W) (hwords : words0.At W) (hscript : script.At W) (hok : OkPg (pgN code words0 Lk R)) :
    Rets Try.prog 37 [.agg #[code.v, words0.v, .int .i64 ((Lk : Nat) : Int), .int .i64 ((R : Nat) : Int)], script.v] W (fun v w' => ∃ (pr wd : Ls Int) (st_ : Int) (steps : Nat), v = .tuple #[.agg #[pr.v, .int .i64 st_, wd.v, .int .i64 ((steps : Nat) : Int)], .agg #[.int .i64 0, .int .i64 0, .int .i64 0]] ∧ runM (pgN code words0 Lk R) 1 script.l = ⟨st_, steps, wd.l, pr.l⟩ ∧ Sh0 W w' [.own 3 pr, .own 3 wd]) := by
 have hz : checkG (pgOf code words0 ((Lk : Nat) : Int) ((R : Nat) : Int)) = ⟨0, 0, 0⟩ := checkG_ok hok
 obtain ⟨hl1, hcl, hwn, hlk, hR2⟩ := ok_lenP hok
 refine x_enter (N := 21) Try.func37 rfl Try.ntmps37 (Nat.le_of_ble_eq_true rfl) fun a1 hf1 => ?_
 have h1 : St 21 (fun _ => False) W a1 W [(0, .agg #[code.v, words0.v, .int .i64 ((Lk : Nat) : Int), .int .i64 ((R : Nat) : Int)]), (1, script.v)] [.at_ code, .at_ words0, .at_ script] := ⟨hf1.sub ⟨rfl, rfl, trivial⟩, Sh0.ext3 hcode hwords hscript⟩
 clear hf1
 refine wp_seq_k fun K2 hK2 => wp_region_lit <| wl_ex (x_box (cs := [code.v, words0.v, .int .i64 ((Lk : Nat) : Int), .int .i64 ((R : Nat) : Int)]) h1 rfl rfl rfl rfl rfl) (wanted_none rfl _) ?_
 rintro a3 w3 ⟨b3, h3⟩; clear h1
 refine wl_ex (x_alloc h3 ti_49 rfl rfl rfl) (wanted_none rfl _) ?_
 rintro a4 w4 ⟨b4, h4⟩; clear h3
 refine wl_ex (x_alloc h4 ti_28 rfl rfl rfl) (wanted_none rfl _) ?_
 rintro a5 w5 ⟨b5, h5⟩; clear h4
 refine wpList_nil <| hK2 _ _ <| wp_seq_k fun K6 hK6 => wp_seq_k fun K7 hK7 => wp_region_lit <| wv h5 (r_ldbw (i := 2) (vs := [code.v, words0.v, .int .i64 ((Lk : Nat) : Int), .int .i64 ((R : Nat) : Int)]) ti_25 rfl rfl rfl rfl rfl) rfl rfl fun a8 h8 => wl_ex (x_call h8 bd_46 rfl rfl rfl rfl rfl (asmCheck_c (code := code) (words := words0) (locks := ((Lk : Nat) : Int)) (regs := ((R : Nat) : Int)) (h8.sh.at 3 rfl) (h8.sh.at 4 rfl))) (wanted_none rfl _) ?_; clear h5
 rintro a9 w9 ⟨_, ⟨rfl, hs9⟩, hf9⟩
 have h9 : St 21 (fun _ => False) W a9 w9 _ _ := ⟨hf9, h8.sh.call0 hs9⟩
 clear hf9 hs9
 clear h8
 refine wl_ex (x_alloc h9 ti_28 rfl rfl rfl) (wanted_none rfl _) ?_
 rintro a10 w10 ⟨b10, h10⟩; clear h9
 refine wl_ex (x_stb (i := 0) (vs := [.int .i64 ((checkG (pgOf code words0 ((Lk : Nat) : Int) ((R : Nat) : Int))).code), .int .i64 ((checkG (pgOf code words0 ((Lk : Nat) : Int) ((R : Nat) : Int))).thread), .int .i64 ((checkG (pgOf code words0 ((Lk : Nat) : Int) ((R : Nat) : Int))).at_)]) (cs' := [.int .i64 ((checkG (pgOf code words0 ((Lk : Nat) : Int) ((R : Nat) : Int))).code), .int .i64 ((checkG (pgOf code words0 ((Lk : Nat) : Int) ((R : Nat) : Int))).thread), .int .i64 ((checkG (pgOf code words0 ((Lk : Nat) : Int) ((R : Nat) : Int))).at_)]) h10 ti_28 rfl rfl rfl rfl rfl rfl rfl (allOne_cons rfl (allOne_cons rfl (allOne_cons rfl allOne_nil))) (Nat.le_of_ble_eq_true rfl) rfl) (wanted_none rfl _) ?_
 rintro a11 w11 h11
 clear h10
 refine wpList_nil <| hK7 _ _ <| wp_seq_k fun K12 hK12 => wp_region_lit <| wv h11 (r_fieldB (r := 0) fl_28_0 rfl rfl rfl) rfl rfl fun a13 h13 => wv h13 (r_ldb (i := 0) ti_26 rfl rfl rfl rfl) rfl rfl fun a14 h14 => wv h14 (r_neqI (p := (checkG (pgOf code words0 ((Lk : Nat) : Int) ((R : Nat) : Int))).code) (q := 0) rfl rfl rfl) rfl rfl fun a15 h15 => wpList_nil <| hK12 _ _ <| x_condF h15 rfl (by rw [hz]; rfl) ?_; clear h11 h13 h14
 refine wp_skip <| hK6 _ _ <| wp_seq_k fun K16 hK16 => ?_
 have h17 : St 21 (fun _ => False) W a15 w11 [(0, .agg #[code.v, words0.v, .int .i64 ((Lk : Nat) : Int), .int .i64 ((R : Nat) : Int)]), (1, script.v), (2, .pointer (some ⟨b3, 0, none⟩)), (4, .pointer (some ⟨b4, 0, none⟩)), (5, .pointer (some ⟨b5, 0, none⟩)), (6, .pointer (some ⟨b10, 0, none⟩)), (7, .agg #[code.v, words0.v, .int .i64 ((Lk : Nat) : Int), .int .i64 ((R : Nat) : Int)]), (8, .agg #[.int .i64 ((checkG (pgOf code words0 ((Lk : Nat) : Int) ((R : Nat) : Int))).code), .int .i64 ((checkG (pgOf code words0 ((Lk : Nat) : Int) ((R : Nat) : Int))).thread), .int .i64 ((checkG (pgOf code words0 ((Lk : Nat) : Int) ((R : Nat) : Int))).at_)]), (9, .pointer (some ⟨b10, 0, none⟩)), (10, .int .i64 ((checkG (pgOf code words0 ((Lk : Nat) : Int) ((R : Nat) : Int))).code)), (11, .bool (decide ((checkG (pgOf code words0 ((Lk : Nat) : Int) ((R : Nat) : Int))).code ≠ 0)))] [.blk b10 28 [.int .i64 ((checkG (pgOf code words0 ((Lk : Nat) : Int) ((R : Nat) : Int))).code), .int .i64 ((checkG (pgOf code words0 ((Lk : Nat) : Int) ((R : Nat) : Int))).thread), .int .i64 ((checkG (pgOf code words0 ((Lk : Nat) : Int) ((R : Nat) : Int))).at_)], .blk b5 28 [.int .i64 0, .int .i64 0, .int .i64 0], .blk b4 49 [(.slice none 0 0), .int .i64 0, (.slice none 0 0), .int .i64 0], .blk b3 25 [code.v, words0.v, .int .i64 ((Lk : Nat) : Int), .int .i64 ((R : Nat) : Int)], .at_ code, .at_ words0, .at_ script] := h15.nrm ⟨rfl, rfl, rfl, rfl, rfl, rfl, rfl, rfl, rfl, rfl, rfl, trivial⟩ [0, 1, 2, 3, 4, 5, 6] (by decide) ⟨rfl, rfl, rfl, rfl, rfl, rfl, rfl, trivial⟩
 clear h15
 refine x_any ((fun Φ Ψ S a w => (S 2 = false ∧ S 5 = false ∧ S 7 = false ∧ S 8 = false ∧ FrI 21 S Φ Ψ a ∧ Sh (fun _ => False) W w [.blk b10 28 [.int .i64 ((checkG (pgOf code words0 ((Lk : Nat) : Int) ((R : Nat) : Int))).code), .int .i64 ((checkG (pgOf code words0 ((Lk : Nat) : Int) ((R : Nat) : Int))).thread), .int .i64 ((checkG (pgOf code words0 ((Lk : Nat) : Int) ((R : Nat) : Int))).at_)], .blk b5 28 [.int .i64 0, .int .i64 0, .int .i64 0], .blk b4 49 [(.slice none 0 0), .int .i64 0, (.slice none 0 0), .int .i64 0], .blk b3 25 [code.v, words0.v, .int .i64 ((Lk : Nat) : Int), .int .i64 ((R : Nat) : Int)], .at_ code, .at_ words0, .at_ script]) ∨ (S 2 = true ∧ S 5 = false ∧ S 7 = false ∧ S 8 = false ∧ ∃ (gt7002 : Nat) (g7002 : Nat) (mw7002 : Ls Int) (mo7002 : Ls Int) (q7002 : Ls (Ls Wt)), (mw7002.l = words0.l) ∧ (mo7002.l = List.replicate Lk (-1)) ∧ ((memT gt7002 g7002).qs q7002 = List.replicate code.l.length []) ∧ FrI 21 S Φ (Ψ ++ [(2, 16, .pointer (some ⟨gt7002, 0, none⟩)), (3, 17, .iface (memT gt7002 g7002).T (.pointer (some (memT gt7002 g7002).u)))]) a ∧ Sh (fun _ => False) W w [.blk g7002 205 [mw7002.v, mo7002.v], .own 3 mw7002, .own 3 mo7002, (memT gt7002 g7002).X q7002, .blk b10 28 [.int .i64 ((checkG (pgOf code words0 ((Lk : Nat) : Int) ((R : Nat) : Int))).code), .int .i64 ((checkG (pgOf code words0 ((Lk : Nat) : Int) ((R : Nat) : Int))).thread), .int .i64 ((checkG (pgOf code words0 ((Lk : Nat) : Int) ((R : Nat) : Int))).at_)], .blk b5 28 [.int .i64 0, .int .i64 0, .int .i64 0], .blk b4 49 [(.slice none 0 0), .int .i64 0, (.slice none 0 0), .int .i64 0], .blk b3 25 [code.v, words0.v, .int .i64 ((Lk : Nat) : Int), .int .i64 ((R : Nat) : Int)], .at_ code, .at_ words0, .at_ script]) ∨ (S 2 = true ∧ S 5 = true ∧ S 7 = false ∧ S 8 = false ∧ ∃ (gt7002 : Nat) (g7002 : Nat) (mw7002 : Ls Int) (mo7002 : Ls Int) (q7002 : Ls (Ls Wt)) (pr7005 : Ls Int) (wd7005 : Ls Int) (st7005 : Int) (sn7005 : Nat), (mw7002.l = words0.l) ∧ (mo7002.l = List.replicate Lk (-1)) ∧ ((memT gt7002 g7002).qs q7002 = List.replicate code.l.length []) ∧ (runM (pgN code words0 Lk R) (memT gt7002 g7002).m script.l = ⟨st7005, sn7005, wd7005.l, pr7005.l⟩) ∧ FrI 21 S Φ (Ψ ++ [(2, 16, .pointer (some ⟨gt7002, 0, none⟩)), (3, 17, .iface (memT gt7002 g7002).T (.pointer (some (memT gt7002 g7002).u))), (5, 19, .agg #[pr7005.v, .int .i64 st7005, wd7005.v, .int .i64 ((sn7005 : Nat) : Int)])]) a ∧ Sh (fun _ => False) W w [.own 3 pr7005, .own 3 wd7005, .blk b10 28 [.int .i64 ((checkG (pgOf code words0 ((Lk : Nat) : Int) ((R : Nat) : Int))).code), .int .i64 ((checkG (pgOf code words0 ((Lk : Nat) : Int) ((R : Nat) : Int))).thread), .int .i64 ((checkG (pgOf code words0 ((Lk : Nat) : Int) ((R : Nat) : Int))).at_)], .blk b5 28 [.int .i64 0, .int .i64 0, .int .i64 0], .blk b4 49 [(.slice none 0 0), .int .i64 0, (.slice none 0 0), .int .i64 0], .blk b3 25 [code.v, words0.v, .int .i64 ((Lk : Nat) : Int), .int .i64 ((R : Nat) : Int)], .at_ words0]) ∨ (S 2 = true ∧ S 5 = true ∧ S 7 = true ∧ S 8 = false ∧ ∃ (gt7002 : Nat) (g7002 : Nat) (mw7002 : Ls Int) (mo7002 : Ls Int) (q7002 : Ls (Ls Wt)) (pr7005 : Ls Int) (wd7005 : Ls Int) (st7005 : Int) (sn7005 : Nat), (mw7002.l = words0.l) ∧ (mo7002.l = List.replicate Lk (-1)) ∧ ((memT gt7002 g7002).qs q7002 = List.replicate code.l.length []) ∧ (runM (pgN code words0 Lk R) (memT gt7002 g7002).m script.l = ⟨st7005, sn7005, wd7005.l, pr7005.l⟩) ∧ FrI 21 S Φ (Ψ ++ [(2, 16, .pointer (some ⟨gt7002, 0, none⟩)), (3, 17, .iface (memT gt7002 g7002).T (.pointer (some (memT gt7002 g7002).u))), (5, 19, .agg #[pr7005.v, .int .i64 st7005, wd7005.v, .int .i64 ((sn7005 : Nat) : Int)])]) a ∧ Sh (fun _ => False) W w [.own 3 pr7005, .own 3 wd7005, .blk b10 28 [.int .i64 ((checkG (pgOf code words0 ((Lk : Nat) : Int) ((R : Nat) : Int))).code), .int .i64 ((checkG (pgOf code words0 ((Lk : Nat) : Int) ((R : Nat) : Int))).thread), .int .i64 ((checkG (pgOf code words0 ((Lk : Nat) : Int) ((R : Nat) : Int))).at_)], .blk b5 28 [.int .i64 0, .int .i64 0, .int .i64 0], .blk b4 49 [pr7005.v, .int .i64 st7005, wd7005.v, .int .i64 ((sn7005 : Nat) : Int)], .blk b3 25 [code.v, words0.v, .int .i64 ((Lk : Nat) : Int), .int .i64 ((R : Nat) : Int)], .at_ words0]) ∨ (S 2 = true ∧ S 5 = true ∧ S 7 = true ∧ S 8 = true ∧ ∃ (gt7002 : Nat) (g7002 : Nat) (mw7002 : Ls Int) (mo7002 : Ls Int) (q7002 : Ls (Ls Wt)) (pr7005 : Ls Int) (wd7005 : Ls Int) (st7005 : Int) (sn7005 : Nat), (mw7002.l = words0.l) ∧ (mo7002.l = List.replicate Lk (-1)) ∧ ((memT gt7002 g7002).qs q7002 = List.replicate code.l.length []) ∧ (runM (pgN code words0 Lk R) (memT gt7002 g7002).m script.l = ⟨st7005, sn7005, wd7005.l, pr7005.l⟩) ∧ FrI 21 S Φ (Ψ ++ [(2, 16, .pointer (some ⟨gt7002, 0, none⟩)), (3, 17, .iface (memT gt7002 g7002).T (.pointer (some (memT gt7002 g7002).u))), (5, 19, .agg #[pr7005.v, .int .i64 st7005, wd7005.v, .int .i64 ((sn7005 : Nat) : Int)])]) a ∧ Sh (fun _ => False) W w [.own 3 pr7005, .own 3 wd7005, .blk b10 28 [.int .i64 ((checkG (pgOf code words0 ((Lk : Nat) : Int) ((R : Nat) : Int))).code), .int .i64 ((checkG (pgOf code words0 ((Lk : Nat) : Int) ((R : Nat) : Int))).thread), .int .i64 ((checkG (pgOf code words0 ((Lk : Nat) : Int) ((R : Nat) : Int))).at_)], .blk b5 28 [.int .i64 0, .int .i64 0, .int .i64 0], .blk b4 49 [pr7005.v, .int .i64 st7005, wd7005.v, .int .i64 ((sn7005 : Nat) : Int)], .blk b3 25 [code.v, words0.v, .int .i64 ((Lk : Nat) : Int), .int .i64 ((R : Nat) : Int)], .at_ words0])) [(0, .agg #[code.v, words0.v, .int .i64 ((Lk : Nat) : Int), .int .i64 ((R : Nat) : Int)]), (1, script.v), (2, .pointer (some ⟨b3, 0, none⟩)), (4, .pointer (some ⟨b4, 0, none⟩)), (5, .pointer (some ⟨b5, 0, none⟩)), (6, .pointer (some ⟨b10, 0, none⟩)), (7, .agg #[code.v, words0.v, .int .i64 ((Lk : Nat) : Int), .int .i64 ((R : Nat) : Int)]), (8, .agg #[.int .i64 ((checkG (pgOf code words0 ((Lk : Nat) : Int) ((R : Nat) : Int))).code), .int .i64 ((checkG (pgOf code words0 ((Lk : Nat) : Int) ((R : Nat) : Int))).thread), .int .i64 ((checkG (pgOf code words0 ((Lk : Nat) : Int) ((R : Nat) : Int))).at_)]), (9, .pointer (some ⟨b10, 0, none⟩)), (10, .int .i64 ((checkG (pgOf code words0 ((Lk : Nat) : Int) ((R : Nat) : Int))).code)), (11, .bool (decide ((checkG (pgOf code words0 ((Lk : Nat) : Int) ((R : Nat) : Int))).code ≠ 0)))] [(0, 14, .agg #[code.v, words0.v, .int .i64 ((Lk : Nat) : Int), .int .i64 ((R : Nat) : Int)]), (1, 15, .agg #[code.v, words0.v, .int .i64 ((Lk : Nat) : Int), .int .i64 ((R : Nat) : Int)]), (4, 18, script.v), (6, 20, .agg #[.int .i64 0, .int .i64 0, .int .i64 0])]) (by kernel_rfl) (by kernel_rfl) (Or.inl (⟨rfl, rfl, rfl, rfl, FrI.start h17.fr, h17.sh.drew⟩)) ?_ ?_
 ·intro S i o ho hSi hcl hdep a w hI
  clear h17
  rcases i with _ | _ | _ | _ | _ | _ | _ | _ | _ | i
  ·obtain rfl : _ = o := Option.some.inj ho
   rcases hI with ⟨ν2, ν5, ν7, ν8, φ, ς⟩ | ⟨ν2, ν5, ν7, ν8, gt7002, g7002, mw7002, mo7002, q7002, hmw7002, hmo7002, hq7002, φ, ς⟩ | ⟨_, ν5, _⟩ | ⟨_, ν5, _⟩ | ⟨_, ν5, _⟩
   ·exact sq φ φ.fr0 ς (r_ldbw (i := 3) (vs := [code.v, words0.v, .int .i64 ((Lk : Nat) : Int), .int .i64 ((R : Nat) : Int)]) ti_25 rfl rfl rfl rfl rfl) 0 rfl rfl rfl rfl rfl rfl fun a hg => Or.inl (⟨un rfl ν2, un rfl ν5, un rfl ν7, un rfl ν8, hg, ς⟩)
   ·exact sq φ φ.fr0 ς (r_ldbw (i := 7) (vs := [code.v, words0.v, .int .i64 ((Lk : Nat) : Int), .int .i64 ((R : Nat) : Int)]) ti_25 rfl rfl rfl rfl rfl) 0 rfl rfl rfl rfl rfl rfl fun a hg => Or.inr (Or.inl (⟨un rfl ν2, un rfl ν5, un rfl ν7, un rfl ν8, gt7002, g7002, mw7002, mo7002, q7002, hmw7002, hmo7002, hq7002, hg, ς⟩))
   ·exact no_way (cA hcl 5 0 rfl ν5) hSi
   ·exact no_way (cA hcl 5 0 rfl ν5) hSi
   ·exact no_way (cA hcl 5 0 rfl ν5) hSi
  ·obtain rfl : _ = o := Option.some.inj ho
   rcases hI with ⟨ν2, ν5, ν7, ν8, φ, ς⟩ | ⟨ν2, _⟩ | ⟨ν2, _⟩ | ⟨ν2, _⟩ | ⟨ν2, _⟩
   ·exact sq φ φ.fr0 ς (r_ldbw (i := 3) (vs := [code.v, words0.v, .int .i64 ((Lk : Nat) : Int), .int .i64 ((R : Nat) : Int)]) ti_25 rfl rfl rfl rfl rfl) 1 rfl rfl rfl rfl rfl rfl fun a hg => Or.inl (⟨un rfl ν2, un rfl ν5, un rfl ν7, un rfl ν8, hg, ς⟩)
   ·exact no_way (cA hcl 2 1 rfl ν2) hSi
   ·exact no_way (cA hcl 2 1 rfl ν2) hSi
   ·exact no_way (cA hcl 2 1 rfl ν2) hSi
   ·exact no_way (cA hcl 2 1 rfl ν2) hSi
  ·obtain rfl : _ = o := Option.some.inj ho
   have hd1 : S 1 = true := depAt hdep 0 rfl rfl
   rcases hI with ⟨ν2, ν5, ν7, ν8, φ, ς⟩ | ⟨ν2, _⟩ | ⟨ν2, _⟩ | ⟨ν2, _⟩ | ⟨ν2, _⟩
   ·have hs := St.mk (Fr.cons φ.fr0 (φ.at_ 1 1 15 _ rfl hd1)) ς
    refine step_ex (x_call hs bd_81 rfl rfl rfl rfl rfl (tnew_c code words0 Lk ((R : Nat) : Int) _ (hs.sh.at 4 rfl) (hs.sh.at 5 rfl) (by omega) hwn hlk)) (wanted_none rfl _) ?_
    rintro a28 w28 ⟨_, ⟨gt28, g28, mw28, mo28, q28, rfl, hmw28, hmo28, hq28, hs28⟩, hf28⟩ ⟨v0, ht28⟩
    have h28 := (⟨hf28, hs.sh.call hs28 (by intro A hA b hb; simp only [memA, List.mem_cons, List.not_mem_nil, or_false] at hA; first | (subst hA; exact Flat.noRd hb) | (rcases hA with rfl | rfl | rfl | rfl <;> first | exact (hb : False).elim | exact Flat.noRd hb | exact (memT_rd hb).elim))⟩ : St 21 (fun _ => False) W a28 w28 _ _)
    clear hf28 hs28
    exact Or.inr (Or.inl (⟨upd_self _ _, un rfl ν5, un rfl ν7, un rfl ν8, gt28, g28, mw28, mo28, q28, hmw28, hmo28, hq28, φ.stepW hcl hSi [0, 1, 2, 3] (by kernel_rfl) (by kernel_rfl) ht28 h28.fr.defers (h28.fr.at_ 16 _ rfl) 4 rfl rfl rfl rfl, (h28.sh.sel (L' := [.blk g28 205 [mw28.v, mo28.v], .own 3 mw28, .own 3 mo28, (memT gt28 g28).X q28, .blk b10 28 [.int .i64 ((checkG (pgOf code words0 ((Lk : Nat) : Int) ((R : Nat) : Int))).code), .int .i64 ((checkG (pgOf code words0 ((Lk : Nat) : Int) ((R : Nat) : Int))).thread), .int .i64 ((checkG (pgOf code words0 ((Lk : Nat) : Int) ((R : Nat) : Int))).at_)], .blk b5 28 [.int .i64 0, .int .i64 0, .int .i64 0], .blk b4 49 [(.slice none 0 0), .int .i64 0, (.slice none 0 0), .int .i64 0], .blk b3 25 [code.v, words0.v, .int .i64 ((Lk : Nat) : Int), .int .i64 ((R : Nat) : Int)], .at_ code, .at_ words0, .at_ script]) [0, 1, 2, 3, 4, 5, 6, 7, 8, 9, 10] (by decide) ⟨rfl, rfl, rfl, rfl, rfl, rfl, rfl, rfl, rfl, rfl, rfl, trivial⟩)⟩))
   ·exact no_way ν2 hSi
   ·exact no_way ν2 hSi
   ·exact no_way ν2 hSi
   ·exact no_way ν2 hSi
  ·obtain rfl : _ = o := Option.some.inj ho
   have hd2 : S 2 = true := depAt hdep 0 rfl rfl
   rcases hI with ⟨ν2, _⟩ | ⟨ν2, ν5, ν7, ν8, gt7002, g7002, mw7002, mo7002, q7002, hmw7002, hmo7002, hq7002, φ, ς⟩ | ⟨_, ν5, _⟩ | ⟨_, ν5, _⟩ | ⟨_, ν5, _⟩
   ·exact no_way hd2 ν2
   ·exact sq φ (Fr.cons φ.fr0 (φ.at_ 4 2 16 _ rfl hd2)) ς (Rn.same (r_mkIfP (T := 126) Try.underlying126 rfl rfl) rfl) 5 rfl rfl rfl rfl rfl rfl fun a hg => Or.inr (Or.inl (⟨un rfl ν2, un rfl ν5, un rfl ν7, un rfl ν8, gt7002, g7002, mw7002, mo7002, q7002, hmw7002, hmo7002, hq7002, hg, ς⟩))
   ·exact no_way (cA hcl 5 3 rfl ν5) hSi
   ·exact no_way (cA hcl 5 3 rfl ν5) hSi
   ·exact no_way (cA hcl 5 3 rfl ν5) hSi
  ·obtain rfl : _ = o := Option.some.inj ho
   rcases hI with ⟨ν2, ν5, ν7, ν8, φ, ς⟩ | ⟨ν2, ν5, ν7, ν8, gt7002, g7002, mw7002, mo7002, q7002, hmw7002, hmo7002, hq7002, φ, ς⟩ | ⟨_, ν5, _⟩ | ⟨_, ν5, _⟩ | ⟨_, ν5, _⟩
   ·exact sq φ φ.fr0 ς (r_move rfl rfl) 2 rfl rfl rfl rfl rfl rfl fun a hg => Or.inl (⟨un rfl ν2, un rfl ν5, un rfl ν7, un rfl ν8, hg, ς⟩)
   ·exact sq φ φ.fr0 ς (r_move rfl rfl) 2 rfl rfl rfl rfl rfl rfl fun a hg => Or.inr (Or.inl (⟨un rfl ν2, un rfl ν5, un rfl ν7, un rfl ν8, gt7002, g7002, mw7002, mo7002, q7002, hmw7002, hmo7002, hq7002, hg, ς⟩))
   ·exact no_way (cA hcl 5 4 rfl ν5) hSi
   ·exact no_way (cA hcl 5 4 rfl ν5) hSi
   ·exact no_way (cA hcl 5 4 rfl ν5) hSi
  ·obtain rfl : _ = o := Option.some.inj ho
   have hd0 : S 0 = true := depAt hdep 0 rfl rfl
   have hd3 : S 3 = true := depAt hdep 1 rfl rfl
   have hd4 : S 4 = true := depAt hdep 2 rfl rfl
   have hd2 : S 2 = true := depAt hdep 3 rfl rfl
   rcases hI with ⟨ν2, _⟩ | ⟨ν2, ν5, ν7, ν8, gt7002, g7002, mw7002, mo7002, q7002, hmw7002, hmo7002, hq7002, φ, ς⟩ | ⟨_, ν5, _⟩ | ⟨_, ν5, _⟩ | ⟨_, ν5, _⟩
   ·exact no_way hd2 ν2
   ·have hs := St.mk (Fr.cons (Fr.cons (Fr.cons φ.fr0 (φ.at_ 0 0 14 _ rfl hd0)) (φ.at_ 5 3 17 _ rfl hd3)) (φ.at_ 2 4 18 _ rfl hd4)) ς
    have h32 := hs.sel (L' := [.blk g7002 205 [mw7002.v, mo7002.v], .own 3 mw7002, .own 3 mo7002, (memT gt7002 g7002).X q7002, .at_ code, .at_ script, .blk b10 28 [.int .i64 ((checkG (pgOf code words0 ((Lk : Nat) : Int) ((R : Nat) : Int))).code), .int .i64 ((checkG (pgOf code words0 ((Lk : Nat) : Int) ((R : Nat) : Int))).thread), .int .i64 ((checkG (pgOf code words0 ((Lk : Nat) : Int) ((R : Nat) : Int))).at_)], .blk b5 28 [.int .i64 0, .int .i64 0, .int .i64 0], .blk b4 49 [(.slice none 0 0), .int .i64 0, (.slice none 0 0), .int .i64 0], .blk b3 25 [code.v, words0.v, .int .i64 ((Lk : Nat) : Int), .int .i64 ((R : Nat) : Int)], .at_ words0]) [0, 1, 2, 3, 8, 10, 4, 5, 6, 7, 9] (by decide) ⟨rfl, rfl, rfl, rfl, rfl, rfl, rfl, rfl, rfl, rfl, rfl, trivial⟩
    have hp33 := h32.sh.passL (Lp := [.blk g7002 205 [mw7002.v, mo7002.v], .own 3 mw7002, .own 3 mo7002, (memT gt7002 g7002).X q7002, .at_ code, .at_ script])
    refine step_ex (x_call h32 bd_75 rfl rfl rfl rfl rfl (pgo_c _ (memT gt7002 g7002) code words0 script mw7002 mo7002 q7002 _ Lk R _ (memT_ok gt7002 g7002) hp33 hok hq7002 hmw7002 hmo7002)) (wanted_none rfl _) ?_
    rintro a34 w34 ⟨_, ⟨pr34, wd34, st34, sn34, rfl, hrun34, hs34⟩, hf34⟩ ⟨v0, ht34⟩
    have h34 : St 21 (fun _ => False) W a34 w34 _ [.own 3 pr34, .own 3 wd34, .blk b10 28 [.int .i64 ((checkG (pgOf code words0 ((Lk : Nat) : Int) ((R : Nat) : Int))).code), .int .i64 ((checkG (pgOf code words0 ((Lk : Nat) : Int) ((R : Nat) : Int))).thread), .int .i64 ((checkG (pgOf code words0 ((Lk : Nat) : Int) ((R : Nat) : Int))).at_)], .blk b5 28 [.int .i64 0, .int .i64 0, .int .i64 0], .blk b4 49 [(.slice none 0 0), .int .i64 0, (.slice none 0 0), .int .i64 0], .blk b3 25 [code.v, words0.v, .int .i64 ((Lk : Nat) : Int), .int .i64 ((R : Nat) : Int)], .at_ words0] := ⟨hf34, h32.sh.backL (Lp := [.blk g7002 205 [mw7002.v, mo7002.v], .own 3 mw7002, .own 3 mo7002, (memT gt7002 g7002).X q7002, .at_ code, .at_ script]) hs34 (by intro A hA b hb; simp only [List.mem_cons, List.not_mem_nil, or_false] at hA; rcases hA with rfl | rfl <;> first | exact (hb : False).elim | exact Flat.noRd hb | exact .inl ⟨_, List.mem_cons_self .., .inr hb⟩ | exact .inl ⟨_, by simp, .inr hb⟩)⟩
    clear hf34 hs34
    exact Or.inr (Or.inr (Or.inl (⟨un rfl ν2, upd_self _ _, un rfl ν7, un rfl ν8, gt7002, g7002, mw7002, mo7002, q7002, pr34, wd34, st34, sn34, hmw7002, hmo7002, hq7002, hrun34, φ.stepW hcl hSi [0, 1, 2, 3, 4, 5] (by kernel_rfl) (by kernel_rfl) ht34 h34.fr.defers (h34.fr.at_ 19 _ rfl) 6 rfl rfl rfl rfl, (h34.sh.sel (L' := [.own 3 pr34, .own 3 wd34, .blk b10 28 [.int .i64 ((checkG (pgOf code words0 ((Lk : Nat) : Int) ((R : Nat) : Int))).code), .int .i64 ((checkG (pgOf code words0 ((Lk : Nat) : Int) ((R : Nat) : Int))).thread), .int .i64 ((checkG (pgOf code words0 ((Lk : Nat) : Int) ((R : Nat) : Int))).at_)], .blk b5 28 [.int .i64 0, .int .i64 0, .int .i64 0], .blk b4 49 [(.slice none 0 0), .int .i64 0, (.slice none 0 0), .int .i64 0], .blk b3 25 [code.v, words0.v, .int .i64 ((Lk : Nat) : Int), .int .i64 ((R : Nat) : Int)], .at_ words0]) [0, 1, 2, 3, 4, 5, 6] (by decide) ⟨rfl, rfl, rfl, rfl, rfl, rfl, rfl, trivial⟩)⟩)))
   ·exact no_way ν5 hSi
   ·exact no_way ν5 hSi
   ·exact no_way ν5 hSi
  ·obtain rfl : _ = o := Option.some.inj ho
   rcases hI with ⟨ν2, ν5, ν7, ν8, φ, ς⟩ | ⟨ν2, ν5, ν7, ν8, gt7002, g7002, mw7002, mo7002, q7002, hmw7002, hmo7002, hq7002, φ, ς⟩ | ⟨ν2, ν5, ν7, ν8, gt7002, g7002, mw7002, mo7002, q7002, pr7005, wd7005, st7005, sn7005, hmw7002, hmo7002, hq7002, hrun7005, φ, ς⟩ | ⟨ν2, ν5, ν7, ν8, gt7002, g7002, mw7002, mo7002, q7002, pr7005, wd7005, st7005, sn7005, hmw7002, hmo7002, hq7002, hrun7005, φ, ς⟩ | ⟨_, _, _, ν8, _⟩
   ·exact sq φ φ.fr0 ς (r_build (cs := [.int .i64 0, .int .i64 0, .int .i64 0]) rfl rfl (by kernel_rfl)) 3 rfl rfl rfl rfl rfl rfl fun a hg => Or.inl (⟨un rfl ν2, un rfl ν5, un rfl ν7, un rfl ν8, hg, ς⟩)
   ·exact sq φ φ.fr0 ς (r_build (cs := [.int .i64 0, .int .i64 0, .int .i64 0]) rfl rfl (by kernel_rfl)) 3 rfl rfl rfl rfl rfl rfl fun a hg => Or.inr (Or.inl (⟨un rfl ν2, un rfl ν5, un rfl ν7, un rfl ν8, gt7002, g7002, mw7002, mo7002, q7002, hmw7002, hmo7002, hq7002, hg, ς⟩))
   ·exact sq φ φ.fr0 ς (r_build (cs := [.int .i64 0, .int .i64 0, .int .i64 0]) rfl rfl (by kernel_rfl)) 3 rfl rfl rfl rfl rfl rfl fun a hg => Or.inr (Or.inr (Or.inl (⟨un rfl ν2, un rfl ν5, un rfl ν7, un rfl ν8, gt7002, g7002, mw7002, mo7002, q7002, pr7005, wd7005, st7005, sn7005, hmw7002, hmo7002, hq7002, hrun7005, hg, ς⟩)))
   ·exact sq φ φ.fr0 ς (r_build (cs := [.int .i64 0, .int .i64 0, .int .i64 0]) rfl rfl (by kernel_rfl)) 3 rfl rfl rfl rfl rfl rfl fun a hg => Or.inr (Or.inr (Or.inr (Or.inl (⟨un rfl ν2, un rfl ν5, un rfl ν7, un rfl ν8, gt7002, g7002, mw7002, mo7002, q7002, pr7005, wd7005, st7005, sn7005, hmw7002, hmo7002, hq7002, hrun7005, hg, ς⟩))))
   ·exact no_way (cA hcl 8 6 rfl ν8) hSi
  ·obtain rfl : _ = o := Option.some.inj ho
   have hd5 : S 5 = true := depAt hdep 0 rfl rfl
   have hd2 : S 2 = true := depAt hdep 4 rfl rfl
   rcases hI with ⟨ν2, _⟩ | ⟨_, ν5, _⟩ | ⟨ν2, ν5, ν7, ν8, gt7002, g7002, mw7002, mo7002, q7002, pr7005, wd7005, st7005, sn7005, hmw7002, hmo7002, hq7002, hrun7005, φ, ς⟩ | ⟨_, _, ν7, _⟩ | ⟨_, _, ν7, _⟩
   ·exact no_way hd2 ν2
   ·exact no_way hd5 ν5
   ·have hs := St.mk (Fr.cons φ.fr0 (φ.at_ 6 5 19 _ rfl hd5)) ς
    refine step_ex (x_stb (i := 4) (vs := [pr7005.v, .int .i64 st7005, wd7005.v, .int .i64 ((sn7005 : Nat) : Int)]) (cs' := [pr7005.v, .int .i64 st7005, wd7005.v, .int .i64 ((sn7005 : Nat) : Int)]) hs ti_49 rfl rfl rfl rfl rfl rfl rfl (allOne_cons ((hs.sh.own 0 rfl)).one (allOne_cons rfl (allOne_cons ((hs.sh.own 1 rfl)).one (allOne_cons rfl allOne_nil)))) (Nat.le_of_ble_eq_true rfl) rfl) (wanted_none rfl _) ?_
    rintro a39 w39 h39 ⟨v0, ht39⟩
    exact Or.inr (Or.inr (Or.inr (Or.inl (⟨un rfl ν2, un rfl ν5, upd_self _ _, un rfl ν8, gt7002, g7002, mw7002, mo7002, q7002, pr7005, wd7005, st7005, sn7005, hmw7002, hmo7002, hq7002, hrun7005, φ.noneW hcl hSi [0, 1, 2, 3, 4, 5, 6] (by kernel_rfl) (by kernel_rfl) ht39 h39.fr.defers rfl, (h39.sh.sel (L' := [.own 3 pr7005, .own 3 wd7005, .blk b10 28 [.int .i64 ((checkG (pgOf code words0 ((Lk : Nat) : Int) ((R : Nat) : Int))).code), .int .i64 ((checkG (pgOf code words0 ((Lk : Nat) : Int) ((R : Nat) : Int))).thread), .int .i64 ((checkG (pgOf code words0 ((Lk : Nat) : Int) ((R : Nat) : Int))).at_)], .blk b5 28 [.int .i64 0, .int .i64 0, .int .i64 0], .blk b4 49 [pr7005.v, .int .i64 st7005, wd7005.v, .int .i64 ((sn7005 : Nat) : Int)], .blk b3 25 [code.v, words0.v, .int .i64 ((Lk : Nat) : Int), .int .i64 ((R : Nat) : Int)], .at_ words0]) [0, 1, 2, 3, 4, 5, 6] (by decide) ⟨rfl, rfl, rfl, rfl, rfl, rfl, rfl, trivial⟩)⟩))))
   ·exact no_way ν7 hSi
   ·exact no_way ν7 hSi
  ·obtain rfl : _ = o := Option.some.inj ho
   have hd6 : S 6 = true := depAt hdep 0 rfl rfl
   have hd7 : S 7 = true := depAt hdep 1 rfl rfl
   have hd2 : S 2 = true := depAt hdep 4 rfl rfl
   have hd5 : S 5 = true := depAt hdep 7 rfl rfl
   rcases hI with ⟨ν2, _⟩ | ⟨_, ν5, _⟩ | ⟨_, _, ν7, _⟩ | ⟨ν2, ν5, ν7, ν8, gt7002, g7002, mw7002, mo7002, q7002, pr7005, wd7005, st7005, sn7005, hmw7002, hmo7002, hq7002, hrun7005, φ, ς⟩ | ⟨_, _, _, ν8, _⟩
   ·exact no_way hd2 ν2
   ·exact no_way hd5 ν5
   ·exact no_way hd7 ν7
   ·have hs := St.mk (Fr.cons φ.fr0 (φ.at_ 3 6 20 _ rfl hd6)) ς
    refine step_ex (x_stb (i := 3) (vs := [.int .i64 0, .int .i64 0, .int .i64 0]) (cs' := [.int .i64 0, .int .i64 0, .int .i64 0]) hs ti_28 rfl rfl rfl rfl rfl rfl rfl (allOne_cons rfl (allOne_cons rfl (allOne_cons rfl allOne_nil))) (Nat.le_of_ble_eq_true rfl) rfl) (wanted_none rfl _) ?_
    rintro a40 w40 h40 ⟨v0, ht40⟩
    exact Or.inr (Or.inr (Or.inr (Or.inr (⟨un rfl ν2, un rfl ν5, un rfl ν7, upd_self _ _, gt7002, g7002, mw7002, mo7002, q7002, pr7005, wd7005, st7005, sn7005, hmw7002, hmo7002, hq7002, hrun7005, φ.noneW hcl hSi [0, 1, 2, 3, 4, 5, 6] (by kernel_rfl) (by kernel_rfl) ht40 h40.fr.defers rfl, (h40.sh.sel (L' := [.own 3 pr7005, .own 3 wd7005, .blk b10 28 [.int .i64 ((checkG (pgOf code words0 ((Lk : Nat) : Int) ((R : Nat) : Int))).code), .int .i64 ((checkG (pgOf code words0 ((Lk : Nat) : Int) ((R : Nat) : Int))).thread), .int .i64 ((checkG (pgOf code words0 ((Lk : Nat) : Int) ((R : Nat) : Int))).at_)], .blk b5 28 [.int .i64 0, .int .i64 0, .int .i64 0], .blk b4 49 [pr7005.v, .int .i64 st7005, wd7005.v, .int .i64 ((sn7005 : Nat) : Int)], .blk b3 25 [code.v, words0.v, .int .i64 ((Lk : Nat) : Int), .int .i64 ((R : Nat) : Int)], .at_ words0]) [0, 1, 2, 3, 4, 5, 6] (by decide) ⟨rfl, rfl, rfl, rfl, rfl, rfl, rfl, trivial⟩)⟩))))
   ·exact no_way ν8 hSi
  · simp at ho
 intro S hall a w hI
 clear h17
 rcases hI with ⟨ν2, ν5, ν7, ν8, φ, ς⟩ | ⟨ν2, ν5, ν7, ν8, gt7002, g7002, mw7002, mo7002, q7002, hmw7002, hmo7002, hq7002, φ, ς⟩ | ⟨ν2, ν5, ν7, ν8, gt7002, g7002, mw7002, mo7002, q7002, pr7005, wd7005, st7005, sn7005, hmw7002, hmo7002, hq7002, hrun7005, φ, ς⟩ | ⟨ν2, ν5, ν7, ν8, gt7002, g7002, mw7002, mo7002, q7002, pr7005, wd7005, st7005, sn7005, hmw7002, hmo7002, hq7002, hrun7005, φ, ς⟩ | ⟨ν2, ν5, ν7, ν8, gt7002, g7002, mw7002, mo7002, q7002, pr7005, wd7005, st7005, sn7005, hmw7002, hmo7002, hq7002, hrun7005, φ, ς⟩
 · exact no_way (hall 2 (by decide)) ν2
 · exact no_way (hall 5 (by decide)) ν5
 · exact no_way (hall 7 (by decide)) ν7
 · exact no_way (hall 8 (by decide)) ν8
 have h41 : St 21 (fun _ => False) W a w _ [.own 3 pr7005, .own 3 wd7005, .blk b10 28 [.int .i64 ((checkG (pgOf code words0 ((Lk : Nat) : Int) ((R : Nat) : Int))).code), .int .i64 ((checkG (pgOf code words0 ((Lk : Nat) : Int) ((R : Nat) : Int))).thread), .int .i64 ((checkG (pgOf code words0 ((Lk : Nat) : Int) ((R : Nat) : Int))).at_)], .blk b5 28 [.int .i64 0, .int .i64 0, .int .i64 0], .blk b4 49 [pr7005.v, .int .i64 st7005, wd7005.v, .int .i64 ((sn7005 : Nat) : Int)], .blk b3 25 [code.v, words0.v, .int .i64 ((Lk : Nat) : Int), .int .i64 ((R : Nat) : Int)], .at_ words0] := ⟨φ.fr0, ς⟩
 clear hall φ ς ν2 ν5 ν7 ν8
 refine hK16 _ _ <| wp_ret ?_
 try simp only [Exit.then, Exit.inBlock]
 refine x_ret2c (fn := Try.f37) (t := 4) (t2 := 5) (i := 4) (i2 := 3) ti_49 ti_28 rfl h41 rfl rfl rfl rfl rfl rfl ?_
 exact ⟨pr7005, wd7005, st7005, sn7005, rfl, hrun7005, (h41.sh.sel (L' := [.own 3 pr7005, .own 3 wd7005]) [0, 1] (by decide) ⟨rfl, rfl, trivial⟩)⟩

set_option maxRecDepth 100000 in
set_option maxHeartbeats 4000000 in
theorem tsoRun_b (code : Ls (Ls Ins)) (words script : Ls Int) (locks regs : Int) (W : World) (hcode : code.At W) (hwords : words.At W) (hscript : script.At W) (hz : (checkG (pgOf code words locks regs)).code ≠ 0) :
    Rets Try.prog 37 [.agg #[code.v, words.v, .int .i64 locks, .int .i64 regs], script.v] W (fun v w' => v = .tuple #[.agg #[.slice none 0 0, .int .i64 0, .slice none 0 0, .int .i64 0], (checkG (pgOf code words locks regs)).val] ∧ Sh0 W w' []) := by
 refine x_enter (N := 21) Try.func37 rfl Try.ntmps37 (Nat.le_of_ble_eq_true rfl) fun a1 hf1 => ?_
 have h1 : St 21 (fun _ => False) W a1 W [(0, .agg #[code.v, words.v, .int .i64 locks, .int .i64 regs]), (1, script.v)] [.at_ code, .at_ words, .at_ script] := ⟨hf1.sub ⟨rfl, rfl, trivial⟩, Sh0.ext3 hcode hwords hscript⟩
 clear hf1
 refine wp_seq_k fun K2 hK2 => wp_region_lit <| wl_ex (x_box (cs := [code.v, words.v, .int .i64 locks, .int .i64 regs]) h1 rfl rfl rfl rfl rfl) (wanted_none rfl _) ?_
 rintro a3 w3 ⟨b3, h3⟩; clear h1
 refine wl_ex (x_alloc h3 ti_49 rfl rfl rfl) (wanted_none rfl _) ?_
 rintro a4 w4 ⟨b4, h4⟩; clear h3
 refine wl_ex (x_alloc h4 ti_28 rfl rfl rfl) (wanted_none rfl _) ?_
 rintro a5 w5 ⟨b5, h5⟩; clear h4
 refine wpList_nil <| hK2 _ _ <| wp_seq_k fun K6 hK6 => wp_seq_k fun K7 hK7 => wp_region_lit <| wv h5 (r_ldbw (i := 2) (vs := [code.v, words.v, .int .i64 locks, .int .i64 regs]) ti_25 rfl rfl rfl rfl rfl) rfl rfl fun a8 h8 => wl_ex (x_call h8 bd_46 rfl rfl rfl rfl rfl (asmCheck_c (code := code) (words := words) (locks := locks) (regs := regs) (h8.sh.at 3 rfl) (h8.sh.at 4 rfl))) (wanted_none rfl _) ?_; clear h5
 rintro a9 w9 ⟨_, ⟨rfl, hs9⟩, hf9⟩
 have h9 : St 21 (fun _ => False) W a9 w9 _ _ := ⟨hf9, h8.sh.call0 hs9⟩
 clear hf9 hs9
 clear h8
 refine wl_ex (x_alloc h9 ti_28 rfl rfl rfl) (wanted_none rfl _) ?_
 rintro a10 w10 ⟨b10, h10⟩; clear h9
 refine wl_ex (x_stb (i := 0) (vs := [.int .i64 ((checkG (pgOf code words locks regs)).code), .int .i64 ((checkG (pgOf code words locks regs)).thread), .int .i64 ((checkG (pgOf code words locks regs)).at_)]) (cs' := [.int .i64 ((checkG (pgOf code words locks regs)).code), .int .i64 ((checkG (pgOf code words locks regs)).thread), .int .i64 ((checkG (pgOf code words locks regs)).at_)]) h10 ti_28 rfl rfl rfl rfl rfl rfl rfl (allOne_cons rfl (allOne_cons rfl (allOne_cons rfl allOne_nil))) (Nat.le_of_ble_eq_true rfl) rfl) (wanted_none rfl _) ?_
 rintro a11 w11 h11
 clear h10
 refine wpList_nil <| hK7 _ _ <| wp_seq_k fun K12 hK12 => wp_region_lit <| wv h11 (r_fieldB (r := 0) fl_28_0 rfl rfl rfl) rfl rfl fun a13 h13 => wv h13 (r_ldb (i := 0) ti_26 rfl rfl rfl rfl) rfl rfl fun a14 h14 => wv h14 (r_neqI (p := (checkG (pgOf code words locks regs)).code) (q := 0) rfl rfl rfl) rfl rfl fun a15 h15 => wpList_nil <| hK12 _ _ <| x_condT h15 rfl (decide_eq_true hz) <| wp_seq_k fun K16 hK16 => ?_; clear h11 h13 h14
 have h17 : St 21 (fun _ => False) W a15 w11 [(0, .agg #[code.v, words.v, .int .i64 locks, .int .i64 regs]), (1, script.v), (2, .pointer (some ⟨b3, 0, none⟩)), (4, .pointer (some ⟨b4, 0, none⟩)), (5, .pointer (some ⟨b5, 0, none⟩)), (6, .pointer (some ⟨b10, 0, none⟩)), (7, .agg #[code.v, words.v, .int .i64 locks, .int .i64 regs]), (8, .agg #[.int .i64 ((checkG (pgOf code words locks regs)).code), .int .i64 ((checkG (pgOf code words locks regs)).thread), .int .i64 ((checkG (pgOf code words locks regs)).at_)]), (9, .pointer (some ⟨b10, 0, none⟩)), (10, .int .i64 ((checkG (pgOf code words locks regs)).code)), (11, .bool (decide ((checkG (pgOf code words locks regs)).code ≠ 0)))] [.blk b10 28 [.int .i64 ((checkG (pgOf code words locks regs)).code), .int .i64 ((checkG (pgOf code words locks regs)).thread), .int .i64 ((checkG (pgOf code words locks regs)).at_)], .blk b5 28 [.int .i64 0, .int .i64 0, .int .i64 0], .blk b4 49 [(.slice none 0 0), .int .i64 0, (.slice none 0 0), .int .i64 0], .blk b3 25 [code.v, words.v, .int .i64 locks, .int .i64 regs], .at_ code, .at_ words, .at_ script] := h15.nrm ⟨rfl, rfl, rfl, rfl, rfl, rfl, rfl, rfl, rfl, rfl, rfl, trivial⟩ [0, 1, 2, 3, 4, 5, 6] (by decide) ⟨rfl, rfl, rfl, rfl, rfl, rfl, rfl, trivial⟩
 clear h15
 refine x_any ((fun Φ Ψ S a w => (S 2 = false ∧ S 3 = false ∧ FrI 21 S Φ Ψ a ∧ Sh (fun _ => False) W w [.blk b10 28 [.int .i64 ((checkG (pgOf code words locks regs)).code), .int .i64 ((checkG (pgOf code words locks regs)).thread), .int .i64 ((checkG (pgOf code words locks regs)).at_)], .blk b5 28 [.int .i64 0, .int .i64 0, .int .i64 0], .blk b4 49 [(.slice none 0 0), .int .i64 0, (.slice none 0 0), .int .i64 0], .blk b3 25 [code.v, words.v, .int .i64 locks, .int .i64 regs], .at_ code, .at_ words, .at_ script]) ∨ (S 2 = true ∧ S 3 = false ∧ FrI 21 S Φ Ψ a ∧ Sh (fun _ => False) W w [.blk b10 28 [.int .i64 ((checkG (pgOf code words locks regs)).code), .int .i64 ((checkG (pgOf code words locks regs)).thread), .int .i64 ((checkG (pgOf code words locks regs)).at_)], .blk b5 28 [.int .i64 0, .int .i64 0, .int .i64 0], .blk b4 49 [(.slice none 0 0), .int .i64 0, (.slice none 0 0), .int .i64 0], .blk b3 25 [code.v, words.v, .int .i64 locks, .int .i64 regs], .at_ code, .at_ words, .at_ script]) ∨ (S 2 = true ∧ S 3 = true ∧ FrI 21 S Φ Ψ a ∧ Sh (fun _ => False) W w [.blk b10 28 [.int .i64 ((checkG (pgOf code words locks regs)).code), .int .i64 ((checkG (pgOf code words locks regs)).thread), .int .i64 ((checkG (pgOf code words locks regs)).at_)], .blk b5 28 [.int .i64 ((checkG (pgOf code words locks regs)).code), .int .i64 ((checkG (pgOf code words locks regs)).thread), .int .i64 ((checkG (pgOf code words locks regs)).at_)], .blk b4 49 [(.slice none 0 0), .int .i64 0, (.slice none 0 0), .int .i64 0], .blk b3 25 [code.v, words.v, .int .i64 locks, .int .i64 regs], .at_ code, .at_ words, .at_ script])) [(0, .agg #[code.v, words.v, .int .i64 locks, .int .i64 regs]), (1, script.v), (2, .pointer (some ⟨b3, 0, none⟩)), (4, .pointer (some ⟨b4, 0, none⟩)), (5, .pointer (some ⟨b5, 0, none⟩)), (6, .pointer (some ⟨b10, 0, none⟩)), (7, .agg #[code.v, words.v, .int .i64 locks, .int .i64 regs]), (8, .agg #[.int .i64 ((checkG (pgOf code words locks regs)).code), .int .i64 ((checkG (pgOf code words locks regs)).thread), .int .i64 ((checkG (pgOf code words locks regs)).at_)]), (9, .pointer (some ⟨b10, 0, none⟩)), (10, .int .i64 ((checkG (pgOf code words locks regs)).code)), (11, .bool (decide ((checkG (pgOf code words locks regs)).code ≠ 0)))] [(0, 12, .agg #[(.slice none 0 0), .int .i64 0, (.slice none 0 0), .int .i64 0]), (1, 13, .agg #[.int .i64 ((checkG (pgOf code words locks regs)).code), .int .i64 ((checkG (pgOf code words locks regs)).thread), .int .i64 ((checkG (pgOf code words locks regs)).at_)])]) (by kernel_rfl) (by kernel_rfl) (Or.inl (⟨rfl, rfl, FrI.start h17.fr, h17.sh.drew⟩)) ?_ ?_
 ·intro S i o ho hSi hcl hdep a w hI
  clear h17
  rcases i with _ | _ | _ | _ | i
  ·obtain rfl : _ = o := Option.some.inj ho
   rcases hI with ⟨ν2, ν3, φ, ς⟩ | ⟨ν2, _⟩ | ⟨ν2, _⟩
   ·exact sq φ φ.fr0 ς (r_build (cs := [(.slice none 0 0), .int .i64 0, (.slice none 0 0), .int .i64 0]) rfl rfl (by kernel_rfl)) 0 rfl rfl rfl rfl rfl rfl fun a hg => Or.inl (⟨un rfl ν2, un rfl ν3, hg, ς⟩)
   ·exact no_way (cA hcl 2 0 rfl ν2) hSi
   ·exact no_way (cA hcl 2 0 rfl ν2) hSi
  ·obtain rfl : _ = o := Option.some.inj ho
   rcases hI with ⟨ν2, ν3, φ, ς⟩ | ⟨ν2, ν3, φ, ς⟩ | ⟨_, ν3, _⟩
   ·exact sq φ φ.fr0 ς (r_ldbw (i := 0) (vs := [.int .i64 ((checkG (pgOf code words locks regs)).code), .int .i64 ((checkG (pgOf code words locks regs)).thread), .int .i64 ((checkG (pgOf code words locks regs)).at_)]) ti_28 rfl rfl rfl rfl rfl) 1 rfl rfl rfl rfl rfl rfl fun a hg => Or.inl (⟨un rfl ν2, un rfl ν3, hg, ς⟩)
   ·exact sq φ φ.fr0 ς (r_ldbw (i := 0) (vs := [.int .i64 ((checkG (pgOf code words locks regs)).code), .int .i64 ((checkG (pgOf code words locks regs)).thread), .int .i64 ((checkG (pgOf code words locks regs)).at_)]) ti_28 rfl rfl rfl rfl rfl) 1 rfl rfl rfl rfl rfl rfl fun a hg => Or.inr (Or.inl (⟨un rfl ν2, un rfl ν3, hg, ς⟩))
   ·exact no_way (cA hcl 3 1 rfl ν3) hSi
  ·obtain rfl : _ = o := Option.some.inj ho
   have hd0 : S 0 = true := depAt hdep 0 rfl rfl
   rcases hI with ⟨ν2, ν3, φ, ς⟩ | ⟨ν2, _⟩ | ⟨ν2, _⟩
   ·have hs := St.mk (Fr.cons φ.fr0 (φ.at_ 0 0 12 _ rfl hd0)) ς
    refine step_ex (x_stb (i := 2) (vs := [(.slice none 0 0), .int .i64 0, (.slice none 0 0), .int .i64 0]) (cs' := [(.slice none 0 0), .int .i64 0, (.slice none 0 0), .int .i64 0]) hs ti_49 rfl rfl rfl rfl rfl rfl rfl (allOne_cons rfl (allOne_cons rfl (allOne_cons rfl (allOne_cons rfl allOne_nil)))) (Nat.le_of_ble_eq_true rfl) rfl) (wanted_none rfl _) ?_
    rintro a22 w22 h22 ⟨v0, ht22⟩
    exact Or.inr (Or.inl (⟨upd_self _ _, un rfl ν3, φ.noneW hcl hSi [0, 1] (by kernel_rfl) (by kernel_rfl) ht22 h22.fr.defers rfl, (h22.sh.sel (L' := [.blk b10 28 [.int .i64 ((checkG (pgOf code words locks regs)).code), .int .i64 ((checkG (pgOf code words locks regs)).thread), .int .i64 ((checkG (pgOf code words locks regs)).at_)], .blk b5 28 [.int .i64 0, .int .i64 0, .int .i64 0], .blk b4 49 [(.slice none 0 0), .int .i64 0, (.slice none 0 0), .int .i64 0], .blk b3 25 [code.v, words.v, .int .i64 locks, .int .i64 regs], .at_ code, .at_ words, .at_ script]) [0, 1, 2, 3, 4, 5, 6] (by decide) ⟨rfl, rfl, rfl, rfl, rfl, rfl, rfl, trivial⟩)⟩))
   ·exact no_way ν2 hSi
   ·exact no_way ν2 hSi
  ·obtain rfl : _ = o := Option.some.inj ho
   have hd1 : S 1 = true := depAt hdep 0 rfl rfl
   have hd2 : S 2 = true := depAt hdep 1 rfl rfl
   rcases hI with ⟨ν2, _⟩ | ⟨ν2, ν3, φ, ς⟩ | ⟨_, ν3, _⟩
   ·exact no_way hd2 ν2
   ·have hs := St.mk (Fr.cons φ.fr0 (φ.at_ 1 1 13 _ rfl hd1)) ς
    refine step_ex (x_stb (i := 1) (vs := [.int .i64 ((checkG (pgOf code words locks regs)).code), .int .i64 ((checkG (pgOf code words locks regs)).thread), .int .i64 ((checkG (pgOf code words locks regs)).at_)]) (cs' := [.int .i64 ((checkG (pgOf code words locks regs)).code), .int .i64 ((checkG (pgOf code words locks regs)).thread), .int .i64 ((checkG (pgOf code words locks regs)).at_)]) hs ti_28 rfl rfl rfl rfl rfl rfl rfl (allOne_cons rfl (allOne_cons rfl (allOne_cons rfl allOne_nil))) (Nat.le_of_ble_eq_true rfl) rfl) (wanted_none rfl _) ?_
    rintro a23 w23 h23 ⟨v0, ht23⟩
    exact Or.inr (Or.inr (⟨un rfl ν2, upd_self _ _, φ.noneW hcl hSi [0, 1] (by kernel_rfl) (by kernel_rfl) ht23 h23.fr.defers rfl, (h23.sh.sel (L' := [.blk b10 28 [.int .i64 ((checkG (pgOf code words locks regs)).code), .int .i64 ((checkG (pgOf code words locks regs)).thread), .int .i64 ((checkG (pgOf code words locks regs)).at_)], .blk b5 28 [.int .i64 ((checkG (pgOf code words locks regs)).code), .int .i64 ((checkG (pgOf code words locks regs)).thread), .int .i64 ((checkG (pgOf code words locks regs)).at_)], .blk b4 49 [(.slice none 0 0), .int .i64 0, (.slice none 0 0), .int .i64 0], .blk b3 25 [code.v, words.v, .int .i64 locks, .int .i64 regs], .at_ code, .at_ words, .at_ script]) [0, 1, 2, 3, 4, 5, 6] (by decide) ⟨rfl, rfl, rfl, rfl, rfl, rfl, rfl, trivial⟩)⟩))
   ·exact no_way ν3 hSi
  · simp at ho
 intro S hall a w hI
 clear h17
 rcases hI with ⟨ν2, ν3, φ, ς⟩ | ⟨ν2, ν3, φ, ς⟩ | ⟨ν2, ν3, φ, ς⟩
 · exact no_way (hall 2 (by decide)) ν2
 · exact no_way (hall 3 (by decide)) ν3
 have h24 : St 21 (fun _ => False) W a w _ [.blk b10 28 [.int .i64 ((checkG (pgOf code words locks regs)).code), .int .i64 ((checkG (pgOf code words locks regs)).thread), .int .i64 ((checkG (pgOf code words locks regs)).at_)], .blk b5 28 [.int .i64 ((checkG (pgOf code words locks regs)).code), .int .i64 ((checkG (pgOf code words locks regs)).thread), .int .i64 ((checkG (pgOf code words locks regs)).at_)], .blk b4 49 [(.slice none 0 0), .int .i64 0, (.slice none 0 0), .int .i64 0], .blk b3 25 [code.v, words.v, .int .i64 locks, .int .i64 regs], .at_ code, .at_ words, .at_ script] := ⟨φ.fr0, ς⟩
 clear hall φ ς ν2 ν3
 refine hK16 _ _ <| wp_ret ?_
 try simp only [Exit.then, Exit.inBlock]
 refine x_ret2c (fn := Try.f37) (t := 4) (t2 := 5) (i := 2) (i2 := 1) ti_49 ti_28 rfl h24 rfl rfl rfl rfl rfl rfl ?_
 exact ⟨rfl, (h24.sh.sel [] (by decide) trivial)⟩

end Go.Proofs.Ytfpaahkleienoaa
