/-
  All that one can come to, gone through layer by layer.
-/
import Derived.Test.YtmjkobhkkjgplaaGreatDoorX86
import Derived.Test.YtmjkobhkkjgplaaGreatDoorX88
import Derived.Test.YtmjkobhkkjgplaaGreatDoorS32
namespace Go.Proofs.YtmjkobhkkjgplaaGreatDoor
open Go.RowKit
set_option linter.unusedSimpArgs false
set_option linter.unusedVariables false
set_option maxRecDepth 100000
set_option maxHeartbeats 20000000


theorem mstr_150 : MapTStr Tryz.prog 150 9 4 := ⟨Tryz.underlying150, Tryz.underlying9, Tryz.zeroValue4⟩
section
variable {F : MemF} {code : Ls (Ls Ins)} {words0 : Ls Int} {Lk R : Nat}
theorem begin_eq {rows : List ThR} {qs : List (List Wt)} {words owner : List Int} (hr : rows.map ThR.th = List.replicate code.l.length ⟨0, List.replicate R 0, []⟩) (hq : qs = List.replicate code.l.length []) (hw : words = words0.l) (ho : owner = List.replicate Lk (-1)) : rows.length = code.l.length ∧ mstR rows qs words owner [] = begin_ (pgN code words0 Lk R) := by
  have hl : rows.length = code.l.length := by simpa using congrArg List.length hr
  refine ⟨hl, ?_⟩
  unfold mstR begin_
  have h1 : ((List.range rows.length).map fun t => (⟨(nth rows t).pc, (nth rows t).regs.l, nth qs t⟩ : Th)) = (pgN code words0 Lk R).code.map fun _ => ⟨0, List.replicate (pgN code words0 Lk R).regs.toNat 0, []⟩ := by
    refine ext_nth _ _ (by simp [hl, pgN, pgOf]) fun i hi => ?_
    have hi' : i < rows.length := by simpa using hi
    have h2 := congrArg (fun l => nth l i) hr
    simp only [nth_map' ThR.th _ _ hi', nth_replicate _ _ _ (show i < code.l.length by omega)] at h2
    rw [nth_map' _ _ _ (by simpa using hi'), nth_range hi', nth_map' _ _ _ (by rw [pgN_len]; omega), hq, nth_replicate _ _ _ (by omega)]
    have h3 := congrArg Th.pc h2
    have h4 := congrArg Th.regs h2
    simp only [ThR.th] at h3 h4
    rw [h3, h4]
    simp [pgN, pgOf]
  rw [h1, hw, ho]
  simp [pgN, pgOf]
/-- What is known of states that are frozen. -/
structure PL (K : Nat → Prop) (W : World) (code : Ls (Ls Ins)) (gp : Nat) (l : List (PSD F)) : Prop where
  gp : ∀ y ∈ l, y.gp = gp
  rl : ∀ y ∈ l, y.rows.length = code.l.length
  ql : ∀ y ∈ l, y.qs.length = code.l.length
  nw : ∀ y ∈ l, ∀ b, Enc.on y b → K b ∨ W.heap.size ≤ b
theorem PL.nil {K : Nat → Prop} {W : World} {gp : Nat} : PL (F := F) K W code gp [] := ⟨fun y h => (by cases h), fun y h => (by cases h), fun y h => (by cases h), fun y h => (by cases h)⟩
theorem PL.snoc {K : Nat → Prop} {W : World} {gp : Nat} {l : List (PSD F)} {x : PSD F} (h : PL K W code gp l) (h1 : x.gp = gp) (h2 : x.rows.length = code.l.length) (h3 : x.qs.length = code.l.length) (h4 : ∀ b, Enc.on x b → K b ∨ W.heap.size ≤ b) : PL K W code gp (l ++ [x]) := by
  have key : ∀ y ∈ l ++ [x], y ∈ l ∨ y = x := fun y hy => by simpa using hy
  exact ⟨fun y hy => (key y hy).elim (h.gp y) (fun e => e ▸ h1), fun y hy => (key y hy).elim (h.rl y) (fun e => e ▸ h2), fun y hy => (key y hy).elim (h.ql y) (fun e => e ▸ h3), fun y hy => (key y hy).elim (h.nw y) (fun e => e ▸ h4)⟩
theorem PL.px {K : Nat → Prop} {W : World} {gp : Nat} {l : List (PSD F)} {S : List MSt} {Fp : MSt → Prop} {E : List Outc} (h : PL K W code gp l) (hb : BI (pgN code words0 Lk R) F.m S Fp E) (hs : ∀ y ∈ l, y.st ∈ S) (hn : S.length ≤ 40000) {y : PSD F} (hy : y ∈ l) : PX code words0 Lk R y :=
  ⟨hb.reach _ (hs y hy), h.rl y hy, h.ql y hy, by have h9 : y.prints.l.length ≤ 2 * S.length := hb.pr _ (hs y hy); omega⟩
theorem psd_prints {x : PSD F} {w : World} (h : Enc.inner x w) {b : Nat} (hb : x.prints.on b) : Enc.on x b := by
  have h9 : ∀ A ∈ x.A, A.ok w := h
  exact ⟨.own 3 x.prints, List.mem_of_getElem? (i := 3) rfl, own_on (h9 _ (List.mem_of_getElem? (i := 3) rfl)) hb⟩
theorem key_mem (hok : OkPg (pgN code words0 Lk R)) (ht : TqOK F.tq F.Q) (hQ : ∀ i q, F.Q ((F.mem i).qs q)) {S : List MSt} {y : PSD F} (hy : Reach (pgN code words0 Lk R) F.m y.st) (hS : ∀ s ∈ S, Reach (pgN code words0 Lk R) F.m s) (hw : y.st.ths.map Th.wait = y.qs) (hSw : ∀ s ∈ S, F.Q (s.ths.map Th.wait)) : keyS F.tq y.st ∈ S.map (keyS F.tq) ↔ y.st ∈ S := by
  constructor
  · intro h
    obtain ⟨s, hs, e⟩ := List.mem_map.1 h
    have := keyS_inj ht ((hS s hs).wf hok) (hy.wf hok) (hSw s hs) (by rw [hw]; exact hQ _ _) e
    exact this ▸ hs
  · intro h; exact List.mem_map.2 ⟨_, h, rfl⟩
theorem keepL_map {l : List OutL} : ∀ n, n ≤ l.length → (keepL eqO l n).map OutL.out = keepL (fun a b => decide (a = b)) (l.map OutL.out) n
  | 0, _ => rfl
  | n + 1, h => by
    have ih := keepL_map (l := l) n (by omega)
    have e : keepI eqO l n = keepI (fun a b => decide (a = b)) (l.map OutL.out) n := by
      unfold keepI eqO
      rw [nth_map' _ _ _ (by omega), nth_map' _ _ _ (by omega)]
    cases hk : keepI eqO l n with
    | true => rw [keepL_yes hk, keepL_yes (e ▸ hk), List.map_append, ih, nth_map' _ _ _ (by omega)]; rfl
    | false => rw [keepL_no hk, keepL_no (e ▸ hk), ih]
theorem keepL_mem {l : List OutL} {n : Nat} (hn : n ≤ l.length) : ∀ o ∈ keepL eqO l n, o ∈ l := fun o ho => by
  unfold keepL at ho
  obtain ⟨i, hi, rfl⟩ := List.mem_map.1 ho
  have := (List.mem_filter.1 hi).1
  exact nth_mem _ _ (by have := List.mem_range.1 this; omega)
theorem drop_map {l : List (PSD F)} {i : Nat} (h : i < l.length) : (l.map PSD.st).drop i = (nth l i).st :: (l.map PSD.st).drop (i + 1) := by
  rw [← nth_map' PSD.st l i h, nth_lt _ _ (by simpa using h)]
  exact List.drop_eq_getElem_cons (by simpa using h)
theorem movesV_len16 (hok : OkPg (pgN code words0 Lk R)) {x : PSD F} (h : PX code words0 Lk R x) : (movesV (pgN code words0 Lk R) F.m x.st).length ≤ 16 := by
  have hf := psd_facts hok h.reach h.rl
  have h8 := (ok_lenP hok).2.1
  have h9 := movesF_len (m := F.m) (thr := x.rows.map ThR.toQ) (owner := x.owner.l) hf.hw3 _ (Nat.le_refl _)
  have e : movesF F.m code (x.rows.map ThR.toQ) x.qs x.owner.l code.l.length = movesV (pgN code words0 Lk R) F.m x.st := movesF_eq (prints := x.prints.l) (words := x.words.l) h.rl
  rw [← e]; omega
theorem lookE_len {p : Pg} {m : Int} {s : MSt} (h : (movesV p m s).length ≤ 16) : (lookE p m s).length ≤ 17 ∧ (lookN p m s).length ≤ 16 := by
  have h1 := flatMap_le (f := endsV p m s) (c := 1) (l := movesV p m s) fun v _ => endsV_len v
  have h2 := flatMap_le (f := nextV p m s) (c := 1) (l := movesV p m s) fun v _ => nextV_len v
  unfold lookE lookN
  by_cases he : ended p s = true
  · rw [if_pos he, if_pos he]; simp
  · rw [if_neg he, if_neg he]
    split
    · exact ⟨by simp, by omega⟩
    · exact ⟨by omega, by omega⟩
end

theorem from_c (K : Nat → Prop) (F : MemF) (ζ : Type) (env : ζ → Asn) (stepE : ζ → MSt → ζ) (z0 : ζ) (fe : FuncId) (us ws : List Value) (i0 : F.ι) (q0 : (F.mem i0).σ) (code : Ls (Ls Ins)) (words0 words owner : Ls Int) (pw : Value) (Lk R : Nat) (W : World) (hF : MemFI Tryz.prog 182 3 204 5 141 F) (hS : Sh K W W [.blk (F.mem i0).g0 182 [words.v, owner.v], .own 3 words, .own 3 owner, (F.mem i0).X q0, .at_ code, env z0]) (hok : OkPg (pgN code words0 Lk R)) (hR : PgR (pgN code words0 Lk R)) (hq0 : (F.mem i0).qs q0 = List.replicate code.l.length []) (hw0 : words.l = words0.l) (ho0 : owner.l = List.replicate Lk (-1)) (hbe : bodyI Tryz.prog fe = true) (hEr : ∀ z b, ¬ (env z).rd b) (hE : ∀ (K' : Nat → Prop) (W' : World) (gp : Nat) (x : PSD F) (z : ζ), PX code words0 Lk R x → x.gp = gp → Sh K' W' W' [env z, .rd1 x, .rblk gp 25 [code.v, pw, .int .i64 ((Lk : Nat) : Int), .int .i64 ((R : Nat) : Int)], .at_ code] → Rets Tryz.prog fe (us ++ [.pointer (some ⟨x.g, 0, none⟩)] ++ ws) W' (fun v w' => v = .tuple #[] ∧ Sh K' W' w' [env (stepE z x.st), .rd1 x, .rblk gp 25 [code.v, pw, .int .i64 ((Lk : Nat) : Int), .int .i64 ((R : Nat) : Int)], .at_ code])) :
    Rets Tryz.prog 61 [.agg #[code.v, pw, .int .i64 ((Lk : Nat) : Int), .int .i64 ((R : Nat) : Int)], .iface (F.mem i0).T (.pointer (some (F.mem i0).u)), .func (.func fe) us.toArray ws.toArray] W (fun v w' => ∃ (z : ζ), (v = .tuple #[.slice none 0 0, .bool false] ∧ Big (pgN code words0 Lk R) F.m ∧ Sh K W w' [env z]) ∨ (∃ (u : Ls OutL) (S : List MSt), v = .tuple #[u.v, .bool true] ∧ Sorted_ (u.l.map OutL.out) ∧ (∀ o, o ∈ u.l.map OutL.out ↔ Outs (pgN code words0 Lk R) F.m o) ∧ ¬ Big (pgN code words0 Lk R) F.m ∧ z = S.foldl stepE z0 ∧ S.Nodup ∧ (∀ s, s ∈ S ↔ Reach (pgN code words0 Lk R) F.m s) ∧ (∀ o ∈ u.l, ∀ b, Enc.on o b → K b ∨ W.heap.size ≤ b) ∧ u.l.length ≤ 100000 ∧ Sh K W w' [.own 39 u, env z])) := by
 obtain ⟨hl1, hcl, hwn, hlk0, hR2⟩ := ok_lenP hok
 refine gen Tryz.func61 Tryz.ntmps61 hS rfl fun a10 h10 => gG h10<|sK fun _ k11 => gbx rfl rfl fun b12 => gRn (oM 2 rfl<|.nl)<|nK k11<|fun a14 w14 h14 => ?_; clear h10
 have h13 := h14.toR 0 rfl
 clear h14
 refine gG h13<|sK fun _ k15 => gRn (oM 1 rfl<|.nl)<|fun a17 w17 h17 => wl_ex (x_call h17 bd_100 rfl rfl rfl rfl rfl (pbegin_c (F.mem i0) b12 code _ Lk R _ (h17.sh.rblk 0 rfl) (h17.sh.at 5 rfl) hcl hR2)) (wanted_none rfl _) ?_; clear h13
 rintro a18 w18 ⟨_, ⟨g18, rows18, vt18, rfl, hrw18, hs18⟩, hf18⟩
 have h18 := (⟨hf18, h17.sh.call hs18 (by intro A hA b hb; simp only [List.mem_cons, List.not_mem_nil, or_false] at hA; first | (rcases hA with rfl | rfl | rfl | rfl <;> first | exact (hb : False).elim | exact Flat.noRd hb | exact regNoRd hb) | (rcases hA with rfl | rfl; (obtain ⟨i9, hi9, hb9⟩ := hb; exact (hosr _ (nth_mem _ _ hi9) b hb9).imp id (fun h => ⟨_, List.mem_cons_self .., h⟩)); (obtain ⟨i9, hi9, hb9⟩ := hb; exact .inl ((hnsx _ (nth_mem _ _ hi9)).2.2.2 b hb9))))⟩ : St 83 K W a18 w18 _ _)
 clear hf18 hs18
 clear h17
 refine gG h18<|gRn (oM 1 rfl<|.nl)<|nK k15<|gO [0, 1, 2, 3, 5, 6, 7, 8, 4, 9, 10] rfl<|?_; clear h18
 obtain ⟨x0, hx0⟩ : ∃ x, x = (⟨b12, i0, q0, g18, vt18, rows18, ⟨.slice none 0 0, []⟩, words, owner⟩ : PSD F) := ⟨_, rfl⟩
 intro a21 w21 h21
 have hfz := PSD.frz (L := [.rblk b12 25 [code.v, pw, .int .i64 ((Lk : Nat) : Int), .int .i64 ((R : Nat) : Int)], .at_ code, env z0]) (fun i q b => (hF.ok i).xrd q b) (⟨b12, i0, q0, g18, vt18, rows18, ⟨.slice none 0 0, []⟩, words, owner⟩ : PSD F) h21.sh
 rw [← hx0] at hfz
 have h20 : St 83 K W a21 w21 _ _ := ⟨h21.fr, hfz.1⟩
 clear h21
 have h100020 := h20.same (d := 8) (v' := .pointer (some ⟨x0.g, 0, none⟩)) rfl (by rw [hx0])
 clear h20
 obtain ⟨hrl0, hst0⟩ := begin_eq (words0 := words0) (Lk := Lk) hrw18 hq0 hw0 ho0
 have hst0 : x0.st = begin_ (pgN code words0 Lk R) := by rw [hx0]; exact hst0
 have hrl0 : x0.rows.length = code.l.length := by rw [hx0]; exact hrl0
 have hql0 : x0.qs.length = code.l.length := by rw [hx0]; show ((F.mem i0).qs q0).length = _; rw [hq0, List.length_replicate]
 have hgp0 : x0.gp = b12 := by rw [hx0]
 have hb0 : BI (pgN code words0 Lk R) F.m [x0.st] (fun y => y = x0.st) [] := BI.first _ hst0
 have hpl0 : PL K W code b12 [x0] := PL.nil.snoc hgp0 hrl0 hql0 hfz.2
 have hpx0 : PX code words0 Lk R x0 := hpl0.px hb0 (fun y hy => by obtain rfl := List.mem_singleton.1 hy; simp) (by simp) (by simp)
 refine gG h100020<|sK fun _ k22 => gE1 (fun _ _ h_ => x_makeStr (T := 150) h_ rfl rfl rfl) rfl fun g23 => gRn (oM 1 rfl<|.nl)<|gP (fun _ _ h_ => xCl h_ bd_101 rfl (key_c F x0 _ hF (PSD.rd (h_.sh.ok (.rd1 x0) (List.mem_of_getElem? (i := 1) rfl))) (hpx0.key hok hR) (by rw [hql0, hrl0]))) rfl<|gE (fun _ _ h_ => x_updStrI (i := 0) (k := (keyS F.tq (x0).st)) h_ mstr_150 rfl rfl rfl rfl rfl rfl (by first | exact hnm | simp)) rfl<|gRn (oM 2 rfl<|.nl)<|nK k22<|sG (oM 1 rfl<|.nl)<|gK fun _ k27 => sK fun _ k28 => gRn (oM 1 rfl<|.nl)<|gE1 (fun _ _ h_ => x_lit (n := 1) (cs := [.pointer (some ⟨x0.g, 0, none⟩)]) ([x0] : List (PSD F)) h_ sl_151 ti_85 rfl rfl rfl (by decide) rfl (by kernel_rfl) rfl (fun q hq w h => by obtain rfl : q = 0 := (by simpa using hq); exact h.ok _ (List.mem_of_getElem? (i := 1) rfl)) (fun q hq b hb => by obtain rfl : q = 0 := (by simpa using hq); exact ⟨_, List.mem_of_getElem? (i := 1) rfl, hb⟩) rfl rfl) rfl fun v29 => gRn (oM 1 rfl<|.nl)<|nK k28<|gB<|fun a32 w32 h32 => ?_; clear h100020
 have h31 := h32.nil (α := OutL) 39
 clear h32
 refine x_loop (fun m a w => ∃ (S0 : List MSt) (layer : List (PSD F)) (es : List OutL) (z : ζ) (ks : List ByteArray) (vl ve : Value), (BI (pgN code words0 Lk R) F.m (S0 ++ layer.map PSD.st) (fun y => y ∈ layer.map PSD.st) (es.map OutL.out)) ∧ (ks = (S0 ++ layer.map PSD.st).map (keyS F.tq)) ∧ (PL K W code b12 layer) ∧ (∀ s ∈ S0 ++ layer.map PSD.st, F.Q (s.ths.map Th.wait)) ∧ (S0.length + layer.length ≤ 4000) ∧ (∀ o ∈ es, ∀ b, Enc.on o b → K b ∨ W.heap.size ≤ b) ∧ (es.length ≤ 17 * S0.length) ∧ (z = S0.foldl stepE z0) ∧ St 83 K W a w [(2, .func (.func fe) us.toArray ws.toArray), (9, .map (some g23)), (10, ve), (11, vl)] [.own 85 (⟨vl, layer⟩ : Ls (PSD F)), .strO g23 ks, .rd1 x0, .rblk b12 25 [code.v, pw, .int .i64 ((Lk : Nat) : Int), .int .i64 ((R : Nat) : Int)], .at_ code, env z, .own 39 (⟨ve, es⟩ : Ls OutL)] ∧ m = 4001 - S0.length) ⟨_, [], [x0], [], z0, ([]) ++ [(keyS F.tq (x0).st)], v29, (.slice none 0 0), (hb0.mono (fun s hs h => .inl (by rw [h]; simp))), (rfl), (hpl0), ((fun s hs => by obtain rfl : s = x0.st := (by simpa using hs); rw [psd_wait (by rw [hql0, hrl0])]; exact hF.qQ _ _)), (by simp), (fun o ho => (by cases ho)), (by simp), (rfl), h31.nrm ⟨rfl, rfl, rfl, rfl, trivial⟩ [1, 2, 3, 4, 5, 6, 0] rfl, rfl⟩ ?_
 clear h31
 rintro m30 a30 w30 ⟨S0, layer, es, z, ks, vl, ve, hbi, hks, hlx, hqw, hsn, hen, hel, hz, h30, hm30⟩
 refine gG h30<|gK fun _ k33 => sK fun _ k34 => gNl (aO 0 rfl) fun (hl35 : layer.length ≤ 140737488355328) => gRn (oM 1 rfl<|oln (n := layer.length) sl_151 (aO 0 rfl) rfl<|ogtN _ 0 rfl<|.nl)<|nK k34<|?_; clear h30
 refine gcd rfl (fun hb36 hp36 => ?_) fun hb36 hp36 => ?_
 ·skip
  refine gS<|hK k33<|gB<|gK fun _ k37 => sG (oM 1 rfl<|oln (n := layer.length) sl_151 (aO 0 rfl) rfl<|oM 1 rfl<|.nl)<|gB<|fun a40 w40 h40 => x_loop (fun m a w => ∃ (q : Nat) (z1 : ζ), (q ≤ layer.length) ∧ (z1 = ((layer.map PSD.st).take q).foldl stepE z) ∧ St 83 K W a w [(2, .func (.func fe) us.toArray ws.toArray), (9, .map (some g23)), (10, ve), (11, vl), (32, vl), (33, .int .i64 ((layer.length : Nat) : Int)), (34, .int .i64 ((q : Nat) : Int))] [.own 85 (⟨vl, layer⟩ : Ls (PSD F)), .strO g23 ks, .rd1 x0, .rblk b12 25 [code.v, pw, .int .i64 ((Lk : Nat) : Int), .int .i64 ((R : Nat) : Int)], .at_ code, env z1, .own 39 (⟨ve, es⟩ : Ls OutL)] ∧ m = layer.length - q) ⟨_, 0, z, (by omega), (rfl), h40.nf ⟨rfl, rfl, rfl, rfl, rfl, rfl, rfl, trivial⟩, rfl⟩ ?_
  clear h40
  rintro m39 a39 w39 ⟨q, z1, hq, hz1, h39, hm39⟩
  refine gG h39<|sG (oltN _ _ rfl<|.nl)<|gK fun _ k42 => gcd rfl (fun hb43 hp43 => ?_) fun hb43 hp43 => ?_; clear h39
  ·skip
   refine gS<|hK k42<|gK fun _ k44 => gB<|sG (oxN sl_151 ti_85 (aO 0 rfl) _ om9 rfl<|olE (.pointer (some ⟨(nth layer q).g, 0, none⟩)) ti_85 (aO 0 rfl) om9 rfl<|oM 1 rfl<|.nl)<|?_
   have hil : q < layer.length := by omega
   have hmi := nth_mem layer q hil
   have hpxi : PX code words0 Lk R (nth layer q) := hlx.px hbi (fun y hy => List.mem_append.2 (.inr (List.mem_map.2 ⟨y, hy, rfl⟩))) (by rw [List.length_append, List.length_map]; omega) hmi
   have hgpi : (nth layer q).gp = b12 := hlx.gp _ hmi
   intro a47 w47 h47
   have h46 := h47.addRd (A := .rd1 (nth layer q)) ((h47.sh.own 0 rfl).inner q (by omega)) (fun b hb => hb) (fun b hb => ⟨.own 85 (⟨vl, layer⟩ : Ls (PSD F)), List.mem_of_getElem? (i := 0) rfl, q, (by show q < layer.length; omega), hb⟩)
   clear h47
   refine gG h46<|gL<|gRn (oM 2 rfl<|.nl)<|gO [6, 0, 4, 5, 1, 2, 3, 7] rfl<|fun a53 w53 h53 => ?_; clear h46
   have hp52 := h53.sh.passL (Lp := [_, _, _, _])
   refine wl_ex (x_call h53 hbe rfl rfl rfl rfl rfl (hE _ _ b12 (nth layer q) z1 hpxi hgpi hp52)) (wanted_none rfl _) ?_
   rintro a54 w54 ⟨_, ⟨rfl, hs54⟩, hf54⟩
   have h54 : St 83 K W a54 w54 _ [_, _, _, _, _, _, _, _] := ⟨hf54, h53.sh.backL (Lp := [_, _, _, _]) hs54 (by intro A hA b hb; simp only [List.mem_cons, List.not_mem_nil, or_false] at hA; rcases hA with rfl | rfl | rfl | rfl <;> first | exact (hb : False).elim | exact Flat.noRd hb | exact .inl ⟨_, List.mem_cons_self .., .inr hb⟩ | exact (hEr _ _ hb).elim | exact .inl ⟨_, List.mem_of_getElem? (i := 1) rfl, .inr hb⟩ | exact .inl ⟨_, List.mem_of_getElem? (i := 2) rfl, .inr hb⟩ | exact .inl ⟨_, List.mem_of_getElem? (i := 3) rfl, .inr hb⟩ | exact .inl ⟨_, by simp, .inr hb⟩)⟩
   clear hf54 hs54
   clear h53
   refine gG h54<|nK k44<|gL<|gRn (oadN _ 1 om9 rfl<|oM 1 rfl<|.nl)<|nN<|fun a55 w55 h55 => x_again ⟨_, ?_, (q + 1), (stepE z1 (nth layer q).st), ?_, ?_, h55.nrm ⟨rfl, rfl, rfl, rfl, rfl, rfl, rfl, trivial⟩ [4, 5, 6, 2, 3, 0, 7] rfl, rfl⟩; clear h54
   · rw [hm39]; first | omega | (simp only [lens9]; omega)
   · omega
   · rw [take_succ_nth _ _ (by simpa using hil), List.foldl_append, ← hz1, nth_map' _ _ _ hil]; rfl
  refine gX<|hK k37<|sG (oM 1 rfl<|.nl)<|gK fun _ k57 => sG (oM 1 rfl<|oln (n := layer.length) sl_151 (aO 0 rfl) rfl<|oM 1 rfl<|.nl)<|gB<|fun a61 w61 h61 => ?_
  have h60 := h61.nil (α := PSD F) 85
  clear h61
  refine x_loop (fun m a w => ∃ (i : Nat) (nx : List (PSD F)) (es2 : List OutL) (ks2 : List ByteArray) (vn ve2 : Value), (i ≤ layer.length) ∧ (BI (pgN code words0 Lk R) F.m (S0 ++ layer.map PSD.st ++ nx.map PSD.st) (fun y => y ∈ (layer.map PSD.st).drop i ∨ y ∈ nx.map PSD.st) (es2.map OutL.out)) ∧ (ks2 = (S0 ++ layer.map PSD.st ++ nx.map PSD.st).map (keyS F.tq)) ∧ (PL K W code b12 nx) ∧ (∀ s ∈ S0 ++ layer.map PSD.st ++ nx.map PSD.st, F.Q (s.ths.map Th.wait)) ∧ (∀ o ∈ es2, ∀ b, Enc.on o b → K b ∨ W.heap.size ≤ b) ∧ (es2.length ≤ 17 * (S0.length + i)) ∧ (nx.length ≤ 16 * i) ∧ St 83 K W a w [(2, .func (.func fe) us.toArray ws.toArray), (9, .map (some g23)), (10, ve2), (14, vn), (42, vl), (43, .int .i64 ((layer.length : Nat) : Int)), (44, .int .i64 ((i : Nat) : Int))] [.own 85 (⟨vl, layer⟩ : Ls (PSD F)), .strO g23 ks2, .rd1 x0, .rblk b12 25 [code.v, pw, .int .i64 ((Lk : Nat) : Int), .int .i64 ((R : Nat) : Int)], .at_ code, env z1, .own 39 (⟨ve2, es2⟩ : Ls OutL), .own 85 (⟨vn, nx⟩ : Ls (PSD F))] ∧ m = layer.length - i) ⟨_, 0, [], es, ks, (.slice none 0 0), ve, (by omega), ((by have h9 := hbi.mono (F' := fun y => y ∈ (layer.map PSD.st).drop 0 ∨ y ∈ ([] : List (PSD F)).map PSD.st) (fun s hs h => .inl (.inl h)); simpa using h9)), (by simpa using hks), (PL.nil), (by simpa using hqw), (hen), (hel), (by simp), h60.nrm ⟨rfl, rfl, rfl, rfl, rfl, rfl, rfl, trivial⟩ [1, 2, 3, 4, 5, 6, 7, 0] rfl, rfl⟩ ?_
  clear h60
  rintro m59 a59 w59 ⟨i, nx, es2, ks2, vn, ve2, hi, hb2, hks2, hnx, hqw2, hen2, hel2, hnl2, h59, hm59⟩
  refine gG h59<|sG (oltN _ _ rfl<|.nl)<|gK fun _ k63 => gcd rfl (fun hb64 hp64 => ?_) fun hb64 hp64 => ?_; clear h59
  ·skip
   refine gS<|hK k63<|gK fun _ k65 => gB<|sG (oxN sl_151 ti_85 (aO 0 rfl) _ om9 rfl<|olE (.pointer (some ⟨(nth layer i).g, 0, none⟩)) ti_85 (aO 0 rfl) om9 rfl<|oM 1 rfl<|.nl)<|?_
   have hil : i < layer.length := by omega
   have hmi := nth_mem layer i hil
   have hpxi : PX code words0 Lk R (nth layer i) := hlx.px hbi (fun y hy => List.mem_append.2 (.inr (List.mem_map.2 ⟨y, hy, rfl⟩))) (by rw [List.length_append, List.length_map]; omega) hmi
   have hgpi : (nth layer i).gp = b12 := hlx.gp _ hmi
   intro a68 w68 h68
   have h67 := h68.addRd (A := .rd1 (nth layer i)) ((h68.sh.own 0 rfl).inner i (by omega)) (fun b hb => hb) (fun b hb => ⟨.own 85 (⟨vl, layer⟩ : Ls (PSD F)), List.mem_of_getElem? (i := 0) rfl, i, (by show i < layer.length; omega), hb⟩)
   clear h68
   refine gG h67<|sK fun _ k69 => gRn (oM 1 rfl<|.nl)<|fun a71 w71 h71 => wl_ex (x_call h71 bd_102 rfl rfl rfl rfl rfl (look_c F (nth layer i) code words0 Lk R pw _ hF (PSD.rd (h71.sh.ok (.rd1 (nth layer i)) (List.mem_of_getElem? (i := 0) rfl))) (by rw [hgpi]; exact h71.sh.rblk 4 rfl) (h71.sh.at 5 rfl) hok hR hpxi)) (wanted_none rfl _) ?_; clear h67
   rintro a72 w72 ⟨_, ⟨os, ns, rfl, hosl, hnsl, hnsx, hosx, hs72⟩, hf72⟩
   have hsz := h71.sh.chg.size
   have hosn : ∀ o ∈ os.l, ∀ b, Enc.on o b → K b ∨ W.heap.size ≤ b := fun o ho b hb => (hosx o ho b hb).elim (fun h => .inr (Nat.le_trans hsz h)) (fun h => hlx.nw _ hmi b (psd_prints (h71.sh.ok (.rd1 (nth layer i)) (List.mem_of_getElem? (i := 0) rfl)) h))
   have hosr : ∀ o ∈ os.l, ∀ b, Enc.on o b → _ ∨ Enc.on (nth layer i) b := fun o ho b hb => (hosx o ho b hb).imp id (fun h => psd_prints (h71.sh.ok (.rd1 (nth layer i)) (List.mem_of_getElem? (i := 0) rfl)) h)
   have h72 := (⟨hf72, h71.sh.call hs72 (by intro A hA b hb; simp only [List.mem_cons, List.not_mem_nil, or_false] at hA; first | (rcases hA with rfl | rfl | rfl | rfl <;> first | exact (hb : False).elim | exact Flat.noRd hb | exact regNoRd hb) | (rcases hA with rfl | rfl; (obtain ⟨i9, hi9, hb9⟩ := hb; exact (hosr _ (nth_mem _ _ hi9) b hb9).imp id (fun h => ⟨_, List.mem_cons_self .., h⟩)); (obtain ⟨i9, hi9, hb9⟩ := hb; exact .inl ((hnsx _ (nth_mem _ _ hi9)).2.2.2 b hb9))))⟩ : St 83 K W a72 w72 _ _)
   clear hf72 hs72
   clear h71
   refine gG h72<|gal ti_153 rfl fun b73 => gE (fun _ _ h_ => x_stb (i := 0) (vs := [ns.v, os.v]) (cs' := [ns.v, os.v]) h_ ti_153 rfl rfl rfl rfl rfl rfl rfl (allOne_cons ((h_.sh.own 2 rfl)).one (allOne_cons ((h_.sh.own 1 rfl)).one allOne_nil)) (Nat.le_of_ble_eq_true rfl) rfl) rfl<|nK k69<|?_; clear h72
   have hmv16 : (movesV (pgN code words0 Lk R) F.m (nth layer i).st).length ≤ 16 := movesV_len16 hok hpxi
   obtain ⟨hol17, hnl16⟩ := lookE_len hmv16
   have hosn17 : os.l.length ≤ 17 := by rw [← hosl, List.length_map] at hol17; exact hol17
   have hnsn16 : ns.l.length ≤ 16 := by rw [← hnsl, List.length_map] at hnl16; exact hnl16
   have hrx := hbi.reach _ (List.mem_append.2 (.inr (List.mem_map.2 ⟨_, hmi, rfl⟩)))
   have hprx := hbi.pr _ (List.mem_append.2 (.inr (List.mem_map.2 ⟨_, hmi, rfl⟩)))
   rw [List.length_append, List.length_map] at hprx
   have hnsr : ∀ y ∈ ns.l, Reach (pgN code words0 Lk R) F.m y.st ∧ y.st.prints.length ≤ (nth layer i).st.prints.length + 2 := fun y hy => look_reach hrx (by rw [← hnsl]; exact List.mem_map.2 ⟨y, hy, rfl⟩)
   refine sK fun _ k75 => gRn (oM 1 rfl<|ofB fl_153_1 rfl<|olB 0 ti_35 rfl rfl<|.nl)<|gE1 (fun _ _ h_ => x_app (r := 10) (rm := 1) (s := (⟨ve2, es2⟩ : Ls OutL)) (m := os) h_ sl_35 ti_39 rfl rfl rfl rfl rfl rfl rfl (fun w h => (h.own 1 rfl)) (fun b hb => own_on (h_.sh.ok _ (List.mem_of_getElem? (i := 1) rfl)) hb) (fun q hq b hb => ⟨q, hq, hb⟩) rfl rfl rfl inferInstance (show (es2.length + os.l.length) * 56 ≤ 140737488355328 ∧ es2.length + os.l.length ≤ 140737488355328 from om9) rfl rfl) rfl fun v76 => gRn (oM 1 rfl<|.nl)<|nK k75<|sK fun _ k77 => gNl (aO 2 rfl) fun hl78 => gRn (ofB fl_153_0 rfl<|olB 0 ti_151 rfl rfl<|oln sl_151 (aO 2 rfl) rfl<|oM 1 rfl<|.nl)<|nK k77<|gB<|fun a80 w80 h80 => x_loop (fun m a w => ∃ (j : Nat) (nx3 : List (PSD F)) (ks3 : List ByteArray) (vn3 : Value), (j ≤ ns.l.length) ∧ (BI (pgN code words0 Lk R) F.m (S0 ++ layer.map PSD.st ++ nx3.map PSD.st) (fun y => y ∈ (layer.map PSD.st).drop i ∨ y ∈ nx3.map PSD.st) ((es2 ++ os.l).map OutL.out)) ∧ (ks3 = (S0 ++ layer.map PSD.st ++ nx3.map PSD.st).map (keyS F.tq)) ∧ (PL K W code b12 nx3) ∧ (∀ s ∈ S0 ++ layer.map PSD.st ++ nx3.map PSD.st, F.Q (s.ths.map Th.wait)) ∧ (∀ k, k < j → (nth ns.l k).st ∈ S0 ++ layer.map PSD.st ++ nx3.map PSD.st) ∧ (nx3.length ≤ 16 * i + j) ∧ St 83 K W a w [(2, .func (.func fe) us.toArray ws.toArray), (9, .map (some g23)), (10, v76), (14, vn3), (42, vl), (43, .int .i64 ((layer.length : Nat) : Int)), (44, .int .i64 ((i : Nat) : Int)), (55, ns.v), (56, .int .i64 ((ns.l.length : Nat) : Int)), (57, .int .i64 ((j : Nat) : Int))] [.own 39 os, .own 85 ns, .rd1 (nth layer i), .own 85 (⟨vl, layer⟩ : Ls (PSD F)), .strO g23 ks3, .rd1 x0, .rblk b12 25 [code.v, pw, .int .i64 ((Lk : Nat) : Int), .int .i64 ((R : Nat) : Int)], .at_ code, env z1, .own 39 (⟨v76, es2 ++ os.l⟩ : Ls OutL), .own 85 (⟨vn3, nx3⟩ : Ls (PSD F))] ∧ m = ns.l.length - j) ⟨_, 0, nx, ks2, vn, (by omega), ((hb2.outs (E' := (es2 ++ os.l).map OutL.out) (fun o ho => by rw [List.map_append] at ho; exact (List.mem_append.1 ho).elim (hb2.sound o) (fun h => look_outs hrx (by rw [← hosl]; exact h))) (fun o ho => by rw [List.map_append]; exact List.mem_append.2 (.inl ho)))), (hks2), (hnx), (hqw2), (fun k hk => absurd hk (by omega)), (by omega), h80.nrm ⟨rfl, rfl, rfl, rfl, rfl, rfl, rfl, rfl, rfl, rfl, trivial⟩ [1, 2, 3, 4, 5, 6, 7, 8, 9, 10, 11] rfl, rfl⟩ ?_
   clear h80
   rintro m79 a79 w79 ⟨j, nx3, ks3, vn3, hj, hb3, hks3, hnx3, hqw3, hdn, hnl3, h79, hm79⟩
   refine gG h79<|sG (oltN _ _ rfl<|.nl)<|gK fun _ k82 => gcd rfl (fun hb83 hp83 => ?_) fun hb83 hp83 => ?_; clear h79
   ·skip
    refine gS<|hK k82<|gK fun _ k84 => gB<|sG (oxN sl_151 ti_85 (aO 1 rfl) _ om9 rfl<|olE (.pointer (some ⟨(nth ns.l j).g, 0, none⟩)) ti_85 (aO 1 rfl) om9 rfl<|oM 1 rfl<|.nl)<|?_
    have hmj := nth_mem ns.l j (by omega)
    obtain ⟨hyg, hyr, hyq, hyn⟩ := hnsx _ hmj
    obtain ⟨hyre, hypr⟩ := hnsr _ hmj
    have hpxj : PX code words0 Lk R (nth ns.l j) := ⟨hyre, hyr, hyq, by have h9 : (nth ns.l j).prints.l.length ≤ _ := hypr; have h8 := hprx; omega⟩
    have hkm := key_mem hok hF.tq hF.qQ (y := nth ns.l j) hyre (fun s hs => hb3.reach s hs) (psd_wait (by rw [hyq, hyr])) hqw3
    rw [← hks3] at hkm
    intro a87 w87 h87
    have h86 := h87.addRd (A := .rd1 (nth ns.l j)) ((h87.sh.own 1 rfl).inner j (by omega)) (fun b hb => hb) (fun b hb => ⟨.own 85 ns, List.mem_of_getElem? (i := 1) rfl, j, (by show j < ns.l.length; omega), hb⟩)
    clear h87
    refine gG h86<|sK fun _ k88 => gRn (oM 1 rfl<|.nl)<|gP (fun _ _ h_ => xCl h_ bd_101 rfl (key_c F (nth ns.l j) _ hF (PSD.rd (h_.sh.ok (.rd1 (nth ns.l j)) (List.mem_of_getElem? (i := 0) rfl))) (hpxj.key hok hR) (by rw [hyq, hyr]))) rfl<|gRn (oM 1 rfl<|.nl)<|nK k88<|sG (oM 2 rfl<|oV (r_lookStr (i := 5) (k := (keyS F.tq (nth ns.l j).st)) (l := ks3) mstr_150 rfl rfl rfl rfl) rfl<|ont rfl<|.nl)<|?_; clear h86
    refine gCb rfl (fun hb91 => ?_) fun hb91 => ?_
    ·have hp91 : ¬ ((keyS F.tq (nth ns.l j).st) ∈ ks3) := by simpa using hb91
     have hnm : ¬ keyS F.tq (nth ns.l j).st ∈ ks3 := by simpa using hb91
     have hnS := fun h => hnm (hkm.2 h)
     have hSl : (S0 ++ layer.map PSD.st ++ nx3.map PSD.st).length = S0.length + layer.length + nx3.length := by simp [Nat.add_assoc]
     have hypr9 : (nth ns.l j).st.prints.length ≤ 2 * ((S0 ++ layer.map PSD.st ++ nx3.map PSD.st).length + 1) := by rw [hSl]; omega
     have hb3a := (hb3.add hyre hnS hypr9).mono (F' := fun z => z ∈ (layer.map PSD.st).drop i ∨ z ∈ (nx3 ++ [(nth ns.l j)]).map PSD.st) (fun s hs h => .inl (by rw [List.map_append]; rcases h with (h | h) | h; exact .inl h; exact .inr (List.mem_append.2 (.inl h)); exact .inr (List.mem_append.2 (.inr (by rw [h]; exact List.mem_singleton.2 rfl)))))
     have heS : S0 ++ layer.map PSD.st ++ (nx3 ++ [(nth ns.l j)]).map PSD.st = (S0 ++ layer.map PSD.st ++ nx3.map PSD.st) ++ [(nth ns.l j).st] := by rw [List.map_append, ← List.append_assoc]; rfl
     have hb3N : BI (pgN code words0 Lk R) F.m (S0 ++ layer.map PSD.st ++ (nx3 ++ [(nth ns.l j)]).map PSD.st) (fun z => z ∈ (layer.map PSD.st).drop i ∨ z ∈ (nx3 ++ [(nth ns.l j)]).map PSD.st) ((es2 ++ os.l).map OutL.out) := by rw [heS]; exact hb3a
     have hks3N : ks3 ++ [keyS F.tq (nth ns.l j).st] = (S0 ++ layer.map PSD.st ++ (nx3 ++ [(nth ns.l j)]).map PSD.st).map (keyS F.tq) := by rw [heS, List.map_append, ← hks3]; rfl
     have hnx3N := hnx3.snoc (hyg.trans hgpi) hyr hyq (fun b hb => .inr (Nat.le_trans hsz (hyn b hb)))
     have hqw3N : ∀ s ∈ S0 ++ layer.map PSD.st ++ (nx3 ++ [(nth ns.l j)]).map PSD.st, F.Q (s.ths.map Th.wait) := by rw [heS]; exact fun s hs => (List.mem_append.1 hs).elim (hqw3 s) (fun h => by obtain rfl := List.mem_singleton.1 h; rw [psd_wait (by rw [hyq, hyr])]; exact hF.qQ _ _)
     have hdnN : ∀ k, k < j + 1 → (nth ns.l k).st ∈ S0 ++ layer.map PSD.st ++ (nx3 ++ [(nth ns.l j)]).map PSD.st := by rw [heS]; exact fun k hk => List.mem_append.2 ((Nat.lt_or_ge k j).imp (hdn k) (fun h => by obtain rfl : k = j := (by omega); exact List.mem_singleton.2 rfl))
     have hnl3N : (nx3 ++ [(nth ns.l j)]).length ≤ 16 * i + (j + 1) := by rw [List.length_append]; simp only [List.length_cons, List.length_nil]; omega
     refine sK fun _ k92 => gRn (oM 2 rfl<|.nl)<|gE (fun _ _ h_ => x_updStr (i := 5) (k := (keyS F.tq (nth ns.l j).st)) h_ mstr_150 rfl rfl rfl rfl rfl rfl (by first | exact hnm | simp)) rfl<|nK k92<|gL<|gRn (oM 2 rfl<|.nl)<|gE1 (fun _ _ h_ => x_lit (n := 1) (cs := [.pointer (some ⟨(nth ns.l j).g, 0, none⟩)]) ([nth ns.l j] : List (PSD F)) h_ sl_151 ti_85 rfl rfl rfl (by decide) rfl (by kernel_rfl) rfl (fun q hq w h => by obtain rfl : q = 0 := (by simpa using hq); exact h.ok _ (List.mem_of_getElem? (i := 0) rfl)) (fun q hq b hb => by obtain rfl : q = 0 := (by simpa using hq); exact ⟨_, List.mem_of_getElem? (i := 0) rfl, hb⟩) rfl rfl) rfl fun v94 => gE1 (fun _ _ h_ => x_app (r := 12) (rm := 0) (s := (⟨vn3, nx3⟩ : Ls (PSD F))) (m := (⟨v94, [nth ns.l j]⟩ : Ls (PSD F))) h_ sl_151 ti_85 rfl rfl rfl rfl rfl rfl rfl (fun w h => (h.own 0 rfl)) (fun b hb => own_on (h_.sh.ok _ (List.mem_of_getElem? (i := 0) rfl)) hb) (fun q hq b hb => ⟨q, hq, hb⟩) rfl rfl rfl inferInstance (show (nx3.length + ([nth ns.l j]).length) * 8 ≤ 140737488355328 ∧ nx3.length + ([nth ns.l j]).length ≤ 140737488355328 from om9) rfl rfl) rfl fun v95 => gRn (oM 1 rfl<|.nl)<|nK k84<|gL<|gRn (oadN _ 1 om9 rfl<|oM 1 rfl<|.nl)<|nN<|fun a96 w96 h96 => x_again ⟨_, ?_, (j + 1), nx3 ++ ([nth ns.l j]), ks3 ++ [(keyS F.tq (nth ns.l j).st)], v95, ?_, ?_, ?_, ?_, ?_, ?_, ?_, h96.nrm ⟨rfl, rfl, rfl, rfl, rfl, rfl, rfl, rfl, rfl, rfl, trivial⟩ [2, 3, 4, 5, 6, 7, 8, 9, 10, 11, 12] rfl, rfl⟩
     · rw [hm79]; first | omega | (simp only [lens9]; omega)
     · omega
     · exact hb3N
     · exact hks3N
     · exact hnx3N
     · exact hqw3N
     · exact hdnN
     · exact hnl3N
    have hp91 : (keyS F.tq (nth ns.l j).st) ∈ ks3 := by simpa using hb91
    have hyS := hkm.1 (by simpa using hb91)
    have hb3N := hb3; have hks3N := hks3; have hnx3N := hnx3; have hqw3N := hqw3
    have hdnN : ∀ k, k < j + 1 → (nth ns.l k).st ∈ S0 ++ layer.map PSD.st ++ nx3.map PSD.st := fun k hk => by rcases Nat.lt_or_ge k j with h | h; exact hdn k h; obtain rfl : k = j := (by omega); exact hyS
    have hnl3N : nx3.length ≤ 16 * i + (j + 1) := by omega
    refine gS<|hK k84<|gL<|gRn (oadN _ 1 om9 rfl<|oM 1 rfl<|.nl)<|nN<|fun a97 w97 h97 => x_again ⟨_, ?_, (j + 1), nx3, ks3, vn3, ?_, ?_, ?_, ?_, ?_, ?_, ?_, h97.nrm ⟨rfl, rfl, rfl, rfl, rfl, rfl, rfl, rfl, rfl, rfl, trivial⟩ [1, 2, 3, 4, 5, 6, 7, 8, 9, 10, 11] rfl, rfl⟩
    · rw [hm79]; first | omega | (simp only [lens9]; omega)
    · omega
    · exact hb3N
    · exact hks3N
    · exact hnx3N
    · exact hqw3N
    · exact hdnN
    · exact hnl3N
   refine gX<|hK k65<|gL<|gRn (oadN _ 1 om9 rfl<|oM 1 rfl<|.nl)<|nN<|?_
   have hlN : ∀ z ∈ lookN (pgN code words0 Lk R) F.m (nth layer i).st, z ∈ S0 ++ layer.map PSD.st ++ nx3.map PSD.st := fun z hz => by rw [← hnsl] at hz; obtain ⟨y, hy, rfl⟩ := List.mem_map.1 hz; obtain ⟨k, hk, rfl⟩ := List.mem_iff_getElem.1 hy; have h9 := hdn k (by omega); rwa [nth_lt _ _ hk] at h9
   have hexp := look_exp (p := (pgN code words0 Lk R)) (m := F.m) (s := (nth layer i).st) (E := (es2 ++ os.l).map OutL.out) (fun o ho => by rw [List.map_append]; exact List.mem_append.2 (.inr (by rw [hosl]; exact ho))) hlN
   have hb4 := hb3.mono (F' := fun y => y ∈ (layer.map PSD.st).drop (i + 1) ∨ y ∈ nx3.map PSD.st) (fun s hs h => by rcases h with h | h; rw [drop_map hil] at h; rcases List.mem_cons.1 h with rfl | h; exact .inr hexp; exact .inl (.inl h); exact .inl (.inr h))
   have hen3 : ∀ o ∈ es2 ++ os.l, ∀ b, Enc.on o b → K b ∨ W.heap.size ≤ b := fun o ho => (List.mem_append.1 ho).elim (hen2 o) (hosn o)
   have hel3 : (es2 ++ os.l).length ≤ 17 * (S0.length + (i + 1)) := by rw [List.length_append]; omega
   intro a98 w98 h98
   refine x_again ⟨_, ?_, (i + 1), nx3, es2 ++ os.l, ks3, vn3, v76, ?_, ?_, ?_, ?_, ?_, ?_, ?_, ?_, h98.nrm ⟨rfl, rfl, rfl, rfl, rfl, rfl, rfl, trivial⟩ [3, 4, 5, 6, 7, 8, 9, 10] rfl, rfl⟩
   · rw [hm59]; first | omega | (simp only [lens9]; omega)
   · omega
   · exact hb4
   · exact hks3
   · exact hnx3
   · exact hqw3
   · exact hen3
   · exact hel3
   · omega
  refine gX<|hK k57<|gK fun _ k99 => sG (oM 1 rfl<|oV (r_lenStrO (i := 1) (l := ks2) mstr_150 rfl rfl rfl) rfl<|ogtN _ 4000 rfl<|.nl)<|gcd rfl (fun hb101 hp101 => ?_) fun hb101 hp101 => ?_
  ·skip
   have hksl : ks2.length = S0.length + layer.length + nx.length := by rw [hks2, List.length_map, List.length_append, List.length_append, List.length_map, List.length_map]
   have hbig := hb2.big (by rw [List.length_append, List.length_append, List.length_map, List.length_map]; omega)
   refine sG (oM 2 rfl<|.nl)<|gR<|fun a103 w103 h103 => ?_
   try simp only [Exit.then, Exit.inBlock]
   refine x_ret2 (fn := Tryz.f61) (t := 6) (u := 7) rfl h103 rfl rfl ?_
   exact ⟨z1, .inl ⟨rfl, hbig, (h103.sh.sel [5] rfl)⟩⟩
  refine gS<|hK k99<|gL<|gRn (oM 2 rfl<|.nl)<|nN<|fun a104 w104 h104 => ?_
  change ∃ _m, _m < _ ∧ _
  have hbiN := hb2.mono (F' := fun y => y ∈ nx.map PSD.st) (fun s hs h => .inl (h.elim (fun h => by rw [List.drop_of_length_le (by simp; omega)] at h; cases h) id))
  have hksl : ks2.length = S0.length + layer.length + nx.length := by rw [hks2, List.length_map, List.length_append, List.length_append, List.length_map, List.length_map]
  refine ⟨_, ?_, (S0 ++ layer.map PSD.st), nx, es2, z1, ks2, vn, ve2, ?_, ?_, ?_, ?_, ?_, ?_, ?_, ?_, h104.nrm ⟨rfl, rfl, rfl, rfl, trivial⟩ [7, 1, 2, 3, 4, 5, 6] rfl, rfl⟩
  · rw [hm30]; (rw [List.length_append, List.length_map]; omega)
  · exact hbiN
  · exact hks2
  · exact hnx
  · exact hqw2
  · (rw [List.length_append, List.length_map]; omega)
  · exact hen2
  · (rw [List.length_append, List.length_map]; omega)
  · rw [hz1, hz, List.foldl_append, List.take_of_length_le (by simp; omega)]
 refine gX<|hK k27<|sK fun _ k105 => gRn (oM 1 rfl<|.nl)<|gO [6, 0, 1, 2, 3, 4, 5] rfl<|fun a111 w111 h111 => ?_
 have hp110 := h111.sh.passL (Lp := [_])
 refine wl_ex (x_call h111 bd_103 rfl rfl rfl rfl rfl (sortOut_c _ (⟨ve, es⟩ : Ls OutL) _ hp110)) (wanted_none rfl _) ?_
 rintro a112 w112 ⟨_, ⟨rfl, l9, hperm, hsort, hs112⟩, hf112⟩
 have h112 : St 83 K W a112 w112 _ [_, _, _, _, _, _, _] := ⟨hf112, h111.sh.backL (Lp := [_]) hs112 (by intro A hA b hb; simp only [List.mem_cons, List.not_mem_nil, or_false] at hA; rcases hA with rfl <;> first | exact (hb : False).elim | exact Flat.noRd hb | exact .inl ⟨_, List.mem_cons_self .., .inr hb⟩ | (obtain ⟨i9, hi9, hb9⟩ := hb; have hm9 := hperm.subset (nth_mem _ _ hi9); obtain ⟨k9, hk9, e9⟩ := List.mem_iff_getElem.1 hm9; exact .inl ⟨_, List.mem_cons_self .., .inr ⟨k9, hk9, by rw [nth_lt _ _ hk9, e9]; exact hb9⟩⟩) | exact .inl ⟨_, by simp, .inr hb⟩)⟩
 clear hf112 hs112
 clear h111
 refine gG h112<|nK k105<|sK fun _ k113 => gRn (oM 1 rfl<|.nl)<|fun a117 w117 h117 => ?_; clear h112
 have hp116 := h117.sh.passL (Lp := [_])
 refine wl_ex (x_call h117 bd_104 rfl rfl rfl rfl rfl (compact_c _ (⟨ve, l9⟩ : Ls OutL) _ hp116 (by show l9.length ≤ _; rw [hperm.length_eq]; show es.length ≤ _; omega))) (wanted_none rfl _) ?_
 rintro a118 w118 ⟨_, ⟨u9, rfl, hu9, hs118⟩, hf118⟩
 have h118 : St 83 K W a118 w118 _ [_, _, _, _, _, _, _] := ⟨hf118, h117.sh.backL (Lp := [_]) hs118 (by intro A hA b hb; simp only [List.mem_cons, List.not_mem_nil, or_false] at hA; rcases hA with rfl <;> first | exact (hb : False).elim | exact Flat.noRd hb | exact .inl ⟨_, List.mem_cons_self .., .inr hb⟩ | (obtain ⟨i9, hi9, hb9⟩ := hb; have hm8 : nth u9.l i9 ∈ keepL eqO l9 l9.length := (by rw [← show u9.l = keepL eqO l9 l9.length from hu9]; exact nth_mem _ _ hi9); have hm9 := keepL_mem (Nat.le_refl _) _ hm8; obtain ⟨k9, hk9, e9⟩ := List.mem_iff_getElem.1 hm9; exact .inl ⟨.own 39 (⟨ve, l9⟩ : Ls OutL), List.mem_cons_self .., .inr ⟨k9, hk9, by rw [nth_lt _ _ hk9, e9]; exact hb9⟩⟩) | exact .inl ⟨_, by simp, .inr hb⟩)⟩
 clear hf118 hs118
 clear h117
 refine gG h118<|gRn (oM 2 rfl<|.nl)<|nK k113<|gR<|fun a119 w119 h119 => ?_; clear h118
 try simp only [Exit.then, Exit.inBlock]
 refine x_ret2 (fn := Tryz.f61) (t := 6) (u := 7) rfl h119 rfl rfl ?_
 have hle0 : layer = [] := List.eq_nil_of_length_eq_zero (by omega)
 have hFf : ∀ s ∈ S0 ++ layer.map PSD.st, ¬ s ∈ layer.map PSD.st := by rw [hle0]; intro s _ h; cases h
 have hks := keep_sorted (l := l9.map OutL.out) (eq := fun a b => decide (a = b)) (fun a b => decide_eq_true_iff) hsort
 have hue : u9.l.map OutL.out = keepL (fun a b => decide (a = b)) (l9.map OutL.out) (l9.map OutL.out).length := by rw [hu9, List.length_map]; exact keepL_map _ (Nat.le_refl _)
 refine ⟨z, .inr ⟨u9, S0 ++ layer.map PSD.st, rfl, by rw [hue]; exact hks.1, fun o => ?_, hbi.small hFf (by rw [List.length_append, List.length_map]; omega), by rw [hle0]; show z = (S0 ++ []).foldl stepE z0; rw [List.append_nil]; exact hz, hbi.nd, hbi.states hFf, fun o ho b hb => hen o (hperm.subset (keepL_mem (Nat.le_refl _) _ (hu9 ▸ ho))) b hb, ?_, (h119.sh.sel [0, 6] rfl)⟩⟩
 · rw [hue, hks.2 o, (hperm.map OutL.out).mem_iff]; exact hbi.all hFf o
 · rw [hu9]; have h9 := keepL_le eqO l9 l9.length; have h8 := hperm.length_eq; have h7 : l9.length ≤ 17 * S0.length := (by rw [h8]; exact hel); show (keepL eqO l9 l9.length).length ≤ _; omega

end Go.Proofs.YtmjkobhkkjgplaaGreatDoor
