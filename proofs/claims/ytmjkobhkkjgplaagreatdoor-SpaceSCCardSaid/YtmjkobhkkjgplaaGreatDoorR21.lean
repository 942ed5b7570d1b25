/- For every program the program tells all outcomes of runs in which one step comes after the other: the statement holds, under no condition. -/
import Derived.Test.YtmjkobhkkjgplaaGreatDoorX89
import Derived.Test.YtmjkobhkkjgplaaGreatDoorX6
import Derived.Test.YtmjkobhkkjgplaaGreatDoorBase
import Derived.ProofKit
import Derived.OpenShut
import Derived.Deep.Slices
import Derived.Carry
import Derived.Test.YtmjkobhkkjgplaaGreatDoorRows
import Derived.Test.YtmjkobhkkjgplaaGreatDoorC1
import Derived.SizedLaws
import Derived.Test.YtmjkobhkkjgplaaGreatDoorX23
import Derived.Test.YtmjkobhkkjgplaaGreatDoorCards
import Derived.Test.YtmjkobhkkjgplaaGreatDoorTie
import Derived.LaidLaws
import Derived.LaidHandle
import Derived.LaidMore
import Derived.Handed
import Derived.SevenTiedAt
section
namespace Go.Proofs.YtmjkobhkkjgplaaGreatDoor
open Go.RowKit
set_option linter.unusedSimpArgs false
set_option linter.unusedVariables false
set_option maxRecDepth 100000
set_option maxHeartbeats 20000000


theorem Sh.mineL {K : Nat → Prop} {W w : World} {Lp Lr : List Asn} (h : Sh K W w (Lp ++ Lr)) {b : Nat} (hb : (∃ A ∈ Lp, A.fp b) ∨ w.heap.size ≤ b) : K b ∨ W.heap.size ≤ b :=
  hb.elim (fun ⟨A, hA, hf⟩ => h.mine A (List.mem_append.2 (.inl hA)) b hf) (fun h9 => .inr (Nat.le_trans h.chg.size h9))
/-- What a search answers. -/
structure FRes (p : Pg) (m : Int) {ζ : Type} (stepE : ζ → MSt → ζ) (z0 : ζ) (K : Nat → Prop) (W : World) (ok : Bool) (u : Ls OutL) (z : ζ) : Prop where
  big : ok = false → Big p m ∧ u.l = []
  good : ok = true → ¬ Big p m ∧ Sorted_ (u.l.map OutL.out) ∧ (∀ o, o ∈ u.l.map OutL.out ↔ Outs p m o) ∧ ∃ S : List MSt, z = S.foldl stepE z0 ∧ S.Nodup ∧ ∀ s, s ∈ S ↔ Reach p m s
  nw : ∀ o ∈ u.l, ∀ b, Enc.on o b → K b ∨ W.heap.size ≤ b
  len : u.l.length ≤ 100000
theorem FRes.up {p : Pg} {m : Int} {ζ : Type} {stepE : ζ → MSt → ζ} {z0 : ζ} {K K' : Nat → Prop} {W W' : World} {ok : Bool} {u : Ls OutL} {z : ζ} (h : FRes p m stepE z0 K W ok u z) (hb : ∀ b, K b ∨ W.heap.size ≤ b → K' b ∨ W'.heap.size ≤ b) : FRes p m stepE z0 K' W' ok u z := ⟨h.big, h.good, fun o ho b h9 => hb b (h.nw o ho b h9), h.len⟩
theorem FRes.nilU {p : Pg} {m : Int} {ζ : Type} {stepE : ζ → MSt → ζ} {z0 : ζ} {K : Nat → Prop} {W : World} {u : Ls OutL} {z : ζ} (h : FRes p m stepE z0 K W false u z) : FRes p m stepE z0 K W false (⟨.slice none 0 0, []⟩ : Ls OutL) z := ⟨fun h9 => ⟨(h.big h9).1, rfl⟩, fun h9 => (by cases h9), fun o ho => (by cases ho), Nat.zero_le _⟩
theorem from_c2 (K : Nat → Prop) (F : MemF) (ζ : Type) (env : ζ → Asn) (stepE : ζ → MSt → ζ) (z0 : ζ) (fe : FuncId) (us ws : List Value) (i0 : F.ι) (q0 : (F.mem i0).σ) (code : Ls (Ls Ins)) (words0 words owner : Ls Int) (pw : Value) (Lk R : Nat) (W : World) (hF : MemFI Tryz.prog 182 3 204 5 141 F)
    (hS : Sh K W W [.blk (F.mem i0).g0 182 [words.v, owner.v], .own 3 words, .own 3 owner, (F.mem i0).X q0, .at_ code, env z0]) (hok : OkPg (pgN code words0 Lk R)) (hR : PgR (pgN code words0 Lk R)) (hq0 : (F.mem i0).qs q0 = List.replicate code.l.length []) (hw0 : words.l = words0.l) (ho0 : owner.l = List.replicate Lk (-1)) (hbe : bodyI Tryz.prog fe = true) (hEr : ∀ z b, ¬ (env z).rd b)
    (hE : ∀ (K' : Nat → Prop) (W' : World) (gp : Nat) (x : PSD F) (z : ζ), PX code words0 Lk R x → x.gp = gp → Sh K' W' W' [env z, .rd1 x, .rblk gp 25 [code.v, pw, .int .i64 ((Lk : Nat) : Int), .int .i64 ((R : Nat) : Int)], .at_ code] → Rets Tryz.prog fe (us ++ [.pointer (some ⟨x.g, 0, none⟩)] ++ ws) W' (fun v w' => v = .tuple #[] ∧ Sh K' W' w' [env (stepE z x.st), .rd1 x, .rblk gp 25 [code.v, pw, .int .i64 ((Lk : Nat) : Int), .int .i64 ((R : Nat) : Int)], .at_ code])) :
    Rets Tryz.prog 61 [.agg #[code.v, pw, .int .i64 ((Lk : Nat) : Int), .int .i64 ((R : Nat) : Int)], .iface (F.mem i0).T (.pointer (some (F.mem i0).u)), .func (.func fe) us.toArray ws.toArray] W (fun v w' => ∃ (u : Ls OutL) (ok : Bool) (z : ζ), v = .tuple #[u.v, .bool ok] ∧ FRes (pgN code words0 Lk R) F.m stepE z0 K W ok u z ∧ Sh K W w' [.own 39 u, env z]) := by
  refine Rets.mono (from_c K F ζ env stepE z0 fe us ws i0 q0 code words0 words owner pw Lk R W hF hS hok hR hq0 hw0 ho0 hbe hEr hE) ?_
  rintro v w' ⟨z, ⟨rfl, hb, hs⟩ | ⟨u, S, rfl, h1, h2, h3, h4, h5, h6, h7, h8, hs⟩⟩
  · exact ⟨⟨.slice none 0 0, []⟩, false, z, rfl, ⟨fun _ => ⟨hb, rfl⟩, fun h => (by cases h), fun o ho => (by cases ho), Nat.zero_le _⟩, hs.nil 39⟩
  · exact ⟨u, true, z, rfl, ⟨fun h => (by cases h), fun _ => ⟨h3, h1, h2, S, h4, h5, h6⟩, h7, h8⟩, hs⟩

theorem of1_c (g : Nat) (W : World) :
    Rets Tryz.prog 125 [.pointer (some ⟨g, 0, none⟩)] W (fun v w' => v = .tuple #[] ∧ Sh0 W w' []) := by
 refine gen Tryz.func125 Tryz.ntmps125 (Sh0.start _ : Sh (fun _ => False) W W []) rfl fun a10 h10 => gG h10<|gS<|fun a11 w11 h11 => ?_; clear h10
 try simp only [Exit.then, Exit.inBlock, if_true]
 refine x_end0 (fn := Tryz.f125) rfl h11 ?_
 exact ⟨rfl, (h11.sh.sel [] rfl)⟩

theorem walks_c (K : Nat → Prop) (ζ : Type) (env : ζ → Asn) (stepE : ζ → MSt → ζ) (z0 : ζ) (fe : FuncId) (us ws : List Value) (code : Ls (Ls Ins)) (words0 : Ls Int) (Lk R : Nat) (W : World) (hS : Sh K W W [.at_ code, .at_ words0, env z0]) (hok : OkPg (pgN code words0 Lk R)) (hR : PgR (pgN code words0 Lk R)) (hbe : bodyI Tryz.prog fe = true) (hEr : ∀ z b, ¬ (env z).rd b) (hE : ∀ (K' : Nat → Prop) (W' : World) (gp : Nat) (x : PSD FP) (z : ζ), PX code words0 Lk R x → x.gp = gp → Sh K' W' W' [env z, .rd1 x, .rblk gp 25 [code.v, words0.v, .int .i64 ((Lk : Nat) : Int), .int .i64 ((R : Nat) : Int)], .at_ code] → Rets Tryz.prog fe (us ++ [.pointer (some ⟨x.g, 0, none⟩)] ++ ws) W' (fun v w' => v = .tuple #[] ∧ Sh K' W' w' [env (stepE z x.st), .rd1 x, .rblk gp 25 [code.v, words0.v, .int .i64 ((Lk : Nat) : Int), .int .i64 ((R : Nat) : Int)], .at_ code])) :
    Rets Tryz.prog 49 [.agg #[code.v, words0.v, .int .i64 ((Lk : Nat) : Int), .int .i64 ((R : Nat) : Int)], .bool false, .func (.func fe) us.toArray ws.toArray] W (fun v w' => ∃ (u : Ls OutL) (ok : Bool) (z : ζ), v = .tuple #[u.v, .bool ok] ∧ FRes (pgN code words0 Lk R) 0 stepE z0 K W ok u z ∧ Sh K W w' [.own 39 u, env z]) := by
 obtain ⟨hl1, hcl, hwn, hlk, hR2⟩ := ok_lenP hok
 refine gen Tryz.func49 Tryz.ntmps49 hS rfl fun a10 h10 => gG h10<|sK fun _ k11 => gbx rfl rfl fun b12 => gRn (oM 2 rfl<|.nl)<|nK k11<|gK fun _ k13 => sG (oM 1 rfl<|.nl)<|gcF rfl rfl<|gS<|hK k13<|gK fun _ k15 => gF [0, 1, 2, 3, 8] rfl<|fun a17 w17 h17 => x_any ((fun Φ Ψ S a w => (S 2 = false ∧ S 5 = false ∧ FrI 25 S Φ Ψ a ∧ Sh K W w [.blk b12 25 [code.v, words0.v, .int .i64 ((Lk : Nat) : Int), .int .i64 ((R : Nat) : Int)], .at_ code, .at_ words0, env z0]) ∨ (S 2 = true ∧ S 5 = false ∧ ∃ (g7002 : Nat) (mw7002 : Ls Int) (mo7002 : Ls Int), (mw7002.l = words0.l) ∧ (mo7002.l = List.replicate Lk (-1)) ∧ FrI 25 S Φ (Ψ ++ [(2, 19, .pointer (some ⟨g7002, 0, none⟩)), (3, 20, .iface (memP g7002).T (.pointer (some (memP g7002).u)))]) a ∧ Sh K W w [.blk g7002 182 [mw7002.v, mo7002.v], .own 3 mw7002, .own 3 mo7002, (memP g7002).X code.l.length, .blk b12 25 [code.v, words0.v, .int .i64 ((Lk : Nat) : Int), .int .i64 ((R : Nat) : Int)], .at_ code, .at_ words0, env z0]) ∨ (S 2 = true ∧ S 5 = true ∧ ∃ (g7002 : Nat) (mw7002 : Ls Int) (mo7002 : Ls Int) (u7005 : Ls OutL) (ok7005 : Bool) (z7005 : ζ), (mw7002.l = words0.l) ∧ (mo7002.l = List.replicate Lk (-1)) ∧ (FRes (pgN code words0 Lk R) 0 stepE z0 K W ok7005 u7005 z7005) ∧ FrI 25 S Φ (Ψ ++ [(2, 19, .pointer (some ⟨g7002, 0, none⟩)), (3, 20, .iface (memP g7002).T (.pointer (some (memP g7002).u))), (5, 22, .tuple #[u7005.v, .bool ok7005]), (6, 23, u7005.v), (7, 24, .bool ok7005), (8, 6, u7005.v), (9, 7, .bool ok7005)]) a ∧ Sh K W w [.own 39 u7005, env z7005, .blk b12 25 [code.v, words0.v, .int .i64 ((Lk : Nat) : Int), .int .i64 ((R : Nat) : Int)], .at_ words0])) [(0, .agg #[code.v, words0.v, .int .i64 ((Lk : Nat) : Int), .int .i64 ((R : Nat) : Int)]), (1, .bool false), (2, .func (.func fe) us.toArray ws.toArray), (3, .pointer (some ⟨b12, 0, none⟩)), (8, .bool false)] [(0, 17, .agg #[code.v, words0.v, .int .i64 ((Lk : Nat) : Int), .int .i64 ((R : Nat) : Int)]), (1, 18, .agg #[code.v, words0.v, .int .i64 ((Lk : Nat) : Int), .int .i64 ((R : Nat) : Int)]), (4, 21, .func (.func fe) us.toArray ws.toArray)]) (by kernel_rfl) (by kernel_rfl) (Or.inl (⟨rfl, rfl, FrI.start h17.fr, h17.sh.drew⟩)) ?_ ?_; clear h10
 ·intro S i o ho hSi hcl hdep a w hI
  clear h17
  rcases i with _ | _ | _ | _ | _ | _ | _ | _ | _ | _ | i
  ·obtain rfl : _ = o := Option.some.inj ho
   rcases hI with ⟨ν2, ν5, φ, ς⟩ | ⟨ν2, ν5, g7002, mw7002, mo7002, hmw7002, hmo7002, φ, ς⟩ | ⟨_, ν5, _⟩
   ·exact sq φ φ.fr0 ς (r_ldbw (i := 0) (vs := [code.v, words0.v, .int .i64 ((Lk : Nat) : Int), .int .i64 ((R : Nat) : Int)]) ti_25 rfl rfl rfl rfl rfl) 0 rfl rfl rfl rfl rfl rfl fun a hg => Or.inl (⟨un rfl ν2, un rfl ν5, hg, ς⟩)
   ·exact sq φ φ.fr0 ς (r_ldbw (i := 4) (vs := [code.v, words0.v, .int .i64 ((Lk : Nat) : Int), .int .i64 ((R : Nat) : Int)]) ti_25 rfl rfl rfl rfl rfl) 0 rfl rfl rfl rfl rfl rfl fun a hg => Or.inr (Or.inl (⟨un rfl ν2, un rfl ν5, g7002, mw7002, mo7002, hmw7002, hmo7002, hg, ς⟩))
   ·exact no_way (cA hcl 5 0 rfl ν5) hSi
  ·obtain rfl : _ = o := Option.some.inj ho
   rcases hI with ⟨ν2, ν5, φ, ς⟩ | ⟨ν2, _⟩ | ⟨ν2, _⟩
   ·exact sq φ φ.fr0 ς (r_ldbw (i := 0) (vs := [code.v, words0.v, .int .i64 ((Lk : Nat) : Int), .int .i64 ((R : Nat) : Int)]) ti_25 rfl rfl rfl rfl rfl) 1 rfl rfl rfl rfl rfl rfl fun a hg => Or.inl (⟨un rfl ν2, un rfl ν5, hg, ς⟩)
   ·exact no_way (cA hcl 2 1 rfl ν2) hSi
   ·exact no_way (cA hcl 2 1 rfl ν2) hSi
  ·obtain rfl : _ = o := Option.some.inj ho
   have hd1 : S 1 = true := depAt hdep 0 rfl rfl
   rcases hI with ⟨ν2, ν5, φ, ς⟩ | ⟨ν2, _⟩ | ⟨ν2, _⟩
   ·have hs := St.mk (Fr.cons φ.fr0 (φ.at_ 1 1 18 _ rfl hd1)) ς
    refine step_ex (x_call hs bd_81 rfl rfl rfl rfl rfl (pnewP_c words0 Lk code.l.length code.v ((R : Nat) : Int) _ (hs.sh.at 2 rfl) hwn hlk)) (wanted_none rfl _) ?_
    rintro a24 w24 ⟨_, ⟨g24, mw24, mo24, rfl, hmw24, hmo24, hs24⟩, hf24⟩ ⟨v0, ht24⟩
    have h24 := (⟨hf24, hs.sh.call hs24 (by intro A hA b hb; simp only [memA, List.mem_cons, List.not_mem_nil, or_false] at hA; first | (subst hA; exact Flat.noRd hb) | (rcases hA with rfl | rfl | rfl | rfl <;> first | exact (hb : False).elim | exact Flat.noRd hb))⟩ : St 25 K W a24 w24 _ _)
    clear hf24 hs24
    exact Or.inr (Or.inl (⟨upd_self _ _, un rfl ν5, g24, mw24, mo24, hmw24, hmo24, φ.stepW hcl hSi [0, 1, 2] (by kernel_rfl) (by kernel_rfl) ht24 h24.fr.defers (h24.fr.at_ 19 _ rfl) 3 rfl rfl rfl rfl, (h24.sh.sel [0, 1, 2, 3, 4, 5, 6, 7] rfl)⟩))
   ·exact no_way ν2 hSi
   ·exact no_way ν2 hSi
  ·obtain rfl : _ = o := Option.some.inj ho
   have hd2 : S 2 = true := depAt hdep 0 rfl rfl
   rcases hI with ⟨ν2, _⟩ | ⟨ν2, ν5, g7002, mw7002, mo7002, hmw7002, hmo7002, φ, ς⟩ | ⟨_, ν5, _⟩
   ·exact no_way hd2 ν2
   ·exact sq φ (Fr.cons φ.fr0 (φ.at_ 3 2 19 _ rfl hd2)) ς (Rn.same (r_mkIfP (T := 123) Tryz.underlying123 rfl rfl) rfl) 4 rfl rfl rfl rfl rfl rfl fun a hg => Or.inr (Or.inl (⟨un rfl ν2, un rfl ν5, g7002, mw7002, mo7002, hmw7002, hmo7002, hg, ς⟩))
   ·exact no_way (cA hcl 5 3 rfl ν5) hSi
  ·obtain rfl : _ = o := Option.some.inj ho
   rcases hI with ⟨ν2, ν5, φ, ς⟩ | ⟨ν2, ν5, g7002, mw7002, mo7002, hmw7002, hmo7002, φ, ς⟩ | ⟨_, ν5, _⟩
   ·exact sq φ φ.fr0 ς (r_move rfl rfl) 2 rfl rfl rfl rfl rfl rfl fun a hg => Or.inl (⟨un rfl ν2, un rfl ν5, hg, ς⟩)
   ·exact sq φ φ.fr0 ς (r_move rfl rfl) 2 rfl rfl rfl rfl rfl rfl fun a hg => Or.inr (Or.inl (⟨un rfl ν2, un rfl ν5, g7002, mw7002, mo7002, hmw7002, hmo7002, hg, ς⟩))
   ·exact no_way (cA hcl 5 4 rfl ν5) hSi
  ·obtain rfl : _ = o := Option.some.inj ho
   have hd0 : S 0 = true := depAt hdep 0 rfl rfl
   have hd3 : S 3 = true := depAt hdep 1 rfl rfl
   have hd4 : S 4 = true := depAt hdep 2 rfl rfl
   have hd2 : S 2 = true := depAt hdep 3 rfl rfl
   rcases hI with ⟨ν2, _⟩ | ⟨ν2, ν5, g7002, mw7002, mo7002, hmw7002, hmo7002, φ, ς⟩ | ⟨_, ν5, _⟩
   ·exact no_way hd2 ν2
   ·have hs := St.mk (Fr.cons (Fr.cons (Fr.cons φ.fr0 (φ.at_ 0 0 17 _ rfl hd0)) (φ.at_ 4 3 20 _ rfl hd3)) (φ.at_ 2 4 21 _ rfl hd4)) ς
    have h28 := hs.sel (L' := [_, _, _, _, _, _, _, _]) [0, 1, 2, 3, 5, 7, 4, 6] rfl
    have hp29 := h28.sh.passL (Lp := [_, _, _, _, _, _])
    refine step_ex (x_call h28 bd_61 rfl rfl rfl rfl rfl (from_c2 _ FP ζ env stepE z0 fe us ws g7002 code.l.length code words0 mw7002 mo7002 _ Lk R _ FP_ok hp29 hok hR rfl hmw7002 hmo7002 hbe hEr hE)) (wanted_none rfl _) ?_
    rintro a30 w30 ⟨_, ⟨u30, ok30, z30, rfl, hfq30, hs30⟩, hf30⟩ ⟨v0, ht30⟩
    have hfr30 := hfq30.up (K' := K) (W' := W) (fun b hb => h28.sh.mineL (Lp := [.blk g7002 182 [mw7002.v, mo7002.v], .own 3 mw7002, .own 3 mo7002, (memP g7002).X code.l.length, .at_ code, env z0]) hb)
    have h30 : St 25 K W a30 w30 _ [_, _, _, _] := ⟨hf30, h28.sh.backL (Lp := [_, _, _, _, _, _]) hs30 (by intro A hA b hb; simp only [List.mem_cons, List.not_mem_nil, or_false] at hA; rcases hA with rfl | rfl <;> first | exact (hb : False).elim | exact Flat.noRd hb | exact .inl ⟨_, List.mem_cons_self .., .inr hb⟩ | exact (hEr _ _ hb).elim | (obtain ⟨i9, hi9, hb9⟩ := hb; exact (hfq30.nw _ (nth_mem _ _ hi9) _ hb9).elim (fun ⟨A9, hA9, hf9⟩ => .inl ⟨A9, hA9, .inl hf9⟩) (fun h9 => .inr (.inr h9))) | exact .inl ⟨_, by simp, .inr hb⟩)⟩
    clear hf30 hs30
    exact Or.inr (Or.inr (⟨un rfl ν2, upd_self _ _, g7002, mw7002, mo7002, u30, ok30, z30, hmw7002, hmo7002, hfr30, φ.stepW hcl hSi [0, 1, 2, 3, 4] (by kernel_rfl) (by kernel_rfl) ht30 h30.fr.defers (h30.fr.at_ 22 _ rfl) 5 rfl rfl rfl rfl, (h30.sh.sel [0, 1, 2, 3] rfl)⟩))
   ·exact no_way ν5 hSi
  ·obtain rfl : _ = o := Option.some.inj ho
   have hd5 : S 5 = true := depAt hdep 0 rfl rfl
   rcases hI with ⟨ν2, _⟩ | ⟨_, ν5, _⟩ | ⟨ν2, ν5, g7002, mw7002, mo7002, u7005, ok7005, z7005, hmw7002, hmo7002, hfr7005, φ, ς⟩
   ·exact no_way (cA hcl 5 2 rfl hd5) ν2
   ·exact no_way hd5 ν5
   ·exact sq φ (Fr.cons φ.fr0 (φ.at_ 5 5 22 _ rfl hd5)) ς (r_extract rfl rfl rfl) 6 rfl rfl rfl rfl rfl rfl fun a hg => Or.inr (Or.inr (⟨un rfl ν2, un rfl ν5, g7002, mw7002, mo7002, u7005, ok7005, z7005, hmw7002, hmo7002, hfr7005, hg, ς⟩))
  ·obtain rfl : _ = o := Option.some.inj ho
   have hd5 : S 5 = true := depAt hdep 0 rfl rfl
   rcases hI with ⟨ν2, _⟩ | ⟨_, ν5, _⟩ | ⟨ν2, ν5, g7002, mw7002, mo7002, u7005, ok7005, z7005, hmw7002, hmo7002, hfr7005, φ, ς⟩
   ·exact no_way (cA hcl 5 2 rfl hd5) ν2
   ·exact no_way hd5 ν5
   ·exact sq φ (Fr.cons φ.fr0 (φ.at_ 5 5 22 _ rfl hd5)) ς (r_extract rfl rfl rfl) 7 rfl rfl rfl rfl rfl rfl fun a hg => Or.inr (Or.inr (⟨un rfl ν2, un rfl ν5, g7002, mw7002, mo7002, u7005, ok7005, z7005, hmw7002, hmo7002, hfr7005, hg, ς⟩))
  ·obtain rfl : _ = o := Option.some.inj ho
   have hd6 : S 6 = true := depAt hdep 0 rfl rfl
   have hd5 : S 5 = true := depAt hdep 1 rfl rfl
   have hd2 : S 2 = true := depAt hdep 4 rfl rfl
   rcases hI with ⟨ν2, _⟩ | ⟨_, ν5, _⟩ | ⟨ν2, ν5, g7002, mw7002, mo7002, u7005, ok7005, z7005, hmw7002, hmo7002, hfr7005, φ, ς⟩
   ·exact no_way hd2 ν2
   ·exact no_way hd5 ν5
   ·exact sq φ (Fr.cons φ.fr0 (φ.at_ 6 6 23 _ rfl hd6)) ς (r_assign rfl rfl) 8 rfl rfl rfl rfl rfl rfl fun a hg => Or.inr (Or.inr (⟨un rfl ν2, un rfl ν5, g7002, mw7002, mo7002, u7005, ok7005, z7005, hmw7002, hmo7002, hfr7005, hg, ς⟩))
  ·obtain rfl : _ = o := Option.some.inj ho
   have hd7 : S 7 = true := depAt hdep 0 rfl rfl
   have hd2 : S 2 = true := depAt hdep 4 rfl rfl
   have hd5 : S 5 = true := depAt hdep 7 rfl rfl
   rcases hI with ⟨ν2, _⟩ | ⟨_, ν5, _⟩ | ⟨ν2, ν5, g7002, mw7002, mo7002, u7005, ok7005, z7005, hmw7002, hmo7002, hfr7005, φ, ς⟩
   ·exact no_way hd2 ν2
   ·exact no_way hd5 ν5
   ·exact sq φ (Fr.cons φ.fr0 (φ.at_ 7 7 24 _ rfl hd7)) ς (r_assign rfl rfl) 9 rfl rfl rfl rfl rfl rfl fun a hg => Or.inr (Or.inr (⟨un rfl ν2, un rfl ν5, g7002, mw7002, mo7002, u7005, ok7005, z7005, hmw7002, hmo7002, hfr7005, hg, ς⟩))
  · simp at ho
 intro S hall a w hI
 clear h17
 rcases hI with ⟨ν2, ν5, φ, ς⟩ | ⟨ν2, ν5, g7002, mw7002, mo7002, hmw7002, hmo7002, φ, ς⟩ | ⟨ν2, ν5, g7002, mw7002, mo7002, u7005, ok7005, z7005, hmw7002, hmo7002, hfr7005, φ, ς⟩
 · exact no_way (hall 2 (by decide)) ν2
 · exact no_way (hall 5 (by decide)) ν5
 have h35 : St 25 K W a w _ _ := ⟨(Fr.cons (Fr.cons φ.fr0 (φ.at_ 8 8 6 _ rfl (hall 8 (by decide)))) (φ.at_ 9 9 7 _ rfl (hall 9 (by decide)))), ς⟩
 clear hall φ ς ν2 ν5
 refine gG h35<|hK k15<|gR<|fun a36 w36 h36 => ?_; clear h35
 try simp only [Exit.then, Exit.inBlock]
 refine x_ret2 (fn := Tryz.f49) (t := 6) (u := 7) rfl h36 rfl rfl ?_
 exact ⟨u7005, ok7005, z7005, rfl, hfr7005, (h36.sh.sel [0, 1] rfl)⟩

theorem ofs_c (code : Ls (Ls Ins)) (words0 : Ls Int) (Lk R : Nat) (W : World) (hcode : code.At W) (hwords : words0.At W) (hok : OkPg (pgN code words0 Lk R)) (hR : PgR (pgN code words0 Lk R)) :
    Rets Tryz.prog 83 [.agg #[code.v, words0.v, .int .i64 ((Lk : Nat) : Int), .int .i64 ((R : Nat) : Int)], .bool false] W (fun v w' => ∃ (u : Ls OutL) (ok : Bool), v = .tuple #[u.v, .bool ok] ∧ FRes (pgN code words0 Lk R) 0 (fun (_ : Unit) _ => ()) () (fun _ => False) W ok u () ∧ Sh0 W w' [.own 39 u]) := by
 refine gen Tryz.func83 Tryz.ntmps83 (Sh0.ext2 hcode hwords : Sh (fun _ => False) W W [.at_ code, .at_ words0]) rfl fun a10 h10 => gG h10<|sK fun _ k11 => gbx rfl rfl fun b12 => gRn (oM 2 rfl<|.nl)<|nK k11<|sK fun _ k13 => gRn (olw 0 ti_25 rfl rfl<|oM 1 rfl<|.nl)<|fun a15 w15 h15 => ?_; clear h10
 have h14 : St _ _ _ _ _ _ _ := ⟨h15.fr, h15.sh.emp⟩
 clear h15
 have hsz9 := h14.sh.chg.size
 have h19 := h14.sel (L' := [_, _, _, _]) [2, 3, 0, 1] rfl
 have hp20 := h19.sh.passL (Lp := [_, _, _])
 refine wl_ex (x_call h19 bd_49 rfl rfl rfl rfl rfl (walks_c _ Unit (fun _ => Asn.emp) (fun _ _ => ()) () 125 [] [] code words0 Lk R _ hp20 hok hR bd_125 (fun _ _ h => h) (fun K' W' gp x z _ _ h9 => Rets.mono (of1_c x.g W') fun v w' h8 => ⟨h8.1, h9.call0 h8.2⟩))) (wanted_none rfl _) ?_
 rintro a21 w21 ⟨_, ⟨u21, ok21, z21, rfl, hfq21, hs21⟩, hf21⟩
 have h21 : St 11 (fun _ => False) W a21 w21 _ [_, _, _] := ⟨hf21, h19.sh.backL (Lp := [_, _, _]) hs21 (by intro A hA b hb; simp only [List.mem_cons, List.not_mem_nil, or_false] at hA; rcases hA with rfl | rfl <;> first | exact (hb : False).elim | exact Flat.noRd hb | exact .inl ⟨_, List.mem_cons_self .., .inr hb⟩ | (obtain ⟨i9, hi9, hb9⟩ := hb; exact (hfq21.nw _ (nth_mem _ _ hi9) _ hb9).elim (fun ⟨A9, hA9, hf9⟩ => .inl ⟨A9, hA9, .inl hf9⟩) (fun h9 => .inr (.inr h9))) | exact .inl ⟨_, by simp, .inr hb⟩)⟩
 clear hf21 hs21
 clear h19
 refine gG h21<|gRn (oxt rfl<|oxt rfl<|oM 2 rfl<|.nl)<|nK k13<|gR<|fun a22 w22 h22 => ?_; clear h21
 try simp only [Exit.then, Exit.inBlock]
 refine x_ret2 (fn := Tryz.f83) (t := 4) (u := 5) rfl h22 rfl rfl ?_
 exact ⟨u21, ok21, rfl, hfq21.up (fun b hb => hb.elim (fun ⟨A9, hA9, hf9⟩ => by simp only [List.mem_cons, List.not_mem_nil, or_false] at hA9; rcases hA9 with rfl | rfl | rfl <;> exact (hf9 : False).elim) (fun h9 => .inr (Nat.le_trans hsz9 h9))), (h22.sh.sel [0] rfl)⟩

theorem askeds_k (code : Ls (Ls Ins)) (words0 : Ls Int) (Lk R : Nat) (W : World) (hcode : code.At W) (hwords : words0.At W) (hok : OkPg (pgN code words0 Lk R)) (hR : PgR (pgN code words0 Lk R)) :
    Rets Tryz.prog 47 [.agg #[code.v, words0.v, .int .i64 ((Lk : Nat) : Int), .int .i64 ((R : Nat) : Int)], .bool false] W (fun v w' => ∃ (u : Ls OutL) (ok : Bool), v = .tuple #[u.v, .agg #[.int .i64 (if ok = true then 0 else 10), .int .i64 0, .int .i64 0]] ∧ FRes (pgN code words0 Lk R) 0 (fun (_ : Unit) _ => ()) () (fun _ => False) W ok u () ∧ Sh0 W w' [.own 39 u]) := by
 have hz : checkG (pgOf code words0 ((Lk : Nat) : Int) ((R : Nat) : Int)) = ⟨0, 0, 0⟩ := checkG_ok hok
 refine gen Tryz.func47 Tryz.ntmps47 (Sh0.ext2 hcode hwords : Sh (fun _ => False) W W [.at_ code, .at_ words0]) rfl fun a10 h10 => gG h10<|sK fun _ k11 => gbx rfl rfl fun b12 => gRn (oM 1 rfl<|.nl)<|gal ti_28 rfl fun b13 => nK k11<|gK fun _ k14 => sK fun _ k15 => gRn (olw 1 ti_25 rfl rfl<|.nl)<|gC (fun _ _ h_ => xCl h_ bd_43 rfl (asmCheck_c (code := code) (words := words0) (locks := ((Lk : Nat) : Int)) (regs := ((R : Nat) : Int)) (h_.sh.at 2 rfl) (h_.sh.at 3 rfl))) rfl<|?_; clear h10
 rintro _ _ w16 ⟨rfl, hs16⟩
 refine gWk hs16 rfl<|gU<|gal ti_28 rfl fun b17 => gsw 0 ti_28 rfl rfl rfl<|nK k15<|sG (ofB fl_28_0 rfl<|olB 0 ti_26 rfl rfl<|oneI _ _ rfl<|.nl)<|gcF rfl (by rw [hz]; rfl)<|gS<|hK k14<|sK fun _ k20 => gRn (olw 2 ti_25 rfl rfl<|oM 1 rfl<|.nl)<|fun a22 w22 h22 => ?_; clear hs16
 refine wl_ex (x_call h22 bd_83 rfl rfl rfl rfl rfl (ofs_c code words0 Lk R _ (h22.sh.at 3 rfl) (h22.sh.at 4 rfl) hok hR)) (wanted_none rfl _) ?_
 rintro a23 w23 ⟨_, ⟨u23, ok23, rfl, hfu23, hs23⟩, hf23⟩
 have h23 := (⟨hf23, h22.sh.call hs23 (by intro A hA b hb; obtain rfl := List.mem_singleton.1 hA; obtain ⟨i9, hi9, hb9⟩ := hb; exact .inl ((hfu23.nw _ (nth_mem _ _ hi9) b hb9).resolve_left id))⟩ : St 26 (fun _ => False) W a23 w23 _ _)
 have hfr23 := hfu23.up (K' := fun _ => False) (W' := W) (fun b hb => hb.imp id (fun h9 => Nat.le_trans h22.sh.chg.size h9))
 clear hf23 hs23
 clear h22
 refine gG h23<|gRn (oM 1 rfl<|oxt rfl<|oxt rfl<|oM 2 rfl<|.nl)<|nK k20<|gK fun _ k24 => sG (oM 1 rfl<|ont rfl<|.nl)<|?_; clear h23
 refine gCb rfl (fun hb26 => ?_) fun hb26 => ?_
 ·have hn26 : ok23 = false := (Bool.not_eq_true' _).mp hb26
  refine sK fun _ k27 => gRn (oV (r_build (cs := [.int .i64 10, .int .i64 0, .int .i64 0]) rfl rfl (by kernel_rfl)) rfl<|oM 1 rfl<|.nl)<|gsw 2 ti_28 rfl rfl rfl<|nK k27<|gR<|fun a29 w29 h29 => ?_
  try simp only [Exit.then, Exit.inBlock]
  refine x_rettc (fn := Tryz.f47) (t := 5) (u := 4) (i := 2) ti_28 rfl h29 rfl rfl rfl rfl ?_
  have h30 := h29.nil (α := OutL) 39
  clear h29
  have hof : ok23 = false := by simpa using hn26
  exact ⟨⟨.slice none 0 0, []⟩, false, rfl, FRes.nilU (u := u23) (hof ▸ hfr23), (h30.sh.sel [0] rfl)⟩
 have hn26 : ok23 = true := (Bool.not_eq_false' _).mp hb26
 refine gS<|hK k24<|sK fun _ k31 => gRn (oM 1 rfl<|oV (r_build (cs := [.int .i64 0, .int .i64 0, .int .i64 0]) rfl rfl (by kernel_rfl)) rfl<|oM 1 rfl<|.nl)<|gsw 2 ti_28 rfl rfl rfl<|nK k31<|gR<|fun a33 w33 h33 => ?_
 try simp only [Exit.then, Exit.inBlock]
 refine x_rettc (fn := Tryz.f47) (t := 5) (u := 4) (i := 2) ti_28 rfl h33 rfl rfl rfl rfl ?_
 have hof : ok23 = true := by simpa using hn26
 exact ⟨u23, true, rfl, hof ▸ hfr23, (h33.sh.sel [0] rfl)⟩

theorem askeds_b (code : Ls (Ls Ins)) (words : Ls Int) (locks regs : Int) (W : World) (hcode : code.At W) (hwords : words.At W) (hz : (checkG (pgOf code words locks regs)).code ≠ 0) :
    Rets Tryz.prog 47 [.agg #[code.v, words.v, .int .i64 locks, .int .i64 regs], .bool false] W (fun v w' => v = .tuple #[.slice none 0 0, (checkG (pgOf code words locks regs)).val] ∧ Sh0 W w' []) := by
 refine gen Tryz.func47 Tryz.ntmps47 (Sh0.ext2 hcode hwords : Sh (fun _ => False) W W [.at_ code, .at_ words]) rfl fun a10 h10 => gG h10<|sK fun _ k11 => gbx rfl rfl fun b12 => gRn (oM 1 rfl<|.nl)<|gal ti_28 rfl fun b13 => nK k11<|gK fun _ k14 => sK fun _ k15 => gRn (olw 1 ti_25 rfl rfl<|.nl)<|gC (fun _ _ h_ => xCl h_ bd_43 rfl (asmCheck_c (code := code) (words := words) (locks := locks) (regs := regs) (h_.sh.at 2 rfl) (h_.sh.at 3 rfl))) rfl<|?_; clear h10
 rintro _ _ w16 ⟨rfl, hs16⟩
 refine gWk hs16 rfl<|gU<|gal ti_28 rfl fun b17 => gsw 0 ti_28 rfl rfl rfl<|nK k15<|sG (ofB fl_28_0 rfl<|olB 0 ti_26 rfl rfl<|oneI _ _ rfl<|.nl)<|gcT rfl (decide_eq_true hz)<|gK fun _ k20 => rT 2 [] (by kernel_rfl) (by kernel_rfl) (olw 0 ti_28 rfl rfl<|oM 1 rfl<|.nl)<|gsw 1 ti_28 rfl rfl rfl<|nK k20<|gR<|fun a22 w22 h22 => ?_; clear hs16
 try simp only [Exit.then, Exit.inBlock]
 refine x_rettc (fn := Tryz.f47) (t := 5) (u := 4) (i := 1) ti_28 rfl h22 rfl rfl rfl rfl ?_
 exact ⟨rfl, (h22.sh.sel [] rfl)⟩

theorem ssc_k (code : Ls (Ls Ins)) (words0 : Ls Int) (Lk R : Nat) (W : World) (hcode : code.At W) (hwords : words0.At W) (hok : OkPg (pgN code words0 Lk R)) (hR : PgR (pgN code words0 Lk R)) :
    Rets Tryz.prog 29 [.agg #[code.v, words0.v, .int .i64 ((Lk : Nat) : Int), .int .i64 ((R : Nat) : Int)]] W (fun v w' => ∃ (u : Ls OutL) (ok : Bool), v = .tuple #[u.v, .agg #[.int .i64 (if ok = true then 0 else 10), .int .i64 0, .int .i64 0]] ∧ FRes (pgN code words0 Lk R) 0 (fun (_ : Unit) _ => ()) () (fun _ => False) W ok u () ∧ Sh0 W w' [.own 39 u]) := by
 have hz : checkG (pgOf code words0 ((Lk : Nat) : Int) ((R : Nat) : Int)) = ⟨0, 0, 0⟩ := checkG_ok hok
 refine gen Tryz.func29 Tryz.ntmps29 (Sh0.ext2 hcode hwords : Sh (fun _ => False) W W [.at_ code, .at_ words0]) rfl fun a10 h10 => gG h10<|sK fun _ k11 => gbx rfl rfl fun b12 => gRn (oM 1 rfl<|.nl)<|gal ti_28 rfl fun b13 => nK k11<|sK fun _ k14 => gRn (olw 1 ti_25 rfl rfl<|.nl)<|fun a16 w16 h16 => wl_ex (x_call h16 bd_47 rfl rfl rfl rfl rfl (askeds_k code words0 Lk R _ (h16.sh.at 2 rfl) (h16.sh.at 3 rfl) hok hR)) (wanted_none rfl _) ?_; clear h10
 rintro a17 w17 ⟨_, ⟨u17, ok17, rfl, hfu17, hs17⟩, hf17⟩
 have h17 := (⟨hf17, h16.sh.call hs17 (by intro A hA b hb; obtain rfl := List.mem_singleton.1 hA; obtain ⟨i9, hi9, hb9⟩ := hb; exact .inl ((hfu17.nw _ (nth_mem _ _ hi9) b hb9).resolve_left id))⟩ : St 8 (fun _ => False) W a17 w17 _ _)
 have hfr17 := hfu17.up (K' := fun _ => False) (W' := W) (fun b hb => hb.imp id (fun h9 => Nat.le_trans h16.sh.chg.size h9))
 clear hf17 hs17
 clear h16
 refine gG h17<|gRn (oxt rfl<|oxt rfl<|oM 1 rfl<|.nl)<|gsw 1 ti_28 rfl rfl rfl<|nK k14<|gR<|fun a19 w19 h19 => ?_; clear h17
 try simp only [Exit.then, Exit.inBlock]
 refine x_rettc (fn := Tryz.f29) (t := 3) (u := 2) (i := 1) ti_28 rfl h19 rfl rfl rfl rfl ?_
 exact ⟨u17, ok17, rfl, hfr17, (h19.sh.sel [0] rfl)⟩

theorem ssc_b (code : Ls (Ls Ins)) (words : Ls Int) (locks regs : Int) (W : World) (hcode : code.At W) (hwords : words.At W) (hz : (checkG (pgOf code words locks regs)).code ≠ 0) :
    Rets Tryz.prog 29 [.agg #[code.v, words.v, .int .i64 locks, .int .i64 regs]] W (fun v w' => v = .tuple #[.slice none 0 0, (checkG (pgOf code words locks regs)).val] ∧ Sh0 W w' []) := by
 refine gen Tryz.func29 Tryz.ntmps29 (Sh0.ext2 hcode hwords : Sh (fun _ => False) W W [.at_ code, .at_ words]) rfl fun a10 h10 => gG h10<|sK fun _ k11 => gbx rfl rfl fun b12 => gRn (oM 1 rfl<|.nl)<|gal ti_28 rfl fun b13 => nK k11<|sK fun _ k14 => gRn (olw 1 ti_25 rfl rfl<|.nl)<|gC (fun _ _ h_ => xCl h_ bd_47 rfl (askeds_b code words locks regs _ (h_.sh.at 2 rfl) (h_.sh.at 3 rfl) hz)) rfl<|?_; clear h10
 rintro _ _ w15 ⟨rfl, hs15⟩
 refine gWk hs15 rfl<|gU<|gRn (oxt rfl<|oxt rfl<|oM 1 rfl<|.nl)<|gsw 0 ti_28 rfl rfl rfl<|nK k14<|gR<|fun a17 w17 h17 => ?_; clear hs15
 try simp only [Exit.then, Exit.inBlock]
 refine x_rettc (fn := Tryz.f29) (t := 3) (u := 2) (i := 0) ti_28 rfl h17 rfl rfl rfl rfl ?_
 exact ⟨rfl, (h17.sh.sel [] rfl)⟩

end Go.Proofs.YtmjkobhkkjgplaaGreatDoor
end
section
section
namespace Go.Proofs.YtmjkobhkkjgplaaGreatDoor
open Go.ChangeShapes Go.WideShapes Go.ChangeAt Go.RowKit
open Go.Deep (open_slice)
set_option linter.unusedSimpArgs false
set_option linter.unusedVariables false

class Rd (α : Type) extends Enc α where
  ty : Program → TypeId → Prop
  fine : α → Prop
  read : ∀ {H : Type} {enc : TypeId × Value → H} {P : Program} {w : World} {base : Nat} {spare : Nat → Bool} {held : Bool} {fuel : Nat} {T : TypeId} {cs : List Value} {x : DataW H × List MemPlace},
    ty P T → DataW.trod enc P w base spare held fuel T cs = some x → (∀ n ∈ DataW.weights P T x.1, n ≤ reachBytes) → ∃ a : α, cs = cellsOf a ∧ Enc.inner a w ∧ fine a

instance : Rd Int where
  ty P T := P.underlying T = some (.int .i64)
  fine n := (Lit.int .i64 n).wf = true
  read hT h _ := by
    obtain ⟨n, rfl, _, hw⟩ := DataW.trod_int hT h
    exact ⟨n, rfl, trivial, hw⟩
instance : Rd Bool where
  ty P T := P.underlying T = some .bool
  fine _ := True
  read hT h _ := by
    obtain ⟨b, rfl, _⟩ := DataW.trod_bool hT h
    exact ⟨b, rfl, trivial, trivial⟩

/-- A struct of n integers. -/
def intFields (P : Program) (fs : Array Field) (n : Nat) : Prop := fs.size = n ∧ ∀ (j : Nat) (f : Field), fs[j]? = some f → f.offset = j ∧ P.underlying f.type = some (.int .i64) ∧ P.cellsOf f.type = 1

theorem read_ints {H : Type} {enc : TypeId × Value → H} {P : Program} {w : World} {base : Nat} {spare : Nat → Bool} {held : Bool} {fuel : Nat} {T : TypeId} {cs : List Value} {x : DataW H × List MemPlace} {fs : Array Field} {n : Nat}
    (hT : P.underlying T = some (.struct fs)) (hfs : intFields P fs n) (hC : P.cellsOf T = n) (h : DataW.trod enc P w base spare held fuel T cs = some x) :
    cs.length = n ∧ ∀ j, j < n → ∃ k : Int, cs[j]? = some (.int .i64 k) ∧ (Lit.int .i64 k).wf = true := by
  obtain ⟨xs, m, _, _, hlen, hxl, hf⟩ := DataW.trod_struct hT h
  refine ⟨hlen.trans hC, fun j hj => ?_⟩
  obtain ⟨hs, hall⟩ := hfs
  have hjs : j < fs.size := by omega
  obtain ⟨ho, ht, hc⟩ := hall j fs[j] (by simp [hjs])
  have h1 := hf j fs[j] (by simp [hjs])
  rw [ho, hc, List.getElem?_eq_getElem (by omega)] at h1
  obtain ⟨k, hk, _, hw⟩ := DataW.trod_int ht h1
  refine ⟨k, ?_, hw⟩
  rw [List.drop_eq_getElem_cons (by omega)] at hk
  simp only [List.take_succ_cons, List.take_zero, List.cons.injEq, and_true] at hk
  rw [List.getElem?_eq_getElem (by omega), hk]

instance : Rd Ins where
  ty P T := ∃ fs, P.underlying T = some (.struct fs) ∧ intFields P fs 4 ∧ P.cellsOf T = 4
  fine x := (Lit.int .i64 x.op).wf = true ∧ (Lit.int .i64 x.a).wf = true ∧ (Lit.int .i64 x.b).wf = true ∧ (Lit.int .i64 x.c).wf = true
  read := by
    rintro H enc P w base spare held fuel T cs x ⟨fs, hT, hfs, hC⟩ h _
    obtain ⟨hl, hj⟩ := read_ints hT hfs hC h
    obtain ⟨k0, e0, w0⟩ := hj 0 (by omega)
    obtain ⟨k1, e1, w1⟩ := hj 1 (by omega)
    obtain ⟨k2, e2, w2⟩ := hj 2 (by omega)
    obtain ⟨k3, e3, w3⟩ := hj 3 (by omega)
    match cs, hl with
    | [c0, c1, c2, c3], _ =>
      simp only [List.getElem?_cons_zero, List.getElem?_cons_succ, Option.some.injEq] at e0 e1 e2 e3
      subst e0 e1 e2 e3
      exact ⟨⟨k0, k1, k2, k3⟩, rfl, trivial, w0, w1, w2, w3⟩

theorem weights_slice {H : Type} {P : Program} {T e : TypeId} {elems spare : List (DataW H)} (hT : P.underlying T = some (.slice e)) (h : ∀ n ∈ DataW.weights P T (.slice elems spare), n ≤ reachBytes) :
    (elems.length + spare.length) * P.bytesOf e ≤ reachBytes ∧ ∀ d ∈ elems, ∀ n ∈ DataW.weights P e d, n ≤ reachBytes := by
  unfold DataW.weights at h
  rw [hT] at h
  refine ⟨h _ (by simp), fun d hd n hn => h n ?_⟩
  have : ∀ l : List (DataW H), d ∈ l → n ∈ DataW.weightsAll P e l := by
    intro l hl
    induction l with
    | nil => cases hl
    | cons y l ih =>
      unfold DataW.weightsAll
      rcases List.mem_cons.1 hl with rfl | hl
      · exact List.mem_append.2 (.inl hn)
      · exact List.mem_append.2 (.inr (ih hl))
  simp only [List.mem_cons, List.mem_append]
  exact .inr (.inl (this _ hd))

instance {α : Type} [Rd α] : Rd (Sl α) where
  ty P T := ∃ e, P.underlying T = some (.slice e) ∧ P.cellsOf e = Enc.sz α ∧ 1 ≤ P.bytesOf e ∧ 0 < Enc.sz α ∧ Rd.ty α P e
  fine s := ∀ i, i < s.l.length → Rd.fine (nth s.l i)
  read := by
    rintro H enc P w base spare held fuel T cs x ⟨e, hT, hC, hB, hpos, hty⟩ h hw
    rcases open_slice hT h with ⟨rfl, rfl⟩ | ⟨a, len, cap, m, n, D, Pl, rfl, _, hl, hm, hmm, rfl, hi⟩
    · refine ⟨⟨none, 0, []⟩, rfl, ⟨Nat.le_refl _, by simp, by simp, fun hh => absurd hh (by simp), fun hh => absurd hh (by simp), fun i j hi => absurd hi (by simp), fun i hi => absurd hi (by simp)⟩, fun i hi => absurd hi (by simp)⟩
    · obtain ⟨hb, hd⟩ := weights_slice hT hw
      have hlm : len ≤ m := by rw [hmm]; split <;> omega
      have hlen : len ≤ 140737488355328 := by
        simp only [List.length_map, List.length_range, reachBytes] at hb
        have : (len + (m - len)) * 1 ≤ (len + (m - len)) * P.bytesOf e := Nat.mul_le_mul_left _ hB
        omega
      have key : ∀ i, i < len → ∃ y : α, (∀ j, j < Enc.sz α → w.cell? ((a.add (i * Enc.sz α)).add j) = some (Enc.cell y j)) ∧ Enc.inner y w ∧ Rd.fine y := by
        intro i hil
        obtain ⟨cs', hc', ht'⟩ := hi i (by omega)
        obtain ⟨y, hy, hin, hf⟩ := Rd.read hty ht' (hd _ (List.mem_map.2 ⟨i, by simpa using hil, rfl⟩))
        obtain ⟨_, hcl, hat⟩ := World.cells?_some hc'
        rw [hC] at hc' hat hcl
        refine ⟨y, fun j hj => ?_, hin, hf⟩
        rw [hat j (by first | exact hj | omega)]
        subst hy
        simp [cellsOf, hj]
      obtain ⟨F, hF⟩ := Go.Deep.choose_lt key
      let l := (List.range len).map F
      have hll : l.length = len := by simp [l]
      have hn : ∀ i, i < len → nth l i = F i := by intro i hil; simp [nth, l, hil]
      have hcell0 : 0 < len → ∃ v, w.cell? a = some v := fun h0 => ⟨_, by
        have h1 := (hF 0 h0).1 0 hpos
        rw [Nat.zero_mul, Addr.add_zero', Addr.add_zero'] at h1
        exact h1⟩
      have hspot : 0 < len → a.spot = none := by
        intro h0
        obtain ⟨v, hv⟩ := hcell0 h0
        unfold World.cell? at hv
        split at hv
        · split at hv
          · cases hv
          · rename_i hs
            simpa using hs
        · cases hv
      refine ⟨⟨some a, cap, l⟩, by simp [cellsOf, Enc.cell, Enc.sz, hll], ⟨by rw [hll]; exact hl, hm, by rw [hll]; exact hlen, ?_, ?_, ?_, ?_⟩, ?_⟩
      · intro h0
        exact ⟨a, rfl, hspot (by rw [← hll]; exact h0)⟩
      · intro h0
        obtain ⟨v, hv⟩ := hcell0 (by rw [← hll]; exact h0)
        exact World.block_lt_of_cell? w a hv
      · intro i j hi' hj
        rw [hll] at hi'
        show w.cell? ⟨a.block, a.off + i * Enc.sz α + j, none⟩ = some (Enc.cell (nth l i) j)
        rw [hn i hi', ← (hF i hi').1 j hj]
        have hs := hspot (by omega)
        rcases a with ⟨b, o, sp⟩
        simp only at hs
        subst hs
        rw [Addr.add_lit, Addr.add_lit]
      · intro i hi'
        rw [hll] at hi'
        rw [hn i hi']
        exact (hF i hi').2.1
      · intro i hi'
        rw [hll] at hi'
        rw [hn i hi']
        exact (hF i hi').2.2

/-- The fields of a program. -/
def prFields (P : Program) (fs : Array Field) : Prop :=
  ∃ f0 f1 f2 f3 : Field, fs = #[f0, f1, f2, f3] ∧ (f0.offset = 0 ∧ P.cellsOf f0.type = 1 ∧ Rd.ty (Sl (Sl Ins)) P f0.type) ∧ (f1.offset = 1 ∧ P.cellsOf f1.type = 1 ∧ Rd.ty (Sl Int) P f1.type) ∧
    (f2.offset = 2 ∧ P.cellsOf f2.type = 1 ∧ Rd.ty Int P f2.type) ∧ (f3.offset = 3 ∧ P.cellsOf f3.type = 1 ∧ Rd.ty Int P f3.type)
def PR.fine (p : PR) : Prop := Rd.fine p.code ∧ Rd.fine p.words ∧ (Lit.int .i64 p.locks).wf = true ∧ (Lit.int .i64 p.regs).wf = true

theorem weights_agg {H : Type} {P : Program} {T : TypeId} {f0 f1 f2 f3 : Field} {d0 d1 d2 d3 : DataW H} (hT : P.underlying T = some (.struct #[f0, f1, f2, f3])) (h : ∀ n ∈ DataW.weights P T (.agg [d0, d1, d2, d3]), n ≤ reachBytes) :
    (∀ n ∈ DataW.weights P f0.type d0, n ≤ reachBytes) ∧ (∀ n ∈ DataW.weights P f1.type d1, n ≤ reachBytes) ∧ (∀ n ∈ DataW.weights P f2.type d2, n ≤ reachBytes) ∧ (∀ n ∈ DataW.weights P f3.type d3, n ≤ reachBytes) := by
  unfold DataW.weights at h
  rw [hT] at h
  simp only [List.map_cons, List.map_nil, DataW.weightsEach, List.append_nil, List.mem_append] at h
  exact ⟨fun n hn => h n (.inl hn), fun n hn => h n (.inr (.inl hn)), fun n hn => h n (.inr (.inr (.inl hn))), fun n hn => h n (.inr (.inr (.inr hn)))⟩

/-- A PARAMETER THAT IS A PROGRAM. -/
theorem open_PR {H : Type} {enc : TypeId × Value → H} {P : Program} {w : World} {base : Nat} {spare : Nat → Bool} {held : Bool} {r : Go.Reach} {b0 : Nat} {T : TypeId} {fs : Array Field} {v : Value} {d : DataW H} {p : List MemPlace}
    (hT : P.underlying T = some (.struct fs)) (hfs : prFields P fs) (hC : P.cellsOf T = 4) (hv : Value.okWide P w r b0 T v) (h : DataW.Trod enc P w base spare held T v d p) (hw : ∀ n ∈ DataW.weights P T d, n ≤ reachBytes) :
    ∃ q : PR, v = q.val ∧ q.At w ∧ q.fine := by
  obtain ⟨f0, f1, f2, f3, rfl, ⟨o0, c0, t0⟩, ⟨o1, c1, t1⟩, ⟨o2, c2, t2⟩, ⟨o3, c3, t3⟩⟩ := hfs
  obtain ⟨cs, rfl, hsz⟩ := okWide_struct hT hv
  obtain ⟨l⟩ := cs
  match l, hsz.trans hC with
  | [v0, v1, v2, v3], _ =>
    obtain ⟨fuel, hf⟩ := h
    obtain ⟨xs, n, _, hx, _, hlen, hg⟩ := DataW.trod_struct hT hf
    match xs, hlen with
    | [y0, y1, y2, y3], _ =>
      simp only [Prod.mk.injEq, List.map_cons, List.map_nil] at hx
      rw [hx.1] at hw
      obtain ⟨w0, w1, w2, w3⟩ := weights_agg hT hw
      have g0 := hg 0 f0 rfl
      have g1 := hg 1 f1 rfl
      have g2 := hg 2 f2 rfl
      have g3 := hg 3 f3 rfl
      rw [o0, c0] at g0
      rw [o1, c1] at g1
      rw [o2, c2] at g2
      rw [o3, c3] at g3
      simp [Value.cells] at g0 g1 g2 g3
      obtain ⟨s0, e0, i0, k0⟩ := Rd.read t0 g0 w0
      obtain ⟨s1, e1, i1, k1⟩ := Rd.read t1 g1 w1
      obtain ⟨s2, e2, i2, k2⟩ := Rd.read t2 g2 w2
      obtain ⟨s3, e3, i3, k3⟩ := Rd.read t3 g3 w3
      simp [cellsOf, Enc.cell, Enc.sz] at e0 e1 e2 e3
      subst e0 e1 e2 e3
      exact ⟨⟨s0, s1, s2, s3⟩, rfl, ⟨i0, i1⟩, k0, k1, k2, k3⟩
end Go.Proofs.YtmjkobhkkjgplaaGreatDoor
end
section
namespace Go.Proofs.YtmjkobhkkjgplaaGreatDoor
open Go.ChangeShapes Go.WideShapes Go.ChangeAt Go.RowKit
set_option linter.unusedSimpArgs false
set_option linter.unusedVariables false

theorem own : ownKnob Tryz.prog.godebug = none := by kernel_rfl
theorem laidOut : laidOutB Tryz.prog = true := by kernel_rfl
theorem ty_int : Rd.ty Int Tryz.prog 3 := Tryz.underlying3
theorem ty_ins : Rd.ty Ins Tryz.prog 32 := by
  refine ⟨_, Tryz.underlying32, ⟨rfl, fun j f hf => ?_⟩, by kernel_rfl⟩
  rcases j with _ | _ | _ | _ | j <;> simp at hf <;> subst hf <;> exact ⟨rfl, Tryz.underlying3, by kernel_rfl⟩
theorem ty_ints : Rd.ty (Sl Int) Tryz.prog 23 := ⟨_, Tryz.underlying23, by kernel_rfl, of_decide_eq_true (by kernel_rfl), by decide, ty_int⟩
theorem ty_code : Rd.ty (Sl Ins) Tryz.prog 33 := ⟨_, Tryz.underlying33, by kernel_rfl, of_decide_eq_true (by kernel_rfl), by decide, ty_ins⟩
theorem ty_codes : Rd.ty (Sl (Sl Ins)) Tryz.prog 22 := ⟨_, Tryz.underlying22, by kernel_rfl, of_decide_eq_true (by kernel_rfl), by decide, ty_code⟩
theorem ty_pr : ∃ fs, Tryz.prog.underlying 25 = some (.struct fs) ∧ prFields Tryz.prog fs :=
  ⟨_, Tryz.underlying25, _, _, _, _, rfl, ⟨rfl, by kernel_rfl, ty_codes⟩, ⟨rfl, by kernel_rfl, ty_ints⟩, ⟨rfl, by kernel_rfl, ty_int⟩, ⟨rfl, by kernel_rfl, ty_int⟩⟩
end Go.Proofs.YtmjkobhkkjgplaaGreatDoor
end
namespace Go.Proofs.YtmjkobhkkjgplaaGreatDoor
open Go.ChangeShapes Go.WideShapes Go.ChangeAt Go.RowKit
set_option linter.unusedSimpArgs false
set_option linter.unusedVariables false

section
variable {α : Type} [Enc α]
def ofSl (s : Sl α) : Ls α := ⟨.slice s.A s.l.length s.cap, s.l⟩
theorem ofSl_at {s : Sl α} {w : World} (h : s.At w) : (ofSl s).At w := ⟨s.A, s.cap, rfl, h⟩
def ofSl2 (s : Sl (Sl α)) : Ls (Ls α) := ⟨.slice s.A s.l.length s.cap, s.l.map ofSl⟩
theorem ofSl2_at {s : Sl (Sl α)} {w : World} (h : s.At w) : (ofSl2 s).At w := by
  refine ⟨s.A, s.cap, by simp [ofSl2], ⟨by simpa [ofSl2] using h.le, h.max, by simpa [ofSl2] using h.len, by simpa [ofSl2] using h.some, by simpa [ofSl2] using h.lt', fun i j hi hj => ?_, fun i hi => ?_⟩⟩
  · have hi' : i < s.l.length := by simpa [ofSl2] using hi
    show w.cell? _ = some (Enc.cell (nth (s.l.map ofSl) i) j)
    rw [nth_map' ofSl _ _ hi']
    exact h.cell i j hi' hj
  · have hi' : i < s.l.length := by simpa [ofSl2] using hi
    show Enc.inner (nth (s.l.map ofSl) i) w
    rw [nth_map' ofSl _ _ hi']
    exact ofSl_at (h.inner i hi')
end
end Go.Proofs.YtmjkobhkkjgplaaGreatDoor
end
section
namespace Go.Proofs.YtmjkobhkkjgplaaGreatDoor
open Go.RowKit
set_option linter.unusedSimpArgs false
set_option linter.unusedVariables false
set_option maxRecDepth 100000
set_option maxHeartbeats 8000000

theorem make0_b (code : Ls (Ls Ins)) (words : Ls Int) (Lk R : Nat) (W : World) (hcode : code.At W) (hwords : words.At W) (hok : OkPg (pgN code words Lk R)) :
    Rets Tryz.prog 30 [.agg #[code.v, words.v, .int .i64 ((Lk : Nat) : Int), .int .i64 ((R : Nat) : Int)], .bool false] W (fun v w' => ∃ (g : Nat) (full : Bool) (sv kv hv bv : Value) (ends : Ls OutL), v = .pointer (some ⟨g, 0, none⟩) ∧ (full = true ↔ Big (pgN code words Lk R) 0) ∧ (full = false → Sorted_ (ends.l.map OutL.out) ∧ ∀ o, o ∈ ends.l.map OutL.out ↔ Outs (pgN code words Lk R) 0 o) ∧ ends.l.length ≤ 70000 ∧ (∀ o ∈ ends.l, ∀ b, Enc.on o b → W.heap.size ≤ b) ∧ Sh0 W w' [.blk g 52 [sv, kv, hv, bv, ends.v, .bool full], .own 39 ends]) := by
 refine gen Tryz.func30 Tryz.ntmps30 (Sh0.ext2 hcode hwords : Sh (fun _ => False) W W [.at_ code, .at_ words]) rfl fun a10 h10 => gG h10<|sK fun _ k11 => gbx rfl rfl fun b12 => gRn (oM 1 rfl<|.nl)<|nK k11<|gK fun _ k13 => sG (oM 1 rfl<|.nl)<|gcF rfl rfl<|gS<|hK k13<|sK fun _ k15 => gRn (olw 0 ti_25 rfl rfl<|.nl)<|fun a17 w17 h17 => wl_ex (x_call h17 bd_26 rfl rfl rfl rfl rfl (by_c code words Lk R 0 _ (h17.sh.at 1 rfl) (h17.sh.at 2 rfl) hok)) (wanted_none rfl _) ?_; clear h10
 rintro a18 w18 ⟨_, ⟨g18, fu18, sv18, kv18, hv18, bv18, en18, rfl, hbg18, hby18, hel18, hnw18, hs18⟩, hf18⟩
 have hsz18 := h17.sh.chg.size
 have h18 := (⟨hf18, h17.sh.call hs18 (by intro A hA b hb; simp only [List.mem_cons, List.not_mem_nil, or_false] at hA; rcases hA with rfl | rfl; exact (hb : False).elim; exact .inl (by obtain ⟨i9, hi9, hb9⟩ := hb; exact hnw18 _ (nth_mem _ _ hi9) b hb9))⟩ : St 10 (fun _ => False) W a18 w18 _ _)
 clear hf18 hs18
 clear h17
 refine gG h18<|gRn (oM 1 rfl<|.nl)<|nK k15<|gR<|fun a19 w19 h19 => ?_; clear h18
 try simp only [Exit.then, Exit.inBlock]
 refine x_ret1 (fn := Tryz.f30) (t := 4) rfl h19 rfl ?_
 exact ⟨g18, fu18, _, _, _, _, en18, rfl, hbg18, hby18, hel18, (fun o ho b hb => Nat.le_trans hsz18 (hnw18 o ho b hb)), (h19.sh.sel [0, 1] rfl)⟩

theorem lfull_c (W : World) :
    Rets Tryz.prog 27 [] W (fun v w' => v = .agg #[.int .i64 10, .int .i64 0, .int .i64 0] ∧ Sh0 W w' []) := by
 refine gen Tryz.func27 Tryz.ntmps27 (Sh0.start _ : Sh (fun _ => False) W W []) rfl fun a10 h10 => gG h10<|sK fun _ k11 => gal ti_28 rfl fun b12 => nK k11<|sK fun _ k13 => gRn (oV (r_build (cs := [.int .i64 10, .int .i64 0, .int .i64 0]) rfl rfl (by kernel_rfl)) rfl<|.nl)<|gsw 0 ti_28 rfl rfl rfl<|nK k13<|gR<|fun a15 w15 h15 => ?_; clear h10
 try simp only [Exit.then, Exit.inBlock]
 refine x_ret1c (fn := Tryz.f27) (t := 0) (i := 0) ti_28 rfl h15 rfl rfl rfl ?_
 exact ⟨rfl, (h15.sh.sel [] rfl)⟩

theorem spaceSC_v (code : Ls (Ls Ins)) (words : Ls Int) (locks regs : Int) (W : World) (hcode : code.At W) (hwords : words.At W) (hv : vastG (code.l.map (·.l)) words.l = true) :
    Rets Tryz.prog 7 [.agg #[code.v, words.v, .int .i64 locks, .int .i64 regs]] W (fun v w' => v = .bool true ∧ Sh0 W w' []) := by
 refine gen Tryz.func7 Tryz.ntmps7 (Sh0.ext2 hcode hwords : Sh (fun _ => False) W W [.at_ code, .at_ words]) rfl fun a10 h10 => gG h10<|sK fun _ k11 => gbx rfl rfl fun b12 => gRn (oM 1 rfl<|.nl)<|nK k11<|gK fun _ k13 => sK fun _ k14 => gRn (olw 0 ti_25 rfl rfl<|.nl)<|gC (fun _ _ h_ => xCl h_ bd_23 rfl (vast_c (code := code) (words := words) (locks := locks) (regs := regs) (h_.sh.at 1 rfl) (h_.sh.at 2 rfl))) rfl<|?_; clear h10
 rintro _ _ w15 ⟨rfl, hs15⟩
 refine gWk hs15 rfl<|gU<|nK k14<|gcT rfl hv<|sG (oM 1 rfl<|.nl)<|gR<|fun a17 w17 h17 => ?_; clear hs15
 try simp only [Exit.then, Exit.inBlock]
 refine x_ret1 (fn := Tryz.f7) (t := 2) rfl h17 rfl ?_
 exact ⟨rfl, (h17.sh.sel [] rfl)⟩

theorem spaceSC_b (code : Ls (Ls Ins)) (words : Ls Int) (locks regs : Int) (W : World) (hcode : code.At W) (hwords : words.At W) (hv : vastG (code.l.map (·.l)) words.l = false) (hz : (checkG (pgOf code words locks regs)).code ≠ 0) :
    Rets Tryz.prog 7 [.agg #[code.v, words.v, .int .i64 locks, .int .i64 regs]] W (fun v w' => v = .bool true ∧ Sh0 W w' []) := by
 refine gen Tryz.func7 Tryz.ntmps7 (Sh0.ext2 hcode hwords : Sh (fun _ => False) W W [.at_ code, .at_ words]) rfl fun a10 h10 => gG h10<|sK fun _ k11 => gbx rfl rfl fun b12 => gRn (oM 1 rfl<|.nl)<|nK k11<|gK fun _ k13 => sK fun _ k14 => gRn (olw 0 ti_25 rfl rfl<|.nl)<|gC (fun _ _ h_ => xCl h_ bd_23 rfl (vast_c (code := code) (words := words) (locks := locks) (regs := regs) (h_.sh.at 1 rfl) (h_.sh.at 2 rfl))) rfl<|?_; clear h10
 rintro _ _ w15 ⟨rfl, hs15⟩
 refine gWk hs15 rfl<|gU<|nK k14<|gcF rfl hv<|gS<|hK k13<|sK fun _ k16 => gRn (olw 0 ti_25 rfl rfl<|.nl)<|gC (fun _ _ h_ => xCl h_ bd_29 rfl (ssc_b code words locks regs _ (h_.sh.at 1 rfl) (h_.sh.at 2 rfl) hz)) rfl<|?_; clear hs15
 rintro _ _ w17 ⟨rfl, hs17⟩
 refine gWk hs17 rfl<|gU<|gRn (oM 1 rfl<|oxt rfl<|oxt rfl<|.nl)<|gal ti_28 rfl fun b18 => gRn (oM 1 rfl<|.nl)<|gsw 0 ti_28 rfl rfl rfl<|nK k16<|sK fun _ k20 => gRn (olw 1 ti_25 rfl rfl<|.nl)<|gC (fun _ _ h_ => xCl h_ bd_25 rfl (refCheck_c (code := code) (words := words) (locks := locks) (regs := regs) (h_.sh.at 2 rfl) (h_.sh.at 3 rfl))) rfl<|?_; clear hs17
 rintro _ _ w21 ⟨rfl, hs21⟩
 refine gWk hs21 rfl<|gU<|gal ti_28 rfl fun b22 => gsw 0 ti_28 rfl rfl rfl<|nK k20<|gK fun _ k24 => sG (ofB fl_28_0 rfl<|olB 0 ti_26 rfl rfl<|oneI _ _ rfl<|.nl)<|gcT rfl (decide_eq_true hz)<|sK fun _ k26 => gNl (fun w h => (Sh.nilAt (α := OutL) h)) fun (hl27 : ([]).length ≤ 140737488355328) => gRn (olw 1 ti_28 rfl rfl<|olw 0 ti_28 rfl rfl<|oV (r_eqS rfl rfl rfl (fun w => eq_fltG _ _ ⟨(checkG (pgOf code words locks regs)).code, (checkG (pgOf code words locks regs)).thread, (checkG (pgOf code words locks regs)).at_⟩ ⟨(checkG (pgOf code words locks regs)).code, (checkG (pgOf code words locks regs)).thread, (checkG (pgOf code words locks regs)).at_⟩ w) (fun w => eq_flt ⟨(checkG (pgOf code words locks regs)).code, (checkG (pgOf code words locks regs)).thread, (checkG (pgOf code words locks regs)).at_⟩ ⟨(checkG (pgOf code words locks regs)).code, (checkG (pgOf code words locks regs)).thread, (checkG (pgOf code words locks regs)).at_⟩ w)) rfl<|oM 1 rfl<|oG (decide_eq_true rfl) (r_move rfl rfl) rfl<|oG (decide_eq_true rfl) (r_len (s := (⟨.slice none 0 0, []⟩ : Ls OutL)) (n := ([]).length) sl_35 rfl rfl (fun w h => (Sh.nilAt (α := OutL) h)) rfl) rfl<|oG (decide_eq_true rfl) (r_eqlN (p := ([]).length) (q := 0) rfl rfl rfl) rfl<|opT (decide_eq_true rfl) rfl<|oM 1 rfl<|.nl)<|nK k26<|gF [2] rfl<|gR<|fun a28 w28 h28 => ?_; clear hs21
 try simp only [Exit.then, Exit.inBlock]
 refine x_ret1 (fn := Tryz.f7) (t := 2) rfl h28 rfl <| ⟨?_, (h28.sh.sel [] rfl)⟩
 first | rfl | exact congrArg _ (decide_eq_true rfl) | exact congrArg _ (decide_eq_true hu0) | exact congrArg _ (decide_eq_true hsame)

theorem spaceSC_k (code : Ls (Ls Ins)) (words : Ls Int) (Lk R : Nat) (W : World) (hcode : code.At W) (hwords : words.At W) (hv : vastG (code.l.map (·.l)) words.l = false) (hok : OkPg (pgN code words Lk R)) (hR : PgR (pgN code words Lk R)) :
    Rets Tryz.prog 7 [.agg #[code.v, words.v, .int .i64 ((Lk : Nat) : Int), .int .i64 ((R : Nat) : Int)]] W (fun v w' => v = .bool true ∧ Sh0 W w' []) := by
 have hz : checkG (pgOf code words ((Lk : Nat) : Int) ((R : Nat) : Int)) = ⟨0, 0, 0⟩ := checkG_ok hok
 refine gen Tryz.func7 Tryz.ntmps7 (Sh0.ext2 hcode hwords : Sh (fun _ => False) W W [.at_ code, .at_ words]) rfl fun a10 h10 => gG h10<|sK fun _ k11 => gbx rfl rfl fun b12 => gRn (oM 1 rfl<|.nl)<|nK k11<|gK fun _ k13 => sK fun _ k14 => gRn (olw 0 ti_25 rfl rfl<|.nl)<|gC (fun _ _ h_ => xCl h_ bd_23 rfl (vast_c (code := code) (words := words) (locks := ((Lk : Nat) : Int)) (regs := ((R : Nat) : Int)) (h_.sh.at 1 rfl) (h_.sh.at 2 rfl))) rfl<|?_; clear h10
 rintro _ _ w15 ⟨rfl, hs15⟩
 refine gWk hs15 rfl<|gU<|nK k14<|gcF rfl hv<|gS<|hK k13<|sK fun _ k16 => gRn (olw 0 ti_25 rfl rfl<|.nl)<|fun a18 w18 h18 => ?_; clear hs15
 refine wl_ex (x_call h18 bd_29 rfl rfl rfl rfl rfl (ssc_k code words Lk R _ (h18.sh.at 1 rfl) (h18.sh.at 2 rfl) hok hR)) (wanted_none rfl _) ?_
 rintro a19 w19 ⟨_, ⟨u19, ok19, rfl, hfu19, hs19⟩, hf19⟩
 have h19 := (⟨hf19, h18.sh.call hs19 (by intro A hA b hb; obtain rfl := List.mem_singleton.1 hA; obtain ⟨i9, hi9, hb9⟩ := hb; exact .inl ((hfu19.nw _ (nth_mem _ _ hi9) b hb9).resolve_left id))⟩ : St 54 (fun _ => False) W a19 w19 _ _)
 have hfr19 := hfu19.up (K' := fun _ => False) (W' := W) (fun b hb => hb.imp id (fun h9 => Nat.le_trans h18.sh.chg.size h9))
 clear hf19 hs19
 clear h18
 refine gG h19<|gRn (oM 1 rfl<|oxt rfl<|oxt rfl<|.nl)<|gal ti_28 rfl fun b20 => gRn (oM 1 rfl<|.nl)<|gsw 0 ti_28 rfl rfl rfl<|nK k16<|sK fun _ k22 => gRn (olw 2 ti_25 rfl rfl<|.nl)<|gC (fun _ _ h_ => xCl h_ bd_25 rfl (refCheck_c (code := code) (words := words) (locks := ((Lk : Nat) : Int)) (regs := ((R : Nat) : Int)) (h_.sh.at 3 rfl) (h_.sh.at 4 rfl))) rfl<|?_; clear h19
 rintro _ _ w23 ⟨rfl, hs23⟩
 refine gWk hs23 rfl<|gU<|gal ti_28 rfl fun b24 => gsw 0 ti_28 rfl rfl rfl<|nK k22<|gK fun _ k26 => sG (ofB fl_28_0 rfl<|olB 0 ti_26 rfl rfl<|oneI _ _ rfl<|.nl)<|gcF rfl (by rw [hz]; rfl)<|gS<|hK k26<|sK fun _ k28 => gRn (olw 3 ti_25 rfl rfl<|.nl)<|fun a30 w30 h30 => ?_; clear hs23
 refine wl_ex (x_call h30 bd_30 rfl rfl rfl rfl rfl (make0_b code words Lk R _ (h30.sh.at 4 rfl) (h30.sh.at 5 rfl) hok)) (wanted_none rfl _) ?_
 rintro a31 w31 ⟨_, ⟨g31, fu31, sv31, kv31, hv31, bv31, en31, rfl, hbg31, hby31, hel31, hnw31, hs31⟩, hf31⟩
 have hsz31 := h30.sh.chg.size
 have h31 := (⟨hf31, h30.sh.call hs31 (by intro A hA b hb; simp only [List.mem_cons, List.not_mem_nil, or_false] at hA; rcases hA with rfl | rfl; exact (hb : False).elim; exact .inl (by obtain ⟨i9, hi9, hb9⟩ := hb; exact hnw31 _ (nth_mem _ _ hi9) b hb9))⟩ : St 54 (fun _ => False) W a31 w31 _ _)
 clear hf31 hs31
 clear h30
 refine gG h31<|gRn (oM 1 rfl<|.nl)<|nK k28<|gK fun _ k32 => sG (oM 1 rfl<|onfl 0 fl_52_5 ti_4 rfl rfl<|.nl)<|?_; clear h31
 refine gCb rfl (fun hb34 => ?_) fun hb34 => ?_
 ·skip
  have hof : ok19 = false := by cases h9 : ok19 with | false => rfl | true => exact absurd ((hbg31).1 hb34) (hfr19.good h9).1
  have hu0 : u19.l.length = 0 := by rw [(hfr19.big hof).2]; rfl
  have e10 : ((if ok19 = true then 0 else 10) : Int) = 10 := by rw [hof]; rfl
  intro a35 w35 h35
  rw [e10] at h35
  refine gG h35<|gK fun _ k36 => fun a37 w37 h37 => x_quiet (by kernel_rfl) (by kernel_rfl) h37 fun _ z38 => qQ h37.fr<|qRn (olw 3 ti_28 rfl rfl<|.nl)<|qP bd_27 rfl (fun w h => (lfull_c _))<|qRn (oV (r_eqS rfl rfl rfl (fun w => eq_fltG _ _ ⟨10, 0, 0⟩ ⟨10, 0, 0⟩ w) (fun w => eq_flt ⟨10, 0, 0⟩ ⟨10, 0, 0⟩ w)) rfl<|oM 1 rfl<|oG (decide_eq_true rfl) (r_move rfl rfl) rfl<|.nl)<|?_; clear h35
  have hl41 : u19.l.length ≤ 140737488355328 := (h37.sh.own 4 rfl).len
  refine qRn (oG (decide_eq_true rfl) (r_len (s := u19) (n := u19.l.length) sl_35 rfl rfl (fun w h => (h.own 4 rfl)) rfl) rfl<|oG (decide_eq_true rfl) (r_eqlN (p := u19.l.length) (q := 0) rfl rfl rfl) rfl<|opT (decide_eq_true rfl) rfl<|oM 1 rfl<|.nl)<|qN z38<|hK k36<|gF [2] rfl<|gR<|fun a43 w43 h43 => ?_; clear h37
  try simp only [Exit.then, Exit.inBlock]
  refine x_ret1 (fn := Tryz.f7) (t := 2) rfl h43 rfl <| ⟨?_, (h43.sh.sel [] rfl)⟩
  first | rfl | exact congrArg _ (decide_eq_true rfl) | exact congrArg _ (decide_eq_true hu0) | exact congrArg _ (decide_eq_true hsame)
 have hof : ok19 = true := by cases h9 : ok19 with | true => rfl | false => exact absurd ((hbg31).2 (hfr19.big h9).1) (by rw [hb34]; decide)
 obtain ⟨_, hso, hou, _⟩ := hfr19.good hof
 obtain ⟨hso2, hou2⟩ := hby31 hb34
 have hsame : u19.l.map OutL.out = en31.l.map OutL.out := same_ends hso hou hso2 hou2 (fun o => Iff.rfl)
 have e10 : ((if ok19 = true then 0 else 10) : Int) = 0 := by rw [hof]; rfl
 intro a44 w44 h44
 rw [e10] at h44
 refine gG h44<|gS<|hK k32<|sK fun _ k45 => gRn (oM 2 rfl<|onfl 0 fl_52_4 ti_35 rfl rfl<|.nl)<|gP (fun _ _ h_ => xCl h_ bd_28 rfl (sameO_c u19 en31 _ (h_.sh.own 4 rfl) (h_.sh.own 1 rfl))) rfl<|gRn (oM 1 rfl<|.nl)<|nK k45<|gF [4, 7] rfl<|sG (ofB fl_28_0 rfl<|olB 3 ti_26 rfl rfl<|oeqN 0 0 rfl<|oM 1 rfl<|oG (by decide) (r_move rfl rfl) rfl<|opT (by decide) rfl<|oM 1 rfl<|.nl)<|gR<|fun a48 w48 h48 => ?_; clear h44
 try simp only [Exit.then, Exit.inBlock]
 refine x_ret1 (fn := Tryz.f7) (t := 2) rfl h48 rfl <| ⟨?_, (h48.sh.sel [] rfl)⟩
 first | rfl | exact congrArg _ (decide_eq_true rfl) | exact congrArg _ (decide_eq_true hu0) | exact congrArg _ (decide_eq_true hsame)

theorem spaceSC_any (code : Ls (Ls Ins)) (words : Ls Int) (locks regs : Int) (W : World) (hcode : code.At W) (hwords : words.At W) (hR : PgR (pgOf code words locks regs)) : Rets Tryz.prog 7 [.agg #[code.v, words.v, .int .i64 locks, .int .i64 regs]] W (fun v w' => v = .bool true ∧ Sh0 W w' []) := by
  cases hv : vastG (code.l.map (·.l)) words.l with
  | true => exact spaceSC_v code words locks regs W hcode hwords hv
  | false =>
    by_cases hok : OkPg (pgOf code words locks regs)
    · obtain ⟨Lk, rfl⟩ := Int.eq_ofNat_of_zero_le hok.locks.1
      obtain ⟨R, rfl⟩ := Int.eq_ofNat_of_zero_le (show 0 ≤ regs by have := hok.regs.1; have e : (pgOf code words (Lk : Int) regs).regs = regs := rfl; omega)
      exact spaceSC_k code words Lk R W hcode hwords hv hok hR
    · exact spaceSC_b code words locks regs W hcode hwords hv (fun h => hok (checkG_code_pos.1 h))
end Go.Proofs.YtmjkobhkkjgplaaGreatDoor
end
namespace Go.Proofs.YtmjkobhkkjgplaaGreatDoor
open Go Go.ChangeShapes Go.WideShapes Go.ChangeAt Go.RowKit
set_option linter.unusedSimpArgs false
set_option linter.unusedVariables false

theorem wf64 {n : Int} (h : (Lit.int .i64 n).wf = true) : R64 n := by
  unfold Lit.wf at h
  simp only [Bool.and_eq_true, decide_eq_true_eq] at h
  have e1 : IntKind.i64.min = -9223372036854775808 := by kernel_rfl
  have e2 : IntKind.i64.max = 9223372036854775807 := by kernel_rfl
  rw [e1, e2] at h
  unfold R64
  omega
theorem pr_fine {pr : PR} (h : pr.fine) : PgR (pgOf (ofSl2 pr.code) (ofSl pr.words) pr.locks pr.regs) := by
  obtain ⟨h1, h2, _, _⟩ := h
  refine ⟨fun c hc i hi => ?_, fun n hn => ?_⟩
  · obtain ⟨l, hl, rfl⟩ := List.mem_map.1 hc
    obtain ⟨s, hs, rfl⟩ := List.mem_map.1 hl
    obtain ⟨k, hk, rfl⟩ := List.mem_iff_getElem.1 hs
    have h3 := h1 k hk
    rw [nth_lt _ _ hk] at h3
    obtain ⟨q, hq, rfl⟩ := List.mem_iff_getElem.1 hi
    have h4 := h3 q hq
    have hq' : q < (pr.code.l[k]).l.length := hq
    rw [nth_lt _ _ hq'] at h4
    exact ⟨wf64 h4.2.1, wf64 h4.2.2.1, wf64 h4.2.2.2⟩
  · obtain ⟨k, hk, rfl⟩ := List.mem_iff_getElem.1 hn
    have hk' : k < pr.words.l.length := hk
    have h3 := h2 k hk'
    rw [nth_lt _ _ hk'] at h3
    exact wf64 h3

theorem door_met (os : Os) (args : Array Value) : laidMetH Tryz.prog Rows.spaceSCRow.laid ((World.doorLaid Tryz.prog 24 os).forCall (fun _ _ => 0) ⟨#[], args, []⟩).memory :=
  laidMetH_of_parts3 (fuel := 8) (laidMet_of_run' 8 (by kernel_rfl) (by kernel_rfl)) (by kernel_rfl) (by kernel_rfl)
set_option maxRecDepth 100000 in
theorem spaceSC_lifted (os : Os) (started : os.Started) (H : Type) (enc : TypeId × Value → H) :
    ReturnsInHanded {} Tryz.checked os 7 .any (fun w args => (Rows.spaceSCSpec.pre enc Tryz.prog Tryz.f7 [] false w args ∧ laidMetH Tryz.prog Rows.spaceSCRow.laid w) ∧ sizedMet enc Tryz.prog Tryz.f7 (OpenSpec.ofChange Rows.spaceSCSpec) false w args) (Rows.spaceSCSpec.post enc Tryz.prog Tryz.f7 false true false false) := by
  refine returnsInHanded_of_change_and (C := Tryz.checked) (X := fun w _ => laidMetH Tryz.prog Rows.spaceSCRow.laid w) (fun _ _ _ hh h => h.of_heap hh) own started (by kernel_rfl) Tryz.func7
    (ChangeSpec.witness_shaped (enc := enc) (C := Tryz.checked) (os := os) (X := fun w _ => laidMetH Tryz.prog Rows.spaceSCRow.laid w) false (World.doorLaid Tryz.prog 24 os) #[.agg #[.slice none 0 0, .slice none 0 0, .int .i64 0, .int .i64 0]] 8 rfl (World.shaped_of_RefB (by kernel_rfl) (by kernel_rfl)) (by kernel_rfl) (by kernel_rfl) (by kernel_rfl) (door_met os _)) ?_
  intro W base args ds gs before hval0 hW _ hsz0 _ _
  have hsz : (DataW.weightsEach Tryz.prog (Tryz.f7.params.toList ++ Rows.spaceSCSpec.plain.varTypes Tryz.prog) (ds ++ gs)).all (· ≤ reachBytes) = true := hsz0
  have hval : ∀ (j : Nat) t v, Tryz.f7.params[j]? = some t → args[j]? = some v → Value.okWide Tryz.prog W .any base t v := hval0
  have hW' := hW
  obtain ⟨p, q, hA0, hV, rfl, hfz, hnd⟩ := hW
  have hA : DataW.TrodAll enc Tryz.prog W 0 (fun _ => true) true Tryz.f7.params.toList args.toList ds p := hA0
  rw [Tryz.params7] at hA hval hsz
  obtain ⟨v0, d0, rfl, rfl, h0⟩ := trodAll_one hA
  obtain ⟨rfl, rfl⟩ := trodVars_none hV
  clear hA0 hval0
  simp only [List.append_nil] at hW'
  have hw0 : ∀ n ∈ DataW.weights Tryz.prog 25 d0, n ≤ reachBytes := by
    intro n hn
    have := List.all_eq_true.1 hsz n (by simp [DataW.weightsEach, hn])
    simpa using this
  obtain ⟨fs, hfs, hpf⟩ := ty_pr
  obtain ⟨pr, rfl, hAt, hfin⟩ := open_PR hfs hpf (by kernel_rfl) (hval 0 25 v0 rfl rfl) h0 hw0
  have hlt : ∀ x ∈ p, x.block < W.heap.size := fun x hx => by simpa using hW'.lt x hx
  have hcall := spaceSC_any (ofSl2 pr.code) (ofSl pr.words) pr.locks pr.regs W (ofSl2_at hAt.code) (ofSl_at hAt.words) (pr_fine hfin)
  refine Calls.mono hcall fun e W' ⟨v', he, hv', hg0⟩ => ?_
  have hg := hg0.chg.to_below
  subst he
  subst hv'
  exact ⟨_, rfl, _, _, _, [], p, [], hW', trodAll_mk1 (shut_bool Tryz.underlying4 true), trodAll_mk1 (Below.trod laidOut (by kernel_rfl) (of_decide_eq_true (by kernel_rfl)) h0 hg hlt), rfl, hg.frame _, fun h => by cases h⟩

theorem spaceSC_said : Rows.SpaceSCSaid :=
  OpenClaim.holds_of_wide 7 Tryz.f7 rfl rfl rfl rfl rfl rfl rfl ⟨rfl, rfl, rfl, rfl, rfl⟩ rfl rfl rfl rfl rfl (by kernel_rfl) Tryz.func7 (by kernel_rfl)
    (of_decide_eq_true (by kernel_rfl)) (by unfold Func.isWrapper; first | (rw [if_pos (by decide +kernel)]; kernel_rfl) | (rw [if_neg (by decide +kernel)]; exact ⟨rfl, rfl⟩))
    (fun os started H enc _ => spaceSC_lifted os started H enc)

theorem spaceSC_holds : Rows.SpaceSCCardSaid :=
  Claim7.holds_tied_plain_at .later [] [.data, .data, .data] true (true, "7156a00dd565ccc5b243c7c66c0e1b87025c3a7a962659fa9eea236c69567f4f") false
    spaceSC_said (fun _ h => by cases h) (by kernel_rfl) (fun _ h => by cases h) spaceSC_row_tie rfl ⟨rfl, rfl⟩ (by kernel_rfl) rfl
    (fun f fn hf hfn => by
      obtain rfl : f = 7 := Option.some.inj ((show Tryz.prog.funcNamed Rows.spaceSCRow.func = some 7 by kernel_rfl).symm.trans hf) |>.symm
      obtain rfl : fn = Tryz.f7 := (Option.some.inj (Tryz.func7.symm.trans hfn)).symm
      exact ⟨by kernel_rfl, fun j t ht => by
        rw [Tryz.params7] at ht
        have h3 : t = 25 := by
          rcases j with _ | j
          · simpa using ht.symm
          · simp at ht
        subst h3
        exact (show Tryz.prog.wantsStandIn 25 = false by kernel_rfl)⟩)
    (by kernel_rfl)
end Go.Proofs.YtmjkobhkkjgplaaGreatDoor
