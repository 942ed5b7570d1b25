/- Whatever a script makes of a program is one of the outcomes that are told, without and with stores that wait, and each outcome without is one with; for every program and every script: the statement holds, under no condition. -/
import Derived.Test.YtmjkobhkkjgplaaGreatDoorQ4
import Derived.ProofKit
import Derived.OpenShut
import Derived.Deep.Slices
import Derived.Carry
import Derived.SizedLaws
import Derived.Test.YtmjkobhkkjgplaaGreatDoorCards
import Derived.Test.YtmjkobhkkjgplaaGreatDoorTie
import Derived.LaidLaws
import Derived.LaidHandle
import Derived.LaidMore
import Derived.Handed
import Derived.SevenTiedAt
namespace Go.Proofs.YtmjkobhkkjgplaaGreatDoor
open Go.RowKit
set_option linter.unusedSimpArgs false
set_option linter.unusedVariables false
set_option maxRecDepth 100000
set_option maxHeartbeats 20000000
theorem snocQ {Q:Nat→Prop}{k:Nat}(h:∀j,j<k→Q j)(hk:Q k):∀j,j<k+1→Q j:=fun j hj=>by
 rcases Nat.lt_or_ge j k with h1|h1
 ·exact h j h1
 ·obtain rfl:j=k:=by omega
  exact hk
theorem eqO_yes {a b:OutL}(h:eqO a b=true):a.out=b.out:=of_decide_eq_true h
theorem outs_eq {a b:List OutL}{k:Nat}(hl:a.length=b.length)(hk:k=a.length)(h:∀j,j<k→(nth a j).out=(nth b j).out):a.map OutL.out=b.map OutL.out:=by
 apply List.ext_getElem (by simpa using hl)
 intro i h1 h2
 have h3:i<a.length:=by simpa using h1
 have h4:i<b.length:=by simpa using h2
 have:=h i (by omega)
 rw [nth_lt a i h3,nth_lt b i h4] at this
 simpa using this
theorem outs_ne {a b:List OutL}{k:Nat}(hk:k<a.length)(hb:k<b.length)(h:eqO (nth a k) (nth b k)=false):¬a.map OutL.out=b.map OutL.out:=fun e=>by
 have h1:=congrArg (fun l=>l[k]?) e
 simp only [List.getElem?_map,List.getElem?_eq_getElem hk,List.getElem?_eq_getElem hb,Option.map_some,Option.some.injEq] at h1
 rw [nth_lt a k hk,nth_lt b k hb] at h
 exact of_decide_eq_false h h1
theorem outs_len {a b:List OutL}(h:a.length≠b.length):¬a.map OutL.out=b.map OutL.out:=fun e=>h (by have:=congrArg List.length e;simpa using this)
structure RobF (p:Pg)(rb rk:Bool):Prop where
 yes:rk=true→¬Big p 0∧¬Big p 1∧(rb=true↔∀o,Outs p 0 o↔Outs p 1 o)
 no:rk=false→(Big p 0∨Big p 1)∧rb=false
theorem rob_0 {p:Pg}{u:Ls OutL}{W:World}{K:Nat→Prop}(h:FRes p 0 (fun (_:Unit) _=>()) () K W false u ()):RobF p false false:=⟨fun h=>(by cases h),fun _=>⟨.inl (h.big rfl).1,rfl⟩⟩
theorem rob_1 {p:Pg}{u v:Ls OutL}{W:World}{K:Nat→Prop}(h:FRes p 0 (fun (_:Unit) _=>()) () K W true u ())(h2:FRes p 1 (fun (_:Unit) _=>()) () K W false v ()):RobF p false false:=⟨fun h=>(by cases h),fun _=>⟨.inr (h2.big rfl).1,rfl⟩⟩
theorem rob_2 {p:Pg}{u v:Ls OutL}{W:World}{K:Nat→Prop}(h:FRes p 0 (fun (_:Unit) _=>()) () K W true u ())(h2:FRes p 1 (fun (_:Unit) _=>()) () K W true v ()):RobF p (decide (u.l.map OutL.out=v.l.map OutL.out)) true:=by
 obtain ⟨a1,a2,a3,_⟩:=h.good rfl
 obtain ⟨b1,b2,b3,_⟩:=h2.good rfl
 refine ⟨fun _=>⟨a1,b1,fun e o=> ?_,fun e=> ?_⟩,fun h=>(by cases h)⟩
 ·rw [←a3,←b3,of_decide_eq_true e]
 ·exact decide_eq_true (sorted_ext a2 b2 fun o=>(a3 o).trans ((e o).trans (b3 o).symm))
theorem cd_ok {b:Bool}(h:¬((if b=true then (0:Int) else 10)≠0)):b=true:=by cases b<;>simp at h⊢
theorem cd_no {b:Bool}(h:(if b=true then (0:Int) else 10)≠0):b=false:=by cases b<;>simp at h⊢
theorem cd_eq {b:Bool} :decide ((if b=true then (0:Int) else 10)=0)=b:=by cases b<;>rfl
theorem walkt_c (K:Nat→Prop)(ζ:Type)(env:ζ→Asn)(stepE:ζ→MSt→ζ)(z0:ζ)(fe:FuncId)(us ws:List Value)(code:Ls (Ls Ins))(words0:Ls Int)(Lk R:Nat)(W:World)(hS:Sh K W W [.at_ code, .at_ words0,env z0])(hok:OkPg (pgN code words0 Lk R))(hR:PgR (pgN code words0 Lk R))(hbe:bodyI Tryz.prog fe=true)(hEr:∀z b,¬(env z).rd b)(hE:∀(K' :Nat→Prop) (W' :World) (gp:Nat) (x:PSD FT) (z:ζ),PX code words0 Lk R x→x.gp=gp→Sh K' W' W' [env z, .rd1 x, .rblk gp 25 [code.v,words0.v, .int .i64 ((Lk:Nat):Int), .int .i64 ((R:Nat):Int)], .at_ code]→Rets Tryz.prog fe (us++ [.pointer (some ⟨x.g,0,none⟩)]++ws) W' (fun v w' =>v= .tuple #[]∧Sh K' W' w' [env (stepE z x.st), .rd1 x, .rblk gp 25 [code.v,words0.v, .int .i64 ((Lk:Nat):Int), .int .i64 ((R:Nat):Int)], .at_ code])):
    Rets Tryz.prog 49 [.agg #[code.v,words0.v, .int .i64 ((Lk:Nat):Int), .int .i64 ((R:Nat):Int)], .bool true, .func (.func fe) us.toArray ws.toArray] W (fun v w' =>∃(u:Ls OutL) (ok:Bool) (z:ζ),v= .tuple #[u.v, .bool ok]∧FRes (pgN code words0 Lk R) 1 stepE z0 K W ok u z∧Sh K W w' [.own 39 u,env z]):=by
 obtain ⟨hl1,hcl,hwn,hlk,hR2⟩:=ok_lenP hok
 refine gen Tryz.func49 Tryz.ntmps49 hS rfl fun a10 h10=>gG h10<|sK fun _ k11=>gbx rfl rfl fun b12=>gRn (oM 2 rfl<|.nl)<|nK k11<|gK fun _ k13=>sG (oM 1 rfl<|.nl)<|gcT rfl rfl<|gK fun _ k15=>gF [0,1,2,3,8] rfl<|fun a17 w17 h17=>x_any ((fun Φ Ψ S a w=>(S 2=false∧S 5=false∧FrI 25 S Φ Ψ a∧Sh K W w [.blk b12 25 [code.v,words0.v, .int .i64 ((Lk:Nat):Int), .int .i64 ((R:Nat):Int)], .at_ code, .at_ words0,env z0])∨(S 2=true∧S 5=false∧∃(gt7002:Nat) (g7002:Nat) (mw7002:Ls Int) (mo7002:Ls Int) (q7002:Ls (Ls Wt)),(mw7002.l=words0.l)∧(mo7002.l=List.replicate Lk (-1))∧((memT gt7002 g7002).qs q7002=List.replicate code.l.length [])∧FrI 25 S Φ (Ψ++ [(2,11, .pointer (some ⟨gt7002,0,none⟩)),(3,12, .iface (memT gt7002 g7002).T (.pointer (some (memT gt7002 g7002).u)))]) a∧Sh K W w [.blk g7002 182 [mw7002.v,mo7002.v], .own 3 mw7002, .own 3 mo7002,(memT gt7002 g7002).X q7002, .blk b12 25 [code.v,words0.v, .int .i64 ((Lk:Nat):Int), .int .i64 ((R:Nat):Int)], .at_ code, .at_ words0,env z0])∨(S 2=true∧S 5=true∧∃(gt7002:Nat) (g7002:Nat) (mw7002:Ls Int) (mo7002:Ls Int) (q7002:Ls (Ls Wt)) (u7005:Ls OutL) (ok7005:Bool) (z7005:ζ),(mw7002.l=words0.l)∧(mo7002.l=List.replicate Lk (-1))∧((memT gt7002 g7002).qs q7002=List.replicate code.l.length [])∧(FRes (pgN code words0 Lk R) 1 stepE z0 K W ok7005 u7005 z7005)∧FrI 25 S Φ (Ψ++ [(2,11, .pointer (some ⟨gt7002,0,none⟩)),(3,12, .iface (memT gt7002 g7002).T (.pointer (some (memT gt7002 g7002).u))),(5,14, .tuple #[u7005.v, .bool ok7005]),(6,15,u7005.v),(7,16, .bool ok7005),(8,6,u7005.v),(9,7, .bool ok7005)]) a∧Sh K W w [.own 39 u7005,env z7005, .blk b12 25 [code.v,words0.v, .int .i64 ((Lk:Nat):Int), .int .i64 ((R:Nat):Int)], .at_ words0])) [(0, .agg #[code.v,words0.v, .int .i64 ((Lk:Nat):Int), .int .i64 ((R:Nat):Int)]),(1, .bool true),(2, .func (.func fe) us.toArray ws.toArray),(3, .pointer (some ⟨b12,0,none⟩)),(8, .bool true)] [(0,9, .agg #[code.v,words0.v, .int .i64 ((Lk:Nat):Int), .int .i64 ((R:Nat):Int)]),(1,10, .agg #[code.v,words0.v, .int .i64 ((Lk:Nat):Int), .int .i64 ((R:Nat):Int)]),(4,13, .func (.func fe) us.toArray ws.toArray)]) (by kernel_rfl) (by kernel_rfl) (Or.inl (⟨rfl,rfl,FrI.start h17.fr,h17.sh.drew⟩)) ?_ ?_;clear h10
 ·intro S i o ho hSi hcl hdep a w hI
  clear h17
  rcases i with _|_|_|_|_|_|_|_|_|_|i
  ·obtain rfl:_=o:=Option.some.inj ho
   rcases hI with ⟨ν2,ν5,φ,ς⟩|⟨ν2,ν5,gt7002,g7002,mw7002,mo7002,q7002,hmw7002,hmo7002,hq7002,φ,ς⟩|⟨_,ν5,_⟩
   ·exact sq φ φ.fr0 ς (r_ldbw (i:=0) (vs:= [code.v,words0.v, .int .i64 ((Lk:Nat):Int), .int .i64 ((R:Nat):Int)]) ti_25 rfl rfl rfl rfl rfl) 0 rfl rfl rfl rfl rfl rfl fun a hg=>Or.inl (⟨un rfl ν2,un rfl ν5,hg,ς⟩)
   ·exact sq φ φ.fr0 ς (r_ldbw (i:=4) (vs:= [code.v,words0.v, .int .i64 ((Lk:Nat):Int), .int .i64 ((R:Nat):Int)]) ti_25 rfl rfl rfl rfl rfl) 0 rfl rfl rfl rfl rfl rfl fun a hg=>Or.inr (Or.inl (⟨un rfl ν2,un rfl ν5,gt7002,g7002,mw7002,mo7002,q7002,hmw7002,hmo7002,hq7002,hg,ς⟩))
   ·exact no_way (cA hcl 5 0 rfl ν5) hSi
  ·obtain rfl:_=o:=Option.some.inj ho
   rcases hI with ⟨ν2,ν5,φ,ς⟩|⟨ν2,_⟩|⟨ν2,_⟩
   ·exact sq φ φ.fr0 ς (r_ldbw (i:=0) (vs:= [code.v,words0.v, .int .i64 ((Lk:Nat):Int), .int .i64 ((R:Nat):Int)]) ti_25 rfl rfl rfl rfl rfl) 1 rfl rfl rfl rfl rfl rfl fun a hg=>Or.inl (⟨un rfl ν2,un rfl ν5,hg,ς⟩)
   ·exact no_way (cA hcl 2 1 rfl ν2) hSi
   ·exact no_way (cA hcl 2 1 rfl ν2) hSi
  ·obtain rfl:_=o:=Option.some.inj ho
   have hd1:S 1=true:=depAt hdep 0 rfl rfl
   rcases hI with ⟨ν2,ν5,φ,ς⟩|⟨ν2,_⟩|⟨ν2,_⟩
   ·have hs:=St.mk (Fr.cons φ.fr0 (φ.at_ 1 1 10 _ rfl hd1)) ς
    refine step_ex (x_call hs bd_82 rfl rfl rfl rfl rfl (tnew_c code words0 Lk ((R:Nat):Int) _ (hs.sh.at 1 rfl) (hs.sh.at 2 rfl) (by omega) hwn hlk)) (wanted_none rfl _) ?_
    rintro a24 w24 ⟨_,⟨gt24,g24,mw24,mo24,q24,rfl,hmw24,hmo24,hq24,hs24⟩,hf24⟩ ⟨v0,ht24⟩
    have h24:=(⟨hf24,hs.sh.call hs24 (by intro A hA b hb;simp only [memA,List.mem_cons,List.not_mem_nil,or_false] at hA;first|(subst hA;exact Flat.noRd hb)|(rcases hA with rfl|rfl|rfl|rfl<;>first|exact (hb:False).elim|exact Flat.noRd hb|exact (memT_rd hb).elim))⟩:St 25 K W a24 w24 _ _)
    clear hf24 hs24
    exact Or.inr (Or.inl (⟨upd_self _ _,un rfl ν5,gt24,g24,mw24,mo24,q24,hmw24,hmo24,hq24,φ.stepW hcl hSi [0,1,2] (by kernel_rfl) (by kernel_rfl) ht24 h24.fr.defers (h24.fr.at_ 11 _ rfl) 3 rfl rfl rfl rfl,(h24.sh.sel [0,1,2,3,4,5,6,7] rfl)⟩))
   ·exact no_way ν2 hSi
   ·exact no_way ν2 hSi
  ·obtain rfl:_=o:=Option.some.inj ho
   have hd2:S 2=true:=depAt hdep 0 rfl rfl
   rcases hI with ⟨ν2,_⟩|⟨ν2,ν5,gt7002,g7002,mw7002,mo7002,q7002,hmw7002,hmo7002,hq7002,φ,ς⟩|⟨_,ν5,_⟩
   ·exact no_way hd2 ν2
   ·exact sq φ (Fr.cons φ.fr0 (φ.at_ 3 2 11 _ rfl hd2)) ς (Rn.same (r_mkIfP (T:=125) Tryz.underlying125 rfl rfl) rfl) 4 rfl rfl rfl rfl rfl rfl fun a hg=>Or.inr (Or.inl (⟨un rfl ν2,un rfl ν5,gt7002,g7002,mw7002,mo7002,q7002,hmw7002,hmo7002,hq7002,hg,ς⟩))
   ·exact no_way (cA hcl 5 3 rfl ν5) hSi
  ·obtain rfl:_=o:=Option.some.inj ho
   rcases hI with ⟨ν2,ν5,φ,ς⟩|⟨ν2,ν5,gt7002,g7002,mw7002,mo7002,q7002,hmw7002,hmo7002,hq7002,φ,ς⟩|⟨_,ν5,_⟩
   ·exact sq φ φ.fr0 ς (r_move rfl rfl) 2 rfl rfl rfl rfl rfl rfl fun a hg=>Or.inl (⟨un rfl ν2,un rfl ν5,hg,ς⟩)
   ·exact sq φ φ.fr0 ς (r_move rfl rfl) 2 rfl rfl rfl rfl rfl rfl fun a hg=>Or.inr (Or.inl (⟨un rfl ν2,un rfl ν5,gt7002,g7002,mw7002,mo7002,q7002,hmw7002,hmo7002,hq7002,hg,ς⟩))
   ·exact no_way (cA hcl 5 4 rfl ν5) hSi
  ·obtain rfl:_=o:=Option.some.inj ho
   have hd0:S 0=true:=depAt hdep 0 rfl rfl
   have hd3:S 3=true:=depAt hdep 1 rfl rfl
   have hd4:S 4=true:=depAt hdep 2 rfl rfl
   have hd2:S 2=true:=depAt hdep 3 rfl rfl
   rcases hI with ⟨ν2,_⟩|⟨ν2,ν5,gt7002,g7002,mw7002,mo7002,q7002,hmw7002,hmo7002,hq7002,φ,ς⟩|⟨_,ν5,_⟩
   ·exact no_way hd2 ν2
   ·have hs:=St.mk (Fr.cons (Fr.cons (Fr.cons φ.fr0 (φ.at_ 0 0 9 _ rfl hd0)) (φ.at_ 4 3 12 _ rfl hd3)) (φ.at_ 2 4 13 _ rfl hd4)) ς
    have h28:=hs.sel (L' := [_,_,_,_,_,_,_,_]) [0,1,2,3,5,7,4,6] rfl
    have hp29:=h28.sh.passL (Lp:= [_,_,_,_,_,_])
    refine step_ex (x_call h28 bd_61 rfl rfl rfl rfl rfl (from_c2 _ FT ζ env stepE z0 fe us ws (gt7002,g7002) q7002 code words0 mw7002 mo7002 _ Lk R _ FT_ok hp29 hok hR hq7002 hmw7002 hmo7002 hbe hEr hE)) (wanted_none rfl _) ?_
    rintro a30 w30 ⟨_,⟨u30,ok30,z30,rfl,hfq30,hs30⟩,hf30⟩ ⟨v0,ht30⟩
    have hfr30:=hfq30.up (K' :=K) (W' :=W) (fun b hb=>h28.sh.mineL (Lp:= [.blk g7002 182 [mw7002.v,mo7002.v], .own 3 mw7002, .own 3 mo7002,(memT gt7002 g7002).X q7002, .at_ code,env z0]) hb)
    have h30:St 25 K W a30 w30 _ [_,_,_,_]:=⟨hf30,h28.sh.backL (Lp:= [_,_,_,_,_,_]) hs30 (by intro A hA b hb;simp only [List.mem_cons,List.not_mem_nil,or_false] at hA;rcases hA with rfl|rfl<;>first|exact (hb:False).elim|exact Flat.noRd hb|exact .inl ⟨_,List.mem_cons_self .., .inr hb⟩|exact (hEr _ _ hb).elim|(obtain ⟨i9,hi9,hb9⟩:=hb;exact (hfq30.nw _ (nth_mem _ _ hi9) _ hb9).elim (fun ⟨A9,hA9,hf9⟩=> .inl ⟨A9,hA9, .inl hf9⟩) (fun h9=> .inr (.inr h9)))|exact .inl ⟨_,by simp, .inr hb⟩)⟩
    clear hf30 hs30
    exact Or.inr (Or.inr (⟨un rfl ν2,upd_self _ _,gt7002,g7002,mw7002,mo7002,q7002,u30,ok30,z30,hmw7002,hmo7002,hq7002,hfr30,φ.stepW hcl hSi [0,1,2,3,4] (by kernel_rfl) (by kernel_rfl) ht30 h30.fr.defers (h30.fr.at_ 14 _ rfl) 5 rfl rfl rfl rfl,(h30.sh.sel [0,1,2,3] rfl)⟩))
   ·exact no_way ν5 hSi
  ·obtain rfl:_=o:=Option.some.inj ho
   have hd5:S 5=true:=depAt hdep 0 rfl rfl
   rcases hI with ⟨ν2,_⟩|⟨_,ν5,_⟩|⟨ν2,ν5,gt7002,g7002,mw7002,mo7002,q7002,u7005,ok7005,z7005,hmw7002,hmo7002,hq7002,hfr7005,φ,ς⟩
   ·exact no_way (cA hcl 5 2 rfl hd5) ν2
   ·exact no_way hd5 ν5
   ·exact sq φ (Fr.cons φ.fr0 (φ.at_ 5 5 14 _ rfl hd5)) ς (r_extract rfl rfl rfl) 6 rfl rfl rfl rfl rfl rfl fun a hg=>Or.inr (Or.inr (⟨un rfl ν2,un rfl ν5,gt7002,g7002,mw7002,mo7002,q7002,u7005,ok7005,z7005,hmw7002,hmo7002,hq7002,hfr7005,hg,ς⟩))
  ·obtain rfl:_=o:=Option.some.inj ho
   have hd5:S 5=true:=depAt hdep 0 rfl rfl
   rcases hI with ⟨ν2,_⟩|⟨_,ν5,_⟩|⟨ν2,ν5,gt7002,g7002,mw7002,mo7002,q7002,u7005,ok7005,z7005,hmw7002,hmo7002,hq7002,hfr7005,φ,ς⟩
   ·exact no_way (cA hcl 5 2 rfl hd5) ν2
   ·exact no_way hd5 ν5
   ·exact sq φ (Fr.cons φ.fr0 (φ.at_ 5 5 14 _ rfl hd5)) ς (r_extract rfl rfl rfl) 7 rfl rfl rfl rfl rfl rfl fun a hg=>Or.inr (Or.inr (⟨un rfl ν2,un rfl ν5,gt7002,g7002,mw7002,mo7002,q7002,u7005,ok7005,z7005,hmw7002,hmo7002,hq7002,hfr7005,hg,ς⟩))
  ·obtain rfl:_=o:=Option.some.inj ho
   have hd6:S 6=true:=depAt hdep 0 rfl rfl
   have hd5:S 5=true:=depAt hdep 1 rfl rfl
   have hd2:S 2=true:=depAt hdep 4 rfl rfl
   rcases hI with ⟨ν2,_⟩|⟨_,ν5,_⟩|⟨ν2,ν5,gt7002,g7002,mw7002,mo7002,q7002,u7005,ok7005,z7005,hmw7002,hmo7002,hq7002,hfr7005,φ,ς⟩
   ·exact no_way hd2 ν2
   ·exact no_way hd5 ν5
   ·exact sq φ (Fr.cons φ.fr0 (φ.at_ 6 6 15 _ rfl hd6)) ς (r_assign rfl rfl) 8 rfl rfl rfl rfl rfl rfl fun a hg=>Or.inr (Or.inr (⟨un rfl ν2,un rfl ν5,gt7002,g7002,mw7002,mo7002,q7002,u7005,ok7005,z7005,hmw7002,hmo7002,hq7002,hfr7005,hg,ς⟩))
  ·obtain rfl:_=o:=Option.some.inj ho
   have hd7:S 7=true:=depAt hdep 0 rfl rfl
   have hd2:S 2=true:=depAt hdep 4 rfl rfl
   have hd5:S 5=true:=depAt hdep 7 rfl rfl
   rcases hI with ⟨ν2,_⟩|⟨_,ν5,_⟩|⟨ν2,ν5,gt7002,g7002,mw7002,mo7002,q7002,u7005,ok7005,z7005,hmw7002,hmo7002,hq7002,hfr7005,φ,ς⟩
   ·exact no_way hd2 ν2
   ·exact no_way hd5 ν5
   ·exact sq φ (Fr.cons φ.fr0 (φ.at_ 7 7 16 _ rfl hd7)) ς (r_assign rfl rfl) 9 rfl rfl rfl rfl rfl rfl fun a hg=>Or.inr (Or.inr (⟨un rfl ν2,un rfl ν5,gt7002,g7002,mw7002,mo7002,q7002,u7005,ok7005,z7005,hmw7002,hmo7002,hq7002,hfr7005,hg,ς⟩))
  · simp at ho
 intro S hall a w hI
 clear h17
 rcases hI with ⟨ν2,ν5,φ,ς⟩|⟨ν2,ν5,gt7002,g7002,mw7002,mo7002,q7002,hmw7002,hmo7002,hq7002,φ,ς⟩|⟨ν2,ν5,gt7002,g7002,mw7002,mo7002,q7002,u7005,ok7005,z7005,hmw7002,hmo7002,hq7002,hfr7005,φ,ς⟩
 · exact no_way (hall 2 (by decide)) ν2
 · exact no_way (hall 5 (by decide)) ν5
 have h35:St 25 K W a w _ _:=⟨(Fr.cons (Fr.cons φ.fr0 (φ.at_ 8 8 6 _ rfl (hall 8 (by decide)))) (φ.at_ 9 9 7 _ rfl (hall 9 (by decide)))),ς⟩
 clear hall φ ς ν2 ν5
 refine gG h35<|hK k15<|gR<|uT<|fun a36 w36 h36=>x_ret2 (fn:=Tryz.f49) (t:=6) (u:=7) rfl h36 rfl rfl ?_;clear h35
 exact ⟨u7005,ok7005,z7005,rfl,hfr7005,(h36.sh.sel [0,1] rfl)⟩
theorem oft_c (code:Ls (Ls Ins))(words0:Ls Int)(Lk R:Nat)(W:World)(hcode:code.At W)(hwords:words0.At W)(hok:OkPg (pgN code words0 Lk R))(hR:PgR (pgN code words0 Lk R)):
    Rets Tryz.prog 83 [.agg #[code.v,words0.v, .int .i64 ((Lk:Nat):Int), .int .i64 ((R:Nat):Int)], .bool true] W (fun v w' =>∃(u:Ls OutL) (ok:Bool),v= .tuple #[u.v, .bool ok]∧FRes (pgN code words0 Lk R) 1 (fun (_:Unit) _=>()) () (fun _=>False) W ok u ()∧Sh0 W w' [.own 39 u]):=by
 refine gen Tryz.func83 Tryz.ntmps83 (Sh0.ext2 hcode hwords:Sh (fun _=>False) W W [.at_ code, .at_ words0]) rfl fun a10 h10=>gG h10<|sK fun _ k11=>gbx rfl rfl fun b12=>gRn (oM 2 rfl<|.nl)<|nK k11<|sK fun _ k13=>gRn (olw 0 ti_25 rfl rfl<|oM 1 rfl<|.nl)<|fun a15 w15 h15=> ?_;clear h10
 have h14:St _ _ _ _ _ _ _:=⟨h15.fr,h15.sh.emp⟩
 clear h15
 have hsz9:=h14.sh.chg.size
 have h19:=h14.sel (L' := [_,_,_,_]) [2,3,0,1] rfl
 have hp20:=h19.sh.passL (Lp:= [_,_,_])
 refine wl_ex (x_call h19 bd_49 rfl rfl rfl rfl rfl (walkt_c _ Unit (fun _=>Asn.emp) (fun _ _=>()) () 125 [] [] code words0 Lk R _ hp20 hok hR bd_125 (fun _ _ h=>h) (fun K' W' gp x z _ _ h9=>Rets.mono (of1_c x.g W') fun v w' h8=>⟨h8.1,h9.call0 h8.2⟩))) (wanted_none rfl _) ?_
 rintro a21 w21 ⟨_,⟨u21,ok21,z21,rfl,hfq21,hs21⟩,hf21⟩
 have h21:St 11 (fun _=>False) W a21 w21 _ [_,_,_]:=⟨hf21,h19.sh.backL (Lp:= [_,_,_]) hs21 (by intro A hA b hb;simp only [List.mem_cons,List.not_mem_nil,or_false] at hA;rcases hA with rfl|rfl<;>first|exact (hb:False).elim|exact Flat.noRd hb|exact .inl ⟨_,List.mem_cons_self .., .inr hb⟩|(obtain ⟨i9,hi9,hb9⟩:=hb;exact (hfq21.nw _ (nth_mem _ _ hi9) _ hb9).elim (fun ⟨A9,hA9,hf9⟩=> .inl ⟨A9,hA9, .inl hf9⟩) (fun h9=> .inr (.inr h9)))|exact .inl ⟨_,by simp, .inr hb⟩)⟩
 clear hf21 hs21
 clear h19
 refine gG h21<|gRn (oxt rfl<|oxt rfl<|oM 2 rfl<|.nl)<|nK k13<|gR<|fun a22 w22 h22=>x_ret2 (fn:=Tryz.f83) (t:=4) (u:=5) rfl h22 rfl rfl ?_;clear h21
 exact ⟨u21,ok21,rfl,hfq21.up (fun b hb=>hb.elim (fun ⟨A9,hA9,hf9⟩=>by simp only [List.mem_cons,List.not_mem_nil,or_false] at hA9;rcases hA9 with rfl|rfl|rfl<;>exact (hf9:False).elim) (fun h9=> .inr (Nat.le_trans hsz9 h9))),(h22.sh.sel [0] rfl)⟩
theorem askedt_k (code:Ls (Ls Ins))(words0:Ls Int)(Lk R:Nat)(W:World)(hcode:code.At W)(hwords:words0.At W)(hok:OkPg (pgN code words0 Lk R))(hR:PgR (pgN code words0 Lk R)):
    Rets Tryz.prog 47 [.agg #[code.v,words0.v, .int .i64 ((Lk:Nat):Int), .int .i64 ((R:Nat):Int)], .bool true] W (fun v w' =>∃(u:Ls OutL) (ok:Bool),v= .tuple #[u.v, .agg #[.int .i64 (if ok=true then 0 else 10), .int .i64 0, .int .i64 0]]∧FRes (pgN code words0 Lk R) 1 (fun (_:Unit) _=>()) () (fun _=>False) W ok u ()∧Sh0 W w' [.own 39 u]):=by
 have hz:checkG (pgOf code words0 ((Lk:Nat):Int) ((R:Nat):Int))=⟨0,0,0⟩:=checkG_ok hok
 refine gen Tryz.func47 Tryz.ntmps47 (Sh0.ext2 hcode hwords:Sh (fun _=>False) W W [.at_ code, .at_ words0]) rfl fun a10 h10=>gG h10<|sK fun _ k11=>gbx rfl rfl fun b12=>gRn (oM 1 rfl<|.nl)<|gal ti_28 rfl fun b13=>nK k11<|gK fun _ k14=>sK fun _ k15=>gRn (olw 1 ti_25 rfl rfl<|.nl)<|gC (fun _ _ h_=>xCl h_ bd_43 rfl (asmCheck_c (code:=code) (words:=words0) (locks:=((Lk:Nat):Int)) (regs:=((R:Nat):Int)) (h_.sh.at 2 rfl) (h_.sh.at 3 rfl))) rfl<|?_;clear h10
 rintro _ _ w16 ⟨rfl,hs16⟩
 refine gWk hs16 rfl<|gU<|gal ti_28 rfl fun b17=>gsw 0 ti_28 rfl rfl rfl<|nK k15<|sG (ofB fl_28_0 rfl<|olB 0 ti_26 rfl rfl<|oneI _ _ rfl<|.nl)<|gcF rfl (by rw [hz];rfl)<|gS<|hK k14<|sK fun _ k20=>gRn (olw 2 ti_25 rfl rfl<|oM 1 rfl<|.nl)<|fun a22 w22 h22=> ?_;clear hs16
 refine wl_ex (x_call h22 bd_83 rfl rfl rfl rfl rfl (oft_c code words0 Lk R _ (h22.sh.at 3 rfl) (h22.sh.at 4 rfl) hok hR)) (wanted_none rfl _) ?_
 rintro a23 w23 ⟨_,⟨u23,ok23,rfl,hfu23,hs23⟩,hf23⟩
 have h23:=(⟨hf23,h22.sh.call hs23 (by intro A hA b hb;obtain rfl:=List.mem_singleton.1 hA;obtain ⟨i9,hi9,hb9⟩:=hb;exact .inl ((hfu23.nw _ (nth_mem _ _ hi9) b hb9).resolve_left id))⟩:St 26 (fun _=>False) W a23 w23 _ _)
 have hfr23:=hfu23.up (K' :=fun _=>False) (W' :=W) (fun b hb=>hb.imp id (fun h9=>Nat.le_trans h22.sh.chg.size h9))
 clear hf23 hs23
 clear h22
 refine gG h23<|gRn (oM 1 rfl<|oxt rfl<|oxt rfl<|oM 2 rfl<|.nl)<|nK k20<|gK fun _ k24=>sG (oM 1 rfl<|ont rfl<|.nl)<|?_;clear h23
 refine gCb rfl (fun hb26=> ?_) fun hb26=> ?_
 ·have hn26:ok23=false:=(Bool.not_eq_true' _).mp hb26
  refine sK fun _ k27=>gRn (oV (r_build (cs:= [.int .i64 10, .int .i64 0, .int .i64 0]) rfl rfl (by kernel_rfl)) rfl<|oM 1 rfl<|.nl)<|gsw 2 ti_28 rfl rfl rfl<|nK k27<|gR<|uT<|fun a29 w29 h29=>x_rettc (fn:=Tryz.f47) (t:=5) (u:=4) (i:=2) ti_28 rfl h29 rfl rfl rfl rfl ?_
  have h30:=h29.nil (α:=OutL) 39
  clear h29
  have hof:ok23=false:=by simpa using hn26
  exact ⟨⟨.slice none 0 0, []⟩,false,rfl,FRes.nilU (u:=u23) (hof▸hfr23),(h30.sh.sel [0] rfl)⟩
 have hn26:ok23=true:=(Bool.not_eq_false' _).mp hb26
 refine gS<|hK k24<|sK fun _ k31=>gRn (oM 1 rfl<|oV (r_build (cs:= [.int .i64 0, .int .i64 0, .int .i64 0]) rfl rfl (by kernel_rfl)) rfl<|oM 1 rfl<|.nl)<|gsw 2 ti_28 rfl rfl rfl<|nK k31<|gR<|fun a33 w33 h33=>x_rettc (fn:=Tryz.f47) (t:=5) (u:=4) (i:=2) ti_28 rfl h33 rfl rfl rfl rfl ?_
 have hof:ok23=true:=by simpa using hn26
 exact ⟨u23,true,rfl,hof▸hfr23,(h33.sh.sel [0] rfl)⟩
theorem askedt_b (code:Ls (Ls Ins))(words:Ls Int)(locks regs:Int)(W:World)(hcode:code.At W)(hwords:words.At W)(hz:(checkG (pgOf code words locks regs)).code≠0):
    Rets Tryz.prog 47 [.agg #[code.v,words.v, .int .i64 locks, .int .i64 regs], .bool true] W (fun v w' =>v= .tuple #[.slice none 0 0,(checkG (pgOf code words locks regs)).val]∧Sh0 W w' []):=by
 refine gen Tryz.func47 Tryz.ntmps47 (Sh0.ext2 hcode hwords:Sh (fun _=>False) W W [.at_ code, .at_ words]) rfl fun a10 h10=>gG h10<|sK fun _ k11=>gbx rfl rfl fun b12=>gRn (oM 1 rfl<|.nl)<|gal ti_28 rfl fun b13=>nK k11<|gK fun _ k14=>sK fun _ k15=>gRn (olw 1 ti_25 rfl rfl<|.nl)<|gC (fun _ _ h_=>xCl h_ bd_43 rfl (asmCheck_c (code:=code) (words:=words) (locks:=locks) (regs:=regs) (h_.sh.at 2 rfl) (h_.sh.at 3 rfl))) rfl<|?_;clear h10
 rintro _ _ w16 ⟨rfl,hs16⟩
 refine gWk hs16 rfl<|gU<|gal ti_28 rfl fun b17=>gsw 0 ti_28 rfl rfl rfl<|nK k15<|sG (ofB fl_28_0 rfl<|olB 0 ti_26 rfl rfl<|oneI _ _ rfl<|.nl)<|gcT rfl (decide_eq_true hz)<|gK fun _ k20=>rT 2 [] (olw 0 ti_28 rfl rfl<|oM 1 rfl<|.nl)<|gsw 1 ti_28 rfl rfl rfl<|nK k20<|gR<|uT<|fun a22 w22 h22=> ?_;clear hs16
 refine x_rettc (fn:=Tryz.f47) (t:=5) (u:=4) (i:=1) ti_28 rfl h22 rfl rfl rfl rfl ?_
 exact ⟨rfl,(h22.sh.sel [] rfl)⟩
theorem stso_k (code:Ls (Ls Ins))(words0:Ls Int)(Lk R:Nat)(W:World)(hcode:code.At W)(hwords:words0.At W)(hok:OkPg (pgN code words0 Lk R))(hR:PgR (pgN code words0 Lk R)):
    Rets Tryz.prog 18 [.agg #[code.v,words0.v, .int .i64 ((Lk:Nat):Int), .int .i64 ((R:Nat):Int)]] W (fun v w' =>∃(u:Ls OutL) (ok:Bool),v= .tuple #[u.v, .agg #[.int .i64 (if ok=true then 0 else 10), .int .i64 0, .int .i64 0]]∧FRes (pgN code words0 Lk R) 1 (fun (_:Unit) _=>()) () (fun _=>False) W ok u ()∧Sh0 W w' [.own 39 u]):=by
 have hz:checkG (pgOf code words0 ((Lk:Nat):Int) ((R:Nat):Int))=⟨0,0,0⟩:=checkG_ok hok
 refine gen Tryz.func18 Tryz.ntmps18 (Sh0.ext2 hcode hwords:Sh (fun _=>False) W W [.at_ code, .at_ words0]) rfl fun a10 h10=>gG h10<|sK fun _ k11=>gbx rfl rfl fun b12=>gRn (oM 1 rfl<|.nl)<|gal ti_28 rfl fun b13=>nK k11<|sK fun _ k14=>gRn (olw 1 ti_25 rfl rfl<|.nl)<|fun a16 w16 h16=>wl_ex (x_call h16 bd_47 rfl rfl rfl rfl rfl (askedt_k code words0 Lk R _ (h16.sh.at 2 rfl) (h16.sh.at 3 rfl) hok hR)) (wanted_none rfl _) ?_;clear h10
 rintro a17 w17 ⟨_,⟨u17,ok17,rfl,hfu17,hs17⟩,hf17⟩
 have h17:=(⟨hf17,h16.sh.call hs17 (by intro A hA b hb;obtain rfl:=List.mem_singleton.1 hA;obtain ⟨i9,hi9,hb9⟩:=hb;exact .inl ((hfu17.nw _ (nth_mem _ _ hi9) b hb9).resolve_left id))⟩:St 8 (fun _=>False) W a17 w17 _ _)
 have hfr17:=hfu17.up (K' :=fun _=>False) (W' :=W) (fun b hb=>hb.imp id (fun h9=>Nat.le_trans h16.sh.chg.size h9))
 clear hf17 hs17
 clear h16
 refine gG h17<|gRn (oxt rfl<|oxt rfl<|oM 1 rfl<|.nl)<|gsw 1 ti_28 rfl rfl rfl<|nK k14<|gR<|fun a19 w19 h19=>x_rettc (fn:=Tryz.f18) (t:=3) (u:=2) (i:=1) ti_28 rfl h19 rfl rfl rfl rfl ?_;clear h17
 exact ⟨u17,ok17,rfl,hfr17,(h19.sh.sel [0] rfl)⟩
theorem stso_b (code:Ls (Ls Ins))(words:Ls Int)(locks regs:Int)(W:World)(hcode:code.At W)(hwords:words.At W)(hz:(checkG (pgOf code words locks regs)).code≠0):
    Rets Tryz.prog 18 [.agg #[code.v,words.v, .int .i64 locks, .int .i64 regs]] W (fun v w' =>v= .tuple #[.slice none 0 0,(checkG (pgOf code words locks regs)).val]∧Sh0 W w' []):=by
 refine gen Tryz.func18 Tryz.ntmps18 (Sh0.ext2 hcode hwords:Sh (fun _=>False) W W [.at_ code, .at_ words]) rfl fun a10 h10=>gG h10<|sK fun _ k11=>gbx rfl rfl fun b12=>gRn (oM 1 rfl<|.nl)<|gal ti_28 rfl fun b13=>nK k11<|sK fun _ k14=>gRn (olw 1 ti_25 rfl rfl<|.nl)<|gC (fun _ _ h_=>xCl h_ bd_47 rfl (askedt_b code words locks regs _ (h_.sh.at 2 rfl) (h_.sh.at 3 rfl) hz)) rfl<|?_;clear h10
 rintro _ _ w15 ⟨rfl,hs15⟩
 refine gWk hs15 rfl<|gU<|gRn (oxt rfl<|oxt rfl<|oM 1 rfl<|.nl)<|gsw 0 ti_28 rfl rfl rfl<|nK k14<|gR<|fun a17 w17 h17=> ?_;clear hs15
 refine x_rettc (fn:=Tryz.f18) (t:=3) (u:=2) (i:=0) ti_28 rfl h17 rfl rfl rfl rfl ?_
 exact ⟨rfl,(h17.sh.sel [] rfl)⟩
theorem sameB_c (o1 o2:OutL)(W:World)(ha:Enc.inner o1 W)(hb:Enc.inner o2 W):
    Rets Tryz.prog 97 [.agg #[.int .i64 o1.st,o1.words.v,o1.prints.v], .agg #[.int .i64 o2.st,o2.words.v,o2.prints.v]] W (fun v w' =>v= .bool (eqO o1 o2)∧Sh0 W w' []):=by
 refine gen Tryz.func97 Tryz.ntmps97 (Sh0.ext (by intro A hA;simp only [List.mem_cons,List.not_mem_nil,or_false] at hA;rcases hA with rfl|rfl|rfl|rfl;exact ha.1;exact ha.2;exact hb.1;exact hb.2) (by intro A hA b hb9;simp only [List.mem_cons,List.not_mem_nil,or_false] at hA;rcases hA with rfl|rfl|rfl|rfl<;>exact hb9):Sh (fun _=>False) W W [.at_ o1.words, .at_ o1.prints, .at_ o2.words, .at_ o2.prints]) rfl fun a10 h10=>gG h10<|sK fun _ k11=>gbx rfl rfl fun b12=>gbx rfl rfl fun b13=>gRn (oM 1 rfl<|.nl)<|nK k11<|sK fun _ k14=>gRn (olw 1 ti_39 rfl rfl<|olw 0 ti_39 rfl rfl<|.nl)<|gP (fun _ _ h_=>xCl h_ bd_98 rfl (order_p o1 o2 _ ⟨h_.sh.at 2 rfl,h_.sh.at 3 rfl⟩ ⟨h_.sh.at 4 rfl,h_.sh.at 5 rfl⟩)) rfl<|gRn (oeqI _ _ rfl<|oM 1 rfl<|.nl)<|nK k14<|gR<|fun a16 w16 h16=>x_ret1 (fn:=Tryz.f97) (t:=4) rfl h16 rfl<|⟨?_,(h16.sh.sel [] rfl)⟩;clear h10
 congr 1
 unfold eqO
 exact decide_eq_decide.2 (ordO_eq o1 o2)
theorem eqOut_c (oa ob:Ls OutL)(W:World)(ha:oa.At W)(hb:ob.At W):
    Rets Tryz.prog 96 [oa.v,ob.v, .func (.func 97) #[] #[]] W (fun v w' =>v= .bool (decide (oa.l.map OutL.out=ob.l.map OutL.out))∧Sh0 W w' []):=by
 refine gen Tryz.func96 Tryz.ntmps96 (Sh0.ext2 ha hb:Sh (fun _=>False) W W [.at_ oa, .at_ ob]) rfl fun a10 h10=>gG h10<|sG (oM 1 rfl<|.nl)<|gK fun _ k12=>sK fun _ k13=>gNl (aA 0 rfl) fun hl14=>gNl (aA 1 rfl) fun hl15=>gRn (oM 1 rfl<|oln sl_35 (aA 0 rfl) rfl<|oM 1 rfl<|oln sl_35 (aA 1 rfl) rfl<|oneN _ _ rfl<|.nl)<|nK k13<|?_;clear h10
 refine gcd rfl (fun hb16 hp16=> ?_) fun hb16 hp16=> ?_
 ·skip
  refine sG (oM 1 rfl<|.nl)<|gR<|uT<|fun a18 w18 h18=>x_ret1 (fn:=Tryz.f96) (t:=6) rfl h18 rfl<|⟨congrArg Value.bool ?_,(h18.sh.sel [] rfl)⟩
  first|exact (decide_eq_false (outs_ne (by omega) (by omega) (by assumption))).symm|exact (decide_eq_false (outs_len (by assumption))).symm
 refine gS<|hK k12<|gK fun _ k19=>sG (oM 1 rfl<|oln sl_35 (aA 0 rfl) rfl<|oM 1 rfl<|.nl)<|gB<|fun a22 w22 h22=>x_loop (fun m a w=>∃(k:Nat),(k≤oa.l.length)∧(∀j,j<k→(nth oa.l j).out=(nth ob.l j).out)∧St 32 (fun _=>False) W a w [(1,ob.v),(2, .func (.func 97) #[] #[]),(15,oa.v),(16, .int .i64 ((oa.l.length:Nat):Int)),(17, .int .i64 ((k:Nat):Int))] [.at_ oa, .at_ ob]∧m=oa.l.length-k) ⟨_,0,(by omega),(fun j hj=>absurd hj (by omega)),h22.nf ⟨rfl,rfl,rfl,rfl,rfl,trivial⟩,rfl⟩ ?_
 clear h22
 rintro m21 a21 w21 ⟨k,hk,heq,h21,hm21⟩
 refine gG h21<|sG (oltN _ _ rfl<|.nl)<|gK fun _ k24=>gcd rfl (fun hb25 hp25=> ?_) fun hb25 hp25=> ?_;clear h21
 ·skip
  refine gS<|hK k24<|gK fun _ k26=>gB<|sK fun _ k27=>gRn (oM 1 rfl<|oxN sl_35 ti_39 (aA 0 rfl) _ om9 rfl<|olw2 [.int .i64 ((nth oa.l k).st),((nth oa.l k).words).v,((nth oa.l k).prints).v] ti_39 (aA 0 rfl) om9 rfl<|.nl)<|gal ti_39 rfl fun b28=>gRn (oM 1 rfl<|.nl)<|gE (fun _ _ h_=>x_stb (i:=0) (vs:= [.int .i64 ((nth oa.l k).st),((nth oa.l k).words).v,((nth oa.l k).prints).v]) (cs' := [.int .i64 ((nth oa.l k).st),((nth oa.l k).words).v,((nth oa.l k).prints).v]) h_ ti_39 rfl rfl rfl rfl rfl rfl rfl (allOne_cons rfl (allOne_cons (((h_.sh.at 1 rfl).inner k (show k<oa.l.length from om9)).1).one (allOne_cons (((h_.sh.at 1 rfl).inner k (show k<oa.l.length from om9)).2).one allOne_nil))) (Nat.le_of_ble_eq_true rfl) rfl) rfl<|nK k27<|sK fun _ k30=>gRn (oM 2 rfl<|oxN sl_35 ti_39 (aA 2 rfl) _ om9 rfl<|olw2 [.int .i64 ((nth ob.l k).st),((nth ob.l k).words).v,((nth ob.l k).prints).v] ti_39 (aA 2 rfl) om9 rfl<|.nl)<|gal ti_39 rfl fun b31=>gE (fun _ _ h_=>x_stb (i:=0) (vs:= [.int .i64 ((nth ob.l k).st),((nth ob.l k).words).v,((nth ob.l k).prints).v]) (cs' := [.int .i64 ((nth ob.l k).st),((nth ob.l k).words).v,((nth ob.l k).prints).v]) h_ ti_39 rfl rfl rfl rfl rfl rfl rfl (allOne_cons rfl (allOne_cons (((h_.sh.at 3 rfl).inner k (show k<ob.l.length from om9)).1).one (allOne_cons (((h_.sh.at 3 rfl).inner k (show k<ob.l.length from om9)).2).one allOne_nil))) (Nat.le_of_ble_eq_true rfl) rfl) rfl<|nK k30<|sK fun _ k33=>gRn (oM 1 rfl<|olw 1 ti_39 rfl rfl<|olw 0 ti_39 rfl rfl<|.nl)<|gP (fun _ _ h_=>xCl h_ bd_97 rfl (sameB_c (nth oa.l k) (nth ob.l k) _ ((h_.sh.at 2 rfl).inner k (show k<oa.l.length from (by omega))) ((h_.sh.at 3 rfl).inner k (show k<ob.l.length from (by omega))))) rfl<|gRn (ont rfl<|.nl)<|nK k33<|gCb rfl (fun hb35=> ?_) fun hb35=> ?_
  ·have hn35:eqO (nth oa.l k) (nth ob.l k)=false:=(Bool.not_eq_true' _).mp hb35
   refine sG (oM 1 rfl<|.nl)<|gR<|uB<|uT<|uT<|uB<|uT<|fun a37 w37 h37=>x_ret1 (fn:=Tryz.f96) (t:=6) rfl h37 rfl<|⟨congrArg Value.bool ?_,(h37.sh.sel [] rfl)⟩
   first|exact (decide_eq_false (outs_ne (by omega) (by omega) (by assumption))).symm|exact (decide_eq_false (outs_len (by assumption))).symm
  have hn35:eqO (nth oa.l k) (nth ob.l k)=true:=(Bool.not_eq_false' _).mp hb35
  refine gS<|hK k26<|gL<|gRn (oadN _ 1 om9 rfl<|oM 1 rfl<|.nl)<|nN<|fun a38 w38 h38=>x_again ⟨_, ?_,k+1, ?_, ?_,h38.nrm ⟨rfl,rfl,rfl,rfl,rfl,trivial⟩ [2,3] rfl,rfl⟩
  · rw [hm21];first|omega|(simp only [lens9];omega)
  · omega
  · exact snocQ heq (eqO_yes (by assumption))
 refine gX<|hK k19<|sG (oM 1 rfl<|.nl)<|gR<|fun a40 w40 h40=>x_ret1 (fn:=Tryz.f96) (t:=6) rfl h40 rfl<|⟨congrArg Value.bool ?_,(h40.sh.sel [] rfl)⟩
 exact (decide_eq_true (outs_eq (by omega) (by omega) heq)).symm
theorem sameR_c (oa ob:Ls OutL)(W:World)(ha:oa.At W)(hb:ob.At W):
    Rets Tryz.prog 56 [oa.v,ob.v] W (fun v w' =>v= .bool (decide (oa.l.map OutL.out=ob.l.map OutL.out))∧Sh0 W w' []):=by
 refine gen Tryz.func56 Tryz.ntmps56 (Sh0.ext2 ha hb:Sh (fun _=>False) W W [.at_ oa, .at_ ob]) rfl fun a10 h10=>gG h10<|sG (oM 1 rfl<|.nl)<|sK fun _ k12=>gRn (oM 2 rfl<|.nl)<|gP (fun _ _ h_=>xCl h_ bd_96 rfl (eqOut_c oa ob _ (h_.sh.at 0 rfl) (h_.sh.at 1 rfl))) rfl<|gRn (oM 1 rfl<|.nl)<|nK k12<|gR<|fun a14 w14 h14=>x_ret1 (fn:=Tryz.f56) (t:=4) rfl h14 rfl ?_;clear h10
 exact ⟨rfl,(h14.sh.sel [] rfl)⟩
theorem rob_k (code:Ls (Ls Ins))(words0:Ls Int)(Lk R:Nat)(W:World)(hcode:code.At W)(hwords:words0.At W)(hok:OkPg (pgN code words0 Lk R))(hR:PgR (pgN code words0 Lk R)):
    Rets Tryz.prog 21 [.agg #[code.v,words0.v, .int .i64 ((Lk:Nat):Int), .int .i64 ((R:Nat):Int)]] W (fun v w' =>∃rb rk:Bool,v= .tuple #[.bool rb, .agg #[.int .i64 (if rk=true then 0 else 10), .int .i64 0, .int .i64 0]]∧RobF (pgN code words0 Lk R) rb rk∧Sh0 W w' []):=by
 have hz:checkG (pgOf code words0 ((Lk:Nat):Int) ((R:Nat):Int))=⟨0,0,0⟩:=checkG_ok hok
 refine gen Tryz.func21 Tryz.ntmps21 (Sh0.ext2 hcode hwords:Sh (fun _=>False) W W [.at_ code, .at_ words0]) rfl fun a10 h10=>gG h10<|sK fun _ k11=>gbx rfl rfl fun b12=>gRn (oM 1 rfl<|.nl)<|gal ti_28 rfl fun b13=>nK k11<|sK fun _ k14=>gRn (olw 1 ti_25 rfl rfl<|.nl)<|fun a16 w16 h16=>wl_ex (x_call h16 bd_29 rfl rfl rfl rfl rfl (ssc_k code words0 Lk R _ (h16.sh.at 2 rfl) (h16.sh.at 3 rfl) hok hR)) (wanted_none rfl _) ?_;clear h10
 rintro a17 w17 ⟨_,⟨u17,ok17,rfl,hfu17,hs17⟩,hf17⟩
 have h17:=(⟨hf17,h16.sh.call hs17 (by intro A hA b hb;obtain rfl:=List.mem_singleton.1 hA;obtain ⟨i9,hi9,hb9⟩:=hb;exact .inl ((hfu17.nw _ (nth_mem _ _ hi9) b hb9).resolve_left id))⟩:St 30 (fun _=>False) W a17 w17 _ _)
 have hfr17:=hfu17.up (K' :=fun _=>False) (W' :=W) (fun b hb=>hb.imp id (fun h9=>Nat.le_trans h16.sh.chg.size h9))
 clear hf17 hs17
 clear h16
 refine gG h17<|gRn (oM 1 rfl<|oxt rfl<|oxt rfl<|.nl)<|gal ti_28 rfl fun b18=>gRn (oM 1 rfl<|.nl)<|gsw 0 ti_28 rfl rfl rfl<|nK k14<|gK fun _ k20=>sG (ofB fl_28_0 rfl<|olB 0 ti_26 rfl rfl<|oneI _ _ rfl<|.nl)<|?_;clear h17
 refine gcd rfl (fun hb22 hp22=> ?_) fun hb22 hp22=> ?_
 ·skip
  refine gK fun _ k23=>rT 2 [] (olw 0 ti_28 rfl rfl<|oM 1 rfl<|.nl)<|gsw 2 ti_28 rfl rfl rfl<|nK k23<|gR<|uT<|fun a25 w25 h25=>x_rettc (fn:=Tryz.f21) (t:=3) (u:=2) (i:=2) ti_28 rfl h25 rfl rfl rfl rfl ?_
  obtain rfl:=cd_no (b:=ok17) (by assumption)
  exact ⟨false,false,rfl,rob_0 hfr17,(h25.sh.sel [] rfl)⟩
 refine gS<|hK k20<|sK fun _ k26=>gRn (olw 3 ti_25 rfl rfl<|.nl)<|fun a28 w28 h28=>wl_ex (x_call h28 bd_18 rfl rfl rfl rfl rfl (stso_k code words0 Lk R _ (h28.sh.at 4 rfl) (h28.sh.at 5 rfl) hok hR)) (wanted_none rfl _) ?_
 rintro a29 w29 ⟨_,⟨u29,ok29,rfl,hfu29,hs29⟩,hf29⟩
 have h29:=(⟨hf29,h28.sh.call hs29 (by intro A hA b hb;obtain rfl:=List.mem_singleton.1 hA;obtain ⟨i9,hi9,hb9⟩:=hb;exact .inl ((hfu29.nw _ (nth_mem _ _ hi9) b hb9).resolve_left id))⟩:St 30 (fun _=>False) W a29 w29 _ _)
 have hfr29:=hfu29.up (K' :=fun _=>False) (W' :=W) (fun b hb=>hb.imp id (fun h9=>Nat.le_trans h28.sh.chg.size h9))
 clear hf29 hs29
 clear h28
 refine gG h29<|gRn (oM 1 rfl<|oxt rfl<|oxt rfl<|oM 1 rfl<|.nl)<|gsw 1 ti_28 rfl rfl rfl<|nK k26<|gK fun _ k31=>fun a32 w32 h32=>x_tail 10 [] (by kernel_rfl) (by kernel_rfl) h32 fun _ z33=>qQ h32.fr<|qRn (ofB fl_28_0 rfl<|olB 1 ti_26 rfl rfl<|oeqI _ _ rfl<|oM 1 rfl<|.nl)<|?_;clear h29
 rcases dsp ((if ok29=true then (0:Int) else 10)=0) with ⟨hb34,hp34⟩|⟨hb34,hp34⟩
 ·skip
  refine qRn (oG hb34 (r_move rfl rfl) rfl<|oG hb34 (r_move rfl rfl) rfl<|.nl)<|qPg hb34 bd_56 rfl (fun w h=>(sameR_c u17 u29 _ (h.own 2 rfl) (h.own 0 rfl)))<|qRn (opT hb34 rfl<|olw 1 ti_28 rfl rfl<|oM 1 rfl<|.nl)<|qN z33<|?_;clear h32
  refine gsw 3 ti_28 rfl rfl rfl<|nK k31<|gF [2,3] rfl<|gR<|fun a39 w39 h39=>x_rettc (fn:=Tryz.f21) (t:=3) (u:=2) (i:=3) ti_28 rfl h39 rfl rfl rfl rfl ?_
  have h5:=cd_ok (b:=ok17) (by assumption)
  subst h5
  have h6:ok29=true:=cd_eq.symm.trans hb34
  subst h6
  exact ⟨_,true,rfl,rob_2 hfr17 hfr29,(h39.sh.sel [] rfl)⟩
 refine qRn (oKs 3 hb34 rfl rfl<|opF hb34 rfl<|olw 1 ti_28 rfl rfl<|oM 1 rfl<|.nl)<|qN z33<|?_;clear h32
 refine gsw 3 ti_28 rfl rfl rfl<|nK k31<|gF [2,3] rfl<|gR<|fun a42 w42 h42=>x_rettc (fn:=Tryz.f21) (t:=3) (u:=2) (i:=3) ti_28 rfl h42 rfl rfl rfl rfl ?_
 have h5:=cd_ok (b:=ok17) (by assumption)
 subst h5
 have h6:ok29=false:=cd_eq.symm.trans hb34
 subst h6
 exact ⟨false,false,rfl,rob_1 hfr17 hfr29,(h42.sh.sel [] rfl)⟩
section
variable {p:Pg}{s:MSt}{x:TS}{n:Nat}{i:Ins}{m m' :Int}{c:List Ins}{k:Nat}{o:Outc}
theorem mayK_0 {l:List Wt} :mayK m l 0=true:=by simp [mayK]
theorem mvOK_none (h:∀k,mvOK m c x k=false):ableV c x=false∧x.wait= []:=by
 refine ⟨by simpa [mvOK] using h 0, ?_⟩
 have h1:=h 1
 cases hw:x.wait with
 |nil=>rfl
 |cons w l=>
  unfold mvOK at h1
  simp [hw,mayK_0] at h1
theorem mvOK_no (h:ableV c x=false∧x.wait= []):mvOK m c x k=false:=by
 unfold mvOK
 split
 ·exact h.1
 ·rename_i h0
  rw [h.2]
  simp [show¬k=0 from h0]
theorem stuck_mm (h:Stuck_ p m s):Stuck_ p m' s:=fun t k ht=>mvOK_no (mvOK_none fun k=>h t k ht)
theorem ite_w {c:Prop}[Decidable c]{a b:TS}{w:List Wt}(h1:a.wait=w)(h2:b.wait=w):(if c then a else b).wait=w:=by split<;>assumption
theorem exec0_wait :(execT 0 n i x).wait=x.wait:=by
 have hs:∀w,(x.store 0 w).wait=x.wait:=fun w=>by simp [TS.store,TS.done]
 unfold execT
 repeat' first|exact hs _|exact rfl|refine ite_w ?_ ?_
def S01 (x a b:TS):Prop:=a=b∨∃w,a= { x with wait:= [w] }∧b=x.done w
theorem ite_s {c:Prop}[Decidable c]{a b a' b' :TS}(h1:S01 x a a')(h2:S01 x b b'):S01 x (if c then a else b) (if c then a' else b'):=by split<;>assumption
theorem exec_01 (hw:x.wait= []):S01 x (execT 1 n i x) (execT 0 n i x):=by
 have hs:∀w,S01 x (x.store 1 w) (x.store 0 w):=fun w=> .inr ⟨w,by simp [TS.store,hw],by simp [TS.store]⟩
 unfold execT
 repeat' first|exact hs _|exact .inl rfl|refine ite_s ?_ ?_
theorem waits_0 (hl:s.ths.length=p.code.length)(h:∀t,t<p.code.length→(s.view t).wait= []){t k:Nat}(ht:t<p.code.length)(hk:mvOK m (nth p.code t) (s.view t) k=true):k=0:=by
 unfold mvOK at hk
 by_cases h0:k=0
 ·exact h0
 ·rw [if_neg h0,h t ht] at hk
  simp [h0] at hk
theorem ths_len {s:MSt}(h:Reach p m s):s.ths.length=p.code.length:=by
 induction h with
 |start=>simp [begin_]
 |step _ _ _ _ ih=>simpa [MSt.putT] using ih
theorem reach0_wait (h:Reach p 0 s):∀t,t<p.code.length→(s.view t).wait= []:=by
 induction h with
 |start=>
  intro t ht
  simp only [MSt.view,begin_]
  rw [nth_map' _ _ _ ht]
 |step h ht hk hf ih=>
  intro q hq
  have hl:=ths_len h
  obtain rfl:=waits_0 hl ih ht hk
  rename_i s t
  by_cases e:q=t
  ·subst e
   rw [putT_view (by omega)]
   show (stepT p 0 s q 0).wait= []
   unfold stepT doT
   rw [if_neg (by omega),exec0_wait]
   exact ih q hq
  ·have:((s.putT t (stepT p 0 s t 0)).view q).wait=(s.view q).wait:=by
    simp only [MSt.view,MSt.putT]
    rw [nth_set0,if_neg (fun h=>e h.1.symm)]
   rw [this]
   exact ih q hq
theorem reach_01 (h:Reach p 0 s):Reach p 1 s:=by
 induction h with
 |start=>exact .start
 |step h ht hk hf ih=>
  rename_i s t k
  have hl:=ths_len h
  have hw:=reach0_wait h
  obtain rfl:=waits_0 hl hw ht hk
  have hk1:mvOK 1 (nth p.code t) (s.view t) 0=true:=by simpa [mvOK] using hk
  have hwt:({ s.view t with pc:=(s.view t).pc+1 } :TS).wait= []:=hw t ht
  rcases exec_01 (n:=t) (i:=nextIns (nth p.code t) (s.view t).pc) hwt with e|⟨w,e1,e2⟩
  ·have e3:stepT p 1 s t 0=stepT p 0 s t 0:=by unfold stepT doT;rw [if_neg (by omega),if_neg (by omega)];exact e
   rw [←e3] at hf⊢
   exact .step ih ht hk1 hf
  ·have e3:stepT p 1 s t 0= { ({ s.view t with pc:=(s.view t).pc+1 } :TS) with wait:= [w] } :=by unfold stepT doT;rw [if_neg (by omega)];exact e1
   have e4:stepT p 0 s t 0=({ s.view t with pc:=(s.view t).pc+1 } :TS).done w:=by unfold stepT doT;rw [if_neg (by omega)];exact e2
   have r1:Reach p 1 (s.putT t (stepT p 1 s t 0)):= .step ih ht hk1 (by rw [e3];rfl)
   have hv:(s.putT t (stepT p 1 s t 0)).view t=stepT p 1 s t 0:=by rw [putT_view (by omega),e3];rfl
   have hm:mvOK 1 (nth p.code t) ((s.putT t (stepT p 1 s t 0)).view t) 1=true:=by
    rw [hv,e3];simp [mvOK,mayK_0]
   have e5:stepT p 1 (s.putT t (stepT p 1 s t 0)) t 1=stepT p 0 s t 0:=by
    show doT 1 t (nth p.code t) 1 ((s.putT t (stepT p 1 s t 0)).view t)=_
    rw [hv,e3,e4]
    unfold doT
    rw [if_pos (by omega)]
    simp [TS.done,nth,hw t ht]
   have r2:=r1.step ht hm (by rw [e5];exact hf)
   rw [e5] at r2
   have e6:(s.putT t (stepT p 1 s t 0)).putT t (stepT p 0 s t 0)=s.putT t (stepT p 0 s t 0):=by
    simp [MSt.putT,List.set_set]
   rwa [e6] at r2
theorem outs_01 (h:Outs p 0 o):Outs p 1 o:=by
 cases h with
 |done h he=>exact .done (reach_01 h) he
 |stuck h he hs=>exact .stuck (reach_01 h) he (stuck_mm hs)
 |fell h ht hk hf=>
  rename_i s t k
  have hl:=ths_len h
  have hw:=reach0_wait h
  obtain rfl:=waits_0 hl hw ht hk
  have hk1:mvOK 1 (nth p.code t) (s.view t) 0=true:=by simpa [mvOK] using hk
  have hwt:({ s.view t with pc:=(s.view t).pc+1 } :TS).wait= []:=hw t ht
  rcases exec_01 (n:=t) (i:=nextIns (nth p.code t) (s.view t).pc) hwt with e|⟨w,e1,e2⟩
  ·have e3:stepT p 1 s t 0=stepT p 0 s t 0:=by unfold stepT doT;rw [if_neg (by omega),if_neg (by omega)];exact e
   rw [←e3] at hf⊢
   exact .fell (reach_01 h) ht hk1 hf
  ·have e4:stepT p 0 s t 0=({ s.view t with pc:=(s.view t).pc+1 } :TS).done w:=by unfold stepT doT;rw [if_neg (by omega)];exact e2
   rw [e4] at hf
   cases hf
theorem go_outs (hok:OkPg p)(script:List Int):∀(n nx:Nat) (s:MSt) (k:Nat),Reach p m s→(goM p m script n nx s k).st≠3→Outs p m ⟨(goM p m script n nx s k).st,if (goM p m script n nx s k).st=1 then [] else (goM p m script n nx s k).words,(goM p m script n nx s k).prints⟩
 |n,nx,s,k,h,h3=>by
  by_cases he:ended p s=true
  ·have e:goM p m script n nx s k=⟨0,k,s.words,s.prints⟩:=by cases n<;>simp [goM,he]
   rw [e]
   exact .done h he
  ·by_cases hl:(moves p m s).length=0
   ·have e:goM p m script n nx s k=⟨2,k,s.words,s.prints⟩:=by cases n<;>simp [goM,he,hl]
    rw [e]
    refine .stuck h (by simpa using he) fun t j ht=> ?_
    cases hm:mvOK m (nth p.code t) (s.view t) j with
    |false=>rfl
    |true=>
     have:((8*t+j:Nat):Int)∈moves p m s:=mem_moves.2 ⟨t,j,ht,hm,rfl⟩
     rw [List.eq_nil_of_length_eq_zero hl] at this
     cases this
   ·obtain ⟨t,j,ht,hm,_,e⟩:=mv_at (script:=script) (nx:=nx) hl
    have hj:j<8:=by
     have h8:(s.view t).wait.length≤3:=((h.wf hok).th t ht).wait
     unfold mvOK at hm
     split at hm
     ·omega
     ·simp only [Bool.and_eq_true,decide_eq_true_eq] at hm
      omega
    have e1:mvM p m s script nx/8=t:=by omega
    have e2:mvM p m s script nx%8=j:=by omega
    cases n with
    |zero=>exact absurd (by simp [goM,he,hl]) h3
    |succ n=>
     rw [goM,if_neg he,if_neg hl,e1,e2] at h3⊢
     by_cases hf:(stepT p m s t j).fell=true
     ·rw [if_pos hf] at h3⊢
      exact .fell h ht hm hf
     ·rw [if_neg hf] at h3⊢
      exact go_outs hok script n _ _ _ (.step h ht hm (by simpa using hf)) h3
theorem run_outs (hok:OkPg p)(script:List Int)(h3:(runM p m script).st≠3):Outs p m ⟨(runM p m script).st,if (runM p m script).st=1 then [] else (runM p m script).words,(runM p m script).prints⟩:=go_outs hok script _ _ _ _ .start h3
end
def nextS (p:Pg)(m:Int)(s:MSt):List MSt:=(List.range p.code.length).flatMap fun t=>(List.range ((s.view t).wait.length+1)).filterMap fun k=>if mvOK m (nth p.code t) (s.view t) k&& !(stepT p m s t k).fell then some (s.putT t (stepT p m s t k)) else none
def hasS (S:List MSt)(s:MSt):Bool:=S.any fun x=>decide (x=s)
def closeB (p:Pg)(m:Int)(S:List MSt):Bool:=hasS S (begin_ p)&&S.all fun s=>(nextS p m s).all (hasS S)
def growS (p:Pg)(m:Int):Nat→List MSt→List MSt→List MSt
 |0,_,S=>S
 |_+1, [],S=>S
 |n+1,s::r,S=>
  let N:=(nextS p m s).foldl (fun (a:List MSt) x=>if hasS S x||hasS a x then a else x::a) []
  growS p m n (N++r) (N++S)
section
variable {p:Pg}{m:Int}{S:List MSt}{s:MSt}
theorem hasS_mem (h:hasS S s=true):s∈S:=by
 obtain ⟨x,hx,e⟩:=List.any_eq_true.1 h
 rw [←of_decide_eq_true e];exact hx
theorem mvOK_lt9 {c:List Ins}{x:TS}{k:Nat}(h:mvOK m c x k=true):k<x.wait.length+1:=by
 unfold mvOK at h
 split at h
 ·omega
 ·simp only [Bool.and_eq_true,decide_eq_true_eq] at h;omega
theorem mem_nextS {t k:Nat}(ht:t<p.code.length)(hk:mvOK m (nth p.code t) (s.view t) k=true)(hf:(stepT p m s t k).fell=false):s.putT t (stepT p m s t k)∈nextS p m s:=
 List.mem_flatMap.2 ⟨t,List.mem_range.2 ht,List.mem_filterMap.2 ⟨k,List.mem_range.2 (mvOK_lt9 hk),by rw [hk,hf];rfl⟩⟩
theorem close_all (h:closeB p m S=true)(hr:Reach p m s):s∈S:=by
 simp only [closeB,Bool.and_eq_true] at h
 induction hr with
 |start=>exact hasS_mem h.1
 |step _ ht hk hf ih=>exact hasS_mem (List.all_eq_true.1 (List.all_eq_true.1 h.2 _ ih) _ (mem_nextS ht hk hf))
theorem close_big (h:closeB p m S=true)(hl:S.length≤4000):¬Big p m:=fun ⟨T,hn,hr,ht⟩=>by
 have:=nodup_sub hn fun s hs=>close_all h (hr s hs)
 omega
def pathS (p:Pg)(m:Int):List (Nat×Nat)→MSt→Option MSt
 | [],s=>some s
 |(t,k)::r,s=>if decide (t<p.code.length)&&mvOK m (nth p.code t) (s.view t) k&& !(stepT p m s t k).fell then pathS p m r (s.putT t (stepT p m s t k)) else none
theorem path_reach :∀ {l:List (Nat×Nat)} {s s' :MSt},Reach p m s→pathS p m l s=some s' →Reach p m s'
 | [],s,s',h,e=>by cases e;exact h
 |(t,k)::r,s,s',h,e=>by
  unfold pathS at e
  split at e
  ·rename_i hb
   simp only [Bool.and_eq_true,decide_eq_true_eq,Bool.not_eq_true'] at hb
   exact path_reach (.step h hb.1.1 hb.1.2 hb.2) e
  ·cases e
def endB (p:Pg)(m:Int)(l:List (Nat×Nat))(o:Outc):Bool:=match pathS p m l (begin_ p) with
 |some s=>ended p s&&decide (o=⟨0,s.words,s.prints⟩)
 |none=>false
theorem end_outs {l:List (Nat×Nat)}{o:Outc}(h:endB p m l o=true):Outs p m o:=by
 unfold endB at h
 split at h
 ·rename_i s hs
  simp only [Bool.and_eq_true] at h
  rw [of_decide_eq_true h.2]
  exact .done (path_reach .start hs) h.1
 ·cases h
def outB (p:Pg)(m:Int)(E:Outc→Bool)(s:MSt):Bool:=
 (if ended p s then E ⟨0,s.words,s.prints⟩ else !((List.range p.code.length).all fun t=> !ableV (nth p.code t) (s.view t)&&(s.view t).wait.isEmpty)||E ⟨2,s.words,s.prints⟩)&&
 (List.range p.code.length).all fun t=>(List.range ((s.view t).wait.length+1)).all fun k=> !(mvOK m (nth p.code t) (s.view t) k&&(stepT p m s t k).fell)||E ⟨1, [],(stepT p m s t k).prints⟩
theorem out_all {E:Outc→Bool}{o:Outc}(h:closeB p m S=true)(hE:S.all (outB p m E)=true)(ho:Outs p m o):E o=true:=by
 have key:∀s,Reach p m s→outB p m E s=true:=fun s hr=>List.all_eq_true.1 hE s (close_all h hr)
 cases ho with
 |done hr he=>
  have:=key _ hr
  simp only [outB,Bool.and_eq_true,he,if_true] at this
  exact this.1
 |stuck hr he hs=>
  have:=key _ hr
  simp only [outB,Bool.and_eq_true,he] at this
  have h1:=this.1
  simp only [Bool.false_eq_true,if_false,Bool.or_eq_true,Bool.not_eq_true'] at h1
  rcases h1 with h1|h1
  ·exfalso
   rw [List.all_eq_false] at h1
   obtain ⟨t,ht,h2⟩:=h1
   have:=mvOK_none fun k=>hs t k (List.mem_range.1 ht)
   rw [this.1,this.2] at h2
   simp at h2
  ·exact h1
 |fell hr ht hk hf=>
  have:=key _ hr
  simp only [outB,Bool.and_eq_true] at this
  have h2:=List.all_eq_true.1 (List.all_eq_true.1 this.2 _ (List.mem_range.2 ht)) _ (List.mem_range.2 (mvOK_lt9 hk))
  rw [hk,hf] at h2
  simpa using h2
end
def bufP :Pg:=⟨[[⟨1,0,1,0⟩,⟨9,0,0,0⟩,⟨8,1,1,0⟩,⟨16,1,0,0⟩], [⟨1,0,1,0⟩,⟨9,1,0,0⟩,⟨8,1,0,0⟩,⟨16,1,0,0⟩]], [0,0],0,2⟩
def bufS (m:Int):List MSt:=growS bufP m 400 [begin_ bufP] [begin_ bufP]
set_option maxHeartbeats 2000000
theorem buf_0 :closeB bufP 0 (bufS 0)=true:=by kernel_rfl
theorem buf_1 :closeB bufP 1 (bufS 1)=true:=by kernel_rfl
theorem buf_n0 :Nat.ble (bufS 0).length 4000=true:=by kernel_rfl
theorem buf_n1 :Nat.ble (bufS 1).length 4000=true:=by kernel_rfl
theorem close_big9 {p:Pg}{m:Int}{S:List MSt}(h:closeB p m S=true)(hl:Nat.ble S.length 4000=true):¬Big p m:=close_big h (Nat.le_of_ble_eq_true hl)
theorem buf_big :¬Big bufP 0∧¬Big bufP 1:=⟨close_big9 buf_0 buf_n0,close_big9 buf_1 buf_n1⟩
def bufO :Outc:=⟨0, [1,1], [0,0,1,0]⟩
theorem buf_yes :Outs bufP 1 bufO:=end_outs (l:= [(0,0),(0,0),(0,0),(0,0),(1,0),(1,0),(1,0),(1,0),(0,1),(1,1)]) (by kernel_rfl)
theorem buf_no :¬Outs bufP 0 bufO:=fun h=>by
 have:=out_all (E:=fun o=> !decide (o=bufO)) buf_0 (by kernel_rfl) h
 simp at this
theorem buf_some :Outs bufP 0 ⟨0, [1,1], [0,0,1,1]⟩:=end_outs (l:= [(0,0),(0,0),(0,0),(0,0),(1,0),(1,0),(1,0),(1,0)]) (by kernel_rfl)
theorem nodup_sub9 {α:Type}[DecidableEq α]:∀ {S T:List α},S.Nodup→(∀s∈S,s∈T)→S.length≤T.length
 | [],T,_,_=>Nat.zero_le _
 |a::S,T,h,hs=>by
  obtain ⟨h1,h2⟩:=List.nodup_cons.1 h
  have ha:=hs a (by simp)
  have:=nodup_sub9 (S:=S) (T:=T.erase a) h2 fun s hm=>(List.mem_erase_of_ne (fun (e:s=a)=>h1 (by rw [←e];exact hm))).2 (hs s (by simp [hm]))
  rw [List.length_erase_of_mem ha] at this
  have:=List.length_pos_of_mem ha
  simp only [List.length_cons];omega
theorem sorted_nodup :∀ {l:List Outc},Sorted_ l→l.Nodup:=by
 intro l h
 unfold Sorted_ at h
 exact h.imp fun hab e=>by subst e;rw [aheadB_irr] at hab;cases hab
theorem buf_less {A B:List Outc}(ha:Sorted_ A)(hA:∀o,o∈A↔Outs bufP 0 o)(hb:Sorted_ B)(hB:∀o,o∈B↔Outs bufP 1 o):0<A.length∧A.length<B.length:=by
 refine ⟨List.length_pos_of_mem ((hA _).2 buf_some), ?_⟩
 have hn:(bufO::A).Nodup:=List.nodup_cons.2 ⟨fun h=>buf_no ((hA _).1 h),sorted_nodup ha⟩
 have hs:∀o∈bufO::A,o∈B:=fun o ho=>(hB o).2 (by
  rcases List.mem_cons.1 ho with rfl|ho
  ·exact buf_yes
  ·exact outs_01 ((hA o).1 ho))
 have:=nodup_sub9 hn hs
 rw [List.length_cons] at this
 omega
theorem buf_unlike :¬∀o,Outs bufP 0 o↔Outs bufP 1 o:=fun h=>buf_no ((h _).2 buf_yes)
section
variable {code:Ls (Ls Ins)}{words0:Ls Int}{Lk R:Nat}{m:Int}{script:List Int}{nx k:Nat}{x z:SD}
end
set_option maxHeartbeats 4000000
def endW (st:Int)(wd:Ls Int):Ls Int:=if st=1 then ⟨.slice none 0 0, []⟩ else wd
theorem endW_at {st:Int}{wd:Ls Int}{w:World}(h:wd.At w):(endW st wd).At w:=by
 unfold endW
 split
 ·exact LsNil _
 ·exact h
theorem endW_l {st:Int}{wd:Ls Int} :(endW st wd).l=if st=1 then [] else wd.l:=by unfold endW;split<;>rfl
theorem out_iff {a b:OutL} :a.out=b.out↔a.st=b.st∧a.words.l=b.words.l∧a.prints.l=b.prints.l:=by simp [OutL.out]
theorem found_yes {l:List OutL}{o:OutL}{k:Nat}(hk:k<l.length)(h1:(nth l k).st=o.st)(h2:(nth l k).words.l=o.words.l)(h3:(nth l k).prints.l=o.prints.l):o.out∈l.map OutL.out:=List.mem_map.2 ⟨nth l k,nth_mem _ _ hk,out_iff.2 ⟨h1,h2,h3⟩⟩
theorem found_no {l:List OutL}{o:OutL}{k:Nat}(hk:k=l.length)(h:∀j,j<k→(nth l j).out≠o.out):¬o.out∈l.map OutL.out:=fun hm=>by
 obtain ⟨x,hx,e⟩:=List.mem_map.1 hm
 obtain ⟨j,hj,rfl⟩:=List.mem_iff_getElem.1 hx
 exact h j (by omega) (by rw [nth_lt _ _ hj];exact e)
theorem buffers_c (W:World):
    Rets Tryz.prog 38 [] W (fun v w' =>∃(c:Ls (Ls Ins)) (u:Ls Int),v= .agg #[c.v,u.v, .int .i64 0, .int .i64 2]∧c.l.map (·.l)=bufP.code∧u.l= [0,0]∧Sh0 W w' [.deep 33 c, .own 3 u]):=by
 refine gen Tryz.func38 Tryz.ntmps38 (Sh0.start _:Sh (fun _=>False) W W []) rfl fun a10 h10=>gG h10<|sK fun _ k11=>gal ti_25 rfl fun b12=>nK k11<|sK fun _ k13=>gRn (oV (r_build (cs:= [.int .i64 1, .int .i64 0, .int .i64 1, .int .i64 0]) rfl rfl (by kernel_rfl)) rfl<|oV (r_build (cs:= [.int .i64 9, .int .i64 0, .int .i64 0, .int .i64 0]) rfl rfl (by kernel_rfl)) rfl<|oV (r_build (cs:= [.int .i64 8, .int .i64 1, .int .i64 1, .int .i64 0]) rfl rfl (by kernel_rfl)) rfl<|oV (r_build (cs:= [.int .i64 16, .int .i64 1, .int .i64 0, .int .i64 0]) rfl rfl (by kernel_rfl)) rfl<|.nl)<|gE1 (fun _ _ h_=>x_lit (n:=4) (cs:= [.int .i64 1, .int .i64 0, .int .i64 1, .int .i64 0, .int .i64 9, .int .i64 0, .int .i64 0, .int .i64 0, .int .i64 8, .int .i64 1, .int .i64 1, .int .i64 0, .int .i64 16, .int .i64 1, .int .i64 0, .int .i64 0]) ([(⟨1,0,1,0⟩:Ins),(⟨9,0,0,0⟩:Ins),(⟨8,1,1,0⟩:Ins),(⟨16,1,0,0⟩:Ins)]:List Ins) h_ sl_33 ti_32 rfl rfl rfl (by decide) rfl (by kernel_rfl) rfl (fun q hq w h=>Flat.inner _ _) (fun q hq b hb=>(Flat.on _ _ hb).elim) rfl rfl) rfl fun v14=>gRn (oM 1 rfl<|.nl)<|nK k13<|sK fun _ k15=>gRn (oV (r_build (cs:= [.int .i64 1, .int .i64 0, .int .i64 1, .int .i64 0]) rfl rfl (by kernel_rfl)) rfl<|oV (r_build (cs:= [.int .i64 9, .int .i64 1, .int .i64 0, .int .i64 0]) rfl rfl (by kernel_rfl)) rfl<|oV (r_build (cs:= [.int .i64 8, .int .i64 1, .int .i64 0, .int .i64 0]) rfl rfl (by kernel_rfl)) rfl<|oV (r_build (cs:= [.int .i64 16, .int .i64 1, .int .i64 0, .int .i64 0]) rfl rfl (by kernel_rfl)) rfl<|.nl)<|gE1 (fun _ _ h_=>x_lit (n:=4) (cs:= [.int .i64 1, .int .i64 0, .int .i64 1, .int .i64 0, .int .i64 9, .int .i64 1, .int .i64 0, .int .i64 0, .int .i64 8, .int .i64 1, .int .i64 0, .int .i64 0, .int .i64 16, .int .i64 1, .int .i64 0, .int .i64 0]) ([(⟨1,0,1,0⟩:Ins),(⟨9,1,0,0⟩:Ins),(⟨8,1,0,0⟩:Ins),(⟨16,1,0,0⟩:Ins)]:List Ins) h_ sl_33 ti_32 rfl rfl rfl (by decide) rfl (by kernel_rfl) rfl (fun q hq w h=>Flat.inner _ _) (fun q hq b hb=>(Flat.on _ _ hb).elim) rfl rfl) rfl fun v16=>gRn (oM 1 rfl<|.nl)<|nK k15<|sK fun _ k17=>gRn (oM 2 rfl<|.nl)<|fun a22 w22 h22=>wl_ex (x_lit (n:=2) (cs:= [v14,v16]) ([⟨v14⟩,⟨v16⟩]:List RV) h22 sl_22 ti_33 rfl rfl rfl (by decide) rfl (by obtain ⟨A23,n23,c23,(e23:v14=_)⟩:=((h22.sh.own 1 rfl)).form;rw [e23];obtain ⟨A21,n21,c21,(e21:v16=_)⟩:=((h22.sh.own 0 rfl)).form;rw [e21];kernel_rfl) rfl (fun _ _ _ _=>trivial) (fun q hq b hb=>(Flat.on _ _ hb).elim) rfl rfl) (wanted_none rfl _) ?_;clear h10
 rintro a24 w24 ⟨v24,h24⟩
 have h25:=h24.sel (L' := [_,_,_,_]) [0,2,1,3] rfl
 have h26:St 18 (fun _=>False) W a24 w24 _ _:=⟨h25.fr,(Sh.close (B:=matX (.own 32) 33 v24 [(⟨v14, [(⟨1,0,1,0⟩:Ins),(⟨9,0,0,0⟩:Ins),(⟨8,1,1,0⟩:Ins),(⟨16,1,0,0⟩:Ins)]⟩:Ls Ins),(⟨v16, [(⟨1,0,1,0⟩:Ins),(⟨9,1,0,0⟩:Ins),(⟨8,1,0,0⟩:Ins),(⟨16,1,0,0⟩:Ins)]⟩:Ls Ins)]) h25.sh).matDeep own_mat⟩
 clear h25
 clear h22
 refine gG h26<|gE1 (fun _ _ h_=>x_lit (n:=2) (cs:= [.int .i64 0, .int .i64 0]) ([0,0]:List Int) h_ sl_23 ti_3 rfl rfl rfl (by decide) rfl (by kernel_rfl) rfl (fun q hq w h=>Flat.inner _ _) (fun q hq b hb=>(Flat.on _ _ hb).elim) rfl rfl) rfl fun v27=>gRn (oV (r_buildS (cs:= [v24,v27, .int .i64 0, .int .i64 2]) rfl rfl (fun w h=>by obtain ⟨A29,n29,c29,(e29:v27=_)⟩:=((h.own 0 rfl)).form;rw [e29];obtain ⟨A28,n28,c28,(e28:v24=_)⟩:=((h.deep 1 rfl)).form;rw [e28];kernel_rfl)) rfl<|.nl)<|gE (fun _ _ h_=>x_stb (i:=2) (vs:= [v24,v27, .int .i64 0, .int .i64 2]) (cs' := [v24,v27, .int .i64 0, .int .i64 2]) h_ ti_25 rfl rfl rfl rfl rfl rfl rfl (allOne_cons ((h_.sh.deep 1 rfl)).one (allOne_cons ((h_.sh.own 0 rfl)).one (allOne_cons rfl (allOne_cons rfl allOne_nil)))) (Nat.le_of_ble_eq_true rfl) rfl) rfl<|nK k17<|gR<|fun a31 w31 h31=> ?_;clear h26
 refine x_ret1c (fn:=Tryz.f38) (t:=0) (i:=2) ti_25 rfl h31 rfl rfl rfl ?_
 exact ⟨⟨v24, [(⟨v14, [(⟨1,0,1,0⟩:Ins),(⟨9,0,0,0⟩:Ins),(⟨8,1,1,0⟩:Ins),(⟨16,1,0,0⟩:Ins)]⟩:Ls Ins),(⟨v16, [(⟨1,0,1,0⟩:Ins),(⟨9,1,0,0⟩:Ins),(⟨8,1,0,0⟩:Ins),(⟨16,1,0,0⟩:Ins)]⟩:Ls Ins)]⟩,⟨v27, [0,0]⟩,rfl,rfl,rfl,(h31.sh.sel [1,0] rfl)⟩
theorem kints_c (x y:Ls Int)(W:World)(hx:x.At W)(hy:y.At W):
    Rets Tryz.prog 78 [x.v,y.v] W (fun v w' =>v= .bool (decide (x.l=y.l))∧Sh0 W w' []):=by
 refine gen Tryz.func78 Tryz.ntmps78 (Sh0.ext2 hx hy:Sh (fun _=>False) W W [.at_ x, .at_ y]) rfl fun a10 h10=>gG h10<|sG (oM 1 rfl<|.nl)<|gK fun _ k12=>sK fun _ k13=>gNl (aA 0 rfl) fun hl14=>gNl (aA 1 rfl) fun hl15=>gRn (oM 1 rfl<|oln sl_23 (aA 0 rfl) rfl<|oM 1 rfl<|oln sl_23 (aA 1 rfl) rfl<|oneN _ _ rfl<|.nl)<|nK k13<|?_;clear h10
 refine gcd rfl (fun hb16 hp16=> ?_) fun hb16 hp16=> ?_
 ·skip
  refine sG (oM 1 rfl<|.nl)<|gR<|uT<|fun a18 w18 h18=>x_ret1 (fn:=Tryz.f78) (t:=4) rfl h18 rfl<|⟨?_,(h18.sh.sel [] rfl)⟩
  congr 1
  first|(exact (decide_eq_true (ext_nth _ _ (by omega) fun i hi=>hall i (by omega))).symm)|(refine (decide_eq_false fun e=> ?_).symm;first|(rw [e] at*;omega)|(simp_all;done))
 refine gS<|hK k12<|gK fun _ k19=>sG (oM 1 rfl<|.nl)<|gB<|fun a22 w22 h22=>x_loop (fun m a w=>∃(k:Nat),(k≤x.l.length)∧(∀j,j<k→nth x.l j=nth y.l j)∧St 26 (fun _=>False) W a w [(0,x.v),(1,y.v),(5, .int .i64 ((k:Nat):Int))] [.at_ x, .at_ y]∧m=x.l.length-k) ⟨_,0,(by omega),(fun j hj=>absurd hj (by omega)),h22.nf ⟨rfl,rfl,rfl,trivial⟩,rfl⟩ ?_
 clear h22
 rintro m21 a21 w21 ⟨k,hk,hall,h21,hm21⟩
 refine gG h21<|gK fun _ k23=>sG (oM 2 rfl<|oln sl_23 (aA 0 rfl) rfl<|oltN _ _ rfl<|.nl)<|?_;clear h21
 refine gcd rfl (fun hb25 hp25=> ?_) fun hb25 hp25=> ?_
 ·skip
  refine gS<|hK k23<|gK fun _ k26=>gB<|gK fun _ k27=>rQ (oM 2 rfl<|oxN sl_23 ti_3 (aA 0 rfl) _ om9 rfl<|olI ti_3 (aA 0 rfl) om9 rfl<|oM 2 rfl<|oxN sl_23 ti_3 (aA 1 rfl) _ om9 rfl<|olI ti_3 (aA 1 rfl) om9 rfl<|oneI _ _ rfl<|.nl)<|hK k27<|gcd rfl (fun hb28 hp28=> ?_) fun hb28 hp28=> ?_
  ·skip
   refine sG (oM 1 rfl<|.nl)<|gR<|uB<|uT<|uT<|uB<|uT<|fun a30 w30 h30=>x_ret1 (fn:=Tryz.f78) (t:=4) rfl h30 rfl<|⟨?_,(h30.sh.sel [] rfl)⟩
   congr 1
   first|(exact (decide_eq_true (ext_nth _ _ (by omega) fun i hi=>hall i (by omega))).symm)|(refine (decide_eq_false fun e=> ?_).symm;first|(rw [e] at*;omega)|(simp_all;done))
  refine gS<|hK k26<|gL<|gRn (oM 1 rfl<|oadN _ 1 om9 rfl<|oM 1 rfl<|.nl)<|nN<|fun a31 w31 h31=>x_again ⟨_, ?_,k+1, ?_, ?_,h31.nf ⟨rfl,rfl,rfl,trivial⟩,rfl⟩
  · rw [hm21];first|omega|(simp only [lens9];omega)
  · omega
  · intro j hj;rcases Nat.lt_or_ge j k with h|h;exact hall j h;obtain rfl:j=k:=(by omega);omega
 refine gX<|hK k19<|sG (oM 1 rfl<|.nl)<|gR<|fun a33 w33 h33=>x_ret1 (fn:=Tryz.f78) (t:=4) rfl h33 rfl<|⟨?_,(h33.sh.sel [] rfl)⟩
 congr 1
 first|(exact (decide_eq_true (ext_nth _ _ (by omega) fun i hi=>hall i (by omega))).symm)|(refine (decide_eq_false fun e=> ?_).symm;first|(rw [e] at*;omega)|(simp_all;done))
theorem found_c (al:Ls OutL)(o1:OutL)(W:World)(ha:al.At W)(hw:o1.words.At W)(hp:o1.prints.At W):
    Rets Tryz.prog 35 [al.v, .agg #[.int .i64 o1.st,o1.words.v,o1.prints.v]] W (fun v w' =>v= .bool (decide (o1.out∈al.l.map OutL.out))∧Sh0 W w' []):=by
 refine gen Tryz.func35 Tryz.ntmps35 (Sh0.ext3 ha hw hp:Sh (fun _=>False) W W [.at_ al, .at_ o1.words, .at_ o1.prints]) rfl fun a10 h10=>gG h10<|sK fun _ k11=>gbx rfl rfl fun b12=>gRn (oM 1 rfl<|.nl)<|nK k11<|gK fun _ k13=>sG (oM 1 rfl<|.nl)<|gB<|fun a16 w16 h16=>x_loop (fun m a w=>∃(k:Nat),(k≤al.l.length)∧(∀j,j<k→(nth al.l j).out≠o1.out)∧St 44 (fun _=>False) W a w [(0,al.v),(3, .pointer (some ⟨b12,0,none⟩)),(5, .int .i64 ((k:Nat):Int))] [.blk b12 39 [.int .i64 o1.st,o1.words.v,o1.prints.v], .at_ al, .at_ o1.words, .at_ o1.prints]∧m=al.l.length-k) ⟨_,0,(by omega),(fun j hj=>absurd hj (by omega)),h16.nf ⟨rfl,rfl,rfl,trivial⟩,rfl⟩ ?_;clear h10
 clear h16
 rintro m15 a15 w15 ⟨k,hk,hno,h15,hm15⟩
 refine gG h15<|gK fun _ k17=>sK fun _ k18=>gNl (aA 1 rfl) fun hl19=>gRn (oM 2 rfl<|oln sl_35 (aA 1 rfl) rfl<|oltN _ _ rfl<|.nl)<|nK k18<|?_;clear h15
 refine gcd rfl (fun hb20 hp20=> ?_) fun hb20 hp20=> ?_
 ·skip
  refine gS<|hK k17<|gK fun _ k21=>gB<|gK fun _ k22=>fun a23 w23 h23=>x_quiet (by kernel_rfl) (by kernel_rfl) h23 fun _ z24=>qQ h23.fr<|qRn (oM 2 rfl<|oxN sl_35 ti_39 (aA 1 rfl) _ om9 rfl<|ofE fl_39_1 rfl<|olE (((nth al.l k).words).v) ti_23 (aA 1 rfl) om9 rfl<|ofB fl_39_1 rfl<|olB 0 ti_23 rfl rfl<|.nl)<|qP bd_78 rfl (fun w h=>(kints_c ((nth al.l k).words) o1.words _ ((h.at 1 rfl).inner k (show k<al.l.length from (by omega))).1 (h.at 2 rfl)))<|qRn (oM 1 rfl<|.nl)<|qN z24<|hK k22<|gK fun _ k25=>fun a26 w26 h26=>x_quiet (by kernel_rfl) (by kernel_rfl) h26 fun _ z27=>qQ h26.fr<|qRn (oM 2 rfl<|oxN sl_35 ti_39 (aA 1 rfl) _ om9 rfl<|ofE fl_39_2 rfl<|olE (((nth al.l k).prints).v) ti_23 (aA 1 rfl) om9 rfl<|ofB fl_39_2 rfl<|olB 0 ti_23 rfl rfl<|.nl)<|qP bd_78 rfl (fun w h=>(kints_c ((nth al.l k).prints) o1.prints _ ((h.at 1 rfl).inner k (show k<al.l.length from (by omega))).2 (h.at 3 rfl)))<|qRn (oM 1 rfl<|.nl)<|qN z27<|hK k25<|gK fun _ k28=>fun a29 w29 h29=>x_quiet (by kernel_rfl) (by kernel_rfl) h29 fun _ z30=>qQ h29.fr<|qRn (oM 2 rfl<|oxN sl_35 ti_39 (aA 1 rfl) _ om9 rfl<|ofE fl_39_0 rfl<|olI ti_3 (aA 1 rfl) om9 rfl<|ofB fl_39_0 rfl<|olB 0 ti_3 rfl rfl<|oeqI _ _ rfl<|oM 1 rfl<|.nl)<|?_;clear h23 h26
  rcases dsp ((nth al.l k).st=o1.st) with ⟨hb31,hp31⟩|⟨hb31,hp31⟩
  ·skip
   refine qRn (oG hb31 (r_move rfl rfl) rfl<|opT hb31 rfl<|oM 1 rfl<|.nl)<|?_
   rcases dsp (((nth al.l k).words).l=o1.words.l) with ⟨hb33,hp33⟩|⟨hb33,hp33⟩
   ·skip
    refine qRn (oG hb33 (r_move rfl rfl) rfl<|opT hb33 rfl<|.nl)<|qN z30<|?_;clear h29
    refine hK k28<|gF [0,3,5,43] rfl<|gcd rfl (fun hb35 hp35=> ?_) fun hb35 hp35=> ?_
    ·skip
     refine sG (oM 1 rfl<|.nl)<|gR<|uB<|uT<|uT<|uB<|uT<|fun a37 w37 h37=>x_ret1 (fn:=Tryz.f35) (t:=4) rfl h37 rfl<|⟨congrArg Value.bool ?_,(h37.sh.sel [] rfl)⟩
     exact (decide_eq_true (found_yes (k:=k) (by omega) (by first|assumption|omega) (by assumption) (by assumption))).symm
    refine gS<|hK k21<|gL<|gRn (oM 1 rfl<|oadN _ 1 om9 rfl<|oM 1 rfl<|.nl)<|nN<|fun a38 w38 h38=>x_again ⟨_, ?_,k+1, ?_, ?_,h38.nf ⟨rfl,rfl,rfl,trivial⟩,rfl⟩
    · rw [hm15];first|omega|(simp only [lens9];omega)
    · omega
    · exact snocQ hno (fun e9=>by obtain ⟨e1,e2,e3⟩:=out_iff.1 e9;contradiction)
   refine qRn (oK hb33 rfl<|opF hb33 rfl<|.nl)<|qN z30<|?_;clear h29
   refine hK k28<|gF [0,3,5,43] rfl<|gcF rfl rfl<|gS<|hK k21<|gL<|gRn (oM 1 rfl<|oadN _ 1 om9 rfl<|oM 1 rfl<|.nl)<|nN<|fun a40 w40 h40=>x_again ⟨_, ?_,k+1, ?_, ?_,h40.nf ⟨rfl,rfl,rfl,trivial⟩,rfl⟩
   · rw [hm15];first|omega|(simp only [lens9];omega)
   · omega
   · exact snocQ hno (fun e9=>by obtain ⟨e1,e2,e3⟩:=out_iff.1 e9;contradiction)
  refine qRn (oK hb31 rfl<|opF hb31 rfl<|oM 1 rfl<|oK rfl rfl<|opF rfl rfl<|.nl)<|qN z30<|?_;clear h29
  refine hK k28<|gF [0,3,5,43] rfl<|gcF rfl rfl<|gS<|hK k21<|gL<|gRn (oM 1 rfl<|oadN _ 1 om9 rfl<|oM 1 rfl<|.nl)<|nN<|fun a43 w43 h43=>x_again ⟨_, ?_,k+1, ?_, ?_,h43.nf ⟨rfl,rfl,rfl,trivial⟩,rfl⟩
  · rw [hm15];first|omega|(simp only [lens9];omega)
  · omega
  · exact snocQ hno (fun e9=>by obtain ⟨e1,e2,e3⟩:=out_iff.1 e9;contradiction)
 refine gX<|hK k13<|sG (oM 1 rfl<|.nl)<|gR<|fun a45 w45 h45=>x_ret1 (fn:=Tryz.f35) (t:=4) rfl h45 rfl<|⟨congrArg Value.bool ?_,(h45.sh.sel [] rfl)⟩
 exact (decide_eq_false (found_no (by omega) hno)).symm
theorem kended_c (pr wd:Ls Int)(st:Int)(sn:Nat)(W:World)(hp:pr.At W)(hw:wd.At W):
    Rets Tryz.prog 34 [.agg #[pr.v, .int .i64 st,wd.v, .int .i64 ((sn:Nat):Int)]] W (fun v w' =>v= .agg #[.int .i64 st,(endW st wd).v,pr.v]∧Sh0 W w' []):=by
 refine gen Tryz.func34 Tryz.ntmps34 (Sh0.ext2 hp hw:Sh (fun _=>False) W W [.at_ pr, .at_ wd]) rfl fun a10 h10=>gG h10<|sK fun _ k11=>gbx rfl rfl fun b12=>gal ti_39 rfl fun b13=>nK k11<|sK fun _ k14=>gRn (ofB fl_60_1 rfl<|olB 1 ti_3 rfl rfl<|ofB fl_60_0 rfl<|olB 1 ti_23 rfl rfl<|oV (r_buildS (cs:= [.int .i64 st,(.slice none 0 0),pr.v]) rfl rfl (fun w h=>by obtain ⟨A15,n15,c15,(e15:pr.v=_)⟩:=((h.at 2 rfl)).form;rw [e15];kernel_rfl)) rfl<|.nl)<|gal ti_39 rfl fun b16=>gE (fun _ _ h_=>x_stb (i:=0) (vs:= [.int .i64 st,(.slice none 0 0),pr.v]) (cs' := [.int .i64 st,(.slice none 0 0),pr.v]) h_ ti_39 rfl rfl rfl rfl rfl rfl rfl (allOne_cons rfl (allOne_cons rfl (allOne_cons ((h_.sh.at 3 rfl)).one allOne_nil))) (Nat.le_of_ble_eq_true rfl) rfl) rfl<|nK k14<|gK fun _ k18=>sG (ofB fl_60_1 rfl<|olB 2 ti_3 rfl rfl<|oneI _ _ rfl<|.nl)<|?_;clear h10
 refine gcd rfl (fun hb20 hp20=> ?_) fun hb20 hp20=> ?_
 ·skip
  refine gL<|gRn (ofB fl_60_2 rfl<|olB 2 ti_23 rfl rfl<|ofB fl_39_1 rfl<|.nl)<|gsr 0 ti_23 rfl (aA 4 rfl) rfl<|nK k18<|sK fun _ k22=>gRn (olw 0 ti_39 rfl rfl<|.nl)<|gE (fun _ _ h_=>x_stb (i:=1) (vs:= [.int .i64 st,wd.v,pr.v]) (cs' := [.int .i64 st,wd.v,pr.v]) h_ ti_39 rfl rfl rfl rfl rfl rfl rfl (allOne_cons rfl (allOne_cons ((h_.sh.at 4 rfl)).one (allOne_cons ((h_.sh.at 3 rfl)).one allOne_nil))) (Nat.le_of_ble_eq_true rfl) rfl) rfl<|nK k22<|gR<|fun a24 w24 h24=>x_ret1c (fn:=Tryz.f34) (t:=2) (i:=1) ti_39 rfl h24 rfl rfl rfl<|⟨?_,(h24.sh.sel [] rfl)⟩
  rw [show endW st wd=wd from if_neg (of_decide_eq_true hb20)]
 refine gS<|hK k18<|sK fun _ k25=>gRn (olw 0 ti_39 rfl rfl<|.nl)<|gE (fun _ _ h_=>x_stb (i:=1) (vs:= [.int .i64 st,(.slice none 0 0),pr.v]) (cs' := [.int .i64 st,(.slice none 0 0),pr.v]) h_ ti_39 rfl rfl rfl rfl rfl rfl rfl (allOne_cons rfl (allOne_cons rfl (allOne_cons ((h_.sh.at 3 rfl)).one allOne_nil))) (Nat.le_of_ble_eq_true rfl) rfl) rfl<|nK k25<|gR<|fun a27 w27 h27=>x_ret1c (fn:=Tryz.f34) (t:=2) (i:=1) ti_39 rfl h27 rfl rfl rfl<|⟨?_,(h27.sh.sel [] rfl)⟩
 rw [show endW st wd=⟨.slice none 0 0, []⟩ from if_pos (by have h9:=of_decide_eq_false hb20;omega)]
end Go.Proofs.YtmjkobhkkjgplaaGreatDoor
namespace Go.Proofs.YtmjkobhkkjgplaaGreatDoor
open Go.ChangeShapes Go.WideShapes Go.ChangeAt Go.RowKit
open Go.Deep (open_slice)
set_option linter.unusedSimpArgs false
set_option linter.unusedVariables false
class Rd (α:Type) extends Enc α where
 ty:Program→TypeId→Prop
 fine:α→Prop
 read:∀ {H:Type} {enc:TypeId×Value→H} {P:Program} {w:World} {base:Nat} {spare:Nat→Bool} {held:Bool} {fuel:Nat} {T:TypeId} {cs:List Value} {x:DataW H×List MemPlace},
  ty P T→DataW.trod enc P w base spare held fuel T cs=some x→(∀n∈DataW.weights P T x.1,n≤reachBytes)→∃a:α,cs=cellsOf a∧Enc.inner a w∧fine a
instance : Rd Int where
 ty P T:=P.underlying T=some (.int .i64)
 fine n:=(Lit.int .i64 n).wf=true
 read hT h _:=by
  obtain ⟨n,rfl,_,hw⟩:=DataW.trod_int hT h
  exact ⟨n,rfl,trivial,hw⟩
instance : Rd Bool where
 ty P T:=P.underlying T=some .bool
 fine _:=True
 read hT h _:=by
  obtain ⟨b,rfl,_⟩:=DataW.trod_bool hT h
  exact ⟨b,rfl,trivial,trivial⟩
def intFields (P:Program)(fs:Array Field)(n:Nat):Prop:=fs.size=n∧∀(j:Nat) (f:Field),fs[j]? =some f→f.offset=j∧P.underlying f.type=some (.int .i64)∧P.cellsOf f.type=1
theorem read_ints {H:Type}{enc:TypeId×Value→H}{P:Program}{w:World}{base:Nat}{spare:Nat→Bool}{held:Bool}{fuel:Nat}{T:TypeId}{cs:List Value}{x:DataW H×List MemPlace}{fs:Array Field}{n:Nat}
  (hT:P.underlying T=some (.struct fs)) (hfs:intFields P fs n) (hC:P.cellsOf T=n) (h:DataW.trod enc P w base spare held fuel T cs=some x):
  cs.length=n∧∀j,j<n→∃k:Int,cs[j]? =some (.int .i64 k)∧(Lit.int .i64 k).wf=true:=by
 obtain ⟨xs,m,_,_,hlen,hxl,hf⟩:=DataW.trod_struct hT h
 refine ⟨hlen.trans hC,fun j hj=> ?_⟩
 obtain ⟨hs,hall⟩:=hfs
 have hjs:j<fs.size:=by omega
 obtain ⟨ho,ht,hc⟩:=hall j fs[j] (by simp [hjs])
 have h1:=hf j fs[j] (by simp [hjs])
 rw [ho,hc,List.getElem?_eq_getElem (by omega)] at h1
 obtain ⟨k,hk,_,hw⟩:=DataW.trod_int ht h1
 refine ⟨k, ?_,hw⟩
 rw [List.drop_eq_getElem_cons (by omega)] at hk
 simp only [List.take_succ_cons,List.take_zero,List.cons.injEq,and_true] at hk
 rw [List.getElem?_eq_getElem (by omega),hk]
instance : Rd Ins where
 ty P T:=∃fs,P.underlying T=some (.struct fs)∧intFields P fs 4∧P.cellsOf T=4
 fine x:=(Lit.int .i64 x.op).wf=true∧(Lit.int .i64 x.a).wf=true∧(Lit.int .i64 x.b).wf=true∧(Lit.int .i64 x.c).wf=true
 read:=by
  rintro H enc P w base spare held fuel T cs x ⟨fs,hT,hfs,hC⟩ h _
  obtain ⟨hl,hj⟩:=read_ints hT hfs hC h
  obtain ⟨k0,e0,w0⟩:=hj 0 (by omega)
  obtain ⟨k1,e1,w1⟩:=hj 1 (by omega)
  obtain ⟨k2,e2,w2⟩:=hj 2 (by omega)
  obtain ⟨k3,e3,w3⟩:=hj 3 (by omega)
  match cs,hl with
  | [c0,c1,c2,c3],_=>
   simp only [List.getElem?_cons_zero,List.getElem?_cons_succ,Option.some.injEq] at e0 e1 e2 e3
   subst e0 e1 e2 e3
   exact ⟨⟨k0,k1,k2,k3⟩,rfl,trivial,w0,w1,w2,w3⟩
theorem weights_slice {H:Type}{P:Program}{T e:TypeId}{elems spare:List (DataW H)}(hT:P.underlying T=some (.slice e))(h:∀n∈DataW.weights P T (.slice elems spare),n≤reachBytes):
  (elems.length+spare.length)*P.bytesOf e≤reachBytes∧∀d∈elems,∀n∈DataW.weights P e d,n≤reachBytes:=by
 unfold DataW.weights at h
 rw [hT] at h
 refine ⟨h _ (by simp),fun d hd n hn=>h n ?_⟩
 have:∀l:List (DataW H),d∈l→n∈DataW.weightsAll P e l:=by
  intro l hl
  induction l with
  |nil=>cases hl
  |cons y l ih=>
   unfold DataW.weightsAll
   rcases List.mem_cons.1 hl with rfl|hl
   ·exact List.mem_append.2 (.inl hn)
   ·exact List.mem_append.2 (.inr (ih hl))
 simp only [List.mem_cons,List.mem_append]
 exact .inr (.inl (this _ hd))
instance {α:Type}[Rd α]:Rd (Sl α) where
 ty P T:=∃e,P.underlying T=some (.slice e)∧P.cellsOf e=Enc.sz α∧1≤P.bytesOf e∧0<Enc.sz α∧Rd.ty α P e
 fine s:=∀i,i<s.l.length→Rd.fine (nth s.l i)
 read:=by
  rintro H enc P w base spare held fuel T cs x ⟨e,hT,hC,hB,hpos,hty⟩ h hw
  rcases open_slice hT h with ⟨rfl,rfl⟩|⟨a,len,cap,m,n,D,Pl,rfl,_,hl,hm,hmm,rfl,hi⟩
  ·refine ⟨⟨none,0, []⟩,rfl,⟨Nat.le_refl _,by simp,by simp,fun hh=>absurd hh (by simp),fun hh=>absurd hh (by simp),fun i j hi=>absurd hi (by simp),fun i hi=>absurd hi (by simp)⟩,fun i hi=>absurd hi (by simp)⟩
  ·obtain ⟨hb,hd⟩:=weights_slice hT hw
   have hlm:len≤m:=by rw [hmm];split<;>omega
   have hlen:len≤140737488355328:=by
    simp only [List.length_map,List.length_range,reachBytes] at hb
    have:(len+(m-len))*1≤(len+(m-len))*P.bytesOf e:=Nat.mul_le_mul_left _ hB
    omega
   have key:∀i,i<len→∃y:α,(∀j,j<Enc.sz α→w.cell? ((a.add (i*Enc.sz α)).add j)=some (Enc.cell y j))∧Enc.inner y w∧Rd.fine y:=by
    intro i hil
    obtain ⟨cs',hc',ht'⟩:=hi i (by omega)
    obtain ⟨y,hy,hin,hf⟩:=Rd.read hty ht' (hd _ (List.mem_map.2 ⟨i,by simpa using hil,rfl⟩))
    obtain ⟨_,hcl,hat⟩:=World.cells?_some hc'
    rw [hC] at hc' hat hcl
    refine ⟨y,fun j hj=> ?_,hin,hf⟩
    rw [hat j (by first|exact hj|omega)]
    subst hy
    simp [cellsOf,hj]
   obtain ⟨F,hF⟩:=Go.Deep.choose_lt key
   let l:=(List.range len).map F
   have hll:l.length=len:=by simp [l]
   have hn:∀i,i<len→nth l i=F i:=by intro i hil;simp [nth,l,hil]
   have hcell0:0<len→∃v,w.cell? a=some v:=fun h0=>⟨_,by
    have h1:=(hF 0 h0).1 0 hpos
    rw [Nat.zero_mul,Addr.add_zero',Addr.add_zero'] at h1
    exact h1⟩
   have hspot:0<len→a.spot=none:=by
    intro h0
    obtain ⟨v,hv⟩:=hcell0 h0
    unfold World.cell? at hv
    split at hv
    ·split at hv
     ·cases hv
     ·rename_i hs
      simpa using hs
    ·cases hv
   refine ⟨⟨some a,cap,l⟩,by simp [cellsOf,Enc.cell,Enc.sz,hll],⟨by rw [hll];exact hl,hm,by rw [hll];exact hlen, ?_, ?_, ?_, ?_⟩, ?_⟩
   ·intro h0
    exact ⟨a,rfl,hspot (by rw [←hll];exact h0)⟩
   ·intro h0
    obtain ⟨v,hv⟩:=hcell0 (by rw [←hll];exact h0)
    exact World.block_lt_of_cell? w a hv
   ·intro i j hi' hj
    rw [hll] at hi'
    show w.cell? ⟨a.block,a.off+i*Enc.sz α+j,none⟩=some (Enc.cell (nth l i) j)
    rw [hn i hi',←(hF i hi').1 j hj]
    have hs:=hspot (by omega)
    rcases a with ⟨b,o,sp⟩
    simp only at hs
    subst hs
    rw [Addr.add_lit,Addr.add_lit]
   ·intro i hi'
    rw [hll] at hi'
    rw [hn i hi']
    exact (hF i hi').2.1
   ·intro i hi'
    rw [hll] at hi'
    rw [hn i hi']
    exact (hF i hi').2.2
def prFields (P:Program)(fs:Array Field):Prop:=
 ∃f0 f1 f2 f3:Field,fs= #[f0,f1,f2,f3]∧(f0.offset=0∧P.cellsOf f0.type=1∧Rd.ty (Sl (Sl Ins)) P f0.type)∧(f1.offset=1∧P.cellsOf f1.type=1∧Rd.ty (Sl Int) P f1.type)∧
  (f2.offset=2∧P.cellsOf f2.type=1∧Rd.ty Int P f2.type)∧(f3.offset=3∧P.cellsOf f3.type=1∧Rd.ty Int P f3.type)
def PR.fine (p:PR):Prop:=Rd.fine p.code∧Rd.fine p.words∧(Lit.int .i64 p.locks).wf=true∧(Lit.int .i64 p.regs).wf=true
theorem weights_agg {H:Type}{P:Program}{T:TypeId}{f0 f1 f2 f3:Field}{d0 d1 d2 d3:DataW H}(hT:P.underlying T=some (.struct #[f0,f1,f2,f3]))(h:∀n∈DataW.weights P T (.agg [d0,d1,d2,d3]),n≤reachBytes):
  (∀n∈DataW.weights P f0.type d0,n≤reachBytes)∧(∀n∈DataW.weights P f1.type d1,n≤reachBytes)∧(∀n∈DataW.weights P f2.type d2,n≤reachBytes)∧(∀n∈DataW.weights P f3.type d3,n≤reachBytes):=by
 unfold DataW.weights at h
 rw [hT] at h
 simp only [List.map_cons,List.map_nil,DataW.weightsEach,List.append_nil,List.mem_append] at h
 exact ⟨fun n hn=>h n (.inl hn),fun n hn=>h n (.inr (.inl hn)),fun n hn=>h n (.inr (.inr (.inl hn))),fun n hn=>h n (.inr (.inr (.inr hn)))⟩
theorem open_PR {H:Type}{enc:TypeId×Value→H}{P:Program}{w:World}{base:Nat}{spare:Nat→Bool}{held:Bool}{r:Go.Reach}{b0:Nat}{T:TypeId}{fs:Array Field}{v:Value}{d:DataW H}{p:List MemPlace}
  (hT:P.underlying T=some (.struct fs)) (hfs:prFields P fs) (hC:P.cellsOf T=4) (hv:Value.okWide P w r b0 T v) (h:DataW.Trod enc P w base spare held T v d p) (hw:∀n∈DataW.weights P T d,n≤reachBytes):
  ∃q:PR,v=q.val∧q.At w∧q.fine:=by
 obtain ⟨f0,f1,f2,f3,rfl,⟨o0,c0,t0⟩,⟨o1,c1,t1⟩,⟨o2,c2,t2⟩,⟨o3,c3,t3⟩⟩:=hfs
 obtain ⟨cs,rfl,hsz⟩:=okWide_struct hT hv
 obtain ⟨l⟩:=cs
 match l,hsz.trans hC with
 | [v0,v1,v2,v3],_=>
  obtain ⟨fuel,hf⟩:=h
  obtain ⟨xs,n,_,hx,_,hlen,hg⟩:=DataW.trod_struct hT hf
  match xs,hlen with
  | [y0,y1,y2,y3],_=>
   simp only [Prod.mk.injEq,List.map_cons,List.map_nil] at hx
   rw [hx.1] at hw
   obtain ⟨w0,w1,w2,w3⟩:=weights_agg hT hw
   have g0:=hg 0 f0 rfl
   have g1:=hg 1 f1 rfl
   have g2:=hg 2 f2 rfl
   have g3:=hg 3 f3 rfl
   rw [o0,c0] at g0
   rw [o1,c1] at g1
   rw [o2,c2] at g2
   rw [o3,c3] at g3
   simp [Value.cells] at g0 g1 g2 g3
   obtain ⟨s0,e0,i0,k0⟩:=Rd.read t0 g0 w0
   obtain ⟨s1,e1,i1,k1⟩:=Rd.read t1 g1 w1
   obtain ⟨s2,e2,i2,k2⟩:=Rd.read t2 g2 w2
   obtain ⟨s3,e3,i3,k3⟩:=Rd.read t3 g3 w3
   simp [cellsOf,Enc.cell,Enc.sz] at e0 e1 e2 e3
   subst e0 e1 e2 e3
   exact ⟨⟨s0,s1,s2,s3⟩,rfl,⟨i0,i1⟩,k0,k1,k2,k3⟩
end Go.Proofs.YtmjkobhkkjgplaaGreatDoor
namespace Go.Proofs.YtmjkobhkkjgplaaGreatDoor
open Go.ChangeShapes Go.WideShapes Go.ChangeAt Go.RowKit
set_option linter.unusedSimpArgs false
set_option linter.unusedVariables false
theorem own :ownKnob Tryz.prog.godebug=none:=by kernel_rfl
theorem laidOut :laidOutB Tryz.prog=true:=by kernel_rfl
theorem ty_int :Rd.ty Int Tryz.prog 3:=Tryz.underlying3
theorem ty_ins :Rd.ty Ins Tryz.prog 32:=by
 refine ⟨_,Tryz.underlying32,⟨rfl,fun j f hf=> ?_⟩,by kernel_rfl⟩
 rcases j with _|_|_|_|j<;>simp at hf<;>subst hf<;>exact ⟨rfl,Tryz.underlying3,by kernel_rfl⟩
theorem ty_ints :Rd.ty (Sl Int) Tryz.prog 23:=⟨_,Tryz.underlying23,by kernel_rfl,of_decide_eq_true (by kernel_rfl),by decide,ty_int⟩
theorem ty_code :Rd.ty (Sl Ins) Tryz.prog 33:=⟨_,Tryz.underlying33,by kernel_rfl,of_decide_eq_true (by kernel_rfl),by decide,ty_ins⟩
theorem ty_codes :Rd.ty (Sl (Sl Ins)) Tryz.prog 22:=⟨_,Tryz.underlying22,by kernel_rfl,of_decide_eq_true (by kernel_rfl),by decide,ty_code⟩
theorem ty_pr :∃fs,Tryz.prog.underlying 25=some (.struct fs)∧prFields Tryz.prog fs:=
 ⟨_,Tryz.underlying25,_,_,_,_,rfl,⟨rfl,by kernel_rfl,ty_codes⟩,⟨rfl,by kernel_rfl,ty_ints⟩,⟨rfl,by kernel_rfl,ty_int⟩,⟨rfl,by kernel_rfl,ty_int⟩⟩
section
variable {α:Type}[Enc α]
def ofSl (s:Sl α):Ls α:=⟨.slice s.A s.l.length s.cap,s.l⟩
theorem ofSl_at {s:Sl α}{w:World}(h:s.At w):(ofSl s).At w:=⟨s.A,s.cap,rfl,h⟩
def ofSl2 (s:Sl (Sl α)):Ls (Ls α):=⟨.slice s.A s.l.length s.cap,s.l.map ofSl⟩
theorem ofSl2_at {s:Sl (Sl α)}{w:World}(h:s.At w):(ofSl2 s).At w:=by
 refine ⟨s.A,s.cap,by simp [ofSl2],⟨by simpa [ofSl2] using h.le,h.max,by simpa [ofSl2] using h.len,by simpa [ofSl2] using h.some,by simpa [ofSl2] using h.lt',fun i j hi hj=> ?_,fun i hi=> ?_⟩⟩
 ·have hi' :i<s.l.length:=by simpa [ofSl2] using hi
  show w.cell? _=some (Enc.cell (nth (s.l.map ofSl) i) j)
  rw [nth_map' ofSl _ _ hi']
  exact h.cell i j hi' hj
 ·have hi' :i<s.l.length:=by simpa [ofSl2] using hi
  show Enc.inner (nth (s.l.map ofSl) i) w
  rw [nth_map' ofSl _ _ hi']
  exact ofSl_at (h.inner i hi')
end
end Go.Proofs.YtmjkobhkkjgplaaGreatDoor
namespace Go.Proofs.YtmjkobhkkjgplaaGreatDoor
open Go.RowKit
set_option linter.unusedSimpArgs false
set_option linter.unusedVariables false
theorem buf_ok :OkPg bufP:=checkG_code_pos.1 (by kernel_rfl)
theorem buf_r :PgR bufP:=by constructor<;>simp [bufP,R64I,R64L,R64]
theorem buf_pg {code:Ls (Ls Ins)}{words0:Ls Int}(hc:code.l.map (·.l)=bufP.code)(hw:words0.l= [0,0]):pgN code words0 0 2=bufP:=by
 simp only [pgN,pgOf,hc,hw]
 rfl
theorem sscB (code:Ls (Ls Ins))(words0:Ls Int)(W:World)(hcode:code.At W)(hwords:words0.At W)(hc:code.l.map (·.l)=bufP.code)(hw:words0.l= [0,0]):
  Rets Tryz.prog 29 [.agg #[code.v,words0.v, .int .i64 0, .int .i64 2]] W (fun v w' =>∃u:Ls OutL,v= .tuple #[u.v, .agg #[.int .i64 0, .int .i64 0, .int .i64 0]]∧FRes bufP 0 (fun (_:Unit) _=>()) () (fun _=>False) W true u ()∧Sh0 W w' [.own 39 u]):=by
 have e:=buf_pg hc hw
 refine Rets.mono (ssc_k code words0 0 2 W hcode hwords (e▸buf_ok) (e▸buf_r)) ?_
 rintro v w' ⟨u,ok,rfl,hf,hs⟩
 rw [e] at hf
 cases ok with
 |false=>exact absurd (hf.big rfl).1 buf_big.1
 |true=>exact ⟨u,rfl,hf,hs⟩
theorem stsoB (code:Ls (Ls Ins))(words0:Ls Int)(W:World)(hcode:code.At W)(hwords:words0.At W)(hc:code.l.map (·.l)=bufP.code)(hw:words0.l= [0,0]):
  Rets Tryz.prog 18 [.agg #[code.v,words0.v, .int .i64 0, .int .i64 2]] W (fun v w' =>∃u:Ls OutL,v= .tuple #[u.v, .agg #[.int .i64 0, .int .i64 0, .int .i64 0]]∧FRes bufP 1 (fun (_:Unit) _=>()) () (fun _=>False) W true u ()∧Sh0 W w' [.own 39 u]):=by
 have e:=buf_pg hc hw
 refine Rets.mono (stso_k code words0 0 2 W hcode hwords (e▸buf_ok) (e▸buf_r)) ?_
 rintro v w' ⟨u,ok,rfl,hf,hs⟩
 rw [e] at hf
 cases ok with
 |false=>exact absurd (hf.big rfl).1 buf_big.2
 |true=>exact ⟨u,rfl,hf,hs⟩
theorem robB (code:Ls (Ls Ins))(words0:Ls Int)(W:World)(hcode:code.At W)(hwords:words0.At W)(hc:code.l.map (·.l)=bufP.code)(hw:words0.l= [0,0]):
  Rets Tryz.prog 21 [.agg #[code.v,words0.v, .int .i64 0, .int .i64 2]] W (fun v w' =>v= .tuple #[.bool false, .agg #[.int .i64 0, .int .i64 0, .int .i64 0]]∧Sh0 W w' []):=by
 have e:=buf_pg hc hw
 refine Rets.mono (rob_k code words0 0 2 W hcode hwords (e▸buf_ok) (e▸buf_r)) ?_
 rintro v w' ⟨rb,rk,rfl,hf,hs⟩
 rw [e] at hf
 cases rk with
 |false=>exact ((hf.no rfl).1.elim (fun h=>absurd h buf_big.1) (fun h=>absurd h buf_big.2))
 |true=>cases rb with
  |false=>exact ⟨rfl,hs⟩
  |true=>exact absurd ((hf.yes rfl).2.2.1 rfl) buf_unlike
theorem buf_len {u v:Ls OutL}{W W' :World}{K K' :Nat→Prop}(h:FRes bufP 0 (fun (_:Unit) _=>()) () K W true u ())(h2:FRes bufP 1 (fun (_:Unit) _=>()) () K' W' true v ()):0<u.l.length∧u.l.length<v.l.length:=by
 have h9:=buf_less (h.good rfl).2.1 (h.good rfl).2.2.1 (h2.good rfl).2.1 (h2.good rfl).2.2.1
 simpa only [List.length_map] using h9
theorem ranIn {p:Pg}{m:Int}{script:List Int}{st:Int}{sn:Nat}{pr wd:Ls Int}{u:Ls OutL}{W:World}{K:Nat→Prop}{b:Bool}(hok:OkPg p)(hrun:runM p m script=⟨st,sn,wd.l,pr.l⟩)(h3:st≠3)(hb:b=true)(hf:FRes p m (fun (_:Unit) _=>()) () K W b u ()):(⟨st,endW st wd,pr⟩:OutL).out∈u.l.map OutL.out:=by
 refine ((hf.good hb).2.2.1 _).2 ?_
 have h9:=run_outs (m:=m) hok script (by rw [hrun];exact h3)
 rw [hrun] at h9
 simpa only [OutL.out,endW_l] using h9
theorem out_in {p:Pg}{u v:Ls OutL}{W W' :World}{K K' :Nat→Prop}{b b' :Bool}{i:Nat}(hf:FRes p 0 (fun (_:Unit) _=>()) () K W b u ())(hg:FRes p 1 (fun (_:Unit) _=>()) () K' W' b' v ())(hb:b=true)(hb' :b' =true)(hi:i<u.l.length):(nth u.l i).out∈v.l.map OutL.out:=((hg.good hb').2.2.1 _).2 (outs_01 (((hf.good hb).2.2.1 _).1 (List.mem_map.2 ⟨_,nth_mem _ _ hi,rfl⟩)))
set_option maxRecDepth 100000
set_option maxHeartbeats 20000000
theorem take_hund {β:Type}{l:List β}{t:Nat}(h1:t≤l.length)(h2:t≤100)(h3:¬(t<l.length∧t<100)):l.take 100=l.take t:=by
 rcases Nat.lt_or_ge t 100 with h|h
 ·rw [List.take_of_length_le (by omega),List.take_of_length_le (by omega)]
 ·rw [show t=100 by omega]
theorem kvast_c (code:Ls (Ls Ins))(words:Ls Int)(locks regs:Int)(W:World)(hcode:code.At W)(hwords:words.At W):
    Rets Tryz.prog 32 [.agg #[code.v,words.v, .int .i64 locks, .int .i64 regs]] W (fun v w' =>v= .bool (vastG (code.l.map (·.l)) words.l)∧Sh0 W w' []):=by
 refine gen Tryz.func32 Tryz.ntmps32 (Sh0.ext2 hcode hwords:Sh (fun _=>False) W W [.at_ code, .at_ words]) rfl fun a10 h10=>gG h10<|sK fun _ k11=>gbx rfl rfl fun b12=>gRn (oM 1 rfl<|.nl)<|nK k11<|sK fun _ k13=>gNl (aA 1 rfl) fun hl14=>gNl (aA 2 rfl) fun hl15=>gRn (ofB fl_25_0 rfl<|olB 0 ti_22 rfl rfl<|oln sl_22 (aA 1 rfl) rfl<|ofB fl_25_1 rfl<|olB 0 ti_23 rfl rfl<|oln sl_23 (aA 2 rfl) rfl<|oadN _ _ (show code.l.length+words.l.length<9223372036854775808 from (by first|omega|(have:=(hcode.inner t (by omega):(nth code.l t).At W).len;omega))) rfl<|oM 1 rfl<|.nl)<|nK k13<|gK fun _ k16=>sG (oM 1 rfl<|.nl)<|gB<|?_;clear h10
 have hwl:=hwords.len
 have hcl:=hcode.len
 intro a19 w19 h19
 refine x_loop (fun m a w=>∃(n t:Nat),(t≤code.l.length∧t≤100)∧((n:Int)=code.l.length+words.l.length+(((code.l.map (·.l)).take t).map fun s=>(s.length:Int)).sum)∧(n≤(t+2)*140737488355328)∧St 39 (fun _=>False) W a w [(1, .pointer (some ⟨b12,0,none⟩)),(3, .int .i64 ((n:Nat):Int)),(4, .int .i64 ((t:Nat):Int))] [.blk b12 25 [code.v,words.v, .int .i64 locks, .int .i64 regs], .at_ code, .at_ words]∧m=code.l.length-t) ⟨_,code.l.length+words.l.length,0,(by omega),(by simp),(by omega),h19.nf ⟨rfl,rfl,rfl,trivial⟩,rfl⟩ ?_
 clear h19
 rintro m18 a18 w18 ⟨n,t,ht,hn,hn2,h18,hm18⟩
 refine gG h18<|gK fun _ k20=>sK fun _ k21=>gRn (oM 1 rfl<|ofB fl_25_0 rfl<|olB 0 ti_22 rfl rfl<|oln sl_22 (aA 1 rfl) rfl<|oltN _ _ rfl<|oM 1 rfl<|.nl)<|?_;clear h18
 rcases dsp (t<code.l.length) with ⟨hb22,hp22⟩|⟨hb22,hp22⟩
 ·skip
  refine gRn (oG hb22 (r_move rfl rfl) rfl<|oG hb22 (r_lssN (p:=t) (q:=100) rfl rfl rfl) rfl<|opT hb22 rfl<|.nl)<|nK k21<|gcd rfl (fun hb23 hp23=> ?_) fun hb23 hp23=> ?_
  ·skip
   refine gS<|hK k20<|?_
   have hlt:=(hcode.inner t (by omega):(nth code.l t).At W).len
   refine gK fun _ k24=>gB<|gL<|gNl (fun w h=>((h.at 1 rfl).nth t (show t<code.l.length from (by omega)))) fun (hl25:((nth code.l t).l).length≤140737488355328)=>gRn (oM 1 rfl<|ofB fl_25_0 rfl<|olB 0 ti_22 rfl rfl<|oM 1 rfl<|oxN sl_22 ti_33 (aA 1 rfl) _ om9 rfl<|olE ((nth code.l t).v) ti_33 (aA 1 rfl) om9 rfl<|oln (n:=((nth code.l t).l).length) sl_33 (fun w h=>((h.at 1 rfl).nth t (show t<code.l.length from (by omega)))) rfl<|oadN _ _ (show n+(((nth code.l t).l).length)<9223372036854775808 from (by first|omega|(have:=(hcode.inner t (by omega):(nth code.l t).At W).len;omega))) rfl<|oM 1 rfl<|.nl)<|nK k24<|gL<|gRn (oM 1 rfl<|oadN _ 1 (show t+1<9223372036854775808 from (by first|omega|(have:=(hcode.inner t (by omega):(nth code.l t).At W).len;omega))) rfl<|oM 1 rfl<|.nl)<|nN<|fun a26 w26 h26=> ?_
   refine x_again ⟨_, ?_,n+(((nth code.l t).l).length),t+1, ?_, ?_, ?_,h26.nf ⟨rfl,rfl,rfl,trivial⟩,rfl⟩
   · rw [hm18];first|omega|(simp only [lens9];omega)
   · omega
   · rw [take_succ_nth _ _ (by simp;omega),List.map_append,List.sum_append,nth_map' _ _ _ (by omega)];simp only [List.map_cons,List.map_nil,List.sum_cons,List.sum_nil];omega
   · omega
  refine gX<|hK k16<|sK fun _ k27=>gRn (oM 1 rfl<|ogtN _ 5000 rfl<|oM 1 rfl<|.nl)<|?_
  rcases dsp (5000<n) with ⟨hb28,hp28⟩|⟨hb28,hp28⟩
  ·skip
   refine gRn (oKs 4 hb28 rfl rfl<|opT hb28 rfl<|oM 1 rfl<|.nl)<|nK k27<|gR<|fun a29 w29 h29=>x_ret1 (fn:=Tryz.f32) (t:=2) rfl h29 rfl<|⟨?_,(h29.sh.sel [] rfl)⟩
   congr 1
   have hv:vastG (code.l.map (·.l)) words.l=(decide (5000<n)||decide (100<code.l.length)):=by unfold vastG;rw [take_hund (l:=code.l.map (·.l)) (t:=t) (by simp;omega) (by omega) (by simp;omega),List.length_map];congr 1<;>(rw [decide_eq_decide];omega)
   rw [hv]
   first|(rw [show decide (5000<n)=true by assumption];rfl)|(rw [show decide (5000<n)=false by assumption];rfl)
  refine gRn (oG hb28 (r_fieldB (r:=0) fl_25_0 rfl rfl rfl) rfl<|oG hb28 (r_ldb (i:=0) ti_22 rfl rfl rfl rfl) rfl<|oG hb28 (r_len (s:=code) (n:=code.l.length) sl_22 rfl rfl (fun w h=>(h.at 1 rfl)) rfl) rfl<|oG hb28 (r_gtrN (p:=code.l.length) (q:=100) rfl rfl rfl) rfl<|opF hb28 rfl<|oM 1 rfl<|.nl)<|nK k27<|gR<|fun a30 w30 h30=>x_ret1 (fn:=Tryz.f32) (t:=2) rfl h30 rfl<|⟨?_,(h30.sh.sel [] rfl)⟩
  congr 1
  have hv:vastG (code.l.map (·.l)) words.l=(decide (5000<n)||decide (100<code.l.length)):=by unfold vastG;rw [take_hund (l:=code.l.map (·.l)) (t:=t) (by simp;omega) (by omega) (by simp;omega),List.length_map];congr 1<;>(rw [decide_eq_decide];omega)
  rw [hv]
  first|(rw [show decide (5000<n)=true by assumption];rfl)|(rw [show decide (5000<n)=false by assumption];rfl)
 refine gRn (oKs 2 hb22 rfl rfl<|opF hb22 rfl<|.nl)<|nK k21<|gcF rfl rfl<|gX<|hK k16<|sK fun _ k31=>gRn (oM 1 rfl<|ogtN _ 5000 rfl<|oM 1 rfl<|.nl)<|?_
 rcases dsp (5000<n) with ⟨hb32,hp32⟩|⟨hb32,hp32⟩
 ·skip
  refine gRn (oKs 4 hb32 rfl rfl<|opT hb32 rfl<|oM 1 rfl<|.nl)<|nK k31<|gR<|fun a33 w33 h33=>x_ret1 (fn:=Tryz.f32) (t:=2) rfl h33 rfl<|⟨?_,(h33.sh.sel [] rfl)⟩
  congr 1
  have hv:vastG (code.l.map (·.l)) words.l=(decide (5000<n)||decide (100<code.l.length)):=by unfold vastG;rw [take_hund (l:=code.l.map (·.l)) (t:=t) (by simp;omega) (by omega) (by simp;omega),List.length_map];congr 1<;>(rw [decide_eq_decide];omega)
  rw [hv]
  first|(rw [show decide (5000<n)=true by assumption];rfl)|(rw [show decide (5000<n)=false by assumption];rfl)
 refine gRn (oG hb32 (r_fieldB (r:=0) fl_25_0 rfl rfl rfl) rfl<|oG hb32 (r_ldb (i:=0) ti_22 rfl rfl rfl rfl) rfl<|oG hb32 (r_len (s:=code) (n:=code.l.length) sl_22 rfl rfl (fun w h=>(h.at 1 rfl)) rfl) rfl<|oG hb32 (r_gtrN (p:=code.l.length) (q:=100) rfl rfl rfl) rfl<|opF hb32 rfl<|oM 1 rfl<|.nl)<|nK k31<|gR<|fun a34 w34 h34=>x_ret1 (fn:=Tryz.f32) (t:=2) rfl h34 rfl<|⟨?_,(h34.sh.sel [] rfl)⟩
 congr 1
 have hv:vastG (code.l.map (·.l)) words.l=(decide (5000<n)||decide (100<code.l.length)):=by unfold vastG;rw [take_hund (l:=code.l.map (·.l)) (t:=t) (by simp;omega) (by omega) (by simp;omega),List.length_map];congr 1<;>(rw [decide_eq_decide];omega)
 rw [hv]
 first|(rw [show decide (5000<n)=true by assumption];rfl)|(rw [show decide (5000<n)=false by assumption];rfl)
theorem spaceRuns_v (code:Ls (Ls Ins))(words script:Ls Int)(locks regs:Int)(W:World)(hcode:code.At W)(hwords:words.At W)(hscript:script.At W)(hv:vastG (code.l.map (·.l)) words.l=true):
    Rets Tryz.prog 13 [.agg #[code.v,words.v, .int .i64 locks, .int .i64 regs],script.v] W (fun v w' =>v= .bool true∧Sh0 W w' []):=by
 refine gen Tryz.func13 Tryz.ntmps13 (Sh0.ext3 hcode hwords hscript:Sh (fun _=>False) W W [.at_ code, .at_ words, .at_ script]) rfl fun a10 h10=>gG h10<|sK fun _ k11=>gbx rfl rfl fun b12=>gRn (oM 1 rfl<|.nl)<|nK k11<|sK fun _ k13=>fun a15 w15 h15=>wl_ex (x_call h15 bd_38 rfl rfl rfl rfl rfl (buffers_c _)) (wanted_none rfl _) ?_;clear h10
 rintro a16 w16 ⟨_,⟨c16,u16,rfl,hbc16,hbu16,hs16⟩,hf16⟩
 have h16:=(⟨hf16,h15.sh.call hs16 (by intro A hA b hb;simp only [List.mem_cons,List.not_mem_nil,or_false] at hA;first|(subst hA;exact Flat.noRd hb)|(rcases hA with rfl|rfl<;>first|exact (hb:False).elim|exact Flat.noRd hb|exact .inl (hb:_)))⟩:St 150 (fun _=>False) W a16 w16 _ _)
 clear hf16 hs16
 clear h15
 refine wl_ex (x_call h16 bd_29 rfl rfl rfl rfl rfl (sscB c16 u16 _ (h16.sh.deep 0 rfl) (h16.sh.own 1 rfl) hbc16 hbu16)) (wanted_none rfl _) ?_
 rintro a18 w18 ⟨_,⟨u18,rfl,hfu18,hs18⟩,hf18⟩
 have h18:=(⟨hf18,h16.sh.call hs18 (by intro A hA b hb;obtain rfl:=List.mem_singleton.1 hA;obtain ⟨i9,hi9,hb9⟩:=hb;exact .inl ((hfu18.nw _ (nth_mem _ _ hi9) b hb9).resolve_left id))⟩:St 150 (fun _=>False) W a18 w18 _ _)
 have hfr18:=hfu18.up (K' :=fun _=>False) (W' :=W) (fun b hb=>hb.imp id (fun h9=>Nat.le_trans h16.sh.chg.size h9))
 clear hf18 hs18
 clear h16
 refine gG h18<|gRn (oM 1 rfl<|oxt rfl<|oxt rfl<|.nl)<|gal ti_28 rfl fun b19=>gRn (oM 1 rfl<|.nl)<|gsw 0 ti_28 rfl rfl rfl<|nK k13<|sK fun _ k21=>fun a23 w23 h23=>wl_ex (x_call h23 bd_38 rfl rfl rfl rfl rfl (buffers_c _)) (wanted_none rfl _) ?_;clear h18
 rintro a24 w24 ⟨_,⟨c24,u24,rfl,hbc24,hbu24,hs24⟩,hf24⟩
 have h24:=(⟨hf24,h23.sh.call hs24 (by intro A hA b hb;simp only [List.mem_cons,List.not_mem_nil,or_false] at hA;first|(subst hA;exact Flat.noRd hb)|(rcases hA with rfl|rfl<;>first|exact (hb:False).elim|exact Flat.noRd hb|exact .inl (hb:_)))⟩:St 150 (fun _=>False) W a24 w24 _ _)
 clear hf24 hs24
 clear h23
 refine wl_ex (x_call h24 bd_18 rfl rfl rfl rfl rfl (stsoB c24 u24 _ (h24.sh.deep 0 rfl) (h24.sh.own 1 rfl) hbc24 hbu24)) (wanted_none rfl _) ?_
 rintro a26 w26 ⟨_,⟨u26,rfl,hfu26,hs26⟩,hf26⟩
 have h26:=(⟨hf26,h24.sh.call hs26 (by intro A hA b hb;obtain rfl:=List.mem_singleton.1 hA;obtain ⟨i9,hi9,hb9⟩:=hb;exact .inl ((hfu26.nw _ (nth_mem _ _ hi9) b hb9).resolve_left id))⟩:St 150 (fun _=>False) W a26 w26 _ _)
 have hfr26:=hfu26.up (K' :=fun _=>False) (W' :=W) (fun b hb=>hb.imp id (fun h9=>Nat.le_trans h24.sh.chg.size h9))
 clear hf26 hs26
 clear h24
 refine gG h26<|gRn (oM 1 rfl<|oxt rfl<|oxt rfl<|.nl)<|gal ti_28 rfl fun b27=>gRn (oM 1 rfl<|.nl)<|gsw 0 ti_28 rfl rfl rfl<|nK k21<|sK fun _ k29=>fun a31 w31 h31=>wl_ex (x_call h31 bd_38 rfl rfl rfl rfl rfl (buffers_c _)) (wanted_none rfl _) ?_;clear h26
 rintro a32 w32 ⟨_,⟨c32,u32,rfl,hbc32,hbu32,hs32⟩,hf32⟩
 have h32:=(⟨hf32,h31.sh.call hs32 (by intro A hA b hb;simp only [List.mem_cons,List.not_mem_nil,or_false] at hA;first|(subst hA;exact Flat.noRd hb)|(rcases hA with rfl|rfl<;>first|exact (hb:False).elim|exact Flat.noRd hb|exact .inl (hb:_)))⟩:St 150 (fun _=>False) W a32 w32 _ _)
 clear hf32 hs32
 clear h31
 refine wl_ex (x_call h32 bd_21 rfl rfl rfl rfl rfl (robB c32 u32 _ (h32.sh.deep 0 rfl) (h32.sh.own 1 rfl) hbc32 hbu32)) (wanted_none rfl _) ?_
 rintro a34 w34 ⟨_,⟨rfl,hs34⟩,hf34⟩
 have h34:St 150 (fun _=>False) W a34 w34 _ _:=⟨hf34,h32.sh.call0 hs34⟩
 clear hf34 hs34
 clear h32
 refine gG h34<|gRn (oM 1 rfl<|oxt rfl<|oxt rfl<|.nl)<|gal ti_28 rfl fun b35=>gRn (oM 1 rfl<|.nl)<|gsw 0 ti_28 rfl rfl rfl<|nK k29<|?_;clear h34
 have hbl:=buf_len hfr18 hfr26
 refine gK fun _ k37=>sK fun _ k38=>gNl (aO 8 rfl) fun hl39=>gNl (aO 4 rfl) fun hl40=>gRn (ofB fl_28_0 rfl<|olB 7 ti_26 rfl rfl<|oneN 0 0 rfl<|oM 1 rfl<|oG (by decide) (r_fieldB (r:=0) fl_28_0 rfl rfl rfl) rfl<|oG (by decide) (r_ldb (i:=3) ti_26 rfl rfl rfl rfl) rfl<|oG (by decide) (r_neqN (p:=0) (q:=0) rfl rfl rfl) rfl<|opF (by decide) rfl<|oM 1 rfl<|oG (by decide) (r_fieldB (r:=0) fl_28_0 rfl rfl rfl) rfl<|oG (by decide) (r_ldb (i:=0) ti_26 rfl rfl rfl rfl) rfl<|oG (by decide) (r_neqN (p:=0) (q:=0) rfl rfl rfl) rfl<|opF (by decide) rfl<|oM 1 rfl<|oG (by decide) (r_move rfl rfl) rfl<|oG (by decide) (r_len (s:=u18) (n:=u18.l.length) sl_35 rfl rfl (fun w h=>(h.own 8 rfl)) rfl) rfl<|oG (by decide) (r_eqlN (p:=u18.l.length) (q:=0) rfl rfl rfl) rfl<|opF (by decide) rfl<|oM 1 rfl<|oG (decide_eq_false (by omega)) (r_move rfl rfl) rfl<|oG (decide_eq_false (by omega)) (r_len (s:=u18) (n:=u18.l.length) sl_35 rfl rfl (fun w h=>(h.own 8 rfl)) rfl) rfl<|oG (decide_eq_false (by omega)) (r_move rfl rfl) rfl<|oG (decide_eq_false (by omega)) (r_len (s:=u26) (n:=u26.l.length) sl_35 rfl rfl (fun w h=>(h.own 4 rfl)) rfl) rfl<|oG (decide_eq_false (by omega)) (r_geqN (p:=u18.l.length) (q:=u26.l.length) rfl rfl rfl) rfl<|opF (decide_eq_false (by omega)) rfl<|oM 1 rfl<|oG (decide_eq_false (by omega)) (r_move rfl rfl) rfl<|opF (decide_eq_false (by omega)) rfl<|.nl)<|nK k38<|gF [1,2,6,8,63] rfl<|gcF rfl rfl<|gS<|hK k37<|gK fun _ k41=>sK fun _ k42=>gRn (olw 11 ti_25 rfl rfl<|.nl)<|fun a44 w44 h44=>wl_ex (x_call h44 bd_32 rfl rfl rfl rfl rfl (kvast_c code words locks regs _ (h44.sh.at 12 rfl) (h44.sh.at 13 rfl))) (wanted_none rfl _) ?_
 rintro a45 w45 ⟨_,⟨rfl,hs45⟩,hf45⟩
 have h45:St 150 (fun _=>False) W a45 w45 _ _:=⟨hf45,h44.sh.call0 hs45⟩
 clear hf45 hs45
 clear h44
 refine gG h45<|nK k42<|gcT rfl hv<|sG (oM 1 rfl<|.nl)<|gR<|uT<|fun a47 w47 h47=>x_ret1 (fn:=Tryz.f13) (t:=4) rfl h47 rfl ?_;clear h45
 exact ⟨rfl,(h47.sh.sel [] rfl)⟩
theorem spaceRuns_b (code:Ls (Ls Ins))(words script:Ls Int)(locks regs:Int)(W:World)(hcode:code.At W)(hwords:words.At W)(hscript:script.At W)(hv:vastG (code.l.map (·.l)) words.l=false)(hz:(checkG (pgOf code words locks regs)).code≠0):
    Rets Tryz.prog 13 [.agg #[code.v,words.v, .int .i64 locks, .int .i64 regs],script.v] W (fun v w' =>v= .bool true∧Sh0 W w' []):=by
 refine gen Tryz.func13 Tryz.ntmps13 (Sh0.ext3 hcode hwords hscript:Sh (fun _=>False) W W [.at_ code, .at_ words, .at_ script]) rfl fun a10 h10=>gG h10<|sK fun _ k11=>gbx rfl rfl fun b12=>gRn (oM 1 rfl<|.nl)<|nK k11<|sK fun _ k13=>fun a15 w15 h15=>wl_ex (x_call h15 bd_38 rfl rfl rfl rfl rfl (buffers_c _)) (wanted_none rfl _) ?_;clear h10
 rintro a16 w16 ⟨_,⟨c16,u16,rfl,hbc16,hbu16,hs16⟩,hf16⟩
 have h16:=(⟨hf16,h15.sh.call hs16 (by intro A hA b hb;simp only [List.mem_cons,List.not_mem_nil,or_false] at hA;first|(subst hA;exact Flat.noRd hb)|(rcases hA with rfl|rfl<;>first|exact (hb:False).elim|exact Flat.noRd hb|exact .inl (hb:_)))⟩:St 150 (fun _=>False) W a16 w16 _ _)
 clear hf16 hs16
 clear h15
 refine wl_ex (x_call h16 bd_29 rfl rfl rfl rfl rfl (sscB c16 u16 _ (h16.sh.deep 0 rfl) (h16.sh.own 1 rfl) hbc16 hbu16)) (wanted_none rfl _) ?_
 rintro a18 w18 ⟨_,⟨u18,rfl,hfu18,hs18⟩,hf18⟩
 have h18:=(⟨hf18,h16.sh.call hs18 (by intro A hA b hb;obtain rfl:=List.mem_singleton.1 hA;obtain ⟨i9,hi9,hb9⟩:=hb;exact .inl ((hfu18.nw _ (nth_mem _ _ hi9) b hb9).resolve_left id))⟩:St 150 (fun _=>False) W a18 w18 _ _)
 have hfr18:=hfu18.up (K' :=fun _=>False) (W' :=W) (fun b hb=>hb.imp id (fun h9=>Nat.le_trans h16.sh.chg.size h9))
 clear hf18 hs18
 clear h16
 refine gG h18<|gRn (oM 1 rfl<|oxt rfl<|oxt rfl<|.nl)<|gal ti_28 rfl fun b19=>gRn (oM 1 rfl<|.nl)<|gsw 0 ti_28 rfl rfl rfl<|nK k13<|sK fun _ k21=>fun a23 w23 h23=>wl_ex (x_call h23 bd_38 rfl rfl rfl rfl rfl (buffers_c _)) (wanted_none rfl _) ?_;clear h18
 rintro a24 w24 ⟨_,⟨c24,u24,rfl,hbc24,hbu24,hs24⟩,hf24⟩
 have h24:=(⟨hf24,h23.sh.call hs24 (by intro A hA b hb;simp only [List.mem_cons,List.not_mem_nil,or_false] at hA;first|(subst hA;exact Flat.noRd hb)|(rcases hA with rfl|rfl<;>first|exact (hb:False).elim|exact Flat.noRd hb|exact .inl (hb:_)))⟩:St 150 (fun _=>False) W a24 w24 _ _)
 clear hf24 hs24
 clear h23
 refine wl_ex (x_call h24 bd_18 rfl rfl rfl rfl rfl (stsoB c24 u24 _ (h24.sh.deep 0 rfl) (h24.sh.own 1 rfl) hbc24 hbu24)) (wanted_none rfl _) ?_
 rintro a26 w26 ⟨_,⟨u26,rfl,hfu26,hs26⟩,hf26⟩
 have h26:=(⟨hf26,h24.sh.call hs26 (by intro A hA b hb;obtain rfl:=List.mem_singleton.1 hA;obtain ⟨i9,hi9,hb9⟩:=hb;exact .inl ((hfu26.nw _ (nth_mem _ _ hi9) b hb9).resolve_left id))⟩:St 150 (fun _=>False) W a26 w26 _ _)
 have hfr26:=hfu26.up (K' :=fun _=>False) (W' :=W) (fun b hb=>hb.imp id (fun h9=>Nat.le_trans h24.sh.chg.size h9))
 clear hf26 hs26
 clear h24
 refine gG h26<|gRn (oM 1 rfl<|oxt rfl<|oxt rfl<|.nl)<|gal ti_28 rfl fun b27=>gRn (oM 1 rfl<|.nl)<|gsw 0 ti_28 rfl rfl rfl<|nK k21<|sK fun _ k29=>fun a31 w31 h31=>wl_ex (x_call h31 bd_38 rfl rfl rfl rfl rfl (buffers_c _)) (wanted_none rfl _) ?_;clear h26
 rintro a32 w32 ⟨_,⟨c32,u32,rfl,hbc32,hbu32,hs32⟩,hf32⟩
 have h32:=(⟨hf32,h31.sh.call hs32 (by intro A hA b hb;simp only [List.mem_cons,List.not_mem_nil,or_false] at hA;first|(subst hA;exact Flat.noRd hb)|(rcases hA with rfl|rfl<;>first|exact (hb:False).elim|exact Flat.noRd hb|exact .inl (hb:_)))⟩:St 150 (fun _=>False) W a32 w32 _ _)
 clear hf32 hs32
 clear h31
 refine wl_ex (x_call h32 bd_21 rfl rfl rfl rfl rfl (robB c32 u32 _ (h32.sh.deep 0 rfl) (h32.sh.own 1 rfl) hbc32 hbu32)) (wanted_none rfl _) ?_
 rintro a34 w34 ⟨_,⟨rfl,hs34⟩,hf34⟩
 have h34:St 150 (fun _=>False) W a34 w34 _ _:=⟨hf34,h32.sh.call0 hs34⟩
 clear hf34 hs34
 clear h32
 refine gG h34<|gRn (oM 1 rfl<|oxt rfl<|oxt rfl<|.nl)<|gal ti_28 rfl fun b35=>gRn (oM 1 rfl<|.nl)<|gsw 0 ti_28 rfl rfl rfl<|nK k29<|?_;clear h34
 have hbl:=buf_len hfr18 hfr26
 refine gK fun _ k37=>sK fun _ k38=>gNl (aO 8 rfl) fun hl39=>gNl (aO 4 rfl) fun hl40=>gRn (ofB fl_28_0 rfl<|olB 7 ti_26 rfl rfl<|oneN 0 0 rfl<|oM 1 rfl<|oG (by decide) (r_fieldB (r:=0) fl_28_0 rfl rfl rfl) rfl<|oG (by decide) (r_ldb (i:=3) ti_26 rfl rfl rfl rfl) rfl<|oG (by decide) (r_neqN (p:=0) (q:=0) rfl rfl rfl) rfl<|opF (by decide) rfl<|oM 1 rfl<|oG (by decide) (r_fieldB (r:=0) fl_28_0 rfl rfl rfl) rfl<|oG (by decide) (r_ldb (i:=0) ti_26 rfl rfl rfl rfl) rfl<|oG (by decide) (r_neqN (p:=0) (q:=0) rfl rfl rfl) rfl<|opF (by decide) rfl<|oM 1 rfl<|oG (by decide) (r_move rfl rfl) rfl<|oG (by decide) (r_len (s:=u18) (n:=u18.l.length) sl_35 rfl rfl (fun w h=>(h.own 8 rfl)) rfl) rfl<|oG (by decide) (r_eqlN (p:=u18.l.length) (q:=0) rfl rfl rfl) rfl<|opF (by decide) rfl<|oM 1 rfl<|oG (decide_eq_false (by omega)) (r_move rfl rfl) rfl<|oG (decide_eq_false (by omega)) (r_len (s:=u18) (n:=u18.l.length) sl_35 rfl rfl (fun w h=>(h.own 8 rfl)) rfl) rfl<|oG (decide_eq_false (by omega)) (r_move rfl rfl) rfl<|oG (decide_eq_false (by omega)) (r_len (s:=u26) (n:=u26.l.length) sl_35 rfl rfl (fun w h=>(h.own 4 rfl)) rfl) rfl<|oG (decide_eq_false (by omega)) (r_geqN (p:=u18.l.length) (q:=u26.l.length) rfl rfl rfl) rfl<|opF (decide_eq_false (by omega)) rfl<|oM 1 rfl<|oG (decide_eq_false (by omega)) (r_move rfl rfl) rfl<|opF (decide_eq_false (by omega)) rfl<|.nl)<|nK k38<|gF [1,2,6,8,63] rfl<|gcF rfl rfl<|gS<|hK k37<|gK fun _ k41=>sK fun _ k42=>gRn (olw 11 ti_25 rfl rfl<|.nl)<|fun a44 w44 h44=>wl_ex (x_call h44 bd_32 rfl rfl rfl rfl rfl (kvast_c code words locks regs _ (h44.sh.at 12 rfl) (h44.sh.at 13 rfl))) (wanted_none rfl _) ?_
 rintro a45 w45 ⟨_,⟨rfl,hs45⟩,hf45⟩
 have h45:St 150 (fun _=>False) W a45 w45 _ _:=⟨hf45,h44.sh.call0 hs45⟩
 clear hf45 hs45
 clear h44
 refine gG h45<|nK k42<|gcF rfl hv<|gS<|hK k41<|sK fun _ k46=>gRn (olw 11 ti_25 rfl rfl<|.nl)<|fun a48 w48 h48=>wl_ex (x_call h48 bd_29 rfl rfl rfl rfl rfl (ssc_b code words locks regs _ (h48.sh.at 12 rfl) (h48.sh.at 13 rfl) hz)) (wanted_none rfl _) ?_;clear h45
 rintro a49 w49 ⟨_,⟨rfl,hs49⟩,hf49⟩
 have h49:St 150 (fun _=>False) W a49 w49 _ _:=⟨hf49,h48.sh.call0 hs49⟩
 clear hf49 hs49
 clear h48
 refine gG h49<|gRn (oM 1 rfl<|oxt rfl<|oxt rfl<|oM 1 rfl<|.nl)<|gsw 7 ti_28 rfl rfl rfl<|nK k46<|sK fun _ k51=>gRn (olw 11 ti_25 rfl rfl<|.nl)<|fun a53 w53 h53=>wl_ex (x_call h53 bd_18 rfl rfl rfl rfl rfl (stso_b code words locks regs _ (h53.sh.at 12 rfl) (h53.sh.at 13 rfl) hz)) (wanted_none rfl _) ?_;clear h49
 rintro a54 w54 ⟨_,⟨rfl,hs54⟩,hf54⟩
 have h54:St 150 (fun _=>False) W a54 w54 _ _:=⟨hf54,h53.sh.call0 hs54⟩
 clear hf54 hs54
 clear h53
 refine gG h54<|gRn (oM 1 rfl<|oxt rfl<|oxt rfl<|oM 1 rfl<|.nl)<|gsw 3 ti_28 rfl rfl rfl<|nK k51<|gK fun _ k56=>sG (ofB fl_28_0 rfl<|olB 7 ti_26 rfl rfl<|oeqI _ _ rfl<|.nl)<|gcF rfl (decide_eq_false hz)<|gS<|hK k56<|gK fun _ k58=>sG (ofB fl_28_0 rfl<|olB 3 ti_26 rfl rfl<|oeqI _ _ rfl<|.nl)<|gcF rfl (decide_eq_false hz)<|gS<|hK k58<|gK fun _ k60=>sG (ofB fl_28_0 rfl<|olB 7 ti_26 rfl rfl<|oneI _ _ rfl<|oM 1 rfl<|oKs 3 (decide_eq_true hz) rfl rfl<|opT (decide_eq_true hz) rfl<|.nl)<|gF [5,7,135] rfl<|gcT rfl rfl<|sG (oM 1 rfl<|.nl)<|gR<|uT<|fun a63 w63 h63=>x_ret1 (fn:=Tryz.f13) (t:=4) rfl h63 rfl ?_;clear h54
 exact ⟨rfl,(h63.sh.sel [] rfl)⟩
theorem spaceRuns_k (code:Ls (Ls Ins))(words script:Ls Int)(Lk R:Nat)(W:World)(hcode:code.At W)(hwords:words.At W)(hscript:script.At W)(hv:vastG (code.l.map (·.l)) words.l=false)(hok:OkPg (pgN code words Lk R))(hR:PgR (pgN code words Lk R)):
    Rets Tryz.prog 13 [.agg #[code.v,words.v, .int .i64 ((Lk:Nat):Int), .int .i64 ((R:Nat):Int)],script.v] W (fun v w' =>v= .bool true∧Sh0 W w' []):=by
 have hz:checkG (pgOf code words ((Lk:Nat):Int) ((R:Nat):Int))=⟨0,0,0⟩:=checkG_ok hok
 refine gen Tryz.func13 Tryz.ntmps13 (Sh0.ext3 hcode hwords hscript:Sh (fun _=>False) W W [.at_ code, .at_ words, .at_ script]) rfl fun a10 h10=>gG h10<|sK fun _ k11=>gbx rfl rfl fun b12=>gRn (oM 1 rfl<|.nl)<|nK k11<|sK fun _ k13=>fun a15 w15 h15=>wl_ex (x_call h15 bd_38 rfl rfl rfl rfl rfl (buffers_c _)) (wanted_none rfl _) ?_;clear h10
 rintro a16 w16 ⟨_,⟨c16,u16,rfl,hbc16,hbu16,hs16⟩,hf16⟩
 have h16:=(⟨hf16,h15.sh.call hs16 (by intro A hA b hb;simp only [List.mem_cons,List.not_mem_nil,or_false] at hA;first|(subst hA;exact Flat.noRd hb)|(rcases hA with rfl|rfl<;>first|exact (hb:False).elim|exact Flat.noRd hb|exact .inl (hb:_)))⟩:St 150 (fun _=>False) W a16 w16 _ _)
 clear hf16 hs16
 clear h15
 refine wl_ex (x_call h16 bd_29 rfl rfl rfl rfl rfl (sscB c16 u16 _ (h16.sh.deep 0 rfl) (h16.sh.own 1 rfl) hbc16 hbu16)) (wanted_none rfl _) ?_
 rintro a18 w18 ⟨_,⟨u18,rfl,hfu18,hs18⟩,hf18⟩
 have h18:=(⟨hf18,h16.sh.call hs18 (by intro A hA b hb;obtain rfl:=List.mem_singleton.1 hA;obtain ⟨i9,hi9,hb9⟩:=hb;exact .inl ((hfu18.nw _ (nth_mem _ _ hi9) b hb9).resolve_left id))⟩:St 150 (fun _=>False) W a18 w18 _ _)
 have hfr18:=hfu18.up (K' :=fun _=>False) (W' :=W) (fun b hb=>hb.imp id (fun h9=>Nat.le_trans h16.sh.chg.size h9))
 clear hf18 hs18
 clear h16
 refine gG h18<|gRn (oM 1 rfl<|oxt rfl<|oxt rfl<|.nl)<|gal ti_28 rfl fun b19=>gRn (oM 1 rfl<|.nl)<|gsw 0 ti_28 rfl rfl rfl<|nK k13<|sK fun _ k21=>fun a23 w23 h23=>wl_ex (x_call h23 bd_38 rfl rfl rfl rfl rfl (buffers_c _)) (wanted_none rfl _) ?_;clear h18
 rintro a24 w24 ⟨_,⟨c24,u24,rfl,hbc24,hbu24,hs24⟩,hf24⟩
 have h24:=(⟨hf24,h23.sh.call hs24 (by intro A hA b hb;simp only [List.mem_cons,List.not_mem_nil,or_false] at hA;first|(subst hA;exact Flat.noRd hb)|(rcases hA with rfl|rfl<;>first|exact (hb:False).elim|exact Flat.noRd hb|exact .inl (hb:_)))⟩:St 150 (fun _=>False) W a24 w24 _ _)
 clear hf24 hs24
 clear h23
 refine wl_ex (x_call h24 bd_18 rfl rfl rfl rfl rfl (stsoB c24 u24 _ (h24.sh.deep 0 rfl) (h24.sh.own 1 rfl) hbc24 hbu24)) (wanted_none rfl _) ?_
 rintro a26 w26 ⟨_,⟨u26,rfl,hfu26,hs26⟩,hf26⟩
 have h26:=(⟨hf26,h24.sh.call hs26 (by intro A hA b hb;obtain rfl:=List.mem_singleton.1 hA;obtain ⟨i9,hi9,hb9⟩:=hb;exact .inl ((hfu26.nw _ (nth_mem _ _ hi9) b hb9).resolve_left id))⟩:St 150 (fun _=>False) W a26 w26 _ _)
 have hfr26:=hfu26.up (K' :=fun _=>False) (W' :=W) (fun b hb=>hb.imp id (fun h9=>Nat.le_trans h24.sh.chg.size h9))
 clear hf26 hs26
 clear h24
 refine gG h26<|gRn (oM 1 rfl<|oxt rfl<|oxt rfl<|.nl)<|gal ti_28 rfl fun b27=>gRn (oM 1 rfl<|.nl)<|gsw 0 ti_28 rfl rfl rfl<|nK k21<|sK fun _ k29=>fun a31 w31 h31=>wl_ex (x_call h31 bd_38 rfl rfl rfl rfl rfl (buffers_c _)) (wanted_none rfl _) ?_;clear h26
 rintro a32 w32 ⟨_,⟨c32,u32,rfl,hbc32,hbu32,hs32⟩,hf32⟩
 have h32:=(⟨hf32,h31.sh.call hs32 (by intro A hA b hb;simp only [List.mem_cons,List.not_mem_nil,or_false] at hA;first|(subst hA;exact Flat.noRd hb)|(rcases hA with rfl|rfl<;>first|exact (hb:False).elim|exact Flat.noRd hb|exact .inl (hb:_)))⟩:St 150 (fun _=>False) W a32 w32 _ _)
 clear hf32 hs32
 clear h31
 refine wl_ex (x_call h32 bd_21 rfl rfl rfl rfl rfl (robB c32 u32 _ (h32.sh.deep 0 rfl) (h32.sh.own 1 rfl) hbc32 hbu32)) (wanted_none rfl _) ?_
 rintro a34 w34 ⟨_,⟨rfl,hs34⟩,hf34⟩
 have h34:St 150 (fun _=>False) W a34 w34 _ _:=⟨hf34,h32.sh.call0 hs34⟩
 clear hf34 hs34
 clear h32
 refine gG h34<|gRn (oM 1 rfl<|oxt rfl<|oxt rfl<|.nl)<|gal ti_28 rfl fun b35=>gRn (oM 1 rfl<|.nl)<|gsw 0 ti_28 rfl rfl rfl<|nK k29<|?_;clear h34
 have hbl:=buf_len hfr18 hfr26
 refine gK fun _ k37=>sK fun _ k38=>gNl (aO 8 rfl) fun hl39=>gNl (aO 4 rfl) fun hl40=>gRn (ofB fl_28_0 rfl<|olB 7 ti_26 rfl rfl<|oneN 0 0 rfl<|oM 1 rfl<|oG (by decide) (r_fieldB (r:=0) fl_28_0 rfl rfl rfl) rfl<|oG (by decide) (r_ldb (i:=3) ti_26 rfl rfl rfl rfl) rfl<|oG (by decide) (r_neqN (p:=0) (q:=0) rfl rfl rfl) rfl<|opF (by decide) rfl<|oM 1 rfl<|oG (by decide) (r_fieldB (r:=0) fl_28_0 rfl rfl rfl) rfl<|oG (by decide) (r_ldb (i:=0) ti_26 rfl rfl rfl rfl) rfl<|oG (by decide) (r_neqN (p:=0) (q:=0) rfl rfl rfl) rfl<|opF (by decide) rfl<|oM 1 rfl<|oG (by decide) (r_move rfl rfl) rfl<|oG (by decide) (r_len (s:=u18) (n:=u18.l.length) sl_35 rfl rfl (fun w h=>(h.own 8 rfl)) rfl) rfl<|oG (by decide) (r_eqlN (p:=u18.l.length) (q:=0) rfl rfl rfl) rfl<|opF (by decide) rfl<|oM 1 rfl<|oG (decide_eq_false (by omega)) (r_move rfl rfl) rfl<|oG (decide_eq_false (by omega)) (r_len (s:=u18) (n:=u18.l.length) sl_35 rfl rfl (fun w h=>(h.own 8 rfl)) rfl) rfl<|oG (decide_eq_false (by omega)) (r_move rfl rfl) rfl<|oG (decide_eq_false (by omega)) (r_len (s:=u26) (n:=u26.l.length) sl_35 rfl rfl (fun w h=>(h.own 4 rfl)) rfl) rfl<|oG (decide_eq_false (by omega)) (r_geqN (p:=u18.l.length) (q:=u26.l.length) rfl rfl rfl) rfl<|opF (decide_eq_false (by omega)) rfl<|oM 1 rfl<|oG (decide_eq_false (by omega)) (r_move rfl rfl) rfl<|opF (decide_eq_false (by omega)) rfl<|.nl)<|nK k38<|gF [1,2,6,8,63] rfl<|gcF rfl rfl<|gS<|hK k37<|gK fun _ k41=>sK fun _ k42=>gRn (olw 11 ti_25 rfl rfl<|.nl)<|fun a44 w44 h44=>wl_ex (x_call h44 bd_32 rfl rfl rfl rfl rfl (kvast_c code words ((Lk:Nat):Int) ((R:Nat):Int) _ (h44.sh.at 12 rfl) (h44.sh.at 13 rfl))) (wanted_none rfl _) ?_
 rintro a45 w45 ⟨_,⟨rfl,hs45⟩,hf45⟩
 have h45:St 150 (fun _=>False) W a45 w45 _ _:=⟨hf45,h44.sh.call0 hs45⟩
 clear hf45 hs45
 clear h44
 refine gG h45<|nK k42<|gcF rfl hv<|gS<|hK k41<|sK fun _ k46=>gRn (olw 11 ti_25 rfl rfl<|.nl)<|fun a48 w48 h48=>wl_ex (x_call h48 bd_29 rfl rfl rfl rfl rfl (ssc_k code words Lk R _ (h48.sh.at 12 rfl) (h48.sh.at 13 rfl) hok hR)) (wanted_none rfl _) ?_;clear h45
 rintro a49 w49 ⟨_,⟨u49,ok49,rfl,hfu49,hs49⟩,hf49⟩
 have h49:=(⟨hf49,h48.sh.call hs49 (by intro A hA b hb;obtain rfl:=List.mem_singleton.1 hA;obtain ⟨i9,hi9,hb9⟩:=hb;exact .inl ((hfu49.nw _ (nth_mem _ _ hi9) b hb9).resolve_left id))⟩:St 150 (fun _=>False) W a49 w49 _ _)
 have hfr49:=hfu49.up (K' :=fun _=>False) (W' :=W) (fun b hb=>hb.imp id (fun h9=>Nat.le_trans h48.sh.chg.size h9))
 clear hf49 hs49
 clear h48
 refine gG h49<|gRn (oM 1 rfl<|oxt rfl<|oxt rfl<|oM 1 rfl<|.nl)<|gsw 8 ti_28 rfl rfl rfl<|nK k46<|sK fun _ k51=>gRn (olw 12 ti_25 rfl rfl<|.nl)<|fun a53 w53 h53=>wl_ex (x_call h53 bd_18 rfl rfl rfl rfl rfl (stso_k code words Lk R _ (h53.sh.at 13 rfl) (h53.sh.at 14 rfl) hok hR)) (wanted_none rfl _) ?_;clear h49
 rintro a54 w54 ⟨_,⟨u54,ok54,rfl,hfu54,hs54⟩,hf54⟩
 have h54:=(⟨hf54,h53.sh.call hs54 (by intro A hA b hb;obtain rfl:=List.mem_singleton.1 hA;obtain ⟨i9,hi9,hb9⟩:=hb;exact .inl ((hfu54.nw _ (nth_mem _ _ hi9) b hb9).resolve_left id))⟩:St 150 (fun _=>False) W a54 w54 _ _)
 have hfr54:=hfu54.up (K' :=fun _=>False) (W' :=W) (fun b hb=>hb.imp id (fun h9=>Nat.le_trans h53.sh.chg.size h9))
 clear hf54 hs54
 clear h53
 refine gG h54<|gRn (oM 1 rfl<|oxt rfl<|oxt rfl<|oM 1 rfl<|.nl)<|gsw 5 ti_28 rfl rfl rfl<|nK k51<|gK fun _ k56=>sG (ofB fl_28_0 rfl<|olB 9 ti_26 rfl rfl<|oeqI _ _ rfl<|.nl)<|?_;clear h54
 refine gcd rfl (fun hb58 hp58=> ?_) fun hb58 hp58=> ?_
 ·skip
  have hok49:ok49=true:=cd_eq.symm.trans hb58
  refine sK fun _ k59=>gRn (olw 13 ti_25 rfl rfl<|oM 1 rfl<|.nl)<|fun a61 w61 h61=>wl_ex (x_call h61 bd_39 rfl rfl rfl rfl rfl (scRun_k code words script Lk R _ (h61.sh.at 14 rfl) (h61.sh.at 15 rfl) (h61.sh.at 16 rfl) hok)) (wanted_none rfl _) ?_
  rintro a62 w62 ⟨_,⟨pr62,wd62,st62,sn62,rfl,hrun62,hs62⟩,hf62⟩
  have h62:=(⟨hf62,h61.sh.call hs62 (by intro A hA b hb;simp only [List.mem_cons,List.not_mem_nil,or_false] at hA;first|(subst hA;exact Flat.noRd hb)|(rcases hA with rfl|rfl<;>first|exact (hb:False).elim|exact Flat.noRd hb|exact .inl (hb:_)))⟩:St 150 (fun _=>False) W a62 w62 _ _)
  clear hf62 hs62
  clear h61
  refine gG h62<|gRn (oM 1 rfl<|oxt rfl<|oxt rfl<|.nl)<|gal ti_60 rfl fun b63=>gal ti_28 rfl fun b64=>gE (fun _ _ h_=>x_stb (i:=1) (vs:= [pr62.v, .int .i64 st62,wd62.v, .int .i64 ((sn62:Nat):Int)]) (cs' := [pr62.v, .int .i64 st62,wd62.v, .int .i64 ((sn62:Nat):Int)]) h_ ti_60 rfl rfl rfl rfl rfl rfl rfl (allOne_cons ((h_.sh.own 2 rfl)).one (allOne_cons rfl (allOne_cons ((h_.sh.own 3 rfl)).one (allOne_cons rfl allOne_nil)))) (Nat.le_of_ble_eq_true rfl) rfl) rfl<|gsw 0 ti_28 rfl rfl rfl<|nK k59<|sK fun _ k67=>gRn (olw 1 ti_60 rfl rfl<|.nl)<|gP (fun _ _ h_=>xCl h_ bd_34 rfl (kended_c pr62 wd62 st62 sn62 _ (h_.sh.own 2 rfl) (h_.sh.own 3 rfl))) rfl<|gal ti_39 rfl fun b69=>gE (fun _ _ h_=>x_stb (i:=0) (vs:= [.int .i64 st62,(endW st62 wd62).v,pr62.v]) (cs' := [.int .i64 st62,(endW st62 wd62).v,pr62.v]) h_ ti_39 rfl rfl rfl rfl rfl rfl rfl (allOne_cons rfl (allOne_cons ((endW_at (h_.sh.own 4 rfl))).one (allOne_cons ((h_.sh.own 3 rfl)).one allOne_nil))) (Nat.le_of_ble_eq_true rfl) rfl) rfl<|nK k67<|gF [1,2,5,6,7,8,11,12,13] rfl<|sK fun _ k71=>gRn (oM 1 rfl<|olw 0 ti_39 rfl rfl<|.nl)<|gP (fun _ _ h_=>xCl h_ bd_35 rfl (found_c u49 (⟨st62,(endW st62 wd62),pr62⟩:OutL) _ (h_.sh.own 6 rfl) (endW_at (h_.sh.own 4 rfl)) (h_.sh.own 3 rfl))) rfl<|gRn (oM 1 rfl<|.nl)<|nK k71<|sK fun _ k73=>gRn (ofB fl_28_0 rfl<|olB 1 ti_26 rfl rfl<|oneN 0 0 rfl<|oM 1 rfl<|oG (by decide) (r_fieldB (r:=1) fl_60_1 rfl rfl rfl) rfl<|oG (by decide) (r_ldb (i:=2) ti_3 rfl rfl rfl rfl) rfl<|oG (by decide) (r_neqI (p:=st62) (q:=3) rfl rfl rfl) rfl<|oG (by decide) (r_move rfl rfl) rfl<|.nl)<|?_;clear h62
  rcases dsp (st62≠3) with ⟨hb74,hp74⟩|⟨hb74,hp74⟩
  ·skip
   refine gRn (oG hb74 (r_move rfl rfl) rfl<|oG hb74 (r_not rfl rfl) rfl<|oG (by decide) (r_pickT rfl rfl hb74 rfl) rfl<|opF (by decide) rfl<|.nl)<|nK k73<|gcF rfl (by rw [(decide_eq_true (ranIn hok hrun62 (by first|assumption|omega) (by assumption) hfr49))];rfl)<|gS<|hK k56<|gK fun _ k75=>sG (ofB fl_28_0 rfl<|olB 10 ti_26 rfl rfl<|oeqI _ _ rfl<|.nl)<|gcd rfl (fun hb77 hp77=> ?_) fun hb77 hp77=> ?_
   ·skip
    have hok54:ok54=true:=cd_eq.symm.trans hb77
    refine sK fun _ k78=>gRn (olw 18 ti_25 rfl rfl<|oM 1 rfl<|.nl)<|fun a80 w80 h80=>wl_ex (x_call h80 bd_40 rfl rfl rfl rfl rfl (tsoRun_k code words script Lk R _ (h80.sh.at 19 rfl) (h80.sh.at 20 rfl) (h80.sh.at 21 rfl) hok)) (wanted_none rfl _) ?_
    rintro a81 w81 ⟨_,⟨pr81,wd81,st81,sn81,rfl,hrun81,hs81⟩,hf81⟩
    have h81:=(⟨hf81,h80.sh.call hs81 (by intro A hA b hb;simp only [List.mem_cons,List.not_mem_nil,or_false] at hA;first|(subst hA;exact Flat.noRd hb)|(rcases hA with rfl|rfl<;>first|exact (hb:False).elim|exact Flat.noRd hb|exact .inl (hb:_)))⟩:St 150 (fun _=>False) W a81 w81 _ _)
    clear hf81 hs81
    clear h80
    refine gG h81<|gRn (oM 1 rfl<|oxt rfl<|oxt rfl<|.nl)<|gal ti_60 rfl fun b82=>gal ti_28 rfl fun b83=>gE (fun _ _ h_=>x_stb (i:=1) (vs:= [pr81.v, .int .i64 st81,wd81.v, .int .i64 ((sn81:Nat):Int)]) (cs' := [pr81.v, .int .i64 st81,wd81.v, .int .i64 ((sn81:Nat):Int)]) h_ ti_60 rfl rfl rfl rfl rfl rfl rfl (allOne_cons ((h_.sh.own 2 rfl)).one (allOne_cons rfl (allOne_cons ((h_.sh.own 3 rfl)).one (allOne_cons rfl allOne_nil)))) (Nat.le_of_ble_eq_true rfl) rfl) rfl<|gsw 0 ti_28 rfl rfl rfl<|nK k78<|gF [5,6,7,8,15,16] rfl<|sK fun _ k86=>gRn (olw 1 ti_60 rfl rfl<|.nl)<|gP (fun _ _ h_=>xCl h_ bd_34 rfl (kended_c pr81 wd81 st81 sn81 _ (h_.sh.own 2 rfl) (h_.sh.own 3 rfl))) rfl<|gal ti_39 rfl fun b88=>gE (fun _ _ h_=>x_stb (i:=0) (vs:= [.int .i64 st81,(endW st81 wd81).v,pr81.v]) (cs' := [.int .i64 st81,(endW st81 wd81).v,pr81.v]) h_ ti_39 rfl rfl rfl rfl rfl rfl rfl (allOne_cons rfl (allOne_cons ((endW_at (h_.sh.own 4 rfl))).one (allOne_cons ((h_.sh.own 3 rfl)).one allOne_nil))) (Nat.le_of_ble_eq_true rfl) rfl) rfl<|nK k86<|sK fun _ k90=>gRn (oM 1 rfl<|olw 0 ti_39 rfl rfl<|.nl)<|gP (fun _ _ h_=>xCl h_ bd_35 rfl (found_c u54 (⟨st81,(endW st81 wd81),pr81⟩:OutL) _ (h_.sh.own 10 rfl) (endW_at (h_.sh.own 4 rfl)) (h_.sh.own 3 rfl))) rfl<|gRn (oM 1 rfl<|.nl)<|nK k90<|sK fun _ k92=>gRn (ofB fl_28_0 rfl<|olB 1 ti_26 rfl rfl<|oneN 0 0 rfl<|oM 1 rfl<|oG (by decide) (r_fieldB (r:=1) fl_60_1 rfl rfl rfl) rfl<|oG (by decide) (r_ldb (i:=2) ti_3 rfl rfl rfl rfl) rfl<|oG (by decide) (r_neqI (p:=st81) (q:=3) rfl rfl rfl) rfl<|oG (by decide) (r_move rfl rfl) rfl<|.nl)<|?_;clear h81
    rcases dsp (st81≠3) with ⟨hb93,hp93⟩|⟨hb93,hp93⟩
    ·skip
     refine gRn (oG hb93 (r_move rfl rfl) rfl<|oG hb93 (r_not rfl rfl) rfl<|oG (by decide) (r_pickT rfl rfl hb93 rfl) rfl<|opF (by decide) rfl<|.nl)<|nK k92<|gcF rfl (by rw [(decide_eq_true (ranIn hok hrun81 (by first|assumption|omega) (by assumption) hfr54))];rfl)<|gS<|hK k75<|gK fun _ k94=>sG (ofB fl_28_0 rfl<|olB 19 ti_26 rfl rfl<|oneI _ _ rfl<|oM 1 rfl<|oG (decide_eq_false (fun h9=>h9 (of_decide_eq_true hb58))) (r_fieldB (r:=0) fl_28_0 rfl rfl rfl) rfl<|oG (decide_eq_false (fun h9=>h9 (of_decide_eq_true hb58))) (r_ldb (i:=15) ti_26 rfl rfl rfl rfl) rfl<|oG (decide_eq_false (fun h9=>h9 (of_decide_eq_true hb58))) (r_neqI (p:=(if ok54=true then (0:Int) else 10)) (q:=0) rfl rfl rfl) rfl<|opF (decide_eq_false (fun h9=>h9 (of_decide_eq_true hb58))) rfl<|.nl)<|gF [5,7,135] rfl<|gcF rfl (decide_eq_false (fun h9=>h9 (of_decide_eq_true hb77)))<|gS<|hK k94<|gK fun _ k96=>sG (oM 1 rfl<|.nl)<|gB<|fun a99 w99 h99=>x_loop (fun m a w=>∃(k:Nat),(k≤u49.l.length)∧St 150 (fun _=>False) W a w [(5,u49.v),(7,u54.v),(19, .int .i64 ((k:Nat):Int))] [.own 3 pr81, .own 3 wd81, .own 3 pr62, .own 3 wd62, .own 39 u54, .own 39 u49, .deep 33 c32, .own 3 u32, .own 39 u26, .deep 33 c24, .own 3 u24, .own 39 u18, .deep 33 c16, .own 3 u16, .at_ code, .at_ words, .at_ script]∧m=u49.l.length-k) ⟨_,0,(by omega),h99.nrm ⟨rfl,rfl,rfl,trivial⟩ [3,4,8,9,10,11,13,14,16,17,18,20,21,22,24,25,26] rfl,rfl⟩ ?_
     clear h99
     rintro m98 a98 w98 ⟨k,hk,h98,hm98⟩
     refine gG h98<|gK fun _ k100=>sK fun _ k101=>gNl (aO 5 rfl) fun hl102=>gRn (oM 2 rfl<|oln sl_35 (aO 5 rfl) rfl<|oltN _ _ rfl<|.nl)<|nK k101<|?_;clear h98
     refine gcd rfl (fun hb103 hp103=> ?_) fun hb103 hp103=> ?_
     ·skip
      refine gS<|hK k100<|gK fun _ k104=>gB<|sK fun _ k105=>gRn (oM 3 rfl<|oxN sl_35 ti_39 (aO 5 rfl) _ om9 rfl<|olw2 [.int .i64 ((nth u49.l k).st),((nth u49.l k).words).v,((nth u49.l k).prints).v] ti_39 (aO 5 rfl) om9 rfl<|.nl)<|gP (fun _ _ h_=>xCl h_ bd_35 rfl (found_c u54 (nth u49.l k) _ (h_.sh.own 4 rfl) ((h_.sh.own 5 rfl).inner k (show k<u49.l.length from (by omega))).1 ((h_.sh.own 5 rfl).inner k (show k<u49.l.length from (by omega))).2)) rfl<|gRn (oM 1 rfl<|.nl)<|nK k105<|sG (oM 1 rfl<|ont rfl<|.nl)<|gcF rfl (by rw [(decide_eq_true (out_in hfr49 hfr54 (by assumption) (by assumption) (by omega)))];rfl)<|gS<|hK k104<|gL<|gRn (oM 1 rfl<|oadN _ 1 om9 rfl<|oM 1 rfl<|.nl)<|nN<|fun a108 w108 h108=> ?_
      refine x_again ⟨_, ?_,k+1, ?_,h108.nf ⟨rfl,rfl,rfl,trivial⟩,rfl⟩
      · rw [hm98];first|omega|(simp only [lens9];omega)
      · omega
     refine gX<|hK k96<|sG (oM 1 rfl<|.nl)<|gR<|fun a110 w110 h110=>x_ret1 (fn:=Tryz.f13) (t:=4) rfl h110 rfl ?_
     exact ⟨rfl,(h110.sh.sel [] rfl)⟩
    refine gRn (oKs 2 hb93 rfl rfl<|oG (by decide) (r_pickF rfl rfl hb93 rfl) rfl<|opF (by decide) rfl<|.nl)<|nK k92<|gcF rfl rfl<|gS<|hK k75<|gK fun _ k111=>sG (ofB fl_28_0 rfl<|olB 19 ti_26 rfl rfl<|oneI _ _ rfl<|oM 1 rfl<|oG (decide_eq_false (fun h9=>h9 (of_decide_eq_true hb58))) (r_fieldB (r:=0) fl_28_0 rfl rfl rfl) rfl<|oG (decide_eq_false (fun h9=>h9 (of_decide_eq_true hb58))) (r_ldb (i:=15) ti_26 rfl rfl rfl rfl) rfl<|oG (decide_eq_false (fun h9=>h9 (of_decide_eq_true hb58))) (r_neqI (p:=(if ok54=true then (0:Int) else 10)) (q:=0) rfl rfl rfl) rfl<|opF (decide_eq_false (fun h9=>h9 (of_decide_eq_true hb58))) rfl<|.nl)<|gF [5,7,135] rfl<|gcF rfl (decide_eq_false (fun h9=>h9 (of_decide_eq_true hb77)))<|gS<|hK k111<|gK fun _ k113=>sG (oM 1 rfl<|.nl)<|gB<|fun a116 w116 h116=>x_loop (fun m a w=>∃(k:Nat),(k≤u49.l.length)∧St 150 (fun _=>False) W a w [(5,u49.v),(7,u54.v),(19, .int .i64 ((k:Nat):Int))] [.own 3 pr81, .own 3 wd81, .own 3 pr62, .own 3 wd62, .own 39 u54, .own 39 u49, .deep 33 c32, .own 3 u32, .own 39 u26, .deep 33 c24, .own 3 u24, .own 39 u18, .deep 33 c16, .own 3 u16, .at_ code, .at_ words, .at_ script]∧m=u49.l.length-k) ⟨_,0,(by omega),h116.nrm ⟨rfl,rfl,rfl,trivial⟩ [3,4,8,9,10,11,13,14,16,17,18,20,21,22,24,25,26] rfl,rfl⟩ ?_
    clear h116
    rintro m115 a115 w115 ⟨k,hk,h115,hm115⟩
    refine gG h115<|gK fun _ k117=>sK fun _ k118=>gNl (aO 5 rfl) fun hl119=>gRn (oM 2 rfl<|oln sl_35 (aO 5 rfl) rfl<|oltN _ _ rfl<|.nl)<|nK k118<|?_;clear h115
    refine gcd rfl (fun hb120 hp120=> ?_) fun hb120 hp120=> ?_
    ·skip
     refine gS<|hK k117<|gK fun _ k121=>gB<|sK fun _ k122=>gRn (oM 3 rfl<|oxN sl_35 ti_39 (aO 5 rfl) _ om9 rfl<|olw2 [.int .i64 ((nth u49.l k).st),((nth u49.l k).words).v,((nth u49.l k).prints).v] ti_39 (aO 5 rfl) om9 rfl<|.nl)<|gP (fun _ _ h_=>xCl h_ bd_35 rfl (found_c u54 (nth u49.l k) _ (h_.sh.own 4 rfl) ((h_.sh.own 5 rfl).inner k (show k<u49.l.length from (by omega))).1 ((h_.sh.own 5 rfl).inner k (show k<u49.l.length from (by omega))).2)) rfl<|gRn (oM 1 rfl<|.nl)<|nK k122<|sG (oM 1 rfl<|ont rfl<|.nl)<|gcF rfl (by rw [(decide_eq_true (out_in hfr49 hfr54 (by assumption) (by assumption) (by omega)))];rfl)<|gS<|hK k121<|gL<|gRn (oM 1 rfl<|oadN _ 1 om9 rfl<|oM 1 rfl<|.nl)<|nN<|fun a125 w125 h125=> ?_
     refine x_again ⟨_, ?_,k+1, ?_,h125.nf ⟨rfl,rfl,rfl,trivial⟩,rfl⟩
     · rw [hm115];first|omega|(simp only [lens9];omega)
     · omega
    refine gX<|hK k113<|sG (oM 1 rfl<|.nl)<|gR<|fun a127 w127 h127=>x_ret1 (fn:=Tryz.f13) (t:=4) rfl h127 rfl ?_
    exact ⟨rfl,(h127.sh.sel [] rfl)⟩
   have hok54:ok54=false:=cd_eq.symm.trans hb77
   refine gS<|hK k75<|gF [5,6,7,8] rfl<|gK fun _ k128=>sG (ofB fl_28_0 rfl<|olB 14 ti_26 rfl rfl<|oneI _ _ rfl<|oM 1 rfl<|oG (decide_eq_false (fun h9=>h9 (of_decide_eq_true hb58))) (r_fieldB (r:=0) fl_28_0 rfl rfl rfl) rfl<|oG (decide_eq_false (fun h9=>h9 (of_decide_eq_true hb58))) (r_ldb (i:=10) ti_26 rfl rfl rfl rfl) rfl<|oG (decide_eq_false (fun h9=>h9 (of_decide_eq_true hb58))) (r_neqI (p:=(if ok54=true then (0:Int) else 10)) (q:=0) rfl rfl rfl) rfl<|opF (decide_eq_false (fun h9=>h9 (of_decide_eq_true hb58))) rfl<|.nl)<|gcT rfl (decide_eq_true (of_decide_eq_false hb77))<|sG (oM 1 rfl<|.nl)<|gR<|uT<|fun a131 w131 h131=>x_ret1 (fn:=Tryz.f13) (t:=4) rfl h131 rfl ?_
   exact ⟨rfl,(h131.sh.sel [] rfl)⟩
  refine gRn (oKs 2 hb74 rfl rfl<|oG (by decide) (r_pickF rfl rfl hb74 rfl) rfl<|opF (by decide) rfl<|.nl)<|nK k73<|gcF rfl rfl<|gS<|hK k56<|gK fun _ k132=>sG (ofB fl_28_0 rfl<|olB 10 ti_26 rfl rfl<|oeqI _ _ rfl<|.nl)<|gcd rfl (fun hb134 hp134=> ?_) fun hb134 hp134=> ?_
  ·skip
   have hok54:ok54=true:=cd_eq.symm.trans hb134
   refine sK fun _ k135=>gRn (olw 18 ti_25 rfl rfl<|oM 1 rfl<|.nl)<|fun a137 w137 h137=>wl_ex (x_call h137 bd_40 rfl rfl rfl rfl rfl (tsoRun_k code words script Lk R _ (h137.sh.at 19 rfl) (h137.sh.at 20 rfl) (h137.sh.at 21 rfl) hok)) (wanted_none rfl _) ?_
   rintro a138 w138 ⟨_,⟨pr138,wd138,st138,sn138,rfl,hrun138,hs138⟩,hf138⟩
   have h138:=(⟨hf138,h137.sh.call hs138 (by intro A hA b hb;simp only [List.mem_cons,List.not_mem_nil,or_false] at hA;first|(subst hA;exact Flat.noRd hb)|(rcases hA with rfl|rfl<;>first|exact (hb:False).elim|exact Flat.noRd hb|exact .inl (hb:_)))⟩:St 150 (fun _=>False) W a138 w138 _ _)
   clear hf138 hs138
   clear h137
   refine gG h138<|gRn (oM 1 rfl<|oxt rfl<|oxt rfl<|.nl)<|gal ti_60 rfl fun b139=>gal ti_28 rfl fun b140=>gE (fun _ _ h_=>x_stb (i:=1) (vs:= [pr138.v, .int .i64 st138,wd138.v, .int .i64 ((sn138:Nat):Int)]) (cs' := [pr138.v, .int .i64 st138,wd138.v, .int .i64 ((sn138:Nat):Int)]) h_ ti_60 rfl rfl rfl rfl rfl rfl rfl (allOne_cons ((h_.sh.own 2 rfl)).one (allOne_cons rfl (allOne_cons ((h_.sh.own 3 rfl)).one (allOne_cons rfl allOne_nil)))) (Nat.le_of_ble_eq_true rfl) rfl) rfl<|gsw 0 ti_28 rfl rfl rfl<|nK k135<|gF [5,6,7,8,15,16] rfl<|sK fun _ k143=>gRn (olw 1 ti_60 rfl rfl<|.nl)<|gP (fun _ _ h_=>xCl h_ bd_34 rfl (kended_c pr138 wd138 st138 sn138 _ (h_.sh.own 2 rfl) (h_.sh.own 3 rfl))) rfl<|gal ti_39 rfl fun b145=>gE (fun _ _ h_=>x_stb (i:=0) (vs:= [.int .i64 st138,(endW st138 wd138).v,pr138.v]) (cs' := [.int .i64 st138,(endW st138 wd138).v,pr138.v]) h_ ti_39 rfl rfl rfl rfl rfl rfl rfl (allOne_cons rfl (allOne_cons ((endW_at (h_.sh.own 4 rfl))).one (allOne_cons ((h_.sh.own 3 rfl)).one allOne_nil))) (Nat.le_of_ble_eq_true rfl) rfl) rfl<|nK k143<|sK fun _ k147=>gRn (oM 1 rfl<|olw 0 ti_39 rfl rfl<|.nl)<|gP (fun _ _ h_=>xCl h_ bd_35 rfl (found_c u54 (⟨st138,(endW st138 wd138),pr138⟩:OutL) _ (h_.sh.own 10 rfl) (endW_at (h_.sh.own 4 rfl)) (h_.sh.own 3 rfl))) rfl<|gRn (oM 1 rfl<|.nl)<|nK k147<|sK fun _ k149=>gRn (ofB fl_28_0 rfl<|olB 1 ti_26 rfl rfl<|oneN 0 0 rfl<|oM 1 rfl<|oG (by decide) (r_fieldB (r:=1) fl_60_1 rfl rfl rfl) rfl<|oG (by decide) (r_ldb (i:=2) ti_3 rfl rfl rfl rfl) rfl<|oG (by decide) (r_neqI (p:=st138) (q:=3) rfl rfl rfl) rfl<|oG (by decide) (r_move rfl rfl) rfl<|.nl)<|?_;clear h138
   rcases dsp (st138≠3) with ⟨hb150,hp150⟩|⟨hb150,hp150⟩
   ·skip
    refine gRn (oG hb150 (r_move rfl rfl) rfl<|oG hb150 (r_not rfl rfl) rfl<|oG (by decide) (r_pickT rfl rfl hb150 rfl) rfl<|opF (by decide) rfl<|.nl)<|nK k149<|gcF rfl (by rw [(decide_eq_true (ranIn hok hrun138 (by first|assumption|omega) (by assumption) hfr54))];rfl)<|gS<|hK k132<|gK fun _ k151=>sG (ofB fl_28_0 rfl<|olB 19 ti_26 rfl rfl<|oneI _ _ rfl<|oM 1 rfl<|oG (decide_eq_false (fun h9=>h9 (of_decide_eq_true hb58))) (r_fieldB (r:=0) fl_28_0 rfl rfl rfl) rfl<|oG (decide_eq_false (fun h9=>h9 (of_decide_eq_true hb58))) (r_ldb (i:=15) ti_26 rfl rfl rfl rfl) rfl<|oG (decide_eq_false (fun h9=>h9 (of_decide_eq_true hb58))) (r_neqI (p:=(if ok54=true then (0:Int) else 10)) (q:=0) rfl rfl rfl) rfl<|opF (decide_eq_false (fun h9=>h9 (of_decide_eq_true hb58))) rfl<|.nl)<|gF [5,7,135] rfl<|gcF rfl (decide_eq_false (fun h9=>h9 (of_decide_eq_true hb134)))<|gS<|hK k151<|gK fun _ k153=>sG (oM 1 rfl<|.nl)<|gB<|fun a156 w156 h156=>x_loop (fun m a w=>∃(k:Nat),(k≤u49.l.length)∧St 150 (fun _=>False) W a w [(5,u49.v),(7,u54.v),(19, .int .i64 ((k:Nat):Int))] [.own 3 pr138, .own 3 wd138, .own 3 pr62, .own 3 wd62, .own 39 u54, .own 39 u49, .deep 33 c32, .own 3 u32, .own 39 u26, .deep 33 c24, .own 3 u24, .own 39 u18, .deep 33 c16, .own 3 u16, .at_ code, .at_ words, .at_ script]∧m=u49.l.length-k) ⟨_,0,(by omega),h156.nrm ⟨rfl,rfl,rfl,trivial⟩ [3,4,8,9,10,11,13,14,16,17,18,20,21,22,24,25,26] rfl,rfl⟩ ?_
    clear h156
    rintro m155 a155 w155 ⟨k,hk,h155,hm155⟩
    refine gG h155<|gK fun _ k157=>sK fun _ k158=>gNl (aO 5 rfl) fun hl159=>gRn (oM 2 rfl<|oln sl_35 (aO 5 rfl) rfl<|oltN _ _ rfl<|.nl)<|nK k158<|?_;clear h155
    refine gcd rfl (fun hb160 hp160=> ?_) fun hb160 hp160=> ?_
    ·skip
     refine gS<|hK k157<|gK fun _ k161=>gB<|sK fun _ k162=>gRn (oM 3 rfl<|oxN sl_35 ti_39 (aO 5 rfl) _ om9 rfl<|olw2 [.int .i64 ((nth u49.l k).st),((nth u49.l k).words).v,((nth u49.l k).prints).v] ti_39 (aO 5 rfl) om9 rfl<|.nl)<|gP (fun _ _ h_=>xCl h_ bd_35 rfl (found_c u54 (nth u49.l k) _ (h_.sh.own 4 rfl) ((h_.sh.own 5 rfl).inner k (show k<u49.l.length from (by omega))).1 ((h_.sh.own 5 rfl).inner k (show k<u49.l.length from (by omega))).2)) rfl<|gRn (oM 1 rfl<|.nl)<|nK k162<|sG (oM 1 rfl<|ont rfl<|.nl)<|gcF rfl (by rw [(decide_eq_true (out_in hfr49 hfr54 (by assumption) (by assumption) (by omega)))];rfl)<|gS<|hK k161<|gL<|gRn (oM 1 rfl<|oadN _ 1 om9 rfl<|oM 1 rfl<|.nl)<|nN<|fun a165 w165 h165=> ?_
     refine x_again ⟨_, ?_,k+1, ?_,h165.nf ⟨rfl,rfl,rfl,trivial⟩,rfl⟩
     · rw [hm155];first|omega|(simp only [lens9];omega)
     · omega
    refine gX<|hK k153<|sG (oM 1 rfl<|.nl)<|gR<|fun a167 w167 h167=>x_ret1 (fn:=Tryz.f13) (t:=4) rfl h167 rfl ?_
    exact ⟨rfl,(h167.sh.sel [] rfl)⟩
   refine gRn (oKs 2 hb150 rfl rfl<|oG (by decide) (r_pickF rfl rfl hb150 rfl) rfl<|opF (by decide) rfl<|.nl)<|nK k149<|gcF rfl rfl<|gS<|hK k132<|gK fun _ k168=>sG (ofB fl_28_0 rfl<|olB 19 ti_26 rfl rfl<|oneI _ _ rfl<|oM 1 rfl<|oG (decide_eq_false (fun h9=>h9 (of_decide_eq_true hb58))) (r_fieldB (r:=0) fl_28_0 rfl rfl rfl) rfl<|oG (decide_eq_false (fun h9=>h9 (of_decide_eq_true hb58))) (r_ldb (i:=15) ti_26 rfl rfl rfl rfl) rfl<|oG (decide_eq_false (fun h9=>h9 (of_decide_eq_true hb58))) (r_neqI (p:=(if ok54=true then (0:Int) else 10)) (q:=0) rfl rfl rfl) rfl<|opF (decide_eq_false (fun h9=>h9 (of_decide_eq_true hb58))) rfl<|.nl)<|gF [5,7,135] rfl<|gcF rfl (decide_eq_false (fun h9=>h9 (of_decide_eq_true hb134)))<|gS<|hK k168<|gK fun _ k170=>sG (oM 1 rfl<|.nl)<|gB<|fun a173 w173 h173=>x_loop (fun m a w=>∃(k:Nat),(k≤u49.l.length)∧St 150 (fun _=>False) W a w [(5,u49.v),(7,u54.v),(19, .int .i64 ((k:Nat):Int))] [.own 3 pr138, .own 3 wd138, .own 3 pr62, .own 3 wd62, .own 39 u54, .own 39 u49, .deep 33 c32, .own 3 u32, .own 39 u26, .deep 33 c24, .own 3 u24, .own 39 u18, .deep 33 c16, .own 3 u16, .at_ code, .at_ words, .at_ script]∧m=u49.l.length-k) ⟨_,0,(by omega),h173.nrm ⟨rfl,rfl,rfl,trivial⟩ [3,4,8,9,10,11,13,14,16,17,18,20,21,22,24,25,26] rfl,rfl⟩ ?_
   clear h173
   rintro m172 a172 w172 ⟨k,hk,h172,hm172⟩
   refine gG h172<|gK fun _ k174=>sK fun _ k175=>gNl (aO 5 rfl) fun hl176=>gRn (oM 2 rfl<|oln sl_35 (aO 5 rfl) rfl<|oltN _ _ rfl<|.nl)<|nK k175<|?_;clear h172
   refine gcd rfl (fun hb177 hp177=> ?_) fun hb177 hp177=> ?_
   ·skip
    refine gS<|hK k174<|gK fun _ k178=>gB<|sK fun _ k179=>gRn (oM 3 rfl<|oxN sl_35 ti_39 (aO 5 rfl) _ om9 rfl<|olw2 [.int .i64 ((nth u49.l k).st),((nth u49.l k).words).v,((nth u49.l k).prints).v] ti_39 (aO 5 rfl) om9 rfl<|.nl)<|gP (fun _ _ h_=>xCl h_ bd_35 rfl (found_c u54 (nth u49.l k) _ (h_.sh.own 4 rfl) ((h_.sh.own 5 rfl).inner k (show k<u49.l.length from (by omega))).1 ((h_.sh.own 5 rfl).inner k (show k<u49.l.length from (by omega))).2)) rfl<|gRn (oM 1 rfl<|.nl)<|nK k179<|sG (oM 1 rfl<|ont rfl<|.nl)<|gcF rfl (by rw [(decide_eq_true (out_in hfr49 hfr54 (by assumption) (by assumption) (by omega)))];rfl)<|gS<|hK k178<|gL<|gRn (oM 1 rfl<|oadN _ 1 om9 rfl<|oM 1 rfl<|.nl)<|nN<|fun a182 w182 h182=> ?_
    refine x_again ⟨_, ?_,k+1, ?_,h182.nf ⟨rfl,rfl,rfl,trivial⟩,rfl⟩
    · rw [hm172];first|omega|(simp only [lens9];omega)
    · omega
   refine gX<|hK k170<|sG (oM 1 rfl<|.nl)<|gR<|fun a184 w184 h184=>x_ret1 (fn:=Tryz.f13) (t:=4) rfl h184 rfl ?_
   exact ⟨rfl,(h184.sh.sel [] rfl)⟩
  have hok54:ok54=false:=cd_eq.symm.trans hb134
  refine gS<|hK k132<|gF [5,6,7,8] rfl<|gK fun _ k185=>sG (ofB fl_28_0 rfl<|olB 14 ti_26 rfl rfl<|oneI _ _ rfl<|oM 1 rfl<|oG (decide_eq_false (fun h9=>h9 (of_decide_eq_true hb58))) (r_fieldB (r:=0) fl_28_0 rfl rfl rfl) rfl<|oG (decide_eq_false (fun h9=>h9 (of_decide_eq_true hb58))) (r_ldb (i:=10) ti_26 rfl rfl rfl rfl) rfl<|oG (decide_eq_false (fun h9=>h9 (of_decide_eq_true hb58))) (r_neqI (p:=(if ok54=true then (0:Int) else 10)) (q:=0) rfl rfl rfl) rfl<|opF (decide_eq_false (fun h9=>h9 (of_decide_eq_true hb58))) rfl<|.nl)<|gcT rfl (decide_eq_true (of_decide_eq_false hb134))<|sG (oM 1 rfl<|.nl)<|gR<|uT<|fun a188 w188 h188=>x_ret1 (fn:=Tryz.f13) (t:=4) rfl h188 rfl ?_
  exact ⟨rfl,(h188.sh.sel [] rfl)⟩
 have hok49:ok49=false:=cd_eq.symm.trans hb58
 refine gS<|hK k56<|gK fun _ k189=>sG (ofB fl_28_0 rfl<|olB 5 ti_26 rfl rfl<|oeqI _ _ rfl<|.nl)<|gcd rfl (fun hb191 hp191=> ?_) fun hb191 hp191=> ?_
 ·skip
  have hok54:ok54=true:=cd_eq.symm.trans hb191
  refine sK fun _ k192=>gRn (olw 13 ti_25 rfl rfl<|oM 1 rfl<|.nl)<|fun a194 w194 h194=>wl_ex (x_call h194 bd_40 rfl rfl rfl rfl rfl (tsoRun_k code words script Lk R _ (h194.sh.at 14 rfl) (h194.sh.at 15 rfl) (h194.sh.at 16 rfl) hok)) (wanted_none rfl _) ?_
  rintro a195 w195 ⟨_,⟨pr195,wd195,st195,sn195,rfl,hrun195,hs195⟩,hf195⟩
  have h195:=(⟨hf195,h194.sh.call hs195 (by intro A hA b hb;simp only [List.mem_cons,List.not_mem_nil,or_false] at hA;first|(subst hA;exact Flat.noRd hb)|(rcases hA with rfl|rfl<;>first|exact (hb:False).elim|exact Flat.noRd hb|exact .inl (hb:_)))⟩:St 150 (fun _=>False) W a195 w195 _ _)
  clear hf195 hs195
  clear h194
  refine gG h195<|gRn (oM 1 rfl<|oxt rfl<|oxt rfl<|.nl)<|gal ti_60 rfl fun b196=>gal ti_28 rfl fun b197=>gE (fun _ _ h_=>x_stb (i:=1) (vs:= [pr195.v, .int .i64 st195,wd195.v, .int .i64 ((sn195:Nat):Int)]) (cs' := [pr195.v, .int .i64 st195,wd195.v, .int .i64 ((sn195:Nat):Int)]) h_ ti_60 rfl rfl rfl rfl rfl rfl rfl (allOne_cons ((h_.sh.own 2 rfl)).one (allOne_cons rfl (allOne_cons ((h_.sh.own 3 rfl)).one (allOne_cons rfl allOne_nil)))) (Nat.le_of_ble_eq_true rfl) rfl) rfl<|gsw 0 ti_28 rfl rfl rfl<|nK k192<|gF [5,6,7,8,15,16] rfl<|sK fun _ k200=>gRn (olw 1 ti_60 rfl rfl<|.nl)<|gP (fun _ _ h_=>xCl h_ bd_34 rfl (kended_c pr195 wd195 st195 sn195 _ (h_.sh.own 2 rfl) (h_.sh.own 3 rfl))) rfl<|gal ti_39 rfl fun b202=>gE (fun _ _ h_=>x_stb (i:=0) (vs:= [.int .i64 st195,(endW st195 wd195).v,pr195.v]) (cs' := [.int .i64 st195,(endW st195 wd195).v,pr195.v]) h_ ti_39 rfl rfl rfl rfl rfl rfl rfl (allOne_cons rfl (allOne_cons ((endW_at (h_.sh.own 4 rfl))).one (allOne_cons ((h_.sh.own 3 rfl)).one allOne_nil))) (Nat.le_of_ble_eq_true rfl) rfl) rfl<|nK k200<|sK fun _ k204=>gRn (oM 1 rfl<|olw 0 ti_39 rfl rfl<|.nl)<|gP (fun _ _ h_=>xCl h_ bd_35 rfl (found_c u54 (⟨st195,(endW st195 wd195),pr195⟩:OutL) _ (h_.sh.own 5 rfl) (endW_at (h_.sh.own 4 rfl)) (h_.sh.own 3 rfl))) rfl<|gRn (oM 1 rfl<|.nl)<|nK k204<|sK fun _ k206=>gRn (ofB fl_28_0 rfl<|olB 1 ti_26 rfl rfl<|oneN 0 0 rfl<|oM 1 rfl<|oG (by decide) (r_fieldB (r:=1) fl_60_1 rfl rfl rfl) rfl<|oG (by decide) (r_ldb (i:=2) ti_3 rfl rfl rfl rfl) rfl<|oG (by decide) (r_neqI (p:=st195) (q:=3) rfl rfl rfl) rfl<|oG (by decide) (r_move rfl rfl) rfl<|.nl)<|?_;clear h195
  rcases dsp (st195≠3) with ⟨hb207,hp207⟩|⟨hb207,hp207⟩
  ·skip
   refine gRn (oG hb207 (r_move rfl rfl) rfl<|oG hb207 (r_not rfl rfl) rfl<|oG (by decide) (r_pickT rfl rfl hb207 rfl) rfl<|opF (by decide) rfl<|.nl)<|nK k206<|gcF rfl (by rw [(decide_eq_true (ranIn hok hrun195 (by first|assumption|omega) (by assumption) hfr54))];rfl)<|gS<|hK k189<|gK fun _ k208=>sG (ofB fl_28_0 rfl<|olB 14 ti_26 rfl rfl<|oneI _ _ rfl<|oM 1 rfl<|oKs 3 (decide_eq_true (of_decide_eq_false hb58)) rfl rfl<|opT (decide_eq_true (of_decide_eq_false hb58)) rfl<|.nl)<|gF [5,7,135] rfl<|gcT rfl rfl<|sG (oM 1 rfl<|.nl)<|gR<|uT<|fun a211 w211 h211=>x_ret1 (fn:=Tryz.f13) (t:=4) rfl h211 rfl ?_
   exact ⟨rfl,(h211.sh.sel [] rfl)⟩
  refine gRn (oKs 2 hb207 rfl rfl<|oG (by decide) (r_pickF rfl rfl hb207 rfl) rfl<|opF (by decide) rfl<|.nl)<|nK k206<|gcF rfl rfl<|gS<|hK k189<|gK fun _ k212=>sG (ofB fl_28_0 rfl<|olB 14 ti_26 rfl rfl<|oneI _ _ rfl<|oM 1 rfl<|oKs 3 (decide_eq_true (of_decide_eq_false hb58)) rfl rfl<|opT (decide_eq_true (of_decide_eq_false hb58)) rfl<|.nl)<|gF [5,7,135] rfl<|gcT rfl rfl<|sG (oM 1 rfl<|.nl)<|gR<|uT<|fun a215 w215 h215=>x_ret1 (fn:=Tryz.f13) (t:=4) rfl h215 rfl ?_
  exact ⟨rfl,(h215.sh.sel [] rfl)⟩
 have hok54:ok54=false:=cd_eq.symm.trans hb191
 refine gS<|hK k189<|gK fun _ k216=>sG (ofB fl_28_0 rfl<|olB 9 ti_26 rfl rfl<|oneI _ _ rfl<|oM 1 rfl<|oKs 3 (decide_eq_true (of_decide_eq_false hb58)) rfl rfl<|opT (decide_eq_true (of_decide_eq_false hb58)) rfl<|.nl)<|gF [5,7,135] rfl<|gcT rfl rfl<|sG (oM 1 rfl<|.nl)<|gR<|uT<|fun a219 w219 h219=>x_ret1 (fn:=Tryz.f13) (t:=4) rfl h219 rfl ?_
 exact ⟨rfl,(h219.sh.sel [] rfl)⟩
theorem spaceRuns_any (code:Ls (Ls Ins))(words script:Ls Int)(locks regs:Int)(W:World)(hcode:code.At W)(hwords:words.At W)(hscript:script.At W)(hR:PgR (pgOf code words locks regs)):Rets Tryz.prog 13 [.agg #[code.v,words.v, .int .i64 locks, .int .i64 regs],script.v] W (fun v w' =>v= .bool true∧Sh0 W w' []):=by
 cases hv:vastG (code.l.map (·.l)) words.l with
 |true=>exact spaceRuns_v code words script locks regs W hcode hwords hscript hv
 |false=>
  by_cases hok:OkPg (pgOf code words locks regs)
  ·obtain ⟨Lk,rfl⟩:=Int.eq_ofNat_of_zero_le hok.locks.1
   obtain ⟨R,rfl⟩:=Int.eq_ofNat_of_zero_le (show 0≤regs by have:=hok.regs.1;have e:(pgOf code words (Lk:Int) regs).regs=regs:=rfl;omega)
   exact spaceRuns_k code words script Lk R W hcode hwords hscript hv hok hR
  ·exact spaceRuns_b code words script locks regs W hcode hwords hscript hv (fun h=>hok (checkG_code_pos.1 h))
end Go.Proofs.YtmjkobhkkjgplaaGreatDoor
namespace Go.Proofs.YtmjkobhkkjgplaaGreatDoor
open Go Go.ChangeShapes Go.WideShapes Go.ChangeAt Go.RowKit
set_option linter.unusedSimpArgs false
set_option linter.unusedVariables false
theorem open_Sl {α:Type}[Rd α]{H:Type}{enc:TypeId×Value→H}{P:Program}{w:World}{base:Nat}{spare:Nat→Bool}{held:Bool}{r:Go.Reach}{b0:Nat}{T e:TypeId}{v:Value}{d:DataW H}{p:List MemPlace}
  (hT:P.underlying T=some (.slice e)) (hR:Rd.ty (Sl α) P T) (hv:Value.okWide P w r b0 T v) (h:DataW.Trod enc P w base spare held T v d p) (hw:∀n∈DataW.weights P T d,n≤reachBytes):∃s:Ls α,v=s.v∧s.At w:=by
 obtain ⟨a,len,cap,rfl⟩:=okWide_slice hT hv
 obtain ⟨fuel,hf⟩:=h
 obtain ⟨s,e1,hat,_⟩:=Rd.read hR hf hw
 have e2:(Value.slice a len cap)= .slice s.A s.l.length s.cap:=by
  have: [(Value.slice a len cap)]= [.slice s.A s.l.length s.cap]:=e1
  exact (List.cons.inj this).1
 exact ⟨⟨.slice s.A s.l.length s.cap,s.l⟩,e2,s.A,s.cap,rfl,hat⟩
theorem wf64 {n:Int}(h:(Lit.int .i64 n).wf=true):R64 n:=by
 unfold Lit.wf at h
 simp only [Bool.and_eq_true,decide_eq_true_eq] at h
 have e1:IntKind.i64.min= -9223372036854775808:=by kernel_rfl
 have e2:IntKind.i64.max=9223372036854775807:=by kernel_rfl
 rw [e1,e2] at h
 unfold R64
 omega
theorem pr_fine {pr:PR}(h:pr.fine):PgR (pgOf (ofSl2 pr.code) (ofSl pr.words) pr.locks pr.regs):=by
 obtain ⟨h1,h2,_,_⟩:=h
 refine ⟨fun c hc i hi=> ?_,fun n hn=> ?_⟩
 ·obtain ⟨l,hl,rfl⟩:=List.mem_map.1 hc
  obtain ⟨s,hs,rfl⟩:=List.mem_map.1 hl
  obtain ⟨k,hk,rfl⟩:=List.mem_iff_getElem.1 hs
  have h3:=h1 k hk
  rw [nth_lt _ _ hk] at h3
  obtain ⟨q,hq,rfl⟩:=List.mem_iff_getElem.1 hi
  have h4:=h3 q hq
  have hq' :q<(pr.code.l[k]).l.length:=hq
  rw [nth_lt _ _ hq'] at h4
  exact ⟨wf64 h4.2.1,wf64 h4.2.2.1,wf64 h4.2.2.2⟩
 ·obtain ⟨k,hk,rfl⟩:=List.mem_iff_getElem.1 hn
  have hk' :k<pr.words.l.length:=hk
  have h3:=h2 k hk'
  rw [nth_lt _ _ hk'] at h3
  exact wf64 h3
theorem door_met (os:Os)(args:Array Value):laidMetH Tryz.prog Rows.spaceRunsRow.laid ((World.doorLaid Tryz.prog 24 os).forCall (fun _ _=>0) ⟨#[],args, []⟩).memory:=
 laidMetH_of_parts3 (fuel:=8) (laidMet_of_run' 8 (by kernel_rfl) (by kernel_rfl)) (by kernel_rfl) (by kernel_rfl)
set_option maxRecDepth 100000 in
theorem spaceRuns_lifted (os:Os)(started:os.Started)(H:Type)(enc:TypeId×Value→H):
  ReturnsInHanded {} Tryz.checked os 13 .any (fun w args=>(Rows.spaceRunsSpec.pre enc Tryz.prog Tryz.f13 [] false w args∧laidMetH Tryz.prog Rows.spaceRunsRow.laid w)∧sizedMet enc Tryz.prog Tryz.f13 (OpenSpec.ofChange Rows.spaceRunsSpec) false w args) (Rows.spaceRunsSpec.post enc Tryz.prog Tryz.f13 false true false false):=by
 refine returnsInHanded_of_change_and (C:=Tryz.checked) (X:=fun w _=>laidMetH Tryz.prog Rows.spaceRunsRow.laid w) (fun _ _ _ hh h=>h.of_heap hh) own started (by kernel_rfl) Tryz.func13
  (ChangeSpec.witness_shaped (enc:=enc) (C:=Tryz.checked) (os:=os) (X:=fun w _=>laidMetH Tryz.prog Rows.spaceRunsRow.laid w) false (World.doorLaid Tryz.prog 24 os) #[.agg #[.slice none 0 0, .slice none 0 0, .int .i64 0, .int .i64 0], .slice none 0 0] 8 rfl (World.shaped_of_RefB (by kernel_rfl) (by kernel_rfl)) (by kernel_rfl) (by kernel_rfl) (by kernel_rfl) (door_met os _)) ?_
 intro W base args ds gs before hval0 hW _ hsz0 _ _
 have hsz:(DataW.weightsEach Tryz.prog (Tryz.f13.params.toList++Rows.spaceRunsSpec.plain.varTypes Tryz.prog) (ds++gs)).all (· ≤reachBytes)=true:=hsz0
 have hval:∀(j:Nat) t v,Tryz.f13.params[j]? =some t→args[j]? =some v→Value.okWide Tryz.prog W .any base t v:=hval0
 have hW' :=hW
 obtain ⟨p,q,hA0,hV,rfl,hfz,hnd⟩:=hW
 have hA:DataW.TrodAll enc Tryz.prog W 0 (fun _=>true) true Tryz.f13.params.toList args.toList ds p:=hA0
 rw [Tryz.params13] at hA hval hsz
 obtain ⟨v0,v1,d0,d1,p0,p1,rfl,rfl,rfl,h0,h1⟩:=trodAll_two hA
 obtain ⟨rfl,rfl⟩:=trodVars_none hV
 clear hA0 hval0
 simp only [List.append_nil] at hW'
 have hw0:∀n∈DataW.weights Tryz.prog 25 d0,n≤reachBytes:=by
  intro n hn
  have:=List.all_eq_true.1 hsz n (by simp [DataW.weightsEach,hn])
  simpa using this
 have hw1:∀n∈DataW.weights Tryz.prog 23 d1,n≤reachBytes:=by
  intro n hn
  have:=List.all_eq_true.1 hsz n (by simp [DataW.weightsEach,hn])
  simpa using this
 obtain ⟨fs,hfs,hpf⟩:=ty_pr
 obtain ⟨pr,rfl,hAt,hfin⟩:=open_PR hfs hpf (by kernel_rfl) (hval 0 25 v0 rfl rfl) h0 hw0
 obtain ⟨sc,hv1,hsc⟩:=open_Sl (α:=Int) Tryz.underlying23 ty_ints (hval 1 23 v1 rfl rfl) h1 hw1
 subst hv1
 have hlt:∀x∈p0++p1,x.block<W.heap.size:=fun x hx=>by simpa using hW'.lt x hx
 have hcall:=spaceRuns_any (ofSl2 pr.code) (ofSl pr.words) sc pr.locks pr.regs W (ofSl2_at hAt.code) (ofSl_at hAt.words) hsc (pr_fine hfin)
 refine Calls.mono hcall fun e W' ⟨v',he,hv',hg0⟩=> ?_
 have hg:=hg0.chg.to_below
 subst he
 subst hv'
 have hm:=trodAll_mk2 (Below.trod laidOut (by kernel_rfl) (of_decide_eq_true (by kernel_rfl)) h0 hg (fun x hx=>hlt x (by simp [hx]))) (Below.trod laidOut (by kernel_rfl) (of_decide_eq_true (by kernel_rfl)) h1 hg (fun x hx=>hlt x (by simp [hx])))
 exact ⟨_,rfl,_,_,_, [],p0++p1, [],hW',trodAll_mk1 (shut_bool Tryz.underlying4 true),hm,rfl,hg.frame _,fun h=>by cases h⟩
theorem spaceRuns_said :Rows.SpaceRunsSaid:=
 OpenClaim.holds_of_wide 13 Tryz.f13 rfl rfl rfl rfl rfl rfl rfl ⟨rfl,rfl,rfl,rfl,rfl⟩ rfl rfl rfl rfl rfl (by kernel_rfl) Tryz.func13 (by kernel_rfl)
  (of_decide_eq_true (by kernel_rfl)) (by unfold Func.isWrapper;first|(rw [if_pos (by decide+kernel)];kernel_rfl)|(rw [if_neg (by decide+kernel)];exact ⟨rfl,rfl⟩))
  (fun os started H enc _=>spaceRuns_lifted os started H enc)
theorem spaceRuns_holds :Rows.SpaceRunsCardSaid:=
 Claim7.holds_tied_plain_at .later [] [.data, .data, .data] true (true, "7156a00dd565ccc5b243c7c66c0e1b87025c3a7a962659fa9eea236c69567f4f") false
  spaceRuns_said (fun _ h=>by cases h) (by kernel_rfl) (fun _ h=>by cases h) spaceRuns_row_tie rfl ⟨rfl,rfl⟩ (by kernel_rfl) rfl
  (fun f fn hf hfn=>by
   obtain rfl:f=13:=Option.some.inj ((show Tryz.prog.funcNamed Rows.spaceRunsRow.func=some 13 by kernel_rfl).symm.trans hf)|>.symm
   obtain rfl:fn=Tryz.f13:=(Option.some.inj (Tryz.func13.symm.trans hfn)).symm
   exact ⟨by kernel_rfl,fun j t ht=>by
    rw [Tryz.params13] at ht
    have h3:t=25∨t=23:=by
     rcases j with _|_|j
     ·exact .inl (by simpa using ht.symm)
     ·exact .inr (by simpa using ht.symm)
     ·simp at ht
    rcases h3 with rfl|rfl
    ·exact (show Tryz.prog.wantsStandIn 25=false by kernel_rfl)
    ·exact (show Tryz.prog.wantsStandIn 23=false by kernel_rfl)⟩)
  (by kernel_rfl)
end Go.Proofs.YtmjkobhkkjgplaaGreatDoor
