/- A program with a fence behind each store is robust, where that can be told; for every program: the statement holds, under no condition. -/
import Derived.Test.YtmjkobhkkjgplaaGreatDoorQ4
import Derived.ProofKit
import Derived.OpenShut
import Derived.Deep.Slices
import Derived.Carry
import Derived.SizedLaws
import Derived.Test.YtmjkobhkkjgplaaGreatDoorCards
import Derived.Test.YtmjkobhkkjgplaaGreatDoorTie
import Derived.LaidLaws
import Derived.LaidHandle
import Derived.LaidMore
import Derived.Handed
import Derived.SevenTiedAt
namespace Go.Proofs.YtmjkobhkkjgplaaGreatDoor
open Go.RowKit
set_option linter.unusedSimpArgs false
set_option linter.unusedVariables false
theorem store_pc (m:Int)(x:TS)(w:Wt)(u:Int):TS.store m { x with pc:=u } w= { x.store m w with pc:=u } :=by unfold TS.store;split<;>rfl
theorem store_pc' (m:Int)(x:TS)(w:Wt):(x.store m w).pc=x.pc:=by unfold TS.store;split<;>rfl
theorem execT_pc (m:Int)(n:Nat)(i:Ins)(x:TS)(u:Int)(h14:i.op≠14)(h15:i.op≠15):execT m n i { x with pc:=u } = { execT m n i x with pc:=u }∧(execT m n i x).pc=x.pc:=by
 by_cases e1:i.op=1
 ·rw [execT_1 e1,execT_1 e1];exact ⟨rfl,rfl⟩
 by_cases e2:i.op=2
 ·rw [execT_2 e2,execT_2 e2];exact ⟨rfl,rfl⟩
 by_cases e3:i.op=3
 ·rw [execT_3 e3,execT_3 e3];exact ⟨rfl,rfl⟩
 by_cases e4:i.op=4
 ·rw [execT_4 e4,execT_4 e4];exact ⟨rfl,rfl⟩
 by_cases e5:i.op=5
 ·rw [execT_5 e5,execT_5 e5];exact ⟨rfl,rfl⟩
 by_cases e6:i.op=6
 ·rw [execT_6 e6,execT_6 e6];exact ⟨rfl,rfl⟩
 by_cases e7:i.op=7
 ·rw [execT_7 e7,execT_7 e7];exact ⟨rfl,rfl⟩
 by_cases e8:i.op=8
 ·rw [execT_8 e8,execT_8 e8];exact ⟨rfl,rfl⟩
 by_cases e9:i.op=9
 ·rw [execT_9 e9,execT_9 e9];exact ⟨store_pc _ _ _ _,store_pc' _ _ _⟩
 by_cases e10:i.op=10
 ·by_cases hw:0≤x.reg i.b∧x.reg i.b<(x.words.length:Int)
  ·rw [execT_10t e10 hw,execT_10t (x:= { x with pc:=u }) e10 hw];exact ⟨rfl,rfl⟩
  ·rw [execT_10f e10 hw,execT_10f (x:= { x with pc:=u }) e10 hw];exact ⟨rfl,rfl⟩
 by_cases e11:i.op=11
 ·by_cases hw:0≤x.reg i.a∧x.reg i.a<(x.words.length:Int)
  ·rw [execT_11t e11 hw,execT_11t (x:= { x with pc:=u }) e11 hw];exact ⟨store_pc _ _ _ _,store_pc' _ _ _⟩
  ·rw [execT_11f e11 hw,execT_11f (x:= { x with pc:=u }) e11 hw];exact ⟨rfl,rfl⟩
 by_cases e13:i.op=13
 ·by_cases hw:nth x.words i.a.toNat=x.reg i.b
  ·rw [execT_13t e13 hw,execT_13t (x:= { x with pc:=u }) e13 hw];exact ⟨rfl,rfl⟩
  ·rw [execT_13f e13 hw,execT_13f (x:= { x with pc:=u }) e13 hw];exact ⟨rfl,rfl⟩
 by_cases e16:i.op=16
 ·rw [execT_16 e16,execT_16 e16];exact ⟨rfl,rfl⟩
 by_cases e17:i.op=17
 ·rw [execT_17 e17,execT_17 e17];exact ⟨rfl,rfl⟩
 by_cases e18:i.op=18
 ·by_cases hw:nth x.owner i.a.toNat≠n
  ·rw [execT_18a e18 hw,execT_18a (x:= { x with pc:=u }) e18 hw];exact ⟨rfl,rfl⟩
  ·by_cases hh:∃j,j<x.wait.length∧(nth x.wait j).lock=true∧(nth x.wait j).wh=i.a
   ·obtain ⟨j,hj,h1,h2⟩:=hh
    rw [execT_18b e18 hw j hj h1 h2,execT_18b (x:= { x with pc:=u }) e18 hw j hj h1 h2];exact ⟨rfl,rfl⟩
   ·rw [execT_18c e18 hw (fun q hq hc=>hh ⟨q,hq,hc⟩),execT_18c (x:= { x with pc:=u }) e18 hw (fun q hq hc=>hh ⟨q,hq,hc⟩)];exact ⟨store_pc _ _ _ _,store_pc' _ _ _⟩
 rw [execT_no ⟨e1,e2,e3,e4,e5,e6,e7,e8,e9,e10,e11,e13,h14,h15,e16,e17,e18⟩,execT_no ⟨e1,e2,e3,e4,e5,e6,e7,e8,e9,e10,e11,e13,h14,h15,e16,e17,e18⟩]
 exact ⟨rfl,rfl⟩
section
variable {p q:Pg}{m m' :Int}
theorem sim_outs (Rel:MSt→MSt→Prop)(h0:∃s',Reach q m' s' ∧Rel (begin_ p) s')
  (hstep:∀s s' t k,Reach p m s→Reach q m' s' →Rel s s' →t<p.code.length→mvOK m (nth p.code t) (s.view t) k=true→if (stepT p m s t k).fell=true then Outs q m' ⟨1, [],(stepT p m s t k).prints⟩ else∃s2,Reach q m' s2∧Rel (s.putT t (stepT p m s t k)) s2)
  (hdone:∀s s',Reach p m s→Reach q m' s' →Rel s s' →ended p s=true→Outs q m' ⟨0,s.words,s.prints⟩)
  (hstuck:∀s s',Reach p m s→Reach q m' s' →Rel s s' →ended p s=false→Stuck_ p m s→Outs q m' ⟨2,s.words,s.prints⟩):∀o,Outs p m o→Outs q m' o:=by
 have key:∀s,Reach p m s→∃s',Reach q m' s' ∧Rel s s' :=by
  intro s hs
  induction hs with
  |start=>exact h0
  |step hr ht hk hf ih=>
   obtain ⟨s',h1,h2⟩:=ih
   have:=hstep _ s' _ _ hr h1 h2 ht hk
   rw [if_neg (by rw [hf];decide)] at this
   exact this
 intro o ho
 cases ho with
 |done hr he=>
  obtain ⟨s',h1,h2⟩:=key _ hr
  exact hdone _ s' hr h1 h2 he
 |stuck hr he hst=>
  obtain ⟨s',h1,h2⟩:=key _ hr
  exact hstuck _ s' hr h1 h2 he hst
 |fell hr ht hk hf=>
  obtain ⟨s',h1,h2⟩:=key _ hr
  have:=hstep _ s' _ _ hr h1 h2 ht hk
  rwa [if_pos hf] at this
end
structure RelP (n:Nat)(R:Nat→Int→Int→Prop)(s s' :MSt):Prop where
 words:s'.words=s.words
 owner:s'.owner=s.owner
 prints:s'.prints=s.prints
 regs:∀t,t<n→(nth s'.ths t).regs=(nth s.ths t).regs
 wait:∀t,t<n→(nth s'.ths t).wait=(nth s.ths t).wait
 pc:∀t,t<n→R t (nth s.ths t).pc (nth s'.ths t).pc
theorem RelP.view {n:Nat}{R:Nat→Int→Int→Prop}{s s' :MSt}(h:RelP n R s s'){t:Nat}(ht:t<n):s'.view t= { s.view t with pc:=(nth s'.ths t).pc } :=by
 unfold MSt.view
 simp only [h.words,h.owner,h.prints,h.regs t ht,h.wait t ht]
theorem putT_th {s:MSt}{t u:Nat}{y:TS}(h:t<s.ths.length):nth (s.putT t y).ths u=if t=u then ⟨y.pc,y.regs,y.wait⟩ else nth s.ths u:=by
 unfold MSt.putT
 simp only [nth_set0]
 by_cases e:t=u<;>simp [e,h]
 intro h2;exact absurd h (by rw [e];omega)
theorem RelP.put {n:Nat}{R:Nat→Int→Int→Prop}{s s' :MSt}(h:RelP n R s s'){t:Nat}(hl:t<s.ths.length)(hl' :t<s'.ths.length){y:TS}{u:Int}(hR:t<n→R t y.pc u):RelP n R (s.putT t y) (s'.putT t { y with pc:=u }):=by
 refine ⟨rfl,rfl,rfl,fun v hv=> ?_,fun v hv=> ?_,fun v hv=> ?_⟩
 ·rw [putT_th hl,putT_th hl'];split
  ·rfl
  ·exact h.regs v hv
 ·rw [putT_th hl,putT_th hl'];split
  ·rfl
  ·exact h.wait v hv
 ·rw [putT_th hl,putT_th hl'];split
  ·rename_i e;subst e;exact hR hv
  ·exact h.pc v hv
theorem RelP.left {n:Nat}{R:Nat→Int→Int→Prop}{s s' :MSt}(h:RelP n R s s'){t:Nat}(hl:t<s.ths.length){u:Int}(hR:t<n→R t u (nth s'.ths t).pc):RelP n R (s.putT t { s.view t with pc:=u }) s' :=by
 refine ⟨h.words,h.owner,h.prints,fun v hv=> ?_,fun v hv=> ?_,fun v hv=> ?_⟩
 ·rw [putT_th hl];split
  ·rename_i e;subst e;exact h.regs _ hv
  ·exact h.regs v hv
 ·rw [putT_th hl];split
  ·rename_i e;subst e;exact h.wait _ hv
  ·exact h.wait v hv
 ·rw [putT_th hl];split
  ·rename_i e;subst e;exact hR hv
  ·exact h.pc v hv
theorem RelP.right {n:Nat}{R:Nat→Int→Int→Prop}{s s' :MSt}(h:RelP n R s s'){t:Nat}(hl:t<s'.ths.length){u:Int}(hR:t<n→R t (nth s.ths t).pc u):RelP n R s (s'.putT t { s'.view t with pc:=u }):=by
 refine ⟨h.words,h.owner,h.prints,fun v hv=> ?_,fun v hv=> ?_,fun v hv=> ?_⟩
 ·rw [putT_th hl];split
  ·rename_i e;subst e;exact h.regs _ hv
  ·exact h.regs v hv
 ·rw [putT_th hl];split
  ·rename_i e;subst e;exact h.wait _ hv
  ·exact h.wait v hv
 ·rw [putT_th hl];split
  ·rename_i e;subst e;exact hR hv
  ·exact h.pc v hv
theorem ended_iff {p:Pg}{s:MSt} :ended p s=true↔∀t,t<p.code.length→¬(nth s.ths t).pc<((nth p.code t).length:Int)∧(nth s.ths t).wait.length=0:=by
 unfold ended
 rw [List.all_eq_true]
 simp only [List.mem_range,Bool.and_eq_true,decide_eq_true_eq]
theorem mvOK_0 {m:Int}{c:List Ins}{x:TS}(h1:x.pc<c.length)(h2:ableL x.owner x.wait.length (nextIns c x.pc)=true):mvOK m c x 0=true:=by
 unfold mvOK ableV
 rw [if_pos rfl,decide_eq_true h1,h2];rfl
theorem Reach.len {p:Pg}{m:Int}(hok:OkPg p){s:MSt}(h:Reach p m s){t:Nat}(ht:t<p.code.length):t<s.ths.length:=by rw [(h.wf hok).ths];exact ht
theorem execT_jump {m:Int}{n:Nat}{i:Ins}{a:Int}{x:TS}(h:i.op=14):execT m n { i with a:=a } x= { x with pc:=a } :=execT_14 (i:= { i with a:=a }) h
theorem execT_zt {m:Int}{n:Nat}{i:Ins}{b:Int}{x:TS}(h:i.op=15)(hz:x.reg i.a=0):execT m n { i with b:=b } x= { x with pc:=b } :=execT_15t (i:= { i with b:=b }) h hz
theorem execT_zf {m:Int}{n:Nat}{i:Ins}{b:Int}{x:TS}(h:i.op=15)(hz:¬x.reg i.a=0):execT m n { i with b:=b } x=x:=execT_15f (i:= { i with b:=b }) h hz
theorem begin_rel {p q:Pg}{R:Nat→Int→Int→Prop}(hl:q.code.length=p.code.length)(hw:q.words=p.words)(hk:q.locks=p.locks)(hr:q.regs=p.regs)(h0:∀t,t<p.code.length→R t 0 0):RelP p.code.length R (begin_ p) (begin_ q):=by
 have e:∀(p:Pg) t,t<p.code.length→nth (begin_ p).ths t=⟨0,List.replicate p.regs.toNat 0, []⟩:=fun p t ht=>nth_map' _ _ _ ht
 refine ⟨hw,by unfold begin_;rw [hk],rfl,fun t ht=> ?_,fun t ht=> ?_,fun t ht=> ?_⟩
 ·rw [e p t ht,e q t (by omega),hr]
 ·rw [e p t ht,e q t (by omega)]
 ·rw [e p t ht,e q t (by omega)];exact h0 t ht
theorem RelP.trans {n:Nat}{R R' R'' :Nat→Int→Int→Prop}{s s' s'' :MSt}(h:RelP n R s s')(h' :RelP n R' s' s'')(hc:∀t a b c,t<n→R t a b→R' t b c→R'' t a c):RelP n R'' s s'' :=
 ⟨h'.words.trans h.words,h'.owner.trans h.owner,h'.prints.trans h.prints,fun t ht=>(h'.regs t ht).trans (h.regs t ht),fun t ht=>(h'.wait t ht).trans (h.wait t ht),fun t ht=>hc t _ _ _ ht (h.pc t ht) (h'.pc t ht)⟩
theorem RelP.refl (n:Nat)(s:MSt):RelP n (fun _ a b=>b=a) s s:=⟨rfl,rfl,rfl,fun _ _=>rfl,fun _ _=>rfl,fun _ _=>rfl⟩
def At1 (t:Nat)(j:Int)(u:Nat)(a b:Int):Prop:=if u=t then b=j else b=a
theorem RelP.one {n:Nat}{s:MSt}{t:Nat}{u:Int}(hl:t<s.ths.length):RelP n (At1 t u) s (s.putT t { s.view t with pc:=u }):=by
 refine ⟨rfl,rfl,rfl,fun v hv=> ?_,fun v hv=> ?_,fun v hv=> ?_⟩
 ·rw [putT_th hl];split
  ·rename_i e;subst e;rfl
  ·rfl
 ·rw [putT_th hl];split
  ·rename_i e;subst e;rfl
  ·rfl
 ·rw [putT_th hl];unfold At1;split
  ·rename_i e;subst e;rw [if_pos rfl]
  ·rename_i e;rw [if_neg (fun h=>e h.symm)]
theorem At1.trans {t:Nat}{i j:Int}{u:Nat}{a b c:Int}(h:At1 t i u a b)(h' :At1 t j u b c):At1 t j u a c:=by
 unfold At1 at*
 split
 ·rename_i e;rw [if_pos e] at h';exact h'
 ·rename_i e;rw [if_neg e] at h h';rw [h',h]
theorem RelP.both {n:Nat}{R:Nat→Int→Int→Prop}{s s' s'' :MSt}(h:RelP n R s s'){t:Nat}(hl:t<s.ths.length){u j:Int}(h' :RelP n (At1 t j) s' s'')(hR:t<n→R t u j):RelP n R (s.putT t { s.view t with pc:=u }) s'' :=by
 refine ⟨h'.words.trans h.words,h'.owner.trans h.owner,h'.prints.trans h.prints,fun v hv=> ?_,fun v hv=> ?_,fun v hv=> ?_⟩
 ·rw [h'.regs v hv,h.regs v hv,putT_th hl];split
  ·rename_i e;subst e;rfl
  ·rfl
 ·rw [h'.wait v hv,h.wait v hv,putT_th hl];split
  ·rename_i e;subst e;rfl
  ·rfl
 ·rw [putT_th hl]
  have h1:=h'.pc v hv
  unfold At1 at h1
  by_cases e:t=v
  ·subst e
   rw [if_pos rfl] at h1
   rw [if_pos rfl,h1]
   exact hR hv
  ·rw [if_neg (fun h=>e h.symm)] at h1
   rw [if_neg e,h1]
   exact h.pc v hv
theorem stepT_e {p:Pg}{m:Int}{s:MSt}{t:Nat} :stepT p m s t 0=execT m t (nextIns (nth p.code t) (s.view t).pc) { s.view t with pc:=(s.view t).pc+1 } :=doT_0 rfl
theorem moved_upto (B:Nat→Ins→List Ins)(code:List Ins):∀n,n≤code.length→((List.range n).flatMap fun i=>(B i (nth code i)).map (fixMv (becL B code) code i)).length=placeL (becL B code) n∧
  ∀i k,i<n→k<(B i (nth code i)).length→nth ((List.range n).flatMap fun i=>(B i (nth code i)).map (fixMv (becL B code) code i)) (placeL (becL B code) i+k)=fixMv (becL B code) code i (nth (B i (nth code i)) k)∧placeL (becL B code) i+k<placeL (becL B code) n
 |0,_=>⟨by simp [placeL],fun i k hi=>absurd hi (by omega)⟩
 |n+1,h=>by
  obtain ⟨h1,h2⟩:=moved_upto B code n (by omega)
  have hp:placeL (becL B code) (n+1)=placeL (becL B code) n+(B n (nth code n)).length:=by
   rw [placeL_succ _ _ (by rw [becL_len];omega),becL_nth _ _ _ (by omega)]
  rw [List.range_succ,List.flatMap_append,List.flatMap_cons,List.flatMap_nil,List.append_nil]
  refine ⟨by rw [List.length_append,h1,hp,List.length_map],fun i k hi hk=> ?_⟩
  rcases Nat.lt_or_ge i n with hlt|hge
  ·obtain ⟨e1,e2⟩:=h2 i k hlt hk
   exact ⟨by rw [nth_app0,if_pos (by rw [h1];exact e2)];exact e1,by omega⟩
  ·obtain rfl:i=n:=by omega
   refine ⟨?_,by omega⟩
   rw [nth_app0,if_neg (by rw [h1];omega),h1,Nat.add_sub_cancel_left,nth_map' _ _ _ hk]
theorem moved_len (B:Nat→Ins→List Ins)(code:List Ins):(movedL B code).length=placeL (becL B code) code.length:=(moved_upto B code _ (Nat.le_refl _)).1
theorem moved_at (B:Nat→Ins→List Ins)(code:List Ins){i k:Nat}(hi:i<code.length)(hk:k<(B i (nth code i)).length):nth (movedL B code) (placeL (becL B code) i+k)=fixMv (becL B code) code i (nth (B i (nth code i)) k)∧placeL (becL B code) i+k<(movedL B code).length:=by
 rw [moved_len];exact (moved_upto B code _ (Nat.le_refl _)).2 i k hi hk
theorem place_succ (B:Nat→Ins→List Ins)(code:List Ins){i:Nat}(hi:i<code.length):placeL (becL B code) (i+1)=placeL (becL B code) i+(B i (nth code i)).length:=by
 rw [placeL_succ _ _ (by rw [becL_len];exact hi),becL_nth _ _ _ hi]
theorem place_mono (B:Nat→Ins→List Ins)(code:List Ins){i j:Nat}(hij:i≤j)(hj:j≤code.length):placeL (becL B code) i≤placeL (becL B code) j:=by
 induction j with
 |zero=>exact (show i=0 by omega)▸Nat.le_refl _
 |succ j ih=>
  rcases Nat.eq_or_lt_of_le hij with e|h
  ·rw [e];exact Nat.le_refl _
  ·have:=ih (by omega) (by omega)
   rw [place_succ B code (by omega)];omega
theorem kind_key {op:Int}(b:ByteArray)(e:kindsB op=b)(h:∀(k:Nat) (hk:k<b.size),((b[k]).toNat:Int)≠99)(k:Nat)(hk:k<(kindsB op).size):(((kindsB op)[k]).toNat:Int)≠99:=by
 subst e;exact h k hk
theorem kind_c {op:Int}(h14:op≠14)(h15:op≠15)(k:Nat)(hk:k<(kindsB op).size):(((kindsB op)[k]).toNat:Int)≠99:=by
 by_cases hop:1≤op∧op≤18
 ·rcases cases18 op hop with rfl|rfl|rfl|rfl|rfl|rfl|rfl|rfl|rfl|rfl|rfl|rfl|rfl|rfl|rfl|rfl|rfl|rfl
  ·refine kind_key ⟨#[114,110]⟩ (by unfold kindsB;simp) (fun k hk=> ?_) k hk
   rcases k with _|_|k
   ·show ((114:UInt8).toNat:Int)≠99;decide
   ·show ((110:UInt8).toNat:Int)≠99;decide
   ·exact absurd hk (by show¬(k+2<2);omega)
  ·refine kind_key ⟨#[114,114]⟩ (by unfold kindsB;simp) (fun k hk=> ?_) k hk
   rcases k with _|_|k
   ·show ((114:UInt8).toNat:Int)≠99;decide
   ·show ((114:UInt8).toNat:Int)≠99;decide
   ·exact absurd hk (by show¬(k+2<2);omega)
  ·refine kind_key ⟨#[114,114,114]⟩ (by unfold kindsB;simp) (fun k hk=> ?_) k hk
   rcases k with _|_|_|k
   ·show ((114:UInt8).toNat:Int)≠99;decide
   ·show ((114:UInt8).toNat:Int)≠99;decide
   ·show ((114:UInt8).toNat:Int)≠99;decide
   ·exact absurd hk (by show¬(k+3<3);omega)
  ·refine kind_key ⟨#[114,114,114]⟩ (by unfold kindsB;simp) (fun k hk=> ?_) k hk
   rcases k with _|_|_|k
   ·show ((114:UInt8).toNat:Int)≠99;decide
   ·show ((114:UInt8).toNat:Int)≠99;decide
   ·show ((114:UInt8).toNat:Int)≠99;decide
   ·exact absurd hk (by show¬(k+3<3);omega)
  ·refine kind_key ⟨#[114,114,114]⟩ (by unfold kindsB;simp) (fun k hk=> ?_) k hk
   rcases k with _|_|_|k
   ·show ((114:UInt8).toNat:Int)≠99;decide
   ·show ((114:UInt8).toNat:Int)≠99;decide
   ·show ((114:UInt8).toNat:Int)≠99;decide
   ·exact absurd hk (by show¬(k+3<3);omega)
  ·refine kind_key ⟨#[114,114,114]⟩ (by unfold kindsB;simp) (fun k hk=> ?_) k hk
   rcases k with _|_|_|k
   ·show ((114:UInt8).toNat:Int)≠99;decide
   ·show ((114:UInt8).toNat:Int)≠99;decide
   ·show ((114:UInt8).toNat:Int)≠99;decide
   ·exact absurd hk (by show¬(k+3<3);omega)
  ·refine kind_key ⟨#[114,114,114]⟩ (by unfold kindsB;simp) (fun k hk=> ?_) k hk
   rcases k with _|_|_|k
   ·show ((114:UInt8).toNat:Int)≠99;decide
   ·show ((114:UInt8).toNat:Int)≠99;decide
   ·show ((114:UInt8).toNat:Int)≠99;decide
   ·exact absurd hk (by show¬(k+3<3);omega)
  ·refine kind_key ⟨#[114,119]⟩ (by unfold kindsB;simp) (fun k hk=> ?_) k hk
   rcases k with _|_|k
   ·show ((114:UInt8).toNat:Int)≠99;decide
   ·show ((119:UInt8).toNat:Int)≠99;decide
   ·exact absurd hk (by show¬(k+2<2);omega)
  ·refine kind_key ⟨#[119,114]⟩ (by unfold kindsB;simp) (fun k hk=> ?_) k hk
   rcases k with _|_|k
   ·show ((119:UInt8).toNat:Int)≠99;decide
   ·show ((114:UInt8).toNat:Int)≠99;decide
   ·exact absurd hk (by show¬(k+2<2);omega)
  ·refine kind_key ⟨#[114,114]⟩ (by unfold kindsB;simp) (fun k hk=> ?_) k hk
   rcases k with _|_|k
   ·show ((114:UInt8).toNat:Int)≠99;decide
   ·show ((114:UInt8).toNat:Int)≠99;decide
   ·exact absurd hk (by show¬(k+2<2);omega)
  ·refine kind_key ⟨#[114,114]⟩ (by unfold kindsB;simp) (fun k hk=> ?_) k hk
   rcases k with _|_|k
   ·show ((114:UInt8).toNat:Int)≠99;decide
   ·show ((114:UInt8).toNat:Int)≠99;decide
   ·exact absurd hk (by show¬(k+2<2);omega)
  ·refine kind_key ⟨#[]⟩ (by unfold kindsB;simp) (fun k hk=> ?_) k hk
   ·exact absurd hk (by show¬(k<0);omega)
  ·refine kind_key ⟨#[119,114,114]⟩ (by unfold kindsB;simp) (fun k hk=> ?_) k hk
   rcases k with _|_|_|k
   ·show ((119:UInt8).toNat:Int)≠99;decide
   ·show ((114:UInt8).toNat:Int)≠99;decide
   ·show ((114:UInt8).toNat:Int)≠99;decide
   ·exact absurd hk (by show¬(k+3<3);omega)
  ·exact absurd rfl h14
  ·exact absurd rfl h15
  ·refine kind_key ⟨#[114]⟩ (by unfold kindsB;simp) (fun k hk=> ?_) k hk
   rcases k with _|k
   ·show ((114:UInt8).toNat:Int)≠99;decide
   ·exact absurd hk (by show¬(k+1<1);omega)
  ·refine kind_key ⟨#[108]⟩ (by unfold kindsB;simp) (fun k hk=> ?_) k hk
   rcases k with _|k
   ·show ((108:UInt8).toNat:Int)≠99;decide
   ·exact absurd hk (by show¬(k+1<1);omega)
  ·refine kind_key ⟨#[108]⟩ (by unfold kindsB;simp) (fun k hk=> ?_) k hk
   rcases k with _|k
   ·show ((108:UInt8).toNat:Int)≠99;decide
   ·exact absurd hk (by show¬(k+1<1);omega)
 ·refine kind_key ⟨#[]⟩ (kindsB_none op hop) (fun k hk=> ?_) k hk
  exact absurd hk (Nat.not_lt_zero _)
theorem fits_move {p p' :Pg}{size size' kind n:Int}(hr:p'.regs=p.regs)(hw:p'.words.length=p.words.length)(hl:p'.locks=p.locks)(hk:kind≠99):fitsG p' size' kind n=fitsG p size kind n:=by
 unfold fitsG
 rw [hr,hw,hl]
 simp only [hk,if_false]
theorem okNum_move {p p' :Pg}{size size' :Int}{x:Ins}{k:Nat}(hr:p'.regs=p.regs)(hw:p'.words.length=p.words.length)(hl:p'.locks=p.locks)(h14:x.op≠14)(h15:x.op≠15):okNumG p' size' x k=okNumG p size x k:=by
 unfold okNumG
 split
 ·rename_i h
  exact fits_move hr hw hl (kind_c h14 h15 k h)
 ·rfl
theorem OkIns.move {p p' :Pg}{size size' :Int}{x:Ins}(hr:p'.regs=p.regs)(hw:p'.words.length=p.words.length)(hl:p'.locks=p.locks)(h14:x.op≠14)(h15:x.op≠15)(h:OkIns p size x):OkIns p' size' x:=
 ⟨h.op,by rw [okNum_move hr hw hl h14 h15];exact h.n0,by rw [okNum_move hr hw hl h14 h15];exact h.n1,by rw [okNum_move hr hw hl h14 h15];exact h.n2⟩
theorem fit_c_mk {p:Pg}{size n:Int}(hs:0≤size∧size≤100000)(h:0≤n∧n≤size):fitsG p size 99 n=true:=by
 unfold fitsG
 simp only [Int.reduceEq,if_false,if_true,Bool.and_eq_true,decide_eq_true_eq]
 rw [IntWalk.wrap64_in _ ⟨by omega,by omega⟩]
 omega
theorem num0_iff {p:Pg}{size:Int}{x:Ins}{b:UInt8}{r:List UInt8}(hk:kindsB x.op=⟨(b::r).toArray⟩):okNumG p size x 0=fitsG p size (b.toNat:Int) x.a:=by
 unfold okNumG
 rw [hk,dif_pos (by simp [ByteArray.size])];rfl
theorem num1_iff {p:Pg}{size:Int}{x:Ins}{a b:UInt8}{r:List UInt8}(hk:kindsB x.op=⟨(a::b::r).toArray⟩):okNumG p size x 1=fitsG p size (b.toNat:Int) x.b:=by
 unfold okNumG
 rw [hk,dif_pos (by simp [ByteArray.size])];rfl
theorem num_no {p:Pg}{size:Int}{x:Ins}{k:Nat}(hk:(kindsB x.op).size≤k):okNumG p size x k=(x.num k==0):=by
 unfold okNumG
 rw [dif_neg (by omega)]
theorem OkIns.jump {p p' :Pg}{size size' :Int}{x:Ins}{a' :Int}(h14:x.op=14)(h:OkIns p size x)(hs:0≤size' ∧size' ≤100000)(ha:0≤a' ∧a' ≤size'):OkIns p' size' { x with a:=a' } :=by
 have k:kindsB x.op=⟨[99].toArray⟩:=by rw [h14];unfold kindsB;simp
 have k' :kindsB ({ x with a:=a' } :Ins).op=⟨[99].toArray⟩:=k
 have h1:=h.n1
 have h2:=h.n2
 rw [num_no (by rw [k];decide)] at h1 h2
 refine ⟨h.op, ?_, ?_, ?_⟩
 ·rw [num0_iff k'];exact fit_c_mk hs ha
 ·rw [num_no (by rw [k'];decide)];exact h1
 ·rw [num_no (by rw [k'];decide)];exact h2
theorem OkIns.zero {p p' :Pg}{size size' :Int}{x:Ins}{b' :Int}(hr:p'.regs=p.regs)(hw:p'.words.length=p.words.length)(hl:p'.locks=p.locks)(h15:x.op=15)(h:OkIns p size x)(hs:0≤size' ∧size' ≤100000)(hb:0≤b' ∧b' ≤size'):OkIns p' size' { x with b:=b' } :=by
 have k:kindsB x.op=⟨[114,99].toArray⟩:=by rw [h15];unfold kindsB;simp
 have k' :kindsB ({ x with b:=b' } :Ins).op=⟨[114,99].toArray⟩:=k
 have h0:=h.n0
 have h2:=h.n2
 rw [num0_iff k] at h0
 rw [num_no (by rw [k];decide)] at h2
 refine ⟨h.op, ?_, ?_, ?_⟩
 ·rw [num0_iff k',fits_move hr hw hl (by decide)];exact h0
 ·rw [num1_iff k'];exact fit_c_mk hs hb
 ·rw [num_no (by rw [k'];decide)];exact h2
theorem moved_from (B:Nat→Ins→List Ins)(code:List Ins):∀n,n≤code.length→∀j,j<placeL (becL B code) n→∃i k,i<n∧k<(B i (nth code i)).length∧j=placeL (becL B code) i+k
 |0,_,j,hj=>by simp [placeL] at hj
 |n+1,hn,j,hj=>by
  rw [place_succ B code (by omega)] at hj
  rcases Nat.lt_or_ge j (placeL (becL B code) n) with h|h
  ·obtain ⟨i,k,h1,h2,h3⟩:=moved_from B code n (by omega) j h
   exact ⟨i,k,by omega,h2,h3⟩
  ·exact ⟨n,j-placeL (becL B code) n,by omega,by omega,by omega⟩
def isSt (op:Int):Prop:=op=9∨op=11∨op=18
theorem execT_keep {m m' :Int}{n:Nat}{i:Ins}{x:TS}(h:¬isSt i.op):execT m n i x=execT m' n i x∧(execT m n i x).wait=x.wait∧(i.op≠17→(execT m n i x).owner=x.owner)∧(i.op=17→(execT m n i x).owner=x.owner.set i.a.toNat n)∧(i.op=17→(execT m n i x).fell=x.fell):=by
 have h9:i.op≠9:=fun e=>h (.inl e)
 have h11:i.op≠11:=fun e=>h (.inr (.inl e))
 have h18:i.op≠18:=fun e=>h (.inr (.inr e))
 by_cases e1:i.op=1
 ·rw [execT_1 e1,execT_1 e1];exact ⟨rfl,rfl,fun _=>rfl,fun e=>absurd e (by omega),fun e=>absurd e (by omega)⟩
 by_cases e2:i.op=2
 ·rw [execT_2 e2,execT_2 e2];exact ⟨rfl,rfl,fun _=>rfl,fun e=>absurd e (by omega),fun e=>absurd e (by omega)⟩
 by_cases e3:i.op=3
 ·rw [execT_3 e3,execT_3 e3];exact ⟨rfl,rfl,fun _=>rfl,fun e=>absurd e (by omega),fun e=>absurd e (by omega)⟩
 by_cases e4:i.op=4
 ·rw [execT_4 e4,execT_4 e4];exact ⟨rfl,rfl,fun _=>rfl,fun e=>absurd e (by omega),fun e=>absurd e (by omega)⟩
 by_cases e5:i.op=5
 ·rw [execT_5 e5,execT_5 e5];exact ⟨rfl,rfl,fun _=>rfl,fun e=>absurd e (by omega),fun e=>absurd e (by omega)⟩
 by_cases e6:i.op=6
 ·rw [execT_6 e6,execT_6 e6];exact ⟨rfl,rfl,fun _=>rfl,fun e=>absurd e (by omega),fun e=>absurd e (by omega)⟩
 by_cases e7:i.op=7
 ·rw [execT_7 e7,execT_7 e7];exact ⟨rfl,rfl,fun _=>rfl,fun e=>absurd e (by omega),fun e=>absurd e (by omega)⟩
 by_cases e8:i.op=8
 ·rw [execT_8 e8,execT_8 e8];exact ⟨rfl,rfl,fun _=>rfl,fun e=>absurd e (by omega),fun e=>absurd e (by omega)⟩
 by_cases e10:i.op=10
 ·by_cases hw:0≤x.reg i.b∧x.reg i.b<(x.words.length:Int)
  ·rw [execT_10t e10 hw,execT_10t e10 hw];exact ⟨rfl,rfl,fun _=>rfl,fun e=>absurd e (by omega),fun e=>absurd e (by omega)⟩
  ·rw [execT_10f e10 hw,execT_10f e10 hw];exact ⟨rfl,rfl,fun _=>rfl,fun e=>absurd e (by omega),fun e=>absurd e (by omega)⟩
 by_cases e13:i.op=13
 ·by_cases hw:nth x.words i.a.toNat=x.reg i.b
  ·rw [execT_13t e13 hw,execT_13t e13 hw];exact ⟨rfl,rfl,fun _=>rfl,fun e=>absurd e (by omega),fun e=>absurd e (by omega)⟩
  ·rw [execT_13f e13 hw,execT_13f e13 hw];exact ⟨rfl,rfl,fun _=>rfl,fun e=>absurd e (by omega),fun e=>absurd e (by omega)⟩
 by_cases e14:i.op=14
 ·rw [execT_14 e14,execT_14 e14];exact ⟨rfl,rfl,fun _=>rfl,fun e=>absurd e (by omega),fun e=>absurd e (by omega)⟩
 by_cases e15:i.op=15
 ·by_cases hw:x.reg i.a=0
  ·rw [execT_15t e15 hw,execT_15t e15 hw];exact ⟨rfl,rfl,fun _=>rfl,fun e=>absurd e (by omega),fun e=>absurd e (by omega)⟩
  ·rw [execT_15f e15 hw,execT_15f e15 hw];exact ⟨rfl,rfl,fun _=>rfl,fun e=>absurd e (by omega),fun e=>absurd e (by omega)⟩
 by_cases e16:i.op=16
 ·rw [execT_16 e16,execT_16 e16];exact ⟨rfl,rfl,fun _=>rfl,fun e=>absurd e (by omega),fun e=>absurd e (by omega)⟩
 by_cases e17:i.op=17
 ·rw [execT_17 e17,execT_17 e17];exact ⟨rfl,rfl,fun e=>absurd e17 e,fun _=>rfl,fun _=>rfl⟩
 rw [execT_no ⟨e1,e2,e3,e4,e5,e6,e7,e8,h9,e10,h11,e13,e14,e15,e16,e17,h18⟩,execT_no ⟨e1,e2,e3,e4,e5,e6,e7,e8,h9,e10,h11,e13,e14,e15,e16,e17,h18⟩]
 exact ⟨rfl,rfl,fun _=>rfl,fun e=>absurd e e17,fun e=>absurd e e17⟩
theorem execT0_wait {n:Nat}{i:Ins}{x:TS} :(execT 0 n i x).wait=x.wait:=by
 have hs:∀(x:TS) w,(x.store 0 w).wait=x.wait:=fun x w=>by unfold TS.store;rw [if_neg (by decide)];rfl
 by_cases h:isSt i.op
 ·rcases h with h|h|h
  ·rw [execT_9 h,hs]
  ·by_cases hw:0≤x.reg i.a∧x.reg i.a<(x.words.length:Int)
   ·rw [execT_11t h hw,hs]
   ·rw [execT_11f h hw]
  ·by_cases hw:nth x.owner i.a.toNat≠n
   ·rw [execT_18a h hw]
   ·by_cases hh:∃j,j<x.wait.length∧(nth x.wait j).lock=true∧(nth x.wait j).wh=i.a
    ·obtain ⟨j,hj,h1,h2⟩:=hh
     rw [execT_18b h hw j hj h1 h2]
    ·rw [execT_18c h hw (fun q hq hc=>hh ⟨q,hq,hc⟩),hs]
 ·exact (execT_keep (m' :=0) h).2.1
theorem Reach.no_wait {p:Pg}{s:MSt}(hok:OkPg p)(h:Reach p 0 s):∀t,t<p.code.length→(nth s.ths t).wait= []:=by
 induction h with
 |start=>intro t ht;unfold begin_;rw [nth_map' _ _ _ ht]
 |step hr ht hk hf ih=>
  rename_i s t k
  intro u hu
  rw [putT_th (hr.len hok ht)]
  split
  ·rename_i e;subst e
   have h0:(s.view t).wait= []:=ih t ht
   rcases mvOK_k hk with ⟨rfl,_,_⟩|⟨h1,h2,_⟩
   ·show (stepT p 0 s t 0).wait= []
    rw [stepT_e,execT0_wait];exact h0
   ·rw [h0] at h2;simp at h2;omega
  ·exact ih u hu
section
variable (c:List Ins)
def wF (i:Nat):Bool:=waitsB (nth c i).op
def pF (i:Nat):Nat:=placeL (becL (fenW (wF c)) c) i
def fenL :List Ins:=withL (wF c) c
end
section
variable {c:List Ins}
theorem wF_t {i:Nat} :wF c i=true↔isSt (nth c i).op:=by unfold wF waitsB isSt;simp
theorem pF_len :(fenL c).length=pF c c.length:=by unfold fenL;rw [←fen_put,moved_len];rfl
theorem fenW_len {i:Nat} :(fenW (wF c) i (nth c i)).length=if wF c i=true then 2 else 1:=by unfold fenW fenB;split<;>rfl
theorem pF_succ {i:Nat}(h:i<c.length):pF c (i+1)=pF c i+if wF c i=true then 2 else 1:=by
 unfold pF
 rw [place_succ _ _ h,fenW_len]
theorem pF_at {i:Nat}(h:i<c.length):nth (fenL c) (pF c i)=fixMv (becL (fenW (wF c)) c) c i (nth c i)∧pF c i<(fenL c).length:=by
 have h1:=moved_at (fenW (wF c)) c (k:=0) h (by rw [fenW_len];split<;>omega)
 rw [fen_put] at h1
 have e:nth (fenW (wF c) i (nth c i)) 0=nth c i:=by unfold fenW fenB;split<;>rfl
 rw [e] at h1
 exact h1
theorem pF_fence {i:Nat}(h:i<c.length)(hw:wF c i=true):nth (fenL c) (pF c i+1)=⟨12,0,0,0⟩∧pF c i+1<(fenL c).length:=by
 have h1:=moved_at (fenW (wF c)) c (k:=1) h (by rw [fenW_len,if_pos hw];omega)
 rw [fen_put] at h1
 have e:nth (fenW (wF c) i (nth c i)) 1=⟨12,0,0,0⟩:=by unfold fenW fenB;rw [if_pos hw];rfl
 rw [e] at h1
 refine ⟨h1.1.trans ?_,h1.2⟩
 unfold fixMv
 rw [if_neg (fun h=>absurd h.1 (by decide)),if_neg (fun h=>absurd h.1 (by decide))]
theorem fen_other {i:Nat}(h:i<c.length)(h14:(nth c i).op≠14)(h15:(nth c i).op≠15):nth (fenL c) (pF c i)=nth c i:=by
 rw [(pF_at h).1]
 unfold fixMv
 rw [if_neg (fun hh=>h14 hh.1),if_neg (fun hh=>h15 hh.1)]
theorem fen_14 {i:Nat}(h:i<c.length)(h14:(nth c i).op=14):nth (fenL c) (pF c i)= { nth c i with a:=pF c (nth c i).a.toNat } :=by
 rw [(pF_at h).1]
 unfold fixMv
 rw [if_pos ⟨h14, .inl h14⟩];rfl
theorem fen_15 {i:Nat}(h:i<c.length)(h15:(nth c i).op=15):nth (fenL c) (pF c i)= { nth c i with b:=pF c (nth c i).b.toNat } :=by
 rw [(pF_at h).1]
 unfold fixMv
 rw [if_neg (fun hh=>by omega),if_pos ⟨h15,h15⟩];rfl
theorem pF_le {i:Nat}(h:i≤c.length):pF c i≤(fenL c).length:=by
 rw [pF_len]
 exact place_mono _ _ h (Nat.le_refl _)
end
section
variable {p:Pg}
def fullPg (p:Pg):Pg:= { p with code:=p.code.map fenL }
theorem fullPg_len :(fullPg p).code.length=p.code.length:=by simp [fullPg]
theorem fullPg_code {t:Nat}(h:t<p.code.length):nth (fullPg p).code t=fenL (nth p.code t):=nth_map' _ _ _ h
theorem OkPg.jumpsF (hok:OkPg p){t:Nat}(ht:t<p.code.length):JumpsOK (nth p.code t):=fun i hi=>(hok.insR ht hi).2
theorem nextIns_nat {c:List Ins}{x:TS}{i:Nat}(h:x.pc=(i:Int))(hi:i<c.length):nextIns c x.pc=nth c i:=by rw [h,nextIns_t (by omega)];simp
theorem fen_step (hok:OkPg p){m m' :Int}{t i:Nat}(ht:t<p.code.length)(hi:i<(nth p.code t).length)(hns:¬isSt (nth (nth p.code t) i).op)(x:TS):
  ∃j:Nat,j≤(nth p.code t).length∧(execT m t (nth (nth p.code t) i) { x with pc:=(i:Int)+1 }).pc=(j:Int)∧
   execT m' t (nth (fenL (nth p.code t)) (pF (nth p.code t) i)) { x with pc:=(pF (nth p.code t) i:Int)+1 } = { execT m t (nth (nth p.code t) i) { x with pc:=(i:Int)+1 } with pc:=(pF (nth p.code t) j:Int) } :=by
 have hw:¬wF (nth p.code t) i=true:=fun h=>hns (wF_t.1 h)
 have hs:=pF_succ hi
 rw [if_neg hw] at hs
 have hj:=hok.jumpsF ht i hi
 by_cases h14:(nth (nth p.code t) i).op=14
 ·have ha:=hj.1 h14
  refine ⟨(nth (nth p.code t) i).a.toNat,by omega, ?_, ?_⟩
  ·rw [execT_14 h14];show (nth (nth p.code t) i).a=_;omega
  ·rw [fen_14 hi h14,execT_14 h14];exact execT_jump h14
 by_cases h15:(nth (nth p.code t) i).op=15
 ·have hb:=hj.2 h15
  by_cases hz:x.reg (nth (nth p.code t) i).a=0
  ·refine ⟨(nth (nth p.code t) i).b.toNat,by omega, ?_, ?_⟩
   ·rw [execT_15t (x:= { x with pc:=(i:Int)+1 }) h15 hz];show (nth (nth p.code t) i).b=_;omega
   ·rw [fen_15 hi h15,execT_15t (x:= { x with pc:=(i:Int)+1 }) h15 hz];exact execT_zt (x:= { x with pc:=(pF (nth p.code t) i:Int)+1 }) h15 hz
  ·refine ⟨i+1,by omega, ?_, ?_⟩
   ·rw [execT_15f (x:= { x with pc:=(i:Int)+1 }) h15 hz];simp
   ·rw [fen_15 hi h15,execT_15f (x:= { x with pc:=(i:Int)+1 }) h15 hz,hs]
    refine Eq.trans (execT_zf (x:= { x with pc:=(pF (nth p.code t) i:Int)+1 }) h15 hz) ?_
    simp
 obtain ⟨f1,f2⟩:=execT_pc m t (nth (nth p.code t) i) { x with pc:=(i:Int)+1 } ((pF (nth p.code t) i:Int)+1) h14 h15
 refine ⟨i+1,by omega,by rw [f2];simp, ?_⟩
 rw [fen_other hi h14 h15,(execT_keep (m:=m') (m' :=m) hns).1,hs]
 refine Eq.trans f1 ?_
 simp
def pend (i:Ins)(regs:List Int):Wt:=if i.op=18 then ⟨true,i.a,0⟩ else if i.op=9 then ⟨false,i.a,nth regs i.b.toNat⟩ else ⟨false,nth regs i.a.toNat,nth regs i.b.toNat⟩
def pendOK (t:Nat)(i:Ins)(regs:List Int)(W:Nat)(owner:List Int):Prop:=(i.op=18→nth owner i.a.toNat=t)∧(i.op=11→0≤nth regs i.a.toNat∧nth regs i.a.toNat<(W:Int))
theorem exec_st {m:Int}{t:Nat}{i:Ins}{x:TS}(hs:isSt i.op)(hw:x.wait= []):(pendOK t i x.regs x.words.length x.owner→execT m t i x=x.store m (pend i x.regs))∧(¬pendOK t i x.regs x.words.length x.owner→execT m t i x= { x with fell:=true }):=by
 unfold pendOK pend
 rcases hs with h|h|h
 ·refine ⟨fun _=> ?_,fun hn=>absurd ⟨fun e=>by omega,fun e=>by omega⟩ hn⟩
  rw [execT_9 h,if_neg (by omega),if_pos h];rfl
 ·refine ⟨fun hp=> ?_,fun hn=> ?_⟩
  ·rw [execT_11t h (hp.2 h),if_neg (by omega),if_neg (by omega)];rfl
  ·rw [execT_11f h fun hh=>hn ⟨fun e=>by omega,fun _=>hh⟩]
 ·refine ⟨fun hp=> ?_,fun hn=> ?_⟩
  ·rw [execT_18c h (fun hh=>hh (hp.1 h)) (fun q hq=>by rw [hw] at hq;simp at hq),if_pos h]
  ·rw [execT_18a h fun hh=>hn ⟨fun _=>hh,fun e=>by omega⟩]
def FR (p:Pg)(t:Nat)(a b:Int):Prop:=∃i:Nat,a=i∧i≤(nth p.code t).length∧b=(pF (nth p.code t) i:Int)
theorem putT_putT {s:MSt}{t:Nat}{x y:TS} :(s.putT t x).putT t y=s.putT t y:=by
 unfold MSt.putT
 simp only [List.set_set]
theorem isSt_no {i:Ins}(h:isSt i.op):i.op≠14∧i.op≠15:=by unfold isSt at h;omega
theorem able_st {i:Ins}{owner:List Int}(h:isSt i.op):ableL owner 0 i=true:=by
 unfold ableL
 unfold isSt at h
 rw [if_pos h];rfl
theorem three (hq:OkPg (fullPg p)){s' :MSt}{t i:Nat}(hr' :Reach (fullPg p) 1 s')(ht:t<p.code.length)(hi:i<(nth p.code t).length)(hs:isSt (nth (nth p.code t) i).op)(hb:(nth s'.ths t).pc=(pF (nth p.code t) i:Int))(hw:(nth s'.ths t).wait= [])
  (hp:pendOK t (nth (nth p.code t) i) (nth s'.ths t).regs s'.words.length s'.owner):Reach (fullPg p) 1 (s'.putT t { (s'.view t).done (pend (nth (nth p.code t) i) (nth s'.ths t).regs) with pc:=(pF (nth p.code t) (i+1):Int),wait:= [] }):=by
 have hcode:=fullPg_code ht
 have htq:t<(fullPg p).code.length:=by rw [fullPg_len];exact ht
 have hl' :=hr'.len hq htq
 obtain ⟨n14,n15⟩:=isSt_no hs
 have hwF:wF (nth p.code t) i=true:=wF_t.2 hs
 have hins:=fen_other hi n14 n15
 obtain ⟨hf1,hf2⟩:=pF_fence hi hwF
 have hsuc:=pF_succ hi
 rw [if_pos hwF] at hsuc
 have hv:(s'.view t).pc=(pF (nth p.code t) i:Int):=hb
 have hn:nextIns (nth (fullPg p).code t) (s'.view t).pc=nth (nth p.code t) i:=by rw [hcode,nextIns_nat hv (by omega),hins]
 have e1:stepT (fullPg p) 1 s' t 0= { s'.view t with pc:=(pF (nth p.code t) i:Int)+1,wait:= [pend (nth (nth p.code t) i) (nth s'.ths t).regs] } :=by
  rw [stepT_e,hn,hv]
  rw [(exec_st (m:=1) (t:=t) (x:= { s'.view t with pc:=(pF (nth p.code t) i:Int)+1 }) hs hw).1 hp]
  unfold TS.store
  rw [if_pos (by decide)]
  show ({ s'.view t with pc:=_,wait:=(nth s'.ths t).wait++ [_] } :TS)=_
  rw [hw];rfl
 have hr1:=Reach.step hr' htq (mvOK_0 (by rw [hcode,hv];omega) (by rw [hn];show ableL _ (nth s'.ths t).wait.length _=true;rw [hw];exact able_st hs)) (by rw [e1];rfl)
 rw [e1] at hr1
 have hv1:=putT_view (s:=s') (t:=t) (y:= { s'.view t with pc:=(pF (nth p.code t) i:Int)+1,wait:= [pend (nth (nth p.code t) i) (nth s'.ths t).regs] }) hl'
 have e2:stepT (fullPg p) 1 (s'.putT t { s'.view t with pc:=(pF (nth p.code t) i:Int)+1,wait:= [pend (nth (nth p.code t) i) (nth s'.ths t).regs] }) t 1= { (s'.view t).done (pend (nth (nth p.code t) i) (nth s'.ths t).regs) with pc:=(pF (nth p.code t) i:Int)+1,wait:= [] } :=by
  unfold stepT;rw [hv1];rfl
 have hr2:=Reach.step hr1 htq (k:=1) (by rw [hv1];rfl) (by rw [e2];rfl)
 rw [e2,putT_putT] at hr2
 have hv2:=putT_view (s:=s') (t:=t) (y:= { (s'.view t).done (pend (nth (nth p.code t) i) (nth s'.ths t).regs) with pc:=(pF (nth p.code t) i:Int)+1,wait:= [] }) hl'
 have hpc2:((s'.putT t { (s'.view t).done (pend (nth (nth p.code t) i) (nth s'.ths t).regs) with pc:=(pF (nth p.code t) i:Int)+1,wait:= [] }).view t).pc=((pF (nth p.code t) i+1:Nat):Int):=by rw [hv2];simp
 have hn2:nextIns (nth (fullPg p).code t) ((s'.putT t { (s'.view t).done (pend (nth (nth p.code t) i) (nth s'.ths t).regs) with pc:=(pF (nth p.code t) i:Int)+1,wait:= [] }).view t).pc=⟨12,0,0,0⟩:=by rw [hcode,nextIns_nat hpc2 hf2,hf1]
 have e3:stepT (fullPg p) 1 (s'.putT t { (s'.view t).done (pend (nth (nth p.code t) i) (nth s'.ths t).regs) with pc:=(pF (nth p.code t) i:Int)+1,wait:= [] }) t 0= { (s'.view t).done (pend (nth (nth p.code t) i) (nth s'.ths t).regs) with pc:=(pF (nth p.code t) (i+1):Int),wait:= [] } :=by
  rw [stepT_e,hn2,hpc2,hv2,execT_no (by decide),hsuc]
  simp
  exact ⟨by omega,rfl⟩
 have hr3:=Reach.step hr2 htq (mvOK_0 (by rw [hcode,hpc2];omega) (by rw [hn2,hv2];rfl)) (by rw [e3];rfl)
 rw [e3,putT_putT] at hr3
 exact hr3
end
inductive StF (p:Pg)(t:Nat)(b:Int)(wt:List Wt)(a:Int)(regs:List Int)(W:Nat)(owner:List Int):Prop
 |A (i:Nat) (ha:a=i) (hi:i≤(nth p.code t).length) (hb:b=(pF (nth p.code t) i:Int)) (hw:wt= [])
 |B (i:Nat) (ha:a=i) (hi:i<(nth p.code t).length) (hs:isSt (nth (nth p.code t) i).op) (hb:b=(pF (nth p.code t) i:Int)+1) (hw:wt= [pend (nth (nth p.code t) i) regs]) (hp:pendOK t (nth (nth p.code t) i) regs W owner)
 |C (i:Nat) (ha:a=i+1) (hi:i<(nth p.code t).length) (hs:isSt (nth (nth p.code t) i).op) (hb:b=(pF (nth p.code t) i:Int)+1) (hw:wt= [])
structure RelF (p:Pg)(s' s:MSt):Prop where
 words:s.words=s'.words
 owner:s.owner=s'.owner
 prints:s.prints=s'.prints
 regs:∀t,t<p.code.length→(nth s.ths t).regs=(nth s'.ths t).regs
 th:∀t,t<p.code.length→StF p t (nth s'.ths t).pc (nth s'.ths t).wait (nth s.ths t).pc (nth s.ths t).regs s.words.length s.owner
theorem pendOK.other {t:Nat}{i:Ins}{regs:List Int}{W W' :Nat}{owner owner' :List Int}(h:pendOK t i regs W owner)(hW:W' =W)(ho:∀a,nth owner a=(t:Int)→nth owner' a=t):pendOK t i regs W' owner' :=⟨fun e=>ho _ (h.1 e),by rw [hW];exact h.2⟩
theorem StF.other {p:Pg}{t:Nat}{b:Int}{wt:List Wt}{a:Int}{regs:List Int}{W W' :Nat}{owner owner' :List Int}(h:StF p t b wt a regs W owner)(hW:W' =W)(ho:∀a,nth owner a=(t:Int)→nth owner' a=t):StF p t b wt a regs W' owner' :=by
 cases h with
 |A i ha hi hb hw=>exact .A i ha hi hb hw
 |B i ha hi hs hb hw hp=>exact .B i ha hi hs hb hw (hp.other hW ho)
 |C i ha hi hs hb hw=>exact .C i ha hi hs hb hw
theorem RelF.both {p:Pg}{s' s:MSt}(h:RelF p s' s){t:Nat}(hl' :t<s'.ths.length)(hl:t<s.ths.length){y' y:TS}(e1:y.words=y'.words)(e2:y.owner=y'.owner)(e3:y.prints=y'.prints)(e4:y.regs=y'.regs)(hW:y.words.length=s.words.length)
  (ho:∀a (u:Nat),u≠t→nth s.owner a=(u:Int)→nth y.owner a=u) (hst:StF p t y'.pc y'.wait y.pc y.regs y.words.length y.owner):RelF p (s'.putT t y') (s.putT t y):=by
 refine ⟨e1,e2,e3,fun u hu=> ?_,fun u hu=> ?_⟩
 ·rw [putT_th hl,putT_th hl'];split
  ·exact e4
  ·exact h.regs u hu
 ·rw [putT_th hl,putT_th hl']
  by_cases e:t=u
  ·subst e;rw [if_pos rfl,if_pos rfl];exact hst
  ·rw [if_neg e,if_neg e]
   exact (h.th u hu).other hW fun a ha=>ho a u (fun h=>e h.symm) ha
theorem RelF.left {p:Pg}{s' s:MSt}(h:RelF p s' s){t:Nat}(hl' :t<s'.ths.length){y' :TS}(e1:s.words=y'.words)(e2:s.owner=y'.owner)(e3:s.prints=y'.prints)(e4:t<p.code.length→(nth s.ths t).regs=y'.regs)(hst:t<p.code.length→StF p t y'.pc y'.wait (nth s.ths t).pc (nth s.ths t).regs s.words.length s.owner):RelF p (s'.putT t y') s:=by
 refine ⟨e1,e2,e3,fun u hu=> ?_,fun u hu=> ?_⟩
 ·rw [putT_th hl'];split
  ·rename_i e;subst e;exact e4 hu
  ·exact h.regs u hu
 ·rw [putT_th hl'];split
  ·rename_i e;subst e;exact hst hu
  ·exact h.th u hu
theorem set_keep {l:List Int}{a b:Nat}{v x:Int}(h:nth l a=x)(hn:nth l b≠x):nth (l.set b v) a=x:=by
 rw [nth_set0]
 split
 ·rename_i e;rw [e.1] at hn;exact absurd h hn
 ·exact h
section
variable {p:Pg}
theorem full_bwd (hok:OkPg p)(hq:OkPg (fullPg p)):∀o,Outs (fullPg p) 1 o→Outs p 0 o:=by
  refine sim_outs (fun s' s=>RelF p s' s) ⟨_, .start, ?_⟩ ?_ ?_ ?_
  · have e:∀(p:Pg) t,t<p.code.length→nth (begin_ p).ths t=⟨0,List.replicate p.regs.toNat 0, []⟩:=fun p t ht=>nth_map' _ _ _ ht
    refine ⟨rfl,rfl,rfl,fun t ht=> ?_,fun t ht=> ?_⟩
    · rw [e p t ht,e (fullPg p) t (by rw [fullPg_len];exact ht)];rfl
    · rw [e p t ht,e (fullPg p) t (by rw [fullPg_len];exact ht)]
      exact .A 0 rfl (Nat.zero_le _) (by simp [pF,placeL]) rfl
  · intro s' s t k hr' hr hrel ht hk
    rw [fullPg_len] at ht
    have htq:t<(fullPg p).code.length:=by rw [fullPg_len];exact ht
    have hcode:=fullPg_code ht
    have hl:=hr.len hok ht
    have hl' :=hr'.len hq htq
    have hw0:=hr.no_wait hok t ht
    have hreg:=hrel.regs t ht
    rcases hrel.th t ht with ⟨i,ha,hi,hb,hw⟩|⟨i,ha,hi,hs,hb,hw,hp⟩|⟨i,ha,hi,hs,hb,hw⟩
    ·
      have hv:s.view t= { s'.view t with pc:=(i:Int) } :=by
        unfold MSt.view
        simp only [hreg,hw0,hw,hrel.words,hrel.owner,hrel.prints,ha]
      rcases mvOK_k hk with ⟨rfl,hlt,hab⟩|⟨h1,h2,_⟩
      case inr=>rw [show (s'.view t).wait= [] from hw] at h2;simp at h2;omega
      have hb' :(s'.view t).pc=(pF (nth p.code t) i:Int):=hb
      have hil:i<(nth p.code t).length:=by
        rcases Nat.lt_or_ge i (nth p.code t).length with h|h
        · exact h
        · obtain rfl:i=(nth p.code t).length:=by omega
          rw [hb',hcode,pF_len] at hlt;omega
      have hpl:=(pF_at hil).2
      have hn' :nextIns (nth (fullPg p).code t) (s'.view t).pc=nth (fenL (nth p.code t)) (pF (nth p.code t) i):=by rw [hcode];exact nextIns_nat hb' hpl
      rw [hn'] at hab
      have hst' :=stepT_e (p:=fullPg p) (m:=1) (s:=s') (t:=t)
      rw [hn',hb'] at hst'
      have ha' :(s.view t).pc=(i:Int):=ha
      have hn:=nextIns_nat ha' hil
      have hst:=stepT_e (p:=p) (m:=0) (s:=s) (t:=t)
      rw [hn,ha'] at hst
      by_cases hs:isSt (nth (nth p.code t) i).op
      · have hins:=fen_other hil (isSt_no hs).1 (isSt_no hs).2
        rw [hins] at hst'
        have hx:=exec_st (m:=1) (t:=t) (x:= { s'.view t with pc:=(pF (nth p.code t) i:Int)+1 }) hs hw
        by_cases hp:pendOK t (nth (nth p.code t) i) (nth s'.ths t).regs s'.words.length s'.owner
        · have e:=hx.1 hp
          rw [←hst'] at e
          have e0:stepT (fullPg p) 1 s' t 0= { s'.view t with pc:=(pF (nth p.code t) i:Int)+1,wait:= [pend (nth (nth p.code t) i) (nth s'.ths t).regs] } :=by
            rw [e];unfold TS.store;rw [if_pos (by decide)]
            show ({ s'.view t with pc:=_,wait:=(nth s'.ths t).wait++ [_] } :TS)=_
            rw [hw];rfl
          rw [if_neg (by rw [e0];exact Bool.false_ne_true)]
          refine ⟨s,hr, ?_⟩
          rw [e0]
          exact hrel.left hl' hrel.words hrel.owner hrel.prints (fun _=>hreg) (fun _=> .B i ha hil hs rfl (by rw [hreg]) (by rw [hreg,hrel.words,hrel.owner];exact hp))
        · have e:=hx.2 hp
          rw [←hst'] at e
          rw [if_pos (by rw [e])]
          have hx2:=(exec_st (m:=0) (t:=t) (x:= { s.view t with pc:=(i:Int)+1 }) hs hw0).2 (by show¬pendOK t _ (nth s.ths t).regs s.words.length s.owner;rw [hreg,hrel.words,hrel.owner];exact hp)
          rw [←hst] at hx2
          have:=Outs.fell hr ht (mvOK_0 (by rw [ha'];omega) (by rw [hn];show ableL _ (nth s.ths t).wait.length _=true;rw [hw0];exact able_st hs)) (by rw [hx2])
          rw [hx2] at this
          rw [e]
          rw [show ({ ({ s.view t with pc:=(i:Int)+1 } :TS) with fell:=true } :TS).prints=(s'.view t).prints from hrel.prints] at this
          exact this
      · obtain ⟨j,hjl,hj1,hj2⟩:=fen_step hok (m:=0) (m' :=1) ht hil hs (s'.view t)
        have e' :stepT (fullPg p) 1 s' t 0= { stepT p 0 s t 0 with pc:=(pF (nth p.code t) j:Int) } :=by rw [hst',hst,hv];exact hj2
        have hj1' :(stepT p 0 s t 0).pc=(j:Int):=by rw [hst,hv];exact hj1
        have hab2:ableL (s.view t).owner (s.view t).wait.length (nth (nth p.code t) i)=true:=by
          rw [show (s.view t).owner=(s'.view t).owner from hrel.owner,show (s.view t).wait.length=(s'.view t).wait.length by show (nth s.ths t).wait.length=(nth s'.ths t).wait.length;rw [hw0,hw]]
          by_cases h14:(nth (nth p.code t) i).op=14
          · unfold ableL;simp [h14]
          by_cases h15:(nth (nth p.code t) i).op=15
          · unfold ableL;simp [h15]
          rw [fen_other hil h14 h15] at hab;exact hab
        have hmv:mvOK 0 (nth p.code t) (s.view t) 0=true:=mvOK_0 (by rw [ha'];omega) (by rw [hn];exact hab2)
        split
        · rename_i hf
          rw [e'] at hf⊢
          exact Outs.fell hr ht hmv hf
        · rename_i hf
          rw [e'] at hf
          refine ⟨_, .step hr ht hmv (by simpa using hf), ?_⟩
          rw [e']
          have hkeep:=execT_keep (m:=0) (m' :=0) (n:=t) (x:= { s.view t with pc:=(i:Int)+1 }) hs
          rw [←hst] at hkeep
          have hwf:=(hr.wf hok).step hok ht hmv
          have hwl:(stepT p 0 s t 0).words.length=s.words.length:=hwf.words.trans (hr.wf hok).words.symm
          refine hrel.both hl' hl rfl rfl rfl rfl hwl (fun a u hne hu=> ?_) ?_
          · by_cases h17:(nth (nth p.code t) i).op=17
            · rw [hkeep.2.2.2.1 h17]
              have hfree:nth s.owner (nth (nth p.code t) i).a.toNat= -1:=by
                unfold ableL at hab2
                rw [if_neg (by omega),if_neg (by omega),if_pos h17] at hab2
                simp only [Bool.and_eq_true,decide_eq_true_eq] at hab2
                exact hab2.2
              exact set_keep hu (by show nth s.owner _≠_;rw [hfree];omega)
            · rw [hkeep.2.2.1 h17];exact hu
          · exact .A j hj1' hjl rfl (by show (stepT p 0 s t 0).wait= [];rw [hkeep.2.1];exact hw0)
    ·
      have hb' :(s'.view t).pc=((pF (nth p.code t) i+1:Nat):Int):=by show (nth s'.ths t).pc=_;rw [hb];simp
      obtain ⟨hf1,hf2⟩:=pF_fence hi (wF_t.2 hs)
      rcases mvOK_k hk with ⟨rfl,hlt,hab⟩|⟨h1,h2,_⟩
      · rw [hcode,nextIns_nat hb' hf2,hf1,show (s'.view t).wait=_ from hw] at hab
        exact absurd hab (by unfold ableL;simp)
      rw [show (s'.view t).wait=_ from hw] at h2
      obtain rfl:k=1:=by simp at h2;omega
      have e' :stepT (fullPg p) 1 s' t 1= { (s'.view t).done (pend (nth (nth p.code t) i) (nth s.ths t).regs) with wait:= [] } :=by
        unfold stepT doT
        rw [if_pos (by omega),show (s'.view t).wait=_ from hw];rfl
      rw [if_neg (by rw [e'];exact Bool.false_ne_true)]
      have ha' :(s.view t).pc=(i:Int):=ha
      have hn:=nextIns_nat ha' hi
      have hst:=stepT_e (p:=p) (m:=0) (s:=s) (t:=t)
      rw [hn,ha'] at hst
      have hx:=(exec_st (m:=0) (t:=t) (x:= { s.view t with pc:=(i:Int)+1 }) hs hw0).1 hp
      rw [←hst] at hx
      have e0:stepT p 0 s t 0= { (s.view t).done (pend (nth (nth p.code t) i) (nth s.ths t).regs) with pc:=(i:Int)+1 } :=by rw [hx];unfold TS.store;rw [if_neg (by decide)];rfl
      have hmv:mvOK 0 (nth p.code t) (s.view t) 0=true:=mvOK_0 (by rw [ha'];omega) (by rw [hn];show ableL _ (nth s.ths t).wait.length _=true;rw [hw0];exact able_st hs)
      have hwf:=(hr.wf hok).step hok ht hmv
      have hwl:(stepT p 0 s t 0).words.length=s.words.length:=hwf.words.trans (hr.wf hok).words.symm
      refine ⟨_, .step hr ht hmv (by rw [e0];rfl), ?_⟩
      rw [e0] at hwl⊢
      rw [e']
      have d1:((s.view t).done (pend (nth (nth p.code t) i) (nth s.ths t).regs)).words=((s'.view t).done (pend (nth (nth p.code t) i) (nth s.ths t).regs)).words:=by unfold TS.done;simp only [show (s.view t).words=(s'.view t).words from hrel.words]
      have d2:((s.view t).done (pend (nth (nth p.code t) i) (nth s.ths t).regs)).owner=((s'.view t).done (pend (nth (nth p.code t) i) (nth s.ths t).regs)).owner:=by unfold TS.done;simp only [show (s.view t).owner=(s'.view t).owner from hrel.owner]
      refine hrel.both hl' hl d1 d2 hrel.prints hreg hwl (fun a u hne hu=> ?_) (.C i rfl hi hs hb rfl)
      show nth (if (pend (nth (nth p.code t) i) (nth s.ths t).regs).lock=true then s.owner.set (pend (nth (nth p.code t) i) (nth s.ths t).regs).wh.toNat (-1) else s.owner) a=u
      split
      · rename_i hlk
        have h18:(nth (nth p.code t) i).op=18:=by
          unfold pend at hlk
          apply Classical.byContradiction
          intro h18
          rw [if_neg h18] at hlk
          split at hlk<;>cases hlk
        have hwh:(pend (nth (nth p.code t) i) (nth s.ths t).regs).wh=(nth (nth p.code t) i).a:=by unfold pend;rw [if_pos h18]
        rw [hwh]
        exact set_keep hu (by rw [hp.1 h18];omega)
      · exact hu
    ·
      have hb' :(s'.view t).pc=((pF (nth p.code t) i+1:Nat):Int):=by show (nth s'.ths t).pc=_;rw [hb];simp
      obtain ⟨hf1,hf2⟩:=pF_fence hi (wF_t.2 hs)
      rcases mvOK_k hk with ⟨rfl,hlt,hab⟩|⟨h1,h2,_⟩
      case inr=>rw [show (s'.view t).wait= [] from hw] at h2;simp at h2;omega
      have hn' :nextIns (nth (fullPg p).code t) (s'.view t).pc=⟨12,0,0,0⟩:=by rw [hcode,nextIns_nat hb' hf2,hf1]
      have hsuc:=pF_succ hi
      rw [if_pos (wF_t.2 hs)] at hsuc
      have e' :stepT (fullPg p) 1 s' t 0= { s'.view t with pc:=(pF (nth p.code t) (i+1):Int) } :=by
        rw [stepT_e,hn',hb',execT_no (by decide),hsuc]
        simp
        omega
      rw [if_neg (by rw [e'];exact Bool.false_ne_true)]
      refine ⟨s,hr, ?_⟩
      rw [e']
      exact hrel.left hl' hrel.words hrel.owner hrel.prints (fun _=>hreg) (fun _=> .A (i+1) (by rw [ha];simp) (by omega) rfl hw)
  · intro s' s hr' hr hrel he
    have he2:=ended_iff.1 he
    have:ended p s=true:=ended_iff.2 fun t ht=>by
      obtain ⟨h1,h2⟩:=he2 t (by rw [fullPg_len];exact ht)
      rw [fullPg_code ht] at h1
      rw [hr.no_wait hok t ht]
      refine ⟨?_,rfl⟩
      rcases hrel.th t ht with ⟨i,ha,hi,hb,hw⟩|⟨i,ha,hi,hs,hb,hw,hp⟩|⟨i,ha,hi,hs,hb,hw⟩
      · rw [hb] at h1;rw [ha]
        rcases Nat.lt_or_ge i (nth p.code t).length with h|h
        · have:=(pF_at h).2;omega
        · omega
      · rw [hw] at h2;simp at h2
      · rw [hb] at h1
        have:=(pF_fence hi (wF_t.2 hs)).2;omega
    have h2:=Outs.done hr this
    rw [hrel.words,hrel.prints] at h2
    exact h2
  · intro s' s hr' hr hrel he hst
    have hA:∀t,t<p.code.length→∃i:Nat,(nth s.ths t).pc=i∧i≤(nth p.code t).length∧(nth s'.ths t).pc=(pF (nth p.code t) i:Int)∧(nth s'.ths t).wait= []:=by
      intro t ht
      have h0:=hst t
      rw [fullPg_len,fullPg_code ht] at h0
      rcases hrel.th t ht with ⟨i,ha,hi,hb,hw⟩|⟨i,ha,hi,hs,hb,hw,hp⟩|⟨i,ha,hi,hs,hb,hw⟩
      · exact ⟨i,ha,hi,hb,hw⟩
      · have:=h0 1 ht
        unfold mvOK at this
        rw [if_neg (by omega),show (s'.view t).wait=_ from hw] at this
        simp [mayK] at this
      · have h1:=h0 0 ht
        have hb' :(s'.view t).pc=((pF (nth p.code t) i+1:Nat):Int):=by show (nth s'.ths t).pc=_;rw [hb];simp
        obtain ⟨hf1,hf2⟩:=pF_fence hi (wF_t.2 hs)
        rw [mvOK_0 (by rw [hb'];omega) (by rw [nextIns_nat hb' hf2,hf1,show (s'.view t).wait= [] from hw];rfl)] at h1
        cases h1
    have hstp:Stuck_ p 0 s:=by
      intro u k hu
      cases hc:mvOK 0 (nth p.code u) (s.view u) k with
      |false=>rfl
      |true=>
        exfalso
        have hw0:=hr.no_wait hok u hu
        rcases mvOK_k hc with ⟨rfl,h3,h4⟩|⟨h3,h4,_⟩
        case inr=>rw [show (s.view u).wait= [] from hw0] at h4;simp at h4;omega
        obtain ⟨i,ha,hi,hb,hw⟩:=hA u hu
        have ha' :(s.view u).pc=(i:Int):=ha
        have hlt:i<(nth p.code u).length:=by rw [ha'] at h3;omega
        have hb' :(s'.view u).pc=(pF (nth p.code u) i:Int):=hb
        rw [nextIns_nat ha' hlt,show (s.view u).wait= [] from hw0] at h4
        have h0:=hst u 0 (by rw [fullPg_len];exact hu)
        rw [fullPg_code hu] at h0
        rw [mvOK_0 (by rw [hb'];have:=(pF_at hlt).2;omega) (by
          rw [nextIns_nat hb' (pF_at hlt).2,show (s'.view u).wait= [] from hw]
          by_cases h14:(nth (nth p.code u) i).op=14
          · rw [fen_14 hlt h14];unfold ableL;simp [h14]
          by_cases h15:(nth (nth p.code u) i).op=15
          · rw [fen_15 hlt h15];unfold ableL;simp [h15]
          rw [fen_other hlt h14 h15,show (s'.view u).owner=(s.view u).owner from hrel.owner.symm];exact h4)] at h0
        cases h0
    have hne:ended p s=false:=by
      cases hc:ended p s with
      |false=>rfl
      |true=>
        exfalso
        have he2:=ended_iff.1 hc
        have:ended (fullPg p) s' =true:=ended_iff.2 fun t ht=>by
          rw [fullPg_len] at ht
          obtain ⟨a1,a2⟩:=he2 t ht
          obtain ⟨i,ha,hi,hb,hw⟩:=hA t ht
          rw [fullPg_code ht,hw]
          refine ⟨?_,rfl⟩
          rw [ha] at a1
          obtain rfl:i=(nth p.code t).length:=by omega
          rw [hb,pF_len];omega
        rw [this] at he;cases he
    have h2:=Outs.stuck hr hne hstp
    rw [hrel.words,hrel.prints] at h2
    exact h2
theorem fullPg_ok (h:OkPg p)(hs:∀t,t<p.code.length→(fenL (nth p.code t)).length≤400):OkPg (fullPg p):=by
 refine ⟨by rw [fullPg_len];exact h.code,h.words,h.locks,h.regs,fun t ht=> ?_,fun t j ht hj=> ?_⟩
 ·rw [fullPg_len] at ht
  rw [fullPg_code ht];exact hs t ht
 ·rw [fullPg_len] at ht
  rw [fullPg_code ht] at hj⊢
  have hsz:=hs t ht
  obtain ⟨i,k,hi,hk,e⟩:=moved_from (fenW (wF (nth p.code t))) (nth p.code t) _ (Nat.le_refl _) j (by rw [←moved_len,fen_put];exact hj)
  rw [fenW_len] at hk
  have ho:=h.ins t i ht hi
  have hjo:=h.jumpsF ht
  by_cases hk0:k=0
  ·subst hk0
   have e' :j=pF (nth p.code t) i:=e
   rw [e']
   by_cases h14:(nth (nth p.code t) i).op=14
   ·rw [fen_14 hi h14]
    have ha:=(hjo i hi).1 h14
    exact OkIns.jump h14 ho ⟨by omega,by omega⟩ ⟨by omega,by have:=pF_le (c:=nth p.code t) (i:=(nth (nth p.code t) i).a.toNat) (by omega);omega⟩
   by_cases h15:(nth (nth p.code t) i).op=15
   ·rw [fen_15 hi h15]
    have hb:=(hjo i hi).2 h15
    exact OkIns.zero (p:=p) (p' :=fullPg p) rfl rfl rfl h15 ho ⟨by omega,by omega⟩ ⟨by omega,by have:=pF_le (c:=nth p.code t) (i:=(nth (nth p.code t) i).b.toNat) (by omega);omega⟩
   rw [fen_other hi h14 h15]
   exact OkIns.move (p:=p) (p' :=fullPg p) rfl rfl rfl h14 h15 ho
  ·by_cases hw:wF (nth p.code t) i=true
   ·rw [if_pos hw] at hk
    obtain rfl:k=1:=by omega
    have e' :j=pF (nth p.code t) i+1:=e
    rw [e',(pF_fence hi hw).1]
    exact ⟨by decide,by rw [num_no (by have:kindsB 12=⟨#[]⟩:=(by unfold kindsB;simp);rw [show kindsB ({ op:=12,a:=0,b:=0,c:=0 } :Ins).op=⟨#[]⟩ from this];decide)];rfl,
     by rw [num_no (by have:kindsB 12=⟨#[]⟩:=(by unfold kindsB;simp);rw [show kindsB ({ op:=12,a:=0,b:=0,c:=0 } :Ins).op=⟨#[]⟩ from this];decide)];rfl,
     by rw [num_no (by have:kindsB 12=⟨#[]⟩:=(by unfold kindsB;simp);rw [show kindsB ({ op:=12,a:=0,b:=0,c:=0 } :Ins).op=⟨#[]⟩ from this];decide)];rfl⟩
   ·rw [if_neg hw] at hk;omega
end
section
variable {p:Pg}{s:MSt}{x:TS}{n:Nat}{i:Ins}{m m' :Int}{c:List Ins}{k:Nat}{o:Outc}
theorem mayK_0 {l:List Wt} :mayK m l 0=true:=by simp [mayK]
theorem mvOK_none (h:∀k,mvOK m c x k=false):ableV c x=false∧x.wait= []:=by
 refine ⟨by simpa [mvOK] using h 0, ?_⟩
 have h1:=h 1
 cases hw:x.wait with
 |nil=>rfl
 |cons w l=>
  unfold mvOK at h1
  simp [hw,mayK_0] at h1
theorem mvOK_no (h:ableV c x=false∧x.wait= []):mvOK m c x k=false:=by
 unfold mvOK
 split
 ·exact h.1
 ·rename_i h0
  rw [h.2]
  simp [show¬k=0 from h0]
theorem stuck_mm (h:Stuck_ p m s):Stuck_ p m' s:=fun t k ht=>mvOK_no (mvOK_none fun k=>h t k ht)
theorem ite_w {c:Prop}[Decidable c]{a b:TS}{w:List Wt}(h1:a.wait=w)(h2:b.wait=w):(if c then a else b).wait=w:=by split<;>assumption
theorem exec0_wait :(execT 0 n i x).wait=x.wait:=by
 have hs:∀w,(x.store 0 w).wait=x.wait:=fun w=>by simp [TS.store,TS.done]
 unfold execT
 repeat' first|exact hs _|exact rfl|refine ite_w ?_ ?_
def S01 (x a b:TS):Prop:=a=b∨∃w,a= { x with wait:= [w] }∧b=x.done w
theorem ite_s {c:Prop}[Decidable c]{a b a' b' :TS}(h1:S01 x a a')(h2:S01 x b b'):S01 x (if c then a else b) (if c then a' else b'):=by split<;>assumption
theorem exec_01 (hw:x.wait= []):S01 x (execT 1 n i x) (execT 0 n i x):=by
 have hs:∀w,S01 x (x.store 1 w) (x.store 0 w):=fun w=> .inr ⟨w,by simp [TS.store,hw],by simp [TS.store]⟩
 unfold execT
 repeat' first|exact hs _|exact .inl rfl|refine ite_s ?_ ?_
theorem waits_0 (hl:s.ths.length=p.code.length)(h:∀t,t<p.code.length→(s.view t).wait= []){t k:Nat}(ht:t<p.code.length)(hk:mvOK m (nth p.code t) (s.view t) k=true):k=0:=by
 unfold mvOK at hk
 by_cases h0:k=0
 ·exact h0
 ·rw [if_neg h0,h t ht] at hk
  simp [h0] at hk
theorem ths_len {s:MSt}(h:Reach p m s):s.ths.length=p.code.length:=by
 induction h with
 |start=>simp [begin_]
 |step _ _ _ _ ih=>simpa [MSt.putT] using ih
theorem reach0_wait (h:Reach p 0 s):∀t,t<p.code.length→(s.view t).wait= []:=by
 induction h with
 |start=>
  intro t ht
  simp only [MSt.view,begin_]
  rw [nth_map' _ _ _ ht]
 |step h ht hk hf ih=>
  intro q hq
  have hl:=ths_len h
  obtain rfl:=waits_0 hl ih ht hk
  rename_i s t
  by_cases e:q=t
  ·subst e
   rw [putT_view (by omega)]
   show (stepT p 0 s q 0).wait= []
   unfold stepT doT
   rw [if_neg (by omega),exec0_wait]
   exact ih q hq
  ·have:((s.putT t (stepT p 0 s t 0)).view q).wait=(s.view q).wait:=by
    simp only [MSt.view,MSt.putT]
    rw [nth_set0,if_neg (fun h=>e h.1.symm)]
   rw [this]
   exact ih q hq
theorem reach_01 (h:Reach p 0 s):Reach p 1 s:=by
 induction h with
 |start=>exact .start
 |step h ht hk hf ih=>
  rename_i s t k
  have hl:=ths_len h
  have hw:=reach0_wait h
  obtain rfl:=waits_0 hl hw ht hk
  have hk1:mvOK 1 (nth p.code t) (s.view t) 0=true:=by simpa [mvOK] using hk
  have hwt:({ s.view t with pc:=(s.view t).pc+1 } :TS).wait= []:=hw t ht
  rcases exec_01 (n:=t) (i:=nextIns (nth p.code t) (s.view t).pc) hwt with e|⟨w,e1,e2⟩
  ·have e3:stepT p 1 s t 0=stepT p 0 s t 0:=by unfold stepT doT;rw [if_neg (by omega),if_neg (by omega)];exact e
   rw [←e3] at hf⊢
   exact .step ih ht hk1 hf
  ·have e3:stepT p 1 s t 0= { ({ s.view t with pc:=(s.view t).pc+1 } :TS) with wait:= [w] } :=by unfold stepT doT;rw [if_neg (by omega)];exact e1
   have e4:stepT p 0 s t 0=({ s.view t with pc:=(s.view t).pc+1 } :TS).done w:=by unfold stepT doT;rw [if_neg (by omega)];exact e2
   have r1:Reach p 1 (s.putT t (stepT p 1 s t 0)):= .step ih ht hk1 (by rw [e3];rfl)
   have hv:(s.putT t (stepT p 1 s t 0)).view t=stepT p 1 s t 0:=by rw [putT_view (by omega),e3];rfl
   have hm:mvOK 1 (nth p.code t) ((s.putT t (stepT p 1 s t 0)).view t) 1=true:=by
    rw [hv,e3];simp [mvOK,mayK_0]
   have e5:stepT p 1 (s.putT t (stepT p 1 s t 0)) t 1=stepT p 0 s t 0:=by
    show doT 1 t (nth p.code t) 1 ((s.putT t (stepT p 1 s t 0)).view t)=_
    rw [hv,e3,e4]
    unfold doT
    rw [if_pos (by omega)]
    simp [TS.done,nth,hw t ht]
   have r2:=r1.step ht hm (by rw [e5];exact hf)
   rw [e5] at r2
   have e6:(s.putT t (stepT p 1 s t 0)).putT t (stepT p 0 s t 0)=s.putT t (stepT p 0 s t 0):=by
    simp [MSt.putT,List.set_set]
   rwa [e6] at r2
theorem outs_01 (h:Outs p 0 o):Outs p 1 o:=by
 cases h with
 |done h he=>exact .done (reach_01 h) he
 |stuck h he hs=>exact .stuck (reach_01 h) he (stuck_mm hs)
 |fell h ht hk hf=>
  rename_i s t k
  have hl:=ths_len h
  have hw:=reach0_wait h
  obtain rfl:=waits_0 hl hw ht hk
  have hk1:mvOK 1 (nth p.code t) (s.view t) 0=true:=by simpa [mvOK] using hk
  have hwt:({ s.view t with pc:=(s.view t).pc+1 } :TS).wait= []:=hw t ht
  rcases exec_01 (n:=t) (i:=nextIns (nth p.code t) (s.view t).pc) hwt with e|⟨w,e1,e2⟩
  ·have e3:stepT p 1 s t 0=stepT p 0 s t 0:=by unfold stepT doT;rw [if_neg (by omega),if_neg (by omega)];exact e
   rw [←e3] at hf⊢
   exact .fell (reach_01 h) ht hk1 hf
  ·have e4:stepT p 0 s t 0=({ s.view t with pc:=(s.view t).pc+1 } :TS).done w:=by unfold stepT doT;rw [if_neg (by omega)];exact e2
   rw [e4] at hf
   cases hf
end
section
variable {p:Pg}
theorem two0 (hq:OkPg (fullPg p)){s' :MSt}{t i:Nat}(hr' :Reach (fullPg p) 0 s')(ht:t<p.code.length)(hi:i<(nth p.code t).length)(hs:isSt (nth (nth p.code t) i).op)(hb:(nth s'.ths t).pc=(pF (nth p.code t) i:Int))(hw:(nth s'.ths t).wait= [])
  (hp:pendOK t (nth (nth p.code t) i) (nth s'.ths t).regs s'.words.length s'.owner):Reach (fullPg p) 0 (s'.putT t { (s'.view t).done (pend (nth (nth p.code t) i) (nth s'.ths t).regs) with pc:=(pF (nth p.code t) (i+1):Int),wait:= [] }):=by
 have hcode:=fullPg_code ht
 have htq:t<(fullPg p).code.length:=by rw [fullPg_len];exact ht
 have hl' :=hr'.len hq htq
 obtain ⟨n14,n15⟩:=isSt_no hs
 have hwF:wF (nth p.code t) i=true:=wF_t.2 hs
 have hins:=fen_other hi n14 n15
 obtain ⟨hf1,hf2⟩:=pF_fence hi hwF
 have hsuc:=pF_succ hi
 rw [if_pos hwF] at hsuc
 have hv:(s'.view t).pc=(pF (nth p.code t) i:Int):=hb
 have hn:nextIns (nth (fullPg p).code t) (s'.view t).pc=nth (nth p.code t) i:=by rw [hcode,nextIns_nat hv (by omega),hins]
 have e1:stepT (fullPg p) 0 s' t 0= { (s'.view t).done (pend (nth (nth p.code t) i) (nth s'.ths t).regs) with pc:=(pF (nth p.code t) i:Int)+1,wait:= [] } :=by
  rw [stepT_e,hn,hv]
  rw [(exec_st (m:=0) (t:=t) (x:= { s'.view t with pc:=(pF (nth p.code t) i:Int)+1 }) hs hw).1 hp]
  unfold TS.store
  rw [if_neg (by decide)]
  unfold TS.done
  simp only [show (s'.view t).wait= [] from hw]
  rfl
 have hr2:=Reach.step hr' htq (mvOK_0 (by rw [hcode,hv];omega) (by rw [hn];show ableL _ (nth s'.ths t).wait.length _=true;rw [hw];exact able_st hs)) (by rw [e1];rfl)
 rw [e1] at hr2
 have hv2:=putT_view (s:=s') (t:=t) (y:= { (s'.view t).done (pend (nth (nth p.code t) i) (nth s'.ths t).regs) with pc:=(pF (nth p.code t) i:Int)+1,wait:= [] }) hl'
 have hpc2:((s'.putT t { (s'.view t).done (pend (nth (nth p.code t) i) (nth s'.ths t).regs) with pc:=(pF (nth p.code t) i:Int)+1,wait:= [] }).view t).pc=((pF (nth p.code t) i+1:Nat):Int):=by rw [hv2];simp
 have hn2:nextIns (nth (fullPg p).code t) ((s'.putT t { (s'.view t).done (pend (nth (nth p.code t) i) (nth s'.ths t).regs) with pc:=(pF (nth p.code t) i:Int)+1,wait:= [] }).view t).pc=⟨12,0,0,0⟩:=by rw [hcode,nextIns_nat hpc2 hf2,hf1]
 have e3:stepT (fullPg p) 0 (s'.putT t { (s'.view t).done (pend (nth (nth p.code t) i) (nth s'.ths t).regs) with pc:=(pF (nth p.code t) i:Int)+1,wait:= [] }) t 0= { (s'.view t).done (pend (nth (nth p.code t) i) (nth s'.ths t).regs) with pc:=(pF (nth p.code t) (i+1):Int),wait:= [] } :=by
  rw [stepT_e,hn2,hpc2,hv2,execT_no (by decide),hsuc]
  simp
  exact ⟨by omega,rfl⟩
 have hr3:=Reach.step hr2 htq (mvOK_0 (by rw [hcode,hpc2];omega) (by rw [hn2,hv2];rfl)) (by rw [e3];rfl)
 rw [e3,putT_putT] at hr3
 exact hr3
theorem full_fwd0 (hok:OkPg p)(hq:OkPg (fullPg p)):∀o,Outs p 0 o→Outs (fullPg p) 0 o:=by
 refine sim_outs (fun s s' =>RelP p.code.length (FR p) s s') ⟨_, .start,begin_rel fullPg_len rfl rfl rfl fun t ht=>⟨0,rfl,Nat.zero_le _,by simp [pF,placeL]⟩⟩ ?_ ?_ ?_
 ·intro s s' t k hr hr' hrel ht hk
  have hl:=hr.len hok ht
  have htq:t<(fullPg p).code.length:=by rw [fullPg_len];exact ht
  have hl' :=hr'.len hq htq
  have hw:=hr.no_wait hok t ht
  have hw' :(nth s'.ths t).wait= []:=by rw [hrel.wait t ht];exact hw
  have hv:=hrel.view ht
  have hcode:=fullPg_code ht
  rcases mvOK_k hk with ⟨rfl,hlt,hab⟩|⟨h1,h2,_⟩
  case inr=>rw [show (s.view t).wait= [] from hw] at h2;simp at h2;omega
  obtain ⟨i,hi,hil,hb⟩:=hrel.pc t ht
  have hi' :(s.view t).pc=(i:Int):=hi
  have hil' :i<(nth p.code t).length:=by rw [hi'] at hlt;omega
  have hn:=nextIns_nat hi' hil'
  rw [hn] at hab
  have hst:=stepT_e (p:=p) (m:=0) (s:=s) (t:=t)
  rw [hn,hi'] at hst
  have hb' :(s'.view t).pc=(pF (nth p.code t) i:Int):=hb
  have hpl:=(pF_at hil').2
  have hn2:nextIns (nth (fullPg p).code t) (s'.view t).pc=nth (fenL (nth p.code t)) (pF (nth p.code t) i):=by rw [hcode];exact nextIns_nat hb' hpl
  have hst2:=stepT_e (p:=fullPg p) (m:=0) (s:=s') (t:=t)
  rw [hn2,hb'] at hst2
  by_cases hs:isSt (nth (nth p.code t) i).op
  ·have hx:=exec_st (m:=0) (t:=t) (x:= { s.view t with pc:=(i:Int)+1 }) hs hw
   by_cases hp:pendOK t (nth (nth p.code t) i) (nth s.ths t).regs s.words.length s.owner
   ·have e:=hx.1 hp
    rw [←hst] at e
    have e0:stepT p 0 s t 0= { (s.view t).done (pend (nth (nth p.code t) i) (nth s.ths t).regs) with pc:=(i:Int)+1 } :=by rw [e];unfold TS.store;rw [if_neg (by decide)];rfl
    rw [if_neg (by rw [e0];exact Bool.false_ne_true)]
    refine ⟨_,two0 hq hr' ht hil' hs hb hw' (by rw [hrel.regs t ht,hrel.words,hrel.owner];exact hp), ?_⟩
    rw [e0,hrel.regs t ht,hv]
    have h4:=hrel.put hl hl' (y:= { (s.view t).done (pend (nth (nth p.code t) i) (nth s.ths t).regs) with pc:=(i:Int)+1 }) (u:=(pF (nth p.code t) (i+1):Int)) (fun _=>⟨i+1,by simp,by omega,rfl⟩)
    have e5:({ ({ s.view t with pc:=(nth s'.ths t).pc } :TS).done (pend (nth (nth p.code t) i) (nth s.ths t).regs) with pc:=(pF (nth p.code t) (i+1):Int),wait:= [] } :TS)= { ({ (s.view t).done (pend (nth (nth p.code t) i) (nth s.ths t).regs) with pc:=(i:Int)+1 } :TS) with pc:=(pF (nth p.code t) (i+1):Int) } :=by
     unfold TS.done
     simp only [show (s.view t).wait= [] from hw]
    rw [e5];exact h4
   ·have e:=hx.2 hp
    rw [←hst] at e
    rw [if_pos (by rw [e])]
    have hx2:=(exec_st (m:=0) (t:=t) (x:= { s'.view t with pc:=(pF (nth p.code t) i:Int)+1 }) hs hw').2 (by show¬pendOK t _ (nth s'.ths t).regs s'.words.length s'.owner;rw [hrel.regs t ht,hrel.words,hrel.owner];exact hp)
    have hins:=fen_other hil' (isSt_no hs).1 (isSt_no hs).2
    rw [hins] at hst2 hn2
    rw [←hst2] at hx2
    have:=Outs.fell hr' htq (mvOK_0 (by rw [hcode,hb'];omega) (by rw [hn2];show ableL _ (nth s'.ths t).wait.length _=true;rw [hw'];exact able_st hs)) (by rw [hx2])
    rw [hx2] at this
    rw [e]
    have hpr:(s'.view t).prints=(s.view t).prints:=hrel.prints
    rw [show ({ ({ s'.view t with pc:=(pF (nth p.code t) i:Int)+1 } :TS) with fell:=true } :TS).prints=(s.view t).prints from hpr] at this
    exact this
  ·obtain ⟨j,hjl,hj1,hj2⟩:=fen_step hok (m:=0) (m' :=0) ht hil' hs (s.view t)
   have e2:stepT (fullPg p) 0 s' t 0= { stepT p 0 s t 0 with pc:=(pF (nth p.code t) j:Int) } :=by rw [hst2,hst,hv];exact hj2
   have hab2:mvOK 0 (nth (fullPg p).code t) (s'.view t) 0=true:=by
    refine mvOK_0 (by rw [hcode,hb'];omega) ?_
    rw [hn2,show (s'.view t).owner=(s.view t).owner from hrel.owner,show (s'.view t).wait.length=(s.view t).wait.length by show (nth s'.ths t).wait.length=_;rw [hrel.wait t ht];rfl]
    by_cases h14:(nth (nth p.code t) i).op=14
    ·rw [fen_14 hil' h14];unfold ableL;simp [h14]
    by_cases h15:(nth (nth p.code t) i).op=15
    ·rw [fen_15 hil' h15];unfold ableL;simp [h15]
    rw [fen_other hil' h14 h15];exact hab
   split
   ·rename_i hf
    have:=Outs.fell hr' htq hab2 (by rw [e2];exact hf)
    rw [e2] at this;exact this
   ·rename_i hf
    refine ⟨_, .step hr' htq hab2 (by rw [e2];simpa using hf), ?_⟩
    rw [e2]
    exact hrel.put hl hl' fun _=>⟨j,by rw [hst];exact hj1,hjl,rfl⟩
 ·intro s s' hr hr' hrel he
  have he2:=ended_iff.1 he
  have:ended (fullPg p) s' =true:=ended_iff.2 fun t ht=>by
   rw [fullPg_len] at ht
   obtain ⟨h1,h2⟩:=he2 t ht
   obtain ⟨i,hi,hil,hb⟩:=hrel.pc t ht
   rw [fullPg_code ht,hrel.wait t ht]
   refine ⟨?_,h2⟩
   rw [hi] at h1
   obtain rfl:i=(nth p.code t).length:=by omega
   rw [hb,pF_len];omega
  have h2:=Outs.done hr' this
  rw [hrel.words,hrel.prints] at h2
  exact h2
 ·intro s s' hr hr' hrel he hst
  have hstq:Stuck_ (fullPg p) 0 s' :=by
   intro u k hu
   rw [fullPg_len] at hu
   cases hc:mvOK 0 (nth (fullPg p).code u) (s'.view u) k with
   |false=>rfl
   |true=>
    exfalso
    have hw:=hr.no_wait hok u hu
    have hw' :(s'.view u).wait= []:=by show (nth s'.ths u).wait= [];rw [hrel.wait u hu];exact hw
    rcases mvOK_k hc with ⟨rfl,h3,h4⟩|⟨h3,h4,_⟩
    case inr=>rw [hw'] at h4;simp at h4;omega
    obtain ⟨i,hi,hil,hb⟩:=hrel.pc u hu
    have hb' :(s'.view u).pc=(pF (nth p.code u) i:Int):=hb
    have hlt:i<(nth p.code u).length:=by
     rcases Nat.lt_or_ge i (nth p.code u).length with h|h
     ·exact h
     ·obtain rfl:i=(nth p.code u).length:=by omega
      rw [hb',fullPg_code hu,pF_len] at h3;omega
    have hn2:nextIns (nth (fullPg p).code u) (s'.view u).pc=nth (fenL (nth p.code u)) (pF (nth p.code u) i):=by rw [fullPg_code hu];exact nextIns_nat hb' (pF_at hlt).2
    have h0:=hst u 0 hu
    have hi' :(s.view u).pc=(i:Int):=hi
    rw [hn2,hw'] at h4
    have:mvOK 0 (nth p.code u) (s.view u) 0=true:=mvOK_0 (by rw [hi'];omega) (by
     rw [nextIns_nat hi' hlt,show (s.view u).wait= [] from hw]
     by_cases h14:(nth (nth p.code u) i).op=14
     ·unfold ableL;simp [h14]
     by_cases h15:(nth (nth p.code u) i).op=15
     ·unfold ableL;simp [h15]
     rw [fen_other hlt h14 h15] at h4
     rw [show (s.view u).owner=(s'.view u).owner from hrel.owner.symm];exact h4)
    rw [this] at h0;cases h0
  have hne:ended (fullPg p) s' =false:=by
   cases hc:ended (fullPg p) s' with
   |false=>rfl
   |true=>
    exfalso
    have he2:=ended_iff.1 hc
    have:ended p s=true:=ended_iff.2 fun t ht=>by
     obtain ⟨a1,a2⟩:=he2 t (by rw [fullPg_len];exact ht)
     obtain ⟨i,hi,hil,hb⟩:=hrel.pc t ht
     rw [hrel.wait t ht] at a2
     refine ⟨?_,a2⟩
     rw [hi]
     rw [hb,fullPg_code ht] at a1
     rcases Nat.lt_or_ge i (nth p.code t).length with h|h
     ·have:=(pF_at h).2;omega
     ·omega
    rw [this] at he;cases he
  have h2:=Outs.stuck hr' hne hstq
  rw [hrel.words,hrel.prints] at h2
  exact h2
theorem full_same (hok:OkPg p)(hq:OkPg (fullPg p))(o:Outc):Outs (fullPg p) 0 o↔Outs (fullPg p) 1 o:=⟨outs_01,fun h=>full_fwd0 hok hq o (full_bwd hok hq o h)⟩
theorem fullPg_r (hR:PgR p)(hs:∀t,t<p.code.length→(fenL (nth p.code t)).length≤400)(hok:OkPg p):PgR (fullPg p):=by
 refine ⟨fun c hc x hx=> ?_,hR.words⟩
 obtain ⟨t,ht,rfl⟩:=List.mem_iff_getElem.1 hc
 have ht' :t<p.code.length:=by simpa [fullPg] using ht
 rw [←nth_lt _ _ ht,fullPg_code ht'] at hx
 obtain ⟨j,hj,rfl⟩:=List.mem_iff_getElem.1 hx
 rw [←nth_lt _ _ hj]
 have hsz:=hs t ht'
 obtain ⟨i,k,hi,hk,e⟩:=moved_from (fenW (wF (nth p.code t))) (nth p.code t) _ (Nat.le_refl _) j (by rw [←moved_len,fen_put];exact hj)
 rw [fenW_len] at hk
 have h0:R64I (nth (nth p.code t) i):=hR.code _ (nth_mem _ _ ht') _ (nth_mem _ _ hi)
 have hjo:=hok.jumpsF ht'
 have hn:∀q:Nat,q≤(nth p.code t).length→R64 (pF (nth p.code t) q:Int):=fun q hq=>by
  have:=pF_le (c:=nth p.code t) (i:=q) hq
  unfold R64;omega
 by_cases hk0:k=0
 ·subst hk0
  have e' :j=pF (nth p.code t) i:=e
  rw [e']
  by_cases h14:(nth (nth p.code t) i).op=14
  ·rw [fen_14 hi h14]
   exact ⟨hn _ (by have:=(hjo i hi).1 h14;omega),h0.2⟩
  by_cases h15:(nth (nth p.code t) i).op=15
  ·rw [fen_15 hi h15]
   exact ⟨h0.1,hn _ (by have:=(hjo i hi).2 h15;omega),h0.2.2⟩
  rw [fen_other hi h14 h15];exact h0
 ·by_cases hw:wF (nth p.code t) i=true
  ·rw [if_pos hw] at hk
   obtain rfl:k=1:=by omega
   have e' :j=pF (nth p.code t) i+1:=e
   rw [e',(pF_fence hi hw).1]
   exact ⟨by unfold R64;simp,by unfold R64;simp,by unfold R64;simp⟩
  ·rw [if_neg hw] at hk;omega
end
end Go.Proofs.YtmjkobhkkjgplaaGreatDoor
namespace Go.Proofs.YtmjkobhkkjgplaaGreatDoor
open Go.ChangeShapes Go.WideShapes Go.ChangeAt Go.RowKit
open Go.Deep (open_slice)
set_option linter.unusedSimpArgs false
set_option linter.unusedVariables false
class Rd (α:Type) extends Enc α where
 ty:Program→TypeId→Prop
 fine:α→Prop
 read:∀ {H:Type} {enc:TypeId×Value→H} {P:Program} {w:World} {base:Nat} {spare:Nat→Bool} {held:Bool} {fuel:Nat} {T:TypeId} {cs:List Value} {x:DataW H×List MemPlace},
  ty P T→DataW.trod enc P w base spare held fuel T cs=some x→(∀n∈DataW.weights P T x.1,n≤reachBytes)→∃a:α,cs=cellsOf a∧Enc.inner a w∧fine a
instance : Rd Int where
 ty P T:=P.underlying T=some (.int .i64)
 fine n:=(Lit.int .i64 n).wf=true
 read hT h _:=by
  obtain ⟨n,rfl,_,hw⟩:=DataW.trod_int hT h
  exact ⟨n,rfl,trivial,hw⟩
instance : Rd Bool where
 ty P T:=P.underlying T=some .bool
 fine _:=True
 read hT h _:=by
  obtain ⟨b,rfl,_⟩:=DataW.trod_bool hT h
  exact ⟨b,rfl,trivial,trivial⟩
def intFields (P:Program)(fs:Array Field)(n:Nat):Prop:=fs.size=n∧∀(j:Nat) (f:Field),fs[j]? =some f→f.offset=j∧P.underlying f.type=some (.int .i64)∧P.cellsOf f.type=1
theorem read_ints {H:Type}{enc:TypeId×Value→H}{P:Program}{w:World}{base:Nat}{spare:Nat→Bool}{held:Bool}{fuel:Nat}{T:TypeId}{cs:List Value}{x:DataW H×List MemPlace}{fs:Array Field}{n:Nat}
  (hT:P.underlying T=some (.struct fs)) (hfs:intFields P fs n) (hC:P.cellsOf T=n) (h:DataW.trod enc P w base spare held fuel T cs=some x):
  cs.length=n∧∀j,j<n→∃k:Int,cs[j]? =some (.int .i64 k)∧(Lit.int .i64 k).wf=true:=by
 obtain ⟨xs,m,_,_,hlen,hxl,hf⟩:=DataW.trod_struct hT h
 refine ⟨hlen.trans hC,fun j hj=> ?_⟩
 obtain ⟨hs,hall⟩:=hfs
 have hjs:j<fs.size:=by omega
 obtain ⟨ho,ht,hc⟩:=hall j fs[j] (by simp [hjs])
 have h1:=hf j fs[j] (by simp [hjs])
 rw [ho,hc,List.getElem?_eq_getElem (by omega)] at h1
 obtain ⟨k,hk,_,hw⟩:=DataW.trod_int ht h1
 refine ⟨k, ?_,hw⟩
 rw [List.drop_eq_getElem_cons (by omega)] at hk
 simp only [List.take_succ_cons,List.take_zero,List.cons.injEq,and_true] at hk
 rw [List.getElem?_eq_getElem (by omega),hk]
instance : Rd Ins where
 ty P T:=∃fs,P.underlying T=some (.struct fs)∧intFields P fs 4∧P.cellsOf T=4
 fine x:=(Lit.int .i64 x.op).wf=true∧(Lit.int .i64 x.a).wf=true∧(Lit.int .i64 x.b).wf=true∧(Lit.int .i64 x.c).wf=true
 read:=by
  rintro H enc P w base spare held fuel T cs x ⟨fs,hT,hfs,hC⟩ h _
  obtain ⟨hl,hj⟩:=read_ints hT hfs hC h
  obtain ⟨k0,e0,w0⟩:=hj 0 (by omega)
  obtain ⟨k1,e1,w1⟩:=hj 1 (by omega)
  obtain ⟨k2,e2,w2⟩:=hj 2 (by omega)
  obtain ⟨k3,e3,w3⟩:=hj 3 (by omega)
  match cs,hl with
  | [c0,c1,c2,c3],_=>
   simp only [List.getElem?_cons_zero,List.getElem?_cons_succ,Option.some.injEq] at e0 e1 e2 e3
   subst e0 e1 e2 e3
   exact ⟨⟨k0,k1,k2,k3⟩,rfl,trivial,w0,w1,w2,w3⟩
theorem weights_slice {H:Type}{P:Program}{T e:TypeId}{elems spare:List (DataW H)}(hT:P.underlying T=some (.slice e))(h:∀n∈DataW.weights P T (.slice elems spare),n≤reachBytes):
  (elems.length+spare.length)*P.bytesOf e≤reachBytes∧∀d∈elems,∀n∈DataW.weights P e d,n≤reachBytes:=by
 unfold DataW.weights at h
 rw [hT] at h
 refine ⟨h _ (by simp),fun d hd n hn=>h n ?_⟩
 have:∀l:List (DataW H),d∈l→n∈DataW.weightsAll P e l:=by
  intro l hl
  induction l with
  |nil=>cases hl
  |cons y l ih=>
   unfold DataW.weightsAll
   rcases List.mem_cons.1 hl with rfl|hl
   ·exact List.mem_append.2 (.inl hn)
   ·exact List.mem_append.2 (.inr (ih hl))
 simp only [List.mem_cons,List.mem_append]
 exact .inr (.inl (this _ hd))
instance {α:Type}[Rd α]:Rd (Sl α) where
 ty P T:=∃e,P.underlying T=some (.slice e)∧P.cellsOf e=Enc.sz α∧1≤P.bytesOf e∧0<Enc.sz α∧Rd.ty α P e
 fine s:=∀i,i<s.l.length→Rd.fine (nth s.l i)
 read:=by
  rintro H enc P w base spare held fuel T cs x ⟨e,hT,hC,hB,hpos,hty⟩ h hw
  rcases open_slice hT h with ⟨rfl,rfl⟩|⟨a,len,cap,m,n,D,Pl,rfl,_,hl,hm,hmm,rfl,hi⟩
  ·refine ⟨⟨none,0, []⟩,rfl,⟨Nat.le_refl _,by simp,by simp,fun hh=>absurd hh (by simp),fun hh=>absurd hh (by simp),fun i j hi=>absurd hi (by simp),fun i hi=>absurd hi (by simp)⟩,fun i hi=>absurd hi (by simp)⟩
  ·obtain ⟨hb,hd⟩:=weights_slice hT hw
   have hlm:len≤m:=by rw [hmm];split<;>omega
   have hlen:len≤140737488355328:=by
    simp only [List.length_map,List.length_range,reachBytes] at hb
    have:(len+(m-len))*1≤(len+(m-len))*P.bytesOf e:=Nat.mul_le_mul_left _ hB
    omega
   have key:∀i,i<len→∃y:α,(∀j,j<Enc.sz α→w.cell? ((a.add (i*Enc.sz α)).add j)=some (Enc.cell y j))∧Enc.inner y w∧Rd.fine y:=by
    intro i hil
    obtain ⟨cs',hc',ht'⟩:=hi i (by omega)
    obtain ⟨y,hy,hin,hf⟩:=Rd.read hty ht' (hd _ (List.mem_map.2 ⟨i,by simpa using hil,rfl⟩))
    obtain ⟨_,hcl,hat⟩:=World.cells?_some hc'
    rw [hC] at hc' hat hcl
    refine ⟨y,fun j hj=> ?_,hin,hf⟩
    rw [hat j (by first|exact hj|omega)]
    subst hy
    simp [cellsOf,hj]
   obtain ⟨F,hF⟩:=Go.Deep.choose_lt key
   let l:=(List.range len).map F
   have hll:l.length=len:=by simp [l]
   have hn:∀i,i<len→nth l i=F i:=by intro i hil;simp [nth,l,hil]
   have hcell0:0<len→∃v,w.cell? a=some v:=fun h0=>⟨_,by
    have h1:=(hF 0 h0).1 0 hpos
    rw [Nat.zero_mul,Addr.add_zero',Addr.add_zero'] at h1
    exact h1⟩
   have hspot:0<len→a.spot=none:=by
    intro h0
    obtain ⟨v,hv⟩:=hcell0 h0
    unfold World.cell? at hv
    split at hv
    ·split at hv
     ·cases hv
     ·rename_i hs
      simpa using hs
    ·cases hv
   refine ⟨⟨some a,cap,l⟩,by simp [cellsOf,Enc.cell,Enc.sz,hll],⟨by rw [hll];exact hl,hm,by rw [hll];exact hlen, ?_, ?_, ?_, ?_⟩, ?_⟩
   ·intro h0
    exact ⟨a,rfl,hspot (by rw [←hll];exact h0)⟩
   ·intro h0
    obtain ⟨v,hv⟩:=hcell0 (by rw [←hll];exact h0)
    exact World.block_lt_of_cell? w a hv
   ·intro i j hi' hj
    rw [hll] at hi'
    show w.cell? ⟨a.block,a.off+i*Enc.sz α+j,none⟩=some (Enc.cell (nth l i) j)
    rw [hn i hi',←(hF i hi').1 j hj]
    have hs:=hspot (by omega)
    rcases a with ⟨b,o,sp⟩
    simp only at hs
    subst hs
    rw [Addr.add_lit,Addr.add_lit]
   ·intro i hi'
    rw [hll] at hi'
    rw [hn i hi']
    exact (hF i hi').2.1
   ·intro i hi'
    rw [hll] at hi'
    rw [hn i hi']
    exact (hF i hi').2.2
def prFields (P:Program)(fs:Array Field):Prop:=
 ∃f0 f1 f2 f3:Field,fs= #[f0,f1,f2,f3]∧(f0.offset=0∧P.cellsOf f0.type=1∧Rd.ty (Sl (Sl Ins)) P f0.type)∧(f1.offset=1∧P.cellsOf f1.type=1∧Rd.ty (Sl Int) P f1.type)∧
  (f2.offset=2∧P.cellsOf f2.type=1∧Rd.ty Int P f2.type)∧(f3.offset=3∧P.cellsOf f3.type=1∧Rd.ty Int P f3.type)
def PR.fine (p:PR):Prop:=Rd.fine p.code∧Rd.fine p.words∧(Lit.int .i64 p.locks).wf=true∧(Lit.int .i64 p.regs).wf=true
theorem weights_agg {H:Type}{P:Program}{T:TypeId}{f0 f1 f2 f3:Field}{d0 d1 d2 d3:DataW H}(hT:P.underlying T=some (.struct #[f0,f1,f2,f3]))(h:∀n∈DataW.weights P T (.agg [d0,d1,d2,d3]),n≤reachBytes):
  (∀n∈DataW.weights P f0.type d0,n≤reachBytes)∧(∀n∈DataW.weights P f1.type d1,n≤reachBytes)∧(∀n∈DataW.weights P f2.type d2,n≤reachBytes)∧(∀n∈DataW.weights P f3.type d3,n≤reachBytes):=by
 unfold DataW.weights at h
 rw [hT] at h
 simp only [List.map_cons,List.map_nil,DataW.weightsEach,List.append_nil,List.mem_append] at h
 exact ⟨fun n hn=>h n (.inl hn),fun n hn=>h n (.inr (.inl hn)),fun n hn=>h n (.inr (.inr (.inl hn))),fun n hn=>h n (.inr (.inr (.inr hn)))⟩
theorem open_PR {H:Type}{enc:TypeId×Value→H}{P:Program}{w:World}{base:Nat}{spare:Nat→Bool}{held:Bool}{r:Go.Reach}{b0:Nat}{T:TypeId}{fs:Array Field}{v:Value}{d:DataW H}{p:List MemPlace}
  (hT:P.underlying T=some (.struct fs)) (hfs:prFields P fs) (hC:P.cellsOf T=4) (hv:Value.okWide P w r b0 T v) (h:DataW.Trod enc P w base spare held T v d p) (hw:∀n∈DataW.weights P T d,n≤reachBytes):
  ∃q:PR,v=q.val∧q.At w∧q.fine:=by
 obtain ⟨f0,f1,f2,f3,rfl,⟨o0,c0,t0⟩,⟨o1,c1,t1⟩,⟨o2,c2,t2⟩,⟨o3,c3,t3⟩⟩:=hfs
 obtain ⟨cs,rfl,hsz⟩:=okWide_struct hT hv
 obtain ⟨l⟩:=cs
 match l,hsz.trans hC with
 | [v0,v1,v2,v3],_=>
  obtain ⟨fuel,hf⟩:=h
  obtain ⟨xs,n,_,hx,_,hlen,hg⟩:=DataW.trod_struct hT hf
  match xs,hlen with
  | [y0,y1,y2,y3],_=>
   simp only [Prod.mk.injEq,List.map_cons,List.map_nil] at hx
   rw [hx.1] at hw
   obtain ⟨w0,w1,w2,w3⟩:=weights_agg hT hw
   have g0:=hg 0 f0 rfl
   have g1:=hg 1 f1 rfl
   have g2:=hg 2 f2 rfl
   have g3:=hg 3 f3 rfl
   rw [o0,c0] at g0
   rw [o1,c1] at g1
   rw [o2,c2] at g2
   rw [o3,c3] at g3
   simp [Value.cells] at g0 g1 g2 g3
   obtain ⟨s0,e0,i0,k0⟩:=Rd.read t0 g0 w0
   obtain ⟨s1,e1,i1,k1⟩:=Rd.read t1 g1 w1
   obtain ⟨s2,e2,i2,k2⟩:=Rd.read t2 g2 w2
   obtain ⟨s3,e3,i3,k3⟩:=Rd.read t3 g3 w3
   simp [cellsOf,Enc.cell,Enc.sz] at e0 e1 e2 e3
   subst e0 e1 e2 e3
   exact ⟨⟨s0,s1,s2,s3⟩,rfl,⟨i0,i1⟩,k0,k1,k2,k3⟩
end Go.Proofs.YtmjkobhkkjgplaaGreatDoor
namespace Go.Proofs.YtmjkobhkkjgplaaGreatDoor
open Go.ChangeShapes Go.WideShapes Go.ChangeAt Go.RowKit
set_option linter.unusedSimpArgs false
set_option linter.unusedVariables false
theorem own :ownKnob Tryz.prog.godebug=none:=by kernel_rfl
theorem laidOut :laidOutB Tryz.prog=true:=by kernel_rfl
theorem ty_int :Rd.ty Int Tryz.prog 3:=Tryz.underlying3
theorem ty_ins :Rd.ty Ins Tryz.prog 32:=by
 refine ⟨_,Tryz.underlying32,⟨rfl,fun j f hf=> ?_⟩,by kernel_rfl⟩
 rcases j with _|_|_|_|j<;>simp at hf<;>subst hf<;>exact ⟨rfl,Tryz.underlying3,by kernel_rfl⟩
theorem ty_ints :Rd.ty (Sl Int) Tryz.prog 23:=⟨_,Tryz.underlying23,by kernel_rfl,of_decide_eq_true (by kernel_rfl),by decide,ty_int⟩
theorem ty_code :Rd.ty (Sl Ins) Tryz.prog 33:=⟨_,Tryz.underlying33,by kernel_rfl,of_decide_eq_true (by kernel_rfl),by decide,ty_ins⟩
theorem ty_codes :Rd.ty (Sl (Sl Ins)) Tryz.prog 22:=⟨_,Tryz.underlying22,by kernel_rfl,of_decide_eq_true (by kernel_rfl),by decide,ty_code⟩
theorem ty_pr :∃fs,Tryz.prog.underlying 25=some (.struct fs)∧prFields Tryz.prog fs:=
 ⟨_,Tryz.underlying25,_,_,_,_,rfl,⟨rfl,by kernel_rfl,ty_codes⟩,⟨rfl,by kernel_rfl,ty_ints⟩,⟨rfl,by kernel_rfl,ty_int⟩,⟨rfl,by kernel_rfl,ty_int⟩⟩
section
variable {α:Type}[Enc α]
def ofSl (s:Sl α):Ls α:=⟨.slice s.A s.l.length s.cap,s.l⟩
theorem ofSl_at {s:Sl α}{w:World}(h:s.At w):(ofSl s).At w:=⟨s.A,s.cap,rfl,h⟩
def ofSl2 (s:Sl (Sl α)):Ls (Ls α):=⟨.slice s.A s.l.length s.cap,s.l.map ofSl⟩
theorem ofSl2_at {s:Sl (Sl α)}{w:World}(h:s.At w):(ofSl2 s).At w:=by
 refine ⟨s.A,s.cap,by simp [ofSl2],⟨by simpa [ofSl2] using h.le,h.max,by simpa [ofSl2] using h.len,by simpa [ofSl2] using h.some,by simpa [ofSl2] using h.lt',fun i j hi hj=> ?_,fun i hi=> ?_⟩⟩
 ·have hi' :i<s.l.length:=by simpa [ofSl2] using hi
  show w.cell? _=some (Enc.cell (nth (s.l.map ofSl) i) j)
  rw [nth_map' ofSl _ _ hi']
  exact h.cell i j hi' hj
 ·have hi' :i<s.l.length:=by simpa [ofSl2] using hi
  show Enc.inner (nth (s.l.map ofSl) i) w
  rw [nth_map' ofSl _ _ hi']
  exact ofSl_at (h.inner i hi')
end
end Go.Proofs.YtmjkobhkkjgplaaGreatDoor
namespace Go.Proofs.YtmjkobhkkjgplaaGreatDoor
open Go.RowKit
set_option linter.unusedSimpArgs false
set_option linter.unusedVariables false
set_option maxRecDepth 100000
set_option maxHeartbeats 20000000
theorem take_hund {β:Type}{l:List β}{t:Nat}(h1:t≤l.length)(h2:t≤100)(h3:¬(t<l.length∧t<100)):l.take 100=l.take t:=by
 rcases Nat.lt_or_ge t 100 with h|h
 ·rw [List.take_of_length_le (by omega),List.take_of_length_le (by omega)]
 ·rw [show t=100 by omega]
theorem fence_rob {code c:Ls (Ls Ins)}{words u:Ls Int}{Lk R:Nat}(hok:OkPg (pgN code words Lk R))(hR:PgR (pgN code words Lk R))(hsh:∀j,j<code.l.length→(withL (fulW code j) (nth code.l j).l).length≤400)(hq:c.l.map (·.l)=(List.range code.l.length).map (fun t=>withL (fulW code t) (nth code.l t).l))(hu:u.l=words.l):
  OkPg (pgN c u Lk R)∧PgR (pgN c u Lk R)∧∀o,Outs (pgN c u Lk R) 0 o↔Outs (pgN c u Lk R) 1 o:=by
 have e:pgN c u Lk R=fullPg (pgN code words Lk R):=by
  unfold pgN pgOf fullPg
  rw [hq,hu]
  congr 1
  refine ext_nth _ _ (by simp) fun i hi=> ?_
  have hi' :i<code.l.length:=by simpa using hi
  rw [nth_map' _ _ _ (by simpa using hi'),nth_map' _ _ _ (by simpa using hi'),nth_map' _ _ _ hi',show nth (List.range code.l.length) i=i by simp [nth,hi']]
  rfl
 rw [e]
 have hs9:∀t,t<(pgN code words Lk R).code.length→(fenL (nth (pgN code words Lk R).code t)).length≤400:=fun t ht=>by rw [pgN_len] at ht;rw [pgN_code ht];exact hsh t ht
 have h2:=fullPg_ok hok hs9
 exact ⟨h2,fullPg_r hR hs9 hok,fun o=>full_same hok h2 o⟩
def oneP :Pg:=⟨[[⟨9,0,0,0⟩]], [0],0,1⟩
theorem one_pg {code:Ls (Ls Ins)}{words:Ls Int}(hc:code.l.map (·.l)=oneP.code)(hw:words.l= [0]):pgOf code words 0 1=oneP:=by
 simp only [pgOf,hc,hw]
 rfl
theorem one_w {code:Ls (Ls Ins)}(hc:code.l.map (·.l)=oneP.code):code.l.length=1∧(withL (fulW code 0) (nth code.l 0).l).length=2:=by
 obtain ⟨v,l⟩:=code
 rcases l with _|⟨⟨w,k⟩,_|⟨b,r⟩⟩
 ·cases hc
 ·have:k= [⟨9,0,0,0⟩]:=by simpa [oneP] using hc
  subst this
  exact ⟨rfl,by kernel_rfl⟩
 ·simp [oneP] at hc
theorem fullT (code:Ls (Ls Ins))(words:Ls Int)(W:World)(hcode:code.At W)(hwords:words.At W)(hc:code.l.map (·.l)=oneP.code)(hw:words.l= [0]):
  Rets Tryz.prog 22 [.agg #[code.v,words.v, .int .i64 0, .int .i64 1]] W (fun v w' =>∃(c:Ls (Ls Ins)) (u:Ls Int),v= .tuple #[.agg #[c.v,u.v, .int .i64 0, .int .i64 1], .agg #[.int .i64 0, .int .i64 0, .int .i64 0]]∧(c.l.length=1∧(nth c.l 0).l.length=2)∧Sh0 W w' [.deep 33 c, .own 3 u]):=by
 have e:=one_pg hc hw
 obtain ⟨h1,h2⟩:=one_w hc
 refine Rets.mono (full_k code words 0 1 W hcode hwords (by rw [e];exact checkG_code_pos.1 (by kernel_rfl)) (fun j hj=>by obtain rfl:j=0:=(by omega);omega)) ?_
 rintro v w' ⟨c,u,rfl,hq,hu,hs⟩
 refine ⟨c,u,rfl,⟨?_, ?_⟩,hs⟩
 ·rw [cm_len hq,h1]
 ·rw [cm_nth hq 0 (by omega)];exact h2
theorem tvast_c (code:Ls (Ls Ins))(words:Ls Int)(locks regs:Int)(W:World)(hcode:code.At W)(hwords:words.At W):
    Rets Tryz.prog 17 [.agg #[code.v,words.v, .int .i64 locks, .int .i64 regs]] W (fun v w' =>v= .bool (vastG (code.l.map (·.l)) words.l)∧Sh0 W w' []):=by
 refine gen Tryz.func17 Tryz.ntmps17 (Sh0.ext2 hcode hwords:Sh (fun _=>False) W W [.at_ code, .at_ words]) rfl fun a10 h10=>gG h10<|sK fun _ k11=>gbx rfl rfl fun b12=>gRn (oM 1 rfl<|.nl)<|nK k11<|sK fun _ k13=>gNl (aA 1 rfl) fun hl14=>gNl (aA 2 rfl) fun hl15=>gRn (ofB fl_25_0 rfl<|olB 0 ti_22 rfl rfl<|oln sl_22 (aA 1 rfl) rfl<|ofB fl_25_1 rfl<|olB 0 ti_23 rfl rfl<|oln sl_23 (aA 2 rfl) rfl<|oadN _ _ (show code.l.length+words.l.length<9223372036854775808 from (by first|omega|(have:=(hcode.inner t (by omega):(nth code.l t).At W).len;omega))) rfl<|oM 1 rfl<|.nl)<|nK k13<|gK fun _ k16=>sG (oM 1 rfl<|.nl)<|gB<|?_;clear h10
 have hwl:=hwords.len
 have hcl:=hcode.len
 intro a19 w19 h19
 refine x_loop (fun m a w=>∃(n t:Nat),(t≤code.l.length∧t≤100)∧((n:Int)=code.l.length+words.l.length+(((code.l.map (·.l)).take t).map fun s=>(s.length:Int)).sum)∧(n≤(t+2)*140737488355328)∧St 39 (fun _=>False) W a w [(1, .pointer (some ⟨b12,0,none⟩)),(3, .int .i64 ((n:Nat):Int)),(4, .int .i64 ((t:Nat):Int))] [.blk b12 25 [code.v,words.v, .int .i64 locks, .int .i64 regs], .at_ code, .at_ words]∧m=code.l.length-t) ⟨_,code.l.length+words.l.length,0,(by omega),(by simp),(by omega),h19.nf ⟨rfl,rfl,rfl,trivial⟩,rfl⟩ ?_
 clear h19
 rintro m18 a18 w18 ⟨n,t,ht,hn,hn2,h18,hm18⟩
 refine gG h18<|gK fun _ k20=>sK fun _ k21=>gRn (oM 1 rfl<|ofB fl_25_0 rfl<|olB 0 ti_22 rfl rfl<|oln sl_22 (aA 1 rfl) rfl<|oltN _ _ rfl<|oM 1 rfl<|.nl)<|?_;clear h18
 rcases dsp (t<code.l.length) with ⟨hb22,hp22⟩|⟨hb22,hp22⟩
 ·skip
  refine gRn (oG hb22 (r_move rfl rfl) rfl<|oG hb22 (r_lssN (p:=t) (q:=100) rfl rfl rfl) rfl<|opT hb22 rfl<|.nl)<|nK k21<|gcd rfl (fun hb23 hp23=> ?_) fun hb23 hp23=> ?_
  ·skip
   refine gS<|hK k20<|?_
   have hlt:=(hcode.inner t (by omega):(nth code.l t).At W).len
   refine gK fun _ k24=>gB<|gL<|gNl (fun w h=>((h.at 1 rfl).nth t (show t<code.l.length from (by omega)))) fun (hl25:((nth code.l t).l).length≤140737488355328)=>gRn (oM 1 rfl<|ofB fl_25_0 rfl<|olB 0 ti_22 rfl rfl<|oM 1 rfl<|oxN sl_22 ti_33 (aA 1 rfl) _ om9 rfl<|olE ((nth code.l t).v) ti_33 (aA 1 rfl) om9 rfl<|oln (n:=((nth code.l t).l).length) sl_33 (fun w h=>((h.at 1 rfl).nth t (show t<code.l.length from (by omega)))) rfl<|oadN _ _ (show n+(((nth code.l t).l).length)<9223372036854775808 from (by first|omega|(have:=(hcode.inner t (by omega):(nth code.l t).At W).len;omega))) rfl<|oM 1 rfl<|.nl)<|nK k24<|gL<|gRn (oM 1 rfl<|oadN _ 1 (show t+1<9223372036854775808 from (by first|omega|(have:=(hcode.inner t (by omega):(nth code.l t).At W).len;omega))) rfl<|oM 1 rfl<|.nl)<|nN<|fun a26 w26 h26=> ?_
   refine x_again ⟨_, ?_,n+(((nth code.l t).l).length),t+1, ?_, ?_, ?_,h26.nf ⟨rfl,rfl,rfl,trivial⟩,rfl⟩
   · rw [hm18];first|omega|(simp only [lens9];omega)
   · omega
   · rw [take_succ_nth _ _ (by simp;omega),List.map_append,List.sum_append,nth_map' _ _ _ (by omega)];simp only [List.map_cons,List.map_nil,List.sum_cons,List.sum_nil];omega
   · omega
  refine gX<|hK k16<|sK fun _ k27=>gRn (oM 1 rfl<|ogtN _ 5000 rfl<|oM 1 rfl<|.nl)<|?_
  rcases dsp (5000<n) with ⟨hb28,hp28⟩|⟨hb28,hp28⟩
  ·skip
   refine gRn (oKs 4 hb28 rfl rfl<|opT hb28 rfl<|oM 1 rfl<|.nl)<|nK k27<|gR<|fun a29 w29 h29=>x_ret1 (fn:=Tryz.f17) (t:=2) rfl h29 rfl<|⟨?_,(h29.sh.sel [] rfl)⟩
   congr 1
   have hv:vastG (code.l.map (·.l)) words.l=(decide (5000<n)||decide (100<code.l.length)):=by unfold vastG;rw [take_hund (l:=code.l.map (·.l)) (t:=t) (by simp;omega) (by omega) (by simp;omega),List.length_map];congr 1<;>(rw [decide_eq_decide];omega)
   rw [hv]
   first|(rw [show decide (5000<n)=true by assumption];rfl)|(rw [show decide (5000<n)=false by assumption];rfl)
  refine gRn (oG hb28 (r_fieldB (r:=0) fl_25_0 rfl rfl rfl) rfl<|oG hb28 (r_ldb (i:=0) ti_22 rfl rfl rfl rfl) rfl<|oG hb28 (r_len (s:=code) (n:=code.l.length) sl_22 rfl rfl (fun w h=>(h.at 1 rfl)) rfl) rfl<|oG hb28 (r_gtrN (p:=code.l.length) (q:=100) rfl rfl rfl) rfl<|opF hb28 rfl<|oM 1 rfl<|.nl)<|nK k27<|gR<|fun a30 w30 h30=>x_ret1 (fn:=Tryz.f17) (t:=2) rfl h30 rfl<|⟨?_,(h30.sh.sel [] rfl)⟩
  congr 1
  have hv:vastG (code.l.map (·.l)) words.l=(decide (5000<n)||decide (100<code.l.length)):=by unfold vastG;rw [take_hund (l:=code.l.map (·.l)) (t:=t) (by simp;omega) (by omega) (by simp;omega),List.length_map];congr 1<;>(rw [decide_eq_decide];omega)
  rw [hv]
  first|(rw [show decide (5000<n)=true by assumption];rfl)|(rw [show decide (5000<n)=false by assumption];rfl)
 refine gRn (oKs 2 hb22 rfl rfl<|opF hb22 rfl<|.nl)<|nK k21<|gcF rfl rfl<|gX<|hK k16<|sK fun _ k31=>gRn (oM 1 rfl<|ogtN _ 5000 rfl<|oM 1 rfl<|.nl)<|?_
 rcases dsp (5000<n) with ⟨hb32,hp32⟩|⟨hb32,hp32⟩
 ·skip
  refine gRn (oKs 4 hb32 rfl rfl<|opT hb32 rfl<|oM 1 rfl<|.nl)<|nK k31<|gR<|fun a33 w33 h33=>x_ret1 (fn:=Tryz.f17) (t:=2) rfl h33 rfl<|⟨?_,(h33.sh.sel [] rfl)⟩
  congr 1
  have hv:vastG (code.l.map (·.l)) words.l=(decide (5000<n)||decide (100<code.l.length)):=by unfold vastG;rw [take_hund (l:=code.l.map (·.l)) (t:=t) (by simp;omega) (by omega) (by simp;omega),List.length_map];congr 1<;>(rw [decide_eq_decide];omega)
  rw [hv]
  first|(rw [show decide (5000<n)=true by assumption];rfl)|(rw [show decide (5000<n)=false by assumption];rfl)
 refine gRn (oG hb32 (r_fieldB (r:=0) fl_25_0 rfl rfl rfl) rfl<|oG hb32 (r_ldb (i:=0) ti_22 rfl rfl rfl rfl) rfl<|oG hb32 (r_len (s:=code) (n:=code.l.length) sl_22 rfl rfl (fun w h=>(h.at 1 rfl)) rfl) rfl<|oG hb32 (r_gtrN (p:=code.l.length) (q:=100) rfl rfl rfl) rfl<|opF hb32 rfl<|oM 1 rfl<|.nl)<|nK k31<|gR<|fun a34 w34 h34=>x_ret1 (fn:=Tryz.f17) (t:=2) rfl h34 rfl<|⟨?_,(h34.sh.sel [] rfl)⟩
 congr 1
 have hv:vastG (code.l.map (·.l)) words.l=(decide (5000<n)||decide (100<code.l.length)):=by unfold vastG;rw [take_hund (l:=code.l.map (·.l)) (t:=t) (by simp;omega) (by omega) (by simp;omega),List.length_map];congr 1<;>(rw [decide_eq_decide];omega)
 rw [hv]
 first|(rw [show decide (5000<n)=true by assumption];rfl)|(rw [show decide (5000<n)=false by assumption];rfl)
theorem topFenced_v (code:Ls (Ls Ins))(words:Ls Int)(locks regs:Int)(W:World)(hcode:code.At W)(hwords:words.At W)(hv:vastG (code.l.map (·.l)) words.l=true):
    Rets Tryz.prog 5 [.agg #[code.v,words.v, .int .i64 locks, .int .i64 regs]] W (fun v w' =>v= .bool true∧Sh0 W w' []):=by
 refine gen Tryz.func5 Tryz.ntmps5 (Sh0.ext2 hcode hwords:Sh (fun _=>False) W W [.at_ code, .at_ words]) rfl fun a10 h10=>gG h10<|sK fun _ k11=>gbx rfl rfl fun b12=>gRn (oM 1 rfl<|.nl)<|nK k11<|sK fun _ k13=>gRn (oV (r_build (cs:= [.int .i64 9, .int .i64 0, .int .i64 0, .int .i64 0]) rfl rfl (by kernel_rfl)) rfl<|.nl)<|gE1 (fun _ _ h_=>x_lit (n:=1) (cs:= [.int .i64 9, .int .i64 0, .int .i64 0, .int .i64 0]) ([(⟨9,0,0,0⟩:Ins)]:List Ins) h_ sl_33 ti_32 rfl rfl rfl (by decide) rfl (by kernel_rfl) rfl (fun q hq w h=>Flat.inner _ _) (fun q hq b hb=>(Flat.on _ _ hb).elim) rfl rfl) rfl fun v14=>gE1 (fun _ _ h_=>x_litD (E:=0) (x:=(⟨v14, [(⟨9,0,0,0⟩:Ins)]⟩:Ls Ins)) h_ sl_22 ti_33 rfl rfl rfl ((h_.sh.own 0 rfl)) (fun b hb=>(own_on (h_.sh.ok _ (List.mem_of_getElem? (i:=0) rfl)) hb).elim (fun h=>h) (fun h=>Flat.noRd h)) (fun b hb=>Flat.noRd hb) rfl rfl) rfl fun v15=>gE1 (fun _ _ h_=>x_lit (n:=1) (cs:= [.int .i64 0]) ([0]:List Int) h_ sl_23 ti_3 rfl rfl rfl (by decide) rfl (by kernel_rfl) rfl (fun q hq w h=>Flat.inner _ _) (fun q hq b hb=>(Flat.on _ _ hb).elim) rfl rfl) rfl fun v16=>gRn (oV (r_buildS (cs:= [v15,v16, .int .i64 0, .int .i64 1]) rfl rfl (fun w h=>by obtain ⟨A18,n18,c18,(e18:v16=_)⟩:=((h.own 0 rfl)).form;rw [e18];obtain ⟨A17,n17,c17,(e17:v15=_)⟩:=((h.deep 1 rfl)).form;rw [e17];kernel_rfl)) rfl<|.nl)<|fun a20 w20 h20=> ?_;clear h10
 refine wl_ex (x_call h20 bd_22 rfl rfl rfl rfl rfl (fullT (⟨v15, [(⟨v14, [(⟨9,0,0,0⟩:Ins)]⟩:Ls Ins)]⟩:Ls (Ls Ins)) (⟨v16, [0]⟩:Ls Int) _ (h20.sh.deep 1 rfl) (h20.sh.own 0 rfl) rfl rfl)) (wanted_none rfl _) ?_
 rintro a21 w21 ⟨_,⟨c21,u21,rfl,⟨hfl21,hfm21⟩,hs21⟩,hf21⟩
 have h21:=(⟨hf21,h20.sh.call hs21 (by intro A hA b hb;simp only [List.mem_cons,List.not_mem_nil,or_false] at hA;first|(subst hA;exact Flat.noRd hb)|(rcases hA with rfl|rfl<;>first|exact (hb:False).elim|exact Flat.noRd hb|exact .inl (hb:_)))⟩:St 54 (fun _=>False) W a21 w21 _ _)
 clear hf21 hs21
 clear h20
 refine gG h21<|gRn (oM 1 rfl<|oxt rfl<|oxt rfl<|.nl)<|gal ti_25 rfl fun b22=>gal ti_28 rfl fun b23=>gE (fun _ _ h_=>x_stb (i:=1) (vs:= [c21.v,u21.v, .int .i64 0, .int .i64 1]) (cs' := [c21.v,u21.v, .int .i64 0, .int .i64 1]) h_ ti_25 rfl rfl rfl rfl rfl rfl rfl (allOne_cons ((h_.sh.deep 2 rfl)).one (allOne_cons ((h_.sh.own 3 rfl)).one (allOne_cons rfl (allOne_cons rfl allOne_nil)))) (Nat.le_of_ble_eq_true rfl) rfl) rfl<|gsw 0 ti_28 rfl rfl rfl<|nK k13<|gK fun _ k26=>sK fun _ k27=>gNl (aD 2 rfl) fun hl28=>gNl (fun w h=>((h.deep 2 rfl).nth 0 (show 0<c21.l.length from (by omega)))) fun (hl29:((nth c21.l 0).l).length≤140737488355328)=>gRn (ofB fl_28_0 rfl<|olB 0 ti_26 rfl rfl<|oneN 0 0 rfl<|oM 1 rfl<|oG (by decide) (r_fieldB (r:=0) fl_25_0 rfl rfl rfl) rfl<|oG (by decide) (r_ldb (i:=1) ti_22 rfl rfl rfl rfl) rfl<|oG (by decide) (r_len (s:=c21) (n:=c21.l.length) sl_22 rfl rfl (fun w h=>(h.deep 2 rfl)) rfl) rfl<|oG (by decide) (r_neqN (p:=c21.l.length) (q:=1) rfl rfl rfl) rfl<|opF (by decide) rfl<|oM 1 rfl<|oG (decide_eq_false (by omega)) (r_fieldB (r:=0) fl_25_0 rfl rfl rfl) rfl<|oG (decide_eq_false (by omega)) (r_ldb (i:=1) ti_22 rfl rfl rfl rfl) rfl<|oG (decide_eq_false (by omega)) (r_ixN (s:=c21) (q:=0) sl_22 ti_33 rfl rfl rfl (fun w h=>(h.deep 2 rfl)) (show 0<c21.l.length from om9)) rfl<|oG (decide_eq_false (by omega)) (r_lde (s:=c21) (i:=0) (v:=(nth c21.l 0).v) ti_33 rfl rfl rfl (fun w h=>(h.deep 2 rfl)) (show 0<c21.l.length from om9) (Nat.le_of_ble_eq_true rfl) rfl) rfl<|oG (decide_eq_false (by omega)) (r_len (s:=nth c21.l 0) (n:=((nth c21.l 0).l).length) sl_33 rfl rfl (fun w h=>((h.deep 2 rfl).nth 0 (show 0<c21.l.length from om9))) rfl) rfl<|oG (decide_eq_false (by omega)) (r_neqN (p:=((nth c21.l 0).l).length) (q:=2) rfl rfl rfl) rfl<|opF (decide_eq_false (by omega)) rfl<|.nl)<|nK k27<|gF [1,3,4,32] rfl<|gcF rfl (decide_eq_false (by omega))<|gS<|hK k26<|gK fun _ k30=>sK fun _ k31=>gRn (olw 6 ti_25 rfl rfl<|.nl)<|fun a33 w33 h33=>wl_ex (x_call h33 bd_17 rfl rfl rfl rfl rfl (tvast_c code words locks regs _ (h33.sh.at 7 rfl) (h33.sh.at 8 rfl))) (wanted_none rfl _) ?_;clear h21
 rintro a34 w34 ⟨_,⟨rfl,hs34⟩,hf34⟩
 have h34:St 54 (fun _=>False) W a34 w34 _ _:=⟨hf34,h33.sh.call0 hs34⟩
 clear hf34 hs34
 clear h33
 refine gG h34<|nK k31<|gcT rfl hv<|sG (oM 1 rfl<|.nl)<|gR<|uT<|fun a36 w36 h36=>x_ret1 (fn:=Tryz.f5) (t:=2) rfl h36 rfl ?_;clear h34
 exact ⟨rfl,(h36.sh.sel [] rfl)⟩
theorem topFenced_b (code:Ls (Ls Ins))(words:Ls Int)(locks regs:Int)(W:World)(hcode:code.At W)(hwords:words.At W)(hv:vastG (code.l.map (·.l)) words.l=false)(hz:(checkG (pgOf code words locks regs)).code≠0):
    Rets Tryz.prog 5 [.agg #[code.v,words.v, .int .i64 locks, .int .i64 regs]] W (fun v w' =>v= .bool true∧Sh0 W w' []):=by
 refine gen Tryz.func5 Tryz.ntmps5 (Sh0.ext2 hcode hwords:Sh (fun _=>False) W W [.at_ code, .at_ words]) rfl fun a10 h10=>gG h10<|sK fun _ k11=>gbx rfl rfl fun b12=>gRn (oM 1 rfl<|.nl)<|nK k11<|sK fun _ k13=>gRn (oV (r_build (cs:= [.int .i64 9, .int .i64 0, .int .i64 0, .int .i64 0]) rfl rfl (by kernel_rfl)) rfl<|.nl)<|gE1 (fun _ _ h_=>x_lit (n:=1) (cs:= [.int .i64 9, .int .i64 0, .int .i64 0, .int .i64 0]) ([(⟨9,0,0,0⟩:Ins)]:List Ins) h_ sl_33 ti_32 rfl rfl rfl (by decide) rfl (by kernel_rfl) rfl (fun q hq w h=>Flat.inner _ _) (fun q hq b hb=>(Flat.on _ _ hb).elim) rfl rfl) rfl fun v14=>gE1 (fun _ _ h_=>x_litD (E:=0) (x:=(⟨v14, [(⟨9,0,0,0⟩:Ins)]⟩:Ls Ins)) h_ sl_22 ti_33 rfl rfl rfl ((h_.sh.own 0 rfl)) (fun b hb=>(own_on (h_.sh.ok _ (List.mem_of_getElem? (i:=0) rfl)) hb).elim (fun h=>h) (fun h=>Flat.noRd h)) (fun b hb=>Flat.noRd hb) rfl rfl) rfl fun v15=>gE1 (fun _ _ h_=>x_lit (n:=1) (cs:= [.int .i64 0]) ([0]:List Int) h_ sl_23 ti_3 rfl rfl rfl (by decide) rfl (by kernel_rfl) rfl (fun q hq w h=>Flat.inner _ _) (fun q hq b hb=>(Flat.on _ _ hb).elim) rfl rfl) rfl fun v16=>gRn (oV (r_buildS (cs:= [v15,v16, .int .i64 0, .int .i64 1]) rfl rfl (fun w h=>by obtain ⟨A18,n18,c18,(e18:v16=_)⟩:=((h.own 0 rfl)).form;rw [e18];obtain ⟨A17,n17,c17,(e17:v15=_)⟩:=((h.deep 1 rfl)).form;rw [e17];kernel_rfl)) rfl<|.nl)<|fun a20 w20 h20=> ?_;clear h10
 refine wl_ex (x_call h20 bd_22 rfl rfl rfl rfl rfl (fullT (⟨v15, [(⟨v14, [(⟨9,0,0,0⟩:Ins)]⟩:Ls Ins)]⟩:Ls (Ls Ins)) (⟨v16, [0]⟩:Ls Int) _ (h20.sh.deep 1 rfl) (h20.sh.own 0 rfl) rfl rfl)) (wanted_none rfl _) ?_
 rintro a21 w21 ⟨_,⟨c21,u21,rfl,⟨hfl21,hfm21⟩,hs21⟩,hf21⟩
 have h21:=(⟨hf21,h20.sh.call hs21 (by intro A hA b hb;simp only [List.mem_cons,List.not_mem_nil,or_false] at hA;first|(subst hA;exact Flat.noRd hb)|(rcases hA with rfl|rfl<;>first|exact (hb:False).elim|exact Flat.noRd hb|exact .inl (hb:_)))⟩:St 54 (fun _=>False) W a21 w21 _ _)
 clear hf21 hs21
 clear h20
 refine gG h21<|gRn (oM 1 rfl<|oxt rfl<|oxt rfl<|.nl)<|gal ti_25 rfl fun b22=>gal ti_28 rfl fun b23=>gE (fun _ _ h_=>x_stb (i:=1) (vs:= [c21.v,u21.v, .int .i64 0, .int .i64 1]) (cs' := [c21.v,u21.v, .int .i64 0, .int .i64 1]) h_ ti_25 rfl rfl rfl rfl rfl rfl rfl (allOne_cons ((h_.sh.deep 2 rfl)).one (allOne_cons ((h_.sh.own 3 rfl)).one (allOne_cons rfl (allOne_cons rfl allOne_nil)))) (Nat.le_of_ble_eq_true rfl) rfl) rfl<|gsw 0 ti_28 rfl rfl rfl<|nK k13<|gK fun _ k26=>sK fun _ k27=>gNl (aD 2 rfl) fun hl28=>gNl (fun w h=>((h.deep 2 rfl).nth 0 (show 0<c21.l.length from (by omega)))) fun (hl29:((nth c21.l 0).l).length≤140737488355328)=>gRn (ofB fl_28_0 rfl<|olB 0 ti_26 rfl rfl<|oneN 0 0 rfl<|oM 1 rfl<|oG (by decide) (r_fieldB (r:=0) fl_25_0 rfl rfl rfl) rfl<|oG (by decide) (r_ldb (i:=1) ti_22 rfl rfl rfl rfl) rfl<|oG (by decide) (r_len (s:=c21) (n:=c21.l.length) sl_22 rfl rfl (fun w h=>(h.deep 2 rfl)) rfl) rfl<|oG (by decide) (r_neqN (p:=c21.l.length) (q:=1) rfl rfl rfl) rfl<|opF (by decide) rfl<|oM 1 rfl<|oG (decide_eq_false (by omega)) (r_fieldB (r:=0) fl_25_0 rfl rfl rfl) rfl<|oG (decide_eq_false (by omega)) (r_ldb (i:=1) ti_22 rfl rfl rfl rfl) rfl<|oG (decide_eq_false (by omega)) (r_ixN (s:=c21) (q:=0) sl_22 ti_33 rfl rfl rfl (fun w h=>(h.deep 2 rfl)) (show 0<c21.l.length from om9)) rfl<|oG (decide_eq_false (by omega)) (r_lde (s:=c21) (i:=0) (v:=(nth c21.l 0).v) ti_33 rfl rfl rfl (fun w h=>(h.deep 2 rfl)) (show 0<c21.l.length from om9) (Nat.le_of_ble_eq_true rfl) rfl) rfl<|oG (decide_eq_false (by omega)) (r_len (s:=nth c21.l 0) (n:=((nth c21.l 0).l).length) sl_33 rfl rfl (fun w h=>((h.deep 2 rfl).nth 0 (show 0<c21.l.length from om9))) rfl) rfl<|oG (decide_eq_false (by omega)) (r_neqN (p:=((nth c21.l 0).l).length) (q:=2) rfl rfl rfl) rfl<|opF (decide_eq_false (by omega)) rfl<|.nl)<|nK k27<|gF [1,3,4,32] rfl<|gcF rfl (decide_eq_false (by omega))<|gS<|hK k26<|gK fun _ k30=>sK fun _ k31=>gRn (olw 6 ti_25 rfl rfl<|.nl)<|fun a33 w33 h33=>wl_ex (x_call h33 bd_17 rfl rfl rfl rfl rfl (tvast_c code words locks regs _ (h33.sh.at 7 rfl) (h33.sh.at 8 rfl))) (wanted_none rfl _) ?_;clear h21
 rintro a34 w34 ⟨_,⟨rfl,hs34⟩,hf34⟩
 have h34:St 54 (fun _=>False) W a34 w34 _ _:=⟨hf34,h33.sh.call0 hs34⟩
 clear hf34 hs34
 clear h33
 refine gG h34<|nK k31<|gcF rfl hv<|gS<|hK k30<|sK fun _ k35=>gRn (olw 6 ti_25 rfl rfl<|.nl)<|fun a37 w37 h37=>wl_ex (x_call h37 bd_22 rfl rfl rfl rfl rfl (full_b code words locks regs _ (h37.sh.at 7 rfl) (h37.sh.at 8 rfl) hz)) (wanted_none rfl _) ?_;clear h34
 rintro a38 w38 ⟨_,⟨rfl,hs38⟩,hf38⟩
 have h38:St 54 (fun _=>False) W a38 w38 _ _:=⟨hf38,h37.sh.call0 hs38⟩
 clear hf38 hs38
 clear h37
 refine gG h38<|gRn (oM 1 rfl<|oxt rfl<|oxt rfl<|.nl)<|gE (fun _ _ h_=>x_stb (i:=1) (vs:= [(.slice none 0 0),(.slice none 0 0), .int .i64 0, .int .i64 0]) (cs' := [(.slice none 0 0),(.slice none 0 0), .int .i64 0, .int .i64 0]) h_ ti_25 rfl rfl rfl rfl rfl rfl rfl (allOne_cons ((Sh.nilAt (α:=Ls Ins) h_.sh)).one (allOne_cons ((Sh.nilAt (α:=Int) h_.sh)).one (allOne_cons rfl (allOne_cons rfl allOne_nil)))) (Nat.le_of_ble_eq_true rfl) rfl) rfl<|gsw 0 ti_28 rfl rfl rfl<|nK k35<|gK fun _ k41=>sG (ofB fl_28_0 rfl<|olB 0 ti_26 rfl rfl<|oneI _ _ rfl<|.nl)<|gcT rfl (decide_eq_true hz)<|sG (oM 1 rfl<|.nl)<|gR<|uT<|fun a44 w44 h44=>x_ret1 (fn:=Tryz.f5) (t:=2) rfl h44 rfl ?_;clear h38
 exact ⟨rfl,(h44.sh.sel [] rfl)⟩
theorem topFenced_k (code:Ls (Ls Ins))(words:Ls Int)(Lk R:Nat)(W:World)(hcode:code.At W)(hwords:words.At W)(hv:vastG (code.l.map (·.l)) words.l=false)(hok:OkPg (pgN code words Lk R))(hR:PgR (pgN code words Lk R))(hshort:∀j,j<code.l.length→(withL (fulW code j) (nth code.l j).l).length≤400):
    Rets Tryz.prog 5 [.agg #[code.v,words.v, .int .i64 ((Lk:Nat):Int), .int .i64 ((R:Nat):Int)]] W (fun v w' =>v= .bool true∧Sh0 W w' []):=by
 refine gen Tryz.func5 Tryz.ntmps5 (Sh0.ext2 hcode hwords:Sh (fun _=>False) W W [.at_ code, .at_ words]) rfl fun a10 h10=>gG h10<|sK fun _ k11=>gbx rfl rfl fun b12=>gRn (oM 1 rfl<|.nl)<|nK k11<|sK fun _ k13=>gRn (oV (r_build (cs:= [.int .i64 9, .int .i64 0, .int .i64 0, .int .i64 0]) rfl rfl (by kernel_rfl)) rfl<|.nl)<|gE1 (fun _ _ h_=>x_lit (n:=1) (cs:= [.int .i64 9, .int .i64 0, .int .i64 0, .int .i64 0]) ([(⟨9,0,0,0⟩:Ins)]:List Ins) h_ sl_33 ti_32 rfl rfl rfl (by decide) rfl (by kernel_rfl) rfl (fun q hq w h=>Flat.inner _ _) (fun q hq b hb=>(Flat.on _ _ hb).elim) rfl rfl) rfl fun v14=>gE1 (fun _ _ h_=>x_litD (E:=0) (x:=(⟨v14, [(⟨9,0,0,0⟩:Ins)]⟩:Ls Ins)) h_ sl_22 ti_33 rfl rfl rfl ((h_.sh.own 0 rfl)) (fun b hb=>(own_on (h_.sh.ok _ (List.mem_of_getElem? (i:=0) rfl)) hb).elim (fun h=>h) (fun h=>Flat.noRd h)) (fun b hb=>Flat.noRd hb) rfl rfl) rfl fun v15=>gE1 (fun _ _ h_=>x_lit (n:=1) (cs:= [.int .i64 0]) ([0]:List Int) h_ sl_23 ti_3 rfl rfl rfl (by decide) rfl (by kernel_rfl) rfl (fun q hq w h=>Flat.inner _ _) (fun q hq b hb=>(Flat.on _ _ hb).elim) rfl rfl) rfl fun v16=>gRn (oV (r_buildS (cs:= [v15,v16, .int .i64 0, .int .i64 1]) rfl rfl (fun w h=>by obtain ⟨A18,n18,c18,(e18:v16=_)⟩:=((h.own 0 rfl)).form;rw [e18];obtain ⟨A17,n17,c17,(e17:v15=_)⟩:=((h.deep 1 rfl)).form;rw [e17];kernel_rfl)) rfl<|.nl)<|fun a20 w20 h20=> ?_;clear h10
 refine wl_ex (x_call h20 bd_22 rfl rfl rfl rfl rfl (fullT (⟨v15, [(⟨v14, [(⟨9,0,0,0⟩:Ins)]⟩:Ls Ins)]⟩:Ls (Ls Ins)) (⟨v16, [0]⟩:Ls Int) _ (h20.sh.deep 1 rfl) (h20.sh.own 0 rfl) rfl rfl)) (wanted_none rfl _) ?_
 rintro a21 w21 ⟨_,⟨c21,u21,rfl,⟨hfl21,hfm21⟩,hs21⟩,hf21⟩
 have h21:=(⟨hf21,h20.sh.call hs21 (by intro A hA b hb;simp only [List.mem_cons,List.not_mem_nil,or_false] at hA;first|(subst hA;exact Flat.noRd hb)|(rcases hA with rfl|rfl<;>first|exact (hb:False).elim|exact Flat.noRd hb|exact .inl (hb:_)))⟩:St 54 (fun _=>False) W a21 w21 _ _)
 clear hf21 hs21
 clear h20
 refine gG h21<|gRn (oM 1 rfl<|oxt rfl<|oxt rfl<|.nl)<|gal ti_25 rfl fun b22=>gal ti_28 rfl fun b23=>gE (fun _ _ h_=>x_stb (i:=1) (vs:= [c21.v,u21.v, .int .i64 0, .int .i64 1]) (cs' := [c21.v,u21.v, .int .i64 0, .int .i64 1]) h_ ti_25 rfl rfl rfl rfl rfl rfl rfl (allOne_cons ((h_.sh.deep 2 rfl)).one (allOne_cons ((h_.sh.own 3 rfl)).one (allOne_cons rfl (allOne_cons rfl allOne_nil)))) (Nat.le_of_ble_eq_true rfl) rfl) rfl<|gsw 0 ti_28 rfl rfl rfl<|nK k13<|gK fun _ k26=>sK fun _ k27=>gNl (aD 2 rfl) fun hl28=>gNl (fun w h=>((h.deep 2 rfl).nth 0 (show 0<c21.l.length from (by omega)))) fun (hl29:((nth c21.l 0).l).length≤140737488355328)=>gRn (ofB fl_28_0 rfl<|olB 0 ti_26 rfl rfl<|oneN 0 0 rfl<|oM 1 rfl<|oG (by decide) (r_fieldB (r:=0) fl_25_0 rfl rfl rfl) rfl<|oG (by decide) (r_ldb (i:=1) ti_22 rfl rfl rfl rfl) rfl<|oG (by decide) (r_len (s:=c21) (n:=c21.l.length) sl_22 rfl rfl (fun w h=>(h.deep 2 rfl)) rfl) rfl<|oG (by decide) (r_neqN (p:=c21.l.length) (q:=1) rfl rfl rfl) rfl<|opF (by decide) rfl<|oM 1 rfl<|oG (decide_eq_false (by omega)) (r_fieldB (r:=0) fl_25_0 rfl rfl rfl) rfl<|oG (decide_eq_false (by omega)) (r_ldb (i:=1) ti_22 rfl rfl rfl rfl) rfl<|oG (decide_eq_false (by omega)) (r_ixN (s:=c21) (q:=0) sl_22 ti_33 rfl rfl rfl (fun w h=>(h.deep 2 rfl)) (show 0<c21.l.length from om9)) rfl<|oG (decide_eq_false (by omega)) (r_lde (s:=c21) (i:=0) (v:=(nth c21.l 0).v) ti_33 rfl rfl rfl (fun w h=>(h.deep 2 rfl)) (show 0<c21.l.length from om9) (Nat.le_of_ble_eq_true rfl) rfl) rfl<|oG (decide_eq_false (by omega)) (r_len (s:=nth c21.l 0) (n:=((nth c21.l 0).l).length) sl_33 rfl rfl (fun w h=>((h.deep 2 rfl).nth 0 (show 0<c21.l.length from om9))) rfl) rfl<|oG (decide_eq_false (by omega)) (r_neqN (p:=((nth c21.l 0).l).length) (q:=2) rfl rfl rfl) rfl<|opF (decide_eq_false (by omega)) rfl<|.nl)<|nK k27<|gF [1,3,4,32] rfl<|gcF rfl (decide_eq_false (by omega))<|gS<|hK k26<|gK fun _ k30=>sK fun _ k31=>gRn (olw 6 ti_25 rfl rfl<|.nl)<|fun a33 w33 h33=>wl_ex (x_call h33 bd_17 rfl rfl rfl rfl rfl (tvast_c code words ((Lk:Nat):Int) ((R:Nat):Int) _ (h33.sh.at 7 rfl) (h33.sh.at 8 rfl))) (wanted_none rfl _) ?_;clear h21
 rintro a34 w34 ⟨_,⟨rfl,hs34⟩,hf34⟩
 have h34:St 54 (fun _=>False) W a34 w34 _ _:=⟨hf34,h33.sh.call0 hs34⟩
 clear hf34 hs34
 clear h33
 refine gG h34<|nK k31<|gcF rfl hv<|gS<|hK k30<|sK fun _ k35=>gRn (olw 6 ti_25 rfl rfl<|.nl)<|fun a37 w37 h37=>wl_ex (x_call h37 bd_22 rfl rfl rfl rfl rfl (full_k code words ((Lk:Nat):Int) ((R:Nat):Int) _ (h37.sh.at 7 rfl) (h37.sh.at 8 rfl) hok hshort)) (wanted_none rfl _) ?_;clear h34
 rintro a38 w38 ⟨_,⟨c38,u38,rfl,hq38,hu38,hs38⟩,hf38⟩
 have hfb38:=fence_rob hok hR hshort hq38 hu38
 have h38:=(⟨hf38,h37.sh.call hs38 (by intro A hA b hb;simp only [List.mem_cons,List.not_mem_nil,or_false] at hA;first|(subst hA;exact Flat.noRd hb)|(rcases hA with rfl|rfl<;>first|exact (hb:False).elim|exact Flat.noRd hb|exact .inl (hb:_)))⟩:St 54 (fun _=>False) W a38 w38 _ _)
 clear hf38 hs38
 clear h37
 refine gG h38<|gRn (oM 1 rfl<|oxt rfl<|oxt rfl<|.nl)<|gE (fun _ _ h_=>x_stb (i:=3) (vs:= [c38.v,u38.v, .int .i64 ((Lk:Nat):Int), .int .i64 ((R:Nat):Int)]) (cs' := [c38.v,u38.v, .int .i64 ((Lk:Nat):Int), .int .i64 ((R:Nat):Int)]) h_ ti_25 rfl rfl rfl rfl rfl rfl rfl (allOne_cons ((h_.sh.deep 0 rfl)).one (allOne_cons ((h_.sh.own 1 rfl)).one (allOne_cons rfl (allOne_cons rfl allOne_nil)))) (Nat.le_of_ble_eq_true rfl) rfl) rfl<|gsw 2 ti_28 rfl rfl rfl<|nK k35<|gK fun _ k41=>sG (ofB fl_28_0 rfl<|olB 2 ti_26 rfl rfl<|oneN 0 0 rfl<|.nl)<|gcF rfl (by decide)<|gS<|hK k41<|sK fun _ k43=>gRn (olw 3 ti_25 rfl rfl<|.nl)<|fun a45 w45 h45=>wl_ex (x_call h45 bd_21 rfl rfl rfl rfl rfl (rob_k c38 u38 Lk R _ (h45.sh.deep 0 rfl) (h45.sh.own 1 rfl) hfb38.1 hfb38.2.1)) (wanted_none rfl _) ?_;clear h38
 rintro a46 w46 ⟨_,⟨rb46,rk46,rfl,hrob46,hs46⟩,hf46⟩
 have h46:St 54 (fun _=>False) W a46 w46 _ _:=⟨hf46,h45.sh.call0 hs46⟩
 clear hf46 hs46
 clear h45
 refine gG h46<|gRn (oM 1 rfl<|oxt rfl<|oxt rfl<|.nl)<|gal ti_28 rfl fun b47=>gRn (oM 1 rfl<|.nl)<|gsw 0 ti_28 rfl rfl rfl<|nK k43<|sK fun _ k49=>gRn (ofB fl_28_0 rfl<|olB 0 ti_26 rfl rfl<|oneI _ _ rfl<|oM 1 rfl<|.nl)<|?_;clear h46
 rcases dsp ((if rk46=true then (0:Int) else 10)≠0) with ⟨hb50,hp50⟩|⟨hb50,hp50⟩
 ·skip
  refine gRn (oK hb50 rfl<|opT hb50 rfl<|oM 1 rfl<|.nl)<|nK k49<|gF [2] rfl<|gR<|fun a51 w51 h51=>x_ret1 (fn:=Tryz.f5) (t:=2) rfl h51 rfl<|⟨?_,(h51.sh.sel [] rfl)⟩
  first|rfl|(have h9:=cd_ok (b:=rk46) (by assumption);exact congrArg _ ((hrob46.yes h9).2.2.2 hfb38.2.2))
 refine gRn (oG hb50 (r_move rfl rfl) rfl<|opF hb50 rfl<|oM 1 rfl<|.nl)<|nK k49<|gF [2] rfl<|gR<|fun a52 w52 h52=>x_ret1 (fn:=Tryz.f5) (t:=2) rfl h52 rfl<|⟨?_,(h52.sh.sel [] rfl)⟩
 first|rfl|(have h9:=cd_ok (b:=rk46) (by assumption);exact congrArg _ ((hrob46.yes h9).2.2.2 hfb38.2.2))
theorem topFenced_l (code:Ls (Ls Ins))(words:Ls Int)(Lk R k:Nat)(W:World)(hcode:code.At W)(hwords:words.At W)(hv:vastG (code.l.map (·.l)) words.l=false)(hok:OkPg (pgN code words Lk R))(hR:PgR (pgN code words Lk R))(hk:k<code.l.length)(h400:400<(withL (fulW code k) (nth code.l k).l).length)(hbef:∀j,j<k→(withL (fulW code j) (nth code.l j).l).length≤400):
    Rets Tryz.prog 5 [.agg #[code.v,words.v, .int .i64 ((Lk:Nat):Int), .int .i64 ((R:Nat):Int)]] W (fun v w' =>v= .bool true∧Sh0 W w' []):=by
 refine gen Tryz.func5 Tryz.ntmps5 (Sh0.ext2 hcode hwords:Sh (fun _=>False) W W [.at_ code, .at_ words]) rfl fun a10 h10=>gG h10<|sK fun _ k11=>gbx rfl rfl fun b12=>gRn (oM 1 rfl<|.nl)<|nK k11<|sK fun _ k13=>gRn (oV (r_build (cs:= [.int .i64 9, .int .i64 0, .int .i64 0, .int .i64 0]) rfl rfl (by kernel_rfl)) rfl<|.nl)<|gE1 (fun _ _ h_=>x_lit (n:=1) (cs:= [.int .i64 9, .int .i64 0, .int .i64 0, .int .i64 0]) ([(⟨9,0,0,0⟩:Ins)]:List Ins) h_ sl_33 ti_32 rfl rfl rfl (by decide) rfl (by kernel_rfl) rfl (fun q hq w h=>Flat.inner _ _) (fun q hq b hb=>(Flat.on _ _ hb).elim) rfl rfl) rfl fun v14=>gE1 (fun _ _ h_=>x_litD (E:=0) (x:=(⟨v14, [(⟨9,0,0,0⟩:Ins)]⟩:Ls Ins)) h_ sl_22 ti_33 rfl rfl rfl ((h_.sh.own 0 rfl)) (fun b hb=>(own_on (h_.sh.ok _ (List.mem_of_getElem? (i:=0) rfl)) hb).elim (fun h=>h) (fun h=>Flat.noRd h)) (fun b hb=>Flat.noRd hb) rfl rfl) rfl fun v15=>gE1 (fun _ _ h_=>x_lit (n:=1) (cs:= [.int .i64 0]) ([0]:List Int) h_ sl_23 ti_3 rfl rfl rfl (by decide) rfl (by kernel_rfl) rfl (fun q hq w h=>Flat.inner _ _) (fun q hq b hb=>(Flat.on _ _ hb).elim) rfl rfl) rfl fun v16=>gRn (oV (r_buildS (cs:= [v15,v16, .int .i64 0, .int .i64 1]) rfl rfl (fun w h=>by obtain ⟨A18,n18,c18,(e18:v16=_)⟩:=((h.own 0 rfl)).form;rw [e18];obtain ⟨A17,n17,c17,(e17:v15=_)⟩:=((h.deep 1 rfl)).form;rw [e17];kernel_rfl)) rfl<|.nl)<|fun a20 w20 h20=> ?_;clear h10
 refine wl_ex (x_call h20 bd_22 rfl rfl rfl rfl rfl (fullT (⟨v15, [(⟨v14, [(⟨9,0,0,0⟩:Ins)]⟩:Ls Ins)]⟩:Ls (Ls Ins)) (⟨v16, [0]⟩:Ls Int) _ (h20.sh.deep 1 rfl) (h20.sh.own 0 rfl) rfl rfl)) (wanted_none rfl _) ?_
 rintro a21 w21 ⟨_,⟨c21,u21,rfl,⟨hfl21,hfm21⟩,hs21⟩,hf21⟩
 have h21:=(⟨hf21,h20.sh.call hs21 (by intro A hA b hb;simp only [List.mem_cons,List.not_mem_nil,or_false] at hA;first|(subst hA;exact Flat.noRd hb)|(rcases hA with rfl|rfl<;>first|exact (hb:False).elim|exact Flat.noRd hb|exact .inl (hb:_)))⟩:St 54 (fun _=>False) W a21 w21 _ _)
 clear hf21 hs21
 clear h20
 refine gG h21<|gRn (oM 1 rfl<|oxt rfl<|oxt rfl<|.nl)<|gal ti_25 rfl fun b22=>gal ti_28 rfl fun b23=>gE (fun _ _ h_=>x_stb (i:=1) (vs:= [c21.v,u21.v, .int .i64 0, .int .i64 1]) (cs' := [c21.v,u21.v, .int .i64 0, .int .i64 1]) h_ ti_25 rfl rfl rfl rfl rfl rfl rfl (allOne_cons ((h_.sh.deep 2 rfl)).one (allOne_cons ((h_.sh.own 3 rfl)).one (allOne_cons rfl (allOne_cons rfl allOne_nil)))) (Nat.le_of_ble_eq_true rfl) rfl) rfl<|gsw 0 ti_28 rfl rfl rfl<|nK k13<|gK fun _ k26=>sK fun _ k27=>gNl (aD 2 rfl) fun hl28=>gNl (fun w h=>((h.deep 2 rfl).nth 0 (show 0<c21.l.length from (by omega)))) fun (hl29:((nth c21.l 0).l).length≤140737488355328)=>gRn (ofB fl_28_0 rfl<|olB 0 ti_26 rfl rfl<|oneN 0 0 rfl<|oM 1 rfl<|oG (by decide) (r_fieldB (r:=0) fl_25_0 rfl rfl rfl) rfl<|oG (by decide) (r_ldb (i:=1) ti_22 rfl rfl rfl rfl) rfl<|oG (by decide) (r_len (s:=c21) (n:=c21.l.length) sl_22 rfl rfl (fun w h=>(h.deep 2 rfl)) rfl) rfl<|oG (by decide) (r_neqN (p:=c21.l.length) (q:=1) rfl rfl rfl) rfl<|opF (by decide) rfl<|oM 1 rfl<|oG (decide_eq_false (by omega)) (r_fieldB (r:=0) fl_25_0 rfl rfl rfl) rfl<|oG (decide_eq_false (by omega)) (r_ldb (i:=1) ti_22 rfl rfl rfl rfl) rfl<|oG (decide_eq_false (by omega)) (r_ixN (s:=c21) (q:=0) sl_22 ti_33 rfl rfl rfl (fun w h=>(h.deep 2 rfl)) (show 0<c21.l.length from om9)) rfl<|oG (decide_eq_false (by omega)) (r_lde (s:=c21) (i:=0) (v:=(nth c21.l 0).v) ti_33 rfl rfl rfl (fun w h=>(h.deep 2 rfl)) (show 0<c21.l.length from om9) (Nat.le_of_ble_eq_true rfl) rfl) rfl<|oG (decide_eq_false (by omega)) (r_len (s:=nth c21.l 0) (n:=((nth c21.l 0).l).length) sl_33 rfl rfl (fun w h=>((h.deep 2 rfl).nth 0 (show 0<c21.l.length from om9))) rfl) rfl<|oG (decide_eq_false (by omega)) (r_neqN (p:=((nth c21.l 0).l).length) (q:=2) rfl rfl rfl) rfl<|opF (decide_eq_false (by omega)) rfl<|.nl)<|nK k27<|gF [1,3,4,32] rfl<|gcF rfl (decide_eq_false (by omega))<|gS<|hK k26<|gK fun _ k30=>sK fun _ k31=>gRn (olw 6 ti_25 rfl rfl<|.nl)<|fun a33 w33 h33=>wl_ex (x_call h33 bd_17 rfl rfl rfl rfl rfl (tvast_c code words ((Lk:Nat):Int) ((R:Nat):Int) _ (h33.sh.at 7 rfl) (h33.sh.at 8 rfl))) (wanted_none rfl _) ?_;clear h21
 rintro a34 w34 ⟨_,⟨rfl,hs34⟩,hf34⟩
 have h34:St 54 (fun _=>False) W a34 w34 _ _:=⟨hf34,h33.sh.call0 hs34⟩
 clear hf34 hs34
 clear h33
 refine gG h34<|nK k31<|gcF rfl hv<|gS<|hK k30<|sK fun _ k35=>gRn (olw 6 ti_25 rfl rfl<|.nl)<|fun a37 w37 h37=>wl_ex (x_call h37 bd_22 rfl rfl rfl rfl rfl (full_l code words ((Lk:Nat):Int) ((R:Nat):Int) k _ (h37.sh.at 7 rfl) (h37.sh.at 8 rfl) hok hk h400 hbef)) (wanted_none rfl _) ?_;clear h34
 rintro a38 w38 ⟨_,⟨rfl,hs38⟩,hf38⟩
 have h38:St 54 (fun _=>False) W a38 w38 _ _:=⟨hf38,h37.sh.call0 hs38⟩
 clear hf38 hs38
 clear h37
 refine gG h38<|gRn (oM 1 rfl<|oxt rfl<|oxt rfl<|.nl)<|gE (fun _ _ h_=>x_stb (i:=1) (vs:= [(.slice none 0 0),(.slice none 0 0), .int .i64 0, .int .i64 0]) (cs' := [(.slice none 0 0),(.slice none 0 0), .int .i64 0, .int .i64 0]) h_ ti_25 rfl rfl rfl rfl rfl rfl rfl (allOne_cons ((Sh.nilAt (α:=Ls Ins) h_.sh)).one (allOne_cons ((Sh.nilAt (α:=Int) h_.sh)).one (allOne_cons rfl (allOne_cons rfl allOne_nil)))) (Nat.le_of_ble_eq_true rfl) rfl) rfl<|gsw 0 ti_28 rfl rfl rfl<|nK k35<|gK fun _ k41=>sG (ofB fl_28_0 rfl<|olB 0 ti_26 rfl rfl<|oneN 1 0 rfl<|.nl)<|gcT rfl (by decide)<|sG (oM 1 rfl<|.nl)<|gR<|uT<|fun a44 w44 h44=>x_ret1 (fn:=Tryz.f5) (t:=2) rfl h44 rfl ?_;clear h38
 exact ⟨rfl,(h44.sh.sel [] rfl)⟩
theorem topFenced_any (code:Ls (Ls Ins))(words:Ls Int)(locks regs:Int)(W:World)(hcode:code.At W)(hwords:words.At W)(hR:PgR (pgOf code words locks regs)):Rets Tryz.prog 5 [.agg #[code.v,words.v, .int .i64 locks, .int .i64 regs]] W (fun v w' =>v= .bool true∧Sh0 W w' []):=by
 cases hv:vastG (code.l.map (·.l)) words.l with
 |true=>exact topFenced_v code words locks regs W hcode hwords hv
 |false=>
  by_cases hok:OkPg (pgOf code words locks regs)
  ·obtain ⟨Lk,rfl⟩:=Int.eq_ofNat_of_zero_le hok.locks.1
   obtain ⟨R,rfl⟩:=Int.eq_ofNat_of_zero_le (show 0≤regs by have:=hok.regs.1;have e:(pgOf code words (Lk:Int) regs).regs=regs:=rfl;omega)
   by_cases hsh:∀j,j<code.l.length→(withL (fulW code j) (nth code.l j).l).length≤400
   ·exact topFenced_k code words Lk R W hcode hwords hv hok hR hsh
   ·have least:∀n,(∃k,k<n∧k<code.l.length∧400<(withL (fulW code k) (nth code.l k).l).length)→∃k,k<code.l.length∧400<(withL (fulW code k) (nth code.l k).l).length∧∀j,j<k→(withL (fulW code j) (nth code.l j).l).length≤400:=by
     intro n
     induction n with
     |zero=>rintro ⟨k,hk,_⟩;omega
     |succ n ih=>
      rintro ⟨k,hk,h1,h2⟩
      by_cases hb:∃j,j<k∧j<code.l.length∧400<(withL (fulW code j) (nth code.l j).l).length
      ·obtain ⟨j,hj,hj2⟩:=hb
       exact ih ⟨j,by omega,hj2⟩
      ·exact ⟨k,h1,h2,fun j hj=>Nat.le_of_not_lt fun h4=>hb ⟨j,hj,by omega,h4⟩⟩
    have hex:∃k,k<code.l.length∧400<(withL (fulW code k) (nth code.l k).l).length:=by
     apply Classical.byContradiction
     intro hn
     exact hsh fun j hj=>Nat.le_of_not_lt fun h4=>hn ⟨j,hj,h4⟩
    obtain ⟨k0,hk0⟩:=hex
    obtain ⟨k,hk,h4,hb⟩:=least (k0+1) ⟨k0,by omega,hk0⟩
    exact topFenced_l code words Lk R k W hcode hwords hv hok hR hk h4 hb
  ·exact topFenced_b code words locks regs W hcode hwords hv (fun h=>hok (checkG_code_pos.1 h))
end Go.Proofs.YtmjkobhkkjgplaaGreatDoor
namespace Go.Proofs.YtmjkobhkkjgplaaGreatDoor
open Go Go.ChangeShapes Go.WideShapes Go.ChangeAt Go.RowKit
set_option linter.unusedSimpArgs false
set_option linter.unusedVariables false
theorem wf64 {n:Int}(h:(Lit.int .i64 n).wf=true):R64 n:=by
 unfold Lit.wf at h
 simp only [Bool.and_eq_true,decide_eq_true_eq] at h
 have e1:IntKind.i64.min= -9223372036854775808:=by kernel_rfl
 have e2:IntKind.i64.max=9223372036854775807:=by kernel_rfl
 rw [e1,e2] at h
 unfold R64
 omega
theorem pr_fine {pr:PR}(h:pr.fine):PgR (pgOf (ofSl2 pr.code) (ofSl pr.words) pr.locks pr.regs):=by
 obtain ⟨h1,h2,_,_⟩:=h
 refine ⟨fun c hc i hi=> ?_,fun n hn=> ?_⟩
 ·obtain ⟨l,hl,rfl⟩:=List.mem_map.1 hc
  obtain ⟨s,hs,rfl⟩:=List.mem_map.1 hl
  obtain ⟨k,hk,rfl⟩:=List.mem_iff_getElem.1 hs
  have h3:=h1 k hk
  rw [nth_lt _ _ hk] at h3
  obtain ⟨q,hq,rfl⟩:=List.mem_iff_getElem.1 hi
  have h4:=h3 q hq
  have hq' :q<(pr.code.l[k]).l.length:=hq
  rw [nth_lt _ _ hq'] at h4
  exact ⟨wf64 h4.2.1,wf64 h4.2.2.1,wf64 h4.2.2.2⟩
 ·obtain ⟨k,hk,rfl⟩:=List.mem_iff_getElem.1 hn
  have hk' :k<pr.words.l.length:=hk
  have h3:=h2 k hk'
  rw [nth_lt _ _ hk'] at h3
  exact wf64 h3
theorem door_met (os:Os)(args:Array Value):laidMetH Tryz.prog Rows.topFencedRow.laid ((World.doorLaid Tryz.prog 24 os).forCall (fun _ _=>0) ⟨#[],args, []⟩).memory:=
 laidMetH_of_parts3 (fuel:=8) (laidMet_of_run' 8 (by kernel_rfl) (by kernel_rfl)) (by kernel_rfl) (by kernel_rfl)
set_option maxRecDepth 100000 in
theorem topFenced_lifted (os:Os)(started:os.Started)(H:Type)(enc:TypeId×Value→H):
  ReturnsInHanded {} Tryz.checked os 5 .any (fun w args=>(Rows.topFencedSpec.pre enc Tryz.prog Tryz.f5 [] false w args∧laidMetH Tryz.prog Rows.topFencedRow.laid w)∧sizedMet enc Tryz.prog Tryz.f5 (OpenSpec.ofChange Rows.topFencedSpec) false w args) (Rows.topFencedSpec.post enc Tryz.prog Tryz.f5 false true false false):=by
 refine returnsInHanded_of_change_and (C:=Tryz.checked) (X:=fun w _=>laidMetH Tryz.prog Rows.topFencedRow.laid w) (fun _ _ _ hh h=>h.of_heap hh) own started (by kernel_rfl) Tryz.func5
  (ChangeSpec.witness_shaped (enc:=enc) (C:=Tryz.checked) (os:=os) (X:=fun w _=>laidMetH Tryz.prog Rows.topFencedRow.laid w) false (World.doorLaid Tryz.prog 24 os) #[.agg #[.slice none 0 0, .slice none 0 0, .int .i64 0, .int .i64 0]] 8 rfl (World.shaped_of_RefB (by kernel_rfl) (by kernel_rfl)) (by kernel_rfl) (by kernel_rfl) (by kernel_rfl) (door_met os _)) ?_
 intro W base args ds gs before hval0 hW _ hsz0 _ _
 have hsz:(DataW.weightsEach Tryz.prog (Tryz.f5.params.toList++Rows.topFencedSpec.plain.varTypes Tryz.prog) (ds++gs)).all (· ≤reachBytes)=true:=hsz0
 have hval:∀(j:Nat) t v,Tryz.f5.params[j]? =some t→args[j]? =some v→Value.okWide Tryz.prog W .any base t v:=hval0
 have hW' :=hW
 obtain ⟨p,q,hA0,hV,rfl,hfz,hnd⟩:=hW
 have hA:DataW.TrodAll enc Tryz.prog W 0 (fun _=>true) true Tryz.f5.params.toList args.toList ds p:=hA0
 rw [Tryz.params5] at hA hval hsz
 obtain ⟨v0,d0,rfl,rfl,h0⟩:=trodAll_one hA
 obtain ⟨rfl,rfl⟩:=trodVars_none hV
 clear hA0 hval0
 simp only [List.append_nil] at hW'
 have hw0:∀n∈DataW.weights Tryz.prog 25 d0,n≤reachBytes:=by
  intro n hn
  have:=List.all_eq_true.1 hsz n (by simp [DataW.weightsEach,hn])
  simpa using this
 obtain ⟨fs,hfs,hpf⟩:=ty_pr
 obtain ⟨pr,rfl,hAt,hfin⟩:=open_PR hfs hpf (by kernel_rfl) (hval 0 25 v0 rfl rfl) h0 hw0
 have hlt:∀x∈p,x.block<W.heap.size:=fun x hx=>by simpa using hW'.lt x hx
 have hcall:=topFenced_any (ofSl2 pr.code) (ofSl pr.words) pr.locks pr.regs W (ofSl2_at hAt.code) (ofSl_at hAt.words) (pr_fine hfin)
 refine Calls.mono hcall fun e W' ⟨v',he,hv',hg0⟩=> ?_
 have hg:=hg0.chg.to_below
 subst he
 subst hv'
 exact ⟨_,rfl,_,_,_, [],p, [],hW',trodAll_mk1 (shut_bool Tryz.underlying4 true),trodAll_mk1 (Below.trod laidOut (by kernel_rfl) (of_decide_eq_true (by kernel_rfl)) h0 hg hlt),rfl,hg.frame _,fun h=>by cases h⟩
theorem topFenced_said :Rows.TopFencedSaid:=
 OpenClaim.holds_of_wide 5 Tryz.f5 rfl rfl rfl rfl rfl rfl rfl ⟨rfl,rfl,rfl,rfl,rfl⟩ rfl rfl rfl rfl rfl (by kernel_rfl) Tryz.func5 (by kernel_rfl)
  (of_decide_eq_true (by kernel_rfl)) (by unfold Func.isWrapper;first|(rw [if_pos (by decide+kernel)];kernel_rfl)|(rw [if_neg (by decide+kernel)];exact ⟨rfl,rfl⟩))
  (fun os started H enc _=>topFenced_lifted os started H enc)
theorem topFenced_holds :Rows.TopFencedCardSaid:=
 Claim7.holds_tied_plain_at .later [] [.data, .data, .data] true (true, "7156a00dd565ccc5b243c7c66c0e1b87025c3a7a962659fa9eea236c69567f4f") false
  topFenced_said (fun _ h=>by cases h) (by kernel_rfl) (fun _ h=>by cases h) topFenced_row_tie rfl ⟨rfl,rfl⟩ (by kernel_rfl) rfl
  (fun f fn hf hfn=>by
   obtain rfl:f=5:=Option.some.inj ((show Tryz.prog.funcNamed Rows.topFencedRow.func=some 5 by kernel_rfl).symm.trans hf)|>.symm
   obtain rfl:fn=Tryz.f5:=(Option.some.inj (Tryz.func5.symm.trans hfn)).symm
   exact ⟨by kernel_rfl,fun j t ht=>by
    rw [Tryz.params5] at ht
    have h3:t=25:=by
     rcases j with _|j
     ·simpa using ht.symm
     ·simp at ht
    subst h3
    exact (show Tryz.prog.wantsStandIn 25=false by kernel_rfl)⟩)
  (by kernel_rfl)
end Go.Proofs.YtmjkobhkkjgplaaGreatDoor
