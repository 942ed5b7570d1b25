/- OrderHolds: who takes locks in order never gets stuck: a program that the program says is safe is never Stuck in the document's machines. -/
import Derived.Test.YtmbfcgpneflbmaaQ3
import Derived.ProofKit
import Derived.OpenShut
import Derived.Deep.Slices
import Derived.Carry
import Derived.SizedLaws
namespace Go.Proofs.Ytmbfcgpneflbmaa
open Go.RowKit
set_option linter.unusedSimpArgs false
set_option linter.unusedVariables false
def FreeW (l:Nat)(ws:List Wt):Prop:=∃w∈ws,w.lock=true∧w.wh=(l:Int)
def HasL (c:List Ins)(l:Nat)(x:TS):Prop:=HeldI c l x.pc.toNat∨FreeW l x.wait
structure OwnI (p:Pg)(s:MSt):Prop where
 rch:∀t,t<p.code.length→RchC (nth p.code t) (s.view t).pc.toNat
 own:∀l,l<p.locks.toNat→nth s.owner l= -1∨∃u,u<p.code.length∧nth s.owner l=(u:Int)∧HasL (nth p.code u) l (s.view u)
theorem OwnI.put {p:Pg}{s:MSt}{t:Nat}(h:OwnI p s)(hl:t<s.ths.length)(ht:t<p.code.length){y:TS}(hr:RchC (nth p.code t) y.pc.toNat)
  (ho:∀l,l<p.locks.toNat→nth y.owner l= -1∨(nth y.owner l=(t:Int)∧HasL (nth p.code t) l y)∨(nth y.owner l=nth s.owner l∧(HasL (nth p.code t) l (s.view t)→HasL (nth p.code t) l y))):OwnI p (s.putT t y):=by
 refine ⟨fun u hu=> ?_,fun l hl2=> ?_⟩
 ·by_cases e:t=u
  ·subst e;rw [putT_view hl];exact hr
  ·rw [putT_other e];exact h.rch u hu
 ·have e0:(s.putT t y).owner=y.owner:=rfl
  rw [e0]
  rcases ho l hl2 with h1|⟨h1,h2⟩|⟨h1,h2⟩
  ·exact .inl h1
  ·exact .inr ⟨t,ht,h1,by rw [putT_view hl];exact h2⟩
  ·rcases h.own l hl2 with h3|⟨u,hu,h3,h4⟩
   ·exact .inl (h1.trans h3)
   ·refine .inr ⟨u,hu,h1.trans h3, ?_⟩
    by_cases e:t=u
    ·subst e;rw [putT_view hl];exact h2 h4
    ·rw [putT_other e];exact h4
theorem store_own {m:Int}{x:TS}{w:Wt}(h:w.lock=false):(x.store m w).owner=x.owner∧∀v∈x.wait,v∈(x.store m w).wait:=by
 unfold TS.store
 split
 ·exact ⟨rfl,fun v hv=>List.mem_append_left _ hv⟩
 ·exact ⟨by show (if w.lock=true then _ else _)=_;rw [h];rfl,fun v hv=>hv⟩
theorem exec_own {m:Int}{n:Nat}{i:Ins}{x:TS}(h17:i.op≠17)(h18:i.op≠18):(execT m n i x).owner=x.owner∧∀v∈x.wait,v∈(execT m n i x).wait:=by
 by_cases e1:i.op=1
 ·rw [execT_1 e1];exact ⟨rfl,fun v hv=>hv⟩
 by_cases e2:i.op=2
 ·rw [execT_2 e2];exact ⟨rfl,fun v hv=>hv⟩
 by_cases e3:i.op=3
 ·rw [execT_3 e3];exact ⟨rfl,fun v hv=>hv⟩
 by_cases e4:i.op=4
 ·rw [execT_4 e4];exact ⟨rfl,fun v hv=>hv⟩
 by_cases e5:i.op=5
 ·rw [execT_5 e5];exact ⟨rfl,fun v hv=>hv⟩
 by_cases e6:i.op=6
 ·rw [execT_6 e6];exact ⟨rfl,fun v hv=>hv⟩
 by_cases e7:i.op=7
 ·rw [execT_7 e7];exact ⟨rfl,fun v hv=>hv⟩
 by_cases e8:i.op=8
 ·rw [execT_8 e8];exact ⟨rfl,fun v hv=>hv⟩
 by_cases e9:i.op=9
 ·rw [execT_9 e9];exact store_own rfl
 by_cases e10:i.op=10
 ·by_cases hw:0≤x.reg i.b∧x.reg i.b<(x.words.length:Int)
  ·rw [execT_10t e10 hw];exact ⟨rfl,fun v hv=>hv⟩
  ·rw [execT_10f e10 hw];exact ⟨rfl,fun v hv=>hv⟩
 by_cases e11:i.op=11
 ·by_cases hw:0≤x.reg i.a∧x.reg i.a<(x.words.length:Int)
  ·rw [execT_11t e11 hw];exact store_own rfl
  ·rw [execT_11f e11 hw];exact ⟨rfl,fun v hv=>hv⟩
 by_cases e13:i.op=13
 ·by_cases hw:nth x.words i.a.toNat=x.reg i.b
  ·rw [execT_13t e13 hw];exact ⟨rfl,fun v hv=>hv⟩
  ·rw [execT_13f e13 hw];exact ⟨rfl,fun v hv=>hv⟩
 by_cases e14:i.op=14
 ·rw [execT_14 e14];exact ⟨rfl,fun v hv=>hv⟩
 by_cases e15:i.op=15
 ·by_cases hw:x.reg i.a=0
  ·rw [execT_15t e15 hw];exact ⟨rfl,fun v hv=>hv⟩
  ·rw [execT_15f e15 hw];exact ⟨rfl,fun v hv=>hv⟩
 by_cases e16:i.op=16
 ·rw [execT_16 e16];exact ⟨rfl,fun v hv=>hv⟩
 rw [execT_no ⟨e1,e2,e3,e4,e5,e6,e7,e8,e9,e10,e11,e13,e14,e15,e16,h17,h18⟩]
 exact ⟨rfl,fun v hv=>hv⟩
theorem exec_to {m:Int}{n:Nat}{c:List Ins}{i:Nat}{x:TS} :(execT m n (nth c i) { x with pc:=(i:Int)+1 }).pc∈nextsL c i:=by
 unfold nextsL
 by_cases h14:(nth c i).op=14
 ·rw [if_pos h14,execT_14 h14];simp
 by_cases h15:(nth c i).op=15
 ·rw [if_neg h14,if_pos h15]
  by_cases hz:x.reg (nth c i).a=0
  ·rw [execT_15t (x:= { x with pc:=(i:Int)+1 }) h15 hz];simp
  ·rw [execT_15f (x:= { x with pc:=(i:Int)+1 }) h15 hz];simp
 ·rw [if_neg h14,if_neg h15,(execT_pc m n (nth c i) { x with pc:=(i:Int)+1 } 0 h14 h15).2];simp
theorem nth_setI (l:List Int)(i k:Nat)(v:Int)(hi:i<l.length):nth (l.set i v) k=if k=i then v else nth l k:=by
 rw [nth_set0]
 by_cases h:k=i
 ·rw [if_pos ⟨h.symm,hi⟩,if_pos h]
 ·rw [if_neg (fun e=>h e.1.symm),if_neg h]
theorem mem_eraseW {α:Type}[Inhabited α]{v:α} :∀ {l:List α} {j:Nat},v∈l→v=nth l j∨v∈l.eraseIdx j
 | [],_,h=>by cases h
 |x::l,0,h=>by
  rcases List.mem_cons.1 h with rfl|h
  ·exact .inl rfl
  ·exact .inr h
 |x::l,j+1,h=>by
  rcases List.mem_cons.1 h with rfl|h
  ·exact .inr (List.mem_cons_self ..)
  ·rcases mem_eraseW (j:=j) h with h1|h1
   ·exact .inl h1
   ·exact .inr (List.mem_cons_of_mem _ h1)
theorem OwnI.step {p:Pg}{s:MSt}{m:Int}{t k:Nat}(hok:OkPg p)(wf:Wf p s)(h:OwnI p s)(ht:t<p.code.length)(hk:mvOK m (nth p.code t) (s.view t) k=true)(hf:(stepT p m s t k).fell=false):OwnI p (s.putT t (stepT p m s t k)):=by
 have hw:=wf.th t ht
 have hlen:t<s.ths.length:=by rw [wf.ths];exact ht
 have hol:s.owner.length=p.locks.toNat:=wf.owner
 rcases mvOK_k hk with ⟨rfl,h1,h2⟩|⟨h1,h2,h3⟩
 ·obtain ⟨i,hi⟩:=Int.eq_ofNat_of_zero_le hw.pc.1
  have hlt:i<(nth p.code t).length:=by omega
  have hn0:nextIns (nth p.code t) (s.view t).pc=nth (nth p.code t) i:=by rw [hi,nextIns_t (by omega)];simp
  have e2:stepT p m s t 0=execT m t (nth (nth p.code t) i) { s.view t with pc:=(i:Int)+1 } :=by rw [stepT_e,hn0,hi]
  have hrch:=h.rch t ht
  rw [hi,Int.toNat_natCast] at hrch
  have hto:=exec_to (m:=m) (n:=t) (c:=nth p.code t) (i:=i) (x:=s.view t)
  rw [e2] at hf⊢
  refine h.put hlen ht (.step i _ hrch hlt hto) fun l hl=> ?_
  have hkeep:¬((nth (nth p.code t) i).op=18∧(nth (nth p.code t) i).a=(l:Int))→HeldI (nth p.code t) l (s.view t).pc.toNat→HeldI (nth p.code t) l (execT m t (nth (nth p.code t) i) { s.view t with pc:=(i:Int)+1 }).pc.toNat:=fun hn hh=>by
   rw [hi,Int.toNat_natCast] at hh
   exact .keep i _ hh hlt hto hn
  have hla:=fun e=>lock_a (hok.ins t i ht hlt) e
  by_cases h17:(nth (nth p.code t) i).op=17
  ·have hla:=hla (.inl h17)
   have hal:(nth (nth p.code t) i).a.toNat<s.owner.length:=by omega
   rw [execT_17 h17] at hto hkeep⊢
   have ho:nth ({ s.view t with pc:=(i:Int)+1,owner:=s.owner.set (nth (nth p.code t) i).a.toNat (t:Int) } :TS).owner l=if l=(nth (nth p.code t) i).a.toNat then (t:Int) else nth s.owner l:=nth_setI _ _ _ _ hal
   by_cases e:l=(nth (nth p.code t) i).a.toNat
   ·rw [if_pos e] at ho
    exact .inr (.inl ⟨ho, .inl (.take i _ hrch hlt hto h17 (by omega))⟩)
   ·rw [if_neg e] at ho
    exact .inr (.inr ⟨ho,fun h9=>h9.elim (fun h8=> .inl (hkeep (fun h7=>by omega) h8)) .inr⟩)
  by_cases h18:(nth (nth p.code t) i).op=18
  ·have hla:=hla (.inr h18)
   have hal:(nth (nth p.code t) i).a.toNat<s.owner.length:=by omega
   by_cases hw1:nth s.owner (nth (nth p.code t) i).a.toNat≠(t:Int)
   ·rw [execT_18a (x:= { s.view t with pc:=(i:Int)+1 }) h18 hw1] at hf;cases hf
   ·by_cases hh:∃j,j<(s.view t).wait.length∧(nth (s.view t).wait j).lock=true∧(nth (s.view t).wait j).wh=(nth (nth p.code t) i).a
    ·obtain ⟨j,hj,h5,h6⟩:=hh
     rw [execT_18b (x:= { s.view t with pc:=(i:Int)+1 }) h18 hw1 j hj h5 h6] at hf;cases hf
    ·have he:=execT_18c (m:=m) (n:=t) (x:= { s.view t with pc:=(i:Int)+1 }) h18 hw1 (fun q hq hc=>hh ⟨q,hq,hc⟩)
     rw [he] at hto hkeep⊢
     by_cases hm:0<m
     ·have es:TS.store m { s.view t with pc:=(i:Int)+1 } ⟨true,(nth (nth p.code t) i).a,0⟩= { s.view t with pc:=(i:Int)+1,wait:=(s.view t).wait++ [⟨true,(nth (nth p.code t) i).a,0⟩] } :=if_pos hm
      rw [es] at hto hkeep⊢
      by_cases e:l=(nth (nth p.code t) i).a.toNat
      ·exact .inr (.inl ⟨by rw [e];exact Classical.not_not.1 hw1, .inr ⟨_,List.mem_append_right _ (List.mem_singleton.2 rfl),rfl,by show (nth (nth p.code t) i).a=_;omega⟩⟩)
      ·refine .inr (.inr ⟨rfl,fun h9=>h9.elim (fun h8=> .inl (hkeep (fun h7=>by omega) h8)) fun ⟨w,hw5,hw6⟩=> .inr ⟨w,List.mem_append_left _ hw5,hw6⟩⟩)
     ·have es:TS.store m { s.view t with pc:=(i:Int)+1 } ⟨true,(nth (nth p.code t) i).a,0⟩= { s.view t with pc:=(i:Int)+1,owner:=s.owner.set (nth (nth p.code t) i).a.toNat (-1) } :=if_neg hm
      rw [es] at hto hkeep⊢
      have ho:nth ({ s.view t with pc:=(i:Int)+1,owner:=s.owner.set (nth (nth p.code t) i).a.toNat (-1) } :TS).owner l=if l=(nth (nth p.code t) i).a.toNat then-1 else nth s.owner l:=nth_setI _ _ _ _ hal
      by_cases e:l=(nth (nth p.code t) i).a.toNat
      ·rw [if_pos e] at ho
       exact .inl ho
      ·rw [if_neg e] at ho
       exact .inr (.inr ⟨ho,fun h9=>h9.elim (fun h8=> .inl (hkeep (fun h7=>by omega) h8)) .inr⟩)
  ·obtain ⟨ho,hwt⟩:=exec_own (m:=m) (n:=t) (x:= { s.view t with pc:=(i:Int)+1 }) h17 h18
   refine .inr (.inr ⟨by rw [ho];rfl,fun h9=>h9.elim (fun h8=> .inl (hkeep (fun h7=>h18 h7.1) h8)) fun ⟨w,hw5,hw6⟩=> .inr ⟨w,hwt w hw5,hw6⟩⟩)
 ·have es:stepT p m s t k= { (s.view t).done (nth (s.view t).wait (k-1)) with wait:=(s.view t).wait.eraseIdx (k-1) } :=by unfold stepT Go.Proofs.Ytmbfcgpneflbmaa.doT;rw [if_pos h1]
  rw [es]
  have hwt:=hw.wt _ (nth_mem (s.view t).wait (k-1) (by omega))
  refine h.put hlen ht (h.rch t ht) fun l hl=> ?_
  by_cases hlk:(nth (s.view t).wait (k-1)).lock=true
  ·rw [if_pos hlk] at hwt
   have ho:({ (s.view t).done (nth (s.view t).wait (k-1)) with wait:=(s.view t).wait.eraseIdx (k-1) } :TS).owner=s.owner.set (nth (s.view t).wait (k-1)).wh.toNat (-1):=if_pos hlk
   rw [ho,nth_setI _ _ _ _ (by omega)]
   by_cases e:l=(nth (s.view t).wait (k-1)).wh.toNat
   ·rw [if_pos e];exact .inl rfl
   ·rw [if_neg e]
    refine .inr (.inr ⟨rfl,fun h9=>h9.elim .inl fun ⟨w,hw5,hw6,hw7⟩=> ?_⟩)
    rcases mem_eraseW (j:=k-1) hw5 with e5|e5
    ·rw [e5] at hw7;omega
    ·exact .inr ⟨w,e5,hw6,hw7⟩
  ·have ho:({ (s.view t).done (nth (s.view t).wait (k-1)) with wait:=(s.view t).wait.eraseIdx (k-1) } :TS).owner=s.owner:=if_neg hlk
   rw [ho]
   refine .inr (.inr ⟨rfl,fun h9=>h9.elim .inl fun ⟨w,hw5,hw6,hw7⟩=> ?_⟩)
   rcases mem_eraseW (j:=k-1) hw5 with e5|e5
   ·rw [e5] at hw6;exact absurd hw6 hlk
   ·exact .inr ⟨w,e5,hw6,hw7⟩
theorem OwnI.begin_ {p:Pg} :OwnI p (begin_ p):=by
 refine ⟨fun t ht=> ?_,fun l hl=> .inl ?_⟩
 ·have e:nth (Go.Proofs.Ytmbfcgpneflbmaa.begin_ p).ths t=⟨0,List.replicate p.regs.toNat 0, []⟩:=by
   unfold Go.Proofs.Ytmbfcgpneflbmaa.begin_
   rw [nth_map' _ _ _ ht]
  unfold MSt.view
  rw [e]
  exact .zero
 ·show nth (List.replicate p.locks.toNat (-1)) l= -1
  simp [nth,List.getD,List.getElem?_replicate,hl]
theorem Reach.own {p:Pg}(hok:OkPg p){m:Int}{s:MSt}(h:Reach p m s):OwnI p s:=by
 induction h with
 |start=>exact .begin_
 |step hr ht hk hf ih=>exact ih.step hok (hr.wf hok) ht hk hf
theorem no_cycle {E S:Nat→Prop}{P:Nat→Nat→Prop}(ht:∀a b c,b<4→P a b→P b c→P a c)(hi:∀a,a<4→¬P a a)(h4:∀a,S a→a<4)(hn:∀a,S a→∃b,S b∧P a b)(a:Nat):¬S a:=fun ha=>by
 obtain ⟨b,hb,p1⟩:=hn a ha
 obtain ⟨c,hc,p2⟩:=hn b hb
 obtain ⟨d,hd,p3⟩:=hn c hc
 obtain ⟨e,he,p4⟩:=hn d hd
 have a4:=h4 a ha
 have b4:=h4 b hb
 have c4:=h4 c hc
 have d4:=h4 d hd
 have e4:=h4 e he
 have p13:=ht a b c b4 p1 p2
 have p24:=ht b c d c4 p2 p3
 have p35:=ht c d e d4 p3 p4
 have p14:=ht a c d c4 p13 p3
 have p25:=ht b d e d4 p24 p4
 have p15:=ht a d e d4 p14 p4
 have ne:∀ {x y:Nat},x<4→P x y→x≠y:=fun h4 h h2=>by subst h2;exact hi _ h4 h
 have n1:=ne a4 p1
 have n2:=ne b4 p2
 have n3:=ne c4 p3
 have n4:=ne d4 p4
 have n5:=ne a4 p13
 have n6:=ne b4 p24
 have n7:=ne c4 p35
 have n8:=ne a4 p14
 have n9:=ne b4 p25
 have n10:=ne a4 p15
 omega
theorem safe_never {code:Ls (Ls Ins)}{words:Ls Int}{locks regs:Int}(hok:OkPg (pgOf code words locks regs))(hs:SafeP code.l){m:Int}{o:Outc}(h:Outs (pgOf code words locks regs) m o):o.st≠2:=by
 cases h with
 |done _ _=>exact (by decide:(0:Int)≠2)
 |fell _ _ _ _=>exact (by decide:(1:Int)≠2)
 |stuck hr he hst=>
  rename_i s
  exfalso
  have wf:=hr.wf hok
  have inv:=hr.own hok
  have hcl:(pgOf code words locks regs).code.length=code.l.length:=by simp [pgOf]
  have hcn:∀t,t<code.l.length→nth (pgOf code words locks regs).code t=(nth code.l t).l:=fun t ht=>nth_map' _ _ _ ht
  have hlk:(pgOf code words locks regs).locks=locks:=rfl
  have hl4:=hok.locks
  rw [hlk] at hl4
  have hwait:∀t,t<code.l.length→(s.view t).wait= []:=fun t ht=>by
   cases e:(s.view t).wait with
   |nil=>rfl
   |cons w r=>
    have h1:=hst t 1 (by omega)
    unfold mvOK at h1
    rw [if_neg (by decide),e] at h1
    simp [mayK] at h1
  have hlock:∀t,t<code.l.length→(s.view t).pc<((nth code.l t).l.length:Int)→(nth (nth code.l t).l (s.view t).pc.toNat).op=17∧(0≤(nth (nth code.l t).l (s.view t).pc.toNat).a∧(nth (nth code.l t).l (s.view t).pc.toNat).a<locks)∧nth s.owner (nth (nth code.l t).l (s.view t).pc.toNat).a.toNat≠-1:=fun t ht hpc=>by
   have h0:=(wf.th t (by omega)).pc.1
   have h1:=hst t 0 (by omega)
   unfold mvOK ableV at h1
   rw [if_pos rfl,hcn t ht,decide_eq_true hpc,nextIns_t hpc,hwait t ht] at h1
   have h2:ableL s.owner 0 (nth (nth code.l t).l (s.view t).pc.toNat)=false:=by
    have h3:ableL (s.view t).owner 0 (nth (nth code.l t).l (s.view t).pc.toNat)=false:=by simpa using h1
    exact h3
   unfold ableL at h2
   split at h2
   ·simp at h2
   ·split at h2
    ·simp at h2
    ·split at h2
     ·rename_i h17
      have h3:=lock_a (insO_of hok ht (i:=(s.view t).pc.toNat) (by omega)) (.inl h17)
      rw [hlk] at h3
      exact ⟨h17,h3,by simpa using h2⟩
     ·cases h2
  have key:∀l,(l<locks.toNat∧nth s.owner l≠-1)→∃l',(l' <locks.toNat∧nth s.owner l' ≠-1)∧WarP (fun a b:Nat=>EdgesT code.l code.l.length ⟨(a:Int),(b:Int)⟩) 4 l l' :=fun l ⟨h1,h2⟩=>by
   rcases inv.own l (by rw [hlk];exact h1) with h3|⟨u,hu,_,h4⟩
   ·exact absurd h3 h2
   ·have hu2:u<code.l.length:=by omega
    have hp:=(wf.th u hu).pc
    rw [hcn u hu2] at h4 hp
    rcases h4 with h4|⟨w,h4,_⟩
    ·by_cases hpc:(s.view u).pc<((nth code.l u).l.length:Int)
     ·obtain ⟨h5,h6,h7⟩:=hlock u hu2 hpc
      exact ⟨_,⟨by omega,h7⟩,war_le ⟨u,hu2,(s.view u).pc.toNat,by omega,h5,by show ((_:Nat):Int)=_;omega,l,by omega,rfl,h4⟩ 4⟩
     ·have e:(s.view u).pc.toNat=(nth code.l u).l.length:=by omega
      rw [e] at h4
      exact absurd h4 (hs.1 u hu2 l (by omega))
    ·rw [hwait u hu2] at h4;cases h4
  have none:=no_cycle (E:=fun _=>True) (S:=fun l=>l<locks.toNat∧nth s.owner l≠-1) (P:=WarP (fun a b:Nat=>EdgesT code.l code.l.length ⟨(a:Int),(b:Int)⟩) 4) (fun a b c hb=>war_trans hb) hs.2 (fun a ha=>by omega) key
  obtain ⟨t,ht,h1⟩:=ended_false he
  have ht2:t<code.l.length:=by omega
  rw [hcn t ht2] at h1
  have h2:=hwait t ht2
  rcases h1 with h1|h1
  ·obtain ⟨h5,h6,h7⟩:=hlock t ht2 h1
   exact none _ ⟨by omega,h7⟩
  ·exact h1 (by rw [show (nth s.ths t).wait= [] from h2];rfl)
theorem flatMap_congr' {α β:Type}{f g:α→List β} :∀ {l:List α},(∀x∈l,f x=g x)→l.flatMap f=l.flatMap g
 | [],_=>rfl
 |x::l,h=>by simp only [List.flatMap_cons];rw [h x (by simp),flatMap_congr' fun y hy=>h y (by simp [hy])]
theorem all_congr' {α:Type}{f g:α→Bool} :∀ {l:List α},(∀x∈l,f x=g x)→l.all f=l.all g
 | [],_=>rfl
 |x::l,h=>by simp only [List.all_cons];rw [h x (by simp),all_congr' fun y hy=>h y (by simp [hy])]
section
variable {code:Ls (Ls Ins)}{words:Ls Int}{Lk R:Nat}{mode:Int}{x:SD}
abbrev pgN (code:Ls (Ls Ins))(words:Ls Int)(Lk R:Nat):Pg:=pgOf code words (Lk:Int) (R:Int)
theorem pgN_len :(pgN code words Lk R).code.length=code.l.length:=by simp [pgN,pgOf]
theorem pgN_code {t:Nat}(ht:t<code.l.length):nth (pgN code words Lk R).code t=(nth code.l t).l:=nth_map' _ _ _ ht
theorem st_th {t:Nat}(ht:t<x.thr.l.length):nth x.st.ths t=(nth x.thr.l t).th:=nth_map' _ _ _ ht
theorem st_view {t:Nat}(ht:t<x.thr.l.length):x.st.view t=⟨(nth x.thr.l t).pc,(nth x.thr.l t).regs.l,(nth x.thr.l t).wait.l,x.words.l,x.owner.l,x.prints.l,false⟩:=by
 unfold MSt.view
 rw [st_th ht];rfl
theorem ended_eq (hl:x.thr.l.length=code.l.length):endedL code x.thr=ended (pgN code words Lk R) x.st:=by
 unfold endedL ended
 rw [pgN_len]
 refine all_congr' fun t ht=> ?_
 have ht' :t<code.l.length:=by simpa using ht
 rw [pgN_code ht',st_th (by omega)];rfl
theorem moves_eq (hl:x.thr.l.length=code.l.length):movesL mode code x.thr x.owner.l code.l.length=moves (pgN code words Lk R) mode x.st:=by
 unfold movesL moves
 rw [pgN_len]
 refine flatMap_congr' fun t ht=> ?_
 have ht' :t<code.l.length:=by simpa using ht
 rw [pgN_code ht',st_view (by omega)];rfl
structure WfX (code:Ls (Ls Ins))(words:Ls Int)(Lk R:Nat)(x:SD):Prop where
 thl:x.thr.l.length=code.l.length
 pc:∀t,t<code.l.length→0≤(nth x.thr.l t).pc∧(nth x.thr.l t).pc≤(nth code.l t).l.length
 regs:∀t,t<x.thr.l.length→(nth x.thr.l t).regs.l.length=R
 wait:∀t,t<x.thr.l.length→(nth x.thr.l t).wait.l.length≤3
 wt:∀t,t<x.thr.l.length→∀j,j<(nth x.thr.l t).wait.l.length→if (nth (nth x.thr.l t).wait.l j).lock=true then 0≤(nth (nth x.thr.l t).wait.l j).wh∧(nth (nth x.thr.l t).wait.l j).wh<x.owner.l.length else 0≤(nth (nth x.thr.l t).wait.l j).wh∧(nth (nth x.thr.l t).wait.l j).wh<x.words.l.length
 words:x.words.l.length=words.l.length
 owner:x.owner.l.length=Lk
theorem Wf.toX (h:Wf (pgN code words Lk R) x.st):WfX code words Lk R x:=by
 have hl:x.thr.l.length=code.l.length:=by have:=h.ths;rw [pgN_len] at this;simpa [SD.st] using this
 have hw:x.words.l.length=words.l.length:=h.words
 have ho:x.owner.l.length=Lk:=by have:=h.owner;simpa [pgN,pgOf,SD.st] using this
 have hv:∀t,t<code.l.length→WfS R words.l.length Lk (nth code.l t).l.length ⟨(nth x.thr.l t).pc,(nth x.thr.l t).regs.l,(nth x.thr.l t).wait.l,x.words.l,x.owner.l,x.prints.l,false⟩:=by
  intro t ht
  have:=h.th t (by rw [pgN_len];exact ht)
  rw [pgN_code ht,st_view (by omega)] at this
  simpa [pgN,pgOf] using this
 refine ⟨hl,fun t ht=>(hv t ht).pc,fun t ht=>(hv t (by omega)).regs,fun t ht=>(hv t (by omega)).wait,fun t ht j hj=> ?_,hw,ho⟩
 rw [ho,hw]
 exact (hv t (by omega)).wt _ (nth_mem _ _ hj)
theorem rows_at {rows:List ThL}(e:rows.map ThL.th=x.thr.l.map ThL.th):rows.length=x.thr.l.length∧∀t,t<x.thr.l.length→(nth rows t).pc=(nth x.thr.l t).pc∧(nth rows t).regs.l=(nth x.thr.l t).regs.l∧(nth rows t).wait.l=(nth x.thr.l t).wait.l:=by
 have hl:rows.length=x.thr.l.length:=by simpa using congrArg List.length e
 refine ⟨hl,fun t ht=> ?_⟩
 have h1:=congrArg (fun l=>nth l t) e
 simp only [nth_map' ThL.th _ _ ht,nth_map' ThL.th rows t (by omega)] at h1
 exact ⟨congrArg Th.pc h1,congrArg Th.regs h1,congrArg Th.wait h1⟩
theorem insR_N (hok:OkPg (pgN code words Lk R)){t:Nat}(ht:t<code.l.length){pc:Int}(h0:0≤pc)(h1:pc<(nth code.l t).l.length):InsR R words.l.length Lk (nextIns (nth code.l t).l pc):=by
 have h:=(hok.insR (t:=t) (i:=pc.toNat) (by rw [pgN_len];exact ht) (by rw [pgN_code ht];omega)).1
 rw [pgN_code ht] at h
 rw [nextIns_t h1]
 simpa [pgN,pgOf] using h
theorem lock_N (hok:OkPg (pgN code words Lk R)){t i:Nat}(ht:t<code.l.length)(hi:i<(nth code.l t).l.length)(h17:(nth (nth code.l t).l i).op=17):0≤(nth (nth code.l t).l i).a∧(nth (nth code.l t).l i).a<(Lk:Int):=by
 have h:=(hok.insR (t:=t) (i:=i) (by rw [pgN_len];exact ht) (by rw [pgN_code ht];exact hi)).1
 rw [pgN_code ht] at h
 have:=h.o17 (.inl h17)
 simpa [pgN,pgOf] using this
theorem moves_len (hl:x.thr.l.length=code.l.length)(hc:code.l.length≤4)(hw:∀t,t<x.thr.l.length→(nth x.thr.l t).wait.l.length≤3):(moves (pgN code words Lk R) mode x.st).length≤16:=by
 rw [←moves_eq hl]
 have key:∀n,n≤code.l.length→(movesL mode code x.thr x.owner.l n).length≤4*n:=by
  intro n
  induction n with
  |zero=>intro _;simp [movesL]
  |succ n ih=>
   intro hn
   rw [movesL_succ,List.length_append]
   have h1:=ih (by omega)
   have h2:=hw n (by omega)
   have h3:=mayT_len mode x.thr n (nth x.thr.l n).wait.l.length
   have h4:(moveT mode code x.thr x.owner.l n).length≤4:=by
    unfold moveT
    rw [List.length_append]
    split<;>simp<;>omega
   omega
 have:=key _ (Nat.le_refl _)
 omega
end
theorem st_step {code:Ls (Ls Ins)}{words:Ls Int}{Lk R:Nat}{mode:Int}{x z:SD}{t k:Nat}{rows rows' :List ThL}{y:TS}{w0 o0 p0:Ls Int}(ht:t<code.l.length)(hl:x.thr.l.length=code.l.length)(e:rows.map ThL.th=x.thr.l.map ThL.th)(ew:w0.l=x.words.l)(eo:o0.l=x.owner.l)(ep:p0.l=x.prints.l)
  (hy:y=doT mode t (nth code.l t).l k ⟨(nth rows t).pc,(nth rows t).regs.l,(nth rows t).wait.l,w0.l,o0.l,p0.l,false⟩):y=stepT (pgN code words Lk R) mode x.st t k∧(z.thr.l=rows' →rows'.map ThL.th=(rows.map ThL.th).set t ⟨y.pc,y.regs,y.wait⟩→z.words.l=y.words→z.owner.l=y.owner→z.prints.l=y.prints→z.st=x.st.putT t y):=by
 obtain ⟨h1,h2⟩:=rows_at e
 obtain ⟨q1,q2,q3⟩:=h2 t (by omega)
 constructor
 ·rw [hy,q1,q2,q3,ew,eo,ep]
  unfold stepT
  rw [pgN_code ht,st_view (by omega)]
 ·intro e1 e2 e3 e4 e5
  unfold MSt.putT SD.st
  rw [e1,e2,e3,e4,e5,e]
section
variable {p:Pg}{m:Int}{S:List MSt}{E:List Outc}{full:Bool}{i:Nat}
theorem Inv.addOut (h:Inv p m S E full i){o:Outc}{E' :List Outc}(ho:Outs p m o)(hs:Sorted_ E')(hm:∀y,y∈E' ↔y∈E∨y=o):Inv p m S E' full i:=
 ⟨h.start,h.reach,h.pr,h.len,h.hfull,fun y hy=>((hm y).1 hy).elim (h.sound y) (fun e=>e▸ho),hs,fun hf j hj=>(h.done hf j hj).mono (fun _ h=>h) fun y hy=>(hm y).2 (.inl hy),h.nd⟩
theorem nth_left {α:Type}[Inhabited α](l m:List α)(j:Nat)(h:j<l.length):nth (l++m) j=nth l j:=by rw [nth_app0,if_pos h]
theorem nth_last {α:Type}[Inhabited α](l:List α)(x:α):nth (l++ [x]) l.length=x:=by rw [nth_app0,if_neg (by omega)];simp [nth]
theorem Inv.addState (h:Inv p m S E full i)(hf:full=false)(hi:i≤S.length){s:MSt}(hr:Reach p m s)(hp:s.prints.length≤2*S.length)(hnw:s∉S):Inv p m (S++ [s]) E (full||decide (4000<S.length+1)) i:=by
 have hl:S.length≤4000:=by
  have:=h.hfull
  rw [hf] at this
  have:=of_decide_eq_false this.symm
  omega
 refine ⟨by simp [h.start],fun x hx=> ?_,fun j hj=> ?_,by simp;omega,by rw [hf];simp,h.sound,h.sorted,fun _ j hj=> ?_, ?_⟩
 ·rcases List.mem_append.1 hx with hx|hx
  ·exact h.reach x hx
  ·obtain rfl:x=s:=by simpa using hx
   exact hr
 ·simp at hj
  rcases Nat.lt_or_ge j S.length with h1|h1
  ·rw [nth_left _ _ _ h1];exact h.pr j h1
  ·obtain rfl:j=S.length:=by omega
   rw [nth_last];exact hp
 ·rw [nth_left _ _ _ (by omega)]
  exact (h.done hf j hj).mono (fun x hx=>by simp [hx]) (fun _ h=>h)
 ·rw [List.nodup_append]
  exact ⟨h.nd,by simp,fun x hx y hy e=>by obtain rfl:y=s:=(by simpa using hy);exact hnw (e▸hx)⟩
theorem Inv.next (h:Inv p m S E full i)(hx:full=false→Expanded p m S E (nth S i)):Inv p m S E full (i+1):=
 ⟨h.start,h.reach,h.pr,h.len,h.hfull,h.sound,h.sorted,fun hf j hj=>by
  rcases Nat.lt_or_ge j i with h1|h1
  ·exact h.done hf j h1
  ·obtain rfl:j=i:=by omega
   exact hx hf,h.nd⟩
theorem Inv.first (s:MSt)(hs:s=begin_ p):Inv p m [s] [] (false||decide (4000<0+1)) 0:=by
 subst hs
 refine ⟨by simp,fun x hx=> ?_,fun j hj=> ?_,by simp,by simp,fun o ho=> ?_,List.Pairwise.nil,fun _ j hj=>absurd hj (by omega),by simp⟩
 ·obtain rfl:x=begin_ p:=by simpa using hx
  exact .start
 ·simp at hj;subst hj;exact Nat.zero_le _
 ·cases ho
theorem ended_no {s:MSt}(he:ended p s=true):∀t k,t<p.code.length→mvOK m (nth p.code t) (s.view t) k=false:=by
 intro t k ht
 have h1:=(List.all_eq_true.1 he) t (by simpa using ht)
 simp only [Bool.and_eq_true,decide_eq_true_eq] at h1
 cases hk:mvOK m (nth p.code t) (s.view t) k with
 |false=>rfl
 |true=>
  rcases mvOK_k hk with ⟨rfl,h2,_⟩|⟨h2,h3,_⟩
  ·exact absurd h2 h1.1
  ·have:(s.view t).wait.length=0:=h1.2
   omega
theorem Inv.ended (h:Inv p m S E full i)(hi:i<S.length)(he:ended p (nth S i)=true){E' :List Outc}(hs:Sorted_ E')(hm:∀y,y∈E' ↔y∈E∨y=⟨0,(nth S i).words,(nth S i).prints⟩):Inv p m S E' full (i+1):=by
 have h1:=h.addOut (.done (h.reach _ (nth_mem _ _ hi)) he) hs hm
 refine h1.next fun _=>⟨fun _=>(hm _).2 (.inr rfl),fun e=> ?_,fun t k ht hk=> ?_⟩
 ·rw [he] at e;cases e
 ·rw [ended_no he t k ht] at hk;cases hk
theorem stuck_of {s:MSt}(hm:moves p m s= []):Stuck_ p m s:=by
 intro t k ht
 cases hk:mvOK m (nth p.code t) (s.view t) k with
 |false=>rfl
 |true=>
  have:((8*t+k:Nat):Int)∈moves p m s:=mem_moves.2 ⟨t,k,ht,hk,rfl⟩
  rw [hm] at this;cases this
theorem Inv.stuck (h:Inv p m S E full i)(hi:i<S.length)(he:Go.Proofs.Ytmbfcgpneflbmaa.ended p (nth S i)=false)(hmv:moves p m (nth S i)= []){E' :List Outc}(hs:Sorted_ E')(hm:∀y,y∈E' ↔y∈E∨y=⟨2,(nth S i).words,(nth S i).prints⟩):Inv p m S E' full (i+1):=by
 have hst:=stuck_of hmv
 have h1:=h.addOut (.stuck (h.reach _ (nth_mem _ _ hi)) he hst) hs hm
 refine h1.next fun _=>⟨fun e=> ?_,fun _ _=>(hm _).2 (.inr rfl),fun t k ht hk=> ?_⟩
 ·rw [he] at e;cases e
 ·rw [hst t k ht] at hk;cases hk
def HandM (p:Pg)(m:Int)(S:List MSt)(E:List Outc)(s:MSt)(v:Int):Prop:=∀t k,v=((8*t+k:Nat):Int)→k≤3→Handled p m S E s t k
theorem HandM.mono {s:MSt}{v:Int}{S' :List MSt}{E' :List Outc}(h:HandM p m S E s v)(hS:∀x∈S,x∈S')(hE:∀x∈E,x∈E'):HandM p m S' E' s v:=fun t k e hk=>(h t k e hk).mono hS hE
theorem HandM.of {s:MSt}{v:Int}{t k:Nat}(hv:v=((8*t+k:Nat):Int))(hk:k≤3)(h:Handled p m S E s t k):HandM p m S E s v:=by
 intro t' k' e hk'
 rw [hv] at e
 have e' :8*t+k=8*t' +k' :=by omega
 obtain rfl:t=t' :=by omega
 obtain rfl:k=k' :=by omega
 exact h
theorem Inv.expanded (h:Inv p m S E full i)(hi:i<S.length)(he:Go.Proofs.Ytmbfcgpneflbmaa.ended p (nth S i)=false)(hne:moves p m (nth S i)≠ [])(hw:Wf p (nth S i))(hall:full=false→∀q,q<(moves p m (nth S i)).length→HandM p m S E (nth S i) (nth (moves p m (nth S i)) q)):Inv p m S E full (i+1):=by
 refine h.next fun hf=>⟨fun e=> ?_,fun _ hst=> ?_,fun t k ht hk=> ?_⟩
 ·rw [he] at e;cases e
 ·exfalso
  apply hne
  apply List.eq_nil_iff_forall_not_mem.2
  intro v hv
  obtain ⟨t,k,ht,hk,_⟩:=mem_moves.1 hv
  rw [hst t k ht] at hk;cases hk
 ·have hv:((8*t+k:Nat):Int)∈moves p m (nth S i):=mem_moves.2 ⟨t,k,ht,hk,rfl⟩
  obtain ⟨q,hq⟩:=List.getElem?_of_mem hv
  obtain ⟨hlt,e⟩:=List.getElem?_eq_some_iff.1 hq
  exact hall hf q hlt t k (by rw [nth_lt _ _ hlt];exact e) (mvOK_le hk (hw.th t ht).wait)
end
set_option maxRecDepth 100000
set_option maxHeartbeats 40000000
theorem do_tk (K:Nat→Prop)(g mv t k:Nat)(code:Ls (Ls Ins))(vt:Value)(rows:List ThL)(words owner prints:Ls Int)(pw:Value)(locks nregs mode:Int)(fell:Bool)(W:World)
  (hS:Sh K W W (stA g [code.v,pw, .int .i64 locks, .int .i64 nregs, .int .i64 mode] vt rows words owner prints fell++ [.at_ code])) (et:mv/8=t) (ek:mv%8=k)
  (hn:t<rows.length) (htc:t<code.l.length) (hmv:mv<1000000) (hpc:0≤(nth rows t).pc∧(nth rows t).pc<1000000) (hwl:(nth rows t).wait.l.length≤3) (hkw:k≤(nth rows t).wait.l.length) (hpl:prints.l.length≤100000000) (hol:owner.l.length≤100)
  (hwt:∀j,j<(nth rows t).wait.l.length→if (nth (nth rows t).wait.l j).lock=true then 0≤(nth (nth rows t).wait.l j).wh∧(nth (nth rows t).wait.l j).wh<owner.l.length else 0≤(nth (nth rows t).wait.l j).wh∧(nth (nth rows t).wait.l j).wh<words.l.length)
  (hio:k=0→InsR (nth rows t).regs.l.length words.l.length owner.l.length (nextIns (nth code.l t).l (nth rows t).pc)):
  Rets Try.prog 50 [.pointer (some ⟨g,0,none⟩), .int .i64 ((mv:Nat):Int)] W (fun v w' =>v= .tuple #[]∧∃(rows' :List ThL) (words' owner' prints' :Ls Int) (fell' :Bool) (y:TS),
   y=doT mode t (nth code.l t).l k ⟨(nth rows t).pc,(nth rows t).regs.l,(nth rows t).wait.l,words.l,owner.l,prints.l,fell⟩∧rows'.map ThL.th=(rows.map ThL.th).set t ⟨y.pc,y.regs,y.wait⟩∧words'.l=y.words∧owner'.l=y.owner∧prints'.l=y.prints∧fell' =y.fell∧
   Sh K W w' (stA g [code.v,pw, .int .i64 locks, .int .i64 nregs, .int .i64 mode] vt rows' words' owner' prints' fell' ++ [.at_ code])):=by
 subst et;subst ek
 exact do_full K g mv code vt rows words owner prints pw locks nregs mode fell W hS hn htc hmv hpc hwl hkw hpl hol hwt hio
theorem Sh.own_new {α:Type}[Enc α][Flat α]{K:Nat→Prop}{W w:World}{L:List Asn}{E:TypeId}{s:Ls α}(h:Sh K W w L)(i:Nat)(hi:L[i]? =some (.own E s)):∀b,s.on b→K b∨W.heap.size≤b:=fun b hb=>by
 have hm:=List.mem_of_getElem? hi
 rcases own_on (h.ok _ hm) hb with h1|h1
 ·exact h.mine _ hm b h1
 ·exact Flat.noRd h1
theorem nilOn {b:Nat}(h:(⟨.slice none 0 0, []⟩:Ls Int).on b):False:=by
 rcases h with ⟨h,_⟩|⟨_,h,_⟩<;>exact absurd h (by simp)
structure SData (W:World)(ST:TypeId)(hd:List Value)(states:List SD)(ends:List OutL):Prop where
 hd:∀x∈states,x.hd=hd∧x.E=ST∧x.fell=false∧∀b,Enc.on x b→W.heap.size≤b
 en:∀o∈ends,∀b,Enc.on o b→W.heap.size≤b
theorem SData.put {W:World}{ST:TypeId}{hd:List Value}{states:List SD}{ends ends' :List OutL}{o:OutL}(h:SData W ST hd states ends)(hr:PutRel o ends ends')(ho:∀b,Enc.on o b→W.heap.size≤b):SData W ST hd states ends' ∧ends'.length≤ends.length+1:=by
 rcases hr with ⟨_,rfl⟩|⟨k,hk,_,_,rfl⟩
 ·exact ⟨h,by omega⟩
 ·refine ⟨⟨h.hd,fun x hx=> ?_⟩,by simp;omega⟩
  rcases List.mem_append.1 hx with hx|hx
  ·exact h.en x (List.mem_of_mem_take hx)
  ·rcases List.mem_cons.1 hx with rfl|hx
   ·exact ho
   ·exact h.en x (List.mem_of_mem_drop hx)
theorem SData.more {W:World}{ST:TypeId}{hd:List Value}{states:List SD}{ends:List OutL}{x:SD}(h:SData W ST hd states ends)(hx:x.hd=hd∧x.E=ST∧x.fell=false∧∀b,Enc.on x b→W.heap.size≤b):SData W ST hd (states++ [x]) ends:=
 ⟨fun y hy=>(List.mem_append.1 hy).elim (h.hd y) (fun hy=>by
  obtain rfl:y=x:=by simpa using hy
  exact hx),h.en⟩
theorem key_put {p:Pg}(hok:OkPg p){m:Int}{x:SD}{states states' :List SD}{keys keys' :List (Ls Int)}{heads before heads' before' :List Int}{full full' :Bool}{E:List Outc}{i:Nat}
  (h:KeyRel (keyOf x.st) x states states' keys keys' heads before heads' before' full full') (hk:keys.map (·.l)=(states.map SD.st).map keyOf) (hlen:states.length=keys.length)
  (hi:Inv p m (states.map SD.st) E full i) (hf:full=false) (hil:i≤states.length) (hr:Reach p m x.st) (hp:x.st.prints.length≤2*states.length):
  Inv p m (states'.map SD.st) E full' i∧keys'.map (·.l)=(states'.map SD.st).map keyOf∧states'.length=keys'.length∧x.st∈states'.map SD.st∧(∀s∈states.map SD.st,s∈states'.map SD.st)∧(states' =states∨states' =states++ [x]):=by
 rcases h with ⟨⟨j,hj,e⟩,e1,e2,_,e5⟩|⟨hno,rfl,e2,_,rfl⟩
 ·have h1:(nth (states.map SD.st) j)∈states.map SD.st:=nth_mem _ _ (by simp;omega)
  have e3:keyOf (nth (states.map SD.st) j)=keyOf x.st:=by
   have:=congrArg (fun l=>nth l j) hk
   simp only [nth_map' (fun s:Ls Int=>s.l) _ _ hj,nth_map' keyOf (states.map SD.st) j (by simp;omega)] at this
   rw [←this];exact e
  have e4:=key_inj ((hi.reach _ h1).wf hok) (hr.wf hok) e3
  rw [e1,e5]
  refine ⟨hi,e2.trans hk, ?_,e4▸h1,fun s hs=>hs, .inl rfl⟩
  have:=congrArg List.length e2
  simp at this;omega
 ·refine ⟨?_, ?_, ?_,by simp,fun s hs=>by simp at hs⊢;exact .inl hs, .inr rfl⟩
  ·have:=hi.addState hf (by simpa using hil) hr (by simpa using hp) (fun hx=>by
    obtain ⟨j,hj⟩:=List.getElem?_of_mem hx
    obtain ⟨hlt,e⟩:=List.getElem?_eq_some_iff.1 hj
    have hlt' :j<keys.length:=by rw [←hlen];simpa using hlt
    refine hno j hlt' ?_
    have:=congrArg (fun l=>nth l j) hk
    simp only [nth_map' (fun s:Ls Int=>s.l) _ _ hlt',nth_map' keyOf (states.map SD.st) j hlt] at this
    rw [this,nth_lt _ _ hlt,e])
   simpa using this
  ·rw [e2,hk];simp
  ·have:=congrArg List.length e2
   simp at this⊢;omega
theorem keyRel_ok {L:List Int}{x:SD}{states states' :List SD}{keys keys' :List (Ls Int)}{heads before heads' before' :List Int}{full full' :Bool}(h:KeyRel L x states states' keys keys' heads before heads' before' full full'):HeadsOK (keys'.map (·.l)) heads' before' :=by
 rcases h with ⟨_,_,_,h,_⟩|⟨_,_,_,h,_⟩<;>exact h
theorem headsOK0 :HeadsOK (([]:List (Ls Int)).map (·.l)) (List.replicate 4096 (-1)) []:=by
 refine ⟨List.length_replicate,rfl,fun h hh=> .inl ⟨?_,fun j hj=>absurd hj (Nat.not_lt_zero _)⟩,fun i hi=>absurd hi (Nat.not_lt_zero _)⟩
 simp only [nth,List.getD,List.getElem?_replicate,if_pos hh];rfl
theorem bigNoRd {INT WT:TypeId}{rows:List ThL}{X:Prop}{b:Nat}(h:(Asn.big (rowsA INT WT rows)).rd b):X:=by
 obtain ⟨A,hA,hb⟩:=h
 obtain ⟨x,_,hx⟩:=List.mem_flatMap.1 hA
 simp only [thA,List.mem_cons,List.not_mem_nil,or_false] at hx
 rcases hx with rfl|rfl<;>exact Flat.noRd hb
theorem KeyRel.rd {L:List Int}{x:SD}{states states' :Ls SD}{keys keys' :List (Ls Int)}{heads before heads' before' :List Int}{full full' :Bool}(h:KeyRel L x states.l states'.l keys keys' heads before heads' before' full full'){E:TypeId}{b:Nat}(hb:(Asn.own E states').rd b):(Asn.own E states).rd b∨(Asn.rd1 x).rd b:=by
 obtain ⟨i,hi,hb⟩:=hb
 rcases h with ⟨_,e1,_⟩|⟨_,e1,_⟩
 ·rw [e1] at hi hb;exact .inl ⟨i,hi,hb⟩
 ·rw [e1] at hi hb
  simp at hi
  rcases Nat.lt_or_ge i states.l.length with h1|h1
  ·rw [nth_left _ _ _ h1] at hb;exact .inl ⟨i,h1,hb⟩
  ·obtain rfl:i=states.l.length:=by omega
   rw [nth_last] at hb;exact .inr hb
theorem PutRel.rd {o:OutL}{ends ends' :Ls OutL}(h:PutRel o ends.l ends'.l){E:TypeId}{b:Nat}(hb:(Asn.own E ends').rd b):(Asn.own E ends).rd b∨o.words.on b∨o.prints.on b:=by
 obtain ⟨i,hi,hb⟩:=hb
 have hm:=nth_mem _ _ hi
 have key:∀y∈ends.l,Enc.on y b→(Asn.own E ends).rd b:=fun y hy hyb=>by
  obtain ⟨j,hj⟩:=List.getElem?_of_mem hy
  obtain ⟨hlt,e⟩:=List.getElem?_eq_some_iff.1 hj
  exact ⟨j,hlt,by rw [nth_lt _ _ hlt,e];exact hyb⟩
 rcases h with ⟨_,e1⟩|⟨k,_,_,_,e1⟩
 ·exact .inl (key _ (e1▸hm) hb)
 ·rw [e1] at hm hb
  rcases List.mem_append.1 hm with h1|h1
  ·exact .inl (key _ (List.mem_of_mem_take h1) hb)
  ·rcases List.mem_cons.1 h1 with h1|h1
   ·rw [h1] at hb;exact .inr hb
   ·exact .inl (key _ (List.mem_of_mem_drop h1) hb)
theorem ok_lenN {code:Ls (Ls Ins)}{words:Ls Int}{Lk R:Nat}(h:OkPg (pgN code words Lk R)):1≤code.l.length∧code.l.length≤4∧words.l.length≤64∧0≤(Lk:Int)∧(Lk:Int)≤4∧1≤(R:Int)∧(R:Int)≤200:=by
 have h1:=h.code
 have h2:=h.words
 have h3:=h.locks
 have h4:=h.regs
 simp only [pgN,pgOf,List.length_map] at h1 h2 h3 h4
 omega
theorem st_mapAt {states:List SD}{i:Nat}(h:i<states.length):nth (states.map SD.st) i=(nth states i).st:=nth_map' _ _ _ h
theorem by_s (code:Ls (Ls Ins))(words:Ls Int)(Lk R:Nat)(mode:Int)(W:World)(hcode:code.At W)(hwords:words.At W)(hok:OkPg (pgN code words Lk R)):
    Rets Try.prog 18 [.agg #[code.v,words.v, .int .i64 ((Lk:Nat):Int), .int .i64 ((R:Nat):Int)], .int .i64 mode] W (fun v w' =>∃(g:Nat) (full:Bool) (kv hv bv:Value) (states:Ls SD) (ends:Ls OutL),v= .pointer (some ⟨g,0,none⟩)∧(full=true↔Big (pgN code words Lk R) mode)∧(full=false→Sorted_ (ends.l.map OutL.out)∧∀o,o∈ends.l.map OutL.out↔Outs (pgN code words Lk R) mode o)∧ends.l.length≤70000∧(∀o∈ends.l,∀b,Enc.on o b→W.heap.size≤b)∧((full=false→(states.l.map SD.st).Nodup∧∀s,s∈states.l.map SD.st↔Reach (pgN code words Lk R) mode s)∧states.l.length≤4001∧SData W 100 [code.v,words.v, .int .i64 ((Lk:Nat):Int), .int .i64 ((R:Nat):Int), .int .i64 mode] states.l ends.l)∧Sh0 W w' [.blk g 44 [states.v,kv,hv,bv,ends.v, .bool full], .own 92 states, .own 49 ends]):=by
 obtain ⟨hl1,hcl,hwn,_,hlk9,_,hR9⟩:=ok_lenN hok
 have hlk:Lk≤4:=by omega
 have hR:R≤200:=by omega
 refine gen Try.func18 Try.ntmps18 (Sh0.ext2 hcode hwords:Sh (fun _=>False) W W [.at_ code, .at_ words]) rfl fun a10 h10=>gG h10<|sK fun _ k11=>gbx rfl rfl fun b12=>gRn (oM 1 rfl<|.nl)<|nK k11<|sK fun _ k13=>gRn (oV (r_build (cs:= [(.slice none 0 0),(.slice none 0 0),(.slice none 0 0),(.slice none 0 0),(.slice none 0 0), .bool false]) rfl rfl (by kernel_rfl)) rfl<|.nl)<|gbx rfl rfl fun b14=>gRn (oM 1 rfl<|.nl)<|nK k13<|gK fun _ k15=>sG (oM 1 rfl<|.nl)<|gB<|fun a19 w19 h19=> ?_;clear h10
 have h18:=h19.nil (α:=Int) 3
 clear h19
 refine x_loop (fun m a w=>∃(i:Nat) (hl:List Int) (vh:Value),(i≤4096)∧(hl=List.replicate i (-1))∧(hl.length=i)∧St 124 (fun _=>False) W a w [(1, .int .i64 mode),(2, .pointer (some ⟨b12,0,none⟩)),(5, .pointer (some ⟨b14,0,none⟩)),(6, .int .i64 ((i:Nat):Int))] [.blk b14 44 [(.slice none 0 0),(.slice none 0 0),vh,(.slice none 0 0),(.slice none 0 0), .bool false], .blk b12 25 [code.v,words.v, .int .i64 ((Lk:Nat):Int), .int .i64 ((R:Nat):Int)], .at_ code, .at_ words, .own 3 (⟨vh,hl⟩:Ls Int)]∧m=4096-i) ⟨_,0, [],(.slice none 0 0),(by omega),(rfl),(rfl),h18.nrm ⟨rfl,rfl,rfl,rfl,trivial⟩ [1,2,3,4,0] rfl,rfl⟩ ?_
 clear h18
 rintro m17 a17 w17 ⟨i,hl,vh,hi,hhl,hhn,h17,hm17⟩
 refine gG h17<|gK fun _ k20=>sG (oM 1 rfl<|oltN _ 4096 rfl<|.nl)<|?_;clear h17
 refine gcd rfl (fun hb22 hp22=> ?_) fun hb22 hp22=> ?_
 ·skip
  refine gS<|hK k20<|gK fun _ k23=>gB<|gL<|gRn (oM 2 rfl<|onfl 0 fl_44_2 ti_23 rfl rfl<|.nl)<|gE1 (fun _ _ h_=>x_lit (n:=1) (cs:= [.int .i64 (-1)]) ([(-1)]:List Int) h_ sl_23 ti_3 rfl rfl rfl (by decide) rfl (by kernel_rfl) rfl (fun q hq w h=>Flat.inner _ _) (fun q hq b hb=>(Flat.on _ _ hb).elim) rfl rfl) rfl fun v24=>gE1 (fun _ _ h_=>x_app (r:=5) (rm:=0) (s:=(⟨vh,hl⟩:Ls Int)) (m:=(⟨v24, [(-1)]⟩:Ls Int)) h_ sl_23 ti_3 rfl rfl rfl rfl rfl rfl rfl (fun w h=>(h.own 0 rfl)) (fun b hb=>own_on (h_.sh.ok _ (List.mem_of_getElem? (i:=0) rfl)) hb) (fun q hq b hb=>⟨q,hq,hb⟩) rfl rfl rfl inferInstance (show (hl.length+([(-1)]).length)*8≤140737488355328∧hl.length+([(-1)]).length≤140737488355328 from om9) rfl rfl) rfl fun v25=>gRn (onf fl_44_2 rfl<|.nl)<|gsr 1 ti_23 rfl (aO 5 rfl) rfl<|nK k23<|gL<|gRn (oM 1 rfl<|oadN _ 1 om9 rfl<|oM 1 rfl<|.nl)<|nN<|fun a27 w27 h27=>x_again ⟨_, ?_,i+1,hl++([(-1)]),v25, ?_, ?_, ?_,h27.nrm ⟨rfl,rfl,rfl,rfl,trivial⟩ [1,2,3,4,5] rfl,rfl⟩
  · rw [hm17];first|omega|(simp only [lens9];omega)
  · omega
  · rw [hhl,List.replicate_succ']
  · simp [hhn]
 refine gX<|hK k15<|?_
 have hi9:i=4096:=by omega
 refine sK fun _ k28=>gRn (olw 1 ti_25 rfl rfl<|oM 1 rfl<|.nl)<|fun a30 w30 h30=>wl_ex (x_call h30 bd_44 rfl rfl rfl rfl rfl (begin_c code words Lk R mode _ (h30.sh.at 2 rfl) (h30.sh.at 3 rfl) hcl hlk hR hwn)) (wanted_none rfl _) ?_
 rintro a31 w31 ⟨_,⟨g31,rows31,vt31,w31w,o31w,p31w,rfl,hrw31,hw31,ho31,hp31,hs31⟩,hf31⟩
 have hyb:=hrw31;have hyw:=hw31;have hyo:=ho31;have hyp:=hp31
 have h31:=(⟨hf31,h30.sh.call hs31 (by intro A hA b hb;simp only [List.mem_cons,List.not_mem_nil,or_false] at hA;rcases hA with rfl|rfl|rfl|rfl|rfl|rfl<;>first|exact (hb:False).elim|exact Flat.noRd hb|exact bigNoRd hb)⟩:St 124 (fun _=>False) W a31 w31 _ _)
 clear hf31 hs31
 clear h30
 refine gG h31<|gRn (oM 1 rfl<|.nl)<|nK k28<|sK fun _ k32=>gRn (oM 2 rfl<|.nl)<|fun a34 w34 h34=> ?_;clear h31
 have h33:=h34.nil (α:=SD) 92
 clear h34
 have h35:=h33.nilDeep (α:=Ls Int) 23
 clear h33
 have h36:=h35.nil (α:=Int) 3
 clear h35
 have h37:=h36.nil (α:=OutL) 49
 clear h36
 have h38:=h37.sel (L' := [_,_,_,_,_,_,_,_,_,_,_,_,_,_,_]) [4,5,6,7,8,9,0,1,2,3,10,11,12,13,14] rfl
 obtain ⟨x39,hx39⟩:∃x,x=(⟨g31,100, [code.v,words.v, .int .i64 ((Lk:Nat):Int), .int .i64 ((R:Nat):Int), .int .i64 mode],⟨vt31,rows31⟩,w31w,o31w,p31w,false⟩:SD):=⟨_,rfl⟩
 have hfz39:=(Sh.freeze (hd:= [code.v,words.v, .int .i64 ((Lk:Nat):Int), .int .i64 ((R:Nat):Int), .int .i64 mode]) (rows:=rows31) (words:=w31w) (owner:=o31w) (prints:=p31w) (vt:=vt31) h38.sh)
 rw [←hx39] at hfz39
 have hz39:St 124 (fun _=>False) W a34 w34 _ [.rd1 x39, .own 49 (⟨.slice none 0 0, []⟩:Ls OutL), .own 3 (⟨.slice none 0 0, []⟩:Ls Int), .deep 23 (⟨.slice none 0 0, []⟩:Ls (Ls Int)), .own 92 (⟨.slice none 0 0, []⟩:Ls SD), .blk b14 44 [(.slice none 0 0),(.slice none 0 0),vh,(.slice none 0 0),(.slice none 0 0), .bool false], .blk b12 25 [code.v,words.v, .int .i64 ((Lk:Nat):Int), .int .i64 ((R:Nat):Int)], .at_ code, .at_ words, .own 3 (⟨vh,hl⟩:Ls Int)]:=⟨h38.fr,hfz39.1⟩
 clear h38
 have hg39:g31=x39.g:=by rw [hx39]
 have hst39:x39.st=begin_ (pgN code words Lk R):=by rw [hx39];unfold SD.st begin_;simp only [hyb,hyw,hyo,hyp];simp [pgN,pgOf,Function.comp_def,List.map_const']
 have hwf39:WfX code words Lk R x39:=by have h9:=Wf.begin_ hok;rw [←hst39] at h9;exact h9.toX
 have hpl39:x39.prints.l.length=0:=by rw [hx39];simp only [hyp];rfl
 have hdy39:x39.hd= [code.v,words.v, .int .i64 ((Lk:Nat):Int), .int .i64 ((R:Nat):Int), .int .i64 mode]∧x39.E=100∧x39.fell=false∧∀b,Enc.on x39 b→W.heap.size≤b:=⟨by rw [hx39],by rw [hx39],by rw [hx39],fun b hb=>(hfz39.2 b hb).elim (fun h=>h.elim) id⟩
 have h40:=hz39.sel (L' := [_,_,_,_,_,_,_,_,_,_]) [5,4,3,9,2,0,1,6,7,8] rfl
 have hp41:=h40.sh.passL (Lp:= [_,_,_,_,_,_])
 refine wl_ex (x_call h40 bd_45 rfl rfl rfl rfl rfl (by have h9:=put_c _ b14 x39 (⟨.slice none 0 0, []⟩:Ls SD) (⟨.slice none 0 0, []⟩:Ls (Ls Int)) (⟨vh,hl⟩:Ls Int) (⟨.slice none 0 0, []⟩:Ls Int) (.slice none 0 0) false _ _ _ _ _ _ hp41 (by rw [hhl,hi9];exact headsOK0) rfl (by simp) hdy39.1 hdy39.2.1 (by rw [hwf39.thl];exact hcl) (fun i hi=>by have h9:=hwf39.regs i hi;omega) hwf39.wait (by have h9:=hwf39.words;have h8:=hwf39.owner;have h7:=hpl39;omega);rw [←hg39] at h9;exact h9)) (wanted_none rfl _) ?_
 rintro a42 w42 ⟨_,⟨rfl,st42,ke42,he42,be42,fu42,hkr42,hs42⟩,hf42⟩
 have h42:St 124 (fun _=>False) W a42 w42 _ [_,_,_,_,_,_,_,_,_,_]:=⟨hf42,h40.sh.backL (Lp:= [_,_,_,_,_,_]) hs42 (by intro A hA b hb;simp only [List.mem_cons,List.not_mem_nil,or_false] at hA;rcases hA with rfl|rfl|rfl|rfl|rfl|rfl<;>first|exact (hb:False).elim|exact Flat.noRd hb|exact .inl ⟨_,List.mem_cons_self .., .inr hb⟩|exact (hkr42.rd hb).elim (fun h=> .inl ⟨_,List.mem_of_getElem? (i:=1) rfl, .inr h⟩) (fun h=> .inl ⟨_,List.mem_of_getElem? (i:=5) rfl, .inr h⟩)|exact .inl ⟨_,by simp, .inr hb⟩)⟩
 clear hf42 hs42
 clear h40
 refine gG h42<|nK k32<|?_;clear h42
 obtain ⟨hc1,hc2,hc3⟩:st42.l= [x39]∧ke42.l.map (·.l)= [keyOf x39.st]∧fu42=(false||decide (4000<0+1)):=by rcases hkr42 with ⟨⟨j,hj,_⟩,_⟩|⟨_,e1,e2,_,e3⟩;exact absurd hj (by simp);exact ⟨e1,e2,e3⟩
 have hinv0:Inv (pgN code words Lk R) mode (st42.l.map SD.st) (([]:List OutL).map OutL.out) fu42 0:=by rw [hc1,hc3];exact Inv.first _ hst39
 have hkey0:ke42.l.map (·.l)=(st42.l.map SD.st).map keyOf:=by rw [hc2,hc1];rfl
 have hhok0:=keyRel_ok hkr42
 have hlen0:st42.l.length=ke42.l.length:=by have h9:=congrArg List.length hc2;simp at h9;rw [hc1];simp [h9]
 have hsd0:SData W 100 [code.v,words.v, .int .i64 ((Lk:Nat):Int), .int .i64 ((R:Nat):Int), .int .i64 mode] st42.l ([]:List OutL):=⟨fun y hy=>(by rw [hc1] at hy;obtain rfl:y=x39:=(by simpa using hy);exact hdy39),fun o ho=>(by cases ho)⟩
 have hel0:([]:List OutL).length≤16*0:=by simp
 refine gK fun _ k43=>sG (oM 1 rfl<|.nl)<|gB<|fun a46 w46 h46=>x_loop (fun m a w=>∃(i:Nat) (full:Bool) (states:Ls SD) (keys:Ls (Ls Int)) (heads before:Ls Int) (ends:Ls OutL),(i≤states.l.length)∧(Inv (pgN code words Lk R) mode (states.l.map SD.st) (ends.l.map OutL.out) full i)∧(keys.l.map (·.l)=(states.l.map SD.st).map keyOf)∧(HeadsOK (keys.l.map (·.l)) heads.l before.l)∧(states.l.length=keys.l.length)∧(SData W 100 [code.v,words.v, .int .i64 ((Lk:Nat):Int), .int .i64 ((R:Nat):Int), .int .i64 mode] states.l ends.l)∧(ends.l.length≤16*i)∧St 124 (fun _=>False) W a w [(5, .pointer (some ⟨b14,0,none⟩)),(8, .int .i64 ((i:Nat):Int))] [.blk b14 44 [states.v,keys.v,heads.v,before.v,ends.v, .bool full], .own 92 states, .deep 23 keys, .own 3 heads, .own 3 before, .rd1 x39, .own 49 ends, .blk b12 25 [code.v,words.v, .int .i64 ((Lk:Nat):Int), .int .i64 ((R:Nat):Int)], .at_ code, .at_ words]∧m=4002-i) ⟨_,0,fu42,st42,ke42,he42,be42,(⟨.slice none 0 0, []⟩:Ls OutL),(by omega),(hinv0),(hkey0),(hhok0),(hlen0),(hsd0),(hel0),h46.nf ⟨rfl,rfl,trivial⟩,rfl⟩ ?_
 clear h46
 rintro m45 a45 w45 ⟨i,full,states,keys,heads,before,ends,hi,hinv,hkey,hhok,hlen,hsd,hel,h45,hm45⟩
 refine gG h45<|gK fun _ k47=>sK fun _ k48=>gNl (aO 1 rfl) fun hl49=>gRn (oM 2 rfl<|onfl 0 fl_44_0 ti_41 rfl rfl<|oln sl_41 (aO 1 rfl) rfl<|oltN _ _ rfl<|oM 1 rfl<|.nl)<|?_;clear h45
 rcases dsp (i<states.l.length) with ⟨hb50,hp50⟩|⟨hb50,hp50⟩
 ·skip
  refine gRn (oG hb50 (r_move rfl rfl) rfl<|oG hb50 (r_nil rfl rfl) rfl<|oG hb50 (r_fieldB (r:=5) fl_44_5 rfl rfl rfl) rfl<|oG hb50 (r_ldb (i:=0) ti_4 rfl rfl rfl rfl) rfl<|oG hb50 (r_not rfl rfl) rfl<|opT hb50 rfl<|.nl)<|nK k48<|gCb rfl (fun hb51=> ?_) fun hb51=> ?_
  ·have hn51:full=false:=(Bool.not_eq_true' _).mp hb51
   refine gS<|hK k47<|gK fun _ k52=>gB<|sG (oM 1 rfl<|onfl 0 fl_44_0 ti_41 rfl rfl<|oM 1 rfl<|oxN sl_41 ti_92 (aO 1 rfl) _ om9 rfl<|olE (.pointer (some ⟨(nth states.l i).g,0,none⟩)) ti_92 (aO 1 rfl) om9 rfl<|oM 1 rfl<|.nl)<|fun a55 w55 h55=> ?_
   obtain ⟨x,hxx⟩:∃x,x=nth states.l i:=⟨_,rfl⟩
   rw [←hxx] at h55
   have hil:i<states.l.length:=by omega
   have hxm:x∈states.l:=by rw [hxx];exact nth_mem _ _ hil
   have hxs:x.st∈states.l.map SD.st:=List.mem_map.2 ⟨x,hxm,rfl⟩
   have hxi:nth (states.l.map SD.st) i=x.st:=by rw [st_mapAt hil,←hxx]
   have hws:=(hinv.reach _ hxs).wf hok
   have hwx:=hws.toX
   obtain ⟨hd1,hd2,hd3,hd4⟩:=hsd.hd x hxm
   have hin54:=(h55.sh.own 1 rfl).inner i (by omega)
   rw [←hxx] at hin54
   obtain ⟨hn1,hn2,hn3,hn4,hn5⟩:=(show Enc.inner x _ from hin54)
   rw [hd2,SD.cells,hd1,hd3] at hn1
   have hprx:x.prints.l.length≤2*i:=by have h9:=hinv.pr i (by simpa using hil);rw [hxi] at h9;exact h9
   have hnl:states.l.length≤4001:=by have h9:=hinv.len;simpa using h9
   have hxl:x.words.l.length≤100000∧x.owner.l.length≤100000∧x.prints.l.length≤100000000:=by have h9:=hwx.words;have h8:=hwx.owner;omega
   have h56:=h55.addRd (A:= .rblk x.g 100 [code.v,words.v, .int .i64 ((Lk:Nat):Int), .int .i64 ((R:Nat):Int), .int .i64 mode,x.thr.v,x.words.v,x.owner.v,x.prints.v, .bool false]) hn1 (fun b hb=>hb) (fun b hb=>⟨.own 92 states,List.mem_of_getElem? (i:=1) rfl,i,hil,by rw [←hxx];exact .inl hb⟩)
   clear h55
   have h57:=h56.addRd (A:= .at_ x.thr) hn2 (fun b hb=>hb) (fun b hb=>⟨.own 92 states,List.mem_of_getElem? (i:=2) rfl,i,hil,by rw [←hxx];exact .inr (.inl hb)⟩)
   clear h56
   have h58:=h57.addRd (A:= .at_ x.words) hn3 (fun b hb=>hb) (fun b hb=>⟨.own 92 states,List.mem_of_getElem? (i:=3) rfl,i,hil,by rw [←hxx];exact .inr (.inr (.inl hb))⟩)
   clear h57
   have h59:=h58.addRd (A:= .at_ x.owner) hn4 (fun b hb=>hb) (fun b hb=>⟨.own 92 states,List.mem_of_getElem? (i:=4) rfl,i,hil,by rw [←hxx];exact .inr (.inr (.inr (.inl hb)))⟩)
   clear h58
   have h60:=h59.addRd (A:= .at_ x.prints) hn5 (fun b hb=>hb) (fun b hb=>⟨.own 92 states,List.mem_of_getElem? (i:=5) rfl,i,hil,by rw [←hxx];exact .inr (.inr (.inr (.inr hb)))⟩)
   clear h59
   skip
   refine gG h60<|sK fun _ k61=>gRn (oM 1 rfl<|.nl)<|gP (fun _ _ h_=>xCl h_ bd_46 rfl (ended_c x.g code x.thr _ _ _ _ _ _ _ _ _ (h_.sh.rblk 4 rfl) (h_.sh.at 13 rfl) (h_.sh.at 3 rfl) hcl hwx.thl (fun t ht=>(hwx.pc t ht).1))) rfl<|gRn (oM 1 rfl<|.nl)<|nK k61<|gF [5,8,9,10] rfl<|sK fun _ k63=>gRn (oM 1 rfl<|.nl)<|fun a65 w65 h65=>wl_ex (x_call h65 bd_47 rfl rfl rfl rfl rfl (moves_c x.g code x.thr x.owner _ _ _ _ _ _ _ _ (h65.sh.rblk 4 rfl) (h65.sh.at 13 rfl) (h65.sh.at 3 rfl) (h65.sh.at 1 rfl) hcl hwx.thl (fun t ht=>(hwx.pc t ht).1) (fun t ht i hi h17=>by have h9:=lock_N hok ht hi h17;rw [hwx.owner];exact h9) (fun t ht=>hwx.wait t (by rw [hwx.thl];exact ht)))) (wanted_none rfl _) ?_;clear h60
   rintro a66 w66 ⟨_,⟨ml66,rfl,hml66,hs66⟩,hf66⟩
   rw [moves_eq (Lk:=Lk) (R:=R) (words:=words) hwx.thl] at hml66
   have hmv:=hml66
   have hmvl:ml66.l.length≤16:=by rw [hmv];exact moves_len hwx.thl hcl hwx.wait
   have h66:St _ (fun _=>False) W a66 w66 _ _:=⟨hf66,h65.sh.callI hs66⟩
   clear hf66 hs66
   clear h65
   refine gG h66<|gRn (oM 1 rfl<|.nl)<|nK k63<|gK fun _ k67=>sG (oM 1 rfl<|.nl)<|?_;clear h66
   refine gCb rfl (fun hb69=> ?_) fun hb69=> ?_
   ·skip
    refine gK fun _ k70=>rT 10 [] (oM 2 rfl<|onf fl_100_3 rfl<|olR 5 ti_23 rfl rfl<|oM 1 rfl<|onf fl_100_5 rfl<|olR 5 ti_23 rfl rfl<|oV (r_buildS (cs:= [.int .i64 0,x.words.v,x.prints.v]) rfl rfl (fun w h=>by obtain ⟨A72,n72,c72,(e72:x.prints.v=_)⟩:=((h.at 1 rfl)).form;rw [e72];obtain ⟨A71,n71,c71,(e71:x.words.v=_)⟩:=((h.at 3 rfl)).form;rw [e71];kernel_rfl)) rfl<|.nl)<|gO [6,12,3,1,0,2,4,5,7,8,9,10,11,13,14,15] rfl<|fun a78 w78 h78=> ?_
    have hp77:=h78.sh.passL (Lp:= [_,_,_,_])
    refine wl_ex (x_call h78 bd_48 rfl rfl rfl rfl rfl (putO_c _ _ (⟨0,x.words,x.prints⟩:OutL) ends _ _ _ _ _ _ hp77 (by omega))) (wanted_none rfl _) ?_
    rintro a79 w79 ⟨_,⟨rfl,en79,hpr79,hs79⟩,hf79⟩
    have h79:St 124 (fun _=>False) W a79 w79 _ [_,_,_,_,_,_,_,_,_,_,_,_,_,_,_,_]:=⟨hf79,h78.sh.backL (Lp:= [_,_,_,_]) hs79 (by intro A hA b hb;simp only [List.mem_cons,List.not_mem_nil,or_false] at hA;rcases hA with rfl|rfl|rfl|rfl<;>first|exact (hb:False).elim|exact Flat.noRd hb|exact .inl ⟨_,List.mem_cons_self .., .inr hb⟩|exact (hpr79.rd hb).elim (fun h=> .inl ⟨_,List.mem_of_getElem? (i:=1) rfl, .inr h⟩) (fun h=>h.elim (fun h=> .inl ⟨_,List.mem_of_getElem? (i:=2) rfl, .inr h⟩) (fun h=> .inl ⟨_,List.mem_of_getElem? (i:=3) rfl, .inr h⟩))|exact .inl ⟨_,by simp, .inr hb⟩)⟩
    clear hf79 hs79
    clear h78
    refine gG h79<|nK k70<|gX<|hK k52<|gL<|gRn (oM 1 rfl<|oadN _ 1 om9 rfl<|oM 1 rfl<|.nl)<|nN<|?_;clear h79
    have hps:=hpr79.sorted hinv.sorted
    have hinvN:=hinv.ended (by simpa using hil) (by rw [hxi,←ended_eq hwx.thl];assumption) hps.1 (by intro y;rw [hps.2 y,hxi];rfl)
    obtain ⟨hsdN,hle9⟩:=hsd.put hpr79 (fun b hb=>hd4 b (hb.elim (fun hb=> .inr (.inr (.inl hb))) (fun hb=> .inr (.inr (.inr (.inr hb))))))
    have helN:en79.l.length≤16*(i+1):=by omega
    have hiN:i+1≤states.l.length:=by omega
    intro a80 w80 h80
    refine x_again ⟨_, ?_,(i+1),full,states,keys,heads,before,en79, ?_, ?_, ?_, ?_, ?_, ?_, ?_,h80.nrm ⟨rfl,rfl,trivial⟩ [0,8,9,10,11,12,1,13,14,15] rfl,rfl⟩
    · rw [hm45];omega
    · first|exact hiN|omega
    · first|exact hinvN|exact hinv
    · first|exact hkeyN|exact hkey
    · first|exact hhokN|exact hhok
    · first|exact hlenN|exact hlen
    · first|exact hsdN|exact hsd
    · first|exact helN|omega
   refine gS<|hK k67<|gK fun _ k81=>sK fun _ k82=>gNl (aO 0 rfl) fun hl83=>gRn (oM 1 rfl<|oln sl_23 (aO 0 rfl) rfl<|oeqN _ 0 rfl<|.nl)<|nK k82<|gcd rfl (fun hb84 hp84=> ?_) fun hb84 hp84=> ?_
   ·skip
    refine gK fun _ k85=>rT 10 [] (oM 2 rfl<|onf fl_100_3 rfl<|olR 5 ti_23 rfl rfl<|oM 1 rfl<|onf fl_100_5 rfl<|olR 5 ti_23 rfl rfl<|oV (r_buildS (cs:= [.int .i64 2,x.words.v,x.prints.v]) rfl rfl (fun w h=>by obtain ⟨A87,n87,c87,(e87:x.prints.v=_)⟩:=((h.at 1 rfl)).form;rw [e87];obtain ⟨A86,n86,c86,(e86:x.words.v=_)⟩:=((h.at 3 rfl)).form;rw [e86];kernel_rfl)) rfl<|.nl)<|gO [6,12,3,1,0,2,4,5,7,8,9,10,11,13,14,15] rfl<|fun a93 w93 h93=> ?_
    have hp92:=h93.sh.passL (Lp:= [_,_,_,_])
    refine wl_ex (x_call h93 bd_48 rfl rfl rfl rfl rfl (putO_c _ _ (⟨2,x.words,x.prints⟩:OutL) ends _ _ _ _ _ _ hp92 (by omega))) (wanted_none rfl _) ?_
    rintro a94 w94 ⟨_,⟨rfl,en94,hpr94,hs94⟩,hf94⟩
    have h94:St 124 (fun _=>False) W a94 w94 _ [_,_,_,_,_,_,_,_,_,_,_,_,_,_,_,_]:=⟨hf94,h93.sh.backL (Lp:= [_,_,_,_]) hs94 (by intro A hA b hb;simp only [List.mem_cons,List.not_mem_nil,or_false] at hA;rcases hA with rfl|rfl|rfl|rfl<;>first|exact (hb:False).elim|exact Flat.noRd hb|exact .inl ⟨_,List.mem_cons_self .., .inr hb⟩|exact (hpr94.rd hb).elim (fun h=> .inl ⟨_,List.mem_of_getElem? (i:=1) rfl, .inr h⟩) (fun h=>h.elim (fun h=> .inl ⟨_,List.mem_of_getElem? (i:=2) rfl, .inr h⟩) (fun h=> .inl ⟨_,List.mem_of_getElem? (i:=3) rfl, .inr h⟩))|exact .inl ⟨_,by simp, .inr hb⟩)⟩
    clear hf94 hs94
    clear h93
    refine gG h94<|nK k85<|gX<|hK k52<|gL<|gRn (oM 1 rfl<|oadN _ 1 om9 rfl<|oM 1 rfl<|.nl)<|nN<|?_;clear h94
    have hps:=hpr94.sorted hinv.sorted
    have hinvN:=hinv.stuck (by simpa using hil) (by rw [hxi,←ended_eq hwx.thl];assumption) (by rw [hxi,←hmv];exact List.eq_nil_of_length_eq_zero (by omega)) hps.1 (by intro y;rw [hps.2 y,hxi];rfl)
    obtain ⟨hsdN,hle9⟩:=hsd.put hpr94 (fun b hb=>hd4 b (hb.elim (fun hb=> .inr (.inr (.inl hb))) (fun hb=> .inr (.inr (.inr (.inr hb))))))
    have helN:en94.l.length≤16*(i+1):=by omega
    have hiN:i+1≤states.l.length:=by omega
    intro a95 w95 h95
    refine x_again ⟨_, ?_,(i+1),full,states,keys,heads,before,en94, ?_, ?_, ?_, ?_, ?_, ?_, ?_,h95.nrm ⟨rfl,rfl,trivial⟩ [0,8,9,10,11,12,1,13,14,15] rfl,rfl⟩
    · rw [hm45];omega
    · first|exact hiN|omega
    · first|exact hinvN|exact hinv
    · first|exact hkeyN|exact hkey
    · first|exact hhokN|exact hhok
    · first|exact hlenN|exact hlen
    · first|exact hsdN|exact hsd
    · first|exact helN|omega
   refine gS<|hK k81<|sG (oM 1 rfl<|.nl)<|gB<|?_
   have hmv0:ml66.l.length≠0:=by omega
   intro a98 w98 h98
   refine x_loop (fun m a w=>∃(k:Nat) (full2:Bool) (states2:Ls SD) (keys2:Ls (Ls Int)) (heads2 before2:Ls Int) (ends2:Ls OutL),(k≤ml66.l.length)∧(Inv (pgN code words Lk R) mode (states2.l.map SD.st) (ends2.l.map OutL.out) full2 i)∧(keys2.l.map (·.l)=(states2.l.map SD.st).map keyOf)∧(HeadsOK (keys2.l.map (·.l)) heads2.l before2.l)∧(states2.l.length=keys2.l.length)∧(SData W 100 [code.v,words.v, .int .i64 ((Lk:Nat):Int), .int .i64 ((R:Nat):Int), .int .i64 mode] states2.l ends2.l)∧(ends2.l.length≤16*i+k)∧(states.l.length≤states2.l.length)∧(nth (states2.l.map SD.st) i=x.st)∧(x∈states2.l)∧(full2=false→∀q,q<k→HandM (pgN code words Lk R) mode (states2.l.map SD.st) (ends2.l.map OutL.out) x.st (nth ml66.l q))∧St 124 (fun _=>False) W a w [(5, .pointer (some ⟨b14,0,none⟩)),(8, .int .i64 ((i:Nat):Int)),(9, .pointer (some ⟨x.g,0,none⟩)),(11,ml66.v),(12, .int .i64 ((k:Nat):Int))] [.own 3 ml66, .at_ x.prints, .at_ x.owner, .at_ x.words, .at_ x.thr, .rblk x.g 100 [code.v,words.v, .int .i64 ((Lk:Nat):Int), .int .i64 ((R:Nat):Int), .int .i64 mode,x.thr.v,x.words.v,x.owner.v,x.prints.v, .bool false], .blk b14 44 [states2.v,keys2.v,heads2.v,before2.v,ends2.v, .bool full2], .own 92 states2, .deep 23 keys2, .own 3 heads2, .own 3 before2, .rd1 x39, .own 49 ends2, .blk b12 25 [code.v,words.v, .int .i64 ((Lk:Nat):Int), .int .i64 ((R:Nat):Int)], .at_ code, .at_ words]∧m=ml66.l.length-k) ⟨_,0,full,states,keys,heads,before,ends,(by omega),(hinv),(hkey),(hhok),(hlen),(hsd),(by omega),(Nat.le_refl _),(hxi),(hxm),(fun _ q hq=>absurd hq (by omega)),h98.nf ⟨rfl,rfl,rfl,rfl,rfl,trivial⟩,rfl⟩ ?_
   clear h98
   rintro m97 a97 w97 ⟨k,full2,states2,keys2,heads2,before2,ends2,hk,hinv2,hkey2,hhok2,hlen2,hsd2,hel2,hle2,hx2,hrd2,hhand,h97,hm97⟩
   refine gG h97<|gK fun _ k99=>sK fun _ k100=>gRn (oM 2 rfl<|oln sl_23 (aO 0 rfl) rfl<|oltN _ _ rfl<|oM 1 rfl<|.nl)<|?_;clear h97
   rcases dsp (k<ml66.l.length) with ⟨hb101,hp101⟩|⟨hb101,hp101⟩
   ·skip
    refine gRn (oG hb101 (r_move rfl rfl) rfl<|oG hb101 (r_nil rfl rfl) rfl<|oG hb101 (r_fieldB (r:=5) fl_44_5 rfl rfl rfl) rfl<|oG hb101 (r_ldb (i:=6) ti_4 rfl rfl rfl rfl) rfl<|oG hb101 (r_not rfl rfl) rfl<|opT hb101 rfl<|.nl)<|nK k100<|gCb rfl (fun hb102=> ?_) fun hb102=> ?_
    ·have hn102:full2=false:=(Bool.not_eq_true' _).mp hb102
     refine gS<|hK k99<|gK fun _ k103=>gB<|sK fun _ k104=>gRn (oM 1 rfl<|.nl)<|fun a106 w106 h106=>wl_ex (x_call h106 bd_49 rfl rfl rfl rfl rfl (copy_c x.g x.thr x.words x.owner x.prints _ _ _ _ _ _ _ (h106.sh.rblk 5 rfl) (h106.sh.at 4 rfl) (h106.sh.at 3 rfl) (h106.sh.at 2 rfl) (h106.sh.at 1 rfl) (by rw [hwx.thl];exact hcl) (fun i hi=>by have h9:=hwx.regs i hi;omega) hwx.wait hxl)) (wanted_none rfl _) ?_
     rintro a107 w107 ⟨_,⟨g107,rows107,vt107,w107w,o107w,p107w,rfl,hrw107,hw107,ho107,hp107,hs107⟩,hf107⟩
     have h107:=(⟨hf107,h106.sh.call hs107 (by intro A hA b hb;simp only [List.mem_cons,List.not_mem_nil,or_false] at hA;rcases hA with rfl|rfl|rfl|rfl|rfl|rfl<;>first|exact (hb:False).elim|exact Flat.noRd hb|exact bigNoRd hb)⟩:St 124 (fun _=>False) W a107 w107 _ _)
     clear hf107 hs107
     clear h106
     refine gG h107<|gRn (oM 1 rfl<|.nl)<|nK k104<|sK fun _ k108=>gRn (oM 3 rfl<|oxN sl_23 ti_3 (aO 6 rfl) _ om9 rfl<|olI ti_3 (aO 6 rfl) om9 rfl<|.nl)<|?_;clear h107
     obtain ⟨t,kk,htt,hkk,hmt⟩:=mem_moves.1 (by rw [←hmv];exact nth_mem ml66.l k (by omega))
     rw [pgN_len] at htt
     have hk3:kk≤3:=mvOK_le hkk ((hws.th t (by rw [pgN_len];exact htt)).wait)
     obtain ⟨hrl,hra⟩:=rows_at hrw107
     obtain ⟨hr1,hr2,hr3⟩:=hra t (by rw [hwx.thl];exact htt)
     have hpcx:=hwx.pc t htt
     have h400:(nth code.l t).l.length≤400:=by have h9:=hok.len t (by rw [pgN_len];exact htt);rwa [pgN_code htt] at h9
     have hkw:kk≤(nth rows107 t).wait.l.length∧(kk=0→(nth x.thr.l t).pc<(nth code.l t).l.length):=by rw [hr3];rw [pgN_code htt,st_view (by rw [hwx.thl];exact htt)] at hkk;rcases mvOK_k hkk with ⟨e9,h9,_⟩|⟨h9,h8,_⟩;exact ⟨by omega,fun _=>h9⟩;exact ⟨h8,fun e=>by omega⟩
     intro a110 w110 h110
     have h109:=h110.same (d:=107) (v' := .int .i64 ((8*t+kk:Nat):Int)) rfl (by rw [hmt])
     clear h110
     have h111:=h109.sel (L' := [_,_,_,_,_,_,_,_,_,_,_,_,_,_,_,_,_,_,_,_,_,_]) [0,1,2,3,4,5,20,6,7,8,9,10,11,12,13,14,15,16,17,18,19,21] rfl
     have hp112:=h111.sh.passL (Lp:= [_,_,_,_,_,_,_])
     refine wl_ex (x_call h111 bd_50 rfl rfl rfl rfl rfl (do_tk _ g107 (8*t+kk) t kk code vt107 rows107 w107w o107w p107w _ _ _ mode false _ hp112 (by omega) (by omega) (by rw [hrl,hwx.thl];exact htt) htt (by omega) (by rw [hr1];omega) (by rw [hr3];exact hwx.wait t (by rw [hwx.thl];exact htt)) hkw.1 (by rw [hp107];exact hxl.2.2) (by rw [ho107];have h9:=hwx.owner;omega) (by rw [hr3,ho107,hw107];exact hwx.wt t (by rw [hwx.thl];exact htt)) (fun e=>by rw [hr1,hr2,hw107,ho107,hwx.regs t (by rw [hwx.thl];exact htt),hwx.words,hwx.owner];exact insR_N hok htt hpcx.1 (hkw.2 e)))) (wanted_none rfl _) ?_
     rintro a113 w113 ⟨_,⟨rfl,rows113,w113w,o113w,p113w,f113w,y113,hy113,hyr113,hyw113,hyo113,hyp113,hyf113,hs113⟩,hf113⟩
     change Sh _ _ _ [.blk g107 100 [code.v,words.v, .int .i64 ((Lk:Nat):Int), .int .i64 ((R:Nat):Int), .int .i64 mode,vt107,w113w.v,o113w.v,p113w.v, .bool f113w], .own 136 (⟨vt107,rows113.map ThL.toV⟩:Ls ThV), .big (rowsA 3 144 rows113), .own 3 w113w, .own 3 o113w, .own 3 p113w, .at_ code] at hs113
     have h113:St 124 (fun _=>False) W a113 w113 _ [_,_,_,_,_,_,_,_,_,_,_,_,_,_,_,_,_,_,_,_,_,_]:=⟨hf113,h111.sh.backL (Lp:= [_,_,_,_,_,_,_]) hs113 (by intro A hA b hb;simp only [List.mem_cons,List.not_mem_nil,or_false] at hA;rcases hA with rfl|rfl|rfl|rfl|rfl|rfl|rfl<;>first|exact (hb:False).elim|exact Flat.noRd hb|exact .inl ⟨_,List.mem_cons_self .., .inr hb⟩|exact bigNoRd hb|exact .inl ⟨_,List.mem_of_getElem? (i:=6) rfl, .inr hb⟩|exact .inl ⟨_,by simp, .inr hb⟩)⟩
     clear hf113 hs113
     clear h111
     refine gG h113<|nK k108<|sG (oM 1 rfl<|onfl 0 fl_100_6 ti_4 rfl rfl<|.nl)<|?_;clear h113
     refine gCb rfl (fun hb115=> ?_) fun hb115=> ?_
     ·skip
      obtain ⟨hya,_⟩:=st_step (x:=x) (z:=x) (rows' :=rows113) htt hwx.thl hrw107 hw107 ho107 hp107 hy113
      have hfy:(stepT (pgN code words Lk R) mode x.st t kk).fell=true:=by rw [←hya,←hyf113];assumption
      have hyps:p113w.l=(stepT (pgN code words Lk R) mode x.st t kk).prints:=by rw [hyp113,hya]
      refine gL<|gRn (oM 2 rfl<|onfl 0 fl_100_5 ti_23 rfl rfl<|oV (r_buildS (cs:= [.int .i64 1,(.slice none 0 0),p113w.v]) rfl rfl (fun w h=>by obtain ⟨A116,n116,c116,(e116:p113w.v=_)⟩:=((h.own 5 rfl)).form;rw [e116];kernel_rfl)) rfl<|.nl)<|fun a118 w118 h118=> ?_
      have h117:=h118.addRd (A:= .at_ (⟨.slice none 0 0, []⟩:Ls Int)) (LsNil _) (fun b hb=>hb) (fun b hb=>(nilOn hb).elim)
      clear h118
      have hnw119:=h117.sh.own_new 6 rfl
      have h119:St 124 (fun _=>False) W a118 w118 _ _:=⟨h117.fr,h117.sh.share 6 rfl⟩
      clear h117
      have h120:=h119.sel (L' := [_,_,_,_,_,_,_,_,_,_,_,_,_,_,_,_,_,_,_,_,_,_,_]) [14,20,0,6,1,2,3,4,5,7,8,9,10,11,12,13,15,16,17,18,19,21,22] rfl
      have hp121:=h120.sh.passL (Lp:= [_,_,_,_])
      refine wl_ex (x_call h120 bd_48 rfl rfl rfl rfl rfl (putO_c _ _ (⟨1,(⟨.slice none 0 0, []⟩:Ls Int),p113w⟩:OutL) ends2 _ _ _ _ _ _ hp121 (by omega))) (wanted_none rfl _) ?_
      rintro a122 w122 ⟨_,⟨rfl,en122,hpr122,hs122⟩,hf122⟩
      have h122:St 124 (fun _=>False) W a122 w122 _ [_,_,_,_,_,_,_,_,_,_,_,_,_,_,_,_,_,_,_,_,_,_,_]:=⟨hf122,h120.sh.backL (Lp:= [_,_,_,_]) hs122 (by intro A hA b hb;simp only [List.mem_cons,List.not_mem_nil,or_false] at hA;rcases hA with rfl|rfl|rfl|rfl<;>first|exact (hb:False).elim|exact Flat.noRd hb|exact .inl ⟨_,List.mem_cons_self .., .inr hb⟩|exact (hpr122.rd hb).elim (fun h=> .inl ⟨_,List.mem_of_getElem? (i:=1) rfl, .inr h⟩) (fun h=>h.elim (fun h=> .inl ⟨_,List.mem_of_getElem? (i:=2) rfl, .inr h⟩) (fun h=> .inl ⟨_,List.mem_of_getElem? (i:=3) rfl, .inr h⟩))|exact .inl ⟨_,by simp, .inr hb⟩)⟩
      clear hf122 hs122
      clear h120
      refine gG h122<|nK k103<|gF [5,8,9,11,12] rfl<|gL<|gRn (oM 1 rfl<|oadN _ 1 om9 rfl<|oM 1 rfl<|.nl)<|nN<|?_;clear h122
      have hps:=hpr122.sorted hinv2.sorted
      have hinvM:=hinv2.addOut (.fell (hinv.reach _ hxs) (by rw [pgN_len];exact htt) hkk hfy) hps.1 (by intro y;rw [hps.2 y];simp only [OutL.out,hyps])
      obtain ⟨hsdM,hle9⟩:=hsd2.put hpr122 (fun b hb=>hb.elim (fun hb=>(nilOn hb).elim) (fun hb=>(hnw119 b hb).elim (fun h=>h.elim) id))
      have hkeyM:=hkey2;have hhokM:=hhok2;have hlenM:=hlen2;have hleM:=hle2;have hxM:=hx2;have hrdM:=hrd2
      have helM:en122.l.length≤16*i+(k+1):=by omega
      have hhandM:full2=false→∀q,q<k+1→HandM (pgN code words Lk R) mode (states2.l.map SD.st) (en122.l.map OutL.out) x.st (nth ml66.l q):=by
       intro hf q hq;rcases Nat.lt_or_ge q k with h9|h9;exact (hhand hf q h9).mono (fun _ h=>h) (fun y hy=>(hps.2 y).2 (.inl hy));obtain rfl:q=k:=(by omega);exact HandM.of hmt hk3 (by unfold Handled;rw [if_pos hfy];exact (hps.2 _).2 (.inr (by simp only [OutL.out,hyps])))
      intro a123 w123 h123
      refine x_again ⟨_, ?_,(k+1),full2,states2,keys2,heads2,before2,en122, ?_, ?_, ?_, ?_, ?_, ?_, ?_, ?_, ?_, ?_, ?_,h123.nrm ⟨rfl,rfl,rfl,rfl,rfl,trivial⟩ [10,11,12,13,14,15,0,16,17,18,19,20,1,21,9,22] rfl,rfl⟩
      · rw [hm97];first|omega|(simp only [lens9];omega)
      · omega
      · exact hinvM
      · exact hkeyM
      · exact hhokM
      · exact hlenM
      · exact hsdM
      · exact helM
      · exact hleM
      · exact hxM
      · exact hrdM
      · exact hhandM
     refine gL<|gRn (oM 2 rfl<|.nl)<|?_
     have hff124:f113w=false:=by assumption
     intro a125 w125 h125
     rw [hff124] at h125
     obtain ⟨x124,hx124⟩:∃x,x=(⟨g107,100, [code.v,words.v, .int .i64 ((Lk:Nat):Int), .int .i64 ((R:Nat):Int), .int .i64 mode],⟨vt107,rows113⟩,w113w,o113w,p113w,false⟩:SD):=⟨_,rfl⟩
     have hfz124:=(Sh.freeze (hd:= [code.v,words.v, .int .i64 ((Lk:Nat):Int), .int .i64 ((R:Nat):Int), .int .i64 mode]) (rows:=rows113) (words:=w113w) (owner:=o113w) (prints:=p113w) (vt:=vt107) h125.sh)
     rw [←hx124] at hfz124
     have hz124:St 124 (fun _=>False) W a125 w125 _ [.rd1 x124, .at_ code, .own 3 ml66, .at_ x.prints, .at_ x.owner, .at_ x.words, .at_ x.thr, .rblk x.g 100 [code.v,words.v, .int .i64 ((Lk:Nat):Int), .int .i64 ((R:Nat):Int), .int .i64 mode,x.thr.v,x.words.v,x.owner.v,x.prints.v, .bool false], .blk b14 44 [states2.v,keys2.v,heads2.v,before2.v,ends2.v, .bool full2], .own 92 states2, .deep 23 keys2, .own 3 heads2, .own 3 before2, .rd1 x39, .own 49 ends2, .blk b12 25 [code.v,words.v, .int .i64 ((Lk:Nat):Int), .int .i64 ((R:Nat):Int)], .at_ words]:=⟨h125.fr,hfz124.1⟩
     clear h125
     have hg124:g107=x124.g:=by rw [hx124]
     obtain ⟨hya,hyb⟩:=st_step (x:=x) (z:=x124) (rows' :=rows113) htt hwx.thl hrw107 hw107 ho107 hp107 hy113
     have hst124:x124.st=x.st.putT t (stepT (pgN code words Lk R) mode x.st t kk):=by rw [←hya];exact hyb (by rw [hx124]) hyr113 (by rw [hx124];exact hyw113) (by rw [hx124];exact hyo113) (by rw [hx124];exact hyp113)
     have hfy:(stepT (pgN code words Lk R) mode x.st t kk).fell=false:=by rw [←hya,←hyf113];assumption
     have hry124:Reach (pgN code words Lk R) mode x124.st:=by rw [hst124];exact .step (hinv.reach _ hxs) (by rw [pgN_len];exact htt) hkk hfy
     have hwf124:=(hry124.wf hok).toX
     have hpy124:x124.st.prints.length≤2*states2.l.length:=by rw [hst124];have h9:=doT_prints mode t (nth (pgN code words Lk R).code t) kk (x.st.view t);have h8:(x.st.view t).prints.length=x.prints.l.length:=rfl;have h7:(x.st.putT t (stepT (pgN code words Lk R) mode x.st t kk)).prints=(stepT (pgN code words Lk R) mode x.st t kk).prints:=rfl;rw [h7];unfold stepT;omega
     have hpl124:x124.prints.l.length≤100000000:=by have h9:x124.st.prints.length=x124.prints.l.length:=rfl;have h8:=hinv2.len;simp at h8;omega
     have hdy124:x124.hd= [code.v,words.v, .int .i64 ((Lk:Nat):Int), .int .i64 ((R:Nat):Int), .int .i64 mode]∧x124.E=100∧x124.fell=false∧∀b,Enc.on x124 b→W.heap.size≤b:=⟨by rw [hx124],by rw [hx124],by rw [hx124],fun b hb=>(hfz124.2 b hb).elim (fun h=>h.elim) id⟩
     have h126:=hz124.sel (L' := [_,_,_,_,_,_,_,_,_,_,_,_,_,_,_,_,_]) [8,9,10,11,12,0,1,2,3,4,5,6,7,13,14,15,16] rfl
     have hp127:=h126.sh.passL (Lp:= [_,_,_,_,_,_])
     refine wl_ex (x_call h126 bd_45 rfl rfl rfl rfl rfl (by have h9:=put_c _ b14 x124 states2 keys2 heads2 before2 ends2.v full2 _ _ _ _ _ _ hp127 hhok2 hlen2 (by have h9:=hinv2.len;simp at h9;omega) hdy124.1 hdy124.2.1 (by rw [hwf124.thl];exact hcl) (fun i hi=>by have h9:=hwf124.regs i hi;omega) hwf124.wait (by have h9:=hwf124.words;have h8:=hwf124.owner;have h7:=hpl124;omega);rw [←hg124] at h9;exact h9)) (wanted_none rfl _) ?_
     rintro a128 w128 ⟨_,⟨rfl,st128,ke128,he128,be128,fu128,hkr128,hs128⟩,hf128⟩
     have h128:St 124 (fun _=>False) W a128 w128 _ [_,_,_,_,_,_,_,_,_,_,_,_,_,_,_,_,_]:=⟨hf128,h126.sh.backL (Lp:= [_,_,_,_,_,_]) hs128 (by intro A hA b hb;simp only [List.mem_cons,List.not_mem_nil,or_false] at hA;rcases hA with rfl|rfl|rfl|rfl|rfl|rfl<;>first|exact (hb:False).elim|exact Flat.noRd hb|exact .inl ⟨_,List.mem_cons_self .., .inr hb⟩|exact (hkr128.rd hb).elim (fun h=> .inl ⟨_,List.mem_of_getElem? (i:=1) rfl, .inr h⟩) (fun h=> .inl ⟨_,List.mem_of_getElem? (i:=5) rfl, .inr h⟩)|exact .inl ⟨_,by simp, .inr hb⟩)⟩
     clear hf128 hs128
     clear h126
     refine gG h128<|nK k103<|gF [5,8,9,11,12] rfl<|gL<|gRn (oM 1 rfl<|oadN _ 1 om9 rfl<|oM 1 rfl<|.nl)<|nN<|?_;clear h128
     obtain ⟨hinvM,hkeyM,hlenM,hmemM,hsubM,hcM⟩:=key_put hok hkr128 hkey2 hlen2 hinv2 (by assumption) (by omega) hry124 hpy124
     have hhokM:=keyRel_ok hkr128
     have hsdM:SData W 100 [code.v,words.v, .int .i64 ((Lk:Nat):Int), .int .i64 ((R:Nat):Int), .int .i64 mode] st128.l ends2.l:=by rcases hcM with e9|e9<;>rw [e9];exact hsd2;exact hsd2.more hdy124
     have helM:ends2.l.length≤16*i+(k+1):=by omega
     have hleM:states.l.length≤st128.l.length:=by rcases hcM with e9|e9<;>rw [e9];exact hle2;simp;omega
     have hxM:nth (st128.l.map SD.st) i=x.st:=by rcases hcM with e9|e9<;>rw [e9];exact hx2;rw [List.map_append,nth_left _ _ _ (by simp;omega)];exact hx2
     have hrdM:x∈st128.l:=by rcases hcM with e9|e9<;>rw [e9];exact hrd2;simp [hrd2]
     have hhandM:fu128=false→∀q,q<k+1→HandM (pgN code words Lk R) mode (st128.l.map SD.st) (ends2.l.map OutL.out) x.st (nth ml66.l q):=by
      intro hf q hq;rcases Nat.lt_or_ge q k with h9|h9;exact (hhand (by assumption) q h9).mono hsubM (fun _ h=>h);obtain rfl:q=k:=(by omega);exact HandM.of hmt hk3 (by unfold Handled;rw [if_neg (by rw [hfy];decide)];rw [←hst124];exact hmemM)
     intro a129 w129 h129
     refine x_again ⟨_, ?_,(k+1),fu128,st128,ke128,he128,be128,ends2, ?_, ?_, ?_, ?_, ?_, ?_, ?_, ?_, ?_, ?_, ?_,h129.nrm ⟨rfl,rfl,rfl,rfl,rfl,trivial⟩ [7,8,9,10,11,12,0,1,2,3,4,13,14,15,6,16] rfl,rfl⟩
     · rw [hm97];first|omega|(simp only [lens9];omega)
     · omega
     · exact hinvM
     · exact hkeyM
     · exact hhokM
     · exact hlenM
     · exact hsdM
     · exact helM
     · exact hleM
     · exact hxM
     · exact hrdM
     · exact hhandM
    have hn102:full2=true:=(Bool.not_eq_false' _).mp hb102
    refine gX<|hK k52<|gL<|gRn (oM 1 rfl<|oadN _ 1 om9 rfl<|oM 1 rfl<|.nl)<|nN<|?_
    have hinvN:=hinv2.expanded (by simp;omega) (by rw [hx2,←ended_eq hwx.thl];assumption) (by rw [hx2,←hmv];intro e9;rw [e9] at hmv0;simp at hmv0) (by rw [hx2];exact hws) (fun hf q hq=>by rw [hx2] at hq⊢;rw [←hmv] at hq⊢;exact hhand hf q (by first|omega|exact absurd (hf.symm.trans (show _=true by assumption)) Bool.false_ne_true))
    have hkeyN:=hkey2;have hhokN:=hhok2;have hlenN:=hlen2;have hsdN:=hsd2
    have helN:ends2.l.length≤16*(i+1):=by omega
    have hiN:i+1≤states2.l.length:=by omega
    have hnl2:states2.l.length≤4001:=by have h9:=hinv2.len;simpa using h9
    intro a130 w130 h130
    refine x_again ⟨_, ?_,(i+1),full2,states2,keys2,heads2,before2,ends2, ?_, ?_, ?_, ?_, ?_, ?_, ?_,h130.nrm ⟨rfl,rfl,trivial⟩ [6,7,8,9,10,11,12,13,14,15] rfl,rfl⟩
    · rw [hm45];omega
    · first|exact hiN|omega
    · first|exact hinvN|exact hinv
    · first|exact hkeyN|exact hkey
    · first|exact hhokN|exact hhok
    · first|exact hlenN|exact hlen
    · first|exact hsdN|exact hsd
    · first|exact helN|omega
   refine gRn (oKs 5 hb101 rfl rfl<|opF hb101 rfl<|.nl)<|nK k100<|gcF rfl rfl<|gX<|hK k52<|gL<|gRn (oM 1 rfl<|oadN _ 1 om9 rfl<|oM 1 rfl<|.nl)<|nN<|?_
   have hinvN:=hinv2.expanded (by simp;omega) (by rw [hx2,←ended_eq hwx.thl];assumption) (by rw [hx2,←hmv];intro e9;rw [e9] at hmv0;simp at hmv0) (by rw [hx2];exact hws) (fun hf q hq=>by rw [hx2] at hq⊢;rw [←hmv] at hq⊢;exact hhand hf q (by first|omega|exact absurd (hf.symm.trans (show _=true by assumption)) Bool.false_ne_true))
   have hkeyN:=hkey2;have hhokN:=hhok2;have hlenN:=hlen2;have hsdN:=hsd2
   have helN:ends2.l.length≤16*(i+1):=by omega
   have hiN:i+1≤states2.l.length:=by omega
   have hnl2:states2.l.length≤4001:=by have h9:=hinv2.len;simpa using h9
   intro a131 w131 h131
   refine x_again ⟨_, ?_,(i+1),full2,states2,keys2,heads2,before2,ends2, ?_, ?_, ?_, ?_, ?_, ?_, ?_,h131.nrm ⟨rfl,rfl,trivial⟩ [6,7,8,9,10,11,12,13,14,15] rfl,rfl⟩
   · rw [hm45];omega
   · first|exact hiN|omega
   · first|exact hinvN|exact hinv
   · first|exact hkeyN|exact hkey
   · first|exact hhokN|exact hhok
   · first|exact hlenN|exact hlen
   · first|exact hsdN|exact hsd
   · first|exact helN|omega
  have hn51:full=true:=(Bool.not_eq_false' _).mp hb51
  refine gX<|hK k43<|sG (oM 2 rfl<|.nl)<|gR<|fun a133 w133 h133=>x_ret1 (fn:=Try.f18) (t:=4) rfl h133 rfl<|⟨b14,full,_,_,_,states,ends,rfl,hinv.big (by first|exact .inl (by assumption)|exact .inr (by simp;omega)), ?_,(by have h9:=hinv.len;simp at h9;omega),fun o ho b hb=>hsd.en o ho b hb,⟨?_,(by have h9:=hinv.len;simpa using h9),hsd⟩,(h133.sh.sel [0,1,6] rfl)⟩
  · intro hf;first|exact absurd (hf.symm.trans (show _=true by assumption)) Bool.false_ne_true|(refine ⟨hinv.sorted, ?_⟩;rw [hf] at hinv;exact hinv.all (by simp;omega))
  · intro hf;first|exact absurd (hf.symm.trans (show _=true by assumption)) Bool.false_ne_true|(rw [hf] at hinv;exact ⟨hinv.nd,hinv.states (by simp;omega)⟩)
 refine gRn (oKs 5 hb50 rfl rfl<|opF hb50 rfl<|.nl)<|nK k48<|gcF rfl rfl<|gX<|hK k43<|sG (oM 2 rfl<|.nl)<|gR<|fun a135 w135 h135=>x_ret1 (fn:=Try.f18) (t:=4) rfl h135 rfl<|⟨b14,full,_,_,_,states,ends,rfl,hinv.big (by first|exact .inl (by assumption)|exact .inr (by simp;omega)), ?_,(by have h9:=hinv.len;simp at h9;omega),fun o ho b hb=>hsd.en o ho b hb,⟨?_,(by have h9:=hinv.len;simpa using h9),hsd⟩,(h135.sh.sel [0,1,6] rfl)⟩
 · intro hf;first|exact absurd (hf.symm.trans (show _=true by assumption)) Bool.false_ne_true|(refine ⟨hinv.sorted, ?_⟩;rw [hf] at hinv;exact hinv.all (by simp;omega))
 · intro hf;first|exact absurd (hf.symm.trans (show _=true by assumption)) Bool.false_ne_true|(rw [hf] at hinv;exact ⟨hinv.nd,hinv.states (by simp;omega)⟩)
theorem by_c (code:Ls (Ls Ins))(words:Ls Int)(Lk R:Nat)(mode:Int)(W:World)(hcode:code.At W)(hwords:words.At W)(hok:OkPg (pgN code words Lk R)):
  Rets Try.prog 18 [.agg #[code.v,words.v, .int .i64 ((Lk:Nat):Int), .int .i64 ((R:Nat):Int)], .int .i64 mode] W (fun v w' =>∃(g:Nat) (full:Bool) (sv kv hv bv:Value) (ends:Ls OutL),v= .pointer (some ⟨g,0,none⟩)∧(full=true↔Big (pgN code words Lk R) mode)∧(full=false→Sorted_ (ends.l.map OutL.out)∧∀o,o∈ends.l.map OutL.out↔Outs (pgN code words Lk R) mode o)∧ends.l.length≤70000∧(∀o∈ends.l,∀b,Enc.on o b→W.heap.size≤b)∧Sh0 W w' [.blk g 44 [sv,kv,hv,bv,ends.v, .bool full], .own 49 ends]):=by
 refine Rets.mono (by_s code words Lk R mode W hcode hwords hok) ?_
 rintro v w' ⟨g,full,kv,hv,bv,states,ends,rfl,h1,h2,h3,h4,_,hs⟩
 exact ⟨g,full,_,kv,hv,bv,ends,rfl,h1,h2,h3,h4,hs.sel [0,2] rfl⟩
def lk1 :List Ins:= [⟨17,0,0,0⟩]
theorem lk1_ok (v v' :Value):OkPg (pgOf (⟨v, [⟨v',lk1⟩]⟩:Ls (Ls Ins)) (⟨.slice none 0 0, []⟩:Ls Int) 1 1):=by
 have e:pgOf (⟨v, [⟨v',lk1⟩]⟩:Ls (Ls Ins)) (⟨.slice none 0 0, []⟩:Ls Int) 1 1=⟨[lk1], [],1,1⟩:=rfl
 rw [e]
 exact checkG_code_pos.1 (by decide+kernel)
theorem lk1_un {v:Value} :¬SafeP [(⟨v,lk1⟩:Ls Ins)]:=fun h=>h.1 0 (Nat.zero_lt_one) 0 (by omega) (.take 0 1 .zero (show 0<1 by decide) (List.mem_singleton.2 rfl) rfl rfl)
theorem never_st {code:Ls (Ls Ins)}{words:Ls Int}{locks regs:Int}(hok:OkPg (pgOf code words locks regs))(hs:SafeP code.l){m:Int}{en:Ls OutL}(hby:∀o,o∈en.l.map OutL.out↔Outs (pgOf code words locks regs) m o){i:Nat}(hi:i<en.l.length):(nth en.l i).st≠2:=
 safe_never hok hs ((hby (nth en.l i).out).1 (List.mem_map.2 ⟨_,nth_mem _ _ hi,rfl⟩))
theorem orderHolds_v (code:Ls (Ls Ins))(words:Ls Int)(locks regs:Int)(W:World)(hcode:code.At W)(hwords:words.At W)(hv:vastG (code.l.map (·.l)) words.l=true):
    Rets Try.prog 5 [.agg #[code.v,words.v, .int .i64 locks, .int .i64 regs]] W (fun v w' =>v= .bool true∧Sh0 W w' []):=by
 refine gen Try.func5 Try.ntmps5 (Sh0.ext2 hcode hwords:Sh (fun _=>False) W W [.at_ code, .at_ words]) rfl fun a10 h10=>gG h10<|sK fun _ k11=>gbx rfl rfl fun b12=>gRn (oM 1 rfl<|.nl)<|nK k11<|sK fun _ k13=>gRn (oV (r_build (cs:= [.int .i64 17, .int .i64 0, .int .i64 0, .int .i64 0]) rfl rfl (by kernel_rfl)) rfl<|.nl)<|gE1 (fun _ _ h_=>x_lit (n:=1) (cs:= [.int .i64 17, .int .i64 0, .int .i64 0, .int .i64 0]) ([(⟨17,0,0,0⟩:Ins)]:List Ins) h_ sl_45 ti_47 rfl rfl rfl (by decide) rfl (by kernel_rfl) rfl (fun q hq w h=>Flat.inner _ _) (fun q hq b hb=>(Flat.on _ _ hb).elim) rfl rfl) rfl fun v14=>gE1 (fun _ _ h_=>x_litD (E:=0) (x:=(⟨v14, [(⟨17,0,0,0⟩:Ins)]⟩:Ls Ins)) h_ sl_22 ti_45 rfl rfl rfl ((h_.sh.own 0 rfl)) (fun b hb=>(own_on (h_.sh.ok _ (List.mem_of_getElem? (i:=0) rfl)) hb).elim (fun h=>h) (fun h=>Flat.noRd h)) (fun b hb=>Flat.noRd hb) rfl rfl) rfl fun v15=>gRn (oV (r_buildS (cs:= [v15,(.slice none 0 0), .int .i64 1, .int .i64 1]) rfl rfl (fun w h=>by obtain ⟨A16,n16,c16,(e16:v15=_)⟩:=((h.deep 0 rfl)).form;rw [e16];kernel_rfl)) rfl<|.nl)<|gC (fun _ _ h_=>xCl h_ bd_17 rfl (osafe_k (⟨v15, [⟨v14,lk1⟩]⟩:Ls (Ls Ins)) (⟨.slice none 0 0, []⟩:Ls Int) 1 1 _ (h_.sh.deep 0 rfl) (Sh.nilAt (α:=Int) h_.sh) (lk1_ok _ _))) rfl<|?_;clear h10
 rintro _ _ w17 ⟨b17,rfl,hb17,hs17⟩
 refine gWk hs17 rfl<|gU<|gRn (oM 1 rfl<|oxt rfl<|oxt rfl<|.nl)<|gal ti_30 rfl fun b18=>gRn (oM 1 rfl<|.nl)<|gsw 0 ti_30 rfl rfl rfl<|nK k13<|?_;clear hs17
 have hlit1:b17=false:=Bool.eq_false_iff.2 (fun h=>lk1_un (hb17.1 h))
 refine gK fun _ k20=>sG (ofB fl_30_0 rfl<|olB 0 ti_28 rfl rfl<|oneN 0 0 rfl<|oM 1 rfl<|oG (by decide) (r_move rfl rfl) rfl<|opF (by decide) rfl<|.nl)<|gcF rfl hlit1<|gS<|hK k20<|gK fun _ k22=>sK fun _ k23=>gRn (olw 2 ti_25 rfl rfl<|.nl)<|gC (fun _ _ h_=>xCl h_ bd_8 rfl (vast_c (code:=code) (words:=words) (locks:=locks) (regs:=regs) (h_.sh.at 3 rfl) (h_.sh.at 4 rfl))) rfl<|?_
 rintro _ _ w24 ⟨rfl,hs24⟩
 refine gWk hs24 rfl<|gU<|nK k23<|gcT rfl hv<|sG (oM 1 rfl<|.nl)<|gR<|uT<|fun a26 w26 h26=> ?_;clear hs24
 refine x_ret1 (fn:=Try.f5) (t:=2) rfl h26 rfl ?_
 exact ⟨rfl,(h26.sh.sel [] rfl)⟩
theorem orderHolds_k (code:Ls (Ls Ins))(words:Ls Int)(Lk R:Nat)(W:World)(hcode:code.At W)(hwords:words.At W)(hv:vastG (code.l.map (·.l)) words.l=false)(hok:OkPg (pgN code words Lk R)):
    Rets Try.prog 5 [.agg #[code.v,words.v, .int .i64 ((Lk:Nat):Int), .int .i64 ((R:Nat):Int)]] W (fun v w' =>v= .bool true∧Sh0 W w' []):=by
 have hz:=checkG_ok hok
 obtain ⟨hl1,hl2,hl3,hl4',hl5,hl6,hl7⟩:=ok_lenN hok
 refine gen Try.func5 Try.ntmps5 (Sh0.ext2 hcode hwords:Sh (fun _=>False) W W [.at_ code, .at_ words]) rfl fun a10 h10=>gG h10<|sK fun _ k11=>gbx rfl rfl fun b12=>gRn (oM 1 rfl<|.nl)<|nK k11<|sK fun _ k13=>gRn (oV (r_build (cs:= [.int .i64 17, .int .i64 0, .int .i64 0, .int .i64 0]) rfl rfl (by kernel_rfl)) rfl<|.nl)<|gE1 (fun _ _ h_=>x_lit (n:=1) (cs:= [.int .i64 17, .int .i64 0, .int .i64 0, .int .i64 0]) ([(⟨17,0,0,0⟩:Ins)]:List Ins) h_ sl_45 ti_47 rfl rfl rfl (by decide) rfl (by kernel_rfl) rfl (fun q hq w h=>Flat.inner _ _) (fun q hq b hb=>(Flat.on _ _ hb).elim) rfl rfl) rfl fun v14=>gE1 (fun _ _ h_=>x_litD (E:=0) (x:=(⟨v14, [(⟨17,0,0,0⟩:Ins)]⟩:Ls Ins)) h_ sl_22 ti_45 rfl rfl rfl ((h_.sh.own 0 rfl)) (fun b hb=>(own_on (h_.sh.ok _ (List.mem_of_getElem? (i:=0) rfl)) hb).elim (fun h=>h) (fun h=>Flat.noRd h)) (fun b hb=>Flat.noRd hb) rfl rfl) rfl fun v15=>gRn (oV (r_buildS (cs:= [v15,(.slice none 0 0), .int .i64 1, .int .i64 1]) rfl rfl (fun w h=>by obtain ⟨A16,n16,c16,(e16:v15=_)⟩:=((h.deep 0 rfl)).form;rw [e16];kernel_rfl)) rfl<|.nl)<|gC (fun _ _ h_=>xCl h_ bd_17 rfl (osafe_k (⟨v15, [⟨v14,lk1⟩]⟩:Ls (Ls Ins)) (⟨.slice none 0 0, []⟩:Ls Int) 1 1 _ (h_.sh.deep 0 rfl) (Sh.nilAt (α:=Int) h_.sh) (lk1_ok _ _))) rfl<|?_;clear h10
 rintro _ _ w17 ⟨b17,rfl,hb17,hs17⟩
 refine gWk hs17 rfl<|gU<|gRn (oM 1 rfl<|oxt rfl<|oxt rfl<|.nl)<|gal ti_30 rfl fun b18=>gRn (oM 1 rfl<|.nl)<|gsw 0 ti_30 rfl rfl rfl<|nK k13<|?_;clear hs17
 have hlit1:b17=false:=Bool.eq_false_iff.2 (fun h=>lk1_un (hb17.1 h))
 refine gK fun _ k20=>sG (ofB fl_30_0 rfl<|olB 0 ti_28 rfl rfl<|oneN 0 0 rfl<|oM 1 rfl<|oG (by decide) (r_move rfl rfl) rfl<|opF (by decide) rfl<|.nl)<|gcF rfl hlit1<|gS<|hK k20<|gK fun _ k22=>sK fun _ k23=>gRn (olw 2 ti_25 rfl rfl<|.nl)<|gC (fun _ _ h_=>xCl h_ bd_8 rfl (vast_c (code:=code) (words:=words) (locks:=((Lk:Nat):Int)) (regs:=((R:Nat):Int)) (h_.sh.at 3 rfl) (h_.sh.at 4 rfl))) rfl<|?_
 rintro _ _ w24 ⟨rfl,hs24⟩
 refine gWk hs24 rfl<|gU<|nK k23<|gcF rfl hv<|gS<|hK k22<|sK fun _ k25=>gRn (olw 2 ti_25 rfl rfl<|.nl)<|gC (fun _ _ h_=>xCl h_ bd_17 rfl (osafe_k code words ((Lk:Nat):Int) ((R:Nat):Int) _ (h_.sh.at 3 rfl) (h_.sh.at 4 rfl) hok)) rfl<|?_;clear hs24
 rintro _ _ w26 ⟨b26,rfl,hb26,hs26⟩
 refine gWk hs26 rfl<|gU<|gRn (oM 1 rfl<|oxt rfl<|oxt rfl<|oM 1 rfl<|.nl)<|gsw 0 ti_30 rfl rfl rfl<|nK k25<|gF [1,3,4] rfl<|sK fun _ k28=>gRn (olw 2 ti_25 rfl rfl<|.nl)<|gC (fun _ _ h_=>xCl h_ bd_11 rfl (refCheck_c (code:=code) (words:=words) (locks:=((Lk:Nat):Int)) (regs:=((R:Nat):Int)) (h_.sh.at 3 rfl) (h_.sh.at 4 rfl))) rfl<|?_;clear hs26
 rintro _ _ w29 ⟨rfl,hs29⟩
 refine gWk hs29 rfl<|gU<|gal ti_30 rfl fun b30=>gsw 0 ti_30 rfl rfl rfl<|nK k28<|gK fun _ k32=>sG (olw 1 ti_30 rfl rfl<|olw 0 ti_30 rfl rfl<|oV (r_neqS rfl rfl rfl (fun w=>neq_fltG _ _ ⟨0,0,0⟩ ⟨(checkG (pgOf code words ((Lk:Nat):Int) ((R:Nat):Int))).code,(checkG (pgOf code words ((Lk:Nat):Int) ((R:Nat):Int))).thread,(checkG (pgOf code words ((Lk:Nat):Int) ((R:Nat):Int))).at_⟩ w) (fun w=>neq_flt ⟨0,0,0⟩ ⟨(checkG (pgOf code words ((Lk:Nat):Int) ((R:Nat):Int))).code,(checkG (pgOf code words ((Lk:Nat):Int) ((R:Nat):Int))).thread,(checkG (pgOf code words ((Lk:Nat):Int) ((R:Nat):Int))).at_⟩ w)) rfl<|oM 1 rfl<|oG (decide_eq_false (fun h=>h (by rw [show checkG (pgOf code words ((Lk:Nat):Int) ((R:Nat):Int))=⟨0,0,0⟩ from hz]))) (r_move rfl rfl) rfl<|oG (decide_eq_false (fun h=>h (by rw [show checkG (pgOf code words ((Lk:Nat):Int) ((R:Nat):Int))=⟨0,0,0⟩ from hz]))) (r_not rfl rfl) rfl<|opF (decide_eq_false (fun h=>h (by rw [show checkG (pgOf code words ((Lk:Nat):Int) ((R:Nat):Int))=⟨0,0,0⟩ from hz]))) rfl<|.nl)<|?_;clear hs29
 refine gCb rfl (fun hb34=> ?_) fun hb34=> ?_
 ·have hn34:b26=false:=(Bool.not_eq_true' _).mp hb34
  refine sG (olw 1 ti_30 rfl rfl<|olw 0 ti_30 rfl rfl<|oV (r_eqS rfl rfl rfl (fun w=>eq_fltG _ _ ⟨0,0,0⟩ ⟨(checkG (pgOf code words ((Lk:Nat):Int) ((R:Nat):Int))).code,(checkG (pgOf code words ((Lk:Nat):Int) ((R:Nat):Int))).thread,(checkG (pgOf code words ((Lk:Nat):Int) ((R:Nat):Int))).at_⟩ w) (fun w=>eq_flt ⟨0,0,0⟩ ⟨(checkG (pgOf code words ((Lk:Nat):Int) ((R:Nat):Int))).code,(checkG (pgOf code words ((Lk:Nat):Int) ((R:Nat):Int))).thread,(checkG (pgOf code words ((Lk:Nat):Int) ((R:Nat):Int))).at_⟩ w)) rfl<|oM 1 rfl<|.nl)<|gR<|uT<|fun a36 w36 h36=>x_ret1 (fn:=Try.f5) (t:=2) rfl h36 rfl<|⟨?_,(h36.sh.sel [] rfl)⟩
  first|rfl|(congr 1;exact decide_eq_true rfl)|(congr 1;exact decide_eq_true (by rw [show checkG (pgOf code words ((Lk:Nat):Int) ((R:Nat):Int))=⟨0,0,0⟩ from hz]))
 have hn34:b26=true:=(Bool.not_eq_false' _).mp hb34
 refine gS<|hK k32<|gK fun _ k37=>sG (oM 1 rfl<|.nl)<|gB<|?_
 have hsafe:=hb26.1 (by assumption)
 intro a40 w40 h40
 refine x_loop (fun m a w=>∃(md:Nat),(md≤2)∧St 74 (fun _=>False) W a w [(1, .pointer (some ⟨b12,0,none⟩)),(6, .int .i64 ((md:Nat):Int))] [.blk b30 30 [.int .i64 ((checkG (pgOf code words ((Lk:Nat):Int) ((R:Nat):Int))).code), .int .i64 ((checkG (pgOf code words ((Lk:Nat):Int) ((R:Nat):Int))).thread), .int .i64 ((checkG (pgOf code words ((Lk:Nat):Int) ((R:Nat):Int))).at_)], .blk b18 30 [.int .i64 0, .int .i64 0, .int .i64 0], .deep 45 (⟨v15, [(⟨v14, [(⟨17,0,0,0⟩:Ins)]⟩:Ls Ins)]⟩:Ls (Ls Ins)), .blk b12 25 [code.v,words.v, .int .i64 ((Lk:Nat):Int), .int .i64 ((R:Nat):Int)], .at_ code, .at_ words]∧m=2-md) ⟨_,0,(by omega),h40.nf ⟨rfl,rfl,trivial⟩,rfl⟩ ?_
 clear h40
 rintro m39 a39 w39 ⟨md,hm,h39,hm39⟩
 refine gG h39<|gK fun _ k41=>sG (oM 1 rfl<|oltN _ 2 rfl<|.nl)<|?_;clear h39
 refine gcd rfl (fun hb43 hp43=> ?_) fun hb43 hp43=> ?_
 ·skip
  refine gS<|hK k41<|gK fun _ k44=>gB<|sK fun _ k45=>gRn (olw 3 ti_25 rfl rfl<|oM 1 rfl<|.nl)<|fun a47 w47 h47=>wl_ex (x_call h47 bd_18 rfl rfl rfl rfl rfl (by_c code words Lk R ((md:Nat):Int) _ (h47.sh.at 4 rfl) (h47.sh.at 5 rfl) hok)) (wanted_none rfl _) ?_
  rintro a48 w48 ⟨_,⟨g48,fu48,sv48,kv48,hv48,bv48,en48,rfl,hbg48,hby48,hel48,hnw48,hs48⟩,hf48⟩
  have hsz48:=h47.sh.chg.size
  have h48:=(⟨hf48,h47.sh.call hs48 (by intro A hA b hb;simp only [List.mem_cons,List.not_mem_nil,or_false] at hA;rcases hA with rfl|rfl;exact (hb:False).elim;exact .inl (by obtain ⟨i9,hi9,hb9⟩:=hb;exact hnw48 _ (nth_mem _ _ hi9) b hb9))⟩:St 74 (fun _=>False) W a48 w48 _ _)
  clear hf48 hs48
  clear h47
  refine gG h48<|gRn (oM 1 rfl<|.nl)<|nK k45<|sG (oM 1 rfl<|.nl)<|gB<|fun a51 w51 h51=>x_loop (fun m a w=>∃(i:Nat),(i≤en48.l.length)∧St 74 (fun _=>False) W a w [(1, .pointer (some ⟨b12,0,none⟩)),(6, .int .i64 ((md:Nat):Int)),(7, .pointer (some ⟨g48,0,none⟩)),(8, .int .i64 ((i:Nat):Int))] [.blk g48 44 [sv48,kv48,hv48,bv48,en48.v, .bool fu48], .own 49 en48, .blk b30 30 [.int .i64 ((checkG (pgOf code words ((Lk:Nat):Int) ((R:Nat):Int))).code), .int .i64 ((checkG (pgOf code words ((Lk:Nat):Int) ((R:Nat):Int))).thread), .int .i64 ((checkG (pgOf code words ((Lk:Nat):Int) ((R:Nat):Int))).at_)], .blk b18 30 [.int .i64 0, .int .i64 0, .int .i64 0], .deep 45 (⟨v15, [(⟨v14, [(⟨17,0,0,0⟩:Ins)]⟩:Ls Ins)]⟩:Ls (Ls Ins)), .blk b12 25 [code.v,words.v, .int .i64 ((Lk:Nat):Int), .int .i64 ((R:Nat):Int)], .at_ code, .at_ words]∧m=en48.l.length-i) ⟨_,0,(Nat.zero_le _),h51.nf ⟨rfl,rfl,rfl,rfl,trivial⟩,rfl⟩ ?_;clear h48
  clear h51
  rintro m50 a50 w50 ⟨i,hi,h50,hm50⟩
  refine gG h50<|gK fun _ k52=>sK fun _ k53=>gNl (aO 1 rfl) fun hl54=>gRn (oM 2 rfl<|onfl 0 fl_44_4 ti_42 rfl rfl<|oln sl_42 (aO 1 rfl) rfl<|oltN _ _ rfl<|oM 1 rfl<|.nl)<|?_;clear h50
  rcases dsp (i<en48.l.length) with ⟨hb55,hp55⟩|⟨hb55,hp55⟩
  ·skip
   refine gRn (oG hb55 (r_move rfl rfl) rfl<|oG hb55 (r_nil rfl rfl) rfl<|oG hb55 (r_fieldB (r:=5) fl_44_5 rfl rfl rfl) rfl<|oG hb55 (r_ldb (i:=0) ti_4 rfl rfl rfl rfl) rfl<|oG hb55 (r_not rfl rfl) rfl<|opT hb55 rfl<|.nl)<|nK k53<|gCb rfl (fun hb56=> ?_) fun hb56=> ?_
   ·have hn56:fu48=false:=(Bool.not_eq_true' _).mp hb56
    refine gS<|hK k52<|gK fun _ k57=>gB<|sG (oM 1 rfl<|onfl 0 fl_44_4 ti_42 rfl rfl<|oM 1 rfl<|oxN sl_42 ti_49 (aO 1 rfl) _ om9 rfl<|ofE fl_49_0 rfl<|olI ti_3 (aO 1 rfl) om9 rfl<|oeqI _ _ rfl<|.nl)<|gcd rfl (fun hb59 hp59=> ?_) fun hb59 hp59=> ?_
    ·skip
     exact absurd (by assumption) (never_st hok hsafe (hby48 (by assumption)).2 (i:=i) (by omega))
    refine gS<|hK k57<|gF [1,6,7,8] rfl<|gL<|gRn (oM 1 rfl<|oadN _ 1 om9 rfl<|oM 1 rfl<|.nl)<|nN<|fun a60 w60 h60=>x_again ⟨_, ?_,i+1, ?_,h60.nf ⟨rfl,rfl,rfl,rfl,trivial⟩,rfl⟩
    · rw [hm50];first|omega|(simp only [lens9];omega)
    · omega
   have hn56:fu48=true:=(Bool.not_eq_false' _).mp hb56
   refine gX<|hK k44<|gL<|gRn (oM 1 rfl<|oadN _ 1 om9 rfl<|oM 1 rfl<|.nl)<|nN<|fun a61 w61 h61=>x_again ⟨_, ?_,md+1, ?_,h61.nrm ⟨rfl,rfl,trivial⟩ [2,3,4,5,6,7] rfl,rfl⟩
   · rw [hm39];first|omega|(simp only [lens9];omega)
   · omega
  refine gRn (oKs 5 hb55 rfl rfl<|opF hb55 rfl<|.nl)<|nK k53<|gcF rfl rfl<|gX<|hK k44<|gL<|gRn (oM 1 rfl<|oadN _ 1 om9 rfl<|oM 1 rfl<|.nl)<|nN<|fun a62 w62 h62=>x_again ⟨_, ?_,md+1, ?_,h62.nrm ⟨rfl,rfl,trivial⟩ [2,3,4,5,6,7] rfl,rfl⟩
  · rw [hm39];first|omega|(simp only [lens9];omega)
  · omega
 refine gX<|hK k37<|sG (oM 1 rfl<|.nl)<|gR<|fun a64 w64 h64=>x_ret1 (fn:=Try.f5) (t:=2) rfl h64 rfl<|⟨?_,(h64.sh.sel [] rfl)⟩
 first|rfl|(congr 1;exact decide_eq_true rfl)|(congr 1;exact decide_eq_true (by rw [show checkG (pgOf code words ((Lk:Nat):Int) ((R:Nat):Int))=⟨0,0,0⟩ from hz]))
theorem orderHolds_b (code:Ls (Ls Ins))(words:Ls Int)(locks regs:Int)(W:World)(hcode:code.At W)(hwords:words.At W)(hv:vastG (code.l.map (·.l)) words.l=false)(hz:(checkG (pgOf code words locks regs)).code≠0):
    Rets Try.prog 5 [.agg #[code.v,words.v, .int .i64 locks, .int .i64 regs]] W (fun v w' =>v= .bool true∧Sh0 W w' []):=by
 refine gen Try.func5 Try.ntmps5 (Sh0.ext2 hcode hwords:Sh (fun _=>False) W W [.at_ code, .at_ words]) rfl fun a10 h10=>gG h10<|sK fun _ k11=>gbx rfl rfl fun b12=>gRn (oM 1 rfl<|.nl)<|nK k11<|sK fun _ k13=>gRn (oV (r_build (cs:= [.int .i64 17, .int .i64 0, .int .i64 0, .int .i64 0]) rfl rfl (by kernel_rfl)) rfl<|.nl)<|gE1 (fun _ _ h_=>x_lit (n:=1) (cs:= [.int .i64 17, .int .i64 0, .int .i64 0, .int .i64 0]) ([(⟨17,0,0,0⟩:Ins)]:List Ins) h_ sl_45 ti_47 rfl rfl rfl (by decide) rfl (by kernel_rfl) rfl (fun q hq w h=>Flat.inner _ _) (fun q hq b hb=>(Flat.on _ _ hb).elim) rfl rfl) rfl fun v14=>gE1 (fun _ _ h_=>x_litD (E:=0) (x:=(⟨v14, [(⟨17,0,0,0⟩:Ins)]⟩:Ls Ins)) h_ sl_22 ti_45 rfl rfl rfl ((h_.sh.own 0 rfl)) (fun b hb=>(own_on (h_.sh.ok _ (List.mem_of_getElem? (i:=0) rfl)) hb).elim (fun h=>h) (fun h=>Flat.noRd h)) (fun b hb=>Flat.noRd hb) rfl rfl) rfl fun v15=>gRn (oV (r_buildS (cs:= [v15,(.slice none 0 0), .int .i64 1, .int .i64 1]) rfl rfl (fun w h=>by obtain ⟨A16,n16,c16,(e16:v15=_)⟩:=((h.deep 0 rfl)).form;rw [e16];kernel_rfl)) rfl<|.nl)<|gC (fun _ _ h_=>xCl h_ bd_17 rfl (osafe_k (⟨v15, [⟨v14,lk1⟩]⟩:Ls (Ls Ins)) (⟨.slice none 0 0, []⟩:Ls Int) 1 1 _ (h_.sh.deep 0 rfl) (Sh.nilAt (α:=Int) h_.sh) (lk1_ok _ _))) rfl<|?_;clear h10
 rintro _ _ w17 ⟨b17,rfl,hb17,hs17⟩
 refine gWk hs17 rfl<|gU<|gRn (oM 1 rfl<|oxt rfl<|oxt rfl<|.nl)<|gal ti_30 rfl fun b18=>gRn (oM 1 rfl<|.nl)<|gsw 0 ti_30 rfl rfl rfl<|nK k13<|?_;clear hs17
 have hlit1:b17=false:=Bool.eq_false_iff.2 (fun h=>lk1_un (hb17.1 h))
 refine gK fun _ k20=>sG (ofB fl_30_0 rfl<|olB 0 ti_28 rfl rfl<|oneN 0 0 rfl<|oM 1 rfl<|oG (by decide) (r_move rfl rfl) rfl<|opF (by decide) rfl<|.nl)<|gcF rfl hlit1<|gS<|hK k20<|gK fun _ k22=>sK fun _ k23=>gRn (olw 2 ti_25 rfl rfl<|.nl)<|gC (fun _ _ h_=>xCl h_ bd_8 rfl (vast_c (code:=code) (words:=words) (locks:=locks) (regs:=regs) (h_.sh.at 3 rfl) (h_.sh.at 4 rfl))) rfl<|?_
 rintro _ _ w24 ⟨rfl,hs24⟩
 refine gWk hs24 rfl<|gU<|nK k23<|gcF rfl hv<|gS<|hK k22<|sK fun _ k25=>gRn (olw 2 ti_25 rfl rfl<|.nl)<|gC (fun _ _ h_=>xCl h_ bd_17 rfl (osafe_b code words locks regs _ (h_.sh.at 3 rfl) (h_.sh.at 4 rfl) hz)) rfl<|?_;clear hs24
 rintro _ _ w26 ⟨rfl,hs26⟩
 refine gWk hs26 rfl<|gU<|gRn (oM 1 rfl<|oxt rfl<|oxt rfl<|oM 1 rfl<|.nl)<|gsw 0 ti_30 rfl rfl rfl<|nK k25<|gF [1,3,4] rfl<|sK fun _ k28=>gRn (olw 2 ti_25 rfl rfl<|.nl)<|gC (fun _ _ h_=>xCl h_ bd_11 rfl (refCheck_c (code:=code) (words:=words) (locks:=locks) (regs:=regs) (h_.sh.at 3 rfl) (h_.sh.at 4 rfl))) rfl<|?_;clear hs26
 rintro _ _ w29 ⟨rfl,hs29⟩
 refine gWk hs29 rfl<|gU<|gal ti_30 rfl fun b30=>gsw 0 ti_30 rfl rfl rfl<|nK k28<|gK fun _ k32=>sG (olw 1 ti_30 rfl rfl<|olw 0 ti_30 rfl rfl<|oV (r_neqS rfl rfl rfl (fun w=>neq_fltG _ _ ⟨(checkG (pgOf code words locks regs)).code,(checkG (pgOf code words locks regs)).thread,(checkG (pgOf code words locks regs)).at_⟩ ⟨(checkG (pgOf code words locks regs)).code,(checkG (pgOf code words locks regs)).thread,(checkG (pgOf code words locks regs)).at_⟩ w) (fun w=>neq_flt ⟨(checkG (pgOf code words locks regs)).code,(checkG (pgOf code words locks regs)).thread,(checkG (pgOf code words locks regs)).at_⟩ ⟨(checkG (pgOf code words locks regs)).code,(checkG (pgOf code words locks regs)).thread,(checkG (pgOf code words locks regs)).at_⟩ w)) rfl<|oM 1 rfl<|oG (decide_eq_false (fun h=>h rfl)) (r_move rfl rfl) rfl<|oG (decide_eq_false (fun h=>h rfl)) (r_not rfl rfl) rfl<|opF (decide_eq_false (fun h=>h rfl)) rfl<|.nl)<|gcT rfl rfl<|sG (olw 1 ti_30 rfl rfl<|olw 0 ti_30 rfl rfl<|oV (r_eqS rfl rfl rfl (fun w=>eq_fltG _ _ ⟨(checkG (pgOf code words locks regs)).code,(checkG (pgOf code words locks regs)).thread,(checkG (pgOf code words locks regs)).at_⟩ ⟨(checkG (pgOf code words locks regs)).code,(checkG (pgOf code words locks regs)).thread,(checkG (pgOf code words locks regs)).at_⟩ w) (fun w=>eq_flt ⟨(checkG (pgOf code words locks regs)).code,(checkG (pgOf code words locks regs)).thread,(checkG (pgOf code words locks regs)).at_⟩ ⟨(checkG (pgOf code words locks regs)).code,(checkG (pgOf code words locks regs)).thread,(checkG (pgOf code words locks regs)).at_⟩ w)) rfl<|oM 1 rfl<|.nl)<|gR<|uT<|fun a35 w35 h35=> ?_;clear hs29
 refine x_ret1 (fn:=Try.f5) (t:=2) rfl h35 rfl<|⟨?_,(h35.sh.sel [] rfl)⟩
 first|rfl|(congr 1;exact decide_eq_true rfl)
theorem orderHolds_any (code:Ls (Ls Ins))(words:Ls Int)(locks regs:Int)(W:World)(hcode:code.At W)(hwords:words.At W):Rets Try.prog 5 [.agg #[code.v,words.v, .int .i64 locks, .int .i64 regs]] W (fun v w' =>v= .bool true∧Sh0 W w' []):=by
 cases hv:vastG (code.l.map (·.l)) words.l with
 |true=>exact orderHolds_v code words locks regs W hcode hwords hv
 |false=>
  by_cases hok:OkPg (pgOf code words locks regs)
  ·obtain ⟨Lk,rfl⟩:=Int.eq_ofNat_of_zero_le hok.locks.1
   obtain ⟨R,rfl⟩:=Int.eq_ofNat_of_zero_le (show 0≤regs by have:=hok.regs.1;have e:(pgOf code words (Lk:Int) regs).regs=regs:=rfl;omega)
   exact orderHolds_k code words Lk R W hcode hwords hv hok
  ·exact orderHolds_b code words locks regs W hcode hwords hv (fun h=>hok (checkG_code_pos.1 h))
end Go.Proofs.Ytmbfcgpneflbmaa
namespace Go.Proofs.Ytmbfcgpneflbmaa
open Go.ChangeShapes Go.WideShapes Go.ChangeAt Go.RowKit
open Go.Deep (open_slice)
set_option linter.unusedSimpArgs false
set_option linter.unusedVariables false
class Rd (α:Type) extends Enc α where
 ty:Program→TypeId→Prop
 fine:α→Prop
 read:∀ {H:Type} {enc:TypeId×Value→H} {P:Program} {w:World} {base:Nat} {spare:Nat→Bool} {held:Bool} {fuel:Nat} {T:TypeId} {cs:List Value} {x:DataW H×List MemPlace},
  ty P T→DataW.trod enc P w base spare held fuel T cs=some x→(∀n∈DataW.weights P T x.1,n≤reachBytes)→∃a:α,cs=cellsOf a∧Enc.inner a w∧fine a
instance : Rd Int where
 ty P T:=P.underlying T=some (.int .i64)
 fine n:=(Lit.int .i64 n).wf=true
 read hT h _:=by
  obtain ⟨n,rfl,_,hw⟩:=DataW.trod_int hT h
  exact ⟨n,rfl,trivial,hw⟩
instance : Rd Bool where
 ty P T:=P.underlying T=some .bool
 fine _:=True
 read hT h _:=by
  obtain ⟨b,rfl,_⟩:=DataW.trod_bool hT h
  exact ⟨b,rfl,trivial,trivial⟩
def intFields (P:Program)(fs:Array Field)(n:Nat):Prop:=fs.size=n∧∀(j:Nat) (f:Field),fs[j]? =some f→f.offset=j∧P.underlying f.type=some (.int .i64)∧P.cellsOf f.type=1
theorem read_ints {H:Type}{enc:TypeId×Value→H}{P:Program}{w:World}{base:Nat}{spare:Nat→Bool}{held:Bool}{fuel:Nat}{T:TypeId}{cs:List Value}{x:DataW H×List MemPlace}{fs:Array Field}{n:Nat}
  (hT:P.underlying T=some (.struct fs)) (hfs:intFields P fs n) (hC:P.cellsOf T=n) (h:DataW.trod enc P w base spare held fuel T cs=some x):
  cs.length=n∧∀j,j<n→∃k:Int,cs[j]? =some (.int .i64 k)∧(Lit.int .i64 k).wf=true:=by
 obtain ⟨xs,m,_,_,hlen,hxl,hf⟩:=DataW.trod_struct hT h
 refine ⟨hlen.trans hC,fun j hj=> ?_⟩
 obtain ⟨hs,hall⟩:=hfs
 have hjs:j<fs.size:=by omega
 obtain ⟨ho,ht,hc⟩:=hall j fs[j] (by simp [hjs])
 have h1:=hf j fs[j] (by simp [hjs])
 rw [ho,hc,List.getElem?_eq_getElem (by omega)] at h1
 obtain ⟨k,hk,_,hw⟩:=DataW.trod_int ht h1
 refine ⟨k, ?_,hw⟩
 rw [List.drop_eq_getElem_cons (by omega)] at hk
 simp only [List.take_succ_cons,List.take_zero,List.cons.injEq,and_true] at hk
 rw [List.getElem?_eq_getElem (by omega),hk]
instance : Rd Ins where
 ty P T:=∃fs,P.underlying T=some (.struct fs)∧intFields P fs 4∧P.cellsOf T=4
 fine x:=(Lit.int .i64 x.op).wf=true∧(Lit.int .i64 x.a).wf=true∧(Lit.int .i64 x.b).wf=true∧(Lit.int .i64 x.c).wf=true
 read:=by
  rintro H enc P w base spare held fuel T cs x ⟨fs,hT,hfs,hC⟩ h _
  obtain ⟨hl,hj⟩:=read_ints hT hfs hC h
  obtain ⟨k0,e0,w0⟩:=hj 0 (by omega)
  obtain ⟨k1,e1,w1⟩:=hj 1 (by omega)
  obtain ⟨k2,e2,w2⟩:=hj 2 (by omega)
  obtain ⟨k3,e3,w3⟩:=hj 3 (by omega)
  match cs,hl with
  | [c0,c1,c2,c3],_=>
   simp only [List.getElem?_cons_zero,List.getElem?_cons_succ,Option.some.injEq] at e0 e1 e2 e3
   subst e0 e1 e2 e3
   exact ⟨⟨k0,k1,k2,k3⟩,rfl,trivial,w0,w1,w2,w3⟩
theorem weights_slice {H:Type}{P:Program}{T e:TypeId}{elems spare:List (DataW H)}(hT:P.underlying T=some (.slice e))(h:∀n∈DataW.weights P T (.slice elems spare),n≤reachBytes):
  (elems.length+spare.length)*P.bytesOf e≤reachBytes∧∀d∈elems,∀n∈DataW.weights P e d,n≤reachBytes:=by
 unfold DataW.weights at h
 rw [hT] at h
 refine ⟨h _ (by simp),fun d hd n hn=>h n ?_⟩
 have:∀l:List (DataW H),d∈l→n∈DataW.weightsAll P e l:=by
  intro l hl
  induction l with
  |nil=>cases hl
  |cons y l ih=>
   unfold DataW.weightsAll
   rcases List.mem_cons.1 hl with rfl|hl
   ·exact List.mem_append.2 (.inl hn)
   ·exact List.mem_append.2 (.inr (ih hl))
 simp only [List.mem_cons,List.mem_append]
 exact .inr (.inl (this _ hd))
instance {α:Type}[Rd α]:Rd (Sl α) where
 ty P T:=∃e,P.underlying T=some (.slice e)∧P.cellsOf e=Enc.sz α∧1≤P.bytesOf e∧0<Enc.sz α∧Rd.ty α P e
 fine s:=∀i,i<s.l.length→Rd.fine (nth s.l i)
 read:=by
  rintro H enc P w base spare held fuel T cs x ⟨e,hT,hC,hB,hpos,hty⟩ h hw
  rcases open_slice hT h with ⟨rfl,rfl⟩|⟨a,len,cap,m,n,D,Pl,rfl,_,hl,hm,hmm,rfl,hi⟩
  ·refine ⟨⟨none,0, []⟩,rfl,⟨Nat.le_refl _,by simp,by simp,fun hh=>absurd hh (by simp),fun hh=>absurd hh (by simp),fun i j hi=>absurd hi (by simp),fun i hi=>absurd hi (by simp)⟩,fun i hi=>absurd hi (by simp)⟩
  ·obtain ⟨hb,hd⟩:=weights_slice hT hw
   have hlm:len≤m:=by rw [hmm];split<;>omega
   have hlen:len≤140737488355328:=by
    simp only [List.length_map,List.length_range,reachBytes] at hb
    have:(len+(m-len))*1≤(len+(m-len))*P.bytesOf e:=Nat.mul_le_mul_left _ hB
    omega
   have key:∀i,i<len→∃y:α,(∀j,j<Enc.sz α→w.cell? ((a.add (i*Enc.sz α)).add j)=some (Enc.cell y j))∧Enc.inner y w∧Rd.fine y:=by
    intro i hil
    obtain ⟨cs',hc',ht'⟩:=hi i (by omega)
    obtain ⟨y,hy,hin,hf⟩:=Rd.read hty ht' (hd _ (List.mem_map.2 ⟨i,by simpa using hil,rfl⟩))
    obtain ⟨_,hcl,hat⟩:=World.cells?_some hc'
    rw [hC] at hc' hat hcl
    refine ⟨y,fun j hj=> ?_,hin,hf⟩
    rw [hat j (by first|exact hj|omega)]
    subst hy
    simp [cellsOf,hj]
   obtain ⟨F,hF⟩:=Go.Deep.choose_lt key
   let l:=(List.range len).map F
   have hll:l.length=len:=by simp [l]
   have hn:∀i,i<len→nth l i=F i:=by intro i hil;simp [nth,l,hil]
   have hcell0:0<len→∃v,w.cell? a=some v:=fun h0=>⟨_,by
    have h1:=(hF 0 h0).1 0 hpos
    rw [Nat.zero_mul,Addr.add_zero',Addr.add_zero'] at h1
    exact h1⟩
   have hspot:0<len→a.spot=none:=by
    intro h0
    obtain ⟨v,hv⟩:=hcell0 h0
    unfold World.cell? at hv
    split at hv
    ·split at hv
     ·cases hv
     ·rename_i hs
      simpa using hs
    ·cases hv
   refine ⟨⟨some a,cap,l⟩,by simp [cellsOf,Enc.cell,Enc.sz,hll],⟨by rw [hll];exact hl,hm,by rw [hll];exact hlen, ?_, ?_, ?_, ?_⟩, ?_⟩
   ·intro h0
    exact ⟨a,rfl,hspot (by rw [←hll];exact h0)⟩
   ·intro h0
    obtain ⟨v,hv⟩:=hcell0 (by rw [←hll];exact h0)
    exact World.block_lt_of_cell? w a hv
   ·intro i j hi' hj
    rw [hll] at hi'
    show w.cell? ⟨a.block,a.off+i*Enc.sz α+j,none⟩=some (Enc.cell (nth l i) j)
    rw [hn i hi',←(hF i hi').1 j hj]
    have hs:=hspot (by omega)
    rcases a with ⟨b,o,sp⟩
    simp only at hs
    subst hs
    rw [Addr.add_lit,Addr.add_lit]
   ·intro i hi'
    rw [hll] at hi'
    rw [hn i hi']
    exact (hF i hi').2.1
   ·intro i hi'
    rw [hll] at hi'
    rw [hn i hi']
    exact (hF i hi').2.2
def prFields (P:Program)(fs:Array Field):Prop:=
 ∃f0 f1 f2 f3:Field,fs= #[f0,f1,f2,f3]∧(f0.offset=0∧P.cellsOf f0.type=1∧Rd.ty (Sl (Sl Ins)) P f0.type)∧(f1.offset=1∧P.cellsOf f1.type=1∧Rd.ty (Sl Int) P f1.type)∧
  (f2.offset=2∧P.cellsOf f2.type=1∧Rd.ty Int P f2.type)∧(f3.offset=3∧P.cellsOf f3.type=1∧Rd.ty Int P f3.type)
def PR.fine (p:PR):Prop:=Rd.fine p.code∧Rd.fine p.words∧(Lit.int .i64 p.locks).wf=true∧(Lit.int .i64 p.regs).wf=true
theorem weights_agg {H:Type}{P:Program}{T:TypeId}{f0 f1 f2 f3:Field}{d0 d1 d2 d3:DataW H}(hT:P.underlying T=some (.struct #[f0,f1,f2,f3]))(h:∀n∈DataW.weights P T (.agg [d0,d1,d2,d3]),n≤reachBytes):
  (∀n∈DataW.weights P f0.type d0,n≤reachBytes)∧(∀n∈DataW.weights P f1.type d1,n≤reachBytes)∧(∀n∈DataW.weights P f2.type d2,n≤reachBytes)∧(∀n∈DataW.weights P f3.type d3,n≤reachBytes):=by
 unfold DataW.weights at h
 rw [hT] at h
 simp only [List.map_cons,List.map_nil,DataW.weightsEach,List.append_nil,List.mem_append] at h
 exact ⟨fun n hn=>h n (.inl hn),fun n hn=>h n (.inr (.inl hn)),fun n hn=>h n (.inr (.inr (.inl hn))),fun n hn=>h n (.inr (.inr (.inr hn)))⟩
theorem open_PR {H:Type}{enc:TypeId×Value→H}{P:Program}{w:World}{base:Nat}{spare:Nat→Bool}{held:Bool}{r:Go.Reach}{b0:Nat}{T:TypeId}{fs:Array Field}{v:Value}{d:DataW H}{p:List MemPlace}
  (hT:P.underlying T=some (.struct fs)) (hfs:prFields P fs) (hC:P.cellsOf T=4) (hv:Value.okWide P w r b0 T v) (h:DataW.Trod enc P w base spare held T v d p) (hw:∀n∈DataW.weights P T d,n≤reachBytes):
  ∃q:PR,v=q.val∧q.At w∧q.fine:=by
 obtain ⟨f0,f1,f2,f3,rfl,⟨o0,c0,t0⟩,⟨o1,c1,t1⟩,⟨o2,c2,t2⟩,⟨o3,c3,t3⟩⟩:=hfs
 obtain ⟨cs,rfl,hsz⟩:=okWide_struct hT hv
 obtain ⟨l⟩:=cs
 match l,hsz.trans hC with
 | [v0,v1,v2,v3],_=>
  obtain ⟨fuel,hf⟩:=h
  obtain ⟨xs,n,_,hx,_,hlen,hg⟩:=DataW.trod_struct hT hf
  match xs,hlen with
  | [y0,y1,y2,y3],_=>
   simp only [Prod.mk.injEq,List.map_cons,List.map_nil] at hx
   rw [hx.1] at hw
   obtain ⟨w0,w1,w2,w3⟩:=weights_agg hT hw
   have g0:=hg 0 f0 rfl
   have g1:=hg 1 f1 rfl
   have g2:=hg 2 f2 rfl
   have g3:=hg 3 f3 rfl
   rw [o0,c0] at g0
   rw [o1,c1] at g1
   rw [o2,c2] at g2
   rw [o3,c3] at g3
   simp [Value.cells] at g0 g1 g2 g3
   obtain ⟨s0,e0,i0,k0⟩:=Rd.read t0 g0 w0
   obtain ⟨s1,e1,i1,k1⟩:=Rd.read t1 g1 w1
   obtain ⟨s2,e2,i2,k2⟩:=Rd.read t2 g2 w2
   obtain ⟨s3,e3,i3,k3⟩:=Rd.read t3 g3 w3
   simp [cellsOf,Enc.cell,Enc.sz] at e0 e1 e2 e3
   subst e0 e1 e2 e3
   exact ⟨⟨s0,s1,s2,s3⟩,rfl,⟨i0,i1⟩,k0,k1,k2,k3⟩
end Go.Proofs.Ytmbfcgpneflbmaa
namespace Go.Proofs.Ytmbfcgpneflbmaa
open Go.ChangeShapes Go.WideShapes Go.ChangeAt Go.RowKit
set_option linter.unusedSimpArgs false
set_option linter.unusedVariables false
theorem own :ownKnob Try.prog.godebug=none:=by kernel_rfl
theorem laidOut :laidOutB Try.prog=true:=by kernel_rfl
theorem ty_int :Rd.ty Int Try.prog 3:=Try.underlying3
theorem ty_ins :Rd.ty Ins Try.prog 47:=by
 refine ⟨_,Try.underlying47,⟨rfl,fun j f hf=> ?_⟩,by kernel_rfl⟩
 rcases j with _|_|_|_|j<;>simp at hf<;>subst hf<;>exact ⟨rfl,Try.underlying3,by kernel_rfl⟩
theorem ty_ints :Rd.ty (Sl Int) Try.prog 23:=⟨_,Try.underlying23,by kernel_rfl,of_decide_eq_true (by kernel_rfl),by decide,ty_int⟩
theorem ty_code :Rd.ty (Sl Ins) Try.prog 45:=⟨_,Try.underlying45,by kernel_rfl,of_decide_eq_true (by kernel_rfl),by decide,ty_ins⟩
theorem ty_codes :Rd.ty (Sl (Sl Ins)) Try.prog 22:=⟨_,Try.underlying22,by kernel_rfl,of_decide_eq_true (by kernel_rfl),by decide,ty_code⟩
theorem ty_pr :∃fs,Try.prog.underlying 25=some (.struct fs)∧prFields Try.prog fs:=
 ⟨_,Try.underlying25,_,_,_,_,rfl,⟨rfl,by kernel_rfl,ty_codes⟩,⟨rfl,by kernel_rfl,ty_ints⟩,⟨rfl,by kernel_rfl,ty_int⟩,⟨rfl,by kernel_rfl,ty_int⟩⟩
section
variable {α:Type}[Enc α]
def ofSl (s:Sl α):Ls α:=⟨.slice s.A s.l.length s.cap,s.l⟩
theorem ofSl_at {s:Sl α}{w:World}(h:s.At w):(ofSl s).At w:=⟨s.A,s.cap,rfl,h⟩
def ofSl2 (s:Sl (Sl α)):Ls (Ls α):=⟨.slice s.A s.l.length s.cap,s.l.map ofSl⟩
theorem ofSl2_at {s:Sl (Sl α)}{w:World}(h:s.At w):(ofSl2 s).At w:=by
 refine ⟨s.A,s.cap,by simp [ofSl2],⟨by simpa [ofSl2] using h.le,h.max,by simpa [ofSl2] using h.len,by simpa [ofSl2] using h.some,by simpa [ofSl2] using h.lt',fun i j hi hj=> ?_,fun i hi=> ?_⟩⟩
 ·have hi' :i<s.l.length:=by simpa [ofSl2] using hi
  show w.cell? _=some (Enc.cell (nth (s.l.map ofSl) i) j)
  rw [nth_map' ofSl _ _ hi']
  exact h.cell i j hi' hj
 ·have hi' :i<s.l.length:=by simpa [ofSl2] using hi
  show Enc.inner (nth (s.l.map ofSl) i) w
  rw [nth_map' ofSl _ _ hi']
  exact ofSl_at (h.inner i hi')
end
theorem pr_ls (q:PR)(w:World)(h:q.At w):∃(code:Ls (Ls Ins)) (words:Ls Int) (locks regs:Int),q.val= .agg #[code.v,words.v, .int .i64 locks, .int .i64 regs]∧code.At w∧words.At w:=
 ⟨ofSl2 q.code,ofSl q.words,q.locks,q.regs,rfl,ofSl2_at h.code,ofSl_at h.words⟩
set_option maxRecDepth 100000 in
theorem orderHolds_lifted (os:Os)(started:os.Started)(H:Type)(enc:TypeId×Value→H):
  ReturnsInHanded {} Try.checked os 5 .any (Rows.orderHoldsSpec.pre6 enc Try.prog Try.f5 Rows.orderHoldsRow.domain false) (Rows.orderHoldsSpec.post enc Try.prog Try.f5 false true false false):=by
 refine returnsInHanded_of_change_sized (C:=Try.checked) own started (by kernel_rfl) Try.func5
  (ChangeSpec.witness6 (enc:=enc) (C:=Try.checked) false ⟨#[], #[.agg #[.slice none 0 0, .slice none 0 0, .int .i64 0, .int .i64 0]], []⟩ 8 (by kernel_rfl) (by kernel_rfl) (by kernel_rfl) (by kernel_rfl)) ?_
 intro W base args ds gs before hval0 hW _ hsz0 _
 have hsz:(DataW.weightsEach Try.prog (Try.f5.params.toList++Rows.orderHoldsSpec.plain.varTypes Try.prog) (ds++gs)).all (· ≤reachBytes)=true:=hsz0
 have hval:∀(j:Nat) t v,Try.f5.params[j]? =some t→args[j]? =some v→Value.okWide Try.prog W .any base t v:=hval0
 have hW' :=hW
 obtain ⟨p,q,hA0,hV,rfl,hfz,hnd⟩:=hW
 have hA:DataW.TrodAll enc Try.prog W 0 (fun _=>true) true Try.f5.params.toList args.toList ds p:=hA0
 rw [Try.params5] at hA hval hsz
 obtain ⟨v0,d0,rfl,rfl,h0⟩:=trodAll_one hA
 obtain ⟨rfl,rfl⟩:=trodVars_none hV
 clear hA0 hval0
 simp only [List.append_nil] at hW'
 have hw0:∀n∈DataW.weights Try.prog 25 d0,n≤reachBytes:=by
  intro n hn
  have:=List.all_eq_true.1 hsz n (by simp [DataW.weightsEach,hn])
  simpa using this
 obtain ⟨fs,hfs,hpf⟩:=ty_pr
 obtain ⟨pr,rfl,hAt,_⟩:=open_PR hfs hpf (by kernel_rfl) (hval 0 25 v0 rfl rfl) h0 hw0
 have hlt:∀x∈p,x.block<W.heap.size:=fun x hx=>by simpa using hW'.lt x hx
 obtain ⟨code,words,locks,regs,hv,hc,hw⟩:=pr_ls pr W hAt
 have hcall:=orderHolds_any code words locks regs W hc hw
 rw [←hv] at hcall
 refine Calls.mono hcall fun e W' ⟨v',he,hv',hg0⟩=> ?_
 have hg:=hg0.chg.to_below
 subst he
 subst hv'
 exact ⟨_,rfl,_,_,_, [],p, [],hW',trodAll_mk1 (shut_bool Try.underlying4 true),trodAll_mk1 (Below.trod laidOut (by kernel_rfl) (of_decide_eq_true (by kernel_rfl)) h0 hg hlt),rfl,hg.frame _,fun h=>by cases h⟩
theorem orderHolds_holds :Rows.OrderHoldsSaid:=
 OpenClaim.holds_of_wide 5 Try.f5 rfl rfl rfl rfl rfl rfl rfl ⟨rfl,rfl,rfl,rfl,rfl⟩ rfl rfl rfl rfl rfl (by kernel_rfl) Try.func5 (by kernel_rfl)
  (of_decide_eq_true (by kernel_rfl)) (by unfold Func.isWrapper;first|(rw [if_pos (by decide+kernel)];kernel_rfl)|(rw [if_neg (by decide+kernel)];exact ⟨rfl,rfl⟩))
  (fun os started H enc _=>orderHolds_lifted os started H enc)
end Go.Proofs.Ytmbfcgpneflbmaa
