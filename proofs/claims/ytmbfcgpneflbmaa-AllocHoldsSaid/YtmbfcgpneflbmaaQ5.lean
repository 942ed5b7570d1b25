/- Part 5 of the texts. -/
import Derived.Test.YtmbfcgpneflbmaaQ4
namespace Go.Proofs.Ytmbfcgpneflbmaa
open Go.RowKit
set_option linter.unusedSimpArgs false
set_option linter.unusedVariables false
inductive RchC (code:List Ins):Nat→Prop
 |zero:RchC code 0
 |step (i:Nat) (y:Int):RchC code i→i<code.length→y∈nextsL code i→RchC code y.toNat
def Hits (x:Ins)(a b:Int):Prop:=wrG x=a∨wrG x=b
def IsMv (x:Ins)(a b:Int):Prop:=x.op=2∧x.a=a∧x.b=b
inductive NotI (code:List Ins)(a b:Int):Nat→Prop
 |zero:NotI code a b 0
 |gen (i:Nat) (y:Int):RchC code i→i<code.length→y∈nextsL code i→Hits (nth code i) a b→¬IsMv (nth code i) a b→NotI code a b y.toNat
 |pass (i:Nat) (y:Int):RchC code i→i<code.length→y∈nextsL code i→¬Hits (nth code i) a b→NotI code a b i→NotI code a b y.toNat
def SameI (code:List Ins)(a b:Int)(i:Nat):Prop:=RchC code i∧¬NotI code a b i
def GoodZ (code:List Ins)(z:Int×Int):Prop:=z.1≠z.2∧∃j,j<code.length∧IsMv (nth code j) z.1 z.2
structure CodeC (code:List Ins):Prop where
 op:∀i,i<code.length→1≤(nth code i).op
 mv:∀i,i<code.length→(nth code i).op=2→0≤(nth code i).a∧0≤(nth code i).b
 nx:∀i,i<code.length→∀y∈nextsL code i,0≤y∧y≤(code.length:Int)
section
variable {code:List Ins}{a b:Int}
theorem wr_mv {x:Ins}(h:x.op=2):wrG x=x.a:=by unfold wrG;rw [if_neg (by omega),if_pos (by omega)]
theorem same_step {i:Nat}{y:Int}(hr:RchC code i)(hi:i<code.length)(hy:y∈nextsL code i)(hn:¬NotI code a b y.toNat):(Hits (nth code i) a b∧IsMv (nth code i) a b)∨(¬Hits (nth code i) a b∧¬NotI code a b i):=by
 by_cases h:Hits (nth code i) a b
 ·refine .inl ⟨h, ?_⟩
  apply Classical.byContradiction
  intro h2
  exact hn (.gen i y hr hi hy h h2)
 ·exact .inr ⟨h,fun h2=>hn (.pass i y hr hi hy h h2)⟩
theorem same_uniq0 {r:Int}{i:Nat}(hr:RchC code i):∀b c,¬NotI code r b i→¬NotI code r c i→b=c:=by
 induction hr with
 |zero=>intro b c h;exact absurd .zero h
 |step i y hr hi hy ih=>
  intro b c hb hc
  rcases same_step hr hi hy hb with ⟨h1,h2⟩|⟨h1,h2⟩<;>rcases same_step hr hi hy hc with ⟨h3,h4⟩|⟨h3,h4⟩
  ·rw [←h2.2.2,←h4.2.2]
  ·exact absurd (.inl (by rw [wr_mv h2.1];exact h2.2.1)) h3
  ·exact absurd (.inl (by rw [wr_mv h4.1];exact h4.2.1)) h1
  ·exact ih b c h2 h4
theorem GoodZ.pos (hc:CodeC code){z:Int×Int}(h:GoodZ code z):0≤z.1∧0≤z.2:=by
 obtain ⟨_,j,hj,h1,h2,h3⟩:=h
 have:=hc.mv j hj h1
 rw [←h2,←h3]
 exact this
theorem mem_wr {x:Ins}{l:List (Int×Int)}{z:Int×Int}(h1:0≤z.1)(h2:0≤z.2):z∈wrI x l↔¬Hits x z.1 z.2∧z∈l:=by
 unfold wrI Hits
 by_cases hw:0≤wrG x
 ·rw [if_pos hw]
  unfold wrZ wrP
  rw [List.mem_filter]
  constructor
  ·rintro ⟨h3,h4⟩
   refine ⟨?_,h3⟩
   simp at h4
   omega
  ·rintro ⟨h3,h4⟩
   refine ⟨h4, ?_⟩
   simp
   omega
 ·rw [if_neg hw]
  constructor
  ·exact fun h=>⟨by omega,h⟩
  ·exact fun h=>h.2
theorem mem_beh {x:Ins}{l:List (Int×Int)}{z:Int×Int}(h1:0≤z.1)(h2:0≤z.2)(hz:z.1≠z.2):z∈behZ x l↔(Hits x z.1 z.2∧IsMv x z.1 z.2)∨(¬Hits x z.1 z.2∧z∈l):=by
 unfold behZ
 by_cases hm:x.op=2∧x.a≠x.b
 ·rw [if_pos hm,List.mem_append,mem_wr h1 h2,List.mem_singleton]
  constructor
  ·rintro (h|h)
   ·exact .inr h
   ·subst h
    exact .inl ⟨.inl (wr_mv hm.1),hm.1,rfl,rfl⟩
  ·rintro (⟨h3,h4⟩|h)
   ·exact .inr (by rw [h4.2.1,h4.2.2])
   ·exact .inl h
 ·rw [if_neg hm,mem_wr h1 h2]
  constructor
  ·exact .inr
  ·rintro (⟨h3,h4⟩|h)
   ·exact absurd ⟨h4.1,by rw [h4.2.1,h4.2.2];exact hz⟩ hm
   ·exact h
theorem nodup_subU :∀ {l m:List Int},l.Nodup→(∀x∈l,x∈m)→l.length≤m.length
 | [],_,_,_=>Nat.zero_le _
 |x::l,m,hn,hs=>by
  rw [List.nodup_cons] at hn
  have hx:=hs x (List.mem_cons_self ..)
  have h2:=nodup_subU (m:=m.erase x) hn.2 fun y hy=>(List.mem_erase_of_ne (fun e=>hn.1 (by rw [←e];exact hy))).2 (hs y (List.mem_cons_of_mem _ hy))
  rw [List.length_erase_of_mem hx] at h2
  have:=List.length_pos_of_mem hx
  rw [List.length_cons]
  omega
theorem good_len {l:List (Int×Int)}(hn:(l.map (·.1)).Nodup)(h:∀z∈l,GoodZ code z):l.length≤code.length:=by
 have hsub:∀k∈l.map (·.1),k∈code.map (·.a):=by
  intro k hk
  obtain ⟨z,hz,rfl⟩:=List.mem_map.1 hk
  obtain ⟨_,j,hj,_,h2,_⟩:=h z hz
  exact List.mem_map.2 ⟨nth code j,nth_mem _ _ hj,h2⟩
 have:=nodup_subU hn hsub
 simpa using this
end
structure LkB (code:List Ins)(M:List MP)(wk:List Int):Prop where
 len:M.length=code.length+1
 zero:(nth M 0).p≠none∧(nth M 0).l= []
 rch:∀i,i≤code.length→(nth M i).p≠none→RchC code i
 sup:∀i,i≤code.length→(nth M i).p≠none→∀z,GoodZ code z→SameI code z.1 z.2 i→z∈(nth M i).l
 good:∀i,i≤code.length→∀z∈(nth M i).l,GoodZ code z
 nd:∀i,i≤code.length→((nth M i).l.map (·.1)).Nodup
 nul:∀i,i≤code.length→(nth M i).p=none→(nth M i).l= []
 wk:∀y∈wk,0≤y∧y≤(code.length:Int)∧(nth M y.toNat).p≠none
def Clo (code:List Ins)(M:List MP)(i:Nat):Prop:=∀y∈nextsL code i,(nth M y.toNat).p≠none∧∀z∈(nth M y.toNat).l,z∈behZ (nth code i) (nth M i).l
structure LkI (code:List Ins)(M:List MP)(wk:List Int):Prop where
 b:LkB code M wk
 clo:∀i,i<code.length→(nth M i).p≠none→(i:Int)∉wk→Clo code M i
structure LkN (code:List Ins)(M:List MP)(wk:List Int)(at_:Nat)(out:List (Int×Int))(k:Nat):Prop where
 b:LkB code M wk
 clo:∀i,i<code.length→i≠at_→(nth M i).p≠none→(i:Int)∉wk→Clo code M i
 done:∀j,j<k→(nth M (nth (nextsL code at_) j).toNat).p≠none∧∀z∈(nth M (nth (nextsL code at_) j).toNat).l,z∈out
 cur:(at_:Int)∉wk→out=behZ (nth code at_) (nth M at_).l
structure OutC (code:List Ins)(at_:Nat)(out:List (Int×Int)):Prop where
 lt:at_<code.length
 rch:RchC code at_
 good:∀z∈out,GoodZ code z
 nd:(out.map (·.1)).Nodup
 sup:∀y∈nextsL code at_,∀z,GoodZ code z→SameI code z.1 z.2 y.toNat→z∈out
def muM (n:Nat):List MP→Nat
 | []=>0
 |x::M=>(if x.p=none then n+2 else x.l.length)+muM n M
theorem muM_set (n:Nat)(y:MP):∀(M:List MP) (i:Nat),i<M.length→muM n (M.set i y)+(if (nth M i).p=none then n+2 else (nth M i).l.length)=muM n M+(if y.p=none then n+2 else y.l.length)
 | [],_,h=>by simp at h
 |x::M,0,_=>by
  rw [List.set_cons_zero]
  have e:nth (x::M) 0=x:=rfl
  rw [e]
  simp only [muM]
  omega
 |x::M,i+1,h=>by
  have ih:=muM_set n y M i (by simpa using h)
  rw [List.set_cons_succ]
  have e:nth (x::M) (i+1)=nth M i:=rfl
  rw [e]
  simp only [muM]
  omega
theorem nth_set1 {α:Type}[Inhabited α](l:List α)(i k:Nat)(x:α):nth (l.set i x) k=if i=k∧i<l.length then x else nth l k:=by
 simp only [nth,List.getD,List.getElem?_set]
 by_cases h:i=k
 ·subst h
  by_cases h2:i<l.length
  ·simp [h2]
  ·simp [h2,List.getElem?_eq_none (Nat.le_of_not_lt h2)]
 ·simp [h]
theorem nth_setM (M:List MP)(i j:Nat)(x:MP)(hi:i<M.length):nth (M.set i x) j=if j=i then x else nth M j:=by
 rw [nth_set1]
 by_cases h:j=i
 ·rw [if_pos h,if_pos ⟨h.symm,hi⟩]
 ·rw [if_neg h,if_neg (fun e=>h e.1.symm)]
section
variable {code:List Ins}{M:List MP}{wk:List Int}{at_ k:Nat}{out:List (Int×Int)}
theorem LkI.start (hc:CodeC code)(g:Nat):LkI code ((List.replicate (code.length+1) (⟨none, []⟩:MP)).set 0 ⟨some g, []⟩) [0]:=by
 have hn:∀i,i≤code.length→nth ((List.replicate (code.length+1) (⟨none, []⟩:MP)).set 0 ⟨some g, []⟩) i=if i=0 then ⟨some g, []⟩ else ⟨none, []⟩:=by
  intro i hi
  rw [nth_setM _ _ _ _ (by simp)]
  by_cases h:i=0
  ·rw [if_pos h,if_pos h]
  ·rw [if_neg h,if_neg h];simp [nth,List.getD,List.getElem?_replicate,show i<code.length+1 by omega]
 have hz:∀i,i≤code.length→(nth ((List.replicate (code.length+1) (⟨none, []⟩:MP)).set 0 ⟨some g, []⟩) i).p≠none→i=0:=by
  intro i hi h
  rw [hn i hi] at h
  apply Classical.byContradiction
  intro h2
  rw [if_neg h2] at h
  exact h rfl
 have hl:∀i,i≤code.length→(nth ((List.replicate (code.length+1) (⟨none, []⟩:MP)).set 0 ⟨some g, []⟩) i).l= []:=by
  intro i hi
  rw [hn i hi]
  split<;>rfl
 have h0:nth ((List.replicate (code.length+1) (⟨none, []⟩:MP)).set 0 ⟨some g, []⟩) 0=⟨some g, []⟩:=by rw [hn 0 (by omega),if_pos rfl]
 refine ⟨⟨by simp, ?_, ?_, ?_, ?_, ?_,fun i hi _=>hl i hi, ?_⟩, ?_⟩
 ·rw [h0]
  exact ⟨by simp,rfl⟩
 ·intro i hi h
  rw [hz i hi h];exact .zero
 ·intro i hi h z _ hs
  rw [hz i hi h] at hs
  exact absurd .zero hs.2
 ·intro i hi z hz
  rw [hl i hi] at hz;cases hz
 ·intro i hi
  rw [hl i hi];exact List.nodup_nil
 ·intro y hy
  obtain rfl:y=0:=by simpa using hy
  refine ⟨by omega,by omega, ?_⟩
  rw [show (0:Int).toNat=0 from rfl,h0]
  simp
 ·intro i hi h hw
  rw [hz i (by omega) h] at hw
  exact absurd (by simp) hw
theorem LkB.take (h:LkB code M wk)(j:Nat):LkB code M (wk.take j):=⟨h.len,h.zero,h.rch,h.sup,h.good,h.nd,h.nul,fun y hy=>h.wk y (List.mem_of_mem_take hy)⟩
theorem nx_at (hc:CodeC code)(ho:OutC code at_ out)(hk:k<(nextsL code at_).length):0≤nth (nextsL code at_) k∧nth (nextsL code at_) k≤(code.length:Int):=hc.nx at_ ho.lt _ (nth_mem _ _ hk)
theorem LkN.put (hc:CodeC code)(h:LkN code M wk at_ out k)(ho:OutC code at_ out)(hk:k<(nextsL code at_).length){q:Option Nat}{l:List (Int×Int)}{wk' :List Int}{t:Nat}(ht:t=(nth (nextsL code at_) k).toNat)(hq:q≠none)
  (hlo:∀z∈l,z∈out) (hll:(nth M t).p≠none→∀z∈l,z∈(nth M t).l) (hup:∀z∈out,((nth M t).p≠none→z∈(nth M t).l)→z∈l) (hnd:(l.map (·.1)).Nodup)
  (hwk:wk' =wk++ [nth (nextsL code at_) k]∨(wk' =wk∧(nth M t).p≠none∧l=(nth M t).l)):LkN code (M.set t ⟨q,l⟩) wk' at_ out (k+1):=by
 obtain ⟨n1,n2⟩:=nx_at hc ho hk
 have htl:t≤code.length:=by omega
 have hMl:=h.b.len
 have hn:∀j,nth (M.set t ⟨q,l⟩) j=if j=t then ⟨q,l⟩ else nth M j:=fun j=>nth_setM M t j _ (by omega)
 have hsub:∀y,y∈wk→y∈wk' :=by
  intro y hy
  rcases hwk with e|⟨e,_⟩
  ·rw [e];exact List.mem_append_left _ hy
  ·rw [e];exact hy
 have hpn:∀j,(nth M j).p≠none→(nth (M.set t ⟨q,l⟩) j).p≠none:=by
  intro j hj
  rw [hn j];split
  ·exact hq
  ·exact hj
 have htm:(t:Int)=nth (nextsL code at_) k:=by omega
 have hstay:∀i:Nat,(i:Int)∉wk' →i=t→(nth M i).p≠none∧l=(nth M i).l:=by
  intro i hi e
  rcases hwk with e2|⟨_,e2⟩
  ·exact absurd (by rw [e2,e,htm];exact List.mem_append_right _ (List.mem_singleton.2 rfl)) hi
  ·rw [e];exact e2
 have hll' :∀i:Nat,(i:Int)∉wk' →(nth (M.set t ⟨q,l⟩) i).l=(nth M i).l:=by
  intro i hi
  rw [hn i]
  split
  ·rename_i e;exact (hstay i hi e).2
  ·rfl
 have hclo:∀i:Nat,(i:Int)∉wk' →Clo code M i→Clo code (M.set t ⟨q,l⟩) i:=by
  intro i hi hcl y hy
  obtain ⟨c1,c2⟩:=hcl y hy
  refine ⟨hpn _ c1,fun z hz=> ?_⟩
  rw [hll' i hi]
  refine c2 z ?_
  rw [hn] at hz
  split at hz
  ·rename_i e;rw [e] at c1⊢;exact hll c1 z hz
  ·exact hz
 have hrt:RchC code t:=by rw [ht];exact .step at_ _ ho.rch ho.lt (nth_mem _ _ hk)
 refine ⟨⟨by rw [List.length_set];exact hMl, ?_, ?_, ?_, ?_, ?_, ?_, ?_⟩, ?_, ?_, ?_⟩
 ·refine ⟨hpn 0 h.b.zero.1, ?_⟩
  rw [hn 0]
  split
  ·rename_i e
   have h3:=h.b.zero
   rw [e] at h3
   apply List.eq_nil_iff_forall_not_mem.2
   intro z hz
   have:=hll h3.1 z hz
   rw [h3.2] at this
   cases this
  ·exact h.b.zero.2
 ·intro i hi hp
  rw [hn i] at hp
  split at hp
  ·rename_i e;rw [e];exact hrt
  ·exact h.b.rch i hi hp
 ·intro i hi hp z hz hs
  rw [hn i] at hp⊢
  split at hp
  ·rename_i e
   rw [if_pos e]
   rw [e] at hs
   exact hup z (ho.sup _ (nth_mem _ _ hk) z hz (by rw [←ht];exact hs)) fun h2=>h.b.sup t htl h2 z hz hs
  ·rename_i e
   rw [if_neg e]
   exact h.b.sup i hi hp z hz hs
 ·intro i hi z hz
  rw [hn i] at hz
  split at hz
  ·exact ho.good z (hlo z hz)
  ·exact h.b.good i hi z hz
 ·intro i hi
  rw [hn i]
  split
  ·exact hnd
  ·exact h.b.nd i hi
 ·intro i hi hp
  rw [hn i] at hp⊢
  split at hp
  ·exact absurd hp hq
  ·rename_i e
   rw [if_neg e];exact h.b.nul i hi hp
 ·intro y hy
  have:y∈wk∨y=nth (nextsL code at_) k:=by
   rcases hwk with e|⟨e,_⟩
   ·rw [e] at hy
    rcases List.mem_append.1 hy with hy|hy
    ·exact .inl hy
    ·exact .inr (List.mem_singleton.1 hy)
   ·rw [e] at hy;exact .inl hy
  rcases this with h2|h2
  ·obtain ⟨w1,w2,w3⟩:=h.b.wk y h2
   exact ⟨w1,w2,hpn _ w3⟩
  ·subst h2
   refine ⟨n1,n2, ?_⟩
   rw [←ht,hn t,if_pos rfl];exact hq
 ·intro i hi hne hp hw
  by_cases e:i=t
  ·obtain ⟨e1,e2⟩:=hstay i hw e
   exact hclo i hw (h.clo i hi hne e1 fun hm=>hw (hsub _ hm))
  ·rw [hn i,if_neg e] at hp
   exact hclo i hw (h.clo i hi hne hp fun hm=>hw (hsub _ hm))
 ·intro j hj
  by_cases e:(nth (nextsL code at_) j).toNat=t
  ·rw [e,hn t,if_pos rfl]
   exact ⟨hq,hlo⟩
  ·rw [hn,if_neg e]
   have:j<k:=by
    rcases Nat.lt_or_ge j k with h2|h2
    ·exact h2
    ·obtain rfl:j=k:=by omega
     exact absurd ht.symm e
   exact h.done j this
 ·intro hw
  rw [hll' at_ hw]
  exact h.cur fun hm=>hw (hsub _ hm)
theorem mem_inZ {lo l:List (Int×Int)}(hn:(lo.map (·.1)).Nodup){z:Int×Int} :z∈inZ lo l↔z∈l∧z∈lo:=by
 unfold inZ inP
 rw [List.mem_filter]
 constructor
 ·rintro ⟨h1,h2⟩
  refine ⟨h1, ?_⟩
  cases hg:getZ z.1 lo with
  |none=>rw [hg] at h2;simp at h2
  |some v=>
   rw [hg] at h2
   have:z.2=v:=by simpa using h2
   have h3:=(getZ_some hn).1 hg
   rw [←this] at h3
   exact h3
 ·rintro ⟨h1,h2⟩
  refine ⟨h1, ?_⟩
  have:getZ z.1 lo=some z.2:=(getZ_some hn).2 h2
  rw [this];simp
theorem LkN.new (hc:CodeC code)(h:LkN code M wk at_ out k)(ho:OutC code at_ out)(hk:k<(nextsL code at_).length){t:Nat}(ht:t=(nth (nextsL code at_) k).toNat)(hp:(nth M t).p=none)(g:Nat):
  LkN code (M.set t ⟨some g,out⟩) (wk++ [nth (nextsL code at_) k]) at_ out (k+1)∧(wk++ [nth (nextsL code at_) k]).length+muM code.length (M.set t ⟨some g,out⟩)≤wk.length+muM code.length M:=by
 refine ⟨h.put hc ho hk ht (by simp) (fun z hz=>hz) (fun h2=>absurd hp h2) (fun z hz _=>hz) ho.nd (.inl rfl), ?_⟩
 obtain ⟨n1,n2⟩:=nx_at hc ho hk
 have h2:=muM_set code.length ⟨some g,out⟩ M t (by have:=h.b.len;omega)
 rw [if_pos hp] at h2
 have h3:=good_len ho.nd ho.good
 simp at h2⊢
 omega
theorem LkN.cut (hc:CodeC code)(h:LkN code M wk at_ out k)(ho:OutC code at_ out)(hk:k<(nextsL code at_).length){t:Nat}(ht:t=(nth (nextsL code at_) k).toNat)(hp:(nth M t).p≠none)(hl:(inZ out (nth M t).l).length≠(nth M t).l.length):
  LkN code (M.set t ⟨(nth M t).p,inZ out (nth M t).l⟩) (wk++ [nth (nextsL code at_) k]) at_ out (k+1)∧(wk++ [nth (nextsL code at_) k]).length+muM code.length (M.set t ⟨(nth M t).p,inZ out (nth M t).l⟩)≤wk.length+muM code.length M:=by
 obtain ⟨n1,n2⟩:=nx_at hc ho hk
 have hsub:(inZ out (nth M t).l).Sublist (nth M t).l:=List.filter_sublist
 refine ⟨h.put hc ho hk ht hp (fun z hz=>((mem_inZ ho.nd).1 hz).2) (fun _ z hz=>hsub.subset hz) (fun z hz h2=>(mem_inZ ho.nd).2 ⟨h2 hp,hz⟩) ((h.b.nd t (by omega)).sublist (hsub.map _)) (.inl rfl), ?_⟩
 have h2:=muM_set code.length ⟨(nth M t).p,inZ out (nth M t).l⟩ M t (by have:=h.b.len;omega)
 rw [if_neg hp] at h2
 have h3:=hsub.length_le
 simp only [if_neg hp] at h2
 simp
 omega
theorem LkN.fin (h:LkN code M wk at_ out k)(hk:k=(nextsL code at_).length):LkI code M wk:=by
 refine ⟨h.b,fun i hi hp hw=> ?_⟩
 by_cases e:i=at_
 ·subst e
  intro y hy
  obtain ⟨j,hj,rfl⟩:=List.getElem_of_mem hy
  have h2:=h.done j (by omega)
  rw [nth_lt _ _ hj] at h2
  rw [←h.cur hw]
  exact h2
 ·exact h.clo i hi e hp hw
noncomputable def sameF (code:List Ins) (i:Nat) (r:Int):Option Int:=
 open Classical in if h:∃b,GoodZ code (r,b)∧SameI code r b i then some h.choose else none
theorem sameF_some {i:Nat}{r b:Int} :sameF code i r=some b↔GoodZ code (r,b)∧SameI code r b i:=by
 unfold sameF
 constructor
 ·intro h
  split at h
  ·rename_i hex
   have h2:=hex.choose_spec
   rw [Option.some.inj h] at h2
   exact h2
  ·cases h
 ·intro h
  have hex:∃b,GoodZ code (r,b)∧SameI code r b i:=⟨b,h⟩
  rw [dif_pos hex]
  exact congrArg some (same_uniq0 h.2.1 _ _ hex.choose_spec.2.2 h.2.2)
theorem LkI.end_ (hc:CodeC code)(h:LkI code M []){i:Nat}(hi:i≤code.length)(r:Int):getZ r (nth M i).l=sameF code i r:=by
 have hrch:∀i,RchC code i→(nth M i).p≠none:=by
  intro i hr
  induction hr with
  |zero=>exact h.b.zero.1
  |step i y hr hi hy ih=>exact (h.clo i hi ih (by simp) y hy).1
 have hnot:∀z,GoodZ code z→∀i,NotI code z.1 z.2 i→z∉(nth M i).l:=by
  intro z hz i hn
  obtain ⟨p1,p2⟩:=hz.pos hc
  induction hn with
  |zero=>rw [h.b.zero.2];exact List.not_mem_nil
  |gen i y hr hi hy h1 h2=>
   intro hm
   have:=(h.clo i hi (hrch i hr) (by simp) y hy).2 z hm
   rw [mem_beh p1 p2 hz.1] at this
   rcases this with ⟨_,h3⟩|⟨h3,_⟩
   ·exact h2 h3
   ·exact h3 h1
  |pass i y hr hi hy h1 h2 ih=>
   intro hm
   have:=(h.clo i hi (hrch i hr) (by simp) y hy).2 z hm
   rw [mem_beh p1 p2 hz.1] at this
   rcases this with ⟨h3,_⟩|⟨_,h3⟩
   ·exact h1 h3
   ·exact ih h3
 apply Option.ext
 intro b
 rw [sameF_some,getZ_some (h.b.nd i hi)]
 constructor
 ·intro hm
  have hg:=h.b.good i hi _ hm
  refine ⟨hg, ?_,fun hn=>hnot _ hg i hn hm⟩
  refine h.b.rch i hi fun hp=> ?_
  rw [h.b.nul i hi hp] at hm
  cases hm
 ·rintro ⟨hg,hs⟩
  exact h.b.sup i hi (hrch i hs.1) _ hg hs
end
set_option maxRecDepth 100000
set_option maxHeartbeats 1000000
theorem putK_op (x:Ins)(k:Nat)(v:Int):(putK x k v).op=x.op:=by unfold putK;split;rfl;split<;>rfl
def colr (cl:List Int)(r d:Int):Int:=if nth cl r.toNat<0 then d else nth cl r.toNat
def plcF (cl:List Int)(x:Ins)(m:Nat)(j:Nat):Int:=if j<m then colr cl (nth (rdG x) j) ((6+j:Nat):Int) else 0
def ldK (cl wd:List Int)(x:Ins)(k:Nat):List Ins:=if nth cl (nth (rdG x) k).toNat<0 then [(⟨8,((6+k:Nat):Int),nth wd (nth (rdG x) k).toNat,0⟩:Ins)] else []
def ldL (cl wd:List Int)(x:Ins)(m:Nat):List Ins:=(List.range m).flatMap (ldK cl wd x)
theorem ldL_succ (cl wd:List Int)(x:Ins)(m:Nat):ldL cl wd x (m+1)=ldL cl wd x m++ldK cl wd x m:=by simp [ldL,List.range_succ]
def ptS (g:Nat→Int)(wv:Int)(x:Ins):Nat→Ins×Nat
 |0=>(x,0)
 |n+1=>if kAt (kindsB x.op) n=114 then (if n=0∧0≤wrG x then (putK (ptS g wv x n).1 n wv,(ptS g wv x n).2) else (putK (ptS g wv x n).1 n (g (ptS g wv x n).2),(ptS g wv x n).2+1)) else ptS g wv x n
def paintL (cl wd:List Int)(x:Ins):List Ins:=ldL cl wd x (rdG x).length++((ptS (plcF cl x (rdG x).length) (colr cl (wrG x) 6) x (kindsB x.op).size).1::(if 0≤wrG x∧nth cl (wrG x).toNat<0 then [⟨9,nth wd (wrG x).toNat,6,0⟩] else []))
section
variable {cl wd pl:List Int}{x y:Ins}{k n k2:Nat}{ol:List Ins}{g:Nat→Int}{wv:Int}
theorem pt_n (h:ptS g wv x n=(y,k2))(hk:¬kAt (kindsB x.op) n=114):ptS g wv x (n+1)=(y,k2):=by rw [ptS,if_neg hk];exact h
theorem pt_r (h:ptS g wv x n=(y,k2))(hk:kAt (kindsB x.op) n=114)(h1:¬(n=0∧0≤wrG x)):ptS g wv x (n+1)=(putK y n (g k2),k2+1):=by rw [ptS,if_pos hk,if_neg h1,h]
theorem ptS_op (g:Nat→Int)(wv:Int)(x:Ins):∀n,(ptS g wv x n).1.op=x.op
 |0=>rfl
 |n+1=>by
  rw [ptS]
  split
  ·split
   ·show (putK _ _ _).op=_;rw [putK_op];exact ptS_op g wv x n
   ·show (putK _ _ _).op=_;rw [putK_op];exact ptS_op g wv x n
  ·exact ptS_op g wv x n
end
section
variable {P:Program}{o:Oper}{N:Nat}{K:Nat→Prop}{W w:World}{a:Act}{F:List (Nat×Value)}{L:List Asn}{T kT eT:TypeId}{p:Option Nat}{l:List (Int×Int)}{k v:Int}{g:Nat}
theorem run_lookZ0 (hT:MapTZ P T kT eT)(h:(Asn.mapO p l).ok w):(Instr.lookup T (.map p) (.int .i64 k) false).run P w= .ok (.int .i64 ((getZ k l).getD 0)) w:=by
 cases p with
 |some g=>
  rw [run_lookup_int w T kT eT g k (vz l) (.int .i64 0) hT.map hT.int (hT.zero w) (MapZ.int h),atKey_vz]
  cases getZ k l<;>rfl
 |none=>
  obtain rfl:l= []:=h
  have e2:=run_checkKey_int (P:=P) w true 9999 kT k hT.int
  simp [Instr.lookup,run_underlying hT.map,e2,Instr.findKey,run_underlying hT.int,Instr.findNow,hT.zero,getZ]
theorem r_lookZ0 {x y:Operand}{i:Nat}(hT:MapTZ P T kT eT)(ho:o.op= .lookup T x y false)(hx:ev F x=some (.map p))(hy:ev F y=some (.int .i64 k))(hi:L[i]? =some (.mapO p l)):Rn P o N K W F L (.int .i64 ((getZ k l).getD 0)):=fun a w h=>by
 have key:=run_lookZ0 (k:=k) hT (h.sh.ok _ (List.mem_of_getElem? hi))
 unfold execOp
 simp only [ho,h.fr.ev hx,h.fr.ev hy,Sem.run_bind,key,Result.andThen_ok,Sem.run_pure]
theorem r_lookZ0R {x y:Operand}{i:Nat}(hT:MapTZ P T kT eT)(ho:o.op= .lookup T x y false)(hx:ev F x=some (.map p))(hy:ev F y=some (.int .i64 k))(hi:L[i]? =some (.ro [.mapO p l])):Rn P o N K W F L (.int .i64 ((getZ k l).getD 0)):=fun a w h=>by
 have key:=run_lookZ0 (k:=k) hT ((h.sh.ok _ (List.mem_of_getElem? hi)) _ (List.mem_cons_self ..))
 unfold execOp
 simp only [ho,h.fr.ev hx,h.fr.ev hy,Sem.run_bind,key,Result.andThen_ok,Sem.run_pure]
end
set_option maxHeartbeats 8000000
theorem mz_78 :MapTZ Try.prog 78 3 3:=⟨by kernel_rfl,by kernel_rfl,fun w=>by kernel_rfl⟩
def ldKF (cl:List Int)(wf:Int→Int)(x:Ins)(k:Nat):List Ins:=if nth cl (nth (rdG x) k).toNat<0 then [(⟨8,((6+k:Nat):Int),wf (nth (rdG x) k),0⟩:Ins)] else []
def ldF (cl:List Int)(wf:Int→Int)(x:Ins)(m:Nat):List Ins:=(List.range m).flatMap (ldKF cl wf x)
theorem ldF_succ (cl:List Int)(wf:Int→Int)(x:Ins)(m:Nat):ldF cl wf x (m+1)=ldF cl wf x m++ldKF cl wf x m:=by simp [ldF,List.range_succ]
def paintF (cl:List Int)(wf:Int→Int)(x:Ins):List Ins:=ldF cl wf x (rdG x).length++((ptS (plcF cl x (rdG x).length) (colr cl (wrG x) 6) x (kindsB x.op).size).1::(if 0≤wrG x∧nth cl (wrG x).toNat<0 then [⟨9,wf (wrG x),6,0⟩] else []))
theorem paint_same {cl wd:List Int}{wf:Int→Int}{x:Ins}(h:∀r:Int,(r=wrG x∧0≤r∨r∈rdG x)→nth cl r.toNat<0→wf r=nth wd r.toNat):paintF cl wf x=paintL cl wd x:=by
 have e:∀m,m≤(rdG x).length→ldF cl wf x m=ldL cl wd x m:=by
  intro m
  induction m with
  |zero=>intro _;rfl
  |succ m ih=>
   intro hm
   rw [ldF_succ,ldL_succ,ih (by omega)]
   congr 1
   unfold ldKF ldK
   split
   ·rename_i hc
    rw [h _ (.inr (nth_mem _ _ (by omega))) hc]
   ·rfl
 unfold paintF paintL
 rw [e _ (Nat.le_refl _)]
 congr 2
 split
 ·rename_i hc
  rw [h _ (.inl ⟨rfl,hc.1⟩) hc.2]
 ·rfl
def inL (cl:List Int)(x:Ins)(m:Nat):List (Int×Int):=(List.range m).map fun (j:Nat)=>(((j:Nat):Int),colr cl (nth (rdG x) j) ((6+j:Nat):Int))
theorem inL_succ (cl:List Int)(x:Ins)(m:Nat):inL cl x (m+1)=inL cl x m++ [((m:Int),colr cl (nth (rdG x) m) ((6+m:Nat):Int))]:=by simp [inL,List.range_succ]
theorem inL_keys (cl:List Int)(x:Ins)(m:Nat):(inL cl x m).map (·.1)=(List.range m).map (fun (j:Nat)=>((j:Nat):Int)):=by simp [inL,Function.comp_def]
theorem inL_none {cl:List Int}{x:Ins}{m:Nat}{il:List (Int×Int)}(h:il=inL cl x m):getZ (m:Int) il=none:=by
 rw [h,getZ_none,inL_keys]
 intro hc
 obtain ⟨j,hj,e⟩:=List.mem_map.1 hc
 have:=List.mem_range.1 hj
 omega
theorem inL_nodup (cl:List Int)(x:Ins):∀m,((inL cl x m).map (·.1)).Nodup
 |0=>List.nodup_nil
 |m+1=>by
  rw [inL_succ,List.map_append,List.nodup_append]
  refine ⟨inL_nodup cl x m,by simp,fun a ha b hb e=> ?_⟩
  rw [inL_keys] at ha
  obtain ⟨j,hj,rfl⟩:=List.mem_map.1 ha
  have:=List.mem_range.1 hj
  simp at hb
  omega
theorem inL_get {cl:List Int}{x:Ins}{m:Nat}{il:List (Int×Int)}(h:il=inL cl x m):(fun j:Nat=>(getZ (j:Int) il).getD 0)=plcF cl x m:=by
 funext j
 unfold plcF
 by_cases hj:j<m
 ·rw [if_pos hj,(getZ_some (v:=colr cl (nth (rdG x) j) ((6+j:Nat):Int)) (by rw [h];exact inL_nodup cl x m)).2 (by rw [h];exact List.mem_map.2 ⟨j,List.mem_range.2 hj,rfl⟩)];rfl
 ·rw [if_neg hj,getZ_none.2];rfl
  rw [h,inL_keys]
  intro hc
  obtain ⟨q,hq,e⟩:=List.mem_map.1 hc
  have:=List.mem_range.1 hq
  omega
section
variable {cl:List Int}{x y:Ins}{k n k2:Nat}{ol:List Ins}{g:Nat→Int}{il:List (Int×Int)}{wf:Int→Int}
theorem ldF_no (h:ol=ldF cl wf x k)(hc:¬nth cl (nth (rdG x) k).toNat<0):ol=ldF cl wf x (k+1):=by rw [ldF_succ,ldKF,if_neg hc,List.append_nil];exact h
theorem ldF_yes (h:ol=ldF cl wf x k)(hc:nth cl (nth (rdG x) k).toNat<0):ol++ [(⟨8,((6+k:Nat):Int),wf (nth (rdG x) k),0⟩:Ins)]=ldF cl wf x (k+1):=by rw [ldF_succ,ldKF,if_pos hc,h]
theorem k13 {x:Ins}(h:x.op=13):kAt (kindsB x.op) 0≠114:=by rw [h];decide+kernel
theorem pf_w (h:ptS g (colr cl (wrG x) 6) x n=(y,k2))(hk:kAt (kindsB x.op) n=114)(h0:n=0)(h1:0≤wrG x)(h2:y.op≠13):ptS g (colr cl (wrG x) 6) x (n+1)=(putK y n (colr cl (nth [y.a,y.b,y.c] n) 6),k2):=by
 subst h0
 have e:x=y:=congrArg Prod.fst h
 subst e
 have ew:wrG x=x.a:=by
  unfold wrG at h1⊢
  rw [if_neg h2] at h1⊢
  split
  ·rfl
  ·rename_i h9;rw [if_neg h9] at h1;omega
 rw [ptS,if_pos hk,if_pos ⟨rfl,h1⟩,h,ew]
 rfl
theorem pf_reg (h:ptS g (colr cl (wrG x) 6) x n=(y,k2))(h0:n=0)(h1:0≤wrG x)(h2:y.op≠13):nth [y.a,y.b,y.c] n=wrG x:=by
 subst h0
 have e:x=y:=congrArg Prod.fst h
 subst e
 unfold wrG at h1⊢
 rw [if_neg h2] at h1⊢
 split
 ·rfl
 ·rename_i h9;rw [if_neg h9] at h1;omega
theorem pf_r (h:ptS g (colr cl (wrG x) 6) x n=(y,k2))(hk:kAt (kindsB x.op) n=114)(h1:n≠0∨¬0≤wrG x∨y.op=13):ptS g (colr cl (wrG x) 6) x (n+1)=(putK y n (g k2),k2+1):=by
 refine pt_r h hk ?_
 rintro ⟨h2,h3⟩
 rcases h1 with h1|h1|h1
 ·exact h1 h2
 ·exact h1 h3
 ·subst h2
  have e:x=y:=congrArg Prod.fst h
  subst e
  exact k13 h1 hk
theorem pf_ins (hi:il=inL cl x k)(hk:k=(rdG x).length)(h:ptS (fun j=>(getZ (j:Int) il).getD 0) (colr cl (wrG x) 6) x n=(y,k2))(hn:n=(kindsB x.op).size):y=(ptS (plcF cl x (rdG x).length) (colr cl (wrG x) 6) x (kindsB x.op).size).1:=by
 rw [inL_get hi,hk,hn] at h
 rw [h]
theorem paintF_1 (hi:il=inL cl x k)(hk:k=(rdG x).length)(h:ptS (fun j=>(getZ (j:Int) il).getD 0) (colr cl (wrG x) 6) x n=(y,k2))(hn:n=(kindsB x.op).size)(hol:ol=ldF cl wf x k)(h1:0≤wrG x)(h2:nth cl (wrG x).toNat<0):(ol++ [y])++ [(⟨9,wf (wrG x),6,0⟩:Ins)]=paintF cl wf x:=by
 rw [paintF,if_pos ⟨h1,h2⟩,←pf_ins hi hk h hn,hol,hk,List.append_assoc];rfl
theorem paintF_2 (hi:il=inL cl x k)(hk:k=(rdG x).length)(h:ptS (fun j=>(getZ (j:Int) il).getD 0) (colr cl (wrG x) 6) x n=(y,k2))(hn:n=(kindsB x.op).size)(hol:ol=ldF cl wf x k)(h1:¬(0≤wrG x∧nth cl (wrG x).toNat<0)):ol++ [y]=paintF cl wf x:=by
 rw [paintF,if_neg h1,←pf_ins hi hk h hn,hol,hk]
end
theorem reg_c (g:Nat)(cl:Ls Int)(p:Option Nat)(r d:Int)(W:World)(hB:Blk W g 81 #[cl.v, .map p])(hcl:cl.At W)(hr:0≤r∧r<(cl.l.length:Int)):
    Rets Try.prog 70 [.pointer (some ⟨g,0,none⟩), .int .i64 r, .int .i64 d] W (fun v w' =>v= .int .i64 (colr cl.l r d)∧Sh0 W w' []):=by
 refine gen Try.func70 Try.ntmps70 (Sh0.ext (by intro A hA;simp only [List.mem_cons,List.not_mem_nil,or_false] at hA;rcases hA with rfl|rfl;exact hB;exact hcl) (by intro A hA b hb;simp only [List.mem_cons,List.not_mem_nil,or_false] at hA;rcases hA with rfl|rfl<;>exact hb):Sh (fun _=>False) W W [.rblk g 81 [cl.v, .map p], .at_ cl]) rfl fun a10 h10=>gG h10<|sG (oM 1 rfl<|.nl)<|gK fun _ k12=>sK fun _ k13=>gNl (aA 1 rfl) fun hl14=>gRn (oM 1 rfl<|onf fl_81_0 rfl<|olR 0 ti_23 rfl rfl<|oM 1 rfl<|oxI sl_23 ti_3 (aA 1 rfl) om9 rfl<|olI ti_3 (aA 1 rfl) om9 rfl<|oM 1 rfl<|.nl)<|nK k13<|sG (oM 1 rfl<|ogeI _ _ rfl<|.nl)<|?_;clear h10
 refine gcd rfl (fun hb16 hp16=> ?_) fun hb16 hp16=> ?_
 ·skip
  refine sG (oM 2 rfl<|.nl)<|gR<|uT<|fun a18 w18 h18=>x_ret1 (fn:=Try.f70) (t:=6) rfl h18 rfl<|⟨?_,(h18.sh.sel [] rfl)⟩
  unfold colr
  first|rw [if_neg (by omega)]|rw [if_pos (by omega)]
 refine gS<|hK k12<|sG (oM 2 rfl<|.nl)<|gR<|fun a20 w20 h20=>x_ret1 (fn:=Try.f70) (t:=6) rfl h20 rfl<|⟨?_,(h20.sh.sel [] rfl)⟩
 unfold colr
 first|rw [if_neg (by omega)]|rw [if_pos (by omega)]
theorem pbecome_c (g:Nat)(cl:Ls Int)(p:Option Nat)(ml:List (Int×Int))(n0:Int)(x:Ins)(W:World)(hB:Blk W g 81 #[cl.v, .map p])(hcl:cl.At W)(hM:(Asn.ro [.mapO p ml]).ok W)(hop:1≤x.op∧x.op≤18)(hopa:x.op≤8∨x.op=10→0≤x.a)(hrd:∀j,j<(rdG x).length→0≤nth (rdG x) j∧nth (rdG x) j<(cl.l.length:Int))(hwr:wrG x<(cl.l.length:Int)):
    Rets Try.prog 40 [.pointer (some ⟨g,0,none⟩), .int .i64 n0, .agg #[.int .i64 x.op, .int .i64 x.a, .int .i64 x.b, .int .i64 x.c]] W (fun v w' =>∃s:Ls Ins,v=s.v∧Sh0 W w' [.own 47 (⟨s.v,paintF cl.l (fun r:Int=>(getZ r ml).getD 0) x⟩:Ls Ins)]):=by
 refine gen Try.func40 Try.ntmps40 (Sh0.ext (by intro A hA;simp only [List.mem_cons,List.not_mem_nil,or_false] at hA;rcases hA with rfl|rfl|rfl;exact hB;exact hcl;exact hM) (by intro A hA b hb;simp only [List.mem_cons,List.not_mem_nil,or_false] at hA;rcases hA with rfl|rfl|rfl<;>exact hb):Sh (fun _=>False) W W [.rblk g 81 [cl.v, .map p], .at_ cl, .ro [.mapO p ml]]) rfl fun a10 h10=>gG h10<|sK fun _ k11=>gbx rfl rfl fun b12=>gRn (oM 1 rfl<|.nl)<|nK k11<|sG (oM 1 rfl<|.nl)<|gK fun _ k14=>rC [1,3] rfl<|pR [0,2] rfl (olw 0 ti_47 rfl rfl<|olw 0 ti_47 rfl rfl<|.nl) rfl<|pC (fun _ _ h_=>xCl h_ bd_69 rfl (reads_ls (reads_c x _ (by first|exact hop|exact hop.1) hopa))) rfl<|?_;clear h10
 rintro _ _ w15 ⟨s15,rfl,hs15⟩
 refine pWk hs15 rfl<|pR [2] rfl (olw 1 ti_47 rfl rfl<|.nl) rfl<|pP (fun _ _ h_=>xCl h_ bd_61 rfl (writes_c x _ (by first|exact hop|exact hop.1))) rfl<|pE [4,5] rfl (oM 2 rfl<|.nl) rfl<|hK k14<|sK fun _ k17=>gE1 (fun _ _ h_=>x_makeZ h_ rfl rfl rfl) rfl fun g18=>gRn (oM 1 rfl<|.nl)<|nK k17<|gK fun _ k19=>sK fun _ k20=>gNl (aO 1 rfl) fun (hl21:(rdG x).length≤140737488355328)=>gRn (oM 1 rfl<|oln (n:=(rdG x).length) sl_23 (aO 1 rfl) rfl<|oM 1 rfl<|.nl)<|nK k20<|gB<|fun a24 w24 h24=> ?_;clear hs15
 have h23:=h24.nil (α:=Ins) 47
 clear h24
 have hrl:=rdG_len x
 refine x_loop (fun m a w=>∃(k:Nat) (il:List (Int×Int)) (ol:List Ins) (vo:Value),(k≤(rdG x).length)∧(il=inL cl.l x k)∧(ol=ldF cl.l (fun r:Int=>(getZ r ml).getD 0) x k)∧(ol.length≤k)∧St 134 (fun _=>False) W a w [(0, .pointer (some ⟨g,0,none⟩)),(5, .pointer (some ⟨b12,0,none⟩)),(7,vo),(9, .int .i64 (wrG x)),(10, .map (some g18)),(22,s15.v),(23, .int .i64 (((rdG x).length:Nat):Int)),(24, .int .i64 ((k:Nat):Int))] [.mapO (some g18) il, .own 3 (⟨s15.v,rdG x⟩:Ls Int), .blk b12 47 [.int .i64 x.op, .int .i64 x.a, .int .i64 x.b, .int .i64 x.c], .rblk g 81 [cl.v, .map p], .at_ cl, .ro [.mapO p ml], .own 47 (⟨vo,ol⟩:Ls Ins)]∧m=(rdG x).length-k) ⟨_,0, [], [],(.slice none 0 0),(by omega),(rfl),(rfl),(Nat.le_refl _),h23.nrm ⟨rfl,rfl,rfl,rfl,rfl,rfl,rfl,rfl,trivial⟩ [1,2,3,4,5,6,0] rfl,rfl⟩ ?_
 clear h23
 rintro m22 a22 w22 ⟨k,il,ol,vo,hk,hil,hol,hon,h22,hm22⟩
 refine gG h22<|sG (oltN _ _ rfl<|.nl)<|gK fun _ k26=>gcd rfl (fun hb27 hp27=> ?_) fun hb27 hp27=> ?_;clear h22
 ·skip
  refine gS<|hK k26<|gK fun _ k28=>gB<|sG (oM 1 rfl<|oxN sl_23 ti_3 (aO 1 rfl) _ om9 rfl<|olE (.int .i64 (nth (rdG x) k)) ti_3 (aO 1 rfl) om9 rfl<|oM 2 rfl<|.nl)<|?_
  have hr9:=hrd k (by omega)
  refine sK fun _ k30=>gRn (oM 5 rfl<|oadN 6 _ om9 rfl<|.nl)<|gP (fun _ _ h_=>xCl h_ bd_70 rfl (reg_c g cl p (nth (rdG x) k) ((6+k:Nat):Int) _ (h_.sh.rblk 3 rfl) (h_.sh.at 4 rfl) (by omega))) rfl<|gE (fun _ _ h_=>x_updZ (i:=0) (k:=((k:Nat):Int)) (v:=(colr cl.l (nth (rdG x) k) ((6+k:Nat):Int))) h_ mz_78 rfl rfl rfl rfl rfl rfl (inL_none hil)) rfl<|nK k30<|sK fun _ k33=>gNl (aA 4 rfl) fun hl34=>gRn (oM 1 rfl<|onf fl_81_0 rfl<|olR 3 ti_23 rfl rfl<|oM 1 rfl<|oxI sl_23 ti_3 (aA 4 rfl) om9 rfl<|olI ti_3 (aA 4 rfl) om9 rfl<|oltI _ _ rfl<|.nl)<|nK k33<|gcd rfl (fun hb35 hp35=> ?_) fun hb35 hp35=> ?_
  ·skip
   refine gL<|gRn (oM 2 rfl<|oadN 6 _ om9 rfl<|oM 1 rfl<|onf fl_81_1 rfl<|olR 3 ti_78 rfl rfl<|oM 1 rfl<|oV (r_lookZ0R (i:=5) (k:=(nth (rdG x) k)) (l:=ml) mz_78 rfl rfl rfl rfl) rfl<|oV (r_build (cs:= [.int .i64 8, .int .i64 ((6+k:Nat):Int), .int .i64 ((getZ (nth (rdG x) k) ml).getD 0), .int .i64 0]) rfl rfl (by kernel_rfl)) rfl<|.nl)<|gE1 (fun _ _ h_=>x_lit (n:=1) (cs:= [.int .i64 8, .int .i64 ((6+k:Nat):Int), .int .i64 ((getZ (nth (rdG x) k) ml).getD 0), .int .i64 0]) ([(⟨8,((6+k:Nat):Int),(getZ (nth (rdG x) k) ml).getD 0,0⟩:Ins)]:List Ins) h_ sl_45 ti_47 rfl rfl rfl (by decide) rfl (by kernel_rfl) rfl (fun q hq w h=>Flat.inner _ _) (fun q hq b hb=>(Flat.on _ _ hb).elim) rfl rfl) rfl fun v36=>gE1 (fun _ _ h_=>x_app (r:=7) (rm:=0) (s:=(⟨vo,ol⟩:Ls Ins)) (m:=(⟨v36, [(⟨8,((6+k:Nat):Int),(getZ (nth (rdG x) k) ml).getD 0,0⟩:Ins)]⟩:Ls Ins)) h_ sl_45 ti_47 rfl rfl rfl rfl rfl rfl rfl (fun w h=>(h.own 0 rfl)) (fun b hb=>own_on (h_.sh.ok _ (List.mem_of_getElem? (i:=0) rfl)) hb) (fun q hq b hb=>⟨q,hq,hb⟩) rfl rfl rfl inferInstance (show (ol.length+([(⟨8,((6+k:Nat):Int),(getZ (nth (rdG x) k) ml).getD 0,0⟩:Ins)]).length)*32≤140737488355328∧ol.length+([(⟨8,((6+k:Nat):Int),(getZ (nth (rdG x) k) ml).getD 0,0⟩:Ins)]).length≤140737488355328 from om9) rfl rfl) rfl fun v37=>gRn (oM 1 rfl<|.nl)<|nK k28<|gF [0,5,7,9,10,22,23,24] rfl<|gL<|gRn (oadN _ 1 om9 rfl<|oM 1 rfl<|.nl)<|nN<|fun a38 w38 h38=>x_again ⟨_, ?_,k+1,il++ [(((k:Nat):Int),colr cl.l (nth (rdG x) k) ((6+k:Nat):Int))],ol++([(⟨8,((6+k:Nat):Int),(getZ (nth (rdG x) k) ml).getD 0,0⟩:Ins)]),v37, ?_, ?_, ?_, ?_,h38.nrm ⟨rfl,rfl,rfl,rfl,rfl,rfl,rfl,rfl,trivial⟩ [1,2,3,4,5,6,7] rfl,rfl⟩
   · rw [hm22];first|omega|(simp only [lens9];omega)
   · omega
   · rw [inL_succ,←hil]
   · first|exact ldF_yes hol (by assumption)|exact ldF_no hol (by assumption)
   · first|omega|(simp only [lens9];omega)
  refine gS<|hK k28<|gL<|gRn (oadN _ 1 om9 rfl<|oM 1 rfl<|.nl)<|nN<|fun a39 w39 h39=>x_again ⟨_, ?_,k+1,il++ [(((k:Nat):Int),colr cl.l (nth (rdG x) k) ((6+k:Nat):Int))],ol,vo, ?_, ?_, ?_, ?_,h39.nf ⟨rfl,rfl,rfl,rfl,rfl,rfl,rfl,rfl,trivial⟩,rfl⟩
  · rw [hm22];first|omega|(simp only [lens9];omega)
  · omega
  · rw [inL_succ,←hil]
  · first|exact ldF_yes hol (by assumption)|exact ldF_no hol (by assumption)
  · first|omega|(simp only [lens9];omega)
 refine gX<|hK k19<|sK fun _ k40=>gRn (ofB fl_47_1 rfl<|ofB fl_47_2 rfl<|ofB fl_47_3 rfl<|.nl)<|gE1 (fun _ _ h_=>x_lit (n:=3) (cs:= [.pointer (some ⟨b12,1,none⟩), .pointer (some ⟨b12,2,none⟩), .pointer (some ⟨b12,3,none⟩)]) ([(⟨.pointer (some ⟨b12,1,none⟩)⟩:RV),(⟨.pointer (some ⟨b12,2,none⟩)⟩:RV),(⟨.pointer (some ⟨b12,3,none⟩)⟩:RV)]:List RV) h_ sl_127 ti_126 rfl rfl rfl (by decide) rfl (by kernel_rfl) rfl (fun q hq w h=>Flat.inner _ _) (fun q hq b hb=>(Flat.on _ _ hb).elim) rfl rfl) rfl fun v41=>gRn (oM 1 rfl<|.nl)<|nK k40<|sG (oM 1 rfl<|.nl)<|gK fun _ k43=>sK fun _ k44=>gRn (ofB fl_47_0 rfl<|olB 3 ti_3 rfl rfl<|.nl)<|gP (fun _ _ h_=>xCl h_ bd_71 rfl (kinds_c x.op _)) rfl<|gE1 (fun _ _ h_=>x_range (s:=kindsB x.op) h_ Try.underlying9 rfl rfl rfl rfl) rfl fun b46=>nK k44<|gB<|fun a48 w48 h48=>x_loop (fun m a w=>∃(n k2:Nat) (y:Ins),(n≤(kindsB x.op).size)∧(k2≤n)∧(ptS (fun j=>(getZ (j:Int) il).getD 0) (colr cl.l (wrG x) 6) x n=(y,k2))∧St 134 (fun _=>False) W a w [(0, .pointer (some ⟨g,0,none⟩)),(5, .pointer (some ⟨b12,0,none⟩)),(7,vo),(9, .int .i64 (wrG x)),(10, .map (some g18)),(13,v41),(14, .int .i64 ((k2:Nat):Int)),(64, .pointer (some ⟨b46,0,none⟩))] [.iter b46 (kindsB x.op) n, .own 126 (⟨v41, [(⟨.pointer (some ⟨b12,1,none⟩)⟩:RV),(⟨.pointer (some ⟨b12,2,none⟩)⟩:RV),(⟨.pointer (some ⟨b12,3,none⟩)⟩:RV)]⟩:Ls RV), .mapO (some g18) il, .own 3 (⟨s15.v,rdG x⟩:Ls Int), .blk b12 47 [.int .i64 y.op, .int .i64 y.a, .int .i64 y.b, .int .i64 y.c], .rblk g 81 [cl.v, .map p], .at_ cl, .ro [.mapO p ml], .own 47 (⟨vo,ol⟩:Ls Ins)]∧m=(kindsB x.op).size-n) ⟨_,0,0,x,(Nat.zero_le _),(Nat.le_refl _),(rfl),h48.nf ⟨rfl,rfl,rfl,rfl,rfl,rfl,rfl,rfl,trivial⟩,rfl⟩ ?_
 clear h48
 rintro m47 a47 w47 ⟨n,k2,y,hn,hk2,hy,h47,hm47⟩
 have h3:=(kinds_small x.op).1
 have hyo:y.op=x.op:=by have h9:=ptS_op (fun j=>(getZ (j:Int) il).getD 0) (colr cl.l (wrG x) 6) x n;rw [hy] at h9;exact h9
 refine gG h47<|sK fun _ k49=> ?_;clear h47
 by_cases hn50:n<(kindsB x.op).size
 ·intro a51 w51 h51
  refine wl_ex (x_next (i:=0) (s:=(kindsB x.op)) (pos:=n) h51 rfl rfl rfl hn50 ((kinds_small x.op).2 _ hn50) rfl rfl) (wanted_none rfl _) ?_
  rintro a52 w52 h52
  clear h51
  refine gG h52<|gRn (oxt rfl<|.nl)<|nK k49<|gK fun _ k53=>gcT rfl rfl<|gS<|hK k53<|gB<|sG (oxt rfl<|oxt rfl<|oM 2 rfl<|.nl)<|gB<|sG (oM 1 rfl<|oneI _ _ rfl<|oM 1 rfl<|.nl)<|?_;clear h52
  refine gcd rfl (fun hb56 hp56=> ?_) fun hb56 hp56=> ?_
  ·skip
   refine gS<|fun a57 w57 h57=> ?_
   change∃_m,_m<_∧_
   refine ⟨_, ?_,(n+1),k2,y, ?_, ?_, ?_,h57.nf ⟨rfl,rfl,rfl,rfl,rfl,rfl,rfl,rfl,trivial⟩,rfl⟩
   · rw [hm47];first|omega|(simp only [lens9];omega)
   · omega
   · omega
   · first|exact pf_w hy (by rw [kAt_at (by assumption)];first|assumption|omega) (by assumption) (by assumption) (by assumption)|exact pf_r hy (by rw [kAt_at (by assumption)];first|assumption|omega) (by omega)|exact pt_n hy (by rw [kAt_at (by assumption)];first|assumption|omega)
  refine sK fun _ k58=>gRn (oM 1 rfl<|oeqN _ 0 rfl<|oM 1 rfl<|.nl)<|?_
  rcases dsp (n=0) with ⟨hb59,hp59⟩|⟨hb59,hp59⟩
  ·skip
   refine gRn (oG hb59 (r_move rfl rfl) rfl<|oG hb59 (r_geqI (p:=wrG x) (q:=0) rfl rfl rfl) rfl<|opT hb59 rfl<|oM 1 rfl<|.nl)<|?_
   rcases dsp (0≤wrG x) with ⟨hb60,hp60⟩|⟨hb60,hp60⟩
   ·skip
    refine gRn (oG hb60 (r_fieldB (r:=0) fl_47_0 rfl rfl rfl) rfl<|oG hb60 (r_ldb (i:=4) ti_3 rfl rfl rfl rfl) rfl<|oG hb60 (r_neqI (p:=y.op) (q:=13) rfl rfl rfl) rfl<|opT hb60 rfl<|oM 1 rfl<|.nl)<|nK k58<|gcd rfl (fun hb61 hp61=> ?_) fun hb61 hp61=> ?_
    ·skip
     refine gNl (aO 1 rfl) fun (hl62:([(⟨.pointer (some ⟨b12,1,none⟩)⟩:RV),(⟨.pointer (some ⟨b12,2,none⟩)⟩:RV),(⟨.pointer (some ⟨b12,3,none⟩)⟩:RV)]).length≤140737488355328)=>rC [11,13] rfl<|pR [0,1,2,3,4,5,6,7,8,9,10] rfl (oM 2 rfl<|oxN sl_127 ti_126 (aO 1 rfl) _ (show n<([(⟨.pointer (some ⟨b12,1,none⟩)⟩:RV),(⟨.pointer (some ⟨b12,2,none⟩)⟩:RV),(⟨.pointer (some ⟨b12,3,none⟩)⟩:RV)]).length from om9) rfl<|oV (Rn.same (r_lde (s:=(⟨v41, [(⟨.pointer (some ⟨b12,1,none⟩)⟩:RV),(⟨.pointer (some ⟨b12,2,none⟩)⟩:RV),(⟨.pointer (some ⟨b12,3,none⟩)⟩:RV)]⟩:Ls RV)) (i:=n) (v:=((nth ([(⟨.pointer (some ⟨b12,1,none⟩)⟩:RV),(⟨.pointer (some ⟨b12,2,none⟩)⟩:RV),(⟨.pointer (some ⟨b12,3,none⟩)⟩:RV)]) n).v)) ti_126 rfl rfl rfl (fun w h=>(h.own 1 rfl)) (show n<([(⟨.pointer (some ⟨b12,1,none⟩)⟩:RV),(⟨.pointer (some ⟨b12,2,none⟩)⟩:RV),(⟨.pointer (some ⟨b12,3,none⟩)⟩:RV)]).length from om9) (Nat.le_of_ble_eq_true rfl) rfl) (congrArg RV.v (ix_Bk (⟨0,0,0,0⟩:Ins) b12 n (by omega)))) rfl<|oM 3 rfl<|oxN sl_127 ti_126 (aO 1 rfl) _ (show n<([(⟨.pointer (some ⟨b12,1,none⟩)⟩:RV),(⟨.pointer (some ⟨b12,2,none⟩)⟩:RV),(⟨.pointer (some ⟨b12,3,none⟩)⟩:RV)]).length from om9) rfl<|oV (Rn.same (r_lde (s:=(⟨v41, [(⟨.pointer (some ⟨b12,1,none⟩)⟩:RV),(⟨.pointer (some ⟨b12,2,none⟩)⟩:RV),(⟨.pointer (some ⟨b12,3,none⟩)⟩:RV)]⟩:Ls RV)) (i:=n) (v:=((nth ([(⟨.pointer (some ⟨b12,1,none⟩)⟩:RV),(⟨.pointer (some ⟨b12,2,none⟩)⟩:RV),(⟨.pointer (some ⟨b12,3,none⟩)⟩:RV)]) n).v)) ti_126 rfl rfl rfl (fun w h=>(h.own 1 rfl)) (show n<([(⟨.pointer (some ⟨b12,1,none⟩)⟩:RV),(⟨.pointer (some ⟨b12,2,none⟩)⟩:RV),(⟨.pointer (some ⟨b12,3,none⟩)⟩:RV)]).length from om9) (Nat.le_of_ble_eq_true rfl) rfl) (congrArg RV.v (ix_Bk (⟨0,0,0,0⟩:Ins) b12 n (by omega)))) rfl<|onl rfl<|oV (r_ldBk (i:=4) (x:=y) (k:=n) ti_3 rfl rfl rfl (show n<3 from om9)) rfl<|.nl) rfl<|pP (fun _ _ h_=>xCl h_ bd_70 rfl (reg_c g cl p (nth [y.a,y.b,y.c] n) 6 _ (h_.sh.rblk 5 rfl) (h_.sh.at 6 rfl) (by have h9:=pf_reg hy (by assumption) (by assumption) (by assumption);rw [h9];omega))) rfl<|pR [0,1,2,3,12] rfl (oM 2 rfl<|oxN sl_127 ti_126 (aO 1 rfl) _ (show n<([(⟨.pointer (some ⟨b12,1,none⟩)⟩:RV),(⟨.pointer (some ⟨b12,2,none⟩)⟩:RV),(⟨.pointer (some ⟨b12,3,none⟩)⟩:RV)]).length from om9) rfl<|oV (Rn.same (r_lde (s:=(⟨v41, [(⟨.pointer (some ⟨b12,1,none⟩)⟩:RV),(⟨.pointer (some ⟨b12,2,none⟩)⟩:RV),(⟨.pointer (some ⟨b12,3,none⟩)⟩:RV)]⟩:Ls RV)) (i:=n) (v:=((nth ([(⟨.pointer (some ⟨b12,1,none⟩)⟩:RV),(⟨.pointer (some ⟨b12,2,none⟩)⟩:RV),(⟨.pointer (some ⟨b12,3,none⟩)⟩:RV)]) n).v)) ti_126 rfl rfl rfl (fun w h=>(h.own 1 rfl)) (show n<([(⟨.pointer (some ⟨b12,1,none⟩)⟩:RV),(⟨.pointer (some ⟨b12,2,none⟩)⟩:RV),(⟨.pointer (some ⟨b12,3,none⟩)⟩:RV)]).length from om9) (Nat.le_of_ble_eq_true rfl) rfl) (congrArg RV.v (ix_Bk (⟨0,0,0,0⟩:Ins) b12 n (by omega)))) rfl<|onl rfl<|.nl) rfl<|pS (fun _ _ h_=>x_stBk (i:=4) (x:=y) (k:=n) (v:=colr cl.l (nth [y.a,y.b,y.c] n) 6) h_ ti_3 rfl rfl rfl rfl rfl (show n<3 from om9)) rfl<|pE [] rfl (.nl) rfl<|fun a65 w65 h65=> ?_
     change∃_m,_m<_∧_
     refine ⟨_, ?_,(n+1),k2,(putK y n (colr cl.l (nth [y.a,y.b,y.c] n) 6)), ?_, ?_, ?_,h65.nf ⟨rfl,rfl,rfl,rfl,rfl,rfl,rfl,rfl,trivial⟩,rfl⟩
     · rw [hm47];first|omega|(simp only [lens9];omega)
     · omega
     · omega
     · first|exact pf_w hy (by rw [kAt_at (by assumption)];first|assumption|omega) (by assumption) (by assumption) (by assumption)|exact pf_r hy (by rw [kAt_at (by assumption)];first|assumption|omega) (by omega)|exact pt_n hy (by rw [kAt_at (by assumption)];first|assumption|omega)
    refine gK fun _ k66=>gNl (aO 1 rfl) fun (hl67:([(⟨.pointer (some ⟨b12,1,none⟩)⟩:RV),(⟨.pointer (some ⟨b12,2,none⟩)⟩:RV),(⟨.pointer (some ⟨b12,3,none⟩)⟩:RV)]).length≤140737488355328)=>rT 8 [] (oM 2 rfl<|oxN sl_127 ti_126 (aO 1 rfl) _ (show n<([(⟨.pointer (some ⟨b12,1,none⟩)⟩:RV),(⟨.pointer (some ⟨b12,2,none⟩)⟩:RV),(⟨.pointer (some ⟨b12,3,none⟩)⟩:RV)]).length from om9) rfl<|oV (Rn.same (r_lde (s:=(⟨v41, [(⟨.pointer (some ⟨b12,1,none⟩)⟩:RV),(⟨.pointer (some ⟨b12,2,none⟩)⟩:RV),(⟨.pointer (some ⟨b12,3,none⟩)⟩:RV)]⟩:Ls RV)) (i:=n) (v:=((nth ([(⟨.pointer (some ⟨b12,1,none⟩)⟩:RV),(⟨.pointer (some ⟨b12,2,none⟩)⟩:RV),(⟨.pointer (some ⟨b12,3,none⟩)⟩:RV)]) n).v)) ti_126 rfl rfl rfl (fun w h=>(h.own 1 rfl)) (show n<([(⟨.pointer (some ⟨b12,1,none⟩)⟩:RV),(⟨.pointer (some ⟨b12,2,none⟩)⟩:RV),(⟨.pointer (some ⟨b12,3,none⟩)⟩:RV)]).length from om9) (Nat.le_of_ble_eq_true rfl) rfl) (congrArg RV.v (ix_Bk (⟨0,0,0,0⟩:Ins) b12 n (by omega)))) rfl<|oM 2 rfl<|oV (r_lookZ0 (i:=2) (k:=((k2:Nat):Int)) (l:=il) mz_78 rfl rfl rfl rfl) rfl<|onl rfl<|.nl)<|gE (fun _ _ h_=>x_stBk (i:=4) (x:=y) (k:=n) (v:=(getZ ((k2:Nat):Int) il).getD 0) h_ ti_3 rfl rfl rfl rfl rfl (show n<3 from om9)) rfl<|nK k66<|gF [0,5,7,9,10,13,14,64] rfl<|gL<|gRn (oM 1 rfl<|oadN _ 1 om9 rfl<|oM 1 rfl<|.nl)<|nN<|fun a69 w69 h69=> ?_
    change∃_m,_m<_∧_
    refine ⟨_, ?_,(n+1),k2+1,(putK y n ((getZ ((k2:Nat):Int) il).getD 0)), ?_, ?_, ?_,h69.nf ⟨rfl,rfl,rfl,rfl,rfl,rfl,rfl,rfl,trivial⟩,rfl⟩
    · rw [hm47];first|omega|(simp only [lens9];omega)
    · omega
    · omega
    · first|exact pf_w hy (by rw [kAt_at (by assumption)];first|assumption|omega) (by assumption) (by assumption) (by assumption)|exact pf_r hy (by rw [kAt_at (by assumption)];first|assumption|omega) (by omega)|exact pt_n hy (by rw [kAt_at (by assumption)];first|assumption|omega)
   refine gRn (oKs 3 hb60 rfl rfl<|opF hb60 rfl<|oM 1 rfl<|.nl)<|nK k58<|gcF rfl rfl<|gK fun _ k70=>gNl (aO 1 rfl) fun (hl71:([(⟨.pointer (some ⟨b12,1,none⟩)⟩:RV),(⟨.pointer (some ⟨b12,2,none⟩)⟩:RV),(⟨.pointer (some ⟨b12,3,none⟩)⟩:RV)]).length≤140737488355328)=>rT 8 [] (oM 2 rfl<|oxN sl_127 ti_126 (aO 1 rfl) _ (show n<([(⟨.pointer (some ⟨b12,1,none⟩)⟩:RV),(⟨.pointer (some ⟨b12,2,none⟩)⟩:RV),(⟨.pointer (some ⟨b12,3,none⟩)⟩:RV)]).length from om9) rfl<|oV (Rn.same (r_lde (s:=(⟨v41, [(⟨.pointer (some ⟨b12,1,none⟩)⟩:RV),(⟨.pointer (some ⟨b12,2,none⟩)⟩:RV),(⟨.pointer (some ⟨b12,3,none⟩)⟩:RV)]⟩:Ls RV)) (i:=n) (v:=((nth ([(⟨.pointer (some ⟨b12,1,none⟩)⟩:RV),(⟨.pointer (some ⟨b12,2,none⟩)⟩:RV),(⟨.pointer (some ⟨b12,3,none⟩)⟩:RV)]) n).v)) ti_126 rfl rfl rfl (fun w h=>(h.own 1 rfl)) (show n<([(⟨.pointer (some ⟨b12,1,none⟩)⟩:RV),(⟨.pointer (some ⟨b12,2,none⟩)⟩:RV),(⟨.pointer (some ⟨b12,3,none⟩)⟩:RV)]).length from om9) (Nat.le_of_ble_eq_true rfl) rfl) (congrArg RV.v (ix_Bk (⟨0,0,0,0⟩:Ins) b12 n (by omega)))) rfl<|oM 2 rfl<|oV (r_lookZ0 (i:=2) (k:=((k2:Nat):Int)) (l:=il) mz_78 rfl rfl rfl rfl) rfl<|onl rfl<|.nl)<|gE (fun _ _ h_=>x_stBk (i:=4) (x:=y) (k:=n) (v:=(getZ ((k2:Nat):Int) il).getD 0) h_ ti_3 rfl rfl rfl rfl rfl (show n<3 from om9)) rfl<|nK k70<|gF [0,5,7,9,10,13,14,64] rfl<|gL<|gRn (oM 1 rfl<|oadN _ 1 om9 rfl<|oM 1 rfl<|.nl)<|nN<|fun a73 w73 h73=> ?_
   change∃_m,_m<_∧_
   refine ⟨_, ?_,(n+1),k2+1,(putK y n ((getZ ((k2:Nat):Int) il).getD 0)), ?_, ?_, ?_,h73.nf ⟨rfl,rfl,rfl,rfl,rfl,rfl,rfl,rfl,trivial⟩,rfl⟩
   · rw [hm47];first|omega|(simp only [lens9];omega)
   · omega
   · omega
   · first|exact pf_w hy (by rw [kAt_at (by assumption)];first|assumption|omega) (by assumption) (by assumption) (by assumption)|exact pf_r hy (by rw [kAt_at (by assumption)];first|assumption|omega) (by omega)|exact pt_n hy (by rw [kAt_at (by assumption)];first|assumption|omega)
  refine gRn (oKs 2 hb59 rfl rfl<|opF hb59 rfl<|oM 1 rfl<|oKs 3 rfl rfl rfl<|opF rfl rfl<|oM 1 rfl<|.nl)<|nK k58<|gcF rfl rfl<|gK fun _ k74=>gNl (aO 1 rfl) fun (hl75:([(⟨.pointer (some ⟨b12,1,none⟩)⟩:RV),(⟨.pointer (some ⟨b12,2,none⟩)⟩:RV),(⟨.pointer (some ⟨b12,3,none⟩)⟩:RV)]).length≤140737488355328)=>rT 8 [] (oM 2 rfl<|oxN sl_127 ti_126 (aO 1 rfl) _ (show n<([(⟨.pointer (some ⟨b12,1,none⟩)⟩:RV),(⟨.pointer (some ⟨b12,2,none⟩)⟩:RV),(⟨.pointer (some ⟨b12,3,none⟩)⟩:RV)]).length from om9) rfl<|oV (Rn.same (r_lde (s:=(⟨v41, [(⟨.pointer (some ⟨b12,1,none⟩)⟩:RV),(⟨.pointer (some ⟨b12,2,none⟩)⟩:RV),(⟨.pointer (some ⟨b12,3,none⟩)⟩:RV)]⟩:Ls RV)) (i:=n) (v:=((nth ([(⟨.pointer (some ⟨b12,1,none⟩)⟩:RV),(⟨.pointer (some ⟨b12,2,none⟩)⟩:RV),(⟨.pointer (some ⟨b12,3,none⟩)⟩:RV)]) n).v)) ti_126 rfl rfl rfl (fun w h=>(h.own 1 rfl)) (show n<([(⟨.pointer (some ⟨b12,1,none⟩)⟩:RV),(⟨.pointer (some ⟨b12,2,none⟩)⟩:RV),(⟨.pointer (some ⟨b12,3,none⟩)⟩:RV)]).length from om9) (Nat.le_of_ble_eq_true rfl) rfl) (congrArg RV.v (ix_Bk (⟨0,0,0,0⟩:Ins) b12 n (by omega)))) rfl<|oM 2 rfl<|oV (r_lookZ0 (i:=2) (k:=((k2:Nat):Int)) (l:=il) mz_78 rfl rfl rfl rfl) rfl<|onl rfl<|.nl)<|gE (fun _ _ h_=>x_stBk (i:=4) (x:=y) (k:=n) (v:=(getZ ((k2:Nat):Int) il).getD 0) h_ ti_3 rfl rfl rfl rfl rfl (show n<3 from om9)) rfl<|nK k74<|gF [0,5,7,9,10,13,14,64] rfl<|gL<|gRn (oM 1 rfl<|oadN _ 1 om9 rfl<|oM 1 rfl<|.nl)<|nN<|fun a77 w77 h77=> ?_
  change∃_m,_m<_∧_
  refine ⟨_, ?_,(n+1),k2+1,(putK y n ((getZ ((k2:Nat):Int) il).getD 0)), ?_, ?_, ?_,h77.nf ⟨rfl,rfl,rfl,rfl,rfl,rfl,rfl,rfl,trivial⟩,rfl⟩
  · rw [hm47];first|omega|(simp only [lens9];omega)
  · omega
  · omega
  · first|exact pf_w hy (by rw [kAt_at (by assumption)];first|assumption|omega) (by assumption) (by assumption) (by assumption)|exact pf_r hy (by rw [kAt_at (by assumption)];first|assumption|omega) (by omega)|exact pt_n hy (by rw [kAt_at (by assumption)];first|assumption|omega)
 intro a79 w79 h79
 refine wv h79 (r_nextEnd (i:=0) (s:=(kindsB x.op)) (pos:=n) rfl rfl rfl hn50) rfl rfl fun a78 h78=>gG h78<|gRn (oxt rfl<|.nl)<|nK k49<|gK fun _ k80=>gcF rfl rfl<|gX<|hK k43<|sK fun _ k81=>gRn (oM 1 rfl<|olw 4 ti_47 rfl rfl<|.nl)<|gE1 (fun _ _ h_=>x_lit (n:=1) (cs:= [.int .i64 y.op, .int .i64 y.a, .int .i64 y.b, .int .i64 y.c]) ([y]:List Ins) h_ sl_45 ti_47 rfl rfl rfl (by decide) rfl (by kernel_rfl) rfl (fun q hq w h=>Flat.inner _ _) (fun q hq b hb=>(Flat.on _ _ hb).elim) rfl rfl) rfl fun v82=>gE1 (fun _ _ h_=>x_app (r:=9) (rm:=0) (s:=(⟨vo,ol⟩:Ls Ins)) (m:=(⟨v82, [y]⟩:Ls Ins)) h_ sl_45 ti_47 rfl rfl rfl rfl rfl rfl rfl (fun w h=>(h.own 0 rfl)) (fun b hb=>own_on (h_.sh.ok _ (List.mem_of_getElem? (i:=0) rfl)) hb) (fun q hq b hb=>⟨q,hq,hb⟩) rfl rfl rfl inferInstance (show (ol.length+([y]).length)*32≤140737488355328∧ol.length+([y]).length≤140737488355328 from om9) rfl rfl) rfl fun v83=>gRn (oM 1 rfl<|.nl)<|nK k81<|gK fun _ k84=>sK fun _ k85=>gRn (oM 1 rfl<|ogeI _ _ rfl<|oM 1 rfl<|.nl)<|?_;clear h79 h78
 rcases dsp (0≤wrG x) with ⟨hb86,hp86⟩|⟨hb86,hp86⟩
 ·skip
  refine gNl (aA 7 rfl) fun hl87=>gRn (oG hb86 (r_move rfl rfl) rfl<|oG hb86 (r_nil rfl rfl) rfl<|oG hb86 (r_fieldB (r:=0) fl_81_0 rfl rfl rfl) rfl<|oG hb86 (r_ldbR ti_23 rfl rfl (fun w h=>h.rblk 6 rfl) rfl) rfl<|oG hb86 (r_move rfl rfl) rfl<|oG hb86 (r_ixI (s:=cl) (q:=wrG x) sl_23 ti_3 rfl rfl rfl (fun w h=>(h.at 7 rfl)) (show 0≤wrG x∧wrG x<cl.l.length from om9)) rfl<|oG hb86 (r_lde (s:=cl) (i:=(wrG x).toNat) (v:= .int .i64 (nth cl.l ((wrG x).toNat))) ti_3 rfl rfl rfl (fun w h=>(h.at 7 rfl)) (show (wrG x).toNat<cl.l.length from om9) (Nat.le_of_ble_eq_true rfl) rfl) rfl<|oG hb86 (r_lssI (p:=nth cl.l ((wrG x).toNat)) (q:=0) rfl rfl rfl) rfl<|opT hb86 rfl<|.nl)<|nK k85<|gcd rfl (fun hb88 hp88=> ?_) fun hb88 hp88=> ?_
  ·skip
   refine gL<|gRn (oM 2 rfl<|onf fl_81_1 rfl<|olR 6 ti_78 rfl rfl<|oM 1 rfl<|oV (r_lookZ0R (i:=8) (k:=(wrG x)) (l:=ml) mz_78 rfl rfl rfl rfl) rfl<|oV (r_build (cs:= [.int .i64 9, .int .i64 ((getZ (wrG x) ml).getD 0), .int .i64 6, .int .i64 0]) rfl rfl (by kernel_rfl)) rfl<|.nl)<|gE1 (fun _ _ h_=>x_lit (n:=1) (cs:= [.int .i64 9, .int .i64 ((getZ (wrG x) ml).getD 0), .int .i64 6, .int .i64 0]) ([(⟨9,(getZ (wrG x) ml).getD 0,6,0⟩:Ins)]:List Ins) h_ sl_45 ti_47 rfl rfl rfl (by decide) rfl (by kernel_rfl) rfl (fun q hq w h=>Flat.inner _ _) (fun q hq b hb=>(Flat.on _ _ hb).elim) rfl rfl) rfl fun v89=>gE1 (fun _ _ h_=>x_app (r:=10) (rm:=0) (s:=(⟨v83,ol++([y])⟩:Ls Ins)) (m:=(⟨v89, [(⟨9,(getZ (wrG x) ml).getD 0,6,0⟩:Ins)]⟩:Ls Ins)) h_ sl_45 ti_47 rfl rfl rfl rfl rfl rfl rfl (fun w h=>(h.own 0 rfl)) (fun b hb=>own_on (h_.sh.ok _ (List.mem_of_getElem? (i:=0) rfl)) hb) (fun q hq b hb=>⟨q,hq,hb⟩) rfl rfl rfl inferInstance (show ((ol++([y])).length+([(⟨9,(getZ (wrG x) ml).getD 0,6,0⟩:Ins)]).length)*32≤140737488355328∧(ol++([y])).length+([(⟨9,(getZ (wrG x) ml).getD 0,6,0⟩:Ins)]).length≤140737488355328 from om9) rfl rfl) rfl fun v90=>gRn (oM 1 rfl<|.nl)<|nK k84<|gF [7] rfl<|sG (oM 2 rfl<|.nl)<|gR<|fun a92 w92 h92=>x_ret1 (fn:=Try.f40) (t:=6) rfl h92 rfl ?_
   have he9:(ol++([y]))++([(⟨9,(getZ (wrG x) ml).getD 0,6,0⟩:Ins)])=paintF cl.l (fun r:Int=>(getZ r ml).getD 0) x:=by first|exact paintF_1 hil (by omega) hy (by omega) hol (by assumption) (by assumption)|exact paintF_2 hil (by omega) hy (by omega) hol (by omega)
   rw [he9] at h92
   exact ⟨⟨v90, []⟩,rfl,(h92.sh.sel [10] rfl)⟩
  refine gS<|hK k84<|gF [7] rfl<|sG (oM 2 rfl<|.nl)<|gR<|fun a94 w94 h94=>x_ret1 (fn:=Try.f40) (t:=6) rfl h94 rfl ?_
  have he9:ol++([y])=paintF cl.l (fun r:Int=>(getZ r ml).getD 0) x:=by first|exact paintF_1 hil (by omega) hy (by omega) hol (by assumption) (by assumption)|exact paintF_2 hil (by omega) hy (by omega) hol (by omega)
  rw [he9] at h94
  exact ⟨⟨v83, []⟩,rfl,(h94.sh.sel [9] rfl)⟩
 refine gRn (oKs 8 hb86 rfl rfl<|opF hb86 rfl<|.nl)<|nK k85<|gcF rfl rfl<|gS<|hK k84<|gF [7] rfl<|sG (oM 2 rfl<|.nl)<|gR<|fun a96 w96 h96=>x_ret1 (fn:=Try.f40) (t:=6) rfl h96 rfl ?_
 have he9:ol++([y])=paintF cl.l (fun r:Int=>(getZ r ml).getD 0) x:=by first|exact paintF_1 hil (by omega) hy (by omega) hol (by assumption) (by assumption)|exact paintF_2 hil (by omega) hy (by omega) hol (by omega)
 rw [he9] at h96
 exact ⟨⟨v83, []⟩,rfl,(h96.sh.sel [9] rfl)⟩
def nSp (cl:List Int)(m:Nat):Nat:=((List.range m).filter fun r=>decide (nth cl r<0)).length
theorem nSp_yes {cl:List Int}{m:Nat}(h:nth cl m<0):nSp cl (m+1)=nSp cl m+1:=by unfold nSp;rw [List.range_succ,List.filter_append,List.length_append];simp [h]
theorem nSp_no {cl:List Int}{m:Nat}(h:¬nth cl m<0):nSp cl (m+1)=nSp cl m:=by unfold nSp;rw [List.range_succ,List.filter_append,List.length_append];simp [h]
theorem nSp_le (cl:List Int)(m:Nat):nSp cl m≤m:=by unfold nSp;exact Nat.le_trans (List.length_filter_le _ _) (by simp)
def tSp (cols:List (Ls Int))(R:Nat):Nat→Nat
 |0=>0
 |t+1=>tSp cols R t+nSp (nth cols t).l R
theorem tSp_le {cols:List (Ls Int)}{R:Nat}(hR:R≤200):∀t,tSp cols R t≤200*t
 |0=>Nat.le_refl _
 |t+1=>by have:=tSp_le (cols:=cols) hR t;have:=nSp_le (nth cols t).l R;rw [tSp];omega
def wdF (cl:List Int)(b R:Nat):List Int:=(List.range R).map fun r=>if nth cl r<0 then ((b+nSp cl r:Nat):Int) else 0
theorem rep_snoc (l:List Int)(n:Nat):(l++List.replicate n 0)++ [0]=l++List.replicate (n+1) 0:=by rw [List.append_assoc,List.replicate_succ']
theorem wl_yes {words cl wl:List Int}{b r:Nat}(h:wl=words++List.replicate (b+nSp cl r) 0)(hc:nth cl r<0):wl++ [0]=words++List.replicate (b+nSp cl (r+1)) 0:=by rw [h,rep_snoc,nSp_yes hc];rfl
theorem wl_no {words cl wl:List Int}{b r:Nat}(h:wl=words++List.replicate (b+nSp cl r) 0)(hc:¬nth cl r<0):wl=words++List.replicate (b+nSp cl (r+1)) 0:=by rw [h,nSp_no hc]
def apL (code:List Ins)(cl:List Int)(b R:Nat):List (List Ins):=(List.range code.length).map fun i=>paintL cl (wdF cl b R) (nth code i)
def apT (code:List Ins)(cl:List Int)(b R:Nat):List Ins:=putL (apL code cl b R) code
theorem pt_jump {g:Nat→Int}{wv:Int}{x:Ins}(h:x.op=14∨False):∀n,n≤(kindsB x.op).size→(ptS g wv x n).1=x
 |0,_=>rfl
 |n+1,hn=>by
  have h14:x.op=14:=h.elim id (fun h=>h.elim)
  have hk:kAt (kindsB x.op) n≠114:=by
   rw [h14] at hn⊢
   have hs:(kindsB 14).size=1:=by decide+kernel
   obtain rfl:n=0:=by omega
   decide+kernel
  rw [ptS,if_neg hk]
  exact pt_jump h n (by omega)
theorem pt_zero {g:Nat→Int}{wv:Int}{x:Ins}(h:x.op=15):∀n,(ptS g wv x n).1.b=x.b
 |0=>rfl
 |n+1=>by
  rw [ptS]
  split
  ·rename_i hk
   have hn:n=0:=by
    rw [h] at hk
    have hs:(kindsB 15).size=2:=by decide+kernel
    rcases n with _|_|n
    ·rfl
    ·exact absurd hk (by decide+kernel)
    ·unfold kAt at hk
     rw [dif_neg (by omega)] at hk
     cases hk
   subst hn
   split<;>rfl
  ·exact pt_zero h n
theorem paintL_len (cl wd:List Int)(x:Ins):(paintL cl wd x).length≤8:=by
 unfold paintL
 have h1:∀m,(ldL cl wd x m).length≤m:=by
  intro m
  induction m with
  |zero=>exact Nat.le_refl _
  |succ m ih=>rw [ldL_succ,List.length_append];unfold ldK;split<;>simp<;>omega
 have h2:=h1 (rdG x).length
 have h3:=rdG_len x
 rw [List.length_append,List.length_cons]
 split<;>simp<;>omega
theorem apL_op {cl wd:List Int}{x:Ins}{n:Int}(hop:(x.op=14→0≤x.a∧x.a≤n)∧(x.op=15→0≤x.b∧x.b≤n)):∀y∈paintL cl wd x,(y.op≠14∨(x.op≠14∧x.op≠15)∨(0≤y.a∧y.a≤n))∧(y.op≠15∨x.op≠15∨(0≤y.b∧y.b≤n)):=by
 intro y hy
 have hb:∀n:Nat,((ptS (plcF cl x (rdG x).length) (colr cl (wrG x) 6) x n).1.op=x.op):=ptS_op _ _ _
 have hld:∀m,y∈ldL cl wd x m→y.op=8:=by
  intro m hm
  unfold ldL at hm
  obtain ⟨q,_,hq⟩:=List.mem_flatMap.1 hm
  unfold ldK at hq
  split at hq
  ·rw [List.mem_singleton.1 hq]
  ·cases hq
 unfold paintL at hy
 rcases List.mem_append.1 hy with hy|hy
 ·have:=hld _ hy
  exact ⟨.inl (by omega), .inl (by omega)⟩
 ·rcases List.mem_cons.1 hy with rfl|hy
  ·have ho:=hb (kindsB x.op).size
   by_cases h14:x.op=14
   ·have e:(ptS (plcF cl x (rdG x).length) (colr cl (wrG x) 6) x (kindsB x.op).size).1=x:=pt_jump (.inl h14) _ (Nat.le_refl _)
    have:=hop.1 h14
    rw [e]
    exact ⟨.inr (.inr this), .inl (by omega)⟩
   ·by_cases h15:x.op=15
    ·have e:=pt_zero (g:=plcF cl x (rdG x).length) (wv:=colr cl (wrG x) 6) h15 (kindsB x.op).size
     have:=hop.2 h15
     rw [ho,e]
     exact ⟨.inl (by omega), .inr (.inr this)⟩
    ·rw [ho]
     exact ⟨.inr (.inl ⟨h14,h15⟩), .inr (.inl h15)⟩
  ·split at hy
   ·rw [List.mem_singleton.1 hy];exact ⟨.inl (show (9:Int)≠14 by decide), .inl (show (9:Int)≠15 by decide)⟩
   ·cases hy
def spL (cl:List Int)(b m:Nat):List (Int×Int):=((List.range m).filter fun r=>decide (nth cl r<0)).map fun (r:Nat)=>(((r:Nat):Int),((b+nSp cl r:Nat):Int))
theorem spL_yes {cl:List Int}{b m:Nat}(h:nth cl m<0):spL cl b (m+1)=spL cl b m++ [((m:Int),((b+nSp cl m:Nat):Int))]:=by unfold spL;rw [List.range_succ,List.filter_append,List.map_append];simp [h]
theorem spL_no {cl:List Int}{b m:Nat}(h:¬nth cl m<0):spL cl b (m+1)=spL cl b m:=by unfold spL;rw [List.range_succ,List.filter_append,List.map_append];simp [h]
theorem spL_key {cl:List Int}{b m:Nat}{k:Int}(h:k∈(spL cl b m).map (·.1)):∃r:Nat,k=(r:Int)∧r<m:=by
 unfold spL at h
 rw [List.map_map] at h
 obtain ⟨r,hr,e⟩:=List.mem_map.1 h
 exact ⟨r,e.symm,List.mem_range.1 (List.mem_filter.1 hr).1⟩
theorem spL_none (cl:List Int)(b m:Nat):getZ (m:Int) (spL cl b m)=none:=by
 rw [getZ_none]
 intro h
 obtain ⟨r,e,hr⟩:=spL_key h
 omega
theorem spL_nodup (cl:List Int)(b:Nat):∀m,((spL cl b m).map (·.1)).Nodup
 |0=>List.nodup_nil
 |m+1=>by
  by_cases h:nth cl m<0
  ·rw [spL_yes h,List.map_append,List.nodup_append]
   refine ⟨spL_nodup cl b m,by simp,fun x hx y hy e=> ?_⟩
   obtain ⟨r,e2,hr⟩:=spL_key hx
   have:y=(m:Int):=by simpa using hy
   omega
  ·rw [spL_no h];exact spL_nodup cl b m
theorem spL_get {cl:List Int}{b R r:Nat}(hr:r<R)(h:nth cl r<0):getZ (r:Int) (spL cl b R)=some ((b+nSp cl r:Nat):Int):=by
 rw [getZ_some (spL_nodup cl b R)]
 exact List.mem_map.2 ⟨r,List.mem_filter.2 ⟨List.mem_range.2 hr,by simpa using h⟩,rfl⟩
theorem paint_sp {cl:List Int}{b R:Nat}{x:Ins}(hrd:∀v∈rdG x,0≤v∧v<(R:Int))(hwr:wrG x<(R:Int)):paintF cl (fun r:Int=>(getZ r (spL cl b R)).getD 0) x=paintL cl (wdF cl b R) x:=by
 refine paint_same fun r hr hc=> ?_
 have h0:0≤r∧r<(R:Int):=by
  rcases hr with ⟨rfl,h⟩|h
  ·exact ⟨h,hwr⟩
  ·exact hrd _ h
 obtain ⟨q,rfl⟩:=Int.eq_ofNat_of_zero_le h0.1
 have hq:q<R:=by omega
 have hc' :nth cl q<0:=hc
 show (getZ (q:Int) (spL cl b R)).getD 0=nth (wdF cl b R) q
 rw [spL_get hq hc']
 unfold wdF
 rw [nth_mapR hq,if_pos hc']
 rfl
theorem paintL_ops {cl wd:List Int}{x y:Ins}(hy:y∈paintL cl wd x):y.op=8∨y.op=9∨y.op=x.op:=by
 unfold paintL at hy
 rcases List.mem_append.1 hy with hy|hy
 ·unfold ldL at hy
  obtain ⟨q,_,hq⟩:=List.mem_flatMap.1 hy
  unfold ldK at hq
  split at hq
  ·rw [List.mem_singleton.1 hq];exact .inl rfl
  ·cases hq
 ·rcases List.mem_cons.1 hy with rfl|hy
  ·exact .inr (.inr (ptS_op _ _ _ _))
  ·split at hy
   ·rw [List.mem_singleton.1 hy];exact .inr (.inl rfl)
   ·cases hy
theorem moved_ap {code:List Ins}{cl:List Int}{b:Nat}{regs:Int}(h0:0≤regs)(hov:OkV code regs):movedL (fun _ x=>paintF cl (fun r:Int=>(getZ r (spL cl b regs.toNat)).getD 0) x) code=apT code cl b regs.toNat:=by
 have e:∀i,i<code.length→paintF cl (fun r:Int=>(getZ r (spL cl b regs.toNat)).getD 0) (nth code i)=paintL cl (wdF cl b regs.toNat) (nth code i):=fun i hi=>
  paint_sp (fun v hv=>by have:=(hov i hi).2.2.2 v hv;omega) (by have:=(hov i hi).2.2.1;omega)
 rw [moved_put]
 ·unfold apT apL becL
  congr 1
  refine List.map_congr_left fun i hi=>e i (List.mem_range.1 hi)
 ·intro i hi x hx h15
  rw [e i hi] at hx
  rcases paintL_ops hx with h|h|h<;>omega
section
variable {code:List Ins}{cl:List Int}{b:Nat}{regs:Int}{ml:List (Int×Int)}
theorem ap_one (hml:ml=spL cl b regs.toNat)(h0:0≤regs)(hov:OkV code regs){i:Nat}(hi:i<code.length):paintF cl (fun r:Int=>(getZ r ml).getD 0) (nth code i)=paintL cl (wdF cl b regs.toNat) (nth code i):=by
 subst hml
 exact paint_sp (fun v hv=>by have:=(hov i hi).2.2.2 v hv;omega) (by have:=(hov i hi).2.2.1;omega)
theorem ap_b8 (hml:ml=spL cl b regs.toNat)(h0:0≤regs)(hov:OkV code regs):∀i,i<code.length→((fun (_:Nat) (x:Ins)=>paintF cl (fun r:Int=>(getZ r ml).getD 0) x) i (nth code i)).length≤8:=fun i hi=>by
 show (paintF cl _ (nth code i)).length≤8
 rw [ap_one hml h0 hov hi];exact paintL_len _ _ _
theorem ap_bok (hml:ml=spL cl b regs.toNat)(h0:0≤regs)(hov:OkV code regs)(hj:JumpsOK code):BecB (fun (_:Nat) (x:Ins)=>paintF cl (fun r:Int=>(getZ r ml).getD 0) x) code:=by
 intro i hi k hk
 have hk' :k<(paintF cl (fun r:Int=>(getZ r ml).getD 0) (nth code i)).length:=hk
 have e:=ap_one hml h0 hov hi
 have h9:=apL_op (cl:=cl) (wd:=wdF cl b regs.toNat) (hj i hi) (nth (paintL cl (wdF cl b regs.toNat) (nth code i)) k) (nth_mem _ _ (by rw [←e];exact hk'))
 rw [←e] at h9
 exact h9
theorem moved_ap2 (hml:ml=spL cl b regs.toNat)(h0:0≤regs)(hov:OkV code regs):movedL (fun (_:Nat) (x:Ins)=>paintF cl (fun r:Int=>(getZ r ml).getD 0) x) code=apT code cl b regs.toNat:=by subst hml;exact moved_ap h0 hov
end
section
variable {p q:Pg}{m m' :Int}
end
structure RelP (n:Nat)(R:Nat→Int→Int→Prop)(s s' :MSt):Prop where
 words:s'.words=s.words
 owner:s'.owner=s.owner
 prints:s'.prints=s.prints
 regs:∀t,t<n→(nth s'.ths t).regs=(nth s.ths t).regs
 wait:∀t,t<n→(nth s'.ths t).wait=(nth s.ths t).wait
 pc:∀t,t<n→R t (nth s.ths t).pc (nth s'.ths t).pc
theorem RelP.view {n:Nat}{R:Nat→Int→Int→Prop}{s s' :MSt}(h:RelP n R s s'){t:Nat}(ht:t<n):s'.view t= { s.view t with pc:=(nth s'.ths t).pc } :=by
 unfold MSt.view
 simp only [h.words,h.owner,h.prints,h.regs t ht,h.wait t ht]
theorem putT_th {s:MSt}{t u:Nat}{y:TS}(h:t<s.ths.length):nth (s.putT t y).ths u=if t=u then ⟨y.pc,y.regs,y.wait⟩ else nth s.ths u:=by
 unfold MSt.putT
 simp only [nth_set0]
 by_cases e:t=u<;>simp [e,h]
 intro h2;exact absurd h (by rw [e];omega)
theorem RelP.put {n:Nat}{R:Nat→Int→Int→Prop}{s s' :MSt}(h:RelP n R s s'){t:Nat}(hl:t<s.ths.length)(hl' :t<s'.ths.length){y:TS}{u:Int}(hR:t<n→R t y.pc u):RelP n R (s.putT t y) (s'.putT t { y with pc:=u }):=by
 refine ⟨rfl,rfl,rfl,fun v hv=> ?_,fun v hv=> ?_,fun v hv=> ?_⟩
 ·rw [putT_th hl,putT_th hl'];split
  ·rfl
  ·exact h.regs v hv
 ·rw [putT_th hl,putT_th hl'];split
  ·rfl
  ·exact h.wait v hv
 ·rw [putT_th hl,putT_th hl'];split
  ·rename_i e;subst e;exact hR hv
  ·exact h.pc v hv
theorem RelP.left {n:Nat}{R:Nat→Int→Int→Prop}{s s' :MSt}(h:RelP n R s s'){t:Nat}(hl:t<s.ths.length){u:Int}(hR:t<n→R t u (nth s'.ths t).pc):RelP n R (s.putT t { s.view t with pc:=u }) s' :=by
 refine ⟨h.words,h.owner,h.prints,fun v hv=> ?_,fun v hv=> ?_,fun v hv=> ?_⟩
 ·rw [putT_th hl];split
  ·rename_i e;subst e;exact h.regs _ hv
  ·exact h.regs v hv
 ·rw [putT_th hl];split
  ·rename_i e;subst e;exact h.wait _ hv
  ·exact h.wait v hv
 ·rw [putT_th hl];split
  ·rename_i e;subst e;exact hR hv
  ·exact h.pc v hv
theorem RelP.right {n:Nat}{R:Nat→Int→Int→Prop}{s s' :MSt}(h:RelP n R s s'){t:Nat}(hl:t<s'.ths.length){u:Int}(hR:t<n→R t (nth s.ths t).pc u):RelP n R s (s'.putT t { s'.view t with pc:=u }):=by
 refine ⟨h.words,h.owner,h.prints,fun v hv=> ?_,fun v hv=> ?_,fun v hv=> ?_⟩
 ·rw [putT_th hl];split
  ·rename_i e;subst e;exact h.regs _ hv
  ·exact h.regs v hv
 ·rw [putT_th hl];split
  ·rename_i e;subst e;exact h.wait _ hv
  ·exact h.wait v hv
 ·rw [putT_th hl];split
  ·rename_i e;subst e;exact hR hv
  ·exact h.pc v hv
theorem ended_iff {p:Pg}{s:MSt} :ended p s=true↔∀t,t<p.code.length→¬(nth s.ths t).pc<((nth p.code t).length:Int)∧(nth s.ths t).wait.length=0:=by
 unfold ended
 rw [List.all_eq_true]
 simp only [List.mem_range,Bool.and_eq_true,decide_eq_true_eq]
theorem ended_false {p:Pg}{s:MSt}(h:ended p s=false):∃t,t<p.code.length∧((nth s.ths t).pc<((nth p.code t).length:Int)∨(nth s.ths t).wait.length≠0):=by
 apply Classical.byContradiction
 intro hn
 have:ended p s=true:=ended_iff.2 fun t ht=>by
  by_cases h1:(nth s.ths t).pc<((nth p.code t).length:Int)
  ·exact absurd ⟨t,ht, .inl h1⟩ hn
  ·by_cases h2:(nth s.ths t).wait.length=0
   ·exact ⟨h1,h2⟩
   ·exact absurd ⟨t,ht, .inr h2⟩ hn
 rw [h] at this;cases this
theorem Reach.len {p:Pg}{m:Int}(hok:OkPg p){s:MSt}(h:Reach p m s){t:Nat}(ht:t<p.code.length):t<s.ths.length:=by rw [(h.wf hok).ths];exact ht
theorem execT_jump {m:Int}{n:Nat}{i:Ins}{a:Int}{x:TS}(h:i.op=14):execT m n { i with a:=a } x= { x with pc:=a } :=execT_14 (i:= { i with a:=a }) h
theorem RelP.trans {n:Nat}{R R' R'' :Nat→Int→Int→Prop}{s s' s'' :MSt}(h:RelP n R s s')(h' :RelP n R' s' s'')(hc:∀t a b c,t<n→R t a b→R' t b c→R'' t a c):RelP n R'' s s'' :=
 ⟨h'.words.trans h.words,h'.owner.trans h.owner,h'.prints.trans h.prints,fun t ht=>(h'.regs t ht).trans (h.regs t ht),fun t ht=>(h'.wait t ht).trans (h.wait t ht),fun t ht=>hc t _ _ _ ht (h.pc t ht) (h'.pc t ht)⟩
theorem RelP.refl (n:Nat)(s:MSt):RelP n (fun _ a b=>b=a) s s:=⟨rfl,rfl,rfl,fun _ _=>rfl,fun _ _=>rfl,fun _ _=>rfl⟩
def At1 (t:Nat)(j:Int)(u:Nat)(a b:Int):Prop:=if u=t then b=j else b=a
theorem RelP.one {n:Nat}{s:MSt}{t:Nat}{u:Int}(hl:t<s.ths.length):RelP n (At1 t u) s (s.putT t { s.view t with pc:=u }):=by
 refine ⟨rfl,rfl,rfl,fun v hv=> ?_,fun v hv=> ?_,fun v hv=> ?_⟩
 ·rw [putT_th hl];split
  ·rename_i e;subst e;rfl
  ·rfl
 ·rw [putT_th hl];split
  ·rename_i e;subst e;rfl
  ·rfl
 ·rw [putT_th hl];unfold At1;split
  ·rename_i e;subst e;rw [if_pos rfl]
  ·rename_i e;rw [if_neg (fun h=>e h.symm)]
theorem At1.trans {t:Nat}{i j:Int}{u:Nat}{a b c:Int}(h:At1 t i u a b)(h' :At1 t j u b c):At1 t j u a c:=by
 unfold At1 at*
 split
 ·rename_i e;rw [if_pos e] at h';exact h'
 ·rename_i e;rw [if_neg e] at h h';rw [h',h]
theorem RelP.both {n:Nat}{R:Nat→Int→Int→Prop}{s s' s'' :MSt}(h:RelP n R s s'){t:Nat}(hl:t<s.ths.length){u j:Int}(h' :RelP n (At1 t j) s' s'')(hR:t<n→R t u j):RelP n R (s.putT t { s.view t with pc:=u }) s'' :=by
 refine ⟨h'.words.trans h.words,h'.owner.trans h.owner,h'.prints.trans h.prints,fun v hv=> ?_,fun v hv=> ?_,fun v hv=> ?_⟩
 ·rw [h'.regs v hv,h.regs v hv,putT_th hl];split
  ·rename_i e;subst e;rfl
  ·rfl
 ·rw [h'.wait v hv,h.wait v hv,putT_th hl];split
  ·rename_i e;subst e;rfl
  ·rfl
 ·rw [putT_th hl]
  have h1:=h'.pc v hv
  unfold At1 at h1
  by_cases e:t=v
  ·subst e
   rw [if_pos rfl] at h1
   rw [if_pos rfl,h1]
   exact hR hv
  ·rw [if_neg (fun h=>e h.symm)] at h1
   rw [if_neg e,h1]
   exact h.pc v hv
theorem stepT_e {p:Pg}{m:Int}{s:MSt}{t:Nat} :stepT p m s t 0=execT m t (nextIns (nth p.code t) (s.view t).pc) { s.view t with pc:=(s.view t).pc+1 } :=doT_0 rfl
def mainI (cl:List Int)(x:Ins):Ins:=(ptS (plcF cl x (rdG x).length) (colr cl (wrG x) 6) x (kindsB x.op).size).1
section
variable {cl:List Int}{x:Ins}
theorem main_1 (h:x.op=1)(h0:0≤x.a):mainI cl x=⟨1,colr cl x.a 6,x.b,x.c⟩:=by
 obtain ⟨op,a,b,c⟩:=x
 simp only at h h0
 subst h
 have e0:kAt (kindsB 1) 0=114:=by kernel_rfl
 have e1:kAt (kindsB 1) 1=110:=by kernel_rfl
 have es:(kindsB 1).size=2:=by rfl
 simp [mainI,es,h0,ptS,e0,e1,putK,wrG,plcF,rdG,nth]
theorem main_2 (h:x.op=2)(h0:0≤x.a):mainI cl x=⟨2,colr cl x.a 6,colr cl x.b 6,x.c⟩:=by
 obtain ⟨op,a,b,c⟩:=x
 simp only at h h0
 subst h
 have e0:kAt (kindsB 2) 0=114:=by kernel_rfl
 have e1:kAt (kindsB 2) 1=114:=by kernel_rfl
 have es:(kindsB 2).size=2:=by rfl
 simp [mainI,es,h0,ptS,e0,e1,putK,wrG,plcF,rdG,nth]
theorem main_3 (h:x.op=3)(h0:0≤x.a):mainI cl x=⟨3,colr cl x.a 6,colr cl x.b 6,colr cl x.c 7⟩:=by
 obtain ⟨op,a,b,c⟩:=x
 simp only at h h0
 subst h
 have e0:kAt (kindsB 3) 0=114:=by kernel_rfl
 have e1:kAt (kindsB 3) 1=114:=by kernel_rfl
 have e2:kAt (kindsB 3) 2=114:=by kernel_rfl
 have es:(kindsB 3).size=3:=by rfl
 simp [mainI,es,h0,ptS,e0,e1,e2,putK,wrG,plcF,rdG,nth]
theorem main_4 (h:x.op=4)(h0:0≤x.a):mainI cl x=⟨4,colr cl x.a 6,colr cl x.b 6,colr cl x.c 7⟩:=by
 obtain ⟨op,a,b,c⟩:=x
 simp only at h h0
 subst h
 have e0:kAt (kindsB 4) 0=114:=by kernel_rfl
 have e1:kAt (kindsB 4) 1=114:=by kernel_rfl
 have e2:kAt (kindsB 4) 2=114:=by kernel_rfl
 have es:(kindsB 4).size=3:=by rfl
 simp [mainI,es,h0,ptS,e0,e1,e2,putK,wrG,plcF,rdG,nth]
theorem main_5 (h:x.op=5)(h0:0≤x.a):mainI cl x=⟨5,colr cl x.a 6,colr cl x.b 6,colr cl x.c 7⟩:=by
 obtain ⟨op,a,b,c⟩:=x
 simp only at h h0
 subst h
 have e0:kAt (kindsB 5) 0=114:=by kernel_rfl
 have e1:kAt (kindsB 5) 1=114:=by kernel_rfl
 have e2:kAt (kindsB 5) 2=114:=by kernel_rfl
 have es:(kindsB 5).size=3:=by rfl
 simp [mainI,es,h0,ptS,e0,e1,e2,putK,wrG,plcF,rdG,nth]
theorem main_6 (h:x.op=6)(h0:0≤x.a):mainI cl x=⟨6,colr cl x.a 6,colr cl x.b 6,colr cl x.c 7⟩:=by
 obtain ⟨op,a,b,c⟩:=x
 simp only at h h0
 subst h
 have e0:kAt (kindsB 6) 0=114:=by kernel_rfl
 have e1:kAt (kindsB 6) 1=114:=by kernel_rfl
 have e2:kAt (kindsB 6) 2=114:=by kernel_rfl
 have es:(kindsB 6).size=3:=by rfl
 simp [mainI,es,h0,ptS,e0,e1,e2,putK,wrG,plcF,rdG,nth]
theorem main_7 (h:x.op=7)(h0:0≤x.a):mainI cl x=⟨7,colr cl x.a 6,colr cl x.b 6,colr cl x.c 7⟩:=by
 obtain ⟨op,a,b,c⟩:=x
 simp only at h h0
 subst h
 have e0:kAt (kindsB 7) 0=114:=by kernel_rfl
 have e1:kAt (kindsB 7) 1=114:=by kernel_rfl
 have e2:kAt (kindsB 7) 2=114:=by kernel_rfl
 have es:(kindsB 7).size=3:=by rfl
 simp [mainI,es,h0,ptS,e0,e1,e2,putK,wrG,plcF,rdG,nth]
theorem main_8 (h:x.op=8)(h0:0≤x.a):mainI cl x=⟨8,colr cl x.a 6,x.b,x.c⟩:=by
 obtain ⟨op,a,b,c⟩:=x
 simp only at h h0
 subst h
 have e0:kAt (kindsB 8) 0=114:=by kernel_rfl
 have e1:kAt (kindsB 8) 1=119:=by kernel_rfl
 have es:(kindsB 8).size=2:=by rfl
 simp [mainI,es,h0,ptS,e0,e1,putK,wrG,plcF,rdG,nth]
theorem main_9 (h:x.op=9):mainI cl x=⟨9,x.a,colr cl x.b 6,x.c⟩:=by
 obtain ⟨op,a,b,c⟩:=x
 simp only at h
 subst h
 have e0:kAt (kindsB 9) 0=119:=by kernel_rfl
 have e1:kAt (kindsB 9) 1=114:=by kernel_rfl
 have es:(kindsB 9).size=2:=by rfl
 simp [mainI,es,ptS,e0,e1,putK,wrG,plcF,rdG,nth]
theorem main_10 (h:x.op=10)(h0:0≤x.a):mainI cl x=⟨10,colr cl x.a 6,colr cl x.b 6,x.c⟩:=by
 obtain ⟨op,a,b,c⟩:=x
 simp only at h h0
 subst h
 have e0:kAt (kindsB 10) 0=114:=by kernel_rfl
 have e1:kAt (kindsB 10) 1=114:=by kernel_rfl
 have es:(kindsB 10).size=2:=by rfl
 simp [mainI,es,h0,ptS,e0,e1,putK,wrG,plcF,rdG,nth]
theorem main_11 (h:x.op=11):mainI cl x=⟨11,colr cl x.a 6,colr cl x.b 7,x.c⟩:=by
 obtain ⟨op,a,b,c⟩:=x
 simp only at h
 subst h
 have e0:kAt (kindsB 11) 0=114:=by kernel_rfl
 have e1:kAt (kindsB 11) 1=114:=by kernel_rfl
 have es:(kindsB 11).size=2:=by rfl
 simp [mainI,es,ptS,e0,e1,putK,wrG,plcF,rdG,nth]
theorem main_12 (h:x.op=12):mainI cl x=x:=by
 obtain ⟨op,a,b,c⟩:=x
 simp only at h
 subst h
 have es:(kindsB 12).size=0:=by rfl
 simp [mainI,es,ptS,putK,wrG,plcF,rdG,nth]
theorem main_13 (h:x.op=13):mainI cl x=⟨13,x.a,colr cl x.b 6,colr cl x.c 7⟩:=by
 obtain ⟨op,a,b,c⟩:=x
 simp only at h
 subst h
 have e0:kAt (kindsB 13) 0=119:=by kernel_rfl
 have e1:kAt (kindsB 13) 1=114:=by kernel_rfl
 have e2:kAt (kindsB 13) 2=114:=by kernel_rfl
 have es:(kindsB 13).size=3:=by rfl
 simp [mainI,es,ptS,e0,e1,e2,putK,wrG,plcF,rdG,nth]
theorem main_14 (h:x.op=14):mainI cl x=x:=by
 obtain ⟨op,a,b,c⟩:=x
 simp only at h
 subst h
 have e0:kAt (kindsB 14) 0=99:=by kernel_rfl
 have es:(kindsB 14).size=1:=by rfl
 simp [mainI,es,ptS,e0,putK,wrG,plcF,rdG,nth]
theorem main_15 (h:x.op=15):mainI cl x=⟨15,colr cl x.a 6,x.b,x.c⟩:=by
 obtain ⟨op,a,b,c⟩:=x
 simp only at h
 subst h
 have e0:kAt (kindsB 15) 0=114:=by kernel_rfl
 have e1:kAt (kindsB 15) 1=99:=by kernel_rfl
 have es:(kindsB 15).size=2:=by rfl
 simp [mainI,es,ptS,e0,e1,putK,wrG,plcF,rdG,nth]
theorem main_16 (h:x.op=16):mainI cl x=⟨16,colr cl x.a 6,x.b,x.c⟩:=by
 obtain ⟨op,a,b,c⟩:=x
 simp only at h
 subst h
 have e0:kAt (kindsB 16) 0=114:=by kernel_rfl
 have es:(kindsB 16).size=1:=by rfl
 simp [mainI,es,ptS,e0,putK,wrG,plcF,rdG,nth]
theorem main_17 (h:x.op=17):mainI cl x=x:=by
 obtain ⟨op,a,b,c⟩:=x
 simp only at h
 subst h
 have e0:kAt (kindsB 17) 0=108:=by kernel_rfl
 have es:(kindsB 17).size=1:=by rfl
 simp [mainI,es,ptS,e0,putK,wrG,plcF,rdG,nth]
theorem main_18 (h:x.op=18):mainI cl x=x:=by
 obtain ⟨op,a,b,c⟩:=x
 simp only at h
 subst h
 have e0:kAt (kindsB 18) 0=108:=by kernel_rfl
 have es:(kindsB 18).size=1:=by rfl
 simp [mainI,es,ptS,e0,putK,wrG,plcF,rdG,nth]
theorem main_op :(mainI cl x).op=x.op:=ptS_op _ _ _ _
theorem rd_1 (h:x.op=2∨x.op=9∨x.op=10):rdG x= [x.b]:=by unfold rdG;rw [if_pos h]
theorem rd_2 (h:(3≤x.op∧x.op≤7)∨x.op=13):rdG x= [x.b,x.c]:=by unfold rdG;rw [if_neg (by omega),if_pos h]
theorem rd_3 (h:x.op=11):rdG x= [x.a,x.b]:=by unfold rdG;rw [if_neg (by omega),if_neg (by omega),if_pos h]
theorem rd_4 (h:x.op=15∨x.op=16):rdG x= [x.a]:=by unfold rdG;rw [if_neg (by omega),if_neg (by omega),if_neg (by omega),if_pos h]
theorem wr_a (h:x.op≤8∨x.op=10):wrG x=x.a:=by unfold wrG;rw [if_neg (by omega),if_pos h]
theorem wr_b (h:x.op=13):wrG x=x.b:=by unfold wrG;rw [if_pos h]
theorem wr_n (h:x.op=9∨x.op=11∨x.op=12∨14≤x.op):wrG x= -1:=by unfold wrG;rw [if_neg (by omega),if_neg (by omega)]
end
def fixJ (pl:Nat→Nat)(x:Ins):Ins:=if x.op=14 then { x with a:=(pl x.a.toNat:Int) } else if x.op=15 then { x with b:=(pl x.b.toNat:Int) } else x
theorem fixJ_no {pl:Nat→Nat}{x:Ins}(h:x.op≠14)(h2:x.op≠15):fixJ pl x=x:=by unfold fixJ;rw [if_neg h,if_neg h2]
structure Ctx (c:List Ins)(cl wd:List Int)(n tot R:Nat)(f:Nat→Nat→Bool):Prop where
 rng:∀r,r<R→-1≤nth cl r∧nth cl r<6
 ok:∀r s,r<R→s<R→0≤nth cl r→clTo c f c.length r s=true→nth cl s≠nth cl r
 wdr:∀r,r<R→nth cl r<0→(n:Int)≤nth wd r∧nth wd r<(n:Int)+tot
 inj:∀r s,r<R→s<R→nth cl r<0→nth cl s<0→nth wd r=nth wd s→r=s
 live:∀r j,f r j=true↔LiveI c r j
 okv:OkV c R
 jmp:JumpsOK c
structure Vx (cl wd:List Int)(n tot R:Nat)(f:Nat→Nat→Bool)(i:Nat)(ex:Int)(x y:TS):Prop where
 w:∀k,k<n→nth y.words k=nth x.words k
 wl:y.words.length=n+tot
 xl:x.words.length=n
 o:y.owner=x.owner
 p:y.prints=x.prints
 xw:x.wait= []
 yw:y.wait= []
 rl:y.regs.length=8
 xr:x.regs.length=R
 col:∀r,r<R→f r i=true→0≤nth cl r→nth y.regs (nth cl r).toNat=nth x.regs r
 sp:∀r,r<R→(r:Int)≠ex→nth cl r<0→nth y.words (nth wd r).toNat=nth x.regs r
def exW (cl:List Int)(x:Ins):Int:=if 0≤wrG x∧nth cl (wrG x).toNat<0 then wrG x else-1
section
variable {c:List Ins}{cl wd:List Int}{n tot R:Nat}{f:Nat→Nat→Bool}{i i' :Nat}{ex:Int}{x y:TS}{t:Nat}
theorem nth_setZ (l:List Int)(i k:Nat)(v:Int)(hi:i<l.length):nth (l.set i v) k=if k=i then v else nth l k:=by
 rw [nth_set0]
 by_cases h:k=i
 ·rw [if_pos ⟨h.symm,hi⟩,if_pos h]
 ·rw [if_neg (fun e=>h e.1.symm),if_neg h]
theorem Vx.pc (h:Vx cl wd n tot R f i ex x y)(u v:Int):Vx cl wd n tot R f i ex { x with pc:=u } { y with pc:=v } :=⟨h.w,h.wl,h.xl,h.o,h.p,h.xw,h.yw,h.rl,h.xr,h.col,h.sp⟩
theorem Vx.word (H:Ctx c cl wd n tot R f)(h:Vx cl wd n tot R f i ex x y){a v:Int}(ha:0≤a∧a<n):Vx cl wd n tot R f i ex { x with words:=x.words.set a.toNat v } { y with words:=y.words.set a.toNat v } :=by
 have h1:=h.wl
 have h2:=h.xl
 refine ⟨fun k hk=> ?_,by rw [List.length_set];exact h1,by rw [List.length_set];exact h2,h.o,h.p,h.xw,h.yw,h.rl,h.xr,h.col,fun r hr he hc=> ?_⟩
 ·show nth (y.words.set a.toNat v) k=nth (x.words.set a.toNat v) k
  rw [nth_setZ _ _ _ _ (by omega),nth_setZ _ _ _ _ (by omega),h.w k hk]
 ·have:=H.wdr r hr hc
  show nth (y.words.set a.toNat v) _=_
  rw [nth_setZ _ _ _ _ (by omega),if_neg (by omega)]
  exact h.sp r hr he hc
theorem Vx.next (H:Ctx c cl wd n tot R f)(h:Vx cl wd n tot R f i (-1) x y)(hi:i<c.length)(hw:wrG (nth c i)<0)(hn:(i' :Int)∈nextsL c i):Vx cl wd n tot R f i' (-1) x y:=by
 refine ⟨h.w,h.wl,h.xl,h.o,h.p,h.xw,h.yw,h.rl,h.xr,fun r hr hl hc=>h.col r hr ?_ hc,h.sp⟩
 have:=(H.live r i').1 hl
 exact (H.live r i).2 (.pass i (i' :Int) hi (by omega) hn this)
theorem Vx.put (H:Ctx c cl wd n tot R f)(h:Vx cl wd n tot R f i (-1) x y)(hi:i<c.length){a:Int}(hw:wrG (nth c i)=a)(h0:0≤a)(hn:(i' :Int)∈nextsL c i)(v:Int):
  Vx cl wd n tot R f i' (exW cl (nth c i)) (x.put a v) (y.put (colr cl a 6) v)∧(0≤exW cl (nth c i)→nth (y.put (colr cl a 6) v).regs 6=nth (x.put a v).regs (exW cl (nth c i)).toNat):=by
 have hwR:=(H.okv i hi).2.2.1.2
 rw [hw] at hwR
 have haR:a.toNat<R:=by omega
 have hrl:=h.rl
 have hxr:=h.xr
 have hcr:=H.rng a.toNat haR
 have hcol:0≤colr cl a 6∧colr cl a 6≤6:=by unfold colr;split<;>omega
 have hex:exW cl (nth c i)=if nth cl a.toNat<0 then a else-1:=by
  unfold exW
  rw [hw]
  by_cases e:nth cl a.toNat<0
  ·rw [if_pos ⟨h0,e⟩,if_pos e]
  ·rw [if_neg (fun h9=>e h9.2),if_neg e]
 have hy:∀k,nth (y.put (colr cl a 6) v).regs k=if k=(colr cl a 6).toNat then v else nth y.regs k:=fun k=>nth_setZ _ _ _ _ (by omega)
 have hx:∀k,nth (x.put a v).regs k=if k=a.toNat then v else nth x.regs k:=fun k=>nth_setZ _ _ _ _ (by omega)
 refine ⟨⟨h.w,h.wl,h.xl,h.o,h.p,h.xw,h.yw, ?_, ?_,fun r hr hl hc=> ?_,fun r hr he hc=> ?_⟩,fun he=> ?_⟩
 ·show (y.regs.set _ _).length=8;rw [List.length_set];exact hrl
 ·show (x.regs.set _ _).length=R;rw [List.length_set];exact hxr
 ·rw [hy,hx]
  by_cases e:r=a.toNat
  ·subst e
   rw [if_pos rfl,if_pos (by unfold colr;rw [if_neg (by omega)])]
  ·have hrc:=H.rng r hr
   have hne:(nth cl r).toNat≠(colr cl a 6).toNat:=by
    unfold colr
    split
    ·omega
    ·have hcl:clTo c f c.length r a.toNat=true:=by
      unfold clTo
      refine List.any_eq_true.2 ⟨i,List.mem_range.2 hi,List.any_eq_true.2 ⟨(i' :Int),hn, ?_⟩⟩
      unfold clE
      rw [hw,Int.toNat_natCast,decide_eq_true e,decide_eq_true (show a=((a.toNat:Nat):Int) by omega),hl]
      rfl
     have:=H.ok r a.toNat hr haR hc hcl
     omega
   rw [if_neg hne,if_neg e]
   refine h.col r hr ?_ hc
   exact (H.live r i).2 (.pass i (i' :Int) hi (by rw [hw];omega) hn ((H.live r i').1 hl))
 ·rw [hx]
  by_cases e:r=a.toNat
  ·subst e
   rw [hex,if_pos hc] at he
   exact absurd (by omega) he
  ·rw [if_neg e]
   exact h.sp r hr (by omega) hc
 ·rw [hex] at he⊢
  by_cases e:nth cl a.toNat<0
  ·rw [if_pos e] at he⊢
   rw [hy,hx,if_pos (by unfold colr;rw [if_pos e];rfl),if_pos rfl]
  ·rw [if_neg e] at he;omega
theorem Vx.rd (H:Ctx c cl wd n tot R f)(h:Vx cl wd n tot R f i (-1) x y)(hi:i<c.length){a d:Int}(ha:a∈rdG (nth c i))(hl:nth cl a.toNat<0→nth y.regs d.toNat=nth x.regs a.toNat):y.reg (colr cl a d)=x.reg a:=by
 have hb:=(H.okv i hi).2.2.2 a ha
 have hr:a.toNat<R:=by omega
 show nth y.regs (colr cl a d).toNat=nth x.regs a.toNat
 unfold colr
 by_cases e:nth cl a.toNat<0
 ·rw [if_pos e];exact hl e
 ·rw [if_neg e]
  exact h.col _ hr ((H.live _ _).2 (.read i hi (by rw [show ((a.toNat:Nat):Int)=a by omega];exact ha))) (by omega)
theorem finds_nil {x:TS}(h:x.wait= [])(w:Int):x.finds w=nth x.words w.toNat:=by unfold TS.finds findsL;rw [h];rfl
theorem store_0 (x:TS)(a v:Int):x.store 0 ⟨false,a,v⟩= { x with words:=x.words.set a.toNat v } :=rfl
def Lded (cl:List Int)(ins:Ins)(x y:TS):Prop:=∀k,k<(rdG ins).length→nth cl (nth (rdG ins) k).toNat<0→nth y.regs (6+k)=nth x.regs (nth (rdG ins) k).toNat
end
def MainR (c:List Ins)(cl wd:List Int)(n tot R:Nat)(f:Nat→Nat→Bool)(i:Nat)(pl:Nat→Nat)(v:Int)(y0 A B:TS):Prop:=
 B.fell=false∧(∀k,n≤k→nth B.words k=nth y0.words k)∧∃i' :Nat,A.pc=(i' :Int)∧(i' :Int)∈nextsL c i∧Vx cl wd n tot R f i' (exW cl (nth c i)) A B∧(0≤exW cl (nth c i)→nth B.regs 6=nth A.regs (exW cl (nth c i)).toNat)∧((B.pc=v∧i' =i+1)∨(B.pc=(pl i' :Int)∧wrG (nth c i)<0))
theorem exW_no {cl:List Int}{x:Ins}(h:wrG x<0):exW cl x= -1:=by unfold exW;rw [if_neg (by omega)]
theorem fixJ_lit {pl:Nat→Nat}{op a b c:Int}(h:op≠14)(h2:op≠15):fixJ pl ⟨op,a,b,c⟩=⟨op,a,b,c⟩:=fixJ_no h h2
section
variable {c:List Ins}{cl wd:List Int}{n tot R L:Nat}{f:Nat→Nat→Bool}{i:Nat}{x y y0:TS}{t:Nat}{pl:Nat→Nat}{v:Int}
theorem word_fr {y:TS}{a:Nat}{w:Int}(ha:a<n)(hl:a<y.words.length):∀k,n≤k→nth ({ y with words:=y.words.set a w } :TS).words k=nth y.words k:=fun k hk=>by
 show nth (y.words.set a w) k=_
 rw [nth_setZ _ _ _ _ hl,if_neg (by omega)]
theorem next_in (h:(nth c i).op≠14):((i+1:Nat):Int)∈nextsL c i:=by
 unfold nextsL
 rw [if_neg h]
 split<;>simp
theorem MainR.put (H:Ctx c cl wd n tot R f)(h:Vx cl wd n tot R f i (-1) x y)(hi:i<c.length){a:Int}(hw:wrG (nth c i)=a)(h0:0≤a)(h14:(nth c i).op≠14)(hy:y.fell=false){val val2:Int}(hv:val2=val)(hfr:∀k,n≤k→nth y.words k=nth y0.words k:=by intros;rfl):MainR c cl wd n tot R f i pl v y0 (({ x with pc:=(i:Int)+1 } :TS).put a val) (({ y with pc:=v } :TS).put (colr cl a 6) val2):=by
 subst hv
 obtain ⟨h1,h2⟩:=(h.pc ((i:Int)+1) v).put H hi hw h0 (next_in h14) val2
 exact ⟨hy,hfr,i+1,by show (i:Int)+1=_;simp,next_in h14,h1,h2, .inl ⟨rfl,rfl⟩⟩
theorem MainR.no (H:Ctx c cl wd n tot R f)(h:Vx cl wd n tot R f i (-1) x y)(hi:i<c.length)(hw:wrG (nth c i)<0)(h14:(nth c i).op≠14)(hy:y.fell=false)(hfr:∀k,n≤k→nth y.words k=nth y0.words k:=by intros;rfl):MainR c cl wd n tot R f i pl v y0 { x with pc:=(i:Int)+1 } { y with pc:=v } :=
 ⟨hy,hfr,i+1,by show (i:Int)+1=_;simp,next_in h14,by rw [exW_no hw];exact (h.next H hi hw (next_in h14)).pc _ _,fun h9=>by rw [exW_no hw] at h9;omega, .inl ⟨rfl,rfl⟩⟩
theorem MainR.jmp (H:Ctx c cl wd n tot R f)(h:Vx cl wd n tot R f i (-1) x y)(hi:i<c.length)(hw:wrG (nth c i)<0){g:Int}(h0:0≤g)(hn:g∈nextsL c i)(hy:y.fell=false)(hfr:∀k,n≤k→nth y.words k=nth y0.words k:=by intros;rfl):MainR c cl wd n tot R f i pl v y0 { x with pc:=g } { y with pc:=(pl g.toNat:Int) } :=
 ⟨hy,hfr,g.toNat,by show g=_;omega,by rw [Int.toNat_of_nonneg h0];exact hn,by rw [exW_no hw];exact (h.next H hi hw (by rw [Int.toNat_of_nonneg h0];exact hn)).pc _ _,fun h9=>by rw [exW_no hw] at h9;omega, .inr ⟨rfl,hw⟩⟩
theorem rd_b (H:Ctx c cl wd n tot R f)(h:Vx cl wd n tot R f i (-1) x y)(hi:i<c.length)(hl:Lded cl (nth c i) x y)(e:(nth c i).op=2∨(nth c i).op=9∨(nth c i).op=10):y.reg (colr cl (nth c i).b 6)=x.reg (nth c i).b:=by
 have hr:=rd_1 e
 have h0:=hl 0 (by rw [hr];simp)
 rw [hr] at h0
 exact h.rd H hi (by rw [hr];simp) h0
theorem rd_a (H:Ctx c cl wd n tot R f)(h:Vx cl wd n tot R f i (-1) x y)(hi:i<c.length)(hl:Lded cl (nth c i) x y)(e:(nth c i).op=15∨(nth c i).op=16):y.reg (colr cl (nth c i).a 6)=x.reg (nth c i).a:=by
 have hr:=rd_4 e
 have h0:=hl 0 (by rw [hr];simp)
 rw [hr] at h0
 exact h.rd H hi (by rw [hr];simp) h0
theorem rd_bc (H:Ctx c cl wd n tot R f)(h:Vx cl wd n tot R f i (-1) x y)(hi:i<c.length)(hl:Lded cl (nth c i) x y)(e:(3≤(nth c i).op∧(nth c i).op≤7)∨(nth c i).op=13):y.reg (colr cl (nth c i).b 6)=x.reg (nth c i).b∧y.reg (colr cl (nth c i).c 7)=x.reg (nth c i).c:=by
 have hr:=rd_2 e
 have h0:=hl 0 (by rw [hr];simp)
 have h1:=hl 1 (by rw [hr];simp)
 rw [hr] at h0 h1
 exact ⟨h.rd H hi (by rw [hr];simp) h0,h.rd H hi (by rw [hr];simp) h1⟩
theorem rd_ab (H:Ctx c cl wd n tot R f)(h:Vx cl wd n tot R f i (-1) x y)(hi:i<c.length)(hl:Lded cl (nth c i) x y)(e:(nth c i).op=11):y.reg (colr cl (nth c i).a 6)=x.reg (nth c i).a∧y.reg (colr cl (nth c i).b 7)=x.reg (nth c i).b:=by
 have hr:=rd_3 e
 have h0:=hl 0 (by rw [hr];simp)
 have h1:=hl 1 (by rw [hr];simp)
 rw [hr] at h0 h1
 exact ⟨h.rd H hi (by rw [hr];simp) h0,h.rd H hi (by rw [hr];simp) h1⟩
theorem holds_nil {x:TS}(h:x.wait= [])(a:Int):∀q,q<x.wait.length→¬((nth x.wait q).lock=true∧(nth x.wait q).wh=a):=fun q hq=>by rw [h] at hq;exact absurd hq (Nat.not_lt_zero _)
theorem main_step (H:Ctx c cl wd n tot R f)(h:Vx cl wd n tot R f i (-1) x y)(hi:i<c.length)(hI:InsR R n L (nth c i))(hl:Lded cl (nth c i) x y)(hxf:x.fell=false)(hyf:y.fell=false)
  (hf:(execT 0 t (nth c i) { x with pc:=(i:Int)+1 }).fell=false):MainR c cl wd n tot R f i pl v y (execT 0 t (nth c i) { x with pc:=(i:Int)+1 }) (execT 0 t (fixJ pl (mainI cl (nth c i))) { y with pc:=v }):=by
 have hov:=H.okv i hi
 have hpos:(nth c i).op≤8∨(nth c i).op=10→0≤(nth c i).a:=hov.2.1
 have hxl:=h.xl
 have hyl:=h.wl
 by_cases e1:(nth c i).op=1
 ·rw [main_1 e1 (hpos (by omega)),fixJ_lit (by decide) (by decide),execT_1 e1,execT_1 rfl]
  exact MainR.put H h hi (wr_a (by omega)) (hpos (by omega)) (by omega) hyf rfl
 by_cases e2:(nth c i).op=2
 ·rw [main_2 e2 (hpos (by omega)),fixJ_lit (by decide) (by decide),execT_2 e2,execT_2 rfl]
  exact MainR.put H h hi (wr_a (by omega)) (hpos (by omega)) (by omega) hyf (rd_b (x:=x) (y:=y) H h hi hl (.inl e2))
 by_cases e3:(nth c i).op=3
 ·obtain ⟨r1,r2⟩:=rd_bc H h hi hl (.inl (by omega))
  rw [main_3 e3 (hpos (by omega)),fixJ_lit (by decide) (by decide),execT_3 e3,execT_3 rfl]
  exact MainR.put H h hi (wr_a (by omega)) (hpos (by omega)) (by omega) hyf (by show wrap64 (y.reg _+y.reg _)=wrap64 (x.reg _+x.reg _);rw [r1,r2])
 by_cases e4:(nth c i).op=4
 ·obtain ⟨r1,r2⟩:=rd_bc H h hi hl (.inl (by omega))
  rw [main_4 e4 (hpos (by omega)),fixJ_lit (by decide) (by decide),execT_4 e4,execT_4 rfl]
  exact MainR.put H h hi (wr_a (by omega)) (hpos (by omega)) (by omega) hyf (by show wrap64 (y.reg _-y.reg _)=wrap64 (x.reg _-x.reg _);rw [r1,r2])
 by_cases e5:(nth c i).op=5
 ·obtain ⟨r1,r2⟩:=rd_bc H h hi hl (.inl (by omega))
  rw [main_5 e5 (hpos (by omega)),fixJ_lit (by decide) (by decide),execT_5 e5,execT_5 rfl]
  exact MainR.put H h hi (wr_a (by omega)) (hpos (by omega)) (by omega) hyf (by show wrap64 (y.reg _*y.reg _)=wrap64 (x.reg _*x.reg _);rw [r1,r2])
 by_cases e6:(nth c i).op=6
 ·obtain ⟨r1,r2⟩:=rd_bc H h hi hl (.inl (by omega))
  rw [main_6 e6 (hpos (by omega)),fixJ_lit (by decide) (by decide),execT_6 e6,execT_6 rfl]
  exact MainR.put H h hi (wr_a (by omega)) (hpos (by omega)) (by omega) hyf (by show bit (decide (y.reg _<y.reg _))=bit (decide (x.reg _<x.reg _));rw [r1,r2])
 by_cases e7:(nth c i).op=7
 ·obtain ⟨r1,r2⟩:=rd_bc H h hi hl (.inl (by omega))
  rw [main_7 e7 (hpos (by omega)),fixJ_lit (by decide) (by decide),execT_7 e7,execT_7 rfl]
  exact MainR.put H h hi (wr_a (by omega)) (hpos (by omega)) (by omega) hyf (by show bit (decide (y.reg _=y.reg _))=bit (decide (x.reg _=x.reg _));rw [r1,r2])
 by_cases e8:(nth c i).op=8
 ·have hb:=hI.o8 e8
  rw [main_8 e8 (hpos (by omega)),fixJ_lit (by decide) (by decide),execT_8 e8,execT_8 rfl]
  refine MainR.put H h hi (wr_a (by omega)) (hpos (by omega)) (by omega) hyf ?_
  rw [finds_nil (show ({ y with pc:=v } :TS).wait= [] from h.yw),finds_nil (show ({ x with pc:=(i:Int)+1 } :TS).wait= [] from h.xw)]
  exact h.w (nth c i).b.toNat (by omega)
 by_cases e9:(nth c i).op=9
 ·have ha:=hI.o9 e9
  rw [main_9 e9,fixJ_lit (by decide) (by decide),execT_9 e9,execT_9 rfl,store_0,store_0]
  rw [show ({ y with pc:=v } :TS).reg (⟨9,(nth c i).a,colr cl (nth c i).b 6,(nth c i).c⟩:Ins).b=({ x with pc:=(i:Int)+1 } :TS).reg (nth c i).b from rd_b (x:=x) (y:=y) H h hi hl (.inr (.inl e9))]
  exact MainR.no (x:= { x with words:=x.words.set (nth c i).a.toNat (x.reg (nth c i).b) }) (y:= { y with words:=y.words.set (nth c i).a.toNat (x.reg (nth c i).b) }) H (h.word H ha.1) hi (by rw [wr_n (by omega)];decide) (by omega) hyf (word_fr (by omega) (by omega))
 by_cases e10:(nth c i).op=10
 ·have r1:=rd_b H h hi hl (.inr (.inr e10))
  by_cases hw:0≤x.reg (nth c i).b∧x.reg (nth c i).b<(x.words.length:Int)
  ·rw [main_10 e10 (hpos (by omega)),fixJ_lit (by decide) (by decide),execT_10t (x:= { x with pc:=(i:Int)+1 }) e10 hw,execT_10t (x:= { y with pc:=v }) rfl (by show 0≤y.reg _∧y.reg _<(y.words.length:Int);rw [r1];omega)]
   refine MainR.put H h hi (wr_a (by omega)) (hpos (by omega)) (by omega) hyf ?_
   rw [finds_nil (show ({ y with pc:=v } :TS).wait= [] from h.yw),finds_nil (show ({ x with pc:=(i:Int)+1 } :TS).wait= [] from h.xw)]
   show nth y.words (y.reg _).toNat=nth x.words (x.reg _).toNat
   rw [r1]
   exact h.w _ (by omega)
  ·rw [execT_10f (x:= { x with pc:=(i:Int)+1 }) e10 hw] at hf;cases hf
 by_cases e11:(nth c i).op=11
 ·obtain ⟨r1,r2⟩:=rd_ab H h hi hl e11
  by_cases hw:0≤x.reg (nth c i).a∧x.reg (nth c i).a<(x.words.length:Int)
  ·rw [main_11 e11,fixJ_lit (by decide) (by decide),execT_11t (x:= { x with pc:=(i:Int)+1 }) e11 hw,execT_11t (x:= { y with pc:=v }) rfl (by show 0≤y.reg _∧y.reg _<(y.words.length:Int);rw [r1];omega),store_0,store_0]
   rw [show ({ y with pc:=v } :TS).reg (⟨11,colr cl (nth c i).a 6,colr cl (nth c i).b 7,(nth c i).c⟩:Ins).a=x.reg (nth c i).a from r1,show ({ y with pc:=v } :TS).reg (⟨11,colr cl (nth c i).a 6,colr cl (nth c i).b 7,(nth c i).c⟩:Ins).b=x.reg (nth c i).b from r2]
   exact MainR.no (x:= { x with words:=x.words.set (x.reg (nth c i).a).toNat (x.reg (nth c i).b) }) (y:= { y with words:=y.words.set (x.reg (nth c i).a).toNat (x.reg (nth c i).b) }) H (h.word H (by omega)) hi (by rw [wr_n (by omega)];decide) (by omega) hyf (word_fr (by omega) (by omega))
  ·rw [execT_11f (x:= { x with pc:=(i:Int)+1 }) e11 hw] at hf;cases hf
 by_cases e13:(nth c i).op=13
 ·have ha:=hI.o13 e13
  obtain ⟨r1,r2⟩:=rd_bc H h hi hl (.inr e13)
  have hwa:=h.w (nth c i).a.toNat (by omega)
  rw [main_13 e13,fixJ_lit (by decide) (by decide)]
  by_cases hw:nth x.words (nth c i).a.toNat=x.reg (nth c i).b
  ·rw [execT_13t (x:= { x with pc:=(i:Int)+1 }) e13 hw,execT_13t (x:= { y with pc:=v }) rfl (by show nth y.words _=y.reg _;rw [r1,←hw];exact hwa)]
   have h2:=h.word H (v:=x.reg (nth c i).c) ha.1
   have:=MainR.put (pl:=pl) (v:=v) (val:=1) (val2:=1) H h2 hi (wr_b e13) ha.2.1.1 (by omega) hyf rfl (y0:=y) (word_fr (by omega) (by omega))
   have e:({ y with pc:=v } :TS).reg (⟨13,(nth c i).a,colr cl (nth c i).b 6,colr cl (nth c i).c 7⟩:Ins).c=x.reg (nth c i).c:=r2
   rw [e]
   exact this
  ·rw [execT_13f (x:= { x with pc:=(i:Int)+1 }) e13 hw,execT_13f (x:= { y with pc:=v }) rfl (by show¬nth y.words _=y.reg _;rw [r1];exact fun h9=>hw (hwa.symm.trans h9))]
   exact MainR.put H h hi (wr_b e13) ha.2.1.1 (by omega) hyf rfl
 by_cases e14:(nth c i).op=14
 ·have hj:=(H.jmp i hi).1 e14
  rw [main_14 e14,execT_14 e14]
  have ef:fixJ pl (nth c i)= { nth c i with a:=(pl (nth c i).a.toNat:Int) } :=by unfold fixJ;rw [if_pos e14]
  rw [ef,execT_jump e14]
  exact MainR.jmp H h hi (by rw [wr_n (by omega)];decide) hj.1 (by unfold nextsL;rw [if_pos e14];simp) hyf
 by_cases e15:(nth c i).op=15
 ·have hj:=(H.jmp i hi).2 e15
  have r1:=rd_a H h hi hl (.inl e15)
  rw [main_15 e15]
  have ef:fixJ pl (⟨15,colr cl (nth c i).a 6,(nth c i).b,(nth c i).c⟩:Ins)=⟨15,colr cl (nth c i).a 6,(pl (nth c i).b.toNat:Int),(nth c i).c⟩:=by unfold fixJ;rw [if_neg (by show¬(15:Int)=14;decide),if_pos rfl]
  rw [ef]
  by_cases hz:x.reg (nth c i).a=0
  ·rw [execT_15t (x:= { x with pc:=(i:Int)+1 }) e15 hz,execT_15t (x:= { y with pc:=v }) rfl (by show y.reg _=0;rw [r1];exact hz)]
   exact MainR.jmp H h hi (by rw [wr_n (by omega)];decide) hj.1 (by unfold nextsL;rw [if_neg e14,if_pos e15];simp) hyf
  ·rw [execT_15f (x:= { x with pc:=(i:Int)+1 }) e15 hz,execT_15f (x:= { y with pc:=v }) rfl (by show¬y.reg _=0;rw [r1];exact hz)]
   exact MainR.no H h hi (by rw [wr_n (by omega)];decide) (by omega) hyf
 by_cases e16:(nth c i).op=16
 ·have r1:=rd_a H h hi hl (.inr e16)
  rw [main_16 e16,fixJ_lit (by decide) (by decide),execT_16 e16,execT_16 rfl]
  have e:({ y with pc:=v } :TS).reg (⟨16,colr cl (nth c i).a 6,(nth c i).b,(nth c i).c⟩:Ins).a=x.reg (nth c i).a:=r1
  rw [e]
  exact MainR.no (x:= { x with prints:=x.prints++ [(t:Int),x.reg (nth c i).a] }) (y:= { y with prints:=y.prints++ [(t:Int),x.reg (nth c i).a] }) H ⟨h.w,h.wl,h.xl,h.o,by show y.prints++_=x.prints++_;rw [h.p],h.xw,h.yw,h.rl,h.xr,h.col,h.sp⟩ hi (by rw [wr_n (by omega)];decide) (by omega) hyf
 by_cases e17:(nth c i).op=17
 ·rw [main_17 e17,fixJ_no (by omega) (by omega),execT_17 e17,execT_17 e17]
  exact MainR.no (x:= { x with owner:=x.owner.set (nth c i).a.toNat t }) (y:= { y with owner:=y.owner.set (nth c i).a.toNat t }) H ⟨h.w,h.wl,h.xl,by show y.owner.set _ _=x.owner.set _ _;rw [h.o],h.p,h.xw,h.yw,h.rl,h.xr,h.col,h.sp⟩ hi (by rw [wr_n (by omega)];decide) (by omega) hyf
 by_cases e18:(nth c i).op=18
 ·rw [main_18 e18,fixJ_no (by omega) (by omega)]
  by_cases hw1:nth x.owner (nth c i).a.toNat≠(t:Int)
  ·rw [execT_18a (x:= { x with pc:=(i:Int)+1 }) e18 hw1] at hf;cases hf
  ·rw [execT_18c (x:= { x with pc:=(i:Int)+1 }) e18 hw1 (holds_nil h.xw _),execT_18c (x:= { y with pc:=v }) e18 (by show¬nth y.owner _≠(t:Int);rw [h.o];exact hw1) (holds_nil h.yw _)]
   exact MainR.no (x:= { x with owner:=x.owner.set (nth c i).a.toNat (-1) }) (y:= { y with owner:=y.owner.set (nth c i).a.toNat (-1) }) H ⟨h.w,h.wl,h.xl,by show y.owner.set _ _=x.owner.set _ _;rw [h.o],h.p,h.xw,h.yw,h.rl,h.xr,h.col,h.sp⟩ hi (by rw [wr_n (by omega)];decide) (by omega) hyf
 have e12:(nth c i).op=12:=by omega
 rw [main_12 e12,fixJ_no e14 e15,execT_no ⟨e1,e2,e3,e4,e5,e6,e7,e8,e9,e10,e11,e13,e14,e15,e16,e17,e18⟩,execT_no ⟨e1,e2,e3,e4,e5,e6,e7,e8,e9,e10,e11,e13,e14,e15,e16,e17,e18⟩]
 exact MainR.no H h hi (by rw [wr_n (by omega)];decide) e14 hyf
theorem main_fell (h:Vx cl wd n tot R f i (-1) x y)(h10:(nth c i).op≠10)(h11:(nth c i).op≠11)(hxf:x.fell=false)(hf:(execT 0 t (nth c i) { x with pc:=(i:Int)+1 }).fell=true):
  (execT 0 t (fixJ pl (mainI cl (nth c i))) { y with pc:=v }).fell=true∧(execT 0 t (fixJ pl (mainI cl (nth c i))) { y with pc:=v }).prints=(execT 0 t (nth c i) { x with pc:=(i:Int)+1 }).prints:=by
 by_cases e18:(nth c i).op=18
 ·rw [main_18 e18,fixJ_no (by omega) (by omega)]
  by_cases hw1:nth x.owner (nth c i).a.toNat≠(t:Int)
  ·rw [execT_18a (x:= { x with pc:=(i:Int)+1 }) e18 hw1,execT_18a (x:= { y with pc:=v }) e18 (by show nth y.owner _≠(t:Int);rw [h.o];exact hw1)]
   exact ⟨rfl,h.p⟩
  ·rw [execT_18c (x:= { x with pc:=(i:Int)+1 }) e18 hw1 (holds_nil h.xw _)] at hf
   have:(TS.store 0 ({ x with pc:=(i:Int)+1 } :TS) ⟨true,(nth c i).a,0⟩).fell=x.fell:=rfl
   rw [this,hxf] at hf;cases hf
 ·exfalso
  have key:(execT 0 t (nth c i) { x with pc:=(i:Int)+1 }).fell=x.fell:=by
   by_cases e1:(nth c i).op=1
   ·rw [execT_1 e1];rfl
   by_cases e2:(nth c i).op=2
   ·rw [execT_2 e2];rfl
   by_cases e3:(nth c i).op=3
   ·rw [execT_3 e3];rfl
   by_cases e4:(nth c i).op=4
   ·rw [execT_4 e4];rfl
   by_cases e5:(nth c i).op=5
   ·rw [execT_5 e5];rfl
   by_cases e6:(nth c i).op=6
   ·rw [execT_6 e6];rfl
   by_cases e7:(nth c i).op=7
   ·rw [execT_7 e7];rfl
   by_cases e8:(nth c i).op=8
   ·rw [execT_8 e8];rfl
   by_cases e9:(nth c i).op=9
   ·rw [execT_9 e9];rfl
   by_cases e13:(nth c i).op=13
   ·by_cases hw:nth x.words (nth c i).a.toNat=x.reg (nth c i).b
    ·rw [execT_13t (x:= { x with pc:=(i:Int)+1 }) e13 hw]
    ·rw [execT_13f (x:= { x with pc:=(i:Int)+1 }) e13 hw];rfl
   by_cases e14:(nth c i).op=14
   ·rw [execT_14 e14]
   by_cases e15:(nth c i).op=15
   ·by_cases hz:x.reg (nth c i).a=0
    ·rw [execT_15t (x:= { x with pc:=(i:Int)+1 }) e15 hz]
    ·rw [execT_15f (x:= { x with pc:=(i:Int)+1 }) e15 hz]
   by_cases e16:(nth c i).op=16
   ·rw [execT_16 e16]
   by_cases e17:(nth c i).op=17
   ·rw [execT_17 e17]
   rw [execT_no ⟨e1,e2,e3,e4,e5,e6,e7,e8,e9,h10,h11,e13,e14,e15,e16,e17,e18⟩]
  rw [key,hxf] at hf;cases hf
theorem main_able (H:Ctx c cl wd n tot R f)(h:Vx cl wd n tot R f i (-1) x y)(hi:i<c.length):ableL y.owner 0 (fixJ pl (mainI cl (nth c i)))=ableL x.owner 0 (nth c i):=by
 have hop:(fixJ pl (mainI cl (nth c i))).op=(nth c i).op:=by unfold fixJ;split;exact main_op;split;exact main_op;exact main_op
 unfold ableL
 rw [hop,h.o]
 by_cases e17:(nth c i).op=17
 ·rw [main_17 e17,fixJ_no (by omega) (by omega)]
 ·simp only [e17,if_false]
end
theorem putU_upto (B:List (List Ins))(code:List Ins):∀n,n≤B.length→(putUpto B code n).length=placeL B n∧∀i k,i<n→k<(nth B i).length→nth (putUpto B code n) (placeL B i+k)=fixIns B code i (nth (nth B i) k)∧placeL B i+k<placeL B n
 |0,_=>⟨by simp [putUpto,placeL],fun i k hi=>absurd hi (by omega)⟩
 |n+1,h=>by
  obtain ⟨h1,h2⟩:=putU_upto B code n (by omega)
  have hp:=placeL_succ B n (by omega)
  rw [putUpto_succ]
  refine ⟨by rw [List.length_append,h1,hp,List.length_map],fun i k hi hk=> ?_⟩
  rcases Nat.lt_or_ge i n with hlt|hge
  ·obtain ⟨e1,e2⟩:=h2 i k hlt hk
   have e:∀(l m:List Ins) (j:Nat),j<l.length→nth (l++m) j=nth l j:=fun l m j hj=>by simp [nth,List.getD,List.getElem?_append_left hj]
   exact ⟨by rw [e _ _ _ (by rw [h1];exact e2)];exact e1,by omega⟩
  ·obtain rfl:i=n:=by omega
   have e:∀(l m:List Ins) (j:Nat),nth (l++m) (l.length+j)=nth m j:=fun l m j=>by simp [nth,List.getD,List.getElem?_append_right]
   refine ⟨?_,by omega⟩
   rw [←h1,e,nth_map' _ _ _ hk]
def nL (cl wd:List Int)(x:Ins):Nat:=(ldL cl wd x (rdG x).length).length
theorem ldL_mono {cl wd:List Int}{x:Ins}{k m:Nat}(h:k≤m):(ldL cl wd x k).length≤(ldL cl wd x m).length:=by
 induction h with
 |refl=>exact Nat.le_refl _
 |step _ ih=>rw [ldL_succ,List.length_append];omega
theorem ldL_lt {cl wd:List Int}{x:Ins}{k m:Nat}(h:k<m)(hc:nth cl (nth (rdG x) k).toNat<0):(ldL cl wd x k).length<(ldL cl wd x m).length:=by
 have h1:=ldL_mono (cl:=cl) (wd:=wd) (x:=x) (show k+1≤m by omega)
 have h2:(ldL cl wd x (k+1)).length=(ldL cl wd x k).length+1:=by rw [ldL_succ,List.length_append];unfold ldK;rw [if_pos hc];rfl
 omega
theorem ldL_at {cl wd:List Int}{x:Ins} :∀m j,j<(ldL cl wd x m).length→∃k,k<m∧nth cl (nth (rdG x) k).toNat<0∧(ldL cl wd x k).length=j∧nth (ldL cl wd x m) j=⟨8,((6+k:Nat):Int),nth wd (nth (rdG x) k).toNat,0⟩
 |0,j,h=>absurd h (by simp [ldL])
 |m+1,j,h=>by
  rw [ldL_succ,List.length_append] at h
  rw [ldL_succ]
  rcases Nat.lt_or_ge j (ldL cl wd x m).length with hj|hj
  ·obtain ⟨k,h1,h2,h3,h4⟩:=ldL_at m j hj
   exact ⟨k,by omega,h2,h3,by rw [←h4];simp [nth,List.getD,List.getElem?_append_left hj]⟩
  ·by_cases hc:nth cl (nth (rdG x) m).toNat<0
   ·have e:ldK cl wd x m= [⟨8,((6+m:Nat):Int),nth wd (nth (rdG x) m).toNat,0⟩]:=by unfold ldK;rw [if_pos hc]
    rw [e] at h⊢
    have:j=(ldL cl wd x m).length:=by simp at h;omega
    subst this
    exact ⟨m,by omega,hc,rfl,by simp [nth,List.getD]⟩
   ·have e:ldK cl wd x m= []:=by unfold ldK;rw [if_neg hc]
    rw [e] at h;simp at h;omega
section
variable {c:List Ins}{cl:List Int}{b R:Nat}{i k:Nat}
def plA (c:List Ins)(cl:List Int)(b R i:Nat):Nat:=placeL (apL c cl b R) i
theorem apL_len :(apL c cl b R).length=c.length:=by simp [apL]
theorem apL_nth (h:i<c.length):nth (apL c cl b R) i=paintL cl (wdF cl b R) (nth c i):=nth_mapR h
theorem paint_len {wd:List Int}{x:Ins} :(paintL cl wd x).length=nL cl wd x+1+if 0≤exW cl x then 1 else 0:=by
 unfold paintL nL exW
 rw [List.length_append,List.length_cons]
 by_cases h:0≤wrG x∧nth cl (wrG x).toNat<0
 ·rw [if_pos h,if_pos h,if_pos h.1];simp
 ·rw [if_neg h,if_neg h,if_neg (by decide)];simp
theorem apT_len :(apT c cl b R).length=plA c cl b R c.length:=(putU_upto _ _ _ (by rw [apL_len];exact Nat.le_refl _)).1
theorem plA_0 :plA c cl b R 0=0:=by simp [plA,placeL]
theorem plA_succ (h:i<c.length):plA c cl b R (i+1)=plA c cl b R i+nL cl (wdF cl b R) (nth c i)+1+if 0≤exW cl (nth c i) then 1 else 0:=by
 unfold plA
 rw [placeL_succ _ _ (by rw [apL_len];exact h),apL_nth h,paint_len];omega
theorem apT_at (h:i<c.length)(hk:k<(paintL cl (wdF cl b R) (nth c i)).length):nth (apT c cl b R) (plA c cl b R i+k)=fixIns (apL c cl b R) c i (nth (paintL cl (wdF cl b R) (nth c i)) k)∧plA c cl b R i+k<(apT c cl b R).length:=by
 have h1:=(putU_upto (apL c cl b R) c c.length (by rw [apL_len];exact Nat.le_refl _)).2 i k h (by rw [apL_nth h];exact hk)
 rw [apL_nth h] at h1
 rw [apT_len]
 exact h1
theorem fixU_no {B:List (List Ins)}{c:List Ins}{i:Nat}{x:Ins}(h:x.op≠14)(h' :x.op≠15):fixIns B c i x=x:=by
 unfold fixIns;rw [if_neg (fun e=>h e.1),if_neg (fun e=>h' e.1),if_neg (fun e=>h' e.1)]
theorem apT_ld {j:Nat}(h:i<c.length)(hj:j<nL cl (wdF cl b R) (nth c i)):∃k,k<(rdG (nth c i)).length∧nth cl (nth (rdG (nth c i)) k).toNat<0∧(ldL cl (wdF cl b R) (nth c i) k).length=j∧nth (apT c cl b R) (plA c cl b R i+j)=⟨8,((6+k:Nat):Int),nth (wdF cl b R) (nth (rdG (nth c i)) k).toNat,0⟩∧plA c cl b R i+j<(apT c cl b R).length:=by
 obtain ⟨k,h1,h2,h3,h4⟩:=ldL_at _ j hj
 obtain ⟨h5,h6⟩:=apT_at (cl:=cl) (k:=j) (b:=b) (R:=R) h (by rw [paint_len];omega)
 refine ⟨k,h1,h2,h3, ?_,h6⟩
 rw [h5]
 have e:nth (paintL cl (wdF cl b R) (nth c i)) j=nth (ldL cl (wdF cl b R) (nth c i) (rdG (nth c i)).length) j:=by
  unfold paintL
  have hj' :j<(ldL cl (wdF cl b R) (nth c i) (rdG (nth c i)).length).length:=hj
  have e9:∀(l m:List Ins),j<l.length→nth (l++m) j=nth l j:=fun l m h9=>by simp [nth,List.getD,List.getElem?_append_left h9]
  exact e9 _ _ hj'
 rw [e,h4]
 exact fixU_no (by show (8:Int)≠14;decide) (by show (8:Int)≠15;decide)
theorem apT_mn (h:i<c.length):nth (apT c cl b R) (plA c cl b R i+nL cl (wdF cl b R) (nth c i))=fixJ (plA c cl b R) (mainI cl (nth c i))∧plA c cl b R i+nL cl (wdF cl b R) (nth c i)<(apT c cl b R).length:=by
 obtain ⟨h5,h6⟩:=apT_at (cl:=cl) (k:=nL cl (wdF cl b R) (nth c i)) (b:=b) (R:=R) h (by rw [paint_len];omega)
 refine ⟨?_,h6⟩
 rw [h5]
 have e:nth (paintL cl (wdF cl b R) (nth c i)) (nL cl (wdF cl b R) (nth c i))=mainI cl (nth c i):=by
  unfold paintL nL mainI
  simp [nth,List.getD]
 rw [e]
 have hop:(mainI cl (nth c i)).op=(nth c i).op:=main_op
 unfold fixIns fixJ
 by_cases e14:(nth c i).op=14
 ·rw [if_pos ⟨hop.trans e14, .inl e14⟩,if_pos (hop.trans e14)];rfl
 ·rw [if_neg (fun h9=>e14 (hop.symm.trans h9.1)),if_neg (fun h9=>e14 (hop.symm.trans h9))]
  by_cases e15:(nth c i).op=15
  ·rw [if_pos ⟨hop.trans e15,e15⟩,if_pos (hop.trans e15)];rfl
  ·rw [if_neg (fun h9=>e15 h9.2),if_neg (fun h9=>e15 (hop.symm.trans h9.1)),if_neg (fun h9=>e15 (hop.symm.trans h9))]
theorem apT_st (h:i<c.length)(he:0≤exW cl (nth c i)):nth (apT c cl b R) (plA c cl b R i+nL cl (wdF cl b R) (nth c i)+1)=⟨9,nth (wdF cl b R) (exW cl (nth c i)).toNat,6,0⟩∧plA c cl b R i+nL cl (wdF cl b R) (nth c i)+1<(apT c cl b R).length:=by
 obtain ⟨h5,h6⟩:=apT_at (cl:=cl) (k:=nL cl (wdF cl b R) (nth c i)+1) (b:=b) (R:=R) h (by rw [paint_len,if_pos he];omega)
 refine ⟨?_,h6⟩
 rw [←Nat.add_assoc] at h5
 rw [h5]
 have hw:0≤wrG (nth c i)∧nth cl (wrG (nth c i)).toNat<0:=by
  unfold exW at he
  by_cases h9:0≤wrG (nth c i)∧nth cl (wrG (nth c i)).toNat<0
  ·exact h9
  ·rw [if_neg h9] at he;exact absurd he (by decide)
 have e:nth (paintL cl (wdF cl b R) (nth c i)) (nL cl (wdF cl b R) (nth c i)+1)=⟨9,nth (wdF cl b R) (exW cl (nth c i)).toNat,6,0⟩:=by
  unfold paintL nL exW
  rw [if_pos hw,if_pos hw]
  have e2:∀(l:List Ins) (x y:Ins),nth (l++ [x,y]) (l.length+1)=y:=fun l x y=>by simp [nth,List.getD,List.getElem?_append_right]
  exact e2 _ _ _
 rw [e]
 exact fixU_no (by show (9:Int)≠14;decide) (by show (9:Int)≠15;decide)
end
def LdTo (cl wd:List Int)(ins:Ins)(j:Nat)(x y:TS):Prop:=∀k,k<(rdG ins).length→nth cl (nth (rdG ins) k).toNat<0→(ldL cl wd ins k).length<j→nth y.regs (6+k)=nth x.regs (nth (rdG ins) k).toNat
theorem LdTo.all {cl wd:List Int}{ins:Ins}{x y:TS}(h:LdTo cl wd ins (nL cl wd ins) x y):Lded cl ins x y:=fun k hk hc=>h k hk hc (ldL_lt hk hc)
inductive RelT (c:List Ins)(cl:List Int)(b n tot R:Nat)(f:Nat→Nat→Bool)(x y:TS):Prop
 |ld (i j:Nat) (hi:i<c.length) (hx:x.pc=(i:Int)) (hy:y.pc=((plA c cl b R i+j:Nat):Int)) (hj:j<nL cl (wdF cl b R) (nth c i)) (hv:Vx cl (wdF cl b R) n tot R f i (-1) x y) (hl:LdTo cl (wdF cl b R) (nth c i) j x y)
 |mn (i:Nat) (hi:i<c.length) (hx:x.pc=(i:Int)) (hy:y.pc=((plA c cl b R i+nL cl (wdF cl b R) (nth c i):Nat):Int)) (hv:Vx cl (wdF cl b R) n tot R f i (-1) x y) (hl:Lded cl (nth c i) x y)
 |en (hx:x.pc=(c.length:Int)) (hy:y.pc=((plA c cl b R c.length:Nat):Int)) (hv:Vx cl (wdF cl b R) n tot R f c.length (-1) x y)
 |st (i:Nat) (hi:i<c.length) (hx:x.pc=((i+1:Nat):Int)) (he:0≤exW cl (nth c i)) (hy:y.pc=((plA c cl b R i+nL cl (wdF cl b R) (nth c i)+1:Nat):Int)) (hv:Vx cl (wdF cl b R) n tot R f (i+1) (exW cl (nth c i)) x y) (h6:nth y.regs 6=nth x.regs (exW cl (nth c i)).toNat)
section
variable {c:List Ins}{cl:List Int}{b n tot R L:Nat}{f:Nat→Nat→Bool}{i j k:Nat}{x y:TS}{t:Nat}
theorem RelT.at_ (hi:i≤c.length)(hx:x.pc=(i:Int))(hy:y.pc=((plA c cl b R i:Nat):Int))(hv:Vx cl (wdF cl b R) n tot R f i (-1) x y):RelT c cl b n tot R f x y:=by
 rcases Nat.lt_or_ge i c.length with h|h
 ·rcases Nat.eq_zero_or_pos (nL cl (wdF cl b R) (nth c i)) with h0|h0
  ·refine .mn i h hx (by rw [h0];exact hy) hv (LdTo.all (wd:=wdF cl b R) ?_)
   rw [h0]
   exact fun k _ _ h9=>absurd h9 (Nat.not_lt_zero _)
  ·exact .ld i 0 h hx hy h0 hv fun k _ _ h9=>absurd h9 (Nat.not_lt_zero _)
 ·obtain rfl:i=c.length:=by omega
  exact .en hx hy hv
theorem RelT.vx (h:RelT c cl b n tot R f x y):∃i ex,Vx cl (wdF cl b R) n tot R f i ex x y:=by
 rcases h with ⟨i,j,_,_,_,_,hv,_⟩|⟨i,_,_,_,hv,_⟩|⟨_,_,hv⟩|⟨i,_,_,_,_,hv,_⟩<;>exact ⟨_,_,hv⟩
theorem RelT.frame {xw yw o pr:List Int}(h:RelT c cl b n tot R f x y)(hw:∀k,k<n→nth yw k=nth xw k)(hyl:yw.length=n+tot)(hxl:xw.length=n)(hs:∀r,r<R→nth cl r<0→nth yw (nth (wdF cl b R) r).toNat=nth y.words (nth (wdF cl b R) r).toNat):
  RelT c cl b n tot R f ⟨x.pc,x.regs,x.wait,xw,o,pr,false⟩ ⟨y.pc,y.regs,y.wait,yw,o,pr,false⟩:=by
 have key:∀ {i ex},Vx cl (wdF cl b R) n tot R f i ex x y→Vx cl (wdF cl b R) n tot R f i ex ⟨x.pc,x.regs,x.wait,xw,o,pr,false⟩ ⟨y.pc,y.regs,y.wait,yw,o,pr,false⟩:=fun hv=>
  ⟨hw,hyl,hxl,rfl,rfl,hv.xw,hv.yw,hv.rl,hv.xr,hv.col,fun r hr he hc=>(hs r hr hc).trans (hv.sp r hr he hc)⟩
 rcases h with ⟨i,j,hi,hx,hy,hj,hv,hl⟩|⟨i,hi,hx,hy,hv,hl⟩|⟨hx,hy,hv⟩|⟨i,hi,hx,he,hy,hv,h6⟩
 ·exact .ld i j hi hx hy hj (key hv) hl
 ·exact .mn i hi hx hy (key hv) hl
 ·exact .en hx hy (key hv)
 ·exact .st i hi hx he hy (key hv) h6
theorem Vx.temp {wd:List Int}{ex:Int}(H:Ctx c cl wd n tot R f)(h:Vx cl wd n tot R f i ex x y)(k:Nat)(v:Int):Vx cl wd n tot R f i ex x (y.put ((6+k:Nat):Int) v):=by
 refine ⟨h.w,h.wl,h.xl,h.o,h.p,h.xw,h.yw,by show (y.regs.set _ _).length=8;rw [List.length_set];exact h.rl,h.xr,fun r hr hf hc=> ?_,h.sp⟩
 have:=H.rng r hr
 show nth (y.regs.set _ _) _=_
 rw [nth_set0,if_neg (by omega)]
 exact h.col r hr hf hc
theorem Vx.pcr {wd:List Int}{ex:Int}(h:Vx cl wd n tot R f i ex x y)(v:Int):Vx cl wd n tot R f i ex x { y with pc:=v } :=⟨h.w,h.wl,h.xl,h.o,h.p,h.xw,h.yw,h.rl,h.xr,h.col,h.sp⟩
theorem wdF_nth {r:Nat}(hr:r<R)(hc:nth cl r<0):nth (wdF cl b R) r=((b+nSp cl r:Nat):Int):=by
 unfold wdF;rw [nth_mapR hr,if_pos hc]
theorem ld_stepA (H:Ctx c cl (wdF cl b R) n tot R f)(hi:i<c.length)(hx:x.pc=(i:Int))(hj:j<nL cl (wdF cl b R) (nth c i))(hv:Vx cl (wdF cl b R) n tot R f i (-1) x y)(hl:LdTo cl (wdF cl b R) (nth c i) j x y)(hy:y.fell=false):
  (execT 0 t (nth (apT c cl b R) (plA c cl b R i+j)) { y with pc:=((plA c cl b R i+j:Nat):Int)+1 }).fell=false∧(execT 0 t (nth (apT c cl b R) (plA c cl b R i+j)) { y with pc:=((plA c cl b R i+j:Nat):Int)+1 }).words=y.words∧RelT c cl b n tot R f x (execT 0 t (nth (apT c cl b R) (plA c cl b R i+j)) { y with pc:=((plA c cl b R i+j:Nat):Int)+1 }):=by
 obtain ⟨k,h1,h2,h3,h4,h5⟩:=apT_ld (b:=b) (R:=R) hi hj
 rw [h4,execT_8 rfl]
 have hr:=(H.okv i hi).2.2.2 _ (nth_mem (rdG (nth c i)) k h1)
 have hval:({ y with pc:=((plA c cl b R i+j:Nat):Int)+1 } :TS).finds (nth (wdF cl b R) (nth (rdG (nth c i)) k).toNat)=nth x.regs (nth (rdG (nth c i)) k).toNat:=by
  rw [finds_nil (show ({ y with pc:=((plA c cl b R i+j:Nat):Int)+1 } :TS).wait= [] from hv.yw)]
  exact hv.sp _ (by omega) (by omega) h2
 have hvv:=(hv.pcr (((plA c cl b R i+j:Nat):Int)+1)).temp H k (nth x.regs (nth (rdG (nth c i)) k).toNat)
 have hrl:=hv.rl
 have h62:6+k<8:=by have:=rdG_len (nth c i);omega
 have hll:LdTo cl (wdF cl b R) (nth c i) (j+1) x (({ y with pc:=((plA c cl b R i+j:Nat):Int)+1 } :TS).put ((6+k:Nat):Int) (nth x.regs (nth (rdG (nth c i)) k).toNat)):=by
  intro k' hk' hc' hlt
  show nth (y.regs.set _ _) _=_
  rw [nth_setZ _ _ _ _ (by omega),Int.toNat_natCast]
  by_cases e:k' =k
  ·subst e;rw [if_pos rfl]
  ·rw [if_neg (by omega)]
   refine hl k' hk' hc' ?_
   rcases Nat.lt_or_ge k' k with h9|h9
   ·have:=ldL_lt (wd:=wdF cl b R) h9 hc';omega
   ·have:=ldL_lt (wd:=wdF cl b R) (show k<k' by omega) h2;omega
 refine ⟨hy,rfl, ?_⟩
 show RelT c cl b n tot R f x (({ y with pc:=((plA c cl b R i+j:Nat):Int)+1 } :TS).put ((6+k:Nat):Int) (({ y with pc:=((plA c cl b R i+j:Nat):Int)+1 } :TS).finds _))
 rw [hval]
 rcases Nat.lt_or_ge (j+1) (nL cl (wdF cl b R) (nth c i)) with h9|h9
 ·exact .ld i (j+1) hi hx (by show ((plA c cl b R i+j:Nat):Int)+1=_;omega) h9 hvv hll
 ·have e:j+1=nL cl (wdF cl b R) (nth c i):=by omega
  exact .mn i hi hx (by show ((plA c cl b R i+j:Nat):Int)+1=_;omega) hvv (LdTo.all (by rw [←e];exact hll))
theorem st_stepA (H:Ctx c cl (wdF cl b R) n tot R f)(hi:i<c.length)(hx:x.pc=((i+1:Nat):Int))(he:0≤exW cl (nth c i))(hv:Vx cl (wdF cl b R) n tot R f (i+1) (exW cl (nth c i)) x y)(h6:nth y.regs 6=nth x.regs (exW cl (nth c i)).toNat)(hy:y.fell=false):
  ∃r,r<R∧nth cl r<0∧execT 0 t (nth (apT c cl b R) (plA c cl b R i+nL cl (wdF cl b R) (nth c i)+1)) { y with pc:=((plA c cl b R i+nL cl (wdF cl b R) (nth c i)+1:Nat):Int)+1 } = { y with pc:=((plA c cl b R (i+1):Nat):Int),words:=y.words.set (nth (wdF cl b R) r).toNat (nth x.regs r) }∧
   RelT c cl b n tot R f x { y with pc:=((plA c cl b R (i+1):Nat):Int),words:=y.words.set (nth (wdF cl b R) r).toNat (nth x.regs r) } :=by
 have hw:0≤wrG (nth c i)∧nth cl (wrG (nth c i)).toNat<0∧exW cl (nth c i)=wrG (nth c i):=by
  unfold exW at he⊢
  by_cases h9:0≤wrG (nth c i)∧nth cl (wrG (nth c i)).toNat<0
  ·rw [if_pos h9];exact ⟨h9.1,h9.2,rfl⟩
  ·rw [if_neg h9] at he;exact absurd he (by decide)
 have hb:=(H.okv i hi).2.2.1.2
 have hr:(exW cl (nth c i)).toNat<R:=by rw [hw.2.2];omega
 have hc:nth cl (exW cl (nth c i)).toNat<0:=by rw [hw.2.2];exact hw.2.1
 have hp:=plA_succ (cl:=cl) (b:=b) (R:=R) hi
 rw [if_pos he] at hp
 refine ⟨(exW cl (nth c i)).toNat,hr,hc, ?_, ?_⟩
 ·rw [(apT_st (b:=b) (R:=R) hi he).1,execT_9 rfl,store_0]
  have e1:({ y with pc:=((plA c cl b R i+nL cl (wdF cl b R) (nth c i)+1:Nat):Int)+1 } :TS).reg (⟨9,nth (wdF cl b R) (exW cl (nth c i)).toNat,6,0⟩:Ins).b=nth x.regs (exW cl (nth c i)).toNat:=h6
  rw [e1]
  have e2:((plA c cl b R i+nL cl (wdF cl b R) (nth c i)+1:Nat):Int)+1=((plA c cl b R (i+1):Nat):Int):=by omega
  simp only [e2]
 ·have hwd:=H.wdr _ hr hc
  have hyl:=hv.wl
  refine RelT.at_ (i:=i+1) (by omega) hx rfl ⟨fun k hk=> ?_,by show (y.words.set _ _).length=_;rw [List.length_set];exact hyl,hv.xl,hv.o,hv.p,hv.xw,hv.yw,hv.rl,hv.xr,hv.col,fun r hr2 _ hc2=> ?_⟩
  ·show nth (y.words.set _ _) k=_
   rw [nth_setZ _ _ _ _ (by omega),if_neg (by omega)];exact hv.w k hk
  ·show nth (y.words.set _ _) _=_
   rw [nth_setZ _ _ _ _ (by omega)]
   have hwd2:=H.wdr r hr2 hc2
   by_cases e:r=(exW cl (nth c i)).toNat
   ·subst e;rw [if_pos rfl]
   ·rw [if_neg (fun h9=>e (H.inj _ _ hr2 hr hc2 hc (by omega)))]
    exact hv.sp r hr2 (by omega) hc2
theorem mn_stepA (H:Ctx c cl (wdF cl b R) n tot R f)(hi:i<c.length)(hI:InsR R n L (nth c i))(hv:Vx cl (wdF cl b R) n tot R f i (-1) x y)(hl:Lded cl (nth c i) x y)(hxf:x.fell=false)(hyf:y.fell=false)(hf:(execT 0 t (nth c i) { x with pc:=(i:Int)+1 }).fell=false):
  (execT 0 t (nth (apT c cl b R) (plA c cl b R i+nL cl (wdF cl b R) (nth c i))) { y with pc:=((plA c cl b R i+nL cl (wdF cl b R) (nth c i):Nat):Int)+1 }).fell=false∧
  (∀k,n≤k→nth (execT 0 t (nth (apT c cl b R) (plA c cl b R i+nL cl (wdF cl b R) (nth c i))) { y with pc:=((plA c cl b R i+nL cl (wdF cl b R) (nth c i):Nat):Int)+1 }).words k=nth y.words k)∧
  RelT c cl b n tot R f (execT 0 t (nth c i) { x with pc:=(i:Int)+1 }) (execT 0 t (nth (apT c cl b R) (plA c cl b R i+nL cl (wdF cl b R) (nth c i))) { y with pc:=((plA c cl b R i+nL cl (wdF cl b R) (nth c i):Nat):Int)+1 }):=by
 rw [(apT_mn (b:=b) (R:=R) hi).1]
 obtain ⟨h1,h2,i',h3,h4,h5,h6,h7⟩:=main_step (t:=t) (pl:=plA c cl b R) (v:=((plA c cl b R i+nL cl (wdF cl b R) (nth c i):Nat):Int)+1) H hv hi hI hl hxf hyf hf
 refine ⟨h1,h2, ?_⟩
 have hi' :=nextsV_ok H.jmp hi h4
 have hp:=plA_succ (cl:=cl) (b:=b) (R:=R) hi
 by_cases he:0≤exW cl (nth c i)
 ·rw [if_pos he] at hp
  rcases h7 with ⟨h7,rfl⟩|⟨_,h8⟩
  ·exact .st i hi h3 he (by rw [h7];omega) h5 (h6 he)
  ·exfalso
   rw [exW_no h8] at he
   exact absurd he (by decide)
 ·rw [if_neg he] at hp
  have he1:exW cl (nth c i)= -1:=by
   unfold exW at he⊢
   split
   ·rename_i h9;rw [if_pos h9] at he;exact absurd h9.1 he
   ·rfl
  rw [he1] at h5
  rcases h7 with ⟨h7,rfl⟩|⟨h7,_⟩
  ·exact RelT.at_ (by omega) h3 (by rw [h7];omega) h5
  ·exact RelT.at_ (by omega) h3 h7 h5
end
def paintPg (p:Pg)(cl:Nat→List Int)(bs:Nat→Nat)(tot:Nat):Pg:=⟨(List.range p.code.length).map fun t=>apT (nth p.code t) (cl t) (bs t) p.regs.toNat,p.words++List.replicate tot 0,p.locks,8⟩
structure AllC (p:Pg)(cl:Nat→List Int)(bs:Nat→Nat)(tot:Nat)(f:Nat→Nat→Nat→Bool):Prop where
 ctx:∀t,t<p.code.length→Ctx (nth p.code t) (cl t) (wdF (cl t) (bs t) p.regs.toNat) p.words.length tot p.regs.toNat (f t)
 dis:∀t u r s,t<p.code.length→u<p.code.length→t≠u→r<p.regs.toNat→s<p.regs.toNat→nth (cl t) r<0→nth (cl u) s<0→(nth (wdF (cl t) (bs t) p.regs.toNat) r).toNat≠(nth (wdF (cl u) (bs u) p.regs.toNat) s).toNat
def RelA (p:Pg)(cl:Nat→List Int)(bs:Nat→Nat)(tot:Nat)(f:Nat→Nat→Nat→Bool)(s s' :MSt):Prop:=∀t,t<p.code.length→RelT (nth p.code t) (cl t) (bs t) p.words.length tot p.regs.toNat (f t) (s.view t) (s'.view t)
def Rdy (c:List Ins)(cl:List Int)(b R:Nat)(px py:Int):Prop:=(∃i:Nat,i<c.length∧px=(i:Int)∧py=((plA c cl b R i+nL cl (wdF cl b R) (nth c i):Nat):Int))∨(px=(c.length:Int)∧py=((plA c cl b R c.length:Nat):Int))
theorem stepU {q:Pg}{m:Int}{s:MSt}{t j:Nat}{ins:Ins}{c:List Ins}(hc:nth q.code t=c)(hp:(s.view t).pc=(j:Int))(hj:j<c.length)(e:nth c j=ins):
  stepT q m s t 0=execT m t ins { s.view t with pc:=(j:Int)+1 }∧mvOK m c (s.view t) 0=ableL s.owner (s.view t).wait.length ins:=by
 have hn:nextIns c (s.view t).pc=ins:=by rw [hp,nextIns_t (by omega)];simpa using e
 refine ⟨by rw [stepT_e,hc,hn,hp], ?_⟩
 unfold mvOK ableV
 rw [if_pos rfl,hn,decide_eq_true (show (s.view t).pc<(c.length:Int) by omega)]
 rfl
theorem putT_viewU {s:MSt}{t:Nat}(h:t<s.ths.length):s.putT t (s.view t)=s:=by
 cases s with
 |mk ths w o pr=>
  unfold MSt.putT MSt.view
  have:ths.set t ⟨(nth ths t).pc,(nth ths t).regs,(nth ths t).wait⟩=ths:=by
   refine ext_nth _ _ (by simp) fun i hi=> ?_
   rw [nth_set0]
   split
   ·rename_i e;rw [←e.1]
   ·rfl
  simp only [this]
theorem nofell {y:TS}(h:y.fell=false):({ y with fell:=false } :TS)=y:=by cases y;simp only at h;subst h;rfl
section
variable {p:Pg}{cl:Nat→List Int}{bs:Nat→Nat}{tot:Nat}{f:Nat→Nat→Nat→Bool}{s s' :MSt}{t:Nat}
theorem paintPg_len :(paintPg p cl bs tot).code.length=p.code.length:=by simp [paintPg]
theorem paintPg_code (h:t<p.code.length):nth (paintPg p cl bs tot).code t=apT (nth p.code t) (cl t) (bs t) p.regs.toNat:=nth_mapR h
theorem RelA.put (h:RelA p cl bs tot f s s')(hl:t<s.ths.length)(hl' :t<s'.ths.length){x1 y1:TS}(ht:t<p.code.length)(hT:RelT (nth p.code t) (cl t) (bs t) p.words.length tot p.regs.toNat (f t) x1 y1)(hx:x1.fell=false)(hy:y1.fell=false)
  (hfr:∀u,u<p.code.length→u≠t→∀r,r<p.regs.toNat→nth (cl u) r<0→nth y1.words (nth (wdF (cl u) (bs u) p.regs.toNat) r).toNat=nth s'.words (nth (wdF (cl u) (bs u) p.regs.toNat) r).toNat):RelA p cl bs tot f (s.putT t x1) (s'.putT t y1):=by
 intro u hu
 by_cases e:t=u
 ·subst e
  rw [putT_view hl,putT_view hl',nofell hx,nofell hy];exact hT
 ·rw [putT_other e,putT_other e]
  obtain ⟨i,ex,hv⟩:=hT.vx
  rw [hv.o,hv.p]
  exact (h u hu).frame hv.w hv.wl hv.xl fun r hr hc=>hfr u hu (fun h9=>e h9.symm) r hr hc
theorem begin_relA (H:AllC p cl bs tot f)(hok:OkPg p):RelA p cl bs tot f (begin_ p) (begin_ (paintPg p cl bs tot)):=by
 intro t ht
 have hC:=H.ctx t ht
 have e:∀(p:Pg) t,t<p.code.length→(begin_ p).view t=⟨0,List.replicate p.regs.toNat 0, [],p.words,List.replicate p.locks.toNat (-1), [],false⟩:=fun p t ht=>by
  have:nth (begin_ p).ths t=⟨0,List.replicate p.regs.toNat 0, []⟩:=nth_map' _ _ _ ht
  unfold MSt.view;rw [this];rfl
 rw [e p t ht,e (paintPg p cl bs tot) t (by rw [paintPg_len];exact ht)]
 have r0:∀(n k:Nat),nth (List.replicate n (0:Int)) k=0:=fun n k=>by
  simp only [nth,List.getD,List.getElem?_replicate]
  split<;>rfl
 refine RelT.at_ (i:=0) (Nat.zero_le _) rfl (by rw [plA_0];rfl) ⟨fun k hk=> ?_,by show (p.words++List.replicate tot 0).length=_;simp,rfl,rfl,rfl,rfl,rfl,rfl,by simp,fun r hr _ _=> ?_,fun r hr _ hc=> ?_⟩
 ·show nth (p.words++List.replicate tot 0) k=nth p.words k
  simp [nth,List.getD,List.getElem?_append_left hk]
 ·show nth (List.replicate _ (0:Int)) _=nth (List.replicate _ (0:Int)) _;rw [r0,r0]
 ·have:=hC.wdr r hr hc
  show nth (p.words++List.replicate tot 0) _=nth (List.replicate _ (0:Int)) _
  rw [r0]
  have e2:∀(l m:List Int) (k:Nat),l.length≤k→nth (l++m) k=nth m (k-l.length):=fun l m k hk=>by simp [nth,List.getD,List.getElem?_append_right hk]
  rw [e2 _ _ _ (by omega),r0]
def Own (p:Pg)(cl:Nat→List Int)(bs:Nat→Nat)(tot:Nat)(f:Nat→Nat→Nat→Bool)(s s' :MSt)(t:Nat):Prop:=
 mvOK 0 (nth (paintPg p cl bs tot).code t) (s'.view t) 0=true∧(stepT (paintPg p cl bs tot) 0 s' t 0).fell=false∧RelA p cl bs tot f s (s'.putT t (stepT (paintPg p cl bs tot) 0 s' t 0))∧(stepT (paintPg p cl bs tot) 0 s' t 0).pc=(s'.view t).pc+1∧(s'.view t).pc<(apT (nth p.code t) (cl t) (bs t) p.regs.toNat).length
def Both (p:Pg)(cl:Nat→List Int)(bs:Nat→Nat)(tot:Nat)(f:Nat→Nat→Nat→Bool)(s s' :MSt)(t i:Nat):Prop:=
 (s.view t).pc<((nth p.code t).length:Int)∧(s'.view t).pc<((apT (nth p.code t) (cl t) (bs t) p.regs.toNat).length:Int)∧(mvOK 0 (nth (paintPg p cl bs tot).code t) (s'.view t) 0=mvOK 0 (nth p.code t) (s.view t) 0)∧
 ((stepT p 0 s t 0).fell=true→(nth (nth p.code t) i).op≠10→(nth (nth p.code t) i).op≠11→(stepT (paintPg p cl bs tot) 0 s' t 0).fell=true∧(stepT (paintPg p cl bs tot) 0 s' t 0).prints=(stepT p 0 s t 0).prints)∧
 ((stepT p 0 s t 0).fell=false→(stepT (paintPg p cl bs tot) 0 s' t 0).fell=false∧RelA p cl bs tot f (s.putT t (stepT p 0 s t 0)) (s'.putT t (stepT (paintPg p cl bs tot) 0 s' t 0)))
theorem own_or (H:AllC p cl bs tot f)(hok:OkPg p)(hl:t<s.ths.length)(hl' :t<s'.ths.length)(ht:t<p.code.length)(h:RelA p cl bs tot f s s'):
  (Own p cl bs tot f s s' t∧¬Rdy (nth p.code t) (cl t) (bs t) p.regs.toNat (s.view t).pc (s'.view t).pc)∨(∃i,i<(nth p.code t).length∧(s.view t).pc=(i:Int)∧Rdy (nth p.code t) (cl t) (bs t) p.regs.toNat (s.view t).pc (s'.view t).pc∧Both p cl bs tot f s s' t i)∨
   ((s.view t).pc=((nth p.code t).length:Int)∧(s'.view t).pc=((apT (nth p.code t) (cl t) (bs t) p.regs.toNat).length:Int)∧Rdy (nth p.code t) (cl t) (bs t) p.regs.toNat (s.view t).pc (s'.view t).pc):=by
 have hC:=H.ctx t ht
 have hcq:=paintPg_code (p:=p) (cl:=cl) (bs:=bs) (tot:=tot) ht
 rcases h t ht with ⟨i,j,hi,hx,hy,hj,hv,hld⟩|⟨i,hi,hx,hy,hv,hld⟩|⟨hx,hy,hv⟩|⟨i,hi,hx,he,hy,hv,h6⟩
 ·left
  obtain ⟨k,_,_,_,h4,h5⟩:=apT_ld (b:=bs t) (R:=p.regs.toNat) hi hj
  obtain ⟨e1,e2⟩:=stepU (m:=0) hcq hy h5 rfl
  obtain ⟨g1,g2,g3⟩:=ld_stepA (t:=t) (b:=bs t) hC hi hx hj hv hld (rfl:(s'.view t).fell=false)
  rw [←e1] at g1 g2 g3
  have hpc:(stepT (paintPg p cl bs tot) 0 s' t 0).pc=(s'.view t).pc+1:=by rw [e1,h4,execT_8 rfl,hy];rfl
  refine ⟨⟨by rw [hcq,e2,hv.yw,h4];rfl,g1, ?_,hpc,by rw [hy];exact_mod_cast h5⟩, ?_⟩
  ·have:=h.put hl hl' ht g3 rfl g1 (fun u hu _ r hr hc=>by rw [g2];rfl)
   rwa [putT_viewU hl] at this
  ·rintro (⟨i2,h7,h8,h9⟩|⟨h8,h9⟩)
   ·obtain rfl:i2=i:=by omega
    omega
   ·omega
 ·right;left
  obtain ⟨g1,g2⟩:=apT_mn (cl:=cl t) (b:=bs t) (R:=p.regs.toNat) hi
  obtain ⟨e1,e2⟩:=stepU (m:=0) hcq hy g2 rfl
  obtain ⟨e3,e4⟩:=stepU (q:=p) (m:=0) rfl hx hi rfl
  have hI:=(hok.insR ht hi).1
  refine ⟨i,hi,hx, .inl ⟨i,hi,hx,hy⟩,by rw [hx];exact_mod_cast hi,by rw [hy];exact_mod_cast g2, ?_,fun hf h10 h11=> ?_,fun hf=> ?_⟩
  ·rw [hcq,e2,e4,hv.yw,hv.xw,g1]
   exact main_able hC hv hi
  ·rw [e3] at hf
   rw [e1,e3,g1]
   exact main_fell hv h10 h11 rfl hf
  ·rw [e3] at hf
   obtain ⟨k1,k2,k3⟩:=mn_stepA (t:=t) (b:=bs t) hC hi hI hv hld rfl rfl hf
   rw [←e1,←e3] at k3
   rw [←e1] at k1 k2
   refine ⟨k1,h.put hl hl' ht k3 (by rw [e3];exact hf) k1 fun u hu hne r hr hc=> ?_⟩
   have:=(H.ctx u hu).wdr r hr hc
   exact k2 _ (by omega)
 ·right;right
  exact ⟨hx,by rw [apT_len];exact hy, .inr ⟨hx,hy⟩⟩
 ·left
  have hp:=plA_succ (cl:=cl t) (b:=bs t) (R:=p.regs.toNat) hi
  rw [if_pos he] at hp
  obtain ⟨g1,g2⟩:=apT_st (b:=bs t) (R:=p.regs.toNat) hi he
  obtain ⟨e1,e2⟩:=stepU (m:=0) hcq hy g2 rfl
  obtain ⟨r0,hr0,hc0,k1,k2⟩:=st_stepA (t:=t) (b:=bs t) hC hi hx he hv h6 (rfl:(s'.view t).fell=false)
  rw [k1] at e1
  rw [←e1] at k2
  have hwd0:=hC.wdr r0 hr0 hc0
  have hyl:=hv.wl
  refine ⟨⟨by rw [hcq,e2,hv.yw,g1];rfl,by rw [e1];rfl, ?_,by rw [e1,hy];show ((plA _ _ _ _ (i+1):Nat):Int)=_;omega,by rw [hy];exact_mod_cast g2⟩, ?_⟩
  ·have:=h.put hl hl' ht k2 rfl (by rw [e1];rfl) (fun u hu hne r hr hc=>by
    rw [e1]
    have hyl' :s'.words.length=p.words.length+tot:=hyl
    show nth (s'.words.set _ _) _=_
    rw [nth_setZ _ _ _ _ (by omega),if_neg (H.dis u t r r0 hu ht hne hr hr0 hc hc0)])
   rwa [putT_viewU hl] at this
  ·rintro (⟨i2,h7,h8,h9⟩|⟨h8,h9⟩)
   ·obtain rfl:i2=i+1:=by omega
    omega
   ·have e:i+1=(nth p.code t).length:=by omega
    rw [e] at hp
    omega
theorem no_k (h:RelA p cl bs tot f s s')(ht:t<p.code.length){m:Int}{c:List Ins}{k:Nat} :(mvOK m c (s.view t) k=true→k=0)∧(mvOK m c (s'.view t) k=true→k=0):=by
 obtain ⟨i,ex,hv⟩:=(h t ht).vx
 constructor
 ·intro h2
  rcases mvOK_k h2 with ⟨h3,_⟩|⟨h3,h4,_⟩
  ·exact h3
  ·rw [hv.xw] at h4;simp at h4;omega
 ·intro h2
  rcases mvOK_k h2 with ⟨h3,_⟩|⟨h3,h4,_⟩
  ·exact h3
  ·rw [hv.yw] at h4;simp at h4;omega
theorem flush1 (H:AllC p cl bs tot f)(hok:OkPg p)(hq:OkPg (paintPg p cl bs tot))(hr:Reach p 0 s)(ht:t<p.code.length):∀(n:Nat) (s' :MSt),Reach (paintPg p cl bs tot) 0 s' →RelA p cl bs tot f s s' →((apT (nth p.code t) (cl t) (bs t) p.regs.toNat).length:Int)-(s'.view t).pc<n→
  ∃s2,Reach (paintPg p cl bs tot) 0 s2∧RelA p cl bs tot f s s2∧Rdy (nth p.code t) (cl t) (bs t) p.regs.toNat (s.view t).pc (s2.view t).pc∧∀u,u≠t→(s2.view u).pc=(s'.view u).pc
 |0,s',hr',h,hn=>by
  have hl' :=hr'.len hq (t:=t) (by rw [paintPg_len];exact ht)
  rcases own_or H hok (hr.len hok ht) hl' ht h with ⟨h1,_⟩|⟨i,_,_,h2,_⟩|⟨_,_,h2⟩
  ·have:=h1.2.2.2.2;omega
  ·exact ⟨s',hr',h,h2,fun _ _=>rfl⟩
  ·exact ⟨s',hr',h,h2,fun _ _=>rfl⟩
 |n+1,s',hr',h,hn=>by
  have ht' :t<(paintPg p cl bs tot).code.length:=by rw [paintPg_len];exact ht
  have hl' :=hr'.len hq ht'
  rcases own_or H hok (hr.len hok ht) hl' ht h with ⟨h1,_⟩|⟨i,_,_,h2,_⟩|⟨_,_,h2⟩
  ·obtain ⟨g1,g2,g3,g4,g5⟩:=h1
   have hpc:((s'.putT t (stepT (paintPg p cl bs tot) 0 s' t 0)).view t).pc=(s'.view t).pc+1:=by rw [putT_view hl'];exact g4
   obtain ⟨s2,k1,k2,k3,k4⟩:=flush1 H hok hq hr ht n _ (.step hr' ht' g1 g2) g3 (by rw [hpc];omega)
   exact ⟨s2,k1,k2,k3,fun u hu=>(k4 u hu).trans (by rw [putT_other (fun e=>hu e.symm)])⟩
  ·exact ⟨s',hr',h,h2,fun _ _=>rfl⟩
  ·exact ⟨s',hr',h,h2,fun _ _=>rfl⟩
theorem flush (H:AllC p cl bs tot f)(hok:OkPg p)(hq:OkPg (paintPg p cl bs tot))(hr:Reach p 0 s)(hr' :Reach (paintPg p cl bs tot) 0 s')(h:RelA p cl bs tot f s s'):∀m,m≤p.code.length→∃s2,Reach (paintPg p cl bs tot) 0 s2∧RelA p cl bs tot f s s2∧∀t,t<m→Rdy (nth p.code t) (cl t) (bs t) p.regs.toNat (s.view t).pc (s2.view t).pc
 |0,_=>⟨s',hr',h,fun t ht=>absurd ht (Nat.not_lt_zero _)⟩
 |m+1,hm=>by
  obtain ⟨s2,h1,h2,h3⟩:=flush H hok hq hr hr' h m (by omega)
  obtain ⟨s3,k1,k2,k3,k4⟩:=flush1 H hok hq hr (t:=m) (by omega) (((apT (nth p.code m) (cl m) (bs m) p.regs.toNat).length:Int)-(s2.view m).pc+1).toNat s2 h1 h2 (by omega)
  refine ⟨s3,k1,k2,fun t ht=> ?_⟩
  rcases Nat.lt_or_ge t m with h9|h9
  ·rw [k4 t (by omega)];exact h3 t h9
  ·obtain rfl:t=m:=by omega
   exact k3
def NoAdr (p:Pg):Prop:=(∀t i,t<p.code.length→i<(nth p.code t).length→(nth (nth p.code t) i).op≠10∧(nth (nth p.code t) i).op≠11)∨(∀s t k,Reach p 0 s→t<p.code.length→mvOK 0 (nth p.code t) (s.view t) k=true→(stepT p 0 s t k).fell=false)
theorem paint_fwd (H:AllC p cl bs tot f)(hok:OkPg p)(hq:OkPg (paintPg p cl bs tot))(hr:Reach p 0 s):∃s',Reach (paintPg p cl bs tot) 0 s' ∧RelA p cl bs tot f s s' :=by
 induction hr with
 |start=>exact ⟨_, .start,begin_relA H hok⟩
 |step hr ht hk hf ih=>
  rename_i s t k
  obtain ⟨s1,hr1,h1⟩:=ih
  obtain rfl:=(no_k h1 ht).1 hk
  obtain ⟨s2,k1,k2,k3,_⟩:=flush1 H hok hq hr ht (((apT (nth p.code t) (cl t) (bs t) p.regs.toNat).length:Int)-(s1.view t).pc+1).toNat s1 hr1 h1 (by omega)
  have ht' :t<(paintPg p cl bs tot).code.length:=by rw [paintPg_len];exact ht
  rcases own_or H hok (hr.len hok ht) (k1.len hq ht') ht k2 with ⟨_,h9⟩|⟨i,_,_,_,hB⟩|⟨h9,_⟩
  ·exact absurd k3 h9
  ·obtain ⟨_,_,g1,_,g3⟩:=hB
   obtain ⟨g4,g5⟩:=g3 hf
   exact ⟨_, .step k1 ht' (by rw [g1];exact hk) g4,g5⟩
  ·rcases mvOK_k hk with ⟨_,h8,_⟩|⟨h8,_⟩
   ·omega
   ·omega
theorem paint_bwd (H:AllC p cl bs tot f)(hok:OkPg p)(hq:OkPg (paintPg p cl bs tot))(hNF:NoAdr p)(hr' :Reach (paintPg p cl bs tot) 0 s'):∃s,Reach p 0 s∧RelA p cl bs tot f s s' :=by
 induction hr' with
 |start=>exact ⟨_, .start,begin_relA H hok⟩
 |step hr' ht' hk hf ih=>
  rename_i s' t k
  obtain ⟨s,hr,h⟩:=ih
  have ht:t<p.code.length:=by rw [paintPg_len] at ht';exact ht'
  obtain rfl:=(no_k h ht).2 hk
  rcases own_or H hok (hr.len hok ht) (hr'.len hq ht') ht h with ⟨h9,_⟩|⟨i,hi,hx,_,hB⟩|⟨_,h9,_⟩
  ·exact ⟨s,hr,h9.2.2.1⟩
  ·obtain ⟨_,_,g1,g2,g3⟩:=hB
   rw [g1] at hk
   have hf0:(stepT p 0 s t 0).fell=false:=by
    cases e:(stepT p 0 s t 0).fell with
    |false=>rfl
    |true=>
     rcases hNF with hN|hN
     ·rw [(g2 e (hN t i ht hi).1 (hN t i ht hi).2).1] at hf;cases hf
     ·rw [hN s t 0 hr ht hk] at e;cases e
   exact ⟨_, .step hr ht hk hf0,(g3 hf0).2⟩
  ·rcases mvOK_k hk with ⟨_,h8,_⟩|⟨h8,_⟩
   ·rw [paintPg_code ht] at h8;omega
   ·omega
def cutF (n:Nat)(o:Outc):Outc:=⟨o.st,if o.st=1 then [] else o.words.take n,o.prints⟩
theorem rel_words (hok:OkPg p)(h:RelA p cl bs tot f s s'):s'.words.take p.words.length=s.words∧s'.prints=s.prints:=by
 have h0:=hok.code
 obtain ⟨i,ex,hv⟩:=(h 0 (by omega)).vx
 have hwl:s'.words.length=p.words.length+tot:=hv.wl
 have hxl:s.words.length=p.words.length:=hv.xl
 refine ⟨ext_nth _ _ (by rw [List.length_take];omega) fun k hk=> ?_,hv.p⟩
 rw [List.length_take] at hk
 have h9:nth (s'.words.take p.words.length) k=nth s'.words k:=by simp only [nth,List.getD,List.getElem?_take];rw [if_pos (by omega)]
 rw [h9]
 exact hv.w k (by omega)
theorem rel_wait (h:RelA p cl bs tot f s s')(ht:t<p.code.length):(nth s.ths t).wait= []∧(nth s'.ths t).wait= []:=by
 obtain ⟨i,ex,hv⟩:=(h t ht).vx
 exact ⟨hv.xw,hv.yw⟩
theorem paint_to (H:AllC p cl bs tot f)(hok:OkPg p)(hq:OkPg (paintPg p cl bs tot))(hNF:NoAdr p){o:Outc}(h:Outs p 0 o):∃o',Outs (paintPg p cl bs tot) 0 o' ∧o=cutF p.words.length o' :=by
 cases h with
 |done hr he=>
  rename_i s
  obtain ⟨s1,hr1,h1⟩:=paint_fwd H hok hq hr
  obtain ⟨s2,k1,k2,k3⟩:=flush H hok hq hr hr1 h1 _ (Nat.le_refl _)
  obtain ⟨e1,e2⟩:=rel_words hok k2
  refine ⟨⟨0,s2.words,s2.prints⟩, .done k1 (ended_iff.2 fun t ht=> ?_), ?_⟩
  ·rw [paintPg_len] at ht
   have h3:=ended_iff.1 he t ht
   rw [paintPg_code ht]
   refine ⟨?_,by rw [(rel_wait k2 ht).2];rfl⟩
   have h3' :¬(s.view t).pc<((nth p.code t).length:Int):=h3.1
   rcases own_or H hok (hr.len hok ht) (k1.len hq (by rw [paintPg_len];exact ht)) ht k2 with ⟨_,h9⟩|⟨i,_,_,_,hB⟩|⟨_,h9,_⟩
   ·exact absurd (k3 t ht) h9
   ·exact absurd hB.1 h3'
   ·show¬(s2.view t).pc<_;omega
  ·show _=(⟨0,if (0:Int)=1 then [] else s2.words.take p.words.length,s2.prints⟩:Outc)
   rw [if_neg (by decide),e1,e2]
 |stuck hr he hst=>
  rename_i s
  obtain ⟨s1,hr1,h1⟩:=paint_fwd H hok hq hr
  obtain ⟨s2,k1,k2,k3⟩:=flush H hok hq hr hr1 h1 _ (Nat.le_refl _)
  obtain ⟨e1,e2⟩:=rel_words hok k2
  refine ⟨⟨2,s2.words,s2.prints⟩, .stuck k1 ?_ fun t k ht=> ?_, ?_⟩
  ·obtain ⟨t,ht,h3⟩:=ended_false he
   have h3' :(s.view t).pc<((nth p.code t).length:Int):=by
    rcases h3 with h3|h3
    ·exact h3
    ·rw [(rel_wait k2 ht).1] at h3;exact absurd rfl h3
   cases e:ended (paintPg p cl bs tot) s2 with
   |false=>rfl
   |true=>
    have h4:=(ended_iff.1 e t (by rw [paintPg_len];exact ht)).1
    rw [paintPg_code ht] at h4
    have h4' :¬(s2.view t).pc<((apT (nth p.code t) (cl t) (bs t) p.regs.toNat).length:Int):=h4
    rcases own_or H hok (hr.len hok ht) (k1.len hq (by rw [paintPg_len];exact ht)) ht k2 with ⟨_,h9⟩|⟨i,_,_,_,hB⟩|⟨h9,_⟩
    ·exact absurd (k3 t ht) h9
    ·exact absurd hB.2.1 h4'
    ·omega
  ·rw [paintPg_len] at ht
   cases e:mvOK 0 (nth (paintPg p cl bs tot).code t) (s2.view t) k with
   |false=>rfl
   |true=>
    obtain rfl:=(no_k k2 ht).2 e
    rcases own_or H hok (hr.len hok ht) (k1.len hq (by rw [paintPg_len];exact ht)) ht k2 with ⟨_,h9⟩|⟨i,_,_,_,hB⟩|⟨_,h9,_⟩
    ·exact absurd (k3 t ht) h9
    ·rw [hB.2.2.1,hst t 0 ht] at e;cases e
    ·rcases mvOK_k e with ⟨_,h8,_⟩|⟨h8,_⟩
     ·rw [paintPg_code ht] at h8;omega
     ·omega
  ·show _=(⟨2,if (2:Int)=1 then [] else s2.words.take p.words.length,s2.prints⟩:Outc)
   rw [if_neg (by decide),e1,e2]
 |fell hr ht hk hf=>
  rename_i s t k
  obtain ⟨s1,hr1,h1⟩:=paint_fwd H hok hq hr
  obtain rfl:=(no_k h1 ht).1 hk
  obtain ⟨s2,k1,k2,k3,_⟩:=flush1 H hok hq hr ht (((apT (nth p.code t) (cl t) (bs t) p.regs.toNat).length:Int)-(s1.view t).pc+1).toNat s1 hr1 h1 (by omega)
  have ht' :t<(paintPg p cl bs tot).code.length:=by rw [paintPg_len];exact ht
  rcases own_or H hok (hr.len hok ht) (k1.len hq ht') ht k2 with ⟨_,h9⟩|⟨i,hi,_,_,hB⟩|⟨h9,_⟩
  ·exact absurd k3 h9
  ·obtain ⟨_,_,g1,g2,g3⟩:=hB
   rcases hNF with hN|hN
   ·obtain ⟨g4,g5⟩:=g2 hf (hN t i ht hi).1 (hN t i ht hi).2
    refine ⟨_, .fell k1 ht' (by rw [g1];exact hk) g4, ?_⟩
    show _=(⟨1,if (1:Int)=1 then [] else _,_⟩:Outc)
    rw [if_pos rfl,g5]
   ·rw [hN s t 0 hr ht hk] at hf;cases hf
  ·rcases mvOK_k hk with ⟨_,h8,_⟩|⟨h8,_⟩
   ·omega
   ·omega
theorem paint_from (H:AllC p cl bs tot f)(hok:OkPg p)(hq:OkPg (paintPg p cl bs tot))(hNF:NoAdr p){o:Outc}(h:Outs (paintPg p cl bs tot) 0 o):Outs p 0 (cutF p.words.length o):=by
 cases h with
 |done hr' he=>
  rename_i s'
  obtain ⟨s,hr,h⟩:=paint_bwd H hok hq hNF hr'
  obtain ⟨e1,e2⟩:=rel_words hok h
  show Outs p 0 ⟨0,if (0:Int)=1 then [] else s'.words.take p.words.length,s'.prints⟩
  rw [if_neg (by decide),e1,e2]
  refine .done hr (ended_iff.2 fun t ht=>⟨?_,by rw [(rel_wait h ht).1];rfl⟩)
  have h3:=(ended_iff.1 he t (by rw [paintPg_len];exact ht)).1
  rw [paintPg_code ht] at h3
  have h3' :¬(s'.view t).pc<((apT (nth p.code t) (cl t) (bs t) p.regs.toNat).length:Int):=h3
  rcases own_or H hok (hr.len hok ht) (hr'.len hq (by rw [paintPg_len];exact ht)) ht h with ⟨h9,_⟩|⟨i,_,_,_,hB⟩|⟨h9,_⟩
  ·exact absurd h9.2.2.2.2 h3'
  ·exact absurd hB.2.1 h3'
  ·show¬(s.view t).pc<_;omega
 |stuck hr' he hst=>
  rename_i s'
  obtain ⟨s,hr,h⟩:=paint_bwd H hok hq hNF hr'
  obtain ⟨e1,e2⟩:=rel_words hok h
  have hst' :∀t,t<p.code.length→mvOK 0 (nth (paintPg p cl bs tot).code t) (s'.view t) 0=false:=fun t ht=>hst t 0 (by rw [paintPg_len];exact ht)
  show Outs p 0 ⟨2,if (2:Int)=1 then [] else s'.words.take p.words.length,s'.prints⟩
  rw [if_neg (by decide),e1,e2]
  refine .stuck hr ?_ fun t k ht=> ?_
  ·obtain ⟨t,ht',h3⟩:=ended_false he
   have ht:t<p.code.length:=by rw [paintPg_len] at ht';exact ht'
   rw [paintPg_code ht] at h3
   have h3' :(s'.view t).pc<((apT (nth p.code t) (cl t) (bs t) p.regs.toNat).length:Int):=by
    rcases h3 with h3|h3
    ·exact h3
    ·rw [(rel_wait h ht).2] at h3;exact absurd rfl h3
   cases e:ended p s with
   |false=>rfl
   |true=>
    have h4:¬(s.view t).pc<((nth p.code t).length:Int):=(ended_iff.1 e t ht).1
    rcases own_or H hok (hr.len hok ht) (hr'.len hq (by rw [paintPg_len];exact ht)) ht h with ⟨h9,_⟩|⟨i,_,_,_,hB⟩|⟨_,h9,_⟩
    ·have h8:=h9.1;rw [hst' t ht] at h8;cases h8
    ·exact absurd hB.1 h4
    ·omega
  ·cases e:mvOK 0 (nth p.code t) (s.view t) k with
   |false=>rfl
   |true=>
    obtain rfl:=(no_k h ht).1 e
    rcases own_or H hok (hr.len hok ht) (hr'.len hq (by rw [paintPg_len];exact ht)) ht h with ⟨h9,_⟩|⟨i,_,_,_,hB⟩|⟨h9,_⟩
    ·have h8:=h9.1;rw [hst' t ht] at h8;cases h8
    ·rw [←hB.2.2.1,hst' t ht] at e;cases e
    ·rcases mvOK_k e with ⟨_,h8,_⟩|⟨h8,_⟩
     ·omega
     ·omega
 |fell hr' ht' hk hf=>
  rename_i s' t k
  obtain ⟨s,hr,h⟩:=paint_bwd H hok hq hNF hr'
  have ht:t<p.code.length:=by rw [paintPg_len] at ht';exact ht'
  obtain rfl:=(no_k h ht).2 hk
  show Outs p 0 ⟨1,if (1:Int)=1 then [] else _,_⟩
  rw [if_pos rfl]
  rcases own_or H hok (hr.len hok ht) (hr'.len hq ht') ht h with ⟨h9,_⟩|⟨i,hi,_,_,hB⟩|⟨_,h9,_⟩
  ·rw [h9.2.1] at hf;cases hf
  ·obtain ⟨_,_,g1,g2,g3⟩:=hB
   rw [g1] at hk
   cases e:(stepT p 0 s t 0).fell with
   |false=>rw [(g3 e).1] at hf;cases hf
   |true=>
    rcases hNF with hN|hN
    ·rw [(g2 e (hN t i ht hi).1 (hN t i ht hi).2).2]
     exact .fell hr ht hk e
    ·rw [hN s t 0 hr ht hk] at e;cases e
  ·rcases mvOK_k hk with ⟨_,h8,_⟩|⟨h8,_⟩
   ·rw [paintPg_code ht] at h8;omega
   ·omega
end
def cutM (n:Nat)(l:List Outc):List Outc:=l.map (cutF n)
theorem cutM_step {l:List OutL}{n i:Nat}(h:i<l.length):cutM n ((l.take (i+1)).map OutL.out)=cutM n ((l.take i).map OutL.out)++ [cutF n (nth l i).out]:=by
 rw [take_succ_nth _ _ h,List.map_append]
 unfold cutM
 rw [List.map_append]
 rfl
theorem first_c (x:Ls OutL)(n:Nat)(W:World)(hx:x.At W)(hn:∀i,i<x.l.length→(nth x.l i).st≠1→n≤(nth x.l i).words.l.length)(hxl:x.l.length≤100000000):
    Rets Try.prog 15 [x.v, .int .i64 ((n:Nat):Int)] W (fun v w' =>∃s:Ls OutL,v=s.v∧(Sorted_ (s.l.map OutL.out)∧∀o,o∈s.l.map OutL.out↔o∈(x.l.map OutL.out).map (cutF n))∧(∀o∈s.l,∀b,Enc.on o b→∃i,i<x.l.length∧Enc.on (nth x.l i) b)∧Sh0 W w' [.own 49 s]):=by
 refine gen Try.func15 Try.ntmps15 (Sh0.ext1 hx:Sh (fun _=>False) W W [.at_ x]) rfl fun a10 h10=>gG h10<|sG (oM 1 rfl<|.nl)<|sG (oM 1 rfl<|.nl)<|gK fun _ k13=>sG (oM 1 rfl<|.nl)<|gB<|fun a17 w17 h17=> ?_;clear h10
 have h16:=h17.nil (α:=OutL) 49
 clear h17
 refine x_loop (fun m a w=>∃(i:Nat) (ol:List OutL) (vo:Value),(i≤x.l.length)∧(ol.map OutL.out=cutM n ((x.l.take i).map OutL.out))∧(ol.length≤i)∧(∀o∈ol,∀b,Enc.on o b→∃i,i<x.l.length∧Enc.on (nth x.l i) b)∧St 45 (fun _=>False) W a w [(0,x.v),(1, .int .i64 ((n:Nat):Int)),(5,vo),(6, .int .i64 ((i:Nat):Int))] [.at_ x, .own 49 (⟨vo,ol⟩:Ls OutL)]∧m=x.l.length-i) ⟨_,0, [],(.slice none 0 0),(by omega),(rfl),(Nat.le_refl _),(fun o ho=>by cases ho),h16.nrm ⟨rfl,rfl,rfl,rfl,trivial⟩ [1,0] rfl,rfl⟩ ?_
 clear h16
 rintro m15 a15 w15 ⟨i,ol,vo,hi,hol,hoi,hob,h15,hm15⟩
 refine gG h15<|gK fun _ k18=>sK fun _ k19=>gNl (aA 0 rfl) fun hl20=>gRn (oM 2 rfl<|oln sl_42 (aA 0 rfl) rfl<|oltN _ _ rfl<|.nl)<|nK k19<|?_;clear h15
 refine gcd rfl (fun hb21 hp21=> ?_) fun hb21 hp21=> ?_
 ·skip
  refine gS<|hK k18<|gK fun _ k22=>gB<|gK fun _ k23=>rC [11,12] rfl<|pR [0,1,2,3,4,5,6,7,8,9,10] rfl (oM 2 rfl<|oxN sl_42 ti_49 (aA 0 rfl) _ om9 rfl<|ofE fl_49_0 rfl<|olI ti_3 (aA 0 rfl) om9 rfl<|oM 2 rfl<|oxN sl_42 ti_49 (aA 0 rfl) _ om9 rfl<|ofE fl_49_2 rfl<|olE (((nth x.l i).prints).v) ti_23 (aA 0 rfl) om9 rfl<|oV (r_buildS (cs:= [.int .i64 ((nth x.l i).st),(.slice none 0 0),((nth x.l i).prints).v]) rfl rfl (fun w h=>by obtain ⟨A24,n24,c24,(e24:((nth x.l i).prints).v=_)⟩:=(((h.at 0 rfl).inner i (show i<x.l.length from om9)).2).form;rw [e24];kernel_rfl)) rfl<|.nl) rfl<|pX (fun _ _ h_=>x_alloc h_ ti_49 rfl rfl rfl) rfl fun b25=>pR [0,1,2,3,4,5,6,7,8,9,10] rfl (oM 2 rfl<|oxN sl_42 ti_49 (aA 1 rfl) _ om9 rfl<|ofE fl_49_0 rfl<|olI ti_3 (aA 1 rfl) om9 rfl<|oM 2 rfl<|oxN sl_42 ti_49 (aA 1 rfl) _ om9 rfl<|ofE fl_49_2 rfl<|olE (((nth x.l i).prints).v) ti_23 (aA 1 rfl) om9 rfl<|oV (r_buildS (cs:= [.int .i64 ((nth x.l i).st),(.slice none 0 0),((nth x.l i).prints).v]) rfl rfl (fun w h=>by obtain ⟨A26,n26,c26,(e26:((nth x.l i).prints).v=_)⟩:=(((h.at 1 rfl).inner i (show i<x.l.length from om9)).2).form;rw [e26];kernel_rfl)) rfl<|.nl) rfl<|pS (fun _ _ h_=>x_stb (i:=0) (vs:= [.int .i64 ((nth x.l i).st),(.slice none 0 0),((nth x.l i).prints).v]) (cs' := [.int .i64 ((nth x.l i).st),(.slice none 0 0),((nth x.l i).prints).v]) h_ ti_49 rfl rfl rfl rfl rfl rfl rfl (allOne_cons rfl (allOne_cons rfl (allOne_cons (((h_.sh.at 1 rfl).inner i (show i<x.l.length from om9)).2).one allOne_nil))) (Nat.le_of_ble_eq_true rfl) rfl) rfl<|pE [] rfl (.nl) rfl<|hK k23<|gK fun _ k28=>sG (oM 2 rfl<|oxN sl_42 ti_49 (aA 1 rfl) _ om9 rfl<|ofE fl_49_0 rfl<|olI ti_3 (aA 1 rfl) om9 rfl<|oneI _ _ rfl<|.nl)<|gcd rfl (fun hb30 hp30=> ?_) fun hb30 hp30=> ?_
  ·skip
   have hn9:=hn i (by omega) (by omega)
   refine gL<|gNl (fun w h=>((h.at 1 rfl).inner i (show i<x.l.length from (by omega))).1) fun (hl31:(((nth x.l i).words).l).length≤140737488355328)=>gRn (oM 2 rfl<|oxN sl_42 ti_49 (aA 1 rfl) _ om9 rfl<|ofE fl_49_1 rfl<|olE (((nth x.l i).words).v) ti_23 (aA 1 rfl) om9 rfl<|oM 1 rfl<|oV (r_slH0 (s:=(nth x.l i).words) (j:=n) sl_23 ti_3 rfl rfl rfl (fun w h=>((h.at 1 rfl).inner i (show i<x.l.length from om9)).1) (show n≤(((nth x.l i).words).l).length from om9)) rfl<|ofB fl_49_1 rfl<|.nl)<|gE (fun _ _ h_=>x_stb (i:=0) (vs:= [(vtake (((nth x.l i).words).v) n)]) (cs' := [.int .i64 ((nth x.l i).st),(vtake (((nth x.l i).words).v) n),((nth x.l i).prints).v]) h_ ti_23 rfl rfl rfl rfl rfl (cells_oneL ((take_at ((h_.sh.at 1 rfl).inner i (show i<x.l.length from om9)).1 (show n≤(((nth x.l i).words).l).length from om9))).one) rfl (allOne_cons ((take_at ((h_.sh.at 1 rfl).inner i (show i<x.l.length from om9)).1 (show n≤(((nth x.l i).words).l).length from om9))).one allOne_nil) (Nat.le_of_ble_eq_true rfl) rfl) rfl<|nK k28<|gF [0,1,5,6,7] rfl<|gL<|gRn (oM 1 rfl<|olw 0 ti_49 rfl rfl<|.nl)<|gE1 (fun _ _ h_=>x_lit (n:=1) (cs:= [.int .i64 ((nth x.l i).st),(vtake (((nth x.l i).words).v) n),((nth x.l i).prints).v]) ([(⟨(nth x.l i).st,(⟨(vtake (((nth x.l i).words).v) n),((((nth x.l i).words).l).take n)⟩:Ls Int),(nth x.l i).prints⟩:OutL)]:List OutL) h_ sl_42 ti_49 rfl rfl rfl (by decide) rfl (by kernel_rfl) rfl (fun q hq w h=>by obtain rfl:q=0:=(by simpa using hq);exact ⟨(take_at ((h.at 1 rfl).inner i (show i<x.l.length from om9)).1 (show n≤(((nth x.l i).words).l).length from om9)),((h.at 1 rfl).inner i (show i<x.l.length from om9)).2⟩) (fun q hq b hb=>by obtain rfl:q=0:=(by simpa using hq);rcases hb with hb|hb;exact ⟨_,List.mem_of_getElem? (i:=1) rfl, .inr ⟨i,(show i<x.l.length from om9), .inl (take_on ((h_.sh.at 1 rfl).inner i (show i<x.l.length from om9)).1 hb)⟩⟩;exact ⟨_,List.mem_of_getElem? (i:=1) rfl, .inr ⟨i,(show i<x.l.length from om9), .inr hb⟩⟩) rfl rfl) rfl fun v33=>gE1 (fun _ _ h_=>x_app (r:=3) (rm:=0) (s:=(⟨vo,ol⟩:Ls OutL)) (m:=(⟨v33, [(⟨(nth x.l i).st,(⟨(vtake (((nth x.l i).words).v) n),((((nth x.l i).words).l).take n)⟩:Ls Int),(nth x.l i).prints⟩:OutL)]⟩:Ls OutL)) h_ sl_42 ti_49 rfl rfl rfl rfl rfl rfl rfl (fun w h=>(h.own 0 rfl)) (fun b hb=>own_on (h_.sh.ok _ (List.mem_of_getElem? (i:=0) rfl)) hb) (fun q hq b hb=>⟨q,hq,hb⟩) rfl rfl rfl inferInstance (show (ol.length+([(⟨(nth x.l i).st,(⟨(vtake (((nth x.l i).words).v) n),((((nth x.l i).words).l).take n)⟩:Ls Int),(nth x.l i).prints⟩:OutL)]).length)*56≤140737488355328∧ol.length+([(⟨(nth x.l i).st,(⟨(vtake (((nth x.l i).words).v) n),((((nth x.l i).words).l).take n)⟩:Ls Int),(nth x.l i).prints⟩:OutL)]).length≤140737488355328 from om9) rfl rfl) rfl fun v34=>gRn (oM 1 rfl<|.nl)<|nK k22<|gL<|gRn (oM 1 rfl<|oadN _ 1 om9 rfl<|oM 1 rfl<|.nl)<|nN<|fun a35 w35 h35=>x_again ⟨_, ?_,i+1,ol++([(⟨(nth x.l i).st,(⟨(vtake (((nth x.l i).words).v) n),((((nth x.l i).words).l).take n)⟩:Ls Int),(nth x.l i).prints⟩:OutL)]),v34, ?_, ?_, ?_, ?_,h35.nrm ⟨rfl,rfl,rfl,rfl,trivial⟩ [2,3] rfl,rfl⟩
   · rw [hm15];first|omega|(simp only [lens9];omega)
   · omega
   · rw [cutM_step (by omega),List.map_append,hol];congr 1;unfold cutF;first|(rw [if_pos (show (nth x.l i).out.st=1 from by show (nth x.l i).st=1;omega)];rfl)|(rw [if_neg (show¬(nth x.l i).out.st=1 from by show¬(nth x.l i).st=1;omega)];rfl)
   · first|omega|(simp;omega)
   · intro o ho b hb;rcases List.mem_append.1 ho with ho|ho;exact hob o ho b hb;obtain rfl:=List.mem_singleton.1 ho;rcases hb with hb|hb;(first|exact ⟨i,by omega, .inl (take_on (hx.inner i (by omega)).1 hb)⟩|(rcases hb with ⟨h0,_⟩|⟨_,h0,_⟩<;>first|exact (Nat.not_lt_zero _ h0).elim|exact absurd h0 (by simp)));exact ⟨i,by omega, .inr hb⟩
  refine gS<|hK k28<|gL<|gRn (oM 1 rfl<|olw 0 ti_49 rfl rfl<|.nl)<|gE1 (fun _ _ h_=>x_lit (n:=1) (cs:= [.int .i64 ((nth x.l i).st),(.slice none 0 0),((nth x.l i).prints).v]) ([(⟨(nth x.l i).st,(⟨.slice none 0 0, []⟩:Ls Int),(nth x.l i).prints⟩:OutL)]:List OutL) h_ sl_42 ti_49 rfl rfl rfl (by decide) rfl (by kernel_rfl) rfl (fun q hq w h=>by obtain rfl:q=0:=(by simpa using hq);exact ⟨LsNil _,((h.at 1 rfl).inner i (show i<x.l.length from om9)).2⟩) (fun q hq b hb=>by obtain rfl:q=0:=(by simpa using hq);rcases hb with hb|hb;exact (by rcases hb with ⟨h0,_⟩|⟨_,h0,_⟩<;>first|exact (Nat.not_lt_zero _ h0).elim|exact absurd h0 (by simp));exact ⟨_,List.mem_of_getElem? (i:=1) rfl, .inr ⟨i,(show i<x.l.length from om9), .inr hb⟩⟩) rfl rfl) rfl fun v36=>gE1 (fun _ _ h_=>x_app (r:=3) (rm:=0) (s:=(⟨vo,ol⟩:Ls OutL)) (m:=(⟨v36, [(⟨(nth x.l i).st,(⟨.slice none 0 0, []⟩:Ls Int),(nth x.l i).prints⟩:OutL)]⟩:Ls OutL)) h_ sl_42 ti_49 rfl rfl rfl rfl rfl rfl rfl (fun w h=>(h.own 0 rfl)) (fun b hb=>own_on (h_.sh.ok _ (List.mem_of_getElem? (i:=0) rfl)) hb) (fun q hq b hb=>⟨q,hq,hb⟩) rfl rfl rfl inferInstance (show (ol.length+([(⟨(nth x.l i).st,(⟨.slice none 0 0, []⟩:Ls Int),(nth x.l i).prints⟩:OutL)]).length)*56≤140737488355328∧ol.length+([(⟨(nth x.l i).st,(⟨.slice none 0 0, []⟩:Ls Int),(nth x.l i).prints⟩:OutL)]).length≤140737488355328 from om9) rfl rfl) rfl fun v37=>gRn (oM 1 rfl<|.nl)<|nK k22<|gF [0,1,5,6] rfl<|gL<|gRn (oM 1 rfl<|oadN _ 1 om9 rfl<|oM 1 rfl<|.nl)<|nN<|fun a38 w38 h38=>x_again ⟨_, ?_,i+1,ol++([(⟨(nth x.l i).st,(⟨.slice none 0 0, []⟩:Ls Int),(nth x.l i).prints⟩:OutL)]),v37, ?_, ?_, ?_, ?_,h38.nrm ⟨rfl,rfl,rfl,rfl,trivial⟩ [2,3] rfl,rfl⟩
  · rw [hm15];first|omega|(simp only [lens9];omega)
  · omega
  · rw [cutM_step (by omega),List.map_append,hol];congr 1;unfold cutF;first|(rw [if_pos (show (nth x.l i).out.st=1 from by show (nth x.l i).st=1;omega)];rfl)|(rw [if_neg (show¬(nth x.l i).out.st=1 from by show¬(nth x.l i).st=1;omega)];rfl)
  · first|omega|(simp;omega)
  · intro o ho b hb;rcases List.mem_append.1 ho with ho|ho;exact hob o ho b hb;obtain rfl:=List.mem_singleton.1 ho;rcases hb with hb|hb;(first|exact ⟨i,by omega, .inl (take_on (hx.inner i (by omega)).1 hb)⟩|(rcases hb with ⟨h0,_⟩|⟨_,h0,_⟩<;>first|exact (Nat.not_lt_zero _ h0).elim|exact absurd h0 (by simp)));exact ⟨i,by omega, .inr hb⟩
 refine gX<|hK k13<|sK fun _ k39=>gRn (oM 1 rfl<|.nl)<|fun a41 w41 h41=>wl_ex (x_call h41 bd_41 rfl rfl rfl rfl rfl (once_c (⟨vo,ol⟩:Ls OutL) _ (h41.sh.own 1 rfl) (show ol.length≤100000000 from by omega))) (wanted_none rfl _) ?_
 rintro a42 w42 ⟨_,⟨s42,rfl,hos42,hoo42,hs42⟩,hf42⟩
 have h42:=(⟨hf42,h41.sh.call hs42 (by intro A hA b hb;obtain rfl:=List.mem_singleton.1 hA;obtain ⟨i9,hi9,hb9⟩:=hb;obtain ⟨j9,hj9,hb8⟩:=hoo42 _ (nth_mem _ _ hi9) b hb9;exact .inr ⟨_,List.mem_of_getElem? (i:=1) rfl,j9,hj9,hb8⟩)⟩:St 45 (fun _=>False) W a42 w42 _ _)
 clear hf42 hs42
 clear h41
 refine gG h42<|gRn (oM 1 rfl<|.nl)<|nK k39<|gR<|fun a43 w43 h43=>x_ret1 (fn:=Try.f15) (t:=4) rfl h43 rfl<|⟨s42,rfl,⟨hos42.1,fun o=> ?_⟩,fun o ho b hb=> ?_,(h43.sh.sel [0] rfl)⟩;clear h42
 · have h9:=hos42.2 o;rw [hol,List.take_of_length_le (by omega)] at h9;exact h9
 · obtain ⟨j,hj,hb9⟩:=hoo42 o ho b hb;exact hob _ (nth_mem _ _ hj) b hb9
theorem kind_key {op:Int}(b:ByteArray)(e:kindsB op=b)(h:∀(k:Nat) (hk:k<b.size),((b[k]).toNat:Int)≠99)(k:Nat)(hk:k<(kindsB op).size):(((kindsB op)[k]).toNat:Int)≠99:=by
 subst e;exact h k hk
theorem kind_c {op:Int}(h14:op≠14)(h15:op≠15)(k:Nat)(hk:k<(kindsB op).size):(((kindsB op)[k]).toNat:Int)≠99:=by
 by_cases hop:1≤op∧op≤18
 ·rcases cases18 op hop with rfl|rfl|rfl|rfl|rfl|rfl|rfl|rfl|rfl|rfl|rfl|rfl|rfl|rfl|rfl|rfl|rfl|rfl
  ·refine kind_key ⟨#[114,110]⟩ (by unfold kindsB;simp) (fun k hk=> ?_) k hk
   rcases k with _|_|k
   ·show ((114:UInt8).toNat:Int)≠99;decide
   ·show ((110:UInt8).toNat:Int)≠99;decide
   ·exact absurd hk (by show¬(k+2<2);omega)
  ·refine kind_key ⟨#[114,114]⟩ (by unfold kindsB;simp) (fun k hk=> ?_) k hk
   rcases k with _|_|k
   ·show ((114:UInt8).toNat:Int)≠99;decide
   ·show ((114:UInt8).toNat:Int)≠99;decide
   ·exact absurd hk (by show¬(k+2<2);omega)
  ·refine kind_key ⟨#[114,114,114]⟩ (by unfold kindsB;simp) (fun k hk=> ?_) k hk
   rcases k with _|_|_|k
   ·show ((114:UInt8).toNat:Int)≠99;decide
   ·show ((114:UInt8).toNat:Int)≠99;decide
   ·show ((114:UInt8).toNat:Int)≠99;decide
   ·exact absurd hk (by show¬(k+3<3);omega)
  ·refine kind_key ⟨#[114,114,114]⟩ (by unfold kindsB;simp) (fun k hk=> ?_) k hk
   rcases k with _|_|_|k
   ·show ((114:UInt8).toNat:Int)≠99;decide
   ·show ((114:UInt8).toNat:Int)≠99;decide
   ·show ((114:UInt8).toNat:Int)≠99;decide
   ·exact absurd hk (by show¬(k+3<3);omega)
  ·refine kind_key ⟨#[114,114,114]⟩ (by unfold kindsB;simp) (fun k hk=> ?_) k hk
   rcases k with _|_|_|k
   ·show ((114:UInt8).toNat:Int)≠99;decide
   ·show ((114:UInt8).toNat:Int)≠99;decide
   ·show ((114:UInt8).toNat:Int)≠99;decide
   ·exact absurd hk (by show¬(k+3<3);omega)
  ·refine kind_key ⟨#[114,114,114]⟩ (by unfold kindsB;simp) (fun k hk=> ?_) k hk
   rcases k with _|_|_|k
   ·show ((114:UInt8).toNat:Int)≠99;decide
   ·show ((114:UInt8).toNat:Int)≠99;decide
   ·show ((114:UInt8).toNat:Int)≠99;decide
   ·exact absurd hk (by show¬(k+3<3);omega)
  ·refine kind_key ⟨#[114,114,114]⟩ (by unfold kindsB;simp) (fun k hk=> ?_) k hk
   rcases k with _|_|_|k
   ·show ((114:UInt8).toNat:Int)≠99;decide
   ·show ((114:UInt8).toNat:Int)≠99;decide
   ·show ((114:UInt8).toNat:Int)≠99;decide
   ·exact absurd hk (by show¬(k+3<3);omega)
  ·refine kind_key ⟨#[114,119]⟩ (by unfold kindsB;simp) (fun k hk=> ?_) k hk
   rcases k with _|_|k
   ·show ((114:UInt8).toNat:Int)≠99;decide
   ·show ((119:UInt8).toNat:Int)≠99;decide
   ·exact absurd hk (by show¬(k+2<2);omega)
  ·refine kind_key ⟨#[119,114]⟩ (by unfold kindsB;simp) (fun k hk=> ?_) k hk
   rcases k with _|_|k
   ·show ((119:UInt8).toNat:Int)≠99;decide
   ·show ((114:UInt8).toNat:Int)≠99;decide
   ·exact absurd hk (by show¬(k+2<2);omega)
  ·refine kind_key ⟨#[114,114]⟩ (by unfold kindsB;simp) (fun k hk=> ?_) k hk
   rcases k with _|_|k
   ·show ((114:UInt8).toNat:Int)≠99;decide
   ·show ((114:UInt8).toNat:Int)≠99;decide
   ·exact absurd hk (by show¬(k+2<2);omega)
  ·refine kind_key ⟨#[114,114]⟩ (by unfold kindsB;simp) (fun k hk=> ?_) k hk
   rcases k with _|_|k
   ·show ((114:UInt8).toNat:Int)≠99;decide
   ·show ((114:UInt8).toNat:Int)≠99;decide
   ·exact absurd hk (by show¬(k+2<2);omega)
  ·refine kind_key ⟨#[]⟩ (by unfold kindsB;simp) (fun k hk=> ?_) k hk
   ·exact absurd hk (by show¬(k<0);omega)
  ·refine kind_key ⟨#[119,114,114]⟩ (by unfold kindsB;simp) (fun k hk=> ?_) k hk
   rcases k with _|_|_|k
   ·show ((119:UInt8).toNat:Int)≠99;decide
   ·show ((114:UInt8).toNat:Int)≠99;decide
   ·show ((114:UInt8).toNat:Int)≠99;decide
   ·exact absurd hk (by show¬(k+3<3);omega)
  ·exact absurd rfl h14
  ·exact absurd rfl h15
  ·refine kind_key ⟨#[114]⟩ (by unfold kindsB;simp) (fun k hk=> ?_) k hk
   rcases k with _|k
   ·show ((114:UInt8).toNat:Int)≠99;decide
   ·exact absurd hk (by show¬(k+1<1);omega)
  ·refine kind_key ⟨#[108]⟩ (by unfold kindsB;simp) (fun k hk=> ?_) k hk
   rcases k with _|k
   ·show ((108:UInt8).toNat:Int)≠99;decide
   ·exact absurd hk (by show¬(k+1<1);omega)
  ·refine kind_key ⟨#[108]⟩ (by unfold kindsB;simp) (fun k hk=> ?_) k hk
   rcases k with _|k
   ·show ((108:UInt8).toNat:Int)≠99;decide
   ·exact absurd hk (by show¬(k+1<1);omega)
 ·refine kind_key ⟨#[]⟩ (kindsB_none op hop) (fun k hk=> ?_) k hk
  exact absurd hk (Nat.not_lt_zero _)
theorem fits_move {p p' :Pg}{size size' kind n:Int}(hr:p'.regs=p.regs)(hw:p'.words.length=p.words.length)(hl:p'.locks=p.locks)(hk:kind≠99):fitsG p' size' kind n=fitsG p size kind n:=by
 unfold fitsG
 rw [hr,hw,hl]
 simp only [hk,if_false]
theorem okNum_move {p p' :Pg}{size size' :Int}{x:Ins}{k:Nat}(hr:p'.regs=p.regs)(hw:p'.words.length=p.words.length)(hl:p'.locks=p.locks)(h14:x.op≠14)(h15:x.op≠15):okNumG p' size' x k=okNumG p size x k:=by
 unfold okNumG
 split
 ·rename_i h
  exact fits_move hr hw hl (kind_c h14 h15 k h)
 ·rfl
theorem OkIns.move {p p' :Pg}{size size' :Int}{x:Ins}(hr:p'.regs=p.regs)(hw:p'.words.length=p.words.length)(hl:p'.locks=p.locks)(h14:x.op≠14)(h15:x.op≠15)(h:OkIns p size x):OkIns p' size' x:=
 ⟨h.op,by rw [okNum_move hr hw hl h14 h15];exact h.n0,by rw [okNum_move hr hw hl h14 h15];exact h.n1,by rw [okNum_move hr hw hl h14 h15];exact h.n2⟩
theorem fit_c_mk {p:Pg}{size n:Int}(hs:0≤size∧size≤100000)(h:0≤n∧n≤size):fitsG p size 99 n=true:=by
 unfold fitsG
 simp only [Int.reduceEq,if_false,if_true,Bool.and_eq_true,decide_eq_true_eq]
 rw [IntWalk.wrap64_in _ ⟨by omega,by omega⟩]
 omega
theorem num0_iff {p:Pg}{size:Int}{x:Ins}{b:UInt8}{r:List UInt8}(hk:kindsB x.op=⟨(b::r).toArray⟩):okNumG p size x 0=fitsG p size (b.toNat:Int) x.a:=by
 unfold okNumG
 rw [hk,dif_pos (by simp [ByteArray.size])];rfl
theorem num1_iff {p:Pg}{size:Int}{x:Ins}{a b:UInt8}{r:List UInt8}(hk:kindsB x.op=⟨(a::b::r).toArray⟩):okNumG p size x 1=fitsG p size (b.toNat:Int) x.b:=by
 unfold okNumG
 rw [hk,dif_pos (by simp [ByteArray.size])];rfl
theorem num_no {p:Pg}{size:Int}{x:Ins}{k:Nat}(hk:(kindsB x.op).size≤k):okNumG p size x k=(x.num k==0):=by
 unfold okNumG
 rw [dif_neg (by omega)]
theorem OkIns.jump {p p' :Pg}{size size' :Int}{x:Ins}{a' :Int}(h14:x.op=14)(h:OkIns p size x)(hs:0≤size' ∧size' ≤100000)(ha:0≤a' ∧a' ≤size'):OkIns p' size' { x with a:=a' } :=by
 have k:kindsB x.op=⟨[99].toArray⟩:=by rw [h14];unfold kindsB;simp
 have k' :kindsB ({ x with a:=a' } :Ins).op=⟨[99].toArray⟩:=k
 have h1:=h.n1
 have h2:=h.n2
 rw [num_no (by rw [k];decide)] at h1 h2
 refine ⟨h.op, ?_, ?_, ?_⟩
 ·rw [num0_iff k'];exact fit_c_mk hs ha
 ·rw [num_no (by rw [k'];decide)];exact h1
 ·rw [num_no (by rw [k'];decide)];exact h2
theorem OkIns.zero {p p' :Pg}{size size' :Int}{x:Ins}{b' :Int}(hr:p'.regs=p.regs)(hw:p'.words.length=p.words.length)(hl:p'.locks=p.locks)(h15:x.op=15)(h:OkIns p size x)(hs:0≤size' ∧size' ≤100000)(hb:0≤b' ∧b' ≤size'):OkIns p' size' { x with b:=b' } :=by
 have k:kindsB x.op=⟨[114,99].toArray⟩:=by rw [h15];unfold kindsB;simp
 have k' :kindsB ({ x with b:=b' } :Ins).op=⟨[114,99].toArray⟩:=k
 have h0:=h.n0
 have h2:=h.n2
 rw [num0_iff k] at h0
 rw [num_no (by rw [k];decide)] at h2
 refine ⟨h.op, ?_, ?_, ?_⟩
 ·rw [num0_iff k',fits_move hr hw hl (by decide)];exact h0
 ·rw [num1_iff k'];exact fit_c_mk hs hb
 ·rw [num_no (by rw [k'];decide)];exact h2
set_option maxHeartbeats 16000000
theorem nth_setP (l:List MP)(i k:Nat)(x:MP):nth (l.set i x) k=if i=k∧i<l.length then x else nth l k:=by
 simp only [nth,List.getD,List.getElem?_set]
 by_cases h:i=k
 ·subst h
  by_cases h2:i<l.length<;>simp [h2]
 ·simp [h]
theorem mapsX_ok {K:Nat→Prop}{W w:World}{L:List Asn}{E:TypeId}{v:Value}{M:List MP}(h:Sh K W w L)(i:Nat)(hi:L[i]? =some (.big (mapsX E v M)))(t:Nat)(ht:t<M.length):(Asn.mapO (nth M t).p (nth M t).l).ok w:=
 (h.ok _ (List.mem_of_getElem? hi)).1 _ (List.mem_cons_of_mem _ (List.mem_map.2 ⟨nth M t,nth_mem _ _ ht,rfl⟩))
theorem ro1 {A:Asn}{w:World}(h:A.ok w):(Asn.ro [A]).ok w:=fun B hB=>by rw [List.mem_singleton.1 hB];exact h
theorem colsB_len {code:List (Ls Ins)}{cols:List (Ls Int)}{f:Nat→Nat→Nat→Bool}{R:Nat}(h:colsB code cols f R=true):cols.length=code.length∧∀t,t<code.length→(nth cols t).l.length=R:=by
 unfold colsB at h
 simp only [Bool.and_eq_true,decide_eq_true_eq,List.all_eq_true,List.mem_range] at h
 refine ⟨h.1,fun t ht=> ?_⟩
 have:=h.2 t (by omega)
 unfold thB at this
 simp only [Bool.and_eq_true,decide_eq_true_eq] at this
 exact this.1
theorem apply_k (code:Ls (Ls Ins))(words:Ls Int)(locks regs:Int)(cols:Ls (Ls Int))(f:Nat→Nat→Nat→Bool)(W:World)(hcode:code.At W)(hwords:words.At W)(hcols:cols.At W)(hok:OkPg (pgOf code words locks regs))(hF:∀t,t<code.l.length→∀r j,(f t r j=true↔LiveI (nth code.l t).l r j))(hcb:(colsB code.l cols.l f regs.toNat)=true)(htot:words.l.length+tSp cols.l regs.toNat code.l.length≤64)(hfit:∀t,t<code.l.length→(apT (nth code.l t).l (nth cols.l t).l (words.l.length+tSp cols.l regs.toNat t) regs.toNat).length≤400):
    Rets Try.prog 13 [.agg #[code.v,words.v, .int .i64 locks, .int .i64 regs],cols.v] W (fun v w' =>∃(c:Ls (Ls Ins)) (u:Ls Int),v= .tuple #[.agg #[c.v,u.v, .int .i64 locks, .int .i64 8], .agg #[.int .i64 0, .int .i64 0, .int .i64 0]]∧c.l.map (·.l)=(List.range code.l.length).map (fun t=>apT (nth code.l t).l (nth cols.l t).l (words.l.length+tSp cols.l regs.toNat t) regs.toNat)∧u.l=words.l++List.replicate (tSp cols.l regs.toNat code.l.length) 0∧Sh0 W w' [.deep 45 c, .own 3 u]):=by
 have hz:=checkG_ok hok
 obtain ⟨hl1,hl2,hl3,hl4',hl5,hl6,hl7⟩:=ok_len hok
 have hrg:=hok.regs
 have hrg1:(pgOf code words locks regs).regs=regs:=rfl
 rw [hrg1] at hrg
 obtain ⟨hcc,hcr⟩:=colsB_len hcb
 refine gen Try.func13 Try.ntmps13 (Sh0.ext3 hcode hwords hcols:Sh (fun _=>False) W W [.at_ code, .at_ words, .at_ cols]) rfl fun a10 h10=>gG h10<|sK fun _ k11=>gbx rfl rfl fun b12=>gal ti_25 rfl fun b13=>gal ti_30 rfl fun b14=>nK k11<|gK fun _ k15=>sK fun _ k16=>gRn (olw 2 ti_25 rfl rfl<|.nl)<|gC (fun _ _ h_=>xCl h_ bd_27 rfl (asmCheck_c (code:=code) (words:=words) (locks:=locks) (regs:=regs) (h_.sh.at 3 rfl) (h_.sh.at 4 rfl))) rfl<|?_;clear h10
 rintro _ _ w17 ⟨rfl,hs17⟩
 refine gWk hs17 rfl<|gU<|gal ti_30 rfl fun b18=>gsw 0 ti_30 rfl rfl rfl<|nK k16<|sG (ofB fl_30_0 rfl<|olB 0 ti_28 rfl rfl<|oneI _ _ rfl<|.nl)<|gcF rfl (by rw [hz];rfl)<|gS<|hK k15<|gK fun _ k21=>sK fun _ k22=>gRn (olw 3 ti_25 rfl rfl<|oM 1 rfl<|.nl)<|gP (fun _ _ h_=>xCl h_ bd_28 rfl (is_c code words locks regs cols f _ (h_.sh.at 4 rfl) (h_.sh.at 5 rfl) (h_.sh.at 6 rfl) hok hF)) rfl<|gRn (ont rfl<|.nl)<|nK k22<|gcF rfl (by rw [hcb];rfl)<|gS<|hK k21<|gK fun _ k24=>gF [0,1,2,4,5,6,17,18,19,20,21,24,25,26,27] rfl<|fun a25 w25 h25=> ?_;clear hs17
 refine x_any ((fun Φ Ψ S a w=>(S 4=false∧S 6=false∧S 7=false∧FrI 117 S Φ Ψ a∧Sh (fun _=>False) W w [.blk b18 30 [.int .i64 ((checkG (pgOf code words locks regs)).code), .int .i64 ((checkG (pgOf code words locks regs)).thread), .int .i64 ((checkG (pgOf code words locks regs)).at_)], .blk b14 30 [.int .i64 0, .int .i64 0, .int .i64 0], .blk b13 25 [(.slice none 0 0),(.slice none 0 0), .int .i64 0, .int .i64 0], .blk b12 25 [code.v,words.v, .int .i64 locks, .int .i64 regs], .at_ code, .at_ words, .at_ cols])∨(S 4=true∧S 6=false∧S 7=false∧∃(s7004:Ls Int),FrI 117 S Φ (Ψ++ [(4,34,s7004.v),(5,35, .agg #[(.slice none 0 0),s7004.v, .int .i64 locks, .int .i64 8])]) a∧Sh (fun _=>False) W w [.own 3 (⟨s7004.v,words.l⟩:Ls Int), .blk b18 30 [.int .i64 ((checkG (pgOf code words locks regs)).code), .int .i64 ((checkG (pgOf code words locks regs)).thread), .int .i64 ((checkG (pgOf code words locks regs)).at_)], .blk b14 30 [.int .i64 0, .int .i64 0, .int .i64 0], .blk b13 25 [(.slice none 0 0),(.slice none 0 0), .int .i64 0, .int .i64 0], .blk b12 25 [code.v,words.v, .int .i64 locks, .int .i64 regs], .at_ code, .at_ words, .at_ cols])∨(S 4=false∧S 6=true∧S 7=false∧∃(b7006:Nat),FrI 117 S Φ (Ψ++ [(6,7, .pointer (some ⟨b7006,0,none⟩))]) a∧Sh (fun _=>False) W w [.blk b7006 25 [(.slice none 0 0),(.slice none 0 0), .int .i64 0, .int .i64 0], .blk b18 30 [.int .i64 ((checkG (pgOf code words locks regs)).code), .int .i64 ((checkG (pgOf code words locks regs)).thread), .int .i64 ((checkG (pgOf code words locks regs)).at_)], .blk b14 30 [.int .i64 0, .int .i64 0, .int .i64 0], .blk b13 25 [(.slice none 0 0),(.slice none 0 0), .int .i64 0, .int .i64 0], .blk b12 25 [code.v,words.v, .int .i64 locks, .int .i64 regs], .at_ code, .at_ words, .at_ cols])∨(S 4=true∧S 6=true∧S 7=false∧∃(s7004:Ls Int) (b7006:Nat),FrI 117 S Φ (Ψ++ [(4,34,s7004.v),(5,35, .agg #[(.slice none 0 0),s7004.v, .int .i64 locks, .int .i64 8]),(6,7, .pointer (some ⟨b7006,0,none⟩))]) a∧Sh (fun _=>False) W w [.blk b7006 25 [(.slice none 0 0),(.slice none 0 0), .int .i64 0, .int .i64 0], .own 3 (⟨s7004.v,words.l⟩:Ls Int), .blk b18 30 [.int .i64 ((checkG (pgOf code words locks regs)).code), .int .i64 ((checkG (pgOf code words locks regs)).thread), .int .i64 ((checkG (pgOf code words locks regs)).at_)], .blk b14 30 [.int .i64 0, .int .i64 0, .int .i64 0], .blk b13 25 [(.slice none 0 0),(.slice none 0 0), .int .i64 0, .int .i64 0], .blk b12 25 [code.v,words.v, .int .i64 locks, .int .i64 regs], .at_ code, .at_ words, .at_ cols])∨(S 4=true∧S 6=true∧S 7=true∧∃(s7004:Ls Int) (b7006:Nat),FrI 117 S Φ (Ψ++ [(4,34,s7004.v),(5,35, .agg #[(.slice none 0 0),s7004.v, .int .i64 locks, .int .i64 8]),(6,7, .pointer (some ⟨b7006,0,none⟩))]) a∧Sh (fun _=>False) W w [.blk b7006 25 [(.slice none 0 0),s7004.v, .int .i64 locks, .int .i64 8], .own 3 (⟨s7004.v,words.l⟩:Ls Int), .blk b18 30 [.int .i64 ((checkG (pgOf code words locks regs)).code), .int .i64 ((checkG (pgOf code words locks regs)).thread), .int .i64 ((checkG (pgOf code words locks regs)).at_)], .blk b14 30 [.int .i64 0, .int .i64 0, .int .i64 0], .blk b13 25 [(.slice none 0 0),(.slice none 0 0), .int .i64 0, .int .i64 0], .blk b12 25 [code.v,words.v, .int .i64 locks, .int .i64 regs], .at_ code, .at_ words, .at_ cols])) [(0, .agg #[code.v,words.v, .int .i64 locks, .int .i64 regs]),(1,cols.v),(2, .pointer (some ⟨b12,0,none⟩)),(4, .pointer (some ⟨b13,0,none⟩)),(5, .pointer (some ⟨b14,0,none⟩)),(6, .pointer (some ⟨b18,0,none⟩)),(17, .agg #[code.v,words.v, .int .i64 locks, .int .i64 regs]),(18, .agg #[.int .i64 ((checkG (pgOf code words locks regs)).code), .int .i64 ((checkG (pgOf code words locks regs)).thread), .int .i64 ((checkG (pgOf code words locks regs)).at_)]),(19, .pointer (some ⟨b18,0,none⟩)),(20, .int .i64 ((checkG (pgOf code words locks regs)).code)),(21, .bool (decide ((checkG (pgOf code words locks regs)).code≠0))),(24, .agg #[code.v,words.v, .int .i64 locks, .int .i64 regs]),(25,cols.v),(26, .bool (colsB code.l cols.l f regs.toNat)),(27, .bool (!(colsB code.l cols.l f regs.toNat)))] [(0,30, .pointer (some ⟨b12,2,none⟩)),(1,31, .int .i64 locks),(2,32, .pointer (some ⟨b12,1,none⟩)),(3,33,words.v)]) (by kernel_rfl) (by kernel_rfl) (Or.inl (⟨rfl,rfl,rfl,FrI.start h25.fr,h25.sh.drew⟩)) ?_ ?_
 ·intro S i o ho hSi hcl hdep a w hI
  clear h25
  rcases i with _|_|_|_|_|_|_|_|i
  ·obtain rfl:_=o:=Option.some.inj ho
   rcases hI with ⟨ν4,ν6,ν7,φ,ς⟩|⟨ν4,ν6,ν7,s7004,φ,ς⟩|⟨ν4,ν6,ν7,b7006,φ,ς⟩|⟨ν4,ν6,ν7,s7004,b7006,φ,ς⟩|⟨_,_,ν7,_⟩
   ·exact sq φ φ.fr0 ς (r_fieldB (r:=2) fl_25_2 rfl rfl rfl) 0 rfl rfl rfl rfl rfl rfl fun a hg=>Or.inl (⟨un rfl ν4,un rfl ν6,un rfl ν7,hg,ς⟩)
   ·exact sq φ φ.fr0 ς (r_fieldB (r:=2) fl_25_2 rfl rfl rfl) 0 rfl rfl rfl rfl rfl rfl fun a hg=>Or.inr (Or.inl (⟨un rfl ν4,un rfl ν6,un rfl ν7,s7004,hg,ς⟩))
   ·exact sq φ φ.fr0 ς (r_fieldB (r:=2) fl_25_2 rfl rfl rfl) 0 rfl rfl rfl rfl rfl rfl fun a hg=>Or.inr (Or.inr (Or.inl (⟨un rfl ν4,un rfl ν6,un rfl ν7,b7006,hg,ς⟩)))
   ·exact sq φ φ.fr0 ς (r_fieldB (r:=2) fl_25_2 rfl rfl rfl) 0 rfl rfl rfl rfl rfl rfl fun a hg=>Or.inr (Or.inr (Or.inr (Or.inl (⟨un rfl ν4,un rfl ν6,un rfl ν7,s7004,b7006,hg,ς⟩))))
   ·exact no_way (cA hcl 7 0 rfl ν7) hSi
  ·obtain rfl:_=o:=Option.some.inj ho
   have hd0:S 0=true:=depAt hdep 0 rfl rfl
   rcases hI with ⟨ν4,ν6,ν7,φ,ς⟩|⟨ν4,ν6,ν7,s7004,φ,ς⟩|⟨ν4,ν6,ν7,b7006,φ,ς⟩|⟨ν4,ν6,ν7,s7004,b7006,φ,ς⟩|⟨_,_,ν7,_⟩
   ·exact sq φ (Fr.cons φ.fr0 (φ.at_ 0 0 30 _ rfl hd0)) ς (r_ldb (i:=3) ti_3 rfl rfl rfl rfl) 1 rfl rfl rfl rfl rfl rfl fun a hg=>Or.inl (⟨un rfl ν4,un rfl ν6,un rfl ν7,hg,ς⟩)
   ·exact sq φ (Fr.cons φ.fr0 (φ.at_ 0 0 30 _ rfl hd0)) ς (r_ldb (i:=4) ti_3 rfl rfl rfl rfl) 1 rfl rfl rfl rfl rfl rfl fun a hg=>Or.inr (Or.inl (⟨un rfl ν4,un rfl ν6,un rfl ν7,s7004,hg,ς⟩))
   ·exact sq φ (Fr.cons φ.fr0 (φ.at_ 0 0 30 _ rfl hd0)) ς (r_ldb (i:=4) ti_3 rfl rfl rfl rfl) 1 rfl rfl rfl rfl rfl rfl fun a hg=>Or.inr (Or.inr (Or.inl (⟨un rfl ν4,un rfl ν6,un rfl ν7,b7006,hg,ς⟩)))
   ·exact sq φ (Fr.cons φ.fr0 (φ.at_ 0 0 30 _ rfl hd0)) ς (r_ldb (i:=5) ti_3 rfl rfl rfl rfl) 1 rfl rfl rfl rfl rfl rfl fun a hg=>Or.inr (Or.inr (Or.inr (Or.inl (⟨un rfl ν4,un rfl ν6,un rfl ν7,s7004,b7006,hg,ς⟩))))
   ·exact no_way (cA hcl 7 1 rfl ν7) hSi
  ·obtain rfl:_=o:=Option.some.inj ho
   rcases hI with ⟨ν4,ν6,ν7,φ,ς⟩|⟨ν4,_⟩|⟨ν4,ν6,ν7,b7006,φ,ς⟩|⟨ν4,_⟩|⟨ν4,_⟩
   ·exact sq φ φ.fr0 ς (r_fieldB (r:=1) fl_25_1 rfl rfl rfl) 2 rfl rfl rfl rfl rfl rfl fun a hg=>Or.inl (⟨un rfl ν4,un rfl ν6,un rfl ν7,hg,ς⟩)
   ·exact no_way (cA hcl 4 2 rfl ν4) hSi
   ·exact sq φ φ.fr0 ς (r_fieldB (r:=1) fl_25_1 rfl rfl rfl) 2 rfl rfl rfl rfl rfl rfl fun a hg=>Or.inr (Or.inr (Or.inl (⟨un rfl ν4,un rfl ν6,un rfl ν7,b7006,hg,ς⟩)))
   ·exact no_way (cA hcl 4 2 rfl ν4) hSi
   ·exact no_way (cA hcl 4 2 rfl ν4) hSi
  ·obtain rfl:_=o:=Option.some.inj ho
   have hd2:S 2=true:=depAt hdep 0 rfl rfl
   rcases hI with ⟨ν4,ν6,ν7,φ,ς⟩|⟨ν4,_⟩|⟨ν4,ν6,ν7,b7006,φ,ς⟩|⟨ν4,_⟩|⟨ν4,_⟩
   ·exact sq φ (Fr.cons φ.fr0 (φ.at_ 2 2 32 _ rfl hd2)) ς (r_ldb (i:=3) ti_23 rfl rfl rfl rfl) 3 rfl rfl rfl rfl rfl rfl fun a hg=>Or.inl (⟨un rfl ν4,un rfl ν6,un rfl ν7,hg,ς⟩)
   ·exact no_way (cA hcl 4 3 rfl ν4) hSi
   ·exact sq φ (Fr.cons φ.fr0 (φ.at_ 2 2 32 _ rfl hd2)) ς (r_ldb (i:=4) ti_23 rfl rfl rfl rfl) 3 rfl rfl rfl rfl rfl rfl fun a hg=>Or.inr (Or.inr (Or.inl (⟨un rfl ν4,un rfl ν6,un rfl ν7,b7006,hg,ς⟩)))
   ·exact no_way (cA hcl 4 3 rfl ν4) hSi
   ·exact no_way (cA hcl 4 3 rfl ν4) hSi
  ·obtain rfl:_=o:=Option.some.inj ho
   have hd3:S 3=true:=depAt hdep 0 rfl rfl
   rcases hI with ⟨ν4,ν6,ν7,φ,ς⟩|⟨ν4,_⟩|⟨ν4,ν6,ν7,b7006,φ,ς⟩|⟨ν4,_⟩|⟨ν4,_⟩
   ·have hs:=St.mk (Fr.cons φ.fr0 (φ.at_ 3 3 33 _ rfl hd3)) ς
    refine step_ex (x_call hs bd_38 rfl rfl rfl rfl rfl (cloneI_c words _ (hs.sh.at 5 rfl) (by first|omega|(simp only [lens9];omega)))) (wanted_none rfl _) ?_
    rintro a42 w42 ⟨_,⟨s42,rfl,hs42⟩,hf42⟩ ⟨v0,ht42⟩
    have h42:St _ (fun _=>False) W a42 w42 _ _:=⟨hf42,hs.sh.callI hs42⟩
    clear hf42 hs42
    exact Or.inr (Or.inl (⟨upd_self _ _,un rfl ν6,un rfl ν7,s42,φ.stepW hcl hSi [0,1,2,3] (by kernel_rfl) (by kernel_rfl) ht42 h42.fr.defers (h42.fr.at_ 34 _ rfl) 4 rfl rfl rfl rfl,(h42.sh.sel [0,1,2,3,4,5,6,7] rfl)⟩))
   ·exact no_way ν4 hSi
   ·have hs:=St.mk (Fr.cons φ.fr0 (φ.at_ 3 3 33 _ rfl hd3)) ς
    refine step_ex (x_call hs bd_38 rfl rfl rfl rfl rfl (cloneI_c words _ (hs.sh.at 6 rfl) (by first|omega|(simp only [lens9];omega)))) (wanted_none rfl _) ?_
    rintro a43 w43 ⟨_,⟨s43,rfl,hs43⟩,hf43⟩ ⟨v0,ht43⟩
    have h43:St _ (fun _=>False) W a43 w43 _ _:=⟨hf43,hs.sh.callI hs43⟩
    clear hf43 hs43
    exact Or.inr (Or.inr (Or.inr (Or.inl (⟨upd_self _ _,un rfl ν6,un rfl ν7,s43,b7006,φ.stepW hcl hSi [0,1,2,3,6] (by kernel_rfl) (by kernel_rfl) ht43 h43.fr.defers (h43.fr.at_ 34 _ rfl) 4 rfl rfl rfl rfl,(h43.sh.sel [1,0,2,3,4,5,6,7,8] rfl)⟩))))
   ·exact no_way ν4 hSi
   ·exact no_way ν4 hSi
  ·obtain rfl:_=o:=Option.some.inj ho
   have hd1:S 1=true:=depAt hdep 0 rfl rfl
   have hd4:S 4=true:=depAt hdep 1 rfl rfl
   rcases hI with ⟨ν4,_⟩|⟨ν4,ν6,ν7,s7004,φ,ς⟩|⟨ν4,_⟩|⟨ν4,ν6,ν7,s7004,b7006,φ,ς⟩|⟨_,_,ν7,_⟩
   ·exact no_way hd4 ν4
   ·exact sq φ (Fr.cons (Fr.cons φ.fr0 (φ.at_ 1 1 31 _ rfl hd1)) (φ.at_ 4 4 34 _ rfl hd4)) ς (r_buildS (cs:= [(.slice none 0 0),s7004.v, .int .i64 locks, .int .i64 8]) rfl rfl (fun w h=>by obtain ⟨A44,n44,c44,(e44:s7004.v=_)⟩:=((h.own 0 rfl)).form;rw [e44];kernel_rfl)) 5 rfl rfl rfl rfl rfl rfl fun a hg=>Or.inr (Or.inl (⟨un rfl ν4,un rfl ν6,un rfl ν7,s7004,hg,ς⟩))
   ·exact no_way hd4 ν4
   ·exact sq φ (Fr.cons (Fr.cons φ.fr0 (φ.at_ 1 1 31 _ rfl hd1)) (φ.at_ 4 4 34 _ rfl hd4)) ς (r_buildS (cs:= [(.slice none 0 0),s7004.v, .int .i64 locks, .int .i64 8]) rfl rfl (fun w h=>by obtain ⟨A46,n46,c46,(e46:s7004.v=_)⟩:=((h.own 1 rfl)).form;rw [e46];kernel_rfl)) 5 rfl rfl rfl rfl rfl rfl fun a hg=>Or.inr (Or.inr (Or.inr (Or.inl (⟨un rfl ν4,un rfl ν6,un rfl ν7,s7004,b7006,hg,ς⟩))))
   ·exact no_way (cA hcl 7 5 rfl ν7) hSi
  ·obtain rfl:_=o:=Option.some.inj ho
   rcases hI with ⟨ν4,ν6,ν7,φ,ς⟩|⟨ν4,ν6,ν7,s7004,φ,ς⟩|⟨_,ν6,_⟩|⟨_,ν6,_⟩|⟨_,ν6,_⟩
   ·have hs:=St.mk φ.fr0 ς
    refine step_ex (x_alloc hs ti_25 rfl rfl rfl) (wanted_none rfl _) ?_
    rintro a48 w48 ⟨b48,h48⟩ ⟨v0,ht48⟩
    exact Or.inr (Or.inr (Or.inl (⟨un rfl ν4,upd_self _ _,un rfl ν7,b48,φ.stepW hcl hSi [0,1,2,3] (by kernel_rfl) (by kernel_rfl) ht48 h48.fr.defers (h48.fr.at_ 7 _ rfl) 4 rfl rfl rfl rfl,(h48.sh.sel [0,1,2,3,4,5,6,7] rfl)⟩)))
   ·have hs:=St.mk φ.fr0 ς
    refine step_ex (x_alloc hs ti_25 rfl rfl rfl) (wanted_none rfl _) ?_
    rintro a49 w49 ⟨b49,h49⟩ ⟨v0,ht49⟩
    exact Or.inr (Or.inr (Or.inr (Or.inl (⟨un rfl ν4,upd_self _ _,un rfl ν7,s7004,b49,φ.stepW hcl hSi [0,1,2,3,4,5] (by kernel_rfl) (by kernel_rfl) ht49 h49.fr.defers (h49.fr.at_ 7 _ rfl) 6 rfl rfl rfl rfl,(h49.sh.sel [0,1,2,3,4,5,6,7,8] rfl)⟩))))
   ·exact no_way ν6 hSi
   ·exact no_way ν6 hSi
   ·exact no_way ν6 hSi
  ·obtain rfl:_=o:=Option.some.inj ho
   have hd6:S 6=true:=depAt hdep 0 rfl rfl
   have hd5:S 5=true:=depAt hdep 1 rfl rfl
   have hd4:S 4=true:=depAt hdep 2 rfl rfl
   rcases hI with ⟨ν4,_⟩|⟨_,ν6,_⟩|⟨ν4,_⟩|⟨ν4,ν6,ν7,s7004,b7006,φ,ς⟩|⟨_,_,ν7,_⟩
   ·exact no_way hd4 ν4
   ·exact no_way hd6 ν6
   ·exact no_way hd4 ν4
   ·have hs:=St.mk (Fr.cons (Fr.cons φ.fr0 (φ.at_ 5 5 35 _ rfl hd5)) (φ.at_ 6 6 7 _ rfl hd6)) ς
    refine step_ex (x_stb (i:=0) (vs:= [(.slice none 0 0),s7004.v, .int .i64 locks, .int .i64 8]) (cs' := [(.slice none 0 0),s7004.v, .int .i64 locks, .int .i64 8]) hs ti_25 rfl rfl rfl rfl rfl rfl rfl (allOne_cons rfl (allOne_cons ((hs.sh.own 1 rfl)).one (allOne_cons rfl (allOne_cons rfl allOne_nil)))) (Nat.le_of_ble_eq_true rfl) rfl) (wanted_none rfl _) ?_
    rintro a50 w50 h50 ⟨v0,ht50⟩
    exact Or.inr (Or.inr (Or.inr (Or.inr (⟨un rfl ν4,un rfl ν6,upd_self _ _,s7004,b7006,φ.noneW hcl hSi [0,1,2,3,4,5,6] (by kernel_rfl) (by kernel_rfl) ht50 h50.fr.defers rfl,(h50.sh.sel [0,1,2,3,4,5,6,7,8] rfl)⟩))))
   ·exact no_way ν7 hSi
  · simp at ho
 intro S hall a w hI
 clear h25
 rcases hI with ⟨ν4,ν6,ν7,φ,ς⟩|⟨ν4,ν6,ν7,s7004,φ,ς⟩|⟨ν4,ν6,ν7,b7006,φ,ς⟩|⟨ν4,ν6,ν7,s7004,b7006,φ,ς⟩|⟨ν4,ν6,ν7,s7004,b7006,φ,ς⟩
 · exact no_way (hall 4 (by decide)) ν4
 · exact no_way (hall 6 (by decide)) ν6
 · exact no_way (hall 4 (by decide)) ν4
 · exact no_way (hall 7 (by decide)) ν7
 have h51:St 117 (fun _=>False) W a w _ _:=⟨(Fr.cons φ.fr0 (φ.at_ 6 6 7 _ rfl (hall 6 (by decide)))),ς⟩
 clear hall φ ς ν4 ν6 ν7
 refine gG h51<|hK k24<|sK fun _ k52=>gNl (aA 8 rfl) fun hl53=>gRn (oM 1 rfl<|oln sl_26 (aA 8 rfl) rfl<|.nl)<|gE1 (fun _ _ h_=>x_makeMaps (n:=cols.l.length) h_ sl_77 ti_78 rfl rfl rfl (show 8*cols.l.length≤140737488355328∧cols.l.length≤140737488355328 from om9) rfl rfl) rfl fun v54=>gRn (oM 1 rfl<|.nl)<|nK k52<|gK fun _ k55=>sG (oM 1 rfl<|oln sl_26 (aA 9 rfl) rfl<|oM 1 rfl<|.nl)<|gB<|fun a58 w58 h58=>x_loop (fun m a w=>∃(t1:Nat) (wl:List Int) (vw:Value) (M:List MP),(t1≤cols.l.length)∧(wl=words.l++List.replicate (tSp cols.l regs.toNat t1) 0)∧(M.length=cols.l.length)∧(∀j,j<t1→(nth M j).l=spL (nth cols.l j).l (words.l.length+tSp cols.l regs.toNat j) regs.toNat)∧St 117 (fun _=>False) W a w [(1,cols.v),(2, .pointer (some ⟨b12,0,none⟩)),(4, .pointer (some ⟨b13,0,none⟩)),(5, .pointer (some ⟨b14,0,none⟩)),(7, .pointer (some ⟨b7006,0,none⟩)),(8,v54),(39,cols.v),(40, .int .i64 ((cols.l.length:Nat):Int)),(41, .int .i64 ((t1:Nat):Int))] [.big (mapsX 78 v54 M), .blk b7006 25 [(.slice none 0 0),vw, .int .i64 locks, .int .i64 8], .own 3 (⟨vw,wl⟩:Ls Int), .blk b18 30 [.int .i64 ((checkG (pgOf code words locks regs)).code), .int .i64 ((checkG (pgOf code words locks regs)).thread), .int .i64 ((checkG (pgOf code words locks regs)).at_)], .blk b14 30 [.int .i64 0, .int .i64 0, .int .i64 0], .blk b13 25 [(.slice none 0 0),(.slice none 0 0), .int .i64 0, .int .i64 0], .blk b12 25 [code.v,words.v, .int .i64 locks, .int .i64 regs], .at_ code, .at_ words, .at_ cols]∧m=cols.l.length-t1) ⟨_,0,words.l,s7004.v,List.replicate cols.l.length (⟨none, []⟩:MP),(by omega),(by simp [tSp]),(by simp),(fun j hj=>absurd hj (by omega)),h58.nf ⟨rfl,rfl,rfl,rfl,rfl,rfl,rfl,rfl,rfl,trivial⟩,rfl⟩ ?_;clear h51
 clear h58
 rintro m57 a57 w57 ⟨t1,wl,vw,M,ht,hwl,hML,hMR,h57,hm57⟩
 refine gG h57<|sG (oltN _ _ rfl<|.nl)<|gK fun _ k60=>gcd rfl (fun hb61 hp61=> ?_) fun hb61 hp61=> ?_;clear h57
 ·skip
  refine gS<|hK k60<|gK fun _ k62=>gB<|sG (oM 1 rfl<|oxN sl_26 ti_23 (aA 9 rfl) _ om9 rfl<|olE ((nth cols.l t1).v) ti_23 (aA 9 rfl) om9 rfl<|oM 2 rfl<|.nl)<|sK fun _ k64=>gRn (oM 2 rfl<|.nl)<|gE1 (fun _ _ h_=>x_makeZ h_ rfl rfl rfl) rfl fun g65=>gRn (oxN sl_77 ti_78 (fun w h=>(h.mapsAt 1 rfl)) _ (by rw [pvs_len];exact (show t1<M.length from (by omega))) rfl<|.nl)<|gO [1,0,2,3,4,5,6,7,8,9,10] rfl<|gE (fun _ _ h_=>x_stMaps (i:=t1) h_ ti_78 rfl rfl rfl rfl (show t1<M.length from om9)) rfl<|nK k64<|sK fun _ k68=>gNl (fun w h=>((h.at 9 rfl).nth t1 (show t1<cols.l.length from (by omega)))) fun (hl69:((nth cols.l t1).l).length≤140737488355328)=>gRn (oM 1 rfl<|oln (n:=((nth cols.l t1).l).length) sl_23 (fun w h=>((h.at 9 rfl).nth t1 (show t1<cols.l.length from (by omega)))) rfl<|oM 1 rfl<|.nl)<|nK k68<|gB<|?_
  have hcr1:=hcr t1 (by omega)
  have hts:=tSp_le (cols:=cols.l) (show regs.toNat≤200 by omega) t1
  intro a71 w71 h71
  refine x_loop (fun m a w=>∃(r1:Nat) (wl2:List Int) (vw2:Value) (M2:List MP) (gm:Nat),(r1≤regs.toNat)∧(wl2=words.l++List.replicate (tSp cols.l regs.toNat t1+nSp (nth cols.l t1).l r1) 0)∧(M2.length=cols.l.length)∧(∀j,j<t1→(nth M2 j).l=spL (nth cols.l j).l (words.l.length+tSp cols.l regs.toNat j) regs.toNat)∧((nth M2 t1).p=some gm)∧((nth M2 t1).l=spL (nth cols.l t1).l (words.l.length+tSp cols.l regs.toNat t1) r1)∧St 117 (fun _=>False) W a w [(1,cols.v),(2, .pointer (some ⟨b12,0,none⟩)),(4, .pointer (some ⟨b13,0,none⟩)),(5, .pointer (some ⟨b14,0,none⟩)),(7, .pointer (some ⟨b7006,0,none⟩)),(8,v54),(9, .int .i64 ((t1:Nat):Int)),(39,cols.v),(40, .int .i64 ((cols.l.length:Nat):Int)),(41, .int .i64 ((t1:Nat):Int)),(50,(nth cols.l t1).v),(51, .int .i64 ((((nth cols.l t1).l).length:Nat):Int)),(52, .int .i64 ((r1:Nat):Int))] [.big (mapsX 78 v54 M2), .blk b7006 25 [(.slice none 0 0),vw2, .int .i64 locks, .int .i64 8], .own 3 (⟨vw2,wl2⟩:Ls Int), .blk b18 30 [.int .i64 ((checkG (pgOf code words locks regs)).code), .int .i64 ((checkG (pgOf code words locks regs)).thread), .int .i64 ((checkG (pgOf code words locks regs)).at_)], .blk b14 30 [.int .i64 0, .int .i64 0, .int .i64 0], .blk b13 25 [(.slice none 0 0),(.slice none 0 0), .int .i64 0, .int .i64 0], .blk b12 25 [code.v,words.v, .int .i64 locks, .int .i64 regs], .at_ code, .at_ words, .at_ cols]∧m=regs.toNat-r1) ⟨_,0,wl,vw,M.set t1 ⟨(some g65), []⟩,_,(by omega),(by rw [hwl];rfl),(by rw [List.length_set];exact hML),(fun j hj=>by rw [nth_setP,if_neg (by omega)];exact hMR j hj),(by rw [nth_setP,if_pos ⟨rfl,by omega⟩]),(by rw [nth_setP,if_pos ⟨rfl,by omega⟩];rfl),h71.nf ⟨rfl,rfl,rfl,rfl,rfl,rfl,rfl,rfl,rfl,rfl,rfl,rfl,rfl,trivial⟩,rfl⟩ ?_
  clear h71
  rintro m70 a70 w70 ⟨r1,wl2,vw2,M2,gm,hr,hwl2,hML2,hMR2,hgp,hml,h70,hm70⟩
  have hwn2:wl2.length=words.l.length+(tSp cols.l regs.toNat t1+nSp (nth cols.l t1).l r1):=by rw [hwl2,List.length_append,List.length_replicate]
  have hnl:=nSp_le (nth cols.l t1).l r1
  refine gG h70<|sG (oltN _ _ rfl<|.nl)<|gK fun _ k73=>gcd rfl (fun hb74 hp74=> ?_) fun hb74 hp74=> ?_;clear h70
  ·skip
   refine gS<|hK k73<|gK fun _ k75=>gB<|sG (oM 1 rfl<|oxN sl_23 ti_3 (fun w h=>((h.at 9 rfl).nth t1 (show t1<cols.l.length from (by omega)))) _ om9 rfl<|olE (.int .i64 (nth ((nth cols.l t1).l) r1)) ti_3 (fun w h=>((h.at 9 rfl).nth t1 (show t1<cols.l.length from (by omega)))) om9 rfl<|oM 2 rfl<|.nl)<|sG (oM 1 rfl<|oltI _ _ rfl<|.nl)<|fun a79 w79 h79=> ?_
   have h78:=h79.openM 0 t1 rfl (show t1<M2.length from (by omega)) hgp
   clear h79
   refine gG h78<|?_;clear h78
   refine gcd rfl (fun hb80 hp80=> ?_) fun hb80 hp80=> ?_
   ·skip
    refine gK fun _ k81=>gNl (aO 3 rfl) fun (hl82:wl2.length≤140737488355328)=>rT 8 [] (oM 2 rfl<|oxN sl_77 ti_78 (fun w h=>(h.mapsHAt 1 rfl)) _ (by rw [pvs_len];exact (show t1<M2.length from (by omega))) rfl<|oV (Rn.same (r_lde (s:=(⟨v54,pvs M2⟩:Ls RV)) (i:=t1) (v:=(nth (pvs M2) t1).v) ti_78 rfl rfl rfl (fun w h=>(h.mapsHAt 1 rfl)) (by rw [pvs_len];exact (show t1<M2.length from om9)) (Nat.le_of_ble_eq_true rfl) rfl) ((nth_pvs (show t1<M2.length from om9)).trans (congrArg Value.map hgp))) rfl<|oM 1 rfl<|ofB fl_25_1 rfl<|olB 2 ti_23 rfl rfl<|oln (n:=wl2.length) sl_23 (aO 3 rfl) rfl<|.nl)<|gE (fun _ _ h_=>x_updZ (i:=0) (k:=((r1:Nat):Int)) (v:=((wl2.length:Nat):Int)) h_ mz_78 rfl rfl rfl rfl rfl rfl (by rw [hml];exact spL_none _ _ _)) rfl<|nK k81<|fun a85 w85 h85=> ?_
    have h84:=h85.closeM 0 t1 rfl (show t1<M2.length from (by omega)) hgp
    clear h85
    refine gG h84<|gL<|gRn (ofB fl_25_1 rfl<|olB 1 ti_23 rfl rfl<|.nl)<|gE1 (fun _ _ h_=>x_lit (n:=1) (cs:= [.int .i64 0]) ([0]:List Int) h_ sl_23 ti_3 rfl rfl rfl (by decide) rfl (by kernel_rfl) rfl (fun q hq w h=>Flat.inner _ _) (fun q hq b hb=>(Flat.on _ _ hb).elim) rfl rfl) rfl fun v86=>gE1 (fun _ _ h_=>x_app (r:=3) (rm:=0) (s:=(⟨vw2,wl2⟩:Ls Int)) (m:=(⟨v86, [0]⟩:Ls Int)) h_ sl_23 ti_3 rfl rfl rfl rfl rfl rfl rfl (fun w h=>(h.own 0 rfl)) (fun b hb=>own_on (h_.sh.ok _ (List.mem_of_getElem? (i:=0) rfl)) hb) (fun q hq b hb=>⟨q,hq,hb⟩) rfl rfl rfl inferInstance (show (wl2.length+([0]).length)*8≤140737488355328∧wl2.length+([0]).length≤140737488355328 from om9) rfl rfl) rfl fun v87=>gRn (ofB fl_25_1 rfl<|.nl)<|gsr 2 ti_23 rfl (aO 3 rfl) rfl<|nK k75<|gL<|gRn (oadN _ 1 om9 rfl<|oM 1 rfl<|.nl)<|nN<|fun a89 w89 h89=>x_again ⟨_, ?_,(r1+1),wl2++([0]),v87,M2.set t1 ⟨(nth M2 t1).p,((nth M2 t1).l)++ [(((r1:Nat):Int),((wl2.length:Nat):Int))]⟩,gm, ?_, ?_, ?_, ?_, ?_, ?_,h89.nrm ⟨rfl,rfl,rfl,rfl,rfl,rfl,rfl,rfl,rfl,rfl,rfl,rfl,rfl,trivial⟩ [1,2,3,4,5,6,7,8,9,10] rfl,rfl⟩;clear h84
    · rw [hm70];first|omega|(simp only [lens9];omega)
    · omega
    · first|exact wl_yes hwl2 (by assumption)|exact wl_no hwl2 (by assumption)
    · first|exact hML2|(rw [List.length_set];exact hML2)
    · first|exact hMR2|(intro j hj;rw [nth_setP,if_neg (by omega)];exact hMR2 j hj)
    · first|exact hgp|(rw [nth_setP,if_pos ⟨rfl,by omega⟩];exact hgp)
    · first|(rw [spL_no (by assumption)];exact hml)|(rw [nth_setP,if_pos ⟨rfl,by omega⟩];show (nth M2 t1).l++_=_;rw [hml,spL_yes (by assumption),hwn2,Nat.add_assoc])
   intro a91 w91 h91
   have h90:=h91.closeM 0 t1 rfl (show t1<M2.length from (by omega)) hgp
   clear h91
   rw [nth_set_p] at h90
   refine gG h90<|gS<|hK k75<|gL<|gRn (oadN _ 1 om9 rfl<|oM 1 rfl<|.nl)<|nN<|fun a92 w92 h92=>x_again ⟨_, ?_,(r1+1),wl2,vw2,M2,gm, ?_, ?_, ?_, ?_, ?_, ?_,h92.nf ⟨rfl,rfl,rfl,rfl,rfl,rfl,rfl,rfl,rfl,rfl,rfl,rfl,rfl,trivial⟩,rfl⟩;clear h90
   · rw [hm70];first|omega|(simp only [lens9];omega)
   · omega
   · first|exact wl_yes hwl2 (by assumption)|exact wl_no hwl2 (by assumption)
   · first|exact hML2|(rw [List.length_set];exact hML2)
   · first|exact hMR2|(intro j hj;rw [nth_setP,if_neg (by omega)];exact hMR2 j hj)
   · first|exact hgp|(rw [nth_setP,if_pos ⟨rfl,by omega⟩];exact hgp)
   · first|(rw [spL_no (by assumption)];exact hml)|(rw [nth_setP,if_pos ⟨rfl,by omega⟩];show (nth M2 t1).l++_=_;rw [hml,spL_yes (by assumption),hwn2,Nat.add_assoc])
  refine gX<|hK k62<|gL<|gRn (oadN _ 1 om9 rfl<|oM 1 rfl<|.nl)<|nN<|fun a93 w93 h93=>x_again ⟨_, ?_,(t1+1),wl2,vw2,M2, ?_, ?_, ?_, ?_,h93.nf ⟨rfl,rfl,rfl,rfl,rfl,rfl,rfl,rfl,rfl,trivial⟩,rfl⟩
  · rw [hm57];first|omega|(simp only [lens9];omega)
  · omega
  · rw [hwl2,show r1=regs.toNat by omega];rfl
  · exact hML2
  · exact all_step hMR2 (by rw [hml,show r1=regs.toNat by omega])
 refine gX<|hK k55<|?_
 have hwn1:wl.length=words.l.length+tSp cols.l regs.toNat t1:=by rw [hwl,List.length_append,List.length_replicate]
 rw [show t1=code.l.length by omega] at hwn1
 refine gK fun _ k94=>sK fun _ k95=>gNl (aO 2 rfl) fun (hl96:wl.length≤140737488355328)=>gRn (ofB fl_25_1 rfl<|olB 1 ti_23 rfl rfl<|oln (n:=wl.length) sl_23 (aO 2 rfl) rfl<|ogtN _ 64 rfl<|.nl)<|nK k95<|gcd rfl (fun hb97 hp97=> ?_) fun hb97 hp97=> ?_
 ·skip
  exfalso
  omega
 refine gS<|hK k94<|gK fun _ k98=>sK fun _ k99=>gNl (aA 7 rfl) fun hl100=>gRn (ofB fl_25_0 rfl<|olB 6 ti_22 rfl rfl<|oln sl_22 (aA 7 rfl) rfl<|oM 1 rfl<|.nl)<|nK k99<|gB<|fun a103 w103 h103=> ?_
 have h102:=h103.nilDeep (α:=Ls Ins) 45
 clear h103
 refine x_loop (fun m a w=>∃(t:Nat) (qs:List (Ls Ins)) (vq:Value),(t≤code.l.length)∧(qs.map (·.l)=(List.range t).map (fun t=>apT (nth code.l t).l (nth cols.l t).l (words.l.length+tSp cols.l regs.toNat t) regs.toNat))∧(qs.length=t)∧St 117 (fun _=>False) W a w [(1,cols.v),(4, .pointer (some ⟨b13,0,none⟩)),(5, .pointer (some ⟨b14,0,none⟩)),(7, .pointer (some ⟨b7006,0,none⟩)),(8,v54),(81,code.v),(82, .int .i64 ((code.l.length:Nat):Int)),(83, .int .i64 ((t:Nat):Int))] [.big (mapsX 78 v54 M), .blk b7006 25 [vq,vw, .int .i64 locks, .int .i64 8], .own 3 (⟨vw,wl⟩:Ls Int), .blk b18 30 [.int .i64 ((checkG (pgOf code words locks regs)).code), .int .i64 ((checkG (pgOf code words locks regs)).thread), .int .i64 ((checkG (pgOf code words locks regs)).at_)], .blk b14 30 [.int .i64 0, .int .i64 0, .int .i64 0], .blk b13 25 [(.slice none 0 0),(.slice none 0 0), .int .i64 0, .int .i64 0], .blk b12 25 [code.v,words.v, .int .i64 locks, .int .i64 regs], .at_ code, .at_ words, .at_ cols, .deep 45 (⟨vq,qs⟩:Ls (Ls Ins))]∧m=code.l.length-t) ⟨_,0, [],(.slice none 0 0),(by omega),(rfl),(rfl),h102.nrm ⟨rfl,rfl,rfl,rfl,rfl,rfl,rfl,rfl,trivial⟩ [1,2,3,4,5,6,7,8,9,10,0] rfl,rfl⟩ ?_
 clear h102
 rintro m101 a101 w101 ⟨t,qs,vq,ht3,hqs,hql,h101,hm101⟩
 refine gG h101<|sG (oltN _ _ rfl<|.nl)<|gK fun _ k105=>gcd rfl (fun hb106 hp106=> ?_) fun hb106 hp106=> ?_;clear h101
 ·skip
  refine gS<|hK k105<|gK fun _ k107=>gB<|sG (oM 1 rfl<|oxN sl_22 ti_45 (aA 7 rfl) _ om9 rfl<|olE ((nth code.l t).v) ti_45 (aA 7 rfl) om9 rfl<|oM 2 rfl<|.nl)<|?_
  obtain ⟨hl4,hjt⟩:=ok_thread hok t (by omega)
  have hov:=okV_of hok t (by omega)
  have hml9:=hMR t (by omega)
  have hcr9:=hcr t (by omega)
  refine gK fun _ k109=>rT 9 [] (oM 2 rfl<|oxN sl_26 ti_23 (aA 9 rfl) _ om9 rfl<|olE ((nth cols.l t).v) ti_23 (aA 9 rfl) om9 rfl<|oM 2 rfl<|oxN sl_77 ti_78 (fun w h=>(h.mapsAt 0 rfl)) _ (by rw [pvs_len];exact (show t<M.length from (by omega))) rfl<|oV (Rn.same (r_lde (s:=(⟨v54,pvs M⟩:Ls RV)) (i:=t) (v:=(nth (pvs M) t).v) ti_78 rfl rfl rfl (fun w h=>(h.mapsAt 0 rfl)) (by rw [pvs_len];exact (show t<M.length from om9)) (Nat.le_of_ble_eq_true rfl) rfl) (nth_pvs (show t<M.length from om9))) rfl<|oV (r_buildS (cs:= [(nth cols.l t).v, .map ((nth M t).p)]) rfl rfl (fun w h=>by obtain ⟨A110,n110,c110,(e110:(nth cols.l t).v=_)⟩:=(((h.at 9 rfl).nth t (show t<cols.l.length from om9))).form;rw [e110];kernel_rfl)) rfl<|.nl)<|gbx rfl rfl fun b111=>gRn (oM 1 rfl<|.nl)<|nK k109<|sK fun _ k112=>gRn (oM 2 rfl<|oV (r_makeFunc rfl rfl rfl) rfl<|.nl)<|gC (fun _ _ h_=>xCl h_ bd_39 rfl (moved_c (nth code.l t) 40 [.pointer (some ⟨b111,0,none⟩)] [] (fun (_:Nat) (x:Ins)=>paintF (nth cols.l t).l (fun r:Int=>(getZ r (nth M t).l).getD 0) x) (Asn.ro [.blk b111 81 [(nth cols.l t).v, .map ((nth M t).p)], .at_ (nth cols.l t), .mapO (nth M t).p (nth M t).l]) _ ((h_.sh.at 8 rfl).nth t (show t<code.l.length from (by omega))) (show (nth code.l t).l.length≤5000 by omega) bd_40 (fun _ h=>h) (roI (h_.sh.ok _ (List.mem_of_getElem? (i:=0) rfl)) ((h_.sh.at 10 rfl).nth t (show t<cols.l.length from (by omega))) (mapsX_ok h_.sh 1 rfl t (by omega))) (fun w i hE hi=>pbecome_c b111 (nth cols.l t) (nth M t).p (nth M t).l _ (nth (nth code.l t).l i) w (roE hE).1 (roE hE).2.1 (ro1 (roE hE).2.2) (hov i hi).1 (hov i hi).2.1 (fun q hq=>by have h9:=(hov i hi).2.2.2 _ (nth_mem _ _ hq);omega) (by have h9:=(hov i hi).2.2.1;omega)) (ap_b8 hml9 (by omega) hov) (ap_bok hml9 (by omega) hov hjt))) rfl<|?_
  rintro _ _ w113 ⟨s113,rfl,hl113,hs113⟩
  refine gWk hs113 rfl<|gU<|gRn (oM 1 rfl<|.nl)<|nK k112<|?_;clear hs113
  have hq1:s113.l=apT (nth code.l t).l (nth cols.l t).l (words.l.length+tSp cols.l regs.toNat t) regs.toNat:=hl113.trans (moved_ap2 hml9 (by omega) hov)
  have hq2:=congrArg List.length hq1
  refine gK fun _ k114=>sK fun _ k115=>gNl (aO 0 rfl) fun hl116=>gRn (oM 1 rfl<|oln sl_45 (aO 0 rfl) rfl<|ogtN _ 400 rfl<|.nl)<|nK k115<|gcd rfl (fun hb117 hp117=> ?_) fun hb117 hp117=> ?_
  ·skip
   exfalso
   have h9:=hfit t (by omega);omega
  refine gS<|hK k114<|gF [1,4,5,7,8,16,81,82,83] rfl<|gL<|gRn (ofB fl_25_0 rfl<|olB 3 ti_22 rfl rfl<|oM 1 rfl<|.nl)<|gE1 (fun _ _ h_=>x_litD (E:=0) (x:=s113) h_ sl_22 ti_45 rfl rfl rfl ((h_.sh.own 0 rfl)) (fun b hb=>(own_on (h_.sh.ok _ (List.mem_of_getElem? (i:=0) rfl)) hb).elim (fun h=>h) (fun h=>Flat.noRd h)) (fun b hb=>Flat.noRd hb) rfl rfl) rfl fun v118=>gO [12,0,1,2,3,4,5,6,7,8,9,10,11] rfl<|gE1 (fun _ _ h_=>x_appD (s:=(⟨vq,qs⟩:Ls (Ls Ins))) (m:=(⟨v118, [s113]⟩:Ls (Ls Ins))) h_ sl_22 ti_45 rfl rfl rfl rfl rfl rfl rfl inferInstance (show (qs.length+([s113]).length)*24≤140737488355328∧qs.length+([s113]).length≤140737488355328 from om9) rfl rfl) rfl fun v120=>gRn (ofB fl_25_0 rfl<|.nl)<|gsr 3 ti_22 rfl (aD 0 rfl) rfl<|nK k107<|gL<|gRn (oadN _ 1 om9 rfl<|oM 1 rfl<|.nl)<|nN<|fun a122 w122 h122=>x_again ⟨_, ?_,t+1,qs++([s113]),v120, ?_, ?_, ?_,h122.nrm ⟨rfl,rfl,rfl,rfl,rfl,rfl,rfl,rfl,trivial⟩ [2,3,4,5,6,7,8,9,10,11,0] rfl,rfl⟩
  · rw [hm101];first|omega|(simp only [lens9];omega)
  · first|omega|(rcases Nat.lt_or_ge t kk with h9|h9;(omega);(exfalso;have h8:t=kk:=(by omega);rw [h8] at hq2;omega))
  · rw [List.map_append,hqs,List.range_succ,List.map_append];simp [hq1]
  · simp [hql]
 refine gX<|hK k98<|sK fun _ k123=>gRn (olw 1 ti_25 rfl rfl<|oV (r_build (cs:= [.int .i64 0, .int .i64 0, .int .i64 0]) rfl rfl (by kernel_rfl)) rfl<|.nl)<|gE (fun _ _ h_=>x_stb (i:=5) (vs:= [vq,vw, .int .i64 locks, .int .i64 8]) (cs' := [vq,vw, .int .i64 locks, .int .i64 8]) h_ ti_25 rfl rfl rfl rfl rfl rfl rfl (allOne_cons ((h_.sh.deep 10 rfl)).one (allOne_cons ((h_.sh.own 2 rfl)).one (allOne_cons rfl (allOne_cons rfl allOne_nil)))) (Nat.le_of_ble_eq_true rfl) rfl) rfl<|gsw 4 ti_30 rfl rfl rfl<|nK k123<|gR<|fun a126 w126 h126=>x_ret2c (fn:=Try.f13) (t:=4) (t2:=5) (i:=5) (i2:=4) ti_25 ti_30 rfl h126 rfl rfl rfl rfl rfl rfl<|⟨⟨vq,qs⟩,⟨vw,wl⟩,rfl, ?_, ?_,(h126.sh.sel [10,2] rfl)⟩
 · show qs.map (·.l)=_;rw [hqs,show t=code.l.length by omega]
 · show wl=_;rw [hwl,show t1=code.l.length by omega]
theorem apply_w (code:Ls (Ls Ins))(words:Ls Int)(locks regs:Int)(cols:Ls (Ls Int))(f:Nat→Nat→Nat→Bool)(W:World)(hcode:code.At W)(hwords:words.At W)(hcols:cols.At W)(hok:OkPg (pgOf code words locks regs))(hF:∀t,t<code.l.length→∀r j,(f t r j=true↔LiveI (nth code.l t).l r j))(hcb:(colsB code.l cols.l f regs.toNat)=true)(htot:64<words.l.length+tSp cols.l regs.toNat code.l.length):
    Rets Try.prog 13 [.agg #[code.v,words.v, .int .i64 locks, .int .i64 regs],cols.v] W (fun v w' =>v= .tuple #[.agg #[.slice none 0 0, .slice none 0 0, .int .i64 0, .int .i64 0],(⟨1,0,0⟩:Flt).val]∧Sh0 W w' []):=by
 have hz:=checkG_ok hok
 obtain ⟨hl1,hl2,hl3,hl4',hl5,hl6,hl7⟩:=ok_len hok
 have hrg:=hok.regs
 have hrg1:(pgOf code words locks regs).regs=regs:=rfl
 rw [hrg1] at hrg
 obtain ⟨hcc,hcr⟩:=colsB_len hcb
 refine gen Try.func13 Try.ntmps13 (Sh0.ext3 hcode hwords hcols:Sh (fun _=>False) W W [.at_ code, .at_ words, .at_ cols]) rfl fun a10 h10=>gG h10<|sK fun _ k11=>gbx rfl rfl fun b12=>gal ti_25 rfl fun b13=>gal ti_30 rfl fun b14=>nK k11<|gK fun _ k15=>sK fun _ k16=>gRn (olw 2 ti_25 rfl rfl<|.nl)<|gC (fun _ _ h_=>xCl h_ bd_27 rfl (asmCheck_c (code:=code) (words:=words) (locks:=locks) (regs:=regs) (h_.sh.at 3 rfl) (h_.sh.at 4 rfl))) rfl<|?_;clear h10
 rintro _ _ w17 ⟨rfl,hs17⟩
 refine gWk hs17 rfl<|gU<|gal ti_30 rfl fun b18=>gsw 0 ti_30 rfl rfl rfl<|nK k16<|sG (ofB fl_30_0 rfl<|olB 0 ti_28 rfl rfl<|oneI _ _ rfl<|.nl)<|gcF rfl (by rw [hz];rfl)<|gS<|hK k15<|gK fun _ k21=>sK fun _ k22=>gRn (olw 3 ti_25 rfl rfl<|oM 1 rfl<|.nl)<|gP (fun _ _ h_=>xCl h_ bd_28 rfl (is_c code words locks regs cols f _ (h_.sh.at 4 rfl) (h_.sh.at 5 rfl) (h_.sh.at 6 rfl) hok hF)) rfl<|gRn (ont rfl<|.nl)<|nK k22<|gcF rfl (by rw [hcb];rfl)<|gS<|hK k21<|gK fun _ k24=>gF [0,1,2,4,5,6,17,18,19,20,21,24,25,26,27] rfl<|fun a25 w25 h25=> ?_;clear hs17
 refine x_any ((fun Φ Ψ S a w=>(S 4=false∧S 6=false∧S 7=false∧FrI 117 S Φ Ψ a∧Sh (fun _=>False) W w [.blk b18 30 [.int .i64 ((checkG (pgOf code words locks regs)).code), .int .i64 ((checkG (pgOf code words locks regs)).thread), .int .i64 ((checkG (pgOf code words locks regs)).at_)], .blk b14 30 [.int .i64 0, .int .i64 0, .int .i64 0], .blk b13 25 [(.slice none 0 0),(.slice none 0 0), .int .i64 0, .int .i64 0], .blk b12 25 [code.v,words.v, .int .i64 locks, .int .i64 regs], .at_ code, .at_ words, .at_ cols])∨(S 4=true∧S 6=false∧S 7=false∧∃(s7004:Ls Int),FrI 117 S Φ (Ψ++ [(4,34,s7004.v),(5,35, .agg #[(.slice none 0 0),s7004.v, .int .i64 locks, .int .i64 8])]) a∧Sh (fun _=>False) W w [.own 3 (⟨s7004.v,words.l⟩:Ls Int), .blk b18 30 [.int .i64 ((checkG (pgOf code words locks regs)).code), .int .i64 ((checkG (pgOf code words locks regs)).thread), .int .i64 ((checkG (pgOf code words locks regs)).at_)], .blk b14 30 [.int .i64 0, .int .i64 0, .int .i64 0], .blk b13 25 [(.slice none 0 0),(.slice none 0 0), .int .i64 0, .int .i64 0], .blk b12 25 [code.v,words.v, .int .i64 locks, .int .i64 regs], .at_ code, .at_ words, .at_ cols])∨(S 4=false∧S 6=true∧S 7=false∧∃(b7006:Nat),FrI 117 S Φ (Ψ++ [(6,7, .pointer (some ⟨b7006,0,none⟩))]) a∧Sh (fun _=>False) W w [.blk b7006 25 [(.slice none 0 0),(.slice none 0 0), .int .i64 0, .int .i64 0], .blk b18 30 [.int .i64 ((checkG (pgOf code words locks regs)).code), .int .i64 ((checkG (pgOf code words locks regs)).thread), .int .i64 ((checkG (pgOf code words locks regs)).at_)], .blk b14 30 [.int .i64 0, .int .i64 0, .int .i64 0], .blk b13 25 [(.slice none 0 0),(.slice none 0 0), .int .i64 0, .int .i64 0], .blk b12 25 [code.v,words.v, .int .i64 locks, .int .i64 regs], .at_ code, .at_ words, .at_ cols])∨(S 4=true∧S 6=true∧S 7=false∧∃(s7004:Ls Int) (b7006:Nat),FrI 117 S Φ (Ψ++ [(4,34,s7004.v),(5,35, .agg #[(.slice none 0 0),s7004.v, .int .i64 locks, .int .i64 8]),(6,7, .pointer (some ⟨b7006,0,none⟩))]) a∧Sh (fun _=>False) W w [.blk b7006 25 [(.slice none 0 0),(.slice none 0 0), .int .i64 0, .int .i64 0], .own 3 (⟨s7004.v,words.l⟩:Ls Int), .blk b18 30 [.int .i64 ((checkG (pgOf code words locks regs)).code), .int .i64 ((checkG (pgOf code words locks regs)).thread), .int .i64 ((checkG (pgOf code words locks regs)).at_)], .blk b14 30 [.int .i64 0, .int .i64 0, .int .i64 0], .blk b13 25 [(.slice none 0 0),(.slice none 0 0), .int .i64 0, .int .i64 0], .blk b12 25 [code.v,words.v, .int .i64 locks, .int .i64 regs], .at_ code, .at_ words, .at_ cols])∨(S 4=true∧S 6=true∧S 7=true∧∃(s7004:Ls Int) (b7006:Nat),FrI 117 S Φ (Ψ++ [(4,34,s7004.v),(5,35, .agg #[(.slice none 0 0),s7004.v, .int .i64 locks, .int .i64 8]),(6,7, .pointer (some ⟨b7006,0,none⟩))]) a∧Sh (fun _=>False) W w [.blk b7006 25 [(.slice none 0 0),s7004.v, .int .i64 locks, .int .i64 8], .own 3 (⟨s7004.v,words.l⟩:Ls Int), .blk b18 30 [.int .i64 ((checkG (pgOf code words locks regs)).code), .int .i64 ((checkG (pgOf code words locks regs)).thread), .int .i64 ((checkG (pgOf code words locks regs)).at_)], .blk b14 30 [.int .i64 0, .int .i64 0, .int .i64 0], .blk b13 25 [(.slice none 0 0),(.slice none 0 0), .int .i64 0, .int .i64 0], .blk b12 25 [code.v,words.v, .int .i64 locks, .int .i64 regs], .at_ code, .at_ words, .at_ cols])) [(0, .agg #[code.v,words.v, .int .i64 locks, .int .i64 regs]),(1,cols.v),(2, .pointer (some ⟨b12,0,none⟩)),(4, .pointer (some ⟨b13,0,none⟩)),(5, .pointer (some ⟨b14,0,none⟩)),(6, .pointer (some ⟨b18,0,none⟩)),(17, .agg #[code.v,words.v, .int .i64 locks, .int .i64 regs]),(18, .agg #[.int .i64 ((checkG (pgOf code words locks regs)).code), .int .i64 ((checkG (pgOf code words locks regs)).thread), .int .i64 ((checkG (pgOf code words locks regs)).at_)]),(19, .pointer (some ⟨b18,0,none⟩)),(20, .int .i64 ((checkG (pgOf code words locks regs)).code)),(21, .bool (decide ((checkG (pgOf code words locks regs)).code≠0))),(24, .agg #[code.v,words.v, .int .i64 locks, .int .i64 regs]),(25,cols.v),(26, .bool (colsB code.l cols.l f regs.toNat)),(27, .bool (!(colsB code.l cols.l f regs.toNat)))] [(0,30, .pointer (some ⟨b12,2,none⟩)),(1,31, .int .i64 locks),(2,32, .pointer (some ⟨b12,1,none⟩)),(3,33,words.v)]) (by kernel_rfl) (by kernel_rfl) (Or.inl (⟨rfl,rfl,rfl,FrI.start h25.fr,h25.sh.drew⟩)) ?_ ?_
 ·intro S i o ho hSi hcl hdep a w hI
  clear h25
  rcases i with _|_|_|_|_|_|_|_|i
  ·obtain rfl:_=o:=Option.some.inj ho
   rcases hI with ⟨ν4,ν6,ν7,φ,ς⟩|⟨ν4,ν6,ν7,s7004,φ,ς⟩|⟨ν4,ν6,ν7,b7006,φ,ς⟩|⟨ν4,ν6,ν7,s7004,b7006,φ,ς⟩|⟨_,_,ν7,_⟩
   ·exact sq φ φ.fr0 ς (r_fieldB (r:=2) fl_25_2 rfl rfl rfl) 0 rfl rfl rfl rfl rfl rfl fun a hg=>Or.inl (⟨un rfl ν4,un rfl ν6,un rfl ν7,hg,ς⟩)
   ·exact sq φ φ.fr0 ς (r_fieldB (r:=2) fl_25_2 rfl rfl rfl) 0 rfl rfl rfl rfl rfl rfl fun a hg=>Or.inr (Or.inl (⟨un rfl ν4,un rfl ν6,un rfl ν7,s7004,hg,ς⟩))
   ·exact sq φ φ.fr0 ς (r_fieldB (r:=2) fl_25_2 rfl rfl rfl) 0 rfl rfl rfl rfl rfl rfl fun a hg=>Or.inr (Or.inr (Or.inl (⟨un rfl ν4,un rfl ν6,un rfl ν7,b7006,hg,ς⟩)))
   ·exact sq φ φ.fr0 ς (r_fieldB (r:=2) fl_25_2 rfl rfl rfl) 0 rfl rfl rfl rfl rfl rfl fun a hg=>Or.inr (Or.inr (Or.inr (Or.inl (⟨un rfl ν4,un rfl ν6,un rfl ν7,s7004,b7006,hg,ς⟩))))
   ·exact no_way (cA hcl 7 0 rfl ν7) hSi
  ·obtain rfl:_=o:=Option.some.inj ho
   have hd0:S 0=true:=depAt hdep 0 rfl rfl
   rcases hI with ⟨ν4,ν6,ν7,φ,ς⟩|⟨ν4,ν6,ν7,s7004,φ,ς⟩|⟨ν4,ν6,ν7,b7006,φ,ς⟩|⟨ν4,ν6,ν7,s7004,b7006,φ,ς⟩|⟨_,_,ν7,_⟩
   ·exact sq φ (Fr.cons φ.fr0 (φ.at_ 0 0 30 _ rfl hd0)) ς (r_ldb (i:=3) ti_3 rfl rfl rfl rfl) 1 rfl rfl rfl rfl rfl rfl fun a hg=>Or.inl (⟨un rfl ν4,un rfl ν6,un rfl ν7,hg,ς⟩)
   ·exact sq φ (Fr.cons φ.fr0 (φ.at_ 0 0 30 _ rfl hd0)) ς (r_ldb (i:=4) ti_3 rfl rfl rfl rfl) 1 rfl rfl rfl rfl rfl rfl fun a hg=>Or.inr (Or.inl (⟨un rfl ν4,un rfl ν6,un rfl ν7,s7004,hg,ς⟩))
   ·exact sq φ (Fr.cons φ.fr0 (φ.at_ 0 0 30 _ rfl hd0)) ς (r_ldb (i:=4) ti_3 rfl rfl rfl rfl) 1 rfl rfl rfl rfl rfl rfl fun a hg=>Or.inr (Or.inr (Or.inl (⟨un rfl ν4,un rfl ν6,un rfl ν7,b7006,hg,ς⟩)))
   ·exact sq φ (Fr.cons φ.fr0 (φ.at_ 0 0 30 _ rfl hd0)) ς (r_ldb (i:=5) ti_3 rfl rfl rfl rfl) 1 rfl rfl rfl rfl rfl rfl fun a hg=>Or.inr (Or.inr (Or.inr (Or.inl (⟨un rfl ν4,un rfl ν6,un rfl ν7,s7004,b7006,hg,ς⟩))))
   ·exact no_way (cA hcl 7 1 rfl ν7) hSi
  ·obtain rfl:_=o:=Option.some.inj ho
   rcases hI with ⟨ν4,ν6,ν7,φ,ς⟩|⟨ν4,_⟩|⟨ν4,ν6,ν7,b7006,φ,ς⟩|⟨ν4,_⟩|⟨ν4,_⟩
   ·exact sq φ φ.fr0 ς (r_fieldB (r:=1) fl_25_1 rfl rfl rfl) 2 rfl rfl rfl rfl rfl rfl fun a hg=>Or.inl (⟨un rfl ν4,un rfl ν6,un rfl ν7,hg,ς⟩)
   ·exact no_way (cA hcl 4 2 rfl ν4) hSi
   ·exact sq φ φ.fr0 ς (r_fieldB (r:=1) fl_25_1 rfl rfl rfl) 2 rfl rfl rfl rfl rfl rfl fun a hg=>Or.inr (Or.inr (Or.inl (⟨un rfl ν4,un rfl ν6,un rfl ν7,b7006,hg,ς⟩)))
   ·exact no_way (cA hcl 4 2 rfl ν4) hSi
   ·exact no_way (cA hcl 4 2 rfl ν4) hSi
  ·obtain rfl:_=o:=Option.some.inj ho
   have hd2:S 2=true:=depAt hdep 0 rfl rfl
   rcases hI with ⟨ν4,ν6,ν7,φ,ς⟩|⟨ν4,_⟩|⟨ν4,ν6,ν7,b7006,φ,ς⟩|⟨ν4,_⟩|⟨ν4,_⟩
   ·exact sq φ (Fr.cons φ.fr0 (φ.at_ 2 2 32 _ rfl hd2)) ς (r_ldb (i:=3) ti_23 rfl rfl rfl rfl) 3 rfl rfl rfl rfl rfl rfl fun a hg=>Or.inl (⟨un rfl ν4,un rfl ν6,un rfl ν7,hg,ς⟩)
   ·exact no_way (cA hcl 4 3 rfl ν4) hSi
   ·exact sq φ (Fr.cons φ.fr0 (φ.at_ 2 2 32 _ rfl hd2)) ς (r_ldb (i:=4) ti_23 rfl rfl rfl rfl) 3 rfl rfl rfl rfl rfl rfl fun a hg=>Or.inr (Or.inr (Or.inl (⟨un rfl ν4,un rfl ν6,un rfl ν7,b7006,hg,ς⟩)))
   ·exact no_way (cA hcl 4 3 rfl ν4) hSi
   ·exact no_way (cA hcl 4 3 rfl ν4) hSi
  ·obtain rfl:_=o:=Option.some.inj ho
   have hd3:S 3=true:=depAt hdep 0 rfl rfl
   rcases hI with ⟨ν4,ν6,ν7,φ,ς⟩|⟨ν4,_⟩|⟨ν4,ν6,ν7,b7006,φ,ς⟩|⟨ν4,_⟩|⟨ν4,_⟩
   ·have hs:=St.mk (Fr.cons φ.fr0 (φ.at_ 3 3 33 _ rfl hd3)) ς
    refine step_ex (x_call hs bd_38 rfl rfl rfl rfl rfl (cloneI_c words _ (hs.sh.at 5 rfl) (by first|omega|(simp only [lens9];omega)))) (wanted_none rfl _) ?_
    rintro a42 w42 ⟨_,⟨s42,rfl,hs42⟩,hf42⟩ ⟨v0,ht42⟩
    have h42:St _ (fun _=>False) W a42 w42 _ _:=⟨hf42,hs.sh.callI hs42⟩
    clear hf42 hs42
    exact Or.inr (Or.inl (⟨upd_self _ _,un rfl ν6,un rfl ν7,s42,φ.stepW hcl hSi [0,1,2,3] (by kernel_rfl) (by kernel_rfl) ht42 h42.fr.defers (h42.fr.at_ 34 _ rfl) 4 rfl rfl rfl rfl,(h42.sh.sel [0,1,2,3,4,5,6,7] rfl)⟩))
   ·exact no_way ν4 hSi
   ·have hs:=St.mk (Fr.cons φ.fr0 (φ.at_ 3 3 33 _ rfl hd3)) ς
    refine step_ex (x_call hs bd_38 rfl rfl rfl rfl rfl (cloneI_c words _ (hs.sh.at 6 rfl) (by first|omega|(simp only [lens9];omega)))) (wanted_none rfl _) ?_
    rintro a43 w43 ⟨_,⟨s43,rfl,hs43⟩,hf43⟩ ⟨v0,ht43⟩
    have h43:St _ (fun _=>False) W a43 w43 _ _:=⟨hf43,hs.sh.callI hs43⟩
    clear hf43 hs43
    exact Or.inr (Or.inr (Or.inr (Or.inl (⟨upd_self _ _,un rfl ν6,un rfl ν7,s43,b7006,φ.stepW hcl hSi [0,1,2,3,6] (by kernel_rfl) (by kernel_rfl) ht43 h43.fr.defers (h43.fr.at_ 34 _ rfl) 4 rfl rfl rfl rfl,(h43.sh.sel [1,0,2,3,4,5,6,7,8] rfl)⟩))))
   ·exact no_way ν4 hSi
   ·exact no_way ν4 hSi
  ·obtain rfl:_=o:=Option.some.inj ho
   have hd1:S 1=true:=depAt hdep 0 rfl rfl
   have hd4:S 4=true:=depAt hdep 1 rfl rfl
   rcases hI with ⟨ν4,_⟩|⟨ν4,ν6,ν7,s7004,φ,ς⟩|⟨ν4,_⟩|⟨ν4,ν6,ν7,s7004,b7006,φ,ς⟩|⟨_,_,ν7,_⟩
   ·exact no_way hd4 ν4
   ·exact sq φ (Fr.cons (Fr.cons φ.fr0 (φ.at_ 1 1 31 _ rfl hd1)) (φ.at_ 4 4 34 _ rfl hd4)) ς (r_buildS (cs:= [(.slice none 0 0),s7004.v, .int .i64 locks, .int .i64 8]) rfl rfl (fun w h=>by obtain ⟨A44,n44,c44,(e44:s7004.v=_)⟩:=((h.own 0 rfl)).form;rw [e44];kernel_rfl)) 5 rfl rfl rfl rfl rfl rfl fun a hg=>Or.inr (Or.inl (⟨un rfl ν4,un rfl ν6,un rfl ν7,s7004,hg,ς⟩))
   ·exact no_way hd4 ν4
   ·exact sq φ (Fr.cons (Fr.cons φ.fr0 (φ.at_ 1 1 31 _ rfl hd1)) (φ.at_ 4 4 34 _ rfl hd4)) ς (r_buildS (cs:= [(.slice none 0 0),s7004.v, .int .i64 locks, .int .i64 8]) rfl rfl (fun w h=>by obtain ⟨A46,n46,c46,(e46:s7004.v=_)⟩:=((h.own 1 rfl)).form;rw [e46];kernel_rfl)) 5 rfl rfl rfl rfl rfl rfl fun a hg=>Or.inr (Or.inr (Or.inr (Or.inl (⟨un rfl ν4,un rfl ν6,un rfl ν7,s7004,b7006,hg,ς⟩))))
   ·exact no_way (cA hcl 7 5 rfl ν7) hSi
  ·obtain rfl:_=o:=Option.some.inj ho
   rcases hI with ⟨ν4,ν6,ν7,φ,ς⟩|⟨ν4,ν6,ν7,s7004,φ,ς⟩|⟨_,ν6,_⟩|⟨_,ν6,_⟩|⟨_,ν6,_⟩
   ·have hs:=St.mk φ.fr0 ς
    refine step_ex (x_alloc hs ti_25 rfl rfl rfl) (wanted_none rfl _) ?_
    rintro a48 w48 ⟨b48,h48⟩ ⟨v0,ht48⟩
    exact Or.inr (Or.inr (Or.inl (⟨un rfl ν4,upd_self _ _,un rfl ν7,b48,φ.stepW hcl hSi [0,1,2,3] (by kernel_rfl) (by kernel_rfl) ht48 h48.fr.defers (h48.fr.at_ 7 _ rfl) 4 rfl rfl rfl rfl,(h48.sh.sel [0,1,2,3,4,5,6,7] rfl)⟩)))
   ·have hs:=St.mk φ.fr0 ς
    refine step_ex (x_alloc hs ti_25 rfl rfl rfl) (wanted_none rfl _) ?_
    rintro a49 w49 ⟨b49,h49⟩ ⟨v0,ht49⟩
    exact Or.inr (Or.inr (Or.inr (Or.inl (⟨un rfl ν4,upd_self _ _,un rfl ν7,s7004,b49,φ.stepW hcl hSi [0,1,2,3,4,5] (by kernel_rfl) (by kernel_rfl) ht49 h49.fr.defers (h49.fr.at_ 7 _ rfl) 6 rfl rfl rfl rfl,(h49.sh.sel [0,1,2,3,4,5,6,7,8] rfl)⟩))))
   ·exact no_way ν6 hSi
   ·exact no_way ν6 hSi
   ·exact no_way ν6 hSi
  ·obtain rfl:_=o:=Option.some.inj ho
   have hd6:S 6=true:=depAt hdep 0 rfl rfl
   have hd5:S 5=true:=depAt hdep 1 rfl rfl
   have hd4:S 4=true:=depAt hdep 2 rfl rfl
   rcases hI with ⟨ν4,_⟩|⟨_,ν6,_⟩|⟨ν4,_⟩|⟨ν4,ν6,ν7,s7004,b7006,φ,ς⟩|⟨_,_,ν7,_⟩
   ·exact no_way hd4 ν4
   ·exact no_way hd6 ν6
   ·exact no_way hd4 ν4
   ·have hs:=St.mk (Fr.cons (Fr.cons φ.fr0 (φ.at_ 5 5 35 _ rfl hd5)) (φ.at_ 6 6 7 _ rfl hd6)) ς
    refine step_ex (x_stb (i:=0) (vs:= [(.slice none 0 0),s7004.v, .int .i64 locks, .int .i64 8]) (cs' := [(.slice none 0 0),s7004.v, .int .i64 locks, .int .i64 8]) hs ti_25 rfl rfl rfl rfl rfl rfl rfl (allOne_cons rfl (allOne_cons ((hs.sh.own 1 rfl)).one (allOne_cons rfl (allOne_cons rfl allOne_nil)))) (Nat.le_of_ble_eq_true rfl) rfl) (wanted_none rfl _) ?_
    rintro a50 w50 h50 ⟨v0,ht50⟩
    exact Or.inr (Or.inr (Or.inr (Or.inr (⟨un rfl ν4,un rfl ν6,upd_self _ _,s7004,b7006,φ.noneW hcl hSi [0,1,2,3,4,5,6] (by kernel_rfl) (by kernel_rfl) ht50 h50.fr.defers rfl,(h50.sh.sel [0,1,2,3,4,5,6,7,8] rfl)⟩))))
   ·exact no_way ν7 hSi
  · simp at ho
 intro S hall a w hI
 clear h25
 rcases hI with ⟨ν4,ν6,ν7,φ,ς⟩|⟨ν4,ν6,ν7,s7004,φ,ς⟩|⟨ν4,ν6,ν7,b7006,φ,ς⟩|⟨ν4,ν6,ν7,s7004,b7006,φ,ς⟩|⟨ν4,ν6,ν7,s7004,b7006,φ,ς⟩
 · exact no_way (hall 4 (by decide)) ν4
 · exact no_way (hall 6 (by decide)) ν6
 · exact no_way (hall 4 (by decide)) ν4
 · exact no_way (hall 7 (by decide)) ν7
 have h51:St 117 (fun _=>False) W a w _ _:=⟨(Fr.cons φ.fr0 (φ.at_ 6 6 7 _ rfl (hall 6 (by decide)))),ς⟩
 clear hall φ ς ν4 ν6 ν7
 refine gG h51<|hK k24<|sK fun _ k52=>gNl (aA 8 rfl) fun hl53=>gRn (oM 1 rfl<|oln sl_26 (aA 8 rfl) rfl<|.nl)<|gE1 (fun _ _ h_=>x_makeMaps (n:=cols.l.length) h_ sl_77 ti_78 rfl rfl rfl (show 8*cols.l.length≤140737488355328∧cols.l.length≤140737488355328 from om9) rfl rfl) rfl fun v54=>gRn (oM 1 rfl<|.nl)<|nK k52<|gK fun _ k55=>sG (oM 1 rfl<|oln sl_26 (aA 9 rfl) rfl<|oM 1 rfl<|.nl)<|gB<|fun a58 w58 h58=>x_loop (fun m a w=>∃(t1:Nat) (wl:List Int) (vw:Value) (M:List MP),(t1≤cols.l.length)∧(wl=words.l++List.replicate (tSp cols.l regs.toNat t1) 0)∧(M.length=cols.l.length)∧(∀j,j<t1→(nth M j).l=spL (nth cols.l j).l (words.l.length+tSp cols.l regs.toNat j) regs.toNat)∧St 117 (fun _=>False) W a w [(1,cols.v),(2, .pointer (some ⟨b12,0,none⟩)),(4, .pointer (some ⟨b13,0,none⟩)),(5, .pointer (some ⟨b14,0,none⟩)),(7, .pointer (some ⟨b7006,0,none⟩)),(8,v54),(39,cols.v),(40, .int .i64 ((cols.l.length:Nat):Int)),(41, .int .i64 ((t1:Nat):Int))] [.big (mapsX 78 v54 M), .blk b7006 25 [(.slice none 0 0),vw, .int .i64 locks, .int .i64 8], .own 3 (⟨vw,wl⟩:Ls Int), .blk b18 30 [.int .i64 ((checkG (pgOf code words locks regs)).code), .int .i64 ((checkG (pgOf code words locks regs)).thread), .int .i64 ((checkG (pgOf code words locks regs)).at_)], .blk b14 30 [.int .i64 0, .int .i64 0, .int .i64 0], .blk b13 25 [(.slice none 0 0),(.slice none 0 0), .int .i64 0, .int .i64 0], .blk b12 25 [code.v,words.v, .int .i64 locks, .int .i64 regs], .at_ code, .at_ words, .at_ cols]∧m=cols.l.length-t1) ⟨_,0,words.l,s7004.v,List.replicate cols.l.length (⟨none, []⟩:MP),(by omega),(by simp [tSp]),(by simp),(fun j hj=>absurd hj (by omega)),h58.nf ⟨rfl,rfl,rfl,rfl,rfl,rfl,rfl,rfl,rfl,trivial⟩,rfl⟩ ?_;clear h51
 clear h58
 rintro m57 a57 w57 ⟨t1,wl,vw,M,ht,hwl,hML,hMR,h57,hm57⟩
 refine gG h57<|sG (oltN _ _ rfl<|.nl)<|gK fun _ k60=>gcd rfl (fun hb61 hp61=> ?_) fun hb61 hp61=> ?_;clear h57
 ·skip
  refine gS<|hK k60<|gK fun _ k62=>gB<|sG (oM 1 rfl<|oxN sl_26 ti_23 (aA 9 rfl) _ om9 rfl<|olE ((nth cols.l t1).v) ti_23 (aA 9 rfl) om9 rfl<|oM 2 rfl<|.nl)<|sK fun _ k64=>gRn (oM 2 rfl<|.nl)<|gE1 (fun _ _ h_=>x_makeZ h_ rfl rfl rfl) rfl fun g65=>gRn (oxN sl_77 ti_78 (fun w h=>(h.mapsAt 1 rfl)) _ (by rw [pvs_len];exact (show t1<M.length from (by omega))) rfl<|.nl)<|gO [1,0,2,3,4,5,6,7,8,9,10] rfl<|gE (fun _ _ h_=>x_stMaps (i:=t1) h_ ti_78 rfl rfl rfl rfl (show t1<M.length from om9)) rfl<|nK k64<|sK fun _ k68=>gNl (fun w h=>((h.at 9 rfl).nth t1 (show t1<cols.l.length from (by omega)))) fun (hl69:((nth cols.l t1).l).length≤140737488355328)=>gRn (oM 1 rfl<|oln (n:=((nth cols.l t1).l).length) sl_23 (fun w h=>((h.at 9 rfl).nth t1 (show t1<cols.l.length from (by omega)))) rfl<|oM 1 rfl<|.nl)<|nK k68<|gB<|?_
  have hcr1:=hcr t1 (by omega)
  have hts:=tSp_le (cols:=cols.l) (show regs.toNat≤200 by omega) t1
  intro a71 w71 h71
  refine x_loop (fun m a w=>∃(r1:Nat) (wl2:List Int) (vw2:Value) (M2:List MP) (gm:Nat),(r1≤regs.toNat)∧(wl2=words.l++List.replicate (tSp cols.l regs.toNat t1+nSp (nth cols.l t1).l r1) 0)∧(M2.length=cols.l.length)∧(∀j,j<t1→(nth M2 j).l=spL (nth cols.l j).l (words.l.length+tSp cols.l regs.toNat j) regs.toNat)∧((nth M2 t1).p=some gm)∧((nth M2 t1).l=spL (nth cols.l t1).l (words.l.length+tSp cols.l regs.toNat t1) r1)∧St 117 (fun _=>False) W a w [(1,cols.v),(2, .pointer (some ⟨b12,0,none⟩)),(4, .pointer (some ⟨b13,0,none⟩)),(5, .pointer (some ⟨b14,0,none⟩)),(7, .pointer (some ⟨b7006,0,none⟩)),(8,v54),(9, .int .i64 ((t1:Nat):Int)),(39,cols.v),(40, .int .i64 ((cols.l.length:Nat):Int)),(41, .int .i64 ((t1:Nat):Int)),(50,(nth cols.l t1).v),(51, .int .i64 ((((nth cols.l t1).l).length:Nat):Int)),(52, .int .i64 ((r1:Nat):Int))] [.big (mapsX 78 v54 M2), .blk b7006 25 [(.slice none 0 0),vw2, .int .i64 locks, .int .i64 8], .own 3 (⟨vw2,wl2⟩:Ls Int), .blk b18 30 [.int .i64 ((checkG (pgOf code words locks regs)).code), .int .i64 ((checkG (pgOf code words locks regs)).thread), .int .i64 ((checkG (pgOf code words locks regs)).at_)], .blk b14 30 [.int .i64 0, .int .i64 0, .int .i64 0], .blk b13 25 [(.slice none 0 0),(.slice none 0 0), .int .i64 0, .int .i64 0], .blk b12 25 [code.v,words.v, .int .i64 locks, .int .i64 regs], .at_ code, .at_ words, .at_ cols]∧m=regs.toNat-r1) ⟨_,0,wl,vw,M.set t1 ⟨(some g65), []⟩,_,(by omega),(by rw [hwl];rfl),(by rw [List.length_set];exact hML),(fun j hj=>by rw [nth_setP,if_neg (by omega)];exact hMR j hj),(by rw [nth_setP,if_pos ⟨rfl,by omega⟩]),(by rw [nth_setP,if_pos ⟨rfl,by omega⟩];rfl),h71.nf ⟨rfl,rfl,rfl,rfl,rfl,rfl,rfl,rfl,rfl,rfl,rfl,rfl,rfl,trivial⟩,rfl⟩ ?_
  clear h71
  rintro m70 a70 w70 ⟨r1,wl2,vw2,M2,gm,hr,hwl2,hML2,hMR2,hgp,hml,h70,hm70⟩
  have hwn2:wl2.length=words.l.length+(tSp cols.l regs.toNat t1+nSp (nth cols.l t1).l r1):=by rw [hwl2,List.length_append,List.length_replicate]
  have hnl:=nSp_le (nth cols.l t1).l r1
  refine gG h70<|sG (oltN _ _ rfl<|.nl)<|gK fun _ k73=>gcd rfl (fun hb74 hp74=> ?_) fun hb74 hp74=> ?_;clear h70
  ·skip
   refine gS<|hK k73<|gK fun _ k75=>gB<|sG (oM 1 rfl<|oxN sl_23 ti_3 (fun w h=>((h.at 9 rfl).nth t1 (show t1<cols.l.length from (by omega)))) _ om9 rfl<|olE (.int .i64 (nth ((nth cols.l t1).l) r1)) ti_3 (fun w h=>((h.at 9 rfl).nth t1 (show t1<cols.l.length from (by omega)))) om9 rfl<|oM 2 rfl<|.nl)<|sG (oM 1 rfl<|oltI _ _ rfl<|.nl)<|fun a79 w79 h79=> ?_
   have h78:=h79.openM 0 t1 rfl (show t1<M2.length from (by omega)) hgp
   clear h79
   refine gG h78<|?_;clear h78
   refine gcd rfl (fun hb80 hp80=> ?_) fun hb80 hp80=> ?_
   ·skip
    refine gK fun _ k81=>gNl (aO 3 rfl) fun (hl82:wl2.length≤140737488355328)=>rT 8 [] (oM 2 rfl<|oxN sl_77 ti_78 (fun w h=>(h.mapsHAt 1 rfl)) _ (by rw [pvs_len];exact (show t1<M2.length from (by omega))) rfl<|oV (Rn.same (r_lde (s:=(⟨v54,pvs M2⟩:Ls RV)) (i:=t1) (v:=(nth (pvs M2) t1).v) ti_78 rfl rfl rfl (fun w h=>(h.mapsHAt 1 rfl)) (by rw [pvs_len];exact (show t1<M2.length from om9)) (Nat.le_of_ble_eq_true rfl) rfl) ((nth_pvs (show t1<M2.length from om9)).trans (congrArg Value.map hgp))) rfl<|oM 1 rfl<|ofB fl_25_1 rfl<|olB 2 ti_23 rfl rfl<|oln (n:=wl2.length) sl_23 (aO 3 rfl) rfl<|.nl)<|gE (fun _ _ h_=>x_updZ (i:=0) (k:=((r1:Nat):Int)) (v:=((wl2.length:Nat):Int)) h_ mz_78 rfl rfl rfl rfl rfl rfl (by rw [hml];exact spL_none _ _ _)) rfl<|nK k81<|fun a85 w85 h85=> ?_
    have h84:=h85.closeM 0 t1 rfl (show t1<M2.length from (by omega)) hgp
    clear h85
    refine gG h84<|gL<|gRn (ofB fl_25_1 rfl<|olB 1 ti_23 rfl rfl<|.nl)<|gE1 (fun _ _ h_=>x_lit (n:=1) (cs:= [.int .i64 0]) ([0]:List Int) h_ sl_23 ti_3 rfl rfl rfl (by decide) rfl (by kernel_rfl) rfl (fun q hq w h=>Flat.inner _ _) (fun q hq b hb=>(Flat.on _ _ hb).elim) rfl rfl) rfl fun v86=>gE1 (fun _ _ h_=>x_app (r:=3) (rm:=0) (s:=(⟨vw2,wl2⟩:Ls Int)) (m:=(⟨v86, [0]⟩:Ls Int)) h_ sl_23 ti_3 rfl rfl rfl rfl rfl rfl rfl (fun w h=>(h.own 0 rfl)) (fun b hb=>own_on (h_.sh.ok _ (List.mem_of_getElem? (i:=0) rfl)) hb) (fun q hq b hb=>⟨q,hq,hb⟩) rfl rfl rfl inferInstance (show (wl2.length+([0]).length)*8≤140737488355328∧wl2.length+([0]).length≤140737488355328 from om9) rfl rfl) rfl fun v87=>gRn (ofB fl_25_1 rfl<|.nl)<|gsr 2 ti_23 rfl (aO 3 rfl) rfl<|nK k75<|gL<|gRn (oadN _ 1 om9 rfl<|oM 1 rfl<|.nl)<|nN<|fun a89 w89 h89=>x_again ⟨_, ?_,(r1+1),wl2++([0]),v87,M2.set t1 ⟨(nth M2 t1).p,((nth M2 t1).l)++ [(((r1:Nat):Int),((wl2.length:Nat):Int))]⟩,gm, ?_, ?_, ?_, ?_, ?_, ?_,h89.nrm ⟨rfl,rfl,rfl,rfl,rfl,rfl,rfl,rfl,rfl,rfl,rfl,rfl,rfl,trivial⟩ [1,2,3,4,5,6,7,8,9,10] rfl,rfl⟩;clear h84
    · rw [hm70];first|omega|(simp only [lens9];omega)
    · omega
    · first|exact wl_yes hwl2 (by assumption)|exact wl_no hwl2 (by assumption)
    · first|exact hML2|(rw [List.length_set];exact hML2)
    · first|exact hMR2|(intro j hj;rw [nth_setP,if_neg (by omega)];exact hMR2 j hj)
    · first|exact hgp|(rw [nth_setP,if_pos ⟨rfl,by omega⟩];exact hgp)
    · first|(rw [spL_no (by assumption)];exact hml)|(rw [nth_setP,if_pos ⟨rfl,by omega⟩];show (nth M2 t1).l++_=_;rw [hml,spL_yes (by assumption),hwn2,Nat.add_assoc])
   intro a91 w91 h91
   have h90:=h91.closeM 0 t1 rfl (show t1<M2.length from (by omega)) hgp
   clear h91
   rw [nth_set_p] at h90
   refine gG h90<|gS<|hK k75<|gL<|gRn (oadN _ 1 om9 rfl<|oM 1 rfl<|.nl)<|nN<|fun a92 w92 h92=>x_again ⟨_, ?_,(r1+1),wl2,vw2,M2,gm, ?_, ?_, ?_, ?_, ?_, ?_,h92.nf ⟨rfl,rfl,rfl,rfl,rfl,rfl,rfl,rfl,rfl,rfl,rfl,rfl,rfl,trivial⟩,rfl⟩;clear h90
   · rw [hm70];first|omega|(simp only [lens9];omega)
   · omega
   · first|exact wl_yes hwl2 (by assumption)|exact wl_no hwl2 (by assumption)
   · first|exact hML2|(rw [List.length_set];exact hML2)
   · first|exact hMR2|(intro j hj;rw [nth_setP,if_neg (by omega)];exact hMR2 j hj)
   · first|exact hgp|(rw [nth_setP,if_pos ⟨rfl,by omega⟩];exact hgp)
   · first|(rw [spL_no (by assumption)];exact hml)|(rw [nth_setP,if_pos ⟨rfl,by omega⟩];show (nth M2 t1).l++_=_;rw [hml,spL_yes (by assumption),hwn2,Nat.add_assoc])
  refine gX<|hK k62<|gL<|gRn (oadN _ 1 om9 rfl<|oM 1 rfl<|.nl)<|nN<|fun a93 w93 h93=>x_again ⟨_, ?_,(t1+1),wl2,vw2,M2, ?_, ?_, ?_, ?_,h93.nf ⟨rfl,rfl,rfl,rfl,rfl,rfl,rfl,rfl,rfl,trivial⟩,rfl⟩
  · rw [hm57];first|omega|(simp only [lens9];omega)
  · omega
  · rw [hwl2,show r1=regs.toNat by omega];rfl
  · exact hML2
  · exact all_step hMR2 (by rw [hml,show r1=regs.toNat by omega])
 refine gX<|hK k55<|?_
 have hwn1:wl.length=words.l.length+tSp cols.l regs.toNat t1:=by rw [hwl,List.length_append,List.length_replicate]
 rw [show t1=code.l.length by omega] at hwn1
 refine gK fun _ k94=>sK fun _ k95=>gNl (aO 2 rfl) fun (hl96:wl.length≤140737488355328)=>gRn (ofB fl_25_1 rfl<|olB 1 ti_23 rfl rfl<|oln (n:=wl.length) sl_23 (aO 2 rfl) rfl<|ogtN _ 64 rfl<|.nl)<|nK k95<|gcd rfl (fun hb97 hp97=> ?_) fun hb97 hp97=> ?_
 ·skip
  refine sK fun _ k98=>gRn (oV (r_build (cs:= [(.slice none 0 0),(.slice none 0 0), .int .i64 0, .int .i64 0]) rfl rfl (by kernel_rfl)) rfl<|oV (r_build (cs:= [.int .i64 1, .int .i64 0, .int .i64 0]) rfl rfl (by kernel_rfl)) rfl<|.nl)<|gsw 5 ti_25 rfl rfl rfl<|gsw 4 ti_30 rfl rfl rfl<|nK k98<|gR<|uT<|fun a101 w101 h101=>x_ret2c (fn:=Try.f13) (t:=4) (t2:=5) (i:=5) (i2:=4) ti_25 ti_30 rfl h101 rfl rfl rfl rfl rfl rfl ?_
  exact ⟨rfl,(h101.sh.sel [] rfl)⟩
 exfalso
 omega
theorem apply_l (code:Ls (Ls Ins))(words:Ls Int)(locks regs:Int)(cols:Ls (Ls Int))(f:Nat→Nat→Nat→Bool)(kk:Nat)(W:World)(hcode:code.At W)(hwords:words.At W)(hcols:cols.At W)(hok:OkPg (pgOf code words locks regs))(hF:∀t,t<code.l.length→∀r j,(f t r j=true↔LiveI (nth code.l t).l r j))(hcb:(colsB code.l cols.l f regs.toNat)=true)(htot:words.l.length+tSp cols.l regs.toNat code.l.length≤64)(hk9:kk<code.l.length)(h400:400<(apT (nth code.l kk).l (nth cols.l kk).l (words.l.length+tSp cols.l regs.toNat kk) regs.toNat).length)(hbef:∀j,j<kk→(apT (nth code.l j).l (nth cols.l j).l (words.l.length+tSp cols.l regs.toNat j) regs.toNat).length≤400):
    Rets Try.prog 13 [.agg #[code.v,words.v, .int .i64 locks, .int .i64 regs],cols.v] W (fun v w' =>v= .tuple #[.agg #[.slice none 0 0, .slice none 0 0, .int .i64 0, .int .i64 0],(⟨1,kk,0⟩:Flt).val]∧Sh0 W w' []):=by
 have hz:=checkG_ok hok
 obtain ⟨hl1,hl2,hl3,hl4',hl5,hl6,hl7⟩:=ok_len hok
 have hrg:=hok.regs
 have hrg1:(pgOf code words locks regs).regs=regs:=rfl
 rw [hrg1] at hrg
 obtain ⟨hcc,hcr⟩:=colsB_len hcb
 refine gen Try.func13 Try.ntmps13 (Sh0.ext3 hcode hwords hcols:Sh (fun _=>False) W W [.at_ code, .at_ words, .at_ cols]) rfl fun a10 h10=>gG h10<|sK fun _ k11=>gbx rfl rfl fun b12=>gal ti_25 rfl fun b13=>gal ti_30 rfl fun b14=>nK k11<|gK fun _ k15=>sK fun _ k16=>gRn (olw 2 ti_25 rfl rfl<|.nl)<|gC (fun _ _ h_=>xCl h_ bd_27 rfl (asmCheck_c (code:=code) (words:=words) (locks:=locks) (regs:=regs) (h_.sh.at 3 rfl) (h_.sh.at 4 rfl))) rfl<|?_;clear h10
 rintro _ _ w17 ⟨rfl,hs17⟩
 refine gWk hs17 rfl<|gU<|gal ti_30 rfl fun b18=>gsw 0 ti_30 rfl rfl rfl<|nK k16<|sG (ofB fl_30_0 rfl<|olB 0 ti_28 rfl rfl<|oneI _ _ rfl<|.nl)<|gcF rfl (by rw [hz];rfl)<|gS<|hK k15<|gK fun _ k21=>sK fun _ k22=>gRn (olw 3 ti_25 rfl rfl<|oM 1 rfl<|.nl)<|gP (fun _ _ h_=>xCl h_ bd_28 rfl (is_c code words locks regs cols f _ (h_.sh.at 4 rfl) (h_.sh.at 5 rfl) (h_.sh.at 6 rfl) hok hF)) rfl<|gRn (ont rfl<|.nl)<|nK k22<|gcF rfl (by rw [hcb];rfl)<|gS<|hK k21<|gK fun _ k24=>gF [0,1,2,4,5,6,17,18,19,20,21,24,25,26,27] rfl<|fun a25 w25 h25=> ?_;clear hs17
 refine x_any ((fun Φ Ψ S a w=>(S 4=false∧S 6=false∧S 7=false∧FrI 117 S Φ Ψ a∧Sh (fun _=>False) W w [.blk b18 30 [.int .i64 ((checkG (pgOf code words locks regs)).code), .int .i64 ((checkG (pgOf code words locks regs)).thread), .int .i64 ((checkG (pgOf code words locks regs)).at_)], .blk b14 30 [.int .i64 0, .int .i64 0, .int .i64 0], .blk b13 25 [(.slice none 0 0),(.slice none 0 0), .int .i64 0, .int .i64 0], .blk b12 25 [code.v,words.v, .int .i64 locks, .int .i64 regs], .at_ code, .at_ words, .at_ cols])∨(S 4=true∧S 6=false∧S 7=false∧∃(s7004:Ls Int),FrI 117 S Φ (Ψ++ [(4,34,s7004.v),(5,35, .agg #[(.slice none 0 0),s7004.v, .int .i64 locks, .int .i64 8])]) a∧Sh (fun _=>False) W w [.own 3 (⟨s7004.v,words.l⟩:Ls Int), .blk b18 30 [.int .i64 ((checkG (pgOf code words locks regs)).code), .int .i64 ((checkG (pgOf code words locks regs)).thread), .int .i64 ((checkG (pgOf code words locks regs)).at_)], .blk b14 30 [.int .i64 0, .int .i64 0, .int .i64 0], .blk b13 25 [(.slice none 0 0),(.slice none 0 0), .int .i64 0, .int .i64 0], .blk b12 25 [code.v,words.v, .int .i64 locks, .int .i64 regs], .at_ code, .at_ words, .at_ cols])∨(S 4=false∧S 6=true∧S 7=false∧∃(b7006:Nat),FrI 117 S Φ (Ψ++ [(6,7, .pointer (some ⟨b7006,0,none⟩))]) a∧Sh (fun _=>False) W w [.blk b7006 25 [(.slice none 0 0),(.slice none 0 0), .int .i64 0, .int .i64 0], .blk b18 30 [.int .i64 ((checkG (pgOf code words locks regs)).code), .int .i64 ((checkG (pgOf code words locks regs)).thread), .int .i64 ((checkG (pgOf code words locks regs)).at_)], .blk b14 30 [.int .i64 0, .int .i64 0, .int .i64 0], .blk b13 25 [(.slice none 0 0),(.slice none 0 0), .int .i64 0, .int .i64 0], .blk b12 25 [code.v,words.v, .int .i64 locks, .int .i64 regs], .at_ code, .at_ words, .at_ cols])∨(S 4=true∧S 6=true∧S 7=false∧∃(s7004:Ls Int) (b7006:Nat),FrI 117 S Φ (Ψ++ [(4,34,s7004.v),(5,35, .agg #[(.slice none 0 0),s7004.v, .int .i64 locks, .int .i64 8]),(6,7, .pointer (some ⟨b7006,0,none⟩))]) a∧Sh (fun _=>False) W w [.blk b7006 25 [(.slice none 0 0),(.slice none 0 0), .int .i64 0, .int .i64 0], .own 3 (⟨s7004.v,words.l⟩:Ls Int), .blk b18 30 [.int .i64 ((checkG (pgOf code words locks regs)).code), .int .i64 ((checkG (pgOf code words locks regs)).thread), .int .i64 ((checkG (pgOf code words locks regs)).at_)], .blk b14 30 [.int .i64 0, .int .i64 0, .int .i64 0], .blk b13 25 [(.slice none 0 0),(.slice none 0 0), .int .i64 0, .int .i64 0], .blk b12 25 [code.v,words.v, .int .i64 locks, .int .i64 regs], .at_ code, .at_ words, .at_ cols])∨(S 4=true∧S 6=true∧S 7=true∧∃(s7004:Ls Int) (b7006:Nat),FrI 117 S Φ (Ψ++ [(4,34,s7004.v),(5,35, .agg #[(.slice none 0 0),s7004.v, .int .i64 locks, .int .i64 8]),(6,7, .pointer (some ⟨b7006,0,none⟩))]) a∧Sh (fun _=>False) W w [.blk b7006 25 [(.slice none 0 0),s7004.v, .int .i64 locks, .int .i64 8], .own 3 (⟨s7004.v,words.l⟩:Ls Int), .blk b18 30 [.int .i64 ((checkG (pgOf code words locks regs)).code), .int .i64 ((checkG (pgOf code words locks regs)).thread), .int .i64 ((checkG (pgOf code words locks regs)).at_)], .blk b14 30 [.int .i64 0, .int .i64 0, .int .i64 0], .blk b13 25 [(.slice none 0 0),(.slice none 0 0), .int .i64 0, .int .i64 0], .blk b12 25 [code.v,words.v, .int .i64 locks, .int .i64 regs], .at_ code, .at_ words, .at_ cols])) [(0, .agg #[code.v,words.v, .int .i64 locks, .int .i64 regs]),(1,cols.v),(2, .pointer (some ⟨b12,0,none⟩)),(4, .pointer (some ⟨b13,0,none⟩)),(5, .pointer (some ⟨b14,0,none⟩)),(6, .pointer (some ⟨b18,0,none⟩)),(17, .agg #[code.v,words.v, .int .i64 locks, .int .i64 regs]),(18, .agg #[.int .i64 ((checkG (pgOf code words locks regs)).code), .int .i64 ((checkG (pgOf code words locks regs)).thread), .int .i64 ((checkG (pgOf code words locks regs)).at_)]),(19, .pointer (some ⟨b18,0,none⟩)),(20, .int .i64 ((checkG (pgOf code words locks regs)).code)),(21, .bool (decide ((checkG (pgOf code words locks regs)).code≠0))),(24, .agg #[code.v,words.v, .int .i64 locks, .int .i64 regs]),(25,cols.v),(26, .bool (colsB code.l cols.l f regs.toNat)),(27, .bool (!(colsB code.l cols.l f regs.toNat)))] [(0,30, .pointer (some ⟨b12,2,none⟩)),(1,31, .int .i64 locks),(2,32, .pointer (some ⟨b12,1,none⟩)),(3,33,words.v)]) (by kernel_rfl) (by kernel_rfl) (Or.inl (⟨rfl,rfl,rfl,FrI.start h25.fr,h25.sh.drew⟩)) ?_ ?_
 ·intro S i o ho hSi hcl hdep a w hI
  clear h25
  rcases i with _|_|_|_|_|_|_|_|i
  ·obtain rfl:_=o:=Option.some.inj ho
   rcases hI with ⟨ν4,ν6,ν7,φ,ς⟩|⟨ν4,ν6,ν7,s7004,φ,ς⟩|⟨ν4,ν6,ν7,b7006,φ,ς⟩|⟨ν4,ν6,ν7,s7004,b7006,φ,ς⟩|⟨_,_,ν7,_⟩
   ·exact sq φ φ.fr0 ς (r_fieldB (r:=2) fl_25_2 rfl rfl rfl) 0 rfl rfl rfl rfl rfl rfl fun a hg=>Or.inl (⟨un rfl ν4,un rfl ν6,un rfl ν7,hg,ς⟩)
   ·exact sq φ φ.fr0 ς (r_fieldB (r:=2) fl_25_2 rfl rfl rfl) 0 rfl rfl rfl rfl rfl rfl fun a hg=>Or.inr (Or.inl (⟨un rfl ν4,un rfl ν6,un rfl ν7,s7004,hg,ς⟩))
   ·exact sq φ φ.fr0 ς (r_fieldB (r:=2) fl_25_2 rfl rfl rfl) 0 rfl rfl rfl rfl rfl rfl fun a hg=>Or.inr (Or.inr (Or.inl (⟨un rfl ν4,un rfl ν6,un rfl ν7,b7006,hg,ς⟩)))
   ·exact sq φ φ.fr0 ς (r_fieldB (r:=2) fl_25_2 rfl rfl rfl) 0 rfl rfl rfl rfl rfl rfl fun a hg=>Or.inr (Or.inr (Or.inr (Or.inl (⟨un rfl ν4,un rfl ν6,un rfl ν7,s7004,b7006,hg,ς⟩))))
   ·exact no_way (cA hcl 7 0 rfl ν7) hSi
  ·obtain rfl:_=o:=Option.some.inj ho
   have hd0:S 0=true:=depAt hdep 0 rfl rfl
   rcases hI with ⟨ν4,ν6,ν7,φ,ς⟩|⟨ν4,ν6,ν7,s7004,φ,ς⟩|⟨ν4,ν6,ν7,b7006,φ,ς⟩|⟨ν4,ν6,ν7,s7004,b7006,φ,ς⟩|⟨_,_,ν7,_⟩
   ·exact sq φ (Fr.cons φ.fr0 (φ.at_ 0 0 30 _ rfl hd0)) ς (r_ldb (i:=3) ti_3 rfl rfl rfl rfl) 1 rfl rfl rfl rfl rfl rfl fun a hg=>Or.inl (⟨un rfl ν4,un rfl ν6,un rfl ν7,hg,ς⟩)
   ·exact sq φ (Fr.cons φ.fr0 (φ.at_ 0 0 30 _ rfl hd0)) ς (r_ldb (i:=4) ti_3 rfl rfl rfl rfl) 1 rfl rfl rfl rfl rfl rfl fun a hg=>Or.inr (Or.inl (⟨un rfl ν4,un rfl ν6,un rfl ν7,s7004,hg,ς⟩))
   ·exact sq φ (Fr.cons φ.fr0 (φ.at_ 0 0 30 _ rfl hd0)) ς (r_ldb (i:=4) ti_3 rfl rfl rfl rfl) 1 rfl rfl rfl rfl rfl rfl fun a hg=>Or.inr (Or.inr (Or.inl (⟨un rfl ν4,un rfl ν6,un rfl ν7,b7006,hg,ς⟩)))
   ·exact sq φ (Fr.cons φ.fr0 (φ.at_ 0 0 30 _ rfl hd0)) ς (r_ldb (i:=5) ti_3 rfl rfl rfl rfl) 1 rfl rfl rfl rfl rfl rfl fun a hg=>Or.inr (Or.inr (Or.inr (Or.inl (⟨un rfl ν4,un rfl ν6,un rfl ν7,s7004,b7006,hg,ς⟩))))
   ·exact no_way (cA hcl 7 1 rfl ν7) hSi
  ·obtain rfl:_=o:=Option.some.inj ho
   rcases hI with ⟨ν4,ν6,ν7,φ,ς⟩|⟨ν4,_⟩|⟨ν4,ν6,ν7,b7006,φ,ς⟩|⟨ν4,_⟩|⟨ν4,_⟩
   ·exact sq φ φ.fr0 ς (r_fieldB (r:=1) fl_25_1 rfl rfl rfl) 2 rfl rfl rfl rfl rfl rfl fun a hg=>Or.inl (⟨un rfl ν4,un rfl ν6,un rfl ν7,hg,ς⟩)
   ·exact no_way (cA hcl 4 2 rfl ν4) hSi
   ·exact sq φ φ.fr0 ς (r_fieldB (r:=1) fl_25_1 rfl rfl rfl) 2 rfl rfl rfl rfl rfl rfl fun a hg=>Or.inr (Or.inr (Or.inl (⟨un rfl ν4,un rfl ν6,un rfl ν7,b7006,hg,ς⟩)))
   ·exact no_way (cA hcl 4 2 rfl ν4) hSi
   ·exact no_way (cA hcl 4 2 rfl ν4) hSi
  ·obtain rfl:_=o:=Option.some.inj ho
   have hd2:S 2=true:=depAt hdep 0 rfl rfl
   rcases hI with ⟨ν4,ν6,ν7,φ,ς⟩|⟨ν4,_⟩|⟨ν4,ν6,ν7,b7006,φ,ς⟩|⟨ν4,_⟩|⟨ν4,_⟩
   ·exact sq φ (Fr.cons φ.fr0 (φ.at_ 2 2 32 _ rfl hd2)) ς (r_ldb (i:=3) ti_23 rfl rfl rfl rfl) 3 rfl rfl rfl rfl rfl rfl fun a hg=>Or.inl (⟨un rfl ν4,un rfl ν6,un rfl ν7,hg,ς⟩)
   ·exact no_way (cA hcl 4 3 rfl ν4) hSi
   ·exact sq φ (Fr.cons φ.fr0 (φ.at_ 2 2 32 _ rfl hd2)) ς (r_ldb (i:=4) ti_23 rfl rfl rfl rfl) 3 rfl rfl rfl rfl rfl rfl fun a hg=>Or.inr (Or.inr (Or.inl (⟨un rfl ν4,un rfl ν6,un rfl ν7,b7006,hg,ς⟩)))
   ·exact no_way (cA hcl 4 3 rfl ν4) hSi
   ·exact no_way (cA hcl 4 3 rfl ν4) hSi
  ·obtain rfl:_=o:=Option.some.inj ho
   have hd3:S 3=true:=depAt hdep 0 rfl rfl
   rcases hI with ⟨ν4,ν6,ν7,φ,ς⟩|⟨ν4,_⟩|⟨ν4,ν6,ν7,b7006,φ,ς⟩|⟨ν4,_⟩|⟨ν4,_⟩
   ·have hs:=St.mk (Fr.cons φ.fr0 (φ.at_ 3 3 33 _ rfl hd3)) ς
    refine step_ex (x_call hs bd_38 rfl rfl rfl rfl rfl (cloneI_c words _ (hs.sh.at 5 rfl) (by first|omega|(simp only [lens9];omega)))) (wanted_none rfl _) ?_
    rintro a42 w42 ⟨_,⟨s42,rfl,hs42⟩,hf42⟩ ⟨v0,ht42⟩
    have h42:St _ (fun _=>False) W a42 w42 _ _:=⟨hf42,hs.sh.callI hs42⟩
    clear hf42 hs42
    exact Or.inr (Or.inl (⟨upd_self _ _,un rfl ν6,un rfl ν7,s42,φ.stepW hcl hSi [0,1,2,3] (by kernel_rfl) (by kernel_rfl) ht42 h42.fr.defers (h42.fr.at_ 34 _ rfl) 4 rfl rfl rfl rfl,(h42.sh.sel [0,1,2,3,4,5,6,7] rfl)⟩))
   ·exact no_way ν4 hSi
   ·have hs:=St.mk (Fr.cons φ.fr0 (φ.at_ 3 3 33 _ rfl hd3)) ς
    refine step_ex (x_call hs bd_38 rfl rfl rfl rfl rfl (cloneI_c words _ (hs.sh.at 6 rfl) (by first|omega|(simp only [lens9];omega)))) (wanted_none rfl _) ?_
    rintro a43 w43 ⟨_,⟨s43,rfl,hs43⟩,hf43⟩ ⟨v0,ht43⟩
    have h43:St _ (fun _=>False) W a43 w43 _ _:=⟨hf43,hs.sh.callI hs43⟩
    clear hf43 hs43
    exact Or.inr (Or.inr (Or.inr (Or.inl (⟨upd_self _ _,un rfl ν6,un rfl ν7,s43,b7006,φ.stepW hcl hSi [0,1,2,3,6] (by kernel_rfl) (by kernel_rfl) ht43 h43.fr.defers (h43.fr.at_ 34 _ rfl) 4 rfl rfl rfl rfl,(h43.sh.sel [1,0,2,3,4,5,6,7,8] rfl)⟩))))
   ·exact no_way ν4 hSi
   ·exact no_way ν4 hSi
  ·obtain rfl:_=o:=Option.some.inj ho
   have hd1:S 1=true:=depAt hdep 0 rfl rfl
   have hd4:S 4=true:=depAt hdep 1 rfl rfl
   rcases hI with ⟨ν4,_⟩|⟨ν4,ν6,ν7,s7004,φ,ς⟩|⟨ν4,_⟩|⟨ν4,ν6,ν7,s7004,b7006,φ,ς⟩|⟨_,_,ν7,_⟩
   ·exact no_way hd4 ν4
   ·exact sq φ (Fr.cons (Fr.cons φ.fr0 (φ.at_ 1 1 31 _ rfl hd1)) (φ.at_ 4 4 34 _ rfl hd4)) ς (r_buildS (cs:= [(.slice none 0 0),s7004.v, .int .i64 locks, .int .i64 8]) rfl rfl (fun w h=>by obtain ⟨A44,n44,c44,(e44:s7004.v=_)⟩:=((h.own 0 rfl)).form;rw [e44];kernel_rfl)) 5 rfl rfl rfl rfl rfl rfl fun a hg=>Or.inr (Or.inl (⟨un rfl ν4,un rfl ν6,un rfl ν7,s7004,hg,ς⟩))
   ·exact no_way hd4 ν4
   ·exact sq φ (Fr.cons (Fr.cons φ.fr0 (φ.at_ 1 1 31 _ rfl hd1)) (φ.at_ 4 4 34 _ rfl hd4)) ς (r_buildS (cs:= [(.slice none 0 0),s7004.v, .int .i64 locks, .int .i64 8]) rfl rfl (fun w h=>by obtain ⟨A46,n46,c46,(e46:s7004.v=_)⟩:=((h.own 1 rfl)).form;rw [e46];kernel_rfl)) 5 rfl rfl rfl rfl rfl rfl fun a hg=>Or.inr (Or.inr (Or.inr (Or.inl (⟨un rfl ν4,un rfl ν6,un rfl ν7,s7004,b7006,hg,ς⟩))))
   ·exact no_way (cA hcl 7 5 rfl ν7) hSi
  ·obtain rfl:_=o:=Option.some.inj ho
   rcases hI with ⟨ν4,ν6,ν7,φ,ς⟩|⟨ν4,ν6,ν7,s7004,φ,ς⟩|⟨_,ν6,_⟩|⟨_,ν6,_⟩|⟨_,ν6,_⟩
   ·have hs:=St.mk φ.fr0 ς
    refine step_ex (x_alloc hs ti_25 rfl rfl rfl) (wanted_none rfl _) ?_
    rintro a48 w48 ⟨b48,h48⟩ ⟨v0,ht48⟩
    exact Or.inr (Or.inr (Or.inl (⟨un rfl ν4,upd_self _ _,un rfl ν7,b48,φ.stepW hcl hSi [0,1,2,3] (by kernel_rfl) (by kernel_rfl) ht48 h48.fr.defers (h48.fr.at_ 7 _ rfl) 4 rfl rfl rfl rfl,(h48.sh.sel [0,1,2,3,4,5,6,7] rfl)⟩)))
   ·have hs:=St.mk φ.fr0 ς
    refine step_ex (x_alloc hs ti_25 rfl rfl rfl) (wanted_none rfl _) ?_
    rintro a49 w49 ⟨b49,h49⟩ ⟨v0,ht49⟩
    exact Or.inr (Or.inr (Or.inr (Or.inl (⟨un rfl ν4,upd_self _ _,un rfl ν7,s7004,b49,φ.stepW hcl hSi [0,1,2,3,4,5] (by kernel_rfl) (by kernel_rfl) ht49 h49.fr.defers (h49.fr.at_ 7 _ rfl) 6 rfl rfl rfl rfl,(h49.sh.sel [0,1,2,3,4,5,6,7,8] rfl)⟩))))
   ·exact no_way ν6 hSi
   ·exact no_way ν6 hSi
   ·exact no_way ν6 hSi
  ·obtain rfl:_=o:=Option.some.inj ho
   have hd6:S 6=true:=depAt hdep 0 rfl rfl
   have hd5:S 5=true:=depAt hdep 1 rfl rfl
   have hd4:S 4=true:=depAt hdep 2 rfl rfl
   rcases hI with ⟨ν4,_⟩|⟨_,ν6,_⟩|⟨ν4,_⟩|⟨ν4,ν6,ν7,s7004,b7006,φ,ς⟩|⟨_,_,ν7,_⟩
   ·exact no_way hd4 ν4
   ·exact no_way hd6 ν6
   ·exact no_way hd4 ν4
   ·have hs:=St.mk (Fr.cons (Fr.cons φ.fr0 (φ.at_ 5 5 35 _ rfl hd5)) (φ.at_ 6 6 7 _ rfl hd6)) ς
    refine step_ex (x_stb (i:=0) (vs:= [(.slice none 0 0),s7004.v, .int .i64 locks, .int .i64 8]) (cs' := [(.slice none 0 0),s7004.v, .int .i64 locks, .int .i64 8]) hs ti_25 rfl rfl rfl rfl rfl rfl rfl (allOne_cons rfl (allOne_cons ((hs.sh.own 1 rfl)).one (allOne_cons rfl (allOne_cons rfl allOne_nil)))) (Nat.le_of_ble_eq_true rfl) rfl) (wanted_none rfl _) ?_
    rintro a50 w50 h50 ⟨v0,ht50⟩
    exact Or.inr (Or.inr (Or.inr (Or.inr (⟨un rfl ν4,un rfl ν6,upd_self _ _,s7004,b7006,φ.noneW hcl hSi [0,1,2,3,4,5,6] (by kernel_rfl) (by kernel_rfl) ht50 h50.fr.defers rfl,(h50.sh.sel [0,1,2,3,4,5,6,7,8] rfl)⟩))))
   ·exact no_way ν7 hSi
  · simp at ho
 intro S hall a w hI
 clear h25
 rcases hI with ⟨ν4,ν6,ν7,φ,ς⟩|⟨ν4,ν6,ν7,s7004,φ,ς⟩|⟨ν4,ν6,ν7,b7006,φ,ς⟩|⟨ν4,ν6,ν7,s7004,b7006,φ,ς⟩|⟨ν4,ν6,ν7,s7004,b7006,φ,ς⟩
 · exact no_way (hall 4 (by decide)) ν4
 · exact no_way (hall 6 (by decide)) ν6
 · exact no_way (hall 4 (by decide)) ν4
 · exact no_way (hall 7 (by decide)) ν7
 have h51:St 117 (fun _=>False) W a w _ _:=⟨(Fr.cons φ.fr0 (φ.at_ 6 6 7 _ rfl (hall 6 (by decide)))),ς⟩
 clear hall φ ς ν4 ν6 ν7
 refine gG h51<|hK k24<|sK fun _ k52=>gNl (aA 8 rfl) fun hl53=>gRn (oM 1 rfl<|oln sl_26 (aA 8 rfl) rfl<|.nl)<|gE1 (fun _ _ h_=>x_makeMaps (n:=cols.l.length) h_ sl_77 ti_78 rfl rfl rfl (show 8*cols.l.length≤140737488355328∧cols.l.length≤140737488355328 from om9) rfl rfl) rfl fun v54=>gRn (oM 1 rfl<|.nl)<|nK k52<|gK fun _ k55=>sG (oM 1 rfl<|oln sl_26 (aA 9 rfl) rfl<|oM 1 rfl<|.nl)<|gB<|fun a58 w58 h58=>x_loop (fun m a w=>∃(t1:Nat) (wl:List Int) (vw:Value) (M:List MP),(t1≤cols.l.length)∧(wl=words.l++List.replicate (tSp cols.l regs.toNat t1) 0)∧(M.length=cols.l.length)∧(∀j,j<t1→(nth M j).l=spL (nth cols.l j).l (words.l.length+tSp cols.l regs.toNat j) regs.toNat)∧St 117 (fun _=>False) W a w [(1,cols.v),(2, .pointer (some ⟨b12,0,none⟩)),(4, .pointer (some ⟨b13,0,none⟩)),(5, .pointer (some ⟨b14,0,none⟩)),(7, .pointer (some ⟨b7006,0,none⟩)),(8,v54),(39,cols.v),(40, .int .i64 ((cols.l.length:Nat):Int)),(41, .int .i64 ((t1:Nat):Int))] [.big (mapsX 78 v54 M), .blk b7006 25 [(.slice none 0 0),vw, .int .i64 locks, .int .i64 8], .own 3 (⟨vw,wl⟩:Ls Int), .blk b18 30 [.int .i64 ((checkG (pgOf code words locks regs)).code), .int .i64 ((checkG (pgOf code words locks regs)).thread), .int .i64 ((checkG (pgOf code words locks regs)).at_)], .blk b14 30 [.int .i64 0, .int .i64 0, .int .i64 0], .blk b13 25 [(.slice none 0 0),(.slice none 0 0), .int .i64 0, .int .i64 0], .blk b12 25 [code.v,words.v, .int .i64 locks, .int .i64 regs], .at_ code, .at_ words, .at_ cols]∧m=cols.l.length-t1) ⟨_,0,words.l,s7004.v,List.replicate cols.l.length (⟨none, []⟩:MP),(by omega),(by simp [tSp]),(by simp),(fun j hj=>absurd hj (by omega)),h58.nf ⟨rfl,rfl,rfl,rfl,rfl,rfl,rfl,rfl,rfl,trivial⟩,rfl⟩ ?_;clear h51
 clear h58
 rintro m57 a57 w57 ⟨t1,wl,vw,M,ht,hwl,hML,hMR,h57,hm57⟩
 refine gG h57<|sG (oltN _ _ rfl<|.nl)<|gK fun _ k60=>gcd rfl (fun hb61 hp61=> ?_) fun hb61 hp61=> ?_;clear h57
 ·skip
  refine gS<|hK k60<|gK fun _ k62=>gB<|sG (oM 1 rfl<|oxN sl_26 ti_23 (aA 9 rfl) _ om9 rfl<|olE ((nth cols.l t1).v) ti_23 (aA 9 rfl) om9 rfl<|oM 2 rfl<|.nl)<|sK fun _ k64=>gRn (oM 2 rfl<|.nl)<|gE1 (fun _ _ h_=>x_makeZ h_ rfl rfl rfl) rfl fun g65=>gRn (oxN sl_77 ti_78 (fun w h=>(h.mapsAt 1 rfl)) _ (by rw [pvs_len];exact (show t1<M.length from (by omega))) rfl<|.nl)<|gO [1,0,2,3,4,5,6,7,8,9,10] rfl<|gE (fun _ _ h_=>x_stMaps (i:=t1) h_ ti_78 rfl rfl rfl rfl (show t1<M.length from om9)) rfl<|nK k64<|sK fun _ k68=>gNl (fun w h=>((h.at 9 rfl).nth t1 (show t1<cols.l.length from (by omega)))) fun (hl69:((nth cols.l t1).l).length≤140737488355328)=>gRn (oM 1 rfl<|oln (n:=((nth cols.l t1).l).length) sl_23 (fun w h=>((h.at 9 rfl).nth t1 (show t1<cols.l.length from (by omega)))) rfl<|oM 1 rfl<|.nl)<|nK k68<|gB<|?_
  have hcr1:=hcr t1 (by omega)
  have hts:=tSp_le (cols:=cols.l) (show regs.toNat≤200 by omega) t1
  intro a71 w71 h71
  refine x_loop (fun m a w=>∃(r1:Nat) (wl2:List Int) (vw2:Value) (M2:List MP) (gm:Nat),(r1≤regs.toNat)∧(wl2=words.l++List.replicate (tSp cols.l regs.toNat t1+nSp (nth cols.l t1).l r1) 0)∧(M2.length=cols.l.length)∧(∀j,j<t1→(nth M2 j).l=spL (nth cols.l j).l (words.l.length+tSp cols.l regs.toNat j) regs.toNat)∧((nth M2 t1).p=some gm)∧((nth M2 t1).l=spL (nth cols.l t1).l (words.l.length+tSp cols.l regs.toNat t1) r1)∧St 117 (fun _=>False) W a w [(1,cols.v),(2, .pointer (some ⟨b12,0,none⟩)),(4, .pointer (some ⟨b13,0,none⟩)),(5, .pointer (some ⟨b14,0,none⟩)),(7, .pointer (some ⟨b7006,0,none⟩)),(8,v54),(9, .int .i64 ((t1:Nat):Int)),(39,cols.v),(40, .int .i64 ((cols.l.length:Nat):Int)),(41, .int .i64 ((t1:Nat):Int)),(50,(nth cols.l t1).v),(51, .int .i64 ((((nth cols.l t1).l).length:Nat):Int)),(52, .int .i64 ((r1:Nat):Int))] [.big (mapsX 78 v54 M2), .blk b7006 25 [(.slice none 0 0),vw2, .int .i64 locks, .int .i64 8], .own 3 (⟨vw2,wl2⟩:Ls Int), .blk b18 30 [.int .i64 ((checkG (pgOf code words locks regs)).code), .int .i64 ((checkG (pgOf code words locks regs)).thread), .int .i64 ((checkG (pgOf code words locks regs)).at_)], .blk b14 30 [.int .i64 0, .int .i64 0, .int .i64 0], .blk b13 25 [(.slice none 0 0),(.slice none 0 0), .int .i64 0, .int .i64 0], .blk b12 25 [code.v,words.v, .int .i64 locks, .int .i64 regs], .at_ code, .at_ words, .at_ cols]∧m=regs.toNat-r1) ⟨_,0,wl,vw,M.set t1 ⟨(some g65), []⟩,_,(by omega),(by rw [hwl];rfl),(by rw [List.length_set];exact hML),(fun j hj=>by rw [nth_setP,if_neg (by omega)];exact hMR j hj),(by rw [nth_setP,if_pos ⟨rfl,by omega⟩]),(by rw [nth_setP,if_pos ⟨rfl,by omega⟩];rfl),h71.nf ⟨rfl,rfl,rfl,rfl,rfl,rfl,rfl,rfl,rfl,rfl,rfl,rfl,rfl,trivial⟩,rfl⟩ ?_
  clear h71
  rintro m70 a70 w70 ⟨r1,wl2,vw2,M2,gm,hr,hwl2,hML2,hMR2,hgp,hml,h70,hm70⟩
  have hwn2:wl2.length=words.l.length+(tSp cols.l regs.toNat t1+nSp (nth cols.l t1).l r1):=by rw [hwl2,List.length_append,List.length_replicate]
  have hnl:=nSp_le (nth cols.l t1).l r1
  refine gG h70<|sG (oltN _ _ rfl<|.nl)<|gK fun _ k73=>gcd rfl (fun hb74 hp74=> ?_) fun hb74 hp74=> ?_;clear h70
  ·skip
   refine gS<|hK k73<|gK fun _ k75=>gB<|sG (oM 1 rfl<|oxN sl_23 ti_3 (fun w h=>((h.at 9 rfl).nth t1 (show t1<cols.l.length from (by omega)))) _ om9 rfl<|olE (.int .i64 (nth ((nth cols.l t1).l) r1)) ti_3 (fun w h=>((h.at 9 rfl).nth t1 (show t1<cols.l.length from (by omega)))) om9 rfl<|oM 2 rfl<|.nl)<|sG (oM 1 rfl<|oltI _ _ rfl<|.nl)<|fun a79 w79 h79=> ?_
   have h78:=h79.openM 0 t1 rfl (show t1<M2.length from (by omega)) hgp
   clear h79
   refine gG h78<|?_;clear h78
   refine gcd rfl (fun hb80 hp80=> ?_) fun hb80 hp80=> ?_
   ·skip
    refine gK fun _ k81=>gNl (aO 3 rfl) fun (hl82:wl2.length≤140737488355328)=>rT 8 [] (oM 2 rfl<|oxN sl_77 ti_78 (fun w h=>(h.mapsHAt 1 rfl)) _ (by rw [pvs_len];exact (show t1<M2.length from (by omega))) rfl<|oV (Rn.same (r_lde (s:=(⟨v54,pvs M2⟩:Ls RV)) (i:=t1) (v:=(nth (pvs M2) t1).v) ti_78 rfl rfl rfl (fun w h=>(h.mapsHAt 1 rfl)) (by rw [pvs_len];exact (show t1<M2.length from om9)) (Nat.le_of_ble_eq_true rfl) rfl) ((nth_pvs (show t1<M2.length from om9)).trans (congrArg Value.map hgp))) rfl<|oM 1 rfl<|ofB fl_25_1 rfl<|olB 2 ti_23 rfl rfl<|oln (n:=wl2.length) sl_23 (aO 3 rfl) rfl<|.nl)<|gE (fun _ _ h_=>x_updZ (i:=0) (k:=((r1:Nat):Int)) (v:=((wl2.length:Nat):Int)) h_ mz_78 rfl rfl rfl rfl rfl rfl (by rw [hml];exact spL_none _ _ _)) rfl<|nK k81<|fun a85 w85 h85=> ?_
    have h84:=h85.closeM 0 t1 rfl (show t1<M2.length from (by omega)) hgp
    clear h85
    refine gG h84<|gL<|gRn (ofB fl_25_1 rfl<|olB 1 ti_23 rfl rfl<|.nl)<|gE1 (fun _ _ h_=>x_lit (n:=1) (cs:= [.int .i64 0]) ([0]:List Int) h_ sl_23 ti_3 rfl rfl rfl (by decide) rfl (by kernel_rfl) rfl (fun q hq w h=>Flat.inner _ _) (fun q hq b hb=>(Flat.on _ _ hb).elim) rfl rfl) rfl fun v86=>gE1 (fun _ _ h_=>x_app (r:=3) (rm:=0) (s:=(⟨vw2,wl2⟩:Ls Int)) (m:=(⟨v86, [0]⟩:Ls Int)) h_ sl_23 ti_3 rfl rfl rfl rfl rfl rfl rfl (fun w h=>(h.own 0 rfl)) (fun b hb=>own_on (h_.sh.ok _ (List.mem_of_getElem? (i:=0) rfl)) hb) (fun q hq b hb=>⟨q,hq,hb⟩) rfl rfl rfl inferInstance (show (wl2.length+([0]).length)*8≤140737488355328∧wl2.length+([0]).length≤140737488355328 from om9) rfl rfl) rfl fun v87=>gRn (ofB fl_25_1 rfl<|.nl)<|gsr 2 ti_23 rfl (aO 3 rfl) rfl<|nK k75<|gL<|gRn (oadN _ 1 om9 rfl<|oM 1 rfl<|.nl)<|nN<|fun a89 w89 h89=>x_again ⟨_, ?_,(r1+1),wl2++([0]),v87,M2.set t1 ⟨(nth M2 t1).p,((nth M2 t1).l)++ [(((r1:Nat):Int),((wl2.length:Nat):Int))]⟩,gm, ?_, ?_, ?_, ?_, ?_, ?_,h89.nrm ⟨rfl,rfl,rfl,rfl,rfl,rfl,rfl,rfl,rfl,rfl,rfl,rfl,rfl,trivial⟩ [1,2,3,4,5,6,7,8,9,10] rfl,rfl⟩;clear h84
    · rw [hm70];first|omega|(simp only [lens9];omega)
    · omega
    · first|exact wl_yes hwl2 (by assumption)|exact wl_no hwl2 (by assumption)
    · first|exact hML2|(rw [List.length_set];exact hML2)
    · first|exact hMR2|(intro j hj;rw [nth_setP,if_neg (by omega)];exact hMR2 j hj)
    · first|exact hgp|(rw [nth_setP,if_pos ⟨rfl,by omega⟩];exact hgp)
    · first|(rw [spL_no (by assumption)];exact hml)|(rw [nth_setP,if_pos ⟨rfl,by omega⟩];show (nth M2 t1).l++_=_;rw [hml,spL_yes (by assumption),hwn2,Nat.add_assoc])
   intro a91 w91 h91
   have h90:=h91.closeM 0 t1 rfl (show t1<M2.length from (by omega)) hgp
   clear h91
   rw [nth_set_p] at h90
   refine gG h90<|gS<|hK k75<|gL<|gRn (oadN _ 1 om9 rfl<|oM 1 rfl<|.nl)<|nN<|fun a92 w92 h92=>x_again ⟨_, ?_,(r1+1),wl2,vw2,M2,gm, ?_, ?_, ?_, ?_, ?_, ?_,h92.nf ⟨rfl,rfl,rfl,rfl,rfl,rfl,rfl,rfl,rfl,rfl,rfl,rfl,rfl,trivial⟩,rfl⟩;clear h90
   · rw [hm70];first|omega|(simp only [lens9];omega)
   · omega
   · first|exact wl_yes hwl2 (by assumption)|exact wl_no hwl2 (by assumption)
   · first|exact hML2|(rw [List.length_set];exact hML2)
   · first|exact hMR2|(intro j hj;rw [nth_setP,if_neg (by omega)];exact hMR2 j hj)
   · first|exact hgp|(rw [nth_setP,if_pos ⟨rfl,by omega⟩];exact hgp)
   · first|(rw [spL_no (by assumption)];exact hml)|(rw [nth_setP,if_pos ⟨rfl,by omega⟩];show (nth M2 t1).l++_=_;rw [hml,spL_yes (by assumption),hwn2,Nat.add_assoc])
  refine gX<|hK k62<|gL<|gRn (oadN _ 1 om9 rfl<|oM 1 rfl<|.nl)<|nN<|fun a93 w93 h93=>x_again ⟨_, ?_,(t1+1),wl2,vw2,M2, ?_, ?_, ?_, ?_,h93.nf ⟨rfl,rfl,rfl,rfl,rfl,rfl,rfl,rfl,rfl,trivial⟩,rfl⟩
  · rw [hm57];first|omega|(simp only [lens9];omega)
  · omega
  · rw [hwl2,show r1=regs.toNat by omega];rfl
  · exact hML2
  · exact all_step hMR2 (by rw [hml,show r1=regs.toNat by omega])
 refine gX<|hK k55<|?_
 have hwn1:wl.length=words.l.length+tSp cols.l regs.toNat t1:=by rw [hwl,List.length_append,List.length_replicate]
 rw [show t1=code.l.length by omega] at hwn1
 refine gK fun _ k94=>sK fun _ k95=>gNl (aO 2 rfl) fun (hl96:wl.length≤140737488355328)=>gRn (ofB fl_25_1 rfl<|olB 1 ti_23 rfl rfl<|oln (n:=wl.length) sl_23 (aO 2 rfl) rfl<|ogtN _ 64 rfl<|.nl)<|nK k95<|gcd rfl (fun hb97 hp97=> ?_) fun hb97 hp97=> ?_
 ·skip
  exfalso
  omega
 refine gS<|hK k94<|gK fun _ k98=>sK fun _ k99=>gNl (aA 7 rfl) fun hl100=>gRn (ofB fl_25_0 rfl<|olB 6 ti_22 rfl rfl<|oln sl_22 (aA 7 rfl) rfl<|oM 1 rfl<|.nl)<|nK k99<|gB<|fun a103 w103 h103=> ?_
 have h102:=h103.nilDeep (α:=Ls Ins) 45
 clear h103
 refine x_loop (fun m a w=>∃(t:Nat) (qs:List (Ls Ins)) (vq:Value),(t≤kk)∧(qs.map (·.l)=(List.range t).map (fun t=>apT (nth code.l t).l (nth cols.l t).l (words.l.length+tSp cols.l regs.toNat t) regs.toNat))∧(qs.length=t)∧St 117 (fun _=>False) W a w [(1,cols.v),(4, .pointer (some ⟨b13,0,none⟩)),(5, .pointer (some ⟨b14,0,none⟩)),(7, .pointer (some ⟨b7006,0,none⟩)),(8,v54),(81,code.v),(82, .int .i64 ((code.l.length:Nat):Int)),(83, .int .i64 ((t:Nat):Int))] [.big (mapsX 78 v54 M), .blk b7006 25 [vq,vw, .int .i64 locks, .int .i64 8], .own 3 (⟨vw,wl⟩:Ls Int), .blk b18 30 [.int .i64 ((checkG (pgOf code words locks regs)).code), .int .i64 ((checkG (pgOf code words locks regs)).thread), .int .i64 ((checkG (pgOf code words locks regs)).at_)], .blk b14 30 [.int .i64 0, .int .i64 0, .int .i64 0], .blk b13 25 [(.slice none 0 0),(.slice none 0 0), .int .i64 0, .int .i64 0], .blk b12 25 [code.v,words.v, .int .i64 locks, .int .i64 regs], .at_ code, .at_ words, .at_ cols, .deep 45 (⟨vq,qs⟩:Ls (Ls Ins))]∧m=code.l.length-t) ⟨_,0, [],(.slice none 0 0),(by omega),(rfl),(rfl),h102.nrm ⟨rfl,rfl,rfl,rfl,rfl,rfl,rfl,rfl,trivial⟩ [1,2,3,4,5,6,7,8,9,10,0] rfl,rfl⟩ ?_
 clear h102
 rintro m101 a101 w101 ⟨t,qs,vq,ht3,hqs,hql,h101,hm101⟩
 refine gG h101<|sG (oltN _ _ rfl<|.nl)<|gK fun _ k105=>gcd rfl (fun hb106 hp106=> ?_) fun hb106 hp106=> ?_;clear h101
 ·skip
  refine gS<|hK k105<|gK fun _ k107=>gB<|sG (oM 1 rfl<|oxN sl_22 ti_45 (aA 7 rfl) _ om9 rfl<|olE ((nth code.l t).v) ti_45 (aA 7 rfl) om9 rfl<|oM 2 rfl<|.nl)<|?_
  obtain ⟨hl4,hjt⟩:=ok_thread hok t (by omega)
  have hov:=okV_of hok t (by omega)
  have hml9:=hMR t (by omega)
  have hcr9:=hcr t (by omega)
  refine gK fun _ k109=>rT 9 [] (oM 2 rfl<|oxN sl_26 ti_23 (aA 9 rfl) _ om9 rfl<|olE ((nth cols.l t).v) ti_23 (aA 9 rfl) om9 rfl<|oM 2 rfl<|oxN sl_77 ti_78 (fun w h=>(h.mapsAt 0 rfl)) _ (by rw [pvs_len];exact (show t<M.length from (by omega))) rfl<|oV (Rn.same (r_lde (s:=(⟨v54,pvs M⟩:Ls RV)) (i:=t) (v:=(nth (pvs M) t).v) ti_78 rfl rfl rfl (fun w h=>(h.mapsAt 0 rfl)) (by rw [pvs_len];exact (show t<M.length from om9)) (Nat.le_of_ble_eq_true rfl) rfl) (nth_pvs (show t<M.length from om9))) rfl<|oV (r_buildS (cs:= [(nth cols.l t).v, .map ((nth M t).p)]) rfl rfl (fun w h=>by obtain ⟨A110,n110,c110,(e110:(nth cols.l t).v=_)⟩:=(((h.at 9 rfl).nth t (show t<cols.l.length from om9))).form;rw [e110];kernel_rfl)) rfl<|.nl)<|gbx rfl rfl fun b111=>gRn (oM 1 rfl<|.nl)<|nK k109<|sK fun _ k112=>gRn (oM 2 rfl<|oV (r_makeFunc rfl rfl rfl) rfl<|.nl)<|gC (fun _ _ h_=>xCl h_ bd_39 rfl (moved_c (nth code.l t) 40 [.pointer (some ⟨b111,0,none⟩)] [] (fun (_:Nat) (x:Ins)=>paintF (nth cols.l t).l (fun r:Int=>(getZ r (nth M t).l).getD 0) x) (Asn.ro [.blk b111 81 [(nth cols.l t).v, .map ((nth M t).p)], .at_ (nth cols.l t), .mapO (nth M t).p (nth M t).l]) _ ((h_.sh.at 8 rfl).nth t (show t<code.l.length from (by omega))) (show (nth code.l t).l.length≤5000 by omega) bd_40 (fun _ h=>h) (roI (h_.sh.ok _ (List.mem_of_getElem? (i:=0) rfl)) ((h_.sh.at 10 rfl).nth t (show t<cols.l.length from (by omega))) (mapsX_ok h_.sh 1 rfl t (by omega))) (fun w i hE hi=>pbecome_c b111 (nth cols.l t) (nth M t).p (nth M t).l _ (nth (nth code.l t).l i) w (roE hE).1 (roE hE).2.1 (ro1 (roE hE).2.2) (hov i hi).1 (hov i hi).2.1 (fun q hq=>by have h9:=(hov i hi).2.2.2 _ (nth_mem _ _ hq);omega) (by have h9:=(hov i hi).2.2.1;omega)) (ap_b8 hml9 (by omega) hov) (ap_bok hml9 (by omega) hov hjt))) rfl<|?_
  rintro _ _ w113 ⟨s113,rfl,hl113,hs113⟩
  refine gWk hs113 rfl<|gU<|gRn (oM 1 rfl<|.nl)<|nK k112<|?_;clear hs113
  have hq1:s113.l=apT (nth code.l t).l (nth cols.l t).l (words.l.length+tSp cols.l regs.toNat t) regs.toNat:=hl113.trans (moved_ap2 hml9 (by omega) hov)
  have hq2:=congrArg List.length hq1
  refine gK fun _ k114=>sK fun _ k115=>gNl (aO 0 rfl) fun hl116=>gRn (oM 1 rfl<|oln sl_45 (aO 0 rfl) rfl<|ogtN _ 400 rfl<|.nl)<|nK k115<|gcd rfl (fun hb117 hp117=> ?_) fun hb117 hp117=> ?_
  ·skip
   refine sK fun _ k118=>gRn (oV (r_build (cs:= [(.slice none 0 0),(.slice none 0 0), .int .i64 0, .int .i64 0]) rfl rfl (by kernel_rfl)) rfl<|oM 1 rfl<|oV (r_build (cs:= [.int .i64 1, .int .i64 ((t:Nat):Int), .int .i64 0]) rfl rfl (by kernel_rfl)) rfl<|.nl)<|gsw 7 ti_25 rfl rfl rfl<|gsw 6 ti_30 rfl rfl rfl<|nK k118<|gF [4,5] rfl<|gR<|uT<|uB<|uT<|uT<|uB<|uT<|fun a121 w121 h121=>x_ret2c (fn:=Try.f13) (t:=4) (t2:=5) (i:=7) (i2:=6) ti_25 ti_30 rfl h121 rfl rfl rfl rfl rfl rfl ?_
   have hkt:t=kk:=by rcases Nat.lt_or_ge t kk with h9|h9;(have h8:=hbef t h9;omega);omega
   subst hkt
   exact ⟨rfl,(h121.sh.sel [] rfl)⟩
  refine gS<|hK k114<|gF [1,4,5,7,8,16,81,82,83] rfl<|gL<|gRn (ofB fl_25_0 rfl<|olB 3 ti_22 rfl rfl<|oM 1 rfl<|.nl)<|gE1 (fun _ _ h_=>x_litD (E:=0) (x:=s113) h_ sl_22 ti_45 rfl rfl rfl ((h_.sh.own 0 rfl)) (fun b hb=>(own_on (h_.sh.ok _ (List.mem_of_getElem? (i:=0) rfl)) hb).elim (fun h=>h) (fun h=>Flat.noRd h)) (fun b hb=>Flat.noRd hb) rfl rfl) rfl fun v122=>gO [12,0,1,2,3,4,5,6,7,8,9,10,11] rfl<|gE1 (fun _ _ h_=>x_appD (s:=(⟨vq,qs⟩:Ls (Ls Ins))) (m:=(⟨v122, [s113]⟩:Ls (Ls Ins))) h_ sl_22 ti_45 rfl rfl rfl rfl rfl rfl rfl inferInstance (show (qs.length+([s113]).length)*24≤140737488355328∧qs.length+([s113]).length≤140737488355328 from om9) rfl rfl) rfl fun v124=>gRn (ofB fl_25_0 rfl<|.nl)<|gsr 3 ti_22 rfl (aD 0 rfl) rfl<|nK k107<|gL<|gRn (oadN _ 1 om9 rfl<|oM 1 rfl<|.nl)<|nN<|fun a126 w126 h126=>x_again ⟨_, ?_,t+1,qs++([s113]),v124, ?_, ?_, ?_,h126.nrm ⟨rfl,rfl,rfl,rfl,rfl,rfl,rfl,rfl,trivial⟩ [2,3,4,5,6,7,8,9,10,11,0] rfl,rfl⟩
  · rw [hm101];first|omega|(simp only [lens9];omega)
  · first|omega|(rcases Nat.lt_or_ge t kk with h9|h9;(omega);(exfalso;have h8:t=kk:=(by omega);rw [h8] at hq2;omega))
  · rw [List.map_append,hqs,List.range_succ,List.map_append];simp [hq1]
  · simp [hql]
 exfalso
 omega
section
variable {cl:List Int}{R:Nat}{a d:Int}
theorem colr_b (hr:∀r,r<R→-1≤nth cl r∧nth cl r<6)(ha:0≤a∧a<(R:Int))(hd:d=6∨d=7):0≤colr cl a d∧colr cl a d<8:=by
 have:=hr a.toNat (by omega)
 unfold colr
 split<;>omega
end
def NumT (x y:Ins)(size' :Int)(k:Nat):Prop:=(k<(kindsB x.op).size→kAt (kindsB x.op) k=114→0≤y.num k∧y.num k<8)∧(k<(kindsB x.op).size→kAt (kindsB x.op) k=99→0≤y.num k∧y.num k≤size')∧((k<(kindsB x.op).size→kAt (kindsB x.op) k≠114∧kAt (kindsB x.op) k≠99)→y.num k=x.num k)
theorem num_ok {p q:Pg}{size size' :Int}{x y:Ins}{k:Nat}(hop:y.op=x.op)(hr:q.regs=8)(hw:p.words.length≤q.words.length)(hl:q.locks=p.locks)(hs:0≤size' ∧size' ≤100000)(hx:okNumG p size x k=true)(h:NumT x y size' k):okNumG q size' y k=true:=by
 unfold okNumG at hx⊢
 rw [hop]
 obtain ⟨h1,h2,h3⟩:=h
 by_cases hk:k<(kindsB x.op).size
 ·rw [dif_pos hk] at hx⊢
  have ek:kAt (kindsB x.op) k=(((kindsB x.op)[k]).toNat:Int):=kAt_at hk
  rw [←ek] at hx⊢
  by_cases e1:kAt (kindsB x.op) k=114
  ·have:=h1 hk e1
   rw [e1];unfold fitsG
   simp only [Int.reduceEq,if_false,if_true,Bool.and_eq_true,decide_eq_true_eq];omega
  by_cases e2:kAt (kindsB x.op) k=99
  ·have:=h2 hk e2
   rw [e2];exact fit_c_mk hs this
  ·rw [h3 fun _=>⟨e1,e2⟩]
   unfold fitsG at hx⊢
   by_cases e3:kAt (kindsB x.op) k=110
   ·rw [if_pos e3]
   rw [if_neg e3] at hx⊢
   by_cases e4:kAt (kindsB x.op) k=119
   ·simp only [e4,Int.reduceEq,if_true,if_false,Bool.and_eq_true,decide_eq_true_eq] at hx⊢;omega
   ·simp only [e1,e2,e4,if_false,hl] at hx⊢;exact hx
 ·rw [dif_neg hk] at hx⊢
  rw [h3 fun h9=>absurd h9 hk];exact hx
theorem paint_nums {cl:List Int}{R:Nat}{pl:Nat→Nat}{size' :Int}(hr:∀r,r<R→-1≤nth cl r∧nth cl r<6):∀(x:Ins) (hop:1≤x.op∧x.op≤18) (hrd:∀v∈rdG x,0≤v∧v<(R:Int)) (hwr:wrG x<(R:Int)) (hpos:x.op≤8∨x.op=10→0≤x.a)
  (hj14:x.op=14→0≤((pl x.a.toNat:Nat):Int)∧((pl x.a.toNat:Nat):Int)≤size') (hj15:x.op=15→0≤((pl x.b.toNat:Nat):Int)∧((pl x.b.toNat:Nat):Int)≤size'),NumT x (fixJ pl (mainI cl x)) size' 0∧NumT x (fixJ pl (mainI cl x)) size' 1∧NumT x (fixJ pl (mainI cl x)) size' 2:=by
 rintro ⟨op,a,b,c⟩ hop hrd hwr hpos hj14 hj15
 rcases cases18 op hop with rfl|rfl|rfl|rfl|rfl|rfl|rfl|rfl|rfl|rfl|rfl|rfl|rfl|rfl|rfl|rfl|rfl|rfl
 ·have es:(kindsB 1).size=2:=by rfl
  have e0:kAt (kindsB 1) 0=114:=by kernel_rfl
  have e1:kAt (kindsB 1) 1=110:=by kernel_rfl
  have hw:0≤a∧a<(R:Int):=⟨hpos (by show (1:Int)≤8∨(1:Int)=10;decide),by have h9:=hwr;rw [wr_a (x:=⟨1,a,b,c⟩) (by show (1:Int)≤8∨(1:Int)=10;decide)] at h9;exact h9⟩
  rw [main_1 (x:=⟨1,a,b,c⟩) rfl hw.1,fixJ_lit (by decide) (by decide)]
  exact ⟨⟨fun _ _=>colr_b hr hw (.inl rfl),fun _ h=>absurd (e0.symm.trans h) (by decide),fun h=>absurd e0 (h (by show 0<(kindsB 1).size;rw [es];decide)).1⟩,⟨fun _ h=>absurd (e1.symm.trans h) (by decide),fun _ h=>absurd (e1.symm.trans h) (by decide),fun _=>rfl⟩,⟨fun h=>absurd (show 2<(kindsB 1).size from h) (by rw [es];decide),fun h=>absurd (show 2<(kindsB 1).size from h) (by rw [es];decide),fun _=>rfl⟩⟩
 ·have es:(kindsB 2).size=2:=by rfl
  have e0:kAt (kindsB 2) 0=114:=by kernel_rfl
  have e1:kAt (kindsB 2) 1=114:=by kernel_rfl
  have hw:0≤a∧a<(R:Int):=⟨hpos (by show (2:Int)≤8∨(2:Int)=10;decide),by have h9:=hwr;rw [wr_a (x:=⟨2,a,b,c⟩) (by show (2:Int)≤8∨(2:Int)=10;decide)] at h9;exact h9⟩
  have hb:=hrd b (by rw [rd_1 (x:=⟨2,a,b,c⟩) (by show (2:Int)=2∨(2:Int)=9∨(2:Int)=10;decide)];simp)
  rw [main_2 (x:=⟨2,a,b,c⟩) rfl hw.1,fixJ_lit (by decide) (by decide)]
  exact ⟨⟨fun _ _=>colr_b hr hw (.inl rfl),fun _ h=>absurd (e0.symm.trans h) (by decide),fun h=>absurd e0 (h (by show 0<(kindsB 2).size;rw [es];decide)).1⟩,⟨fun _ _=>colr_b hr hb (.inl rfl),fun _ h=>absurd (e1.symm.trans h) (by decide),fun h=>absurd e1 (h (by show 1<(kindsB 2).size;rw [es];decide)).1⟩,⟨fun h=>absurd (show 2<(kindsB 2).size from h) (by rw [es];decide),fun h=>absurd (show 2<(kindsB 2).size from h) (by rw [es];decide),fun _=>rfl⟩⟩
 ·have es:(kindsB 3).size=3:=by rfl
  have e0:kAt (kindsB 3) 0=114:=by kernel_rfl
  have e1:kAt (kindsB 3) 1=114:=by kernel_rfl
  have e2:kAt (kindsB 3) 2=114:=by kernel_rfl
  have hw:0≤a∧a<(R:Int):=⟨hpos (by show (3:Int)≤8∨(3:Int)=10;decide),by have h9:=hwr;rw [wr_a (x:=⟨3,a,b,c⟩) (by show (3:Int)≤8∨(3:Int)=10;decide)] at h9;exact h9⟩
  have hb:=hrd b (by rw [rd_2 (x:=⟨3,a,b,c⟩) (by show (3≤(3:Int)∧(3:Int)≤7)∨(3:Int)=13;decide)];simp)
  have hc:=hrd c (by rw [rd_2 (x:=⟨3,a,b,c⟩) (by show (3≤(3:Int)∧(3:Int)≤7)∨(3:Int)=13;decide)];simp)
  rw [main_3 (x:=⟨3,a,b,c⟩) rfl hw.1,fixJ_lit (by decide) (by decide)]
  exact ⟨⟨fun _ _=>colr_b hr hw (.inl rfl),fun _ h=>absurd (e0.symm.trans h) (by decide),fun h=>absurd e0 (h (by show 0<(kindsB 3).size;rw [es];decide)).1⟩,⟨fun _ _=>colr_b hr hb (.inl rfl),fun _ h=>absurd (e1.symm.trans h) (by decide),fun h=>absurd e1 (h (by show 1<(kindsB 3).size;rw [es];decide)).1⟩,⟨fun _ _=>colr_b hr hc (.inr rfl),fun _ h=>absurd (e2.symm.trans h) (by decide),fun h=>absurd e2 (h (by show 2<(kindsB 3).size;rw [es];decide)).1⟩⟩
 ·have es:(kindsB 4).size=3:=by rfl
  have e0:kAt (kindsB 4) 0=114:=by kernel_rfl
  have e1:kAt (kindsB 4) 1=114:=by kernel_rfl
  have e2:kAt (kindsB 4) 2=114:=by kernel_rfl
  have hw:0≤a∧a<(R:Int):=⟨hpos (by show (4:Int)≤8∨(4:Int)=10;decide),by have h9:=hwr;rw [wr_a (x:=⟨4,a,b,c⟩) (by show (4:Int)≤8∨(4:Int)=10;decide)] at h9;exact h9⟩
  have hb:=hrd b (by rw [rd_2 (x:=⟨4,a,b,c⟩) (by show (3≤(4:Int)∧(4:Int)≤7)∨(4:Int)=13;decide)];simp)
  have hc:=hrd c (by rw [rd_2 (x:=⟨4,a,b,c⟩) (by show (3≤(4:Int)∧(4:Int)≤7)∨(4:Int)=13;decide)];simp)
  rw [main_4 (x:=⟨4,a,b,c⟩) rfl hw.1,fixJ_lit (by decide) (by decide)]
  exact ⟨⟨fun _ _=>colr_b hr hw (.inl rfl),fun _ h=>absurd (e0.symm.trans h) (by decide),fun h=>absurd e0 (h (by show 0<(kindsB 4).size;rw [es];decide)).1⟩,⟨fun _ _=>colr_b hr hb (.inl rfl),fun _ h=>absurd (e1.symm.trans h) (by decide),fun h=>absurd e1 (h (by show 1<(kindsB 4).size;rw [es];decide)).1⟩,⟨fun _ _=>colr_b hr hc (.inr rfl),fun _ h=>absurd (e2.symm.trans h) (by decide),fun h=>absurd e2 (h (by show 2<(kindsB 4).size;rw [es];decide)).1⟩⟩
 ·have es:(kindsB 5).size=3:=by rfl
  have e0:kAt (kindsB 5) 0=114:=by kernel_rfl
  have e1:kAt (kindsB 5) 1=114:=by kernel_rfl
  have e2:kAt (kindsB 5) 2=114:=by kernel_rfl
  have hw:0≤a∧a<(R:Int):=⟨hpos (by show (5:Int)≤8∨(5:Int)=10;decide),by have h9:=hwr;rw [wr_a (x:=⟨5,a,b,c⟩) (by show (5:Int)≤8∨(5:Int)=10;decide)] at h9;exact h9⟩
  have hb:=hrd b (by rw [rd_2 (x:=⟨5,a,b,c⟩) (by show (3≤(5:Int)∧(5:Int)≤7)∨(5:Int)=13;decide)];simp)
  have hc:=hrd c (by rw [rd_2 (x:=⟨5,a,b,c⟩) (by show (3≤(5:Int)∧(5:Int)≤7)∨(5:Int)=13;decide)];simp)
  rw [main_5 (x:=⟨5,a,b,c⟩) rfl hw.1,fixJ_lit (by decide) (by decide)]
  exact ⟨⟨fun _ _=>colr_b hr hw (.inl rfl),fun _ h=>absurd (e0.symm.trans h) (by decide),fun h=>absurd e0 (h (by show 0<(kindsB 5).size;rw [es];decide)).1⟩,⟨fun _ _=>colr_b hr hb (.inl rfl),fun _ h=>absurd (e1.symm.trans h) (by decide),fun h=>absurd e1 (h (by show 1<(kindsB 5).size;rw [es];decide)).1⟩,⟨fun _ _=>colr_b hr hc (.inr rfl),fun _ h=>absurd (e2.symm.trans h) (by decide),fun h=>absurd e2 (h (by show 2<(kindsB 5).size;rw [es];decide)).1⟩⟩
 ·have es:(kindsB 6).size=3:=by rfl
  have e0:kAt (kindsB 6) 0=114:=by kernel_rfl
  have e1:kAt (kindsB 6) 1=114:=by kernel_rfl
  have e2:kAt (kindsB 6) 2=114:=by kernel_rfl
  have hw:0≤a∧a<(R:Int):=⟨hpos (by show (6:Int)≤8∨(6:Int)=10;decide),by have h9:=hwr;rw [wr_a (x:=⟨6,a,b,c⟩) (by show (6:Int)≤8∨(6:Int)=10;decide)] at h9;exact h9⟩
  have hb:=hrd b (by rw [rd_2 (x:=⟨6,a,b,c⟩) (by show (3≤(6:Int)∧(6:Int)≤7)∨(6:Int)=13;decide)];simp)
  have hc:=hrd c (by rw [rd_2 (x:=⟨6,a,b,c⟩) (by show (3≤(6:Int)∧(6:Int)≤7)∨(6:Int)=13;decide)];simp)
  rw [main_6 (x:=⟨6,a,b,c⟩) rfl hw.1,fixJ_lit (by decide) (by decide)]
  exact ⟨⟨fun _ _=>colr_b hr hw (.inl rfl),fun _ h=>absurd (e0.symm.trans h) (by decide),fun h=>absurd e0 (h (by show 0<(kindsB 6).size;rw [es];decide)).1⟩,⟨fun _ _=>colr_b hr hb (.inl rfl),fun _ h=>absurd (e1.symm.trans h) (by decide),fun h=>absurd e1 (h (by show 1<(kindsB 6).size;rw [es];decide)).1⟩,⟨fun _ _=>colr_b hr hc (.inr rfl),fun _ h=>absurd (e2.symm.trans h) (by decide),fun h=>absurd e2 (h (by show 2<(kindsB 6).size;rw [es];decide)).1⟩⟩
 ·have es:(kindsB 7).size=3:=by rfl
  have e0:kAt (kindsB 7) 0=114:=by kernel_rfl
  have e1:kAt (kindsB 7) 1=114:=by kernel_rfl
  have e2:kAt (kindsB 7) 2=114:=by kernel_rfl
  have hw:0≤a∧a<(R:Int):=⟨hpos (by show (7:Int)≤8∨(7:Int)=10;decide),by have h9:=hwr;rw [wr_a (x:=⟨7,a,b,c⟩) (by show (7:Int)≤8∨(7:Int)=10;decide)] at h9;exact h9⟩
  have hb:=hrd b (by rw [rd_2 (x:=⟨7,a,b,c⟩) (by show (3≤(7:Int)∧(7:Int)≤7)∨(7:Int)=13;decide)];simp)
  have hc:=hrd c (by rw [rd_2 (x:=⟨7,a,b,c⟩) (by show (3≤(7:Int)∧(7:Int)≤7)∨(7:Int)=13;decide)];simp)
  rw [main_7 (x:=⟨7,a,b,c⟩) rfl hw.1,fixJ_lit (by decide) (by decide)]
  exact ⟨⟨fun _ _=>colr_b hr hw (.inl rfl),fun _ h=>absurd (e0.symm.trans h) (by decide),fun h=>absurd e0 (h (by show 0<(kindsB 7).size;rw [es];decide)).1⟩,⟨fun _ _=>colr_b hr hb (.inl rfl),fun _ h=>absurd (e1.symm.trans h) (by decide),fun h=>absurd e1 (h (by show 1<(kindsB 7).size;rw [es];decide)).1⟩,⟨fun _ _=>colr_b hr hc (.inr rfl),fun _ h=>absurd (e2.symm.trans h) (by decide),fun h=>absurd e2 (h (by show 2<(kindsB 7).size;rw [es];decide)).1⟩⟩
 ·have es:(kindsB 8).size=2:=by rfl
  have e0:kAt (kindsB 8) 0=114:=by kernel_rfl
  have e1:kAt (kindsB 8) 1=119:=by kernel_rfl
  have hw:0≤a∧a<(R:Int):=⟨hpos (by show (8:Int)≤8∨(8:Int)=10;decide),by have h9:=hwr;rw [wr_a (x:=⟨8,a,b,c⟩) (by show (8:Int)≤8∨(8:Int)=10;decide)] at h9;exact h9⟩
  rw [main_8 (x:=⟨8,a,b,c⟩) rfl hw.1,fixJ_lit (by decide) (by decide)]
  exact ⟨⟨fun _ _=>colr_b hr hw (.inl rfl),fun _ h=>absurd (e0.symm.trans h) (by decide),fun h=>absurd e0 (h (by show 0<(kindsB 8).size;rw [es];decide)).1⟩,⟨fun _ h=>absurd (e1.symm.trans h) (by decide),fun _ h=>absurd (e1.symm.trans h) (by decide),fun _=>rfl⟩,⟨fun h=>absurd (show 2<(kindsB 8).size from h) (by rw [es];decide),fun h=>absurd (show 2<(kindsB 8).size from h) (by rw [es];decide),fun _=>rfl⟩⟩
 ·have es:(kindsB 9).size=2:=by rfl
  have e0:kAt (kindsB 9) 0=119:=by kernel_rfl
  have e1:kAt (kindsB 9) 1=114:=by kernel_rfl
  have hb:=hrd b (by rw [rd_1 (x:=⟨9,a,b,c⟩) (by show (9:Int)=2∨(9:Int)=9∨(9:Int)=10;decide)];simp)
  rw [main_9 (x:=⟨9,a,b,c⟩) rfl,fixJ_lit (by decide) (by decide)]
  exact ⟨⟨fun _ h=>absurd (e0.symm.trans h) (by decide),fun _ h=>absurd (e0.symm.trans h) (by decide),fun _=>rfl⟩,⟨fun _ _=>colr_b hr hb (.inl rfl),fun _ h=>absurd (e1.symm.trans h) (by decide),fun h=>absurd e1 (h (by show 1<(kindsB 9).size;rw [es];decide)).1⟩,⟨fun h=>absurd (show 2<(kindsB 9).size from h) (by rw [es];decide),fun h=>absurd (show 2<(kindsB 9).size from h) (by rw [es];decide),fun _=>rfl⟩⟩
 ·have es:(kindsB 10).size=2:=by rfl
  have e0:kAt (kindsB 10) 0=114:=by kernel_rfl
  have e1:kAt (kindsB 10) 1=114:=by kernel_rfl
  have hw:0≤a∧a<(R:Int):=⟨hpos (by show (10:Int)≤8∨(10:Int)=10;decide),by have h9:=hwr;rw [wr_a (x:=⟨10,a,b,c⟩) (by show (10:Int)≤8∨(10:Int)=10;decide)] at h9;exact h9⟩
  have hb:=hrd b (by rw [rd_1 (x:=⟨10,a,b,c⟩) (by show (10:Int)=2∨(10:Int)=9∨(10:Int)=10;decide)];simp)
  rw [main_10 (x:=⟨10,a,b,c⟩) rfl hw.1,fixJ_lit (by decide) (by decide)]
  exact ⟨⟨fun _ _=>colr_b hr hw (.inl rfl),fun _ h=>absurd (e0.symm.trans h) (by decide),fun h=>absurd e0 (h (by show 0<(kindsB 10).size;rw [es];decide)).1⟩,⟨fun _ _=>colr_b hr hb (.inl rfl),fun _ h=>absurd (e1.symm.trans h) (by decide),fun h=>absurd e1 (h (by show 1<(kindsB 10).size;rw [es];decide)).1⟩,⟨fun h=>absurd (show 2<(kindsB 10).size from h) (by rw [es];decide),fun h=>absurd (show 2<(kindsB 10).size from h) (by rw [es];decide),fun _=>rfl⟩⟩
 ·have es:(kindsB 11).size=2:=by rfl
  have e0:kAt (kindsB 11) 0=114:=by kernel_rfl
  have e1:kAt (kindsB 11) 1=114:=by kernel_rfl
  have ha:=hrd a (by rw [rd_3 (x:=⟨11,a,b,c⟩) rfl];simp)
  have hb:=hrd b (by rw [rd_3 (x:=⟨11,a,b,c⟩) rfl];simp)
  rw [main_11 (x:=⟨11,a,b,c⟩) rfl,fixJ_lit (by decide) (by decide)]
  exact ⟨⟨fun _ _=>colr_b hr ha (.inl rfl),fun _ h=>absurd (e0.symm.trans h) (by decide),fun h=>absurd e0 (h (by show 0<(kindsB 11).size;rw [es];decide)).1⟩,⟨fun _ _=>colr_b hr hb (.inr rfl),fun _ h=>absurd (e1.symm.trans h) (by decide),fun h=>absurd e1 (h (by show 1<(kindsB 11).size;rw [es];decide)).1⟩,⟨fun h=>absurd (show 2<(kindsB 11).size from h) (by rw [es];decide),fun h=>absurd (show 2<(kindsB 11).size from h) (by rw [es];decide),fun _=>rfl⟩⟩
 ·have es:(kindsB 12).size=0:=by rfl
  rw [main_12 (x:=⟨12,a,b,c⟩) rfl,fixJ_lit (by decide) (by decide)]
  exact ⟨⟨fun h=>absurd (show 0<(kindsB 12).size from h) (by rw [es];decide),fun h=>absurd (show 0<(kindsB 12).size from h) (by rw [es];decide),fun _=>rfl⟩,⟨fun h=>absurd (show 1<(kindsB 12).size from h) (by rw [es];decide),fun h=>absurd (show 1<(kindsB 12).size from h) (by rw [es];decide),fun _=>rfl⟩,⟨fun h=>absurd (show 2<(kindsB 12).size from h) (by rw [es];decide),fun h=>absurd (show 2<(kindsB 12).size from h) (by rw [es];decide),fun _=>rfl⟩⟩
 ·have es:(kindsB 13).size=3:=by rfl
  have e0:kAt (kindsB 13) 0=119:=by kernel_rfl
  have e1:kAt (kindsB 13) 1=114:=by kernel_rfl
  have e2:kAt (kindsB 13) 2=114:=by kernel_rfl
  have hb:=hrd b (by rw [rd_2 (x:=⟨13,a,b,c⟩) (by show (3≤(13:Int)∧(13:Int)≤7)∨(13:Int)=13;decide)];simp)
  have hc:=hrd c (by rw [rd_2 (x:=⟨13,a,b,c⟩) (by show (3≤(13:Int)∧(13:Int)≤7)∨(13:Int)=13;decide)];simp)
  rw [main_13 (x:=⟨13,a,b,c⟩) rfl,fixJ_lit (by decide) (by decide)]
  exact ⟨⟨fun _ h=>absurd (e0.symm.trans h) (by decide),fun _ h=>absurd (e0.symm.trans h) (by decide),fun _=>rfl⟩,⟨fun _ _=>colr_b hr hb (.inl rfl),fun _ h=>absurd (e1.symm.trans h) (by decide),fun h=>absurd e1 (h (by show 1<(kindsB 13).size;rw [es];decide)).1⟩,⟨fun _ _=>colr_b hr hc (.inr rfl),fun _ h=>absurd (e2.symm.trans h) (by decide),fun h=>absurd e2 (h (by show 2<(kindsB 13).size;rw [es];decide)).1⟩⟩
 ·have es:(kindsB 14).size=1:=by rfl
  have e0:kAt (kindsB 14) 0=99:=by kernel_rfl
  rw [main_14 (x:=⟨14,a,b,c⟩) rfl,show fixJ pl (⟨14,a,b,c⟩:Ins)=⟨14,(pl a.toNat:Int),b,c⟩ from rfl]
  exact ⟨⟨fun _ h=>absurd (e0.symm.trans h) (by decide),fun _ _=>hj14 rfl,fun h=>absurd e0 (h (by show 0<(kindsB 14).size;rw [es];decide)).2⟩,⟨fun h=>absurd (show 1<(kindsB 14).size from h) (by rw [es];decide),fun h=>absurd (show 1<(kindsB 14).size from h) (by rw [es];decide),fun _=>rfl⟩,⟨fun h=>absurd (show 2<(kindsB 14).size from h) (by rw [es];decide),fun h=>absurd (show 2<(kindsB 14).size from h) (by rw [es];decide),fun _=>rfl⟩⟩
 ·have es:(kindsB 15).size=2:=by rfl
  have e0:kAt (kindsB 15) 0=114:=by kernel_rfl
  have e1:kAt (kindsB 15) 1=99:=by kernel_rfl
  have ha:=hrd a (by rw [rd_4 (x:=⟨15,a,b,c⟩) (by show (15:Int)=15∨(15:Int)=16;decide)];simp)
  rw [main_15 (x:=⟨15,a,b,c⟩) rfl,show fixJ pl (⟨15,colr cl a 6,b,c⟩:Ins)=⟨15,colr cl a 6,(pl b.toNat:Int),c⟩ from rfl]
  exact ⟨⟨fun _ _=>colr_b hr ha (.inl rfl),fun _ h=>absurd (e0.symm.trans h) (by decide),fun h=>absurd e0 (h (by show 0<(kindsB 15).size;rw [es];decide)).1⟩,⟨fun _ h=>absurd (e1.symm.trans h) (by decide),fun _ _=>hj15 rfl,fun h=>absurd e1 (h (by show 1<(kindsB 15).size;rw [es];decide)).2⟩,⟨fun h=>absurd (show 2<(kindsB 15).size from h) (by rw [es];decide),fun h=>absurd (show 2<(kindsB 15).size from h) (by rw [es];decide),fun _=>rfl⟩⟩
 ·have es:(kindsB 16).size=1:=by rfl
  have e0:kAt (kindsB 16) 0=114:=by kernel_rfl
  have ha:=hrd a (by rw [rd_4 (x:=⟨16,a,b,c⟩) (by show (16:Int)=15∨(16:Int)=16;decide)];simp)
  rw [main_16 (x:=⟨16,a,b,c⟩) rfl,fixJ_lit (by decide) (by decide)]
  exact ⟨⟨fun _ _=>colr_b hr ha (.inl rfl),fun _ h=>absurd (e0.symm.trans h) (by decide),fun h=>absurd e0 (h (by show 0<(kindsB 16).size;rw [es];decide)).1⟩,⟨fun h=>absurd (show 1<(kindsB 16).size from h) (by rw [es];decide),fun h=>absurd (show 1<(kindsB 16).size from h) (by rw [es];decide),fun _=>rfl⟩,⟨fun h=>absurd (show 2<(kindsB 16).size from h) (by rw [es];decide),fun h=>absurd (show 2<(kindsB 16).size from h) (by rw [es];decide),fun _=>rfl⟩⟩
 ·have es:(kindsB 17).size=1:=by rfl
  have e0:kAt (kindsB 17) 0=108:=by kernel_rfl
  rw [main_17 (x:=⟨17,a,b,c⟩) rfl,fixJ_lit (by decide) (by decide)]
  exact ⟨⟨fun _ h=>absurd (e0.symm.trans h) (by decide),fun _ h=>absurd (e0.symm.trans h) (by decide),fun _=>rfl⟩,⟨fun h=>absurd (show 1<(kindsB 17).size from h) (by rw [es];decide),fun h=>absurd (show 1<(kindsB 17).size from h) (by rw [es];decide),fun _=>rfl⟩,⟨fun h=>absurd (show 2<(kindsB 17).size from h) (by rw [es];decide),fun h=>absurd (show 2<(kindsB 17).size from h) (by rw [es];decide),fun _=>rfl⟩⟩
 ·have es:(kindsB 18).size=1:=by rfl
  have e0:kAt (kindsB 18) 0=108:=by kernel_rfl
  rw [main_18 (x:=⟨18,a,b,c⟩) rfl,fixJ_lit (by decide) (by decide)]
  exact ⟨⟨fun _ h=>absurd (e0.symm.trans h) (by decide),fun _ h=>absurd (e0.symm.trans h) (by decide),fun _=>rfl⟩,⟨fun h=>absurd (show 1<(kindsB 18).size from h) (by rw [es];decide),fun h=>absurd (show 1<(kindsB 18).size from h) (by rw [es];decide),fun _=>rfl⟩,⟨fun h=>absurd (show 2<(kindsB 18).size from h) (by rw [es];decide),fun h=>absurd (show 2<(kindsB 18).size from h) (by rw [es];decide),fun _=>rfl⟩⟩
section
variable {c:List Ins}{cl:List Int}{b R:Nat}
theorem plA_from :∀n,n≤c.length→∀j,j<plA c cl b R n→∃i k,i<n∧k<(paintL cl (wdF cl b R) (nth c i)).length∧j=plA c cl b R i+k
 |0,_,j,hj=>by rw [plA_0] at hj;omega
 |n+1,hn,j,hj=>by
  have hp:=plA_succ (cl:=cl) (b:=b) (R:=R) (show n<c.length by omega)
  have hl:=paint_len (cl:=cl) (wd:=wdF cl b R) (x:=nth c n)
  rcases Nat.lt_or_ge j (plA c cl b R n) with h|h
  ·obtain ⟨i,k,h1,h2,h3⟩:=plA_from n (by omega) j h
   exact ⟨i,k,by omega,h2,h3⟩
  ·exact ⟨n,j-plA c cl b R n,by omega,by omega,by omega⟩
theorem plA_le {i:Nat}(h:i≤c.length):plA c cl b R i≤plA c cl b R c.length:=by
 have key:∀m,i+m≤c.length→plA c cl b R i≤plA c cl b R (i+m):=by
  intro m
  induction m with
  |zero=>intro _;exact Nat.le_refl _
  |succ m ih=>
   intro h2
   have h3:=ih (by omega)
   have hp:=plA_succ (cl:=cl) (b:=b) (R:=R) (show i+m<c.length by omega)
   rw [←Nat.add_assoc];omega
 have:=key (c.length-i) (by omega)
 rwa [show i+(c.length-i)=c.length by omega] at this
end
theorem fit_rA {p:Pg}{size n:Int}(h:0≤n∧n<p.regs):fitsG p size 114 n=true:=by
 unfold fitsG
 simp only [Int.reduceEq,if_false,if_true,Bool.and_eq_true,decide_eq_true_eq]
 exact h
theorem fit_wA {p:Pg}{size n:Int}(h:0≤n∧n<p.words.length):fitsG p size 119 n=true:=by
 unfold fitsG
 simp only [Int.reduceEq,if_false,if_true,Bool.and_eq_true,decide_eq_true_eq]
 exact h
theorem okA_load {p:Pg}{size a b:Int}(ha:0≤a∧a<p.regs)(hb:0≤b∧b<p.words.length):OkIns p size ⟨8,a,b,0⟩:=by
 have k:kindsB (⟨8,a,b,0⟩:Ins).op=⟨[114,119].toArray⟩:=by show kindsB 8=_;unfold kindsB;simp
 exact ⟨⟨show (1:Int)≤8 by decide,show (8:Int)≤18 by decide⟩,by rw [num0_iff k];exact fit_rA ha,by rw [num1_iff k];exact fit_wA hb,by rw [num_no (by rw [k];decide)];rfl⟩
theorem okA_store {p:Pg}{size a b:Int}(ha:0≤a∧a<p.words.length)(hb:0≤b∧b<p.regs):OkIns p size ⟨9,a,b,0⟩:=by
 have k:kindsB (⟨9,a,b,0⟩:Ins).op=⟨[119,114].toArray⟩:=by show kindsB 9=_;unfold kindsB;simp
 exact ⟨⟨show (1:Int)≤9 by decide,show (9:Int)≤18 by decide⟩,by rw [num0_iff k];exact fit_wA ha,by rw [num1_iff k];exact fit_rA hb,by rw [num_no (by rw [k];decide)];rfl⟩
theorem paintPg_ok {p:Pg}{cl:Nat→List Int}{bs:Nat→Nat}{tot:Nat}{f:Nat→Nat→Nat→Bool}(H:AllC p cl bs tot f)(hok:OkPg p)(hw:p.words.length+tot≤64)(hs:∀t,t<p.code.length→(apT (nth p.code t) (cl t) (bs t) p.regs.toNat).length≤400):OkPg (paintPg p cl bs tot):=by
 have hwl:(paintPg p cl bs tot).words.length=p.words.length+tot:=by simp [paintPg]
 have hq8:(paintPg p cl bs tot).regs=8:=rfl
 have hqk:(paintPg p cl bs tot).locks=p.locks:=rfl
 refine ⟨by rw [paintPg_len];exact hok.code,by omega,hok.locks,⟨show (1:Int)≤8 by decide,show (8:Int)≤200 by decide⟩,fun t ht=> ?_,fun t j ht hj=> ?_⟩
 ·rw [paintPg_len] at ht
  rw [paintPg_code ht];exact hs t ht
 ·rw [paintPg_len] at ht
  rw [paintPg_code ht] at hj⊢
  have hsz:=hs t ht
  have hC:=H.ctx t ht
  have hlen:=apT_len (c:=nth p.code t) (cl:=cl t) (b:=bs t) (R:=p.regs.toNat)
  obtain ⟨i,k,hi,hk,rfl⟩:=plA_from _ (Nat.le_refl _) j (by rw [←hlen];exact hj)
  rw [paint_len] at hk
  rcases Nat.lt_or_ge k (nL (cl t) (wdF (cl t) (bs t) p.regs.toNat) (nth (nth p.code t) i)) with h|h
  ·obtain ⟨k2,h1,h2,_,h4,_⟩:=apT_ld (b:=bs t) (R:=p.regs.toNat) hi h
   rw [h4]
   have hb:=(hC.okv i hi).2.2.2 _ (nth_mem (rdG (nth (nth p.code t) i)) k2 h1)
   have hwd:=hC.wdr _ (show (nth (rdG (nth (nth p.code t) i)) k2).toNat<p.regs.toNat by omega) h2
   have h62:=rdG_len (nth (nth p.code t) i)
   exact okA_load (by rw [hq8];omega) (by rw [hwl];omega)
  rcases Nat.eq_or_lt_of_le h with h|h
  ·subst h
   rw [(apT_mn (cl:=cl t) (b:=bs t) (R:=p.regs.toNat) hi).1]
   have ho:=hok.ins t i ht hi
   have hov:=hC.okv i hi
   obtain ⟨n0,n1,n2⟩:=paint_nums (size' :=((apT (nth p.code t) (cl t) (bs t) p.regs.toNat).length:Int)) (pl:=plA (nth p.code t) (cl t) (bs t) p.regs.toNat) hC.rng (nth (nth p.code t) i) hov.1 hov.2.2.2 hov.2.2.1.2 hov.2.1
    (fun e=>by have h9:=(hC.jmp i hi).1 e;have:=plA_le (cl:=cl t) (b:=bs t) (R:=p.regs.toNat) (c:=nth p.code t) (i:=(nth (nth p.code t) i).a.toNat) (by omega);rw [hlen];omega)
    (fun e=>by have h9:=(hC.jmp i hi).2 e;have:=plA_le (cl:=cl t) (b:=bs t) (R:=p.regs.toNat) (c:=nth p.code t) (i:=(nth (nth p.code t) i).b.toNat) (by omega);rw [hlen];omega)
   have hop:(fixJ (plA (nth p.code t) (cl t) (bs t) p.regs.toNat) (mainI (cl t) (nth (nth p.code t) i))).op=(nth (nth p.code t) i).op:=by unfold fixJ;split;exact main_op;split;exact main_op;exact main_op
   exact ⟨by rw [hop];exact hov.1,num_ok hop hq8 (by omega) hqk ⟨by omega,by omega⟩ ho.n0 n0,num_ok hop hq8 (by omega) hqk ⟨by omega,by omega⟩ ho.n1 n1,num_ok hop hq8 (by omega) hqk ⟨by omega,by omega⟩ ho.n2 n2⟩
  ·have he:0≤exW (cl t) (nth (nth p.code t) i):=by
    by_cases e:0≤exW (cl t) (nth (nth p.code t) i)
    ·exact e
    ·rw [if_neg e] at hk;omega
   rw [if_pos he] at hk
   obtain rfl:k=nL (cl t) (wdF (cl t) (bs t) p.regs.toNat) (nth (nth p.code t) i)+1:=by omega
   rw [←Nat.add_assoc,(apT_st (b:=bs t) (R:=p.regs.toNat) hi he).1]
   have hw2:0≤wrG (nth (nth p.code t) i)∧nth (cl t) (wrG (nth (nth p.code t) i)).toNat<0∧exW (cl t) (nth (nth p.code t) i)=wrG (nth (nth p.code t) i):=by
    unfold exW at he⊢
    by_cases h9:0≤wrG (nth (nth p.code t) i)∧nth (cl t) (wrG (nth (nth p.code t) i)).toNat<0
    ·rw [if_pos h9];exact ⟨h9.1,h9.2,rfl⟩
    ·rw [if_neg h9] at he;exact absurd he (by decide)
   have hb:=(hC.okv i hi).2.2.1.2
   have hwd:=hC.wdr (exW (cl t) (nth (nth p.code t) i)).toNat (by rw [hw2.2.2];omega) (by rw [hw2.2.2];exact hw2.2.1)
   exact okA_store (by rw [hwl];omega) (by rw [hq8];decide)
theorem nSp_mono {cl:List Int}{k m:Nat}(h:k≤m):nSp cl k≤nSp cl m:=by
 induction h with
 |refl=>exact Nat.le_refl _
 |step _ ih=>
  rename_i m _
  by_cases hc:nth cl m<0
  ·rw [nSp_yes hc];omega
  ·rw [nSp_no hc];exact ih
theorem nSp_lt {cl:List Int}{k m:Nat}(h:k<m)(hc:nth cl k<0):nSp cl k<nSp cl m:=by
 have h1:=nSp_mono (cl:=cl) (show k+1≤m by omega)
 rw [nSp_yes hc] at h1;omega
theorem tSp_mono {cols:List (Ls Int)}{R k m:Nat}(h:k≤m):tSp cols R k≤tSp cols R m:=by
 induction h with
 |refl=>exact Nat.le_refl _
 |step _ ih=>rw [tSp];omega
theorem all_ctx {code:Ls (Ls Ins)}{words:Ls Int}{Lk R:Nat}{cols:List (Ls Int)}{f:Nat→Nat→Nat→Bool}(hok:OkPg (pgOf code words (Lk:Int) (R:Int)))(hcb:colsB code.l cols f R=true)(hF:∀t,t<code.l.length→∀r j,(f t r j=true↔LiveI (nth code.l t).l r j)):
  AllC (pgOf code words (Lk:Int) (R:Int)) (fun t=>(nth cols t).l) (fun t=>words.l.length+tSp cols R t) (tSp cols R code.l.length) f:=by
 have hcl:(pgOf code words (Lk:Int) (R:Int)).code.length=code.l.length:=by simp [pgOf]
 have hcn:∀t,t<code.l.length→nth (pgOf code words (Lk:Int) (R:Int)).code t=(nth code.l t).l:=fun t ht=>nth_map' _ _ _ ht
 have hR:(pgOf code words (Lk:Int) (R:Int)).regs.toNat=R:=rfl
 have hwn:(pgOf code words (Lk:Int) (R:Int)).words.length=words.l.length:=rfl
 unfold colsB at hcb
 simp only [Bool.and_eq_true,decide_eq_true_eq,List.all_eq_true,List.mem_range] at hcb
 have hcol:∀t,t<code.l.length→∀r,r<R→(-1≤nth (nth cols t).l r∧nth (nth cols t).l r<6)∧∀s,s<R→cellB (nth code.l t).l (nth cols t).l (f t) r s=false:=fun t ht r hr=>by
  have h1:=hcb.2 t (by omega)
  unfold thB at h1
  simp only [Bool.and_eq_true,decide_eq_true_eq,List.all_eq_true,List.mem_range] at h1
  have h2:=h1.2 r hr
  unfold rowB at h2
  simp only [Bool.and_eq_true,decide_eq_true_eq,List.all_eq_true,List.mem_range] at h2
  exact ⟨h2.1,fun s hs=>by have:=h2.2 s hs;simpa using this⟩
 have hwd:∀t r,t<code.l.length→r<R→nth (nth cols t).l r<0→nth (wdF (nth cols t).l (words.l.length+tSp cols R t) R) r=((words.l.length+tSp cols R t+nSp (nth cols t).l r:Nat):Int)∧tSp cols R t+nSp (nth cols t).l r<tSp cols R (t+1):=fun t r ht hr hc=>
  ⟨wdF_nth hr hc,by have:=nSp_lt hr hc;rw [tSp];omega⟩
 refine ⟨fun t ht=> ?_,fun t u r s ht hu hne hr hs hc1 hc2=> ?_⟩
 ·rw [hcl] at ht
  rw [hcn t ht,hwn,hR]
  obtain ⟨hl4,hjt⟩:=ok_thread hok t ht
  refine ⟨fun r hr=>(hcol t ht r hr).1,fun r s hr hs h0 hcl2 e=> ?_,fun r hr hc=> ?_,fun r s hr hs h1 h2 e=> ?_,hF t ht,okV_of hok t ht,hjt⟩
  ·have:=(hcol t ht r hr).2 s hs
   rw [cellB_t h0 hcl2 e] at this;cases this
  ·obtain ⟨h1,h2⟩:=hwd t r ht hr hc
   have h3:=tSp_mono (cols:=cols) (R:=R) (show t+1≤code.l.length by omega)
   rw [h1];omega
  ·obtain ⟨g1,_⟩:=hwd t r ht hr h1
   obtain ⟨g2,_⟩:=hwd t s ht hs h2
   rw [g1,g2] at e
   have e2:nSp (nth cols t).l r=nSp (nth cols t).l s:=by omega
   rcases Nat.lt_trichotomy r s with h9|h9|h9
   ·have:=nSp_lt h9 h1;omega
   ·exact h9
   ·have:=nSp_lt h9 h2;omega
 ·rw [hcl] at ht hu
  rw [hR] at hr hs⊢
  obtain ⟨h1,h2⟩:=hwd t r ht hr hc1
  obtain ⟨h3,h4⟩:=hwd u s hu hs hc2
  show (nth (wdF (nth cols t).l (words.l.length+tSp cols R t) R) r).toNat≠(nth (wdF (nth cols u).l (words.l.length+tSp cols R u) R) s).toNat
  rw [h1,h3]
  rcases Nat.lt_or_ge t u with h9|h9
  ·have:=tSp_mono (cols:=cols) (R:=R) (show t+1≤u by omega);omega
  ·have:=tSp_mono (cols:=cols) (R:=R) (show u+1≤t by omega);omega
theorem least_natA {n:Nat}{p:Nat→Prop}(h:¬∀t,t<n→¬p t):∃k,k<n∧p k∧∀j,j<k→¬p j:=by
 induction n with
 |zero=>exact absurd (fun t ht=>absurd ht (Nat.not_lt_zero t)) h
 |succ n ih=>
  by_cases h2:∀t,t<n→¬p t
  ·by_cases h3:p n
   ·exact ⟨n,Nat.lt_succ_self n,h3,h2⟩
   ·exact absurd (fun t ht=>by
     rcases Nat.lt_or_eq_of_le (Nat.le_of_lt_succ ht) with h4|h4
     ·exact h2 t h4
     ·subst h4;exact h3) h
  ·obtain ⟨k,h4,h5⟩:=ih h2
   exact ⟨k,by omega,h5⟩
theorem memNth {α:Type}[Inhabited α]{l:List α}{x:α}(h:x∈l):∃i,i<l.length∧nth l i=x:=by
 obtain ⟨i,hi,e⟩:=List.getElem_of_mem h
 exact ⟨i,hi,by unfold nth List.getD;rw [List.getElem?_eq_getElem hi];exact e⟩
theorem outs_words {p:Pg}{m:Int}(hok:OkPg p){o:Outc}(h:Outs p m o)(h1:o.st≠1):o.words.length=p.words.length:=by
 cases h with
 |done hr _=>exact (hr.wf hok).words
 |stuck hr _ _=>exact (hr.wf hok).words
 |fell _ _ _ _=>exact absurd rfl h1
section
variable {code c:Ls (Ls Ins)}{words u:Ls Int}{Lk R:Nat}{cols:List (Ls Int)}{f:Nat→Nat→Nat→Bool}{en1 en2 s:List OutL}
theorem pg_paint (hc:c.l.map (·.l)=(List.range code.l.length).map (fun t=>apT (nth code.l t).l (nth cols t).l (words.l.length+tSp cols R t) R))(hu:u.l=words.l++List.replicate (tSp cols R code.l.length) 0):
  pgN c u Lk 8=paintPg (pgN code words Lk R) (fun t=>(nth cols t).l) (fun t=>words.l.length+tSp cols R t) (tSp cols R code.l.length):=by
 have e:(pgN code words Lk R).code.length=code.l.length:=pgN_len
 show (⟨c.l.map (·.l),u.l,(Lk:Int),8⟩:Pg)=⟨_,_,_,_⟩
 rw [hc,hu,e]
 congr 1
 refine List.map_congr_left fun t ht=> ?_
 rw [pgN_code (List.mem_range.1 ht)]
 rfl
def Few (code:Ls (Ls Ins))(words:Ls Int)(Lk R:Nat)(c:Ls (Ls Ins))(u:Ls Int):Prop:=OkPg (pgN c u Lk 8)∧∃(cl:Nat→List Int) (bs:Nat→Nat) (tot:Nat) (f:Nat→Nat→Nat→Bool),pgN c u Lk 8=paintPg (pgN code words Lk R) cl bs tot∧AllC (pgN code words Lk R) cl bs tot f
theorem few_len (hf:Few code words Lk R c u)(h2:∀o,o∈en2.map OutL.out↔Outs (pgN c u Lk 8) 0 o):∀i,i<en2.length→(nth en2 i).st≠1→words.l.length≤(nth en2 i).words.l.length:=by
 obtain ⟨hq,cl,bs,tot,f,e,_⟩:=hf
 intro i hi h1
 have h3:=(h2 (nth en2 i).out).1 (List.mem_map.2 ⟨_,nth_mem _ _ hi,rfl⟩)
 have h4:=outs_words hq h3 h1
 rw [e] at h4
 have h5:(nth en2 i).words.l.length=(words.l++List.replicate tot 0).length:=h4
 rw [h5,List.length_append]
 omega
theorem few_same (hok:OkPg (pgN code words Lk R))(hf:Few code words Lk R c u){rk:Bool}(h1:Sorted_ (en1.map OutL.out)∧∀o,o∈en1.map OutL.out↔Outs (pgN code words Lk R) 0 o)(h2:∀o,o∈en2.map OutL.out↔Outs (pgN c u Lk 8) 0 o)
  (hrk:rk=false→∀t,t<code.l.length→∀i,i<(nth code.l t).l.length→(nth (nth code.l t).l i).op≠10∧(nth (nth code.l t).l i).op≠11) (hnf:rk=true→∀i,i<en1.length→(nth en1 i).st≠1)
  (hs:Sorted_ (s.map OutL.out)∧∀o,o∈s.map OutL.out↔o∈(en2.map OutL.out).map (cutF words.l.length)):en1.map OutL.out=s.map OutL.out:=by
 obtain ⟨hq,cl,bs,tot,f,e,H⟩:=hf
 have hN:NoAdr (pgN code words Lk R):=by
  cases rk with
  |false=>
   refine .inl fun t i ht hi=> ?_
   rw [pgN_len] at ht
   rw [pgN_code ht] at hi⊢
   exact hrk rfl t ht i hi
  |true=>
   refine .inr fun s t k hr ht hk=> ?_
   cases hfl:(stepT (pgN code words Lk R) 0 s t k).fell with
   |false=>rfl
   |true=>
    obtain ⟨x,hx,hx2⟩:=List.mem_map.1 ((h1.2 _).2 (.fell hr ht hk hfl))
    obtain ⟨i,hi,rfl⟩:=memNth hx
    exact absurd (congrArg Outc.st hx2) (hnf rfl i hi)
 rw [e] at hq h2
 refine sorted_ext h1.1 hs.1 fun o=> ?_
 rw [h1.2,hs.2]
 constructor
 ·intro h
  obtain ⟨o',h3,h4⟩:=paint_to H hok hq hN h
  exact List.mem_map.2 ⟨o',(h2 o').2 h3,h4.symm⟩
 ·intro h
  obtain ⟨o',h3,rfl⟩:=List.mem_map.1 h
  exact paint_from H hok hq hN ((h2 o').1 h3)
end
end Go.Proofs.Ytmbfcgpneflbmaa
