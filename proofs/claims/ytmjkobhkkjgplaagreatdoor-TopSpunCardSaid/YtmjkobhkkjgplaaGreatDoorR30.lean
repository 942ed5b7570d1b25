/- What a linked program comes to, the one with locks comes to, and the other way round, where that never falls; for every program: the statement holds, under no condition. -/
import Derived.Test.YtmjkobhkkjgplaaGreatDoorQ4
import Derived.ProofKit
import Derived.OpenShut
import Derived.Deep.Slices
import Derived.Carry
import Derived.SizedLaws
import Derived.Test.YtmjkobhkkjgplaaGreatDoorCards
import Derived.Test.YtmjkobhkkjgplaaGreatDoorTie
import Derived.LaidLaws
import Derived.LaidHandle
import Derived.LaidMore
import Derived.Handed
import Derived.SevenTiedAt
namespace Go.Proofs.YtmjkobhkkjgplaaGreatDoor
open Go.RowKit
set_option linter.unusedSimpArgs false
set_option linter.unusedVariables false
set_option maxRecDepth 100000
set_option maxHeartbeats 8000000
def fix1 (k:Nat)(x:Ins):Ins:=if x.op=15∧x.b= -1 then { x with b:=(k:Int)-3 } else x
def fixFrom (off:Nat)(l:List Ins):List Ins:=(List.range l.length).map fun q=>fix1 (off+q) (nth l q)
theorem fixFrom_len (off:Nat)(l:List Ins):(fixFrom off l).length=l.length:=by simp [fixFrom]
theorem fixFrom_nth (off:Nat)(l:List Ins)(q:Nat)(h:q<l.length):nth (fixFrom off l) q=fix1 (off+q) (nth l q):=by
 unfold fixFrom
 rw [nth_map' _ _ _ (by simpa using h)]
 simp [nth,h]
theorem fixFrom_append (off:Nat)(l m:List Ins):fixFrom off (l++m)=fixFrom off l++fixFrom (off+l.length) m:=by
 apply ext_nth
 ·simp [fixFrom_len]
 ·intro i hi
  rw [fixFrom_len,List.length_append] at hi
  rw [fixFrom_nth _ _ _ (by rw [List.length_append];exact hi)]
  by_cases h:i<l.length
  ·rw [nth_app_lt _ _ _ h,nth_app_lt _ _ _ (by rw [fixFrom_len];exact h),fixFrom_nth _ _ _ h]
  ·rw [nth_app_ge _ _ _ (by omega),nth_app_ge _ _ _ (by rw [fixFrom_len];omega),fixFrom_len,fixFrom_nth _ _ _ (by omega),Nat.add_assoc,Nat.add_sub_cancel' (by omega)]
theorem eq_fix (out ou:List Ins)(hl:ou.length=out.length)(h:∀j,j<out.length→nth ou j=fix1 j (nth out j)):ou=fixFrom 0 out:=by
 apply ext_nth
 ·rw [fixFrom_len];exact hl
 ·intro i hi
  rw [h i (by omega),fixFrom_nth _ _ _ (by omega),Nat.zero_add]
theorem placeBR (nw:Nat)(code:List Ins)(j:Nat):placeL (becL (linkB nw) code) j=placeL (becL (linkR nw) code) j:=by
 have e:(becL (linkB nw) code).map List.length=(becL (linkR nw) code).map List.length:=by
  simp only [becL,List.map_map]
  apply List.map_congr_left
  intro i _
  exact linkBR_len nw i _
 unfold placeL
 rw [List.map_take,List.map_take,e]
theorem link_group (nw:Nat)(code:List Ins)(k:Nat):fixFrom (placeL (becL (linkB nw) code) k) ((linkB nw k (nth code k)).map (fixMv (becL (linkB nw) code) code k))=(linkR nw k (nth code k)).map (fixIns (becL (linkR nw) code) code k):=by
 by_cases h17:(nth code k).op=17
 ·have e1:linkB nw k (nth code k)= [⟨1,6,0,0⟩,⟨1,7,1,0⟩,⟨13,nw+(nth code k).a,6,7⟩,⟨15,6,-1,0⟩]:=by unfold linkB;rw [if_pos h17]
  have e2:linkR nw k (nth code k)= [⟨1,6,0,0⟩,⟨1,7,1,0⟩,⟨13,nw+(nth code k).a,6,7⟩,⟨15,6,0,0⟩]:=by unfold linkR;rw [if_pos h17]
  have e3:(linkB nw k (nth code k)).map (fixMv (becL (linkB nw) code) code k)= [⟨1,6,0,0⟩,⟨1,7,1,0⟩,⟨13,nw+(nth code k).a,6,7⟩,⟨15,6,-1,0⟩]:=by rw [e1];simp [fixMv,h17]
  have e4:(linkR nw k (nth code k)).map (fixIns (becL (linkR nw) code) code k)= [⟨1,6,0,0⟩,⟨1,7,1,0⟩,⟨13,nw+(nth code k).a,6,7⟩,⟨15,6,placeL (becL (linkR nw) code) k,0⟩]:=by rw [e2];simp [fixIns,h17]
  rw [e3,e4,placeBR]
  generalize placeL (becL (linkR nw) code) k=pk
  generalize (nth code k).a=ca
  simp [fixFrom,fix1,nth,List.range_succ]
 ·by_cases h18:(nth code k).op=18
  ·have e1:linkB nw k (nth code k)= [⟨1,6,0,0⟩,⟨9,nw+(nth code k).a,6,0⟩]:=by unfold linkB;rw [if_neg h17,if_pos h18]
   have e2:linkR nw k (nth code k)= [⟨1,6,0,0⟩,⟨9,nw+(nth code k).a,6,0⟩]:=by unfold linkR;rw [if_neg h17,if_pos h18]
   have e3:(linkB nw k (nth code k)).map (fixMv (becL (linkB nw) code) code k)= [⟨1,6,0,0⟩,⟨9,nw+(nth code k).a,6,0⟩]:=by rw [e1];simp [fixMv]
   have e4:(linkR nw k (nth code k)).map (fixIns (becL (linkR nw) code) code k)= [⟨1,6,0,0⟩,⟨9,nw+(nth code k).a,6,0⟩]:=by rw [e2];simp [fixIns]
   rw [e3,e4,placeBR]
   generalize placeL (becL (linkR nw) code) k=pk
   generalize (nth code k).a=ca
   simp [fixFrom,fix1,nth,List.range_succ]
  ·have e1:linkB nw k (nth code k)= [nth code k]:=by unfold linkB;rw [if_neg h17,if_neg h18]
   have e2:linkR nw k (nth code k)= [nth code k]:=by unfold linkR;rw [if_neg h17,if_neg h18]
   rw [e1,e2]
   have e3:fixMv (becL (linkB nw) code) code k (nth code k)=fixIns (becL (linkR nw) code) code k (nth code k):=by
    unfold fixMv fixIns
    rw [placeBR,placeBR]
    split
    ·rfl
    ·split
     ·rfl
     ·rw [if_neg (by omega)]
   have e4:∀y:Ins,¬(y.op=15∧y.b= -1)→∀off,fixFrom off [y]= [y]:=by
    intro y hy off
    simp [fixFrom,fix1,nth,List.range_succ,hy]
   simp only [List.map_cons,List.map_nil]
   rw [e3]
   by_cases h15:(nth code k).op=15
   ·refine e4 _ (fun hh=> ?_) _
    have hb:(fixIns (becL (linkR nw) code) code k (nth code k)).b=(placeL (becL (linkR nw) code) (nth code k).b.toNat:Int):=by
     unfold fixIns
     rw [if_neg (by omega),if_pos ⟨h15,h15⟩]
    have:=hh.2
    rw [hb] at this
    omega
   ·refine e4 _ (fun hh=> ?_) _
    have ho:(fixIns (becL (linkR nw) code) code k (nth code k)).op=(nth code k).op:=by
     unfold fixIns
     split
     ·rfl
     ·split
      ·rfl
      ·split<;>rfl
    have:=hh.1
    omega
theorem linkB_eq (nw:Nat)(code:List Ins):fixFrom 0 (movedL (linkB nw) code)=linkL nw code:=by
 have hlen:∀k,k≤code.length→((List.range k).flatMap fun i=>(linkB nw i (nth code i)).map (fixMv (becL (linkB nw) code) code i)).length=placeL (becL (linkB nw) code) k:=by
  intro k hk
  induction k with
  |zero=>rfl
  |succ k ih=>
   rw [List.range_succ,List.flatMap_append,List.length_append,ih (by omega),placeL_succ _ _ (by rw [becL_len];omega),becL_nth _ _ _ (by omega)]
   simp
 have key:∀k,k≤code.length→fixFrom 0 ((List.range k).flatMap fun i=>(linkB nw i (nth code i)).map (fixMv (becL (linkB nw) code) code i))=(List.range k).flatMap fun i=>(linkR nw i (nth code i)).map (fixIns (becL (linkR nw) code) code i):=by
  intro k hk
  induction k with
  |zero=>rfl
  |succ k ih=>
   rw [List.range_succ,List.flatMap_append,List.flatMap_append,fixFrom_append,ih (by omega),hlen k (by omega),Nat.zero_add]
   congr 1
   simp only [List.flatMap_cons,List.flatMap_nil,List.append_nil]
   exact link_group nw code k
 unfold movedL linkL putL putUpto
 rw [key _ (Nat.le_refl _)]
 simp only [List.flatMap]
 congr 1
 apply List.map_congr_left
 intro i hi
 rw [becL_nth _ _ _ (by simpa using hi)]
theorem link_kl (code:Ls (Ls Ins))(words:Ls Int)(locks regs:Int)(W:World)(hcode:code.At W)(hwords:words.At W)(hok:OkPg (pgOf code words locks regs))(hr:regs≤6)(hs:(words.l.length:Int)+locks≤64):
    Rets Tryz.prog 16 [.agg #[code.v,words.v, .int .i64 locks, .int .i64 regs]] W (fun v w' =>((∀j,j<code.l.length→(linkL words.l.length (nth code.l j).l).length≤400)∧∃(c:Ls (Ls Ins)) (u:Ls Int),v= .tuple #[.agg #[c.v,u.v, .int .i64 0, .int .i64 8], .agg #[.int .i64 0, .int .i64 0, .int .i64 0]]∧c.l.map (·.l)=(code.l.map (·.l)).map (linkL words.l.length)∧u.l=words.l++List.replicate locks.toNat 0∧Sh0 W w' [.deep 33 c, .own 3 u])∨∃k:Nat,k<code.l.length∧400<(linkL words.l.length (nth code.l k).l).length∧(∀j,j<k→(linkL words.l.length (nth code.l j).l).length≤400)∧v= .tuple #[.agg #[.slice none 0 0, .slice none 0 0, .int .i64 0, .int .i64 0],(⟨1,k,0⟩:Flt).val]∧Sh0 W w' []):=by
 have hz:=checkG_ok hok
 obtain ⟨hl1,hl2,hl3,hl4',hl5,hl6,hl7⟩:=ok_len hok
 refine gen Tryz.func16 Tryz.ntmps16 (Sh0.ext2 hcode hwords:Sh (fun _=>False) W W [.at_ code, .at_ words]) rfl fun a10 h10=>gG h10<|sK fun _ k11=>gbx rfl rfl fun b12=>gal ti_25 rfl fun b13=>gal ti_28 rfl fun b14=>nK k11<|gK fun _ k15=>sK fun _ k16=>gRn (olw 2 ti_25 rfl rfl<|.nl)<|gC (fun _ _ h_=>xCl h_ bd_43 rfl (asmCheck_c (code:=code) (words:=words) (locks:=locks) (regs:=regs) (h_.sh.at 3 rfl) (h_.sh.at 4 rfl))) rfl<|?_;clear h10
 rintro _ _ w17 ⟨rfl,hs17⟩
 refine gWk hs17 rfl<|gU<|gal ti_28 rfl fun b18=>gsw 0 ti_28 rfl rfl rfl<|nK k16<|sG (ofB fl_28_0 rfl<|olB 0 ti_26 rfl rfl<|oneI _ _ rfl<|.nl)<|gcF rfl (by rw [hz];rfl)<|gS<|hK k15<|gK fun _ k21=>sG (ofB fl_25_3 rfl<|olB 3 ti_3 rfl rfl<|ogtI _ _ rfl<|.nl)<|gcF rfl (decide_eq_false (by omega))<|gS<|hK k21<|gK fun _ k23=>sK fun _ k24=>gNl (aA 5 rfl) fun hl25=>gRn (ofB fl_25_1 rfl<|olB 3 ti_23 rfl rfl<|oln sl_23 (aA 5 rfl) rfl<|ofB fl_25_2 rfl<|olB 3 ti_3 rfl rfl<|oadI _ _ om9 rfl<|ogtI _ _ rfl<|.nl)<|nK k24<|gcF rfl (decide_eq_false (by omega))<|gS<|hK k23<|gK fun _ k26=>gF [0,1,2,3,4,11,12,13,14,15,18,19,20,23,24,25,26,27,28,29] rfl<|fun a27 w27 h27=> ?_;clear hs17
 refine x_any ((fun Φ Ψ S a w=>(S 2=false∧S 5=false∧S 7=false∧S 8=false∧FrI 91 S Φ Ψ a∧Sh (fun _=>False) W w [.blk b18 28 [.int .i64 ((checkG (pgOf code words locks regs)).code), .int .i64 ((checkG (pgOf code words locks regs)).thread), .int .i64 ((checkG (pgOf code words locks regs)).at_)], .blk b14 28 [.int .i64 0, .int .i64 0, .int .i64 0], .blk b13 25 [(.slice none 0 0),(.slice none 0 0), .int .i64 0, .int .i64 0], .blk b12 25 [code.v,words.v, .int .i64 locks, .int .i64 regs], .at_ code, .at_ words])∨(S 2=true∧S 5=false∧S 7=false∧S 8=false∧∃(s7002:Ls Int),FrI 91 S Φ (Ψ++ [(2,34,s7002.v)]) a∧Sh (fun _=>False) W w [.own 3 (⟨s7002.v,words.l⟩:Ls Int), .blk b18 28 [.int .i64 ((checkG (pgOf code words locks regs)).code), .int .i64 ((checkG (pgOf code words locks regs)).thread), .int .i64 ((checkG (pgOf code words locks regs)).at_)], .blk b14 28 [.int .i64 0, .int .i64 0, .int .i64 0], .blk b13 25 [(.slice none 0 0),(.slice none 0 0), .int .i64 0, .int .i64 0], .blk b12 25 [code.v,words.v, .int .i64 locks, .int .i64 regs], .at_ code, .at_ words])∨(S 2=false∧S 5=false∧S 7=true∧S 8=false∧∃(b7007:Nat),FrI 91 S Φ (Ψ++ [(7,5, .pointer (some ⟨b7007,0,none⟩))]) a∧Sh (fun _=>False) W w [.blk b7007 25 [(.slice none 0 0),(.slice none 0 0), .int .i64 0, .int .i64 0], .blk b18 28 [.int .i64 ((checkG (pgOf code words locks regs)).code), .int .i64 ((checkG (pgOf code words locks regs)).thread), .int .i64 ((checkG (pgOf code words locks regs)).at_)], .blk b14 28 [.int .i64 0, .int .i64 0, .int .i64 0], .blk b13 25 [(.slice none 0 0),(.slice none 0 0), .int .i64 0, .int .i64 0], .blk b12 25 [code.v,words.v, .int .i64 locks, .int .i64 regs], .at_ code, .at_ words])∨(S 2=true∧S 5=true∧S 7=false∧S 8=false∧∃(s7002:Ls Int) (v7005:Value),FrI 91 S Φ (Ψ++ [(2,34,s7002.v),(5,37,v7005),(6,38, .agg #[(.slice none 0 0),v7005, .int .i64 0, .int .i64 8])]) a∧Sh (fun _=>False) W w [.own 3 (⟨v7005,words.l++List.replicate locks.toNat 0⟩:Ls Int), .blk b18 28 [.int .i64 ((checkG (pgOf code words locks regs)).code), .int .i64 ((checkG (pgOf code words locks regs)).thread), .int .i64 ((checkG (pgOf code words locks regs)).at_)], .blk b14 28 [.int .i64 0, .int .i64 0, .int .i64 0], .blk b13 25 [(.slice none 0 0),(.slice none 0 0), .int .i64 0, .int .i64 0], .blk b12 25 [code.v,words.v, .int .i64 locks, .int .i64 regs], .at_ code, .at_ words])∨(S 2=true∧S 5=false∧S 7=true∧S 8=false∧∃(s7002:Ls Int) (b7007:Nat),FrI 91 S Φ (Ψ++ [(2,34,s7002.v),(7,5, .pointer (some ⟨b7007,0,none⟩))]) a∧Sh (fun _=>False) W w [.blk b7007 25 [(.slice none 0 0),(.slice none 0 0), .int .i64 0, .int .i64 0], .own 3 (⟨s7002.v,words.l⟩:Ls Int), .blk b18 28 [.int .i64 ((checkG (pgOf code words locks regs)).code), .int .i64 ((checkG (pgOf code words locks regs)).thread), .int .i64 ((checkG (pgOf code words locks regs)).at_)], .blk b14 28 [.int .i64 0, .int .i64 0, .int .i64 0], .blk b13 25 [(.slice none 0 0),(.slice none 0 0), .int .i64 0, .int .i64 0], .blk b12 25 [code.v,words.v, .int .i64 locks, .int .i64 regs], .at_ code, .at_ words])∨(S 2=true∧S 5=true∧S 7=true∧S 8=false∧∃(s7002:Ls Int) (v7005:Value) (b7007:Nat),FrI 91 S Φ (Ψ++ [(2,34,s7002.v),(5,37,v7005),(6,38, .agg #[(.slice none 0 0),v7005, .int .i64 0, .int .i64 8]),(7,5, .pointer (some ⟨b7007,0,none⟩))]) a∧Sh (fun _=>False) W w [.blk b7007 25 [(.slice none 0 0),(.slice none 0 0), .int .i64 0, .int .i64 0], .own 3 (⟨v7005,words.l++List.replicate locks.toNat 0⟩:Ls Int), .blk b18 28 [.int .i64 ((checkG (pgOf code words locks regs)).code), .int .i64 ((checkG (pgOf code words locks regs)).thread), .int .i64 ((checkG (pgOf code words locks regs)).at_)], .blk b14 28 [.int .i64 0, .int .i64 0, .int .i64 0], .blk b13 25 [(.slice none 0 0),(.slice none 0 0), .int .i64 0, .int .i64 0], .blk b12 25 [code.v,words.v, .int .i64 locks, .int .i64 regs], .at_ code, .at_ words])∨(S 2=true∧S 5=true∧S 7=true∧S 8=true∧∃(s7002:Ls Int) (v7005:Value) (b7007:Nat),FrI 91 S Φ (Ψ++ [(2,34,s7002.v),(5,37,v7005),(6,38, .agg #[(.slice none 0 0),v7005, .int .i64 0, .int .i64 8]),(7,5, .pointer (some ⟨b7007,0,none⟩))]) a∧Sh (fun _=>False) W w [.blk b7007 25 [(.slice none 0 0),v7005, .int .i64 0, .int .i64 8], .own 3 (⟨v7005,words.l++List.replicate locks.toNat 0⟩:Ls Int), .blk b18 28 [.int .i64 ((checkG (pgOf code words locks regs)).code), .int .i64 ((checkG (pgOf code words locks regs)).thread), .int .i64 ((checkG (pgOf code words locks regs)).at_)], .blk b14 28 [.int .i64 0, .int .i64 0, .int .i64 0], .blk b13 25 [(.slice none 0 0),(.slice none 0 0), .int .i64 0, .int .i64 0], .blk b12 25 [code.v,words.v, .int .i64 locks, .int .i64 regs], .at_ code, .at_ words])) [(0, .agg #[code.v,words.v, .int .i64 locks, .int .i64 regs]),(1, .pointer (some ⟨b12,0,none⟩)),(2, .pointer (some ⟨b13,0,none⟩)),(3, .pointer (some ⟨b14,0,none⟩)),(4, .pointer (some ⟨b18,0,none⟩)),(11, .agg #[code.v,words.v, .int .i64 locks, .int .i64 regs]),(12, .agg #[.int .i64 ((checkG (pgOf code words locks regs)).code), .int .i64 ((checkG (pgOf code words locks regs)).thread), .int .i64 ((checkG (pgOf code words locks regs)).at_)]),(13, .pointer (some ⟨b18,0,none⟩)),(14, .int .i64 ((checkG (pgOf code words locks regs)).code)),(15, .bool (decide ((checkG (pgOf code words locks regs)).code≠0))),(18, .pointer (some ⟨b12,3,none⟩)),(19, .int .i64 regs),(20, .bool (decide (6<regs))),(23, .pointer (some ⟨b12,1,none⟩)),(24,words.v),(25, .int .i64 ((words.l.length:Nat):Int)),(26, .pointer (some ⟨b12,2,none⟩)),(27, .int .i64 locks),(28, .int .i64 (((words.l.length:Nat):Int)+locks)),(29, .bool (decide (64<((words.l.length:Nat):Int)+locks)))] [(0,32, .pointer (some ⟨b12,1,none⟩)),(1,33,words.v),(3,35, .pointer (some ⟨b12,2,none⟩)),(4,36, .int .i64 locks)]) (by kernel_rfl) (by kernel_rfl) (Or.inl (⟨rfl,rfl,rfl,rfl,FrI.start h27.fr,h27.sh.drew⟩)) ?_ ?_
 ·intro S i o ho hSi hcl hdep a w hI
  clear h27
  rcases i with _|_|_|_|_|_|_|_|_|i
  ·obtain rfl:_=o:=Option.some.inj ho
   rcases hI with ⟨ν2,ν5,ν7,ν8,φ,ς⟩|⟨ν2,_⟩|⟨ν2,ν5,ν7,ν8,b7007,φ,ς⟩|⟨ν2,_⟩|⟨ν2,_⟩|⟨ν2,_⟩|⟨ν2,_⟩
   ·exact sq φ φ.fr0 ς (r_fieldB (r:=1) fl_25_1 rfl rfl rfl) 0 rfl rfl rfl rfl rfl rfl fun a hg=>Or.inl (⟨un rfl ν2,un rfl ν5,un rfl ν7,un rfl ν8,hg,ς⟩)
   ·exact no_way (cA hcl 2 0 rfl ν2) hSi
   ·exact sq φ φ.fr0 ς (r_fieldB (r:=1) fl_25_1 rfl rfl rfl) 0 rfl rfl rfl rfl rfl rfl fun a hg=>Or.inr (Or.inr (Or.inl (⟨un rfl ν2,un rfl ν5,un rfl ν7,un rfl ν8,b7007,hg,ς⟩)))
   ·exact no_way (cA hcl 2 0 rfl ν2) hSi
   ·exact no_way (cA hcl 2 0 rfl ν2) hSi
   ·exact no_way (cA hcl 2 0 rfl ν2) hSi
   ·exact no_way (cA hcl 2 0 rfl ν2) hSi
  ·obtain rfl:_=o:=Option.some.inj ho
   have hd0:S 0=true:=depAt hdep 0 rfl rfl
   rcases hI with ⟨ν2,ν5,ν7,ν8,φ,ς⟩|⟨ν2,_⟩|⟨ν2,ν5,ν7,ν8,b7007,φ,ς⟩|⟨ν2,_⟩|⟨ν2,_⟩|⟨ν2,_⟩|⟨ν2,_⟩
   ·exact sq φ (Fr.cons φ.fr0 (φ.at_ 0 0 32 _ rfl hd0)) ς (r_ldb (i:=3) ti_23 rfl rfl rfl rfl) 1 rfl rfl rfl rfl rfl rfl fun a hg=>Or.inl (⟨un rfl ν2,un rfl ν5,un rfl ν7,un rfl ν8,hg,ς⟩)
   ·exact no_way (cA hcl 2 1 rfl ν2) hSi
   ·exact sq φ (Fr.cons φ.fr0 (φ.at_ 0 0 32 _ rfl hd0)) ς (r_ldb (i:=4) ti_23 rfl rfl rfl rfl) 1 rfl rfl rfl rfl rfl rfl fun a hg=>Or.inr (Or.inr (Or.inl (⟨un rfl ν2,un rfl ν5,un rfl ν7,un rfl ν8,b7007,hg,ς⟩)))
   ·exact no_way (cA hcl 2 1 rfl ν2) hSi
   ·exact no_way (cA hcl 2 1 rfl ν2) hSi
   ·exact no_way (cA hcl 2 1 rfl ν2) hSi
   ·exact no_way (cA hcl 2 1 rfl ν2) hSi
  ·obtain rfl:_=o:=Option.some.inj ho
   have hd1:S 1=true:=depAt hdep 0 rfl rfl
   rcases hI with ⟨ν2,ν5,ν7,ν8,φ,ς⟩|⟨ν2,_⟩|⟨ν2,ν5,ν7,ν8,b7007,φ,ς⟩|⟨ν2,_⟩|⟨ν2,_⟩|⟨ν2,_⟩|⟨ν2,_⟩
   ·have hs:=St.mk (Fr.cons φ.fr0 (φ.at_ 1 1 33 _ rfl hd1)) ς
    refine step_ex (x_call hs bd_44 rfl rfl rfl rfl rfl (cloneI_c words _ (hs.sh.at 5 rfl) (by first|omega|(simp only [lens9];omega)))) (wanted_none rfl _) ?_
    rintro a36 w36 ⟨_,⟨s36,rfl,hs36⟩,hf36⟩ ⟨v0,ht36⟩
    have h36:St _ (fun _=>False) W a36 w36 _ _:=⟨hf36,hs.sh.callI hs36⟩
    clear hf36 hs36
    exact Or.inr (Or.inl (⟨upd_self _ _,un rfl ν5,un rfl ν7,un rfl ν8,s36,φ.stepW hcl hSi [0,1,2,3] (by kernel_rfl) (by kernel_rfl) ht36 h36.fr.defers (h36.fr.at_ 34 _ rfl) 4 rfl rfl rfl rfl,(h36.sh.sel [0,1,2,3,4,5,6] rfl)⟩))
   ·exact no_way ν2 hSi
   ·have hs:=St.mk (Fr.cons φ.fr0 (φ.at_ 1 1 33 _ rfl hd1)) ς
    refine step_ex (x_call hs bd_44 rfl rfl rfl rfl rfl (cloneI_c words _ (hs.sh.at 6 rfl) (by first|omega|(simp only [lens9];omega)))) (wanted_none rfl _) ?_
    rintro a37 w37 ⟨_,⟨s37,rfl,hs37⟩,hf37⟩ ⟨v0,ht37⟩
    have h37:St _ (fun _=>False) W a37 w37 _ _:=⟨hf37,hs.sh.callI hs37⟩
    clear hf37 hs37
    exact Or.inr (Or.inr (Or.inr (Or.inr (Or.inl (⟨upd_self _ _,un rfl ν5,un rfl ν7,un rfl ν8,s37,b7007,φ.stepW hcl hSi [0,1,2,3,5] (by kernel_rfl) (by kernel_rfl) ht37 h37.fr.defers (h37.fr.at_ 34 _ rfl) 4 rfl rfl rfl rfl,(h37.sh.sel [1,0,2,3,4,5,6,7] rfl)⟩)))))
   ·exact no_way ν2 hSi
   ·exact no_way ν2 hSi
   ·exact no_way ν2 hSi
   ·exact no_way ν2 hSi
  ·obtain rfl:_=o:=Option.some.inj ho
   rcases hI with ⟨ν2,ν5,ν7,ν8,φ,ς⟩|⟨ν2,ν5,ν7,ν8,s7002,φ,ς⟩|⟨ν2,ν5,ν7,ν8,b7007,φ,ς⟩|⟨_,ν5,_⟩|⟨ν2,ν5,ν7,ν8,s7002,b7007,φ,ς⟩|⟨_,ν5,_⟩|⟨_,ν5,_⟩
   ·exact sq φ φ.fr0 ς (r_fieldB (r:=2) fl_25_2 rfl rfl rfl) 2 rfl rfl rfl rfl rfl rfl fun a hg=>Or.inl (⟨un rfl ν2,un rfl ν5,un rfl ν7,un rfl ν8,hg,ς⟩)
   ·exact sq φ φ.fr0 ς (r_fieldB (r:=2) fl_25_2 rfl rfl rfl) 2 rfl rfl rfl rfl rfl rfl fun a hg=>Or.inr (Or.inl (⟨un rfl ν2,un rfl ν5,un rfl ν7,un rfl ν8,s7002,hg,ς⟩))
   ·exact sq φ φ.fr0 ς (r_fieldB (r:=2) fl_25_2 rfl rfl rfl) 2 rfl rfl rfl rfl rfl rfl fun a hg=>Or.inr (Or.inr (Or.inl (⟨un rfl ν2,un rfl ν5,un rfl ν7,un rfl ν8,b7007,hg,ς⟩)))
   ·exact no_way (cA hcl 5 3 rfl ν5) hSi
   ·exact sq φ φ.fr0 ς (r_fieldB (r:=2) fl_25_2 rfl rfl rfl) 2 rfl rfl rfl rfl rfl rfl fun a hg=>Or.inr (Or.inr (Or.inr (Or.inr (Or.inl (⟨un rfl ν2,un rfl ν5,un rfl ν7,un rfl ν8,s7002,b7007,hg,ς⟩)))))
   ·exact no_way (cA hcl 5 3 rfl ν5) hSi
   ·exact no_way (cA hcl 5 3 rfl ν5) hSi
  ·obtain rfl:_=o:=Option.some.inj ho
   have hd3:S 3=true:=depAt hdep 0 rfl rfl
   rcases hI with ⟨ν2,ν5,ν7,ν8,φ,ς⟩|⟨ν2,ν5,ν7,ν8,s7002,φ,ς⟩|⟨ν2,ν5,ν7,ν8,b7007,φ,ς⟩|⟨_,ν5,_⟩|⟨ν2,ν5,ν7,ν8,s7002,b7007,φ,ς⟩|⟨_,ν5,_⟩|⟨_,ν5,_⟩
   ·exact sq φ (Fr.cons φ.fr0 (φ.at_ 2 3 35 _ rfl hd3)) ς (r_ldb (i:=3) ti_3 rfl rfl rfl rfl) 3 rfl rfl rfl rfl rfl rfl fun a hg=>Or.inl (⟨un rfl ν2,un rfl ν5,un rfl ν7,un rfl ν8,hg,ς⟩)
   ·exact sq φ (Fr.cons φ.fr0 (φ.at_ 2 3 35 _ rfl hd3)) ς (r_ldb (i:=4) ti_3 rfl rfl rfl rfl) 3 rfl rfl rfl rfl rfl rfl fun a hg=>Or.inr (Or.inl (⟨un rfl ν2,un rfl ν5,un rfl ν7,un rfl ν8,s7002,hg,ς⟩))
   ·exact sq φ (Fr.cons φ.fr0 (φ.at_ 2 3 35 _ rfl hd3)) ς (r_ldb (i:=4) ti_3 rfl rfl rfl rfl) 3 rfl rfl rfl rfl rfl rfl fun a hg=>Or.inr (Or.inr (Or.inl (⟨un rfl ν2,un rfl ν5,un rfl ν7,un rfl ν8,b7007,hg,ς⟩)))
   ·exact no_way (cA hcl 5 4 rfl ν5) hSi
   ·exact sq φ (Fr.cons φ.fr0 (φ.at_ 2 3 35 _ rfl hd3)) ς (r_ldb (i:=5) ti_3 rfl rfl rfl rfl) 3 rfl rfl rfl rfl rfl rfl fun a hg=>Or.inr (Or.inr (Or.inr (Or.inr (Or.inl (⟨un rfl ν2,un rfl ν5,un rfl ν7,un rfl ν8,s7002,b7007,hg,ς⟩)))))
   ·exact no_way (cA hcl 5 4 rfl ν5) hSi
   ·exact no_way (cA hcl 5 4 rfl ν5) hSi
  ·obtain rfl:_=o:=Option.some.inj ho
   have hd2:S 2=true:=depAt hdep 0 rfl rfl
   have hd4:S 4=true:=depAt hdep 1 rfl rfl
   rcases hI with ⟨ν2,_⟩|⟨ν2,ν5,ν7,ν8,s7002,φ,ς⟩|⟨ν2,_⟩|⟨_,ν5,_⟩|⟨ν2,ν5,ν7,ν8,s7002,b7007,φ,ς⟩|⟨_,ν5,_⟩|⟨_,ν5,_⟩
   ·exact no_way hd2 ν2
   ·have hs:=St.mk (Fr.cons (Fr.cons φ.fr0 (φ.at_ 4 2 34 _ rfl hd2)) (φ.at_ 3 4 36 _ rfl hd4)) ς
    refine step_ex (x_appZI (r:=0) (q:=locks) (s:=(⟨s7002.v,words.l⟩:Ls Int)) (0:Int) hs sl_23 ti_3 Tryz.underlying3 rfl rfl rfl (show 0≤locks from (by omega)) rfl rfl rfl rfl rfl inferInstance (show (words.l.length+locks.toNat)*8≤140737488355328∧words.l.length+locks.toNat≤140737488355328 from (by omega)) rfl rfl) (wanted_none rfl _) ?_
    rintro a46 w46 ⟨v46,h46⟩ ⟨v0,ht46⟩
    exact Or.inr (Or.inr (Or.inr (Or.inl (⟨un rfl ν2,upd_self _ _,un rfl ν7,un rfl ν8,s7002,v46,φ.stepW hcl hSi [0,1,2,3,4] (by kernel_rfl) (by kernel_rfl) ht46 h46.fr.defers (h46.fr.at_ 37 _ rfl) 5 rfl rfl rfl rfl,(h46.sh.sel [0,1,2,3,4,5,6] rfl)⟩))))
   ·exact no_way hd2 ν2
   ·exact no_way ν5 hSi
   ·have hs:=St.mk (Fr.cons (Fr.cons φ.fr0 (φ.at_ 4 2 34 _ rfl hd2)) (φ.at_ 3 4 36 _ rfl hd4)) ς
    refine step_ex (x_appZI (r:=1) (q:=locks) (s:=(⟨s7002.v,words.l⟩:Ls Int)) (0:Int) hs sl_23 ti_3 Tryz.underlying3 rfl rfl rfl (show 0≤locks from (by omega)) rfl rfl rfl rfl rfl inferInstance (show (words.l.length+locks.toNat)*8≤140737488355328∧words.l.length+locks.toNat≤140737488355328 from (by omega)) rfl rfl) (wanted_none rfl _) ?_
    rintro a47 w47 ⟨v47,h47⟩ ⟨v0,ht47⟩
    exact Or.inr (Or.inr (Or.inr (Or.inr (Or.inr (Or.inl (⟨un rfl ν2,upd_self _ _,un rfl ν7,un rfl ν8,s7002,v47,b7007,φ.stepW hcl hSi [0,1,2,3,4,7] (by kernel_rfl) (by kernel_rfl) ht47 h47.fr.defers (h47.fr.at_ 37 _ rfl) 5 rfl rfl rfl rfl,(h47.sh.sel [0,1,2,3,4,5,6,7] rfl)⟩))))))
   ·exact no_way ν5 hSi
   ·exact no_way ν5 hSi
  ·obtain rfl:_=o:=Option.some.inj ho
   have hd5:S 5=true:=depAt hdep 0 rfl rfl
   rcases hI with ⟨ν2,_⟩|⟨_,ν5,_⟩|⟨ν2,_⟩|⟨ν2,ν5,ν7,ν8,s7002,v7005,φ,ς⟩|⟨_,ν5,_⟩|⟨ν2,ν5,ν7,ν8,s7002,v7005,b7007,φ,ς⟩|⟨_,_,_,ν8,_⟩
   ·exact no_way (cA hcl 5 2 rfl hd5) ν2
   ·exact no_way hd5 ν5
   ·exact no_way (cA hcl 5 2 rfl hd5) ν2
   ·exact sq φ (Fr.cons φ.fr0 (φ.at_ 5 5 37 _ rfl hd5)) ς (r_buildS (cs:= [(.slice none 0 0),v7005, .int .i64 0, .int .i64 8]) rfl rfl (fun w h=>by obtain ⟨A48,n48,c48,(e48:v7005=_)⟩:=((h.own 0 rfl)).form;rw [e48];kernel_rfl)) 6 rfl rfl rfl rfl rfl rfl fun a hg=>Or.inr (Or.inr (Or.inr (Or.inl (⟨un rfl ν2,un rfl ν5,un rfl ν7,un rfl ν8,s7002,v7005,hg,ς⟩))))
   ·exact no_way hd5 ν5
   ·exact sq φ (Fr.cons φ.fr0 (φ.at_ 5 5 37 _ rfl hd5)) ς (r_buildS (cs:= [(.slice none 0 0),v7005, .int .i64 0, .int .i64 8]) rfl rfl (fun w h=>by obtain ⟨A50,n50,c50,(e50:v7005=_)⟩:=((h.own 1 rfl)).form;rw [e50];kernel_rfl)) 6 rfl rfl rfl rfl rfl rfl fun a hg=>Or.inr (Or.inr (Or.inr (Or.inr (Or.inr (Or.inl (⟨un rfl ν2,un rfl ν5,un rfl ν7,un rfl ν8,s7002,v7005,b7007,hg,ς⟩))))))
   ·exact no_way (cA hcl 8 6 rfl ν8) hSi
  ·obtain rfl:_=o:=Option.some.inj ho
   rcases hI with ⟨ν2,ν5,ν7,ν8,φ,ς⟩|⟨ν2,ν5,ν7,ν8,s7002,φ,ς⟩|⟨_,_,ν7,_⟩|⟨ν2,ν5,ν7,ν8,s7002,v7005,φ,ς⟩|⟨_,_,ν7,_⟩|⟨_,_,ν7,_⟩|⟨_,_,ν7,_⟩
   ·have hs:=St.mk φ.fr0 ς
    refine step_ex (x_alloc hs ti_25 rfl rfl rfl) (wanted_none rfl _) ?_
    rintro a52 w52 ⟨b52,h52⟩ ⟨v0,ht52⟩
    exact Or.inr (Or.inr (Or.inl (⟨un rfl ν2,un rfl ν5,upd_self _ _,un rfl ν8,b52,φ.stepW hcl hSi [0,1,2,3] (by kernel_rfl) (by kernel_rfl) ht52 h52.fr.defers (h52.fr.at_ 5 _ rfl) 4 rfl rfl rfl rfl,(h52.sh.sel [0,1,2,3,4,5,6] rfl)⟩)))
   ·have hs:=St.mk φ.fr0 ς
    refine step_ex (x_alloc hs ti_25 rfl rfl rfl) (wanted_none rfl _) ?_
    rintro a53 w53 ⟨b53,h53⟩ ⟨v0,ht53⟩
    exact Or.inr (Or.inr (Or.inr (Or.inr (Or.inl (⟨un rfl ν2,un rfl ν5,upd_self _ _,un rfl ν8,s7002,b53,φ.stepW hcl hSi [0,1,2,3,4] (by kernel_rfl) (by kernel_rfl) ht53 h53.fr.defers (h53.fr.at_ 5 _ rfl) 5 rfl rfl rfl rfl,(h53.sh.sel [0,1,2,3,4,5,6,7] rfl)⟩)))))
   ·exact no_way ν7 hSi
   ·have hs:=St.mk φ.fr0 ς
    refine step_ex (x_alloc hs ti_25 rfl rfl rfl) (wanted_none rfl _) ?_
    rintro a54 w54 ⟨b54,h54⟩ ⟨v0,ht54⟩
    exact Or.inr (Or.inr (Or.inr (Or.inr (Or.inr (Or.inl (⟨un rfl ν2,un rfl ν5,upd_self _ _,un rfl ν8,s7002,v7005,b54,φ.stepW hcl hSi [0,1,2,3,4,5,6] (by kernel_rfl) (by kernel_rfl) ht54 h54.fr.defers (h54.fr.at_ 5 _ rfl) 7 rfl rfl rfl rfl,(h54.sh.sel [0,1,2,3,4,5,6,7] rfl)⟩))))))
   ·exact no_way ν7 hSi
   ·exact no_way ν7 hSi
   ·exact no_way ν7 hSi
  ·obtain rfl:_=o:=Option.some.inj ho
   have hd7:S 7=true:=depAt hdep 0 rfl rfl
   have hd6:S 6=true:=depAt hdep 1 rfl rfl
   have hd5:S 5=true:=depAt hdep 2 rfl rfl
   have hd2:S 2=true:=depAt hdep 5 rfl rfl
   rcases hI with ⟨ν2,_⟩|⟨_,ν5,_⟩|⟨ν2,_⟩|⟨_,_,ν7,_⟩|⟨_,ν5,_⟩|⟨ν2,ν5,ν7,ν8,s7002,v7005,b7007,φ,ς⟩|⟨_,_,_,ν8,_⟩
   ·exact no_way hd2 ν2
   ·exact no_way hd5 ν5
   ·exact no_way hd2 ν2
   ·exact no_way hd7 ν7
   ·exact no_way hd5 ν5
   ·have hs:=St.mk (Fr.cons (Fr.cons φ.fr0 (φ.at_ 6 6 38 _ rfl hd6)) (φ.at_ 7 7 5 _ rfl hd7)) ς
    refine step_ex (x_stb (i:=0) (vs:= [(.slice none 0 0),v7005, .int .i64 0, .int .i64 8]) (cs' := [(.slice none 0 0),v7005, .int .i64 0, .int .i64 8]) hs ti_25 rfl rfl rfl rfl rfl rfl rfl (allOne_cons rfl (allOne_cons ((hs.sh.own 1 rfl)).one (allOne_cons rfl (allOne_cons rfl allOne_nil)))) (Nat.le_of_ble_eq_true rfl) rfl) (wanted_none rfl _) ?_
    rintro a55 w55 h55 ⟨v0,ht55⟩
    exact Or.inr (Or.inr (Or.inr (Or.inr (Or.inr (Or.inr (⟨un rfl ν2,un rfl ν5,un rfl ν7,upd_self _ _,s7002,v7005,b7007,φ.noneW hcl hSi [0,1,2,3,4,5,6,7] (by kernel_rfl) (by kernel_rfl) ht55 h55.fr.defers rfl,(h55.sh.sel [0,1,2,3,4,5,6,7] rfl)⟩))))))
   ·exact no_way ν8 hSi
  · simp at ho
 intro S hall a w hI
 clear h27
 rcases hI with ⟨ν2,ν5,ν7,ν8,φ,ς⟩|⟨ν2,ν5,ν7,ν8,s7002,φ,ς⟩|⟨ν2,ν5,ν7,ν8,b7007,φ,ς⟩|⟨ν2,ν5,ν7,ν8,s7002,v7005,φ,ς⟩|⟨ν2,ν5,ν7,ν8,s7002,b7007,φ,ς⟩|⟨ν2,ν5,ν7,ν8,s7002,v7005,b7007,φ,ς⟩|⟨ν2,ν5,ν7,ν8,s7002,v7005,b7007,φ,ς⟩
 · exact no_way (hall 2 (by decide)) ν2
 · exact no_way (hall 5 (by decide)) ν5
 · exact no_way (hall 2 (by decide)) ν2
 · exact no_way (hall 7 (by decide)) ν7
 · exact no_way (hall 5 (by decide)) ν5
 · exact no_way (hall 8 (by decide)) ν8
 have h56:St 91 (fun _=>False) W a w _ _:=⟨(Fr.cons φ.fr0 (φ.at_ 7 7 5 _ rfl (hall 7 (by decide)))),ς⟩
 clear hall φ ς ν2 ν5 ν7 ν8
 refine gG h56<|hK k26<|gK fun _ k57=>sK fun _ k58=>gNl (aA 6 rfl) fun hl59=>gRn (ofB fl_25_0 rfl<|olB 5 ti_22 rfl rfl<|oln sl_22 (aA 6 rfl) rfl<|oM 1 rfl<|.nl)<|nK k58<|gB<|fun a62 w62 h62=> ?_;clear h56
 have h61:=h62.nilDeep (α:=Ls Ins) 33
 clear h62
 refine x_loop (fun m a w=>∃(t:Nat) (qs:List (Ls Ins)) (vq:Value),(t≤code.l.length)∧(qs.map (·.l)=((code.l.take t).map (·.l)).map (linkL words.l.length))∧(qs.length=t)∧(∀j,j<t→(linkL words.l.length (nth code.l j).l).length≤400)∧St 91 (fun _=>False) W a w [(1, .pointer (some ⟨b12,0,none⟩)),(2, .pointer (some ⟨b13,0,none⟩)),(3, .pointer (some ⟨b14,0,none⟩)),(5, .pointer (some ⟨b7007,0,none⟩)),(40,code.v),(41, .int .i64 ((code.l.length:Nat):Int)),(42, .int .i64 ((t:Nat):Int))] [.blk b7007 25 [vq,v7005, .int .i64 0, .int .i64 8], .own 3 (⟨v7005,words.l++List.replicate locks.toNat 0⟩:Ls Int), .blk b18 28 [.int .i64 ((checkG (pgOf code words locks regs)).code), .int .i64 ((checkG (pgOf code words locks regs)).thread), .int .i64 ((checkG (pgOf code words locks regs)).at_)], .blk b14 28 [.int .i64 0, .int .i64 0, .int .i64 0], .blk b13 25 [(.slice none 0 0),(.slice none 0 0), .int .i64 0, .int .i64 0], .blk b12 25 [code.v,words.v, .int .i64 locks, .int .i64 regs], .at_ code, .at_ words, .deep 33 (⟨vq,qs⟩:Ls (Ls Ins))]∧m=code.l.length-t) ⟨_,0, [],(.slice none 0 0),(by omega),(rfl),(rfl),(fun j hj=>absurd hj (by omega)),h61.nrm ⟨rfl,rfl,rfl,rfl,rfl,rfl,rfl,trivial⟩ [1,2,3,4,5,6,7,8,0] rfl,rfl⟩ ?_
 clear h61
 rintro m60 a60 w60 ⟨t,qs,vq,ht,hqs,hql,hbf,h60,hm60⟩
 refine gG h60<|sG (oltN _ _ rfl<|.nl)<|gK fun _ k64=>gcd rfl (fun hb65 hp65=> ?_) fun hb65 hp65=> ?_;clear h60
 ·skip
  refine gS<|hK k64<|gK fun _ k66=>gB<|sG (oM 1 rfl<|oxN sl_22 ti_33 (aA 6 rfl) _ om9 rfl<|olE ((nth code.l t).v) ti_33 (aA 6 rfl) om9 rfl<|oM 2 rfl<|.nl)<|?_
  obtain ⟨hl4,hjt⟩:=ok_thread hok t (by omega)
  refine sK fun _ k68=>gRn (oM 1 rfl<|oV (r_makeFunc rfl rfl rfl) rfl<|.nl)<|gC (fun _ _ h_=>xCl h_ bd_45 rfl (moved_c (nth code.l t) 46 [] [.pointer (some ⟨b12,0,none⟩)] (linkB words.l.length) (Asn.ro [.blk b12 25 [code.v,words.v, .int .i64 locks, .int .i64 regs], .at_ words]) _ ((h_.sh.at 6 rfl).nth t (show t<code.l.length from (by omega))) (show ((nth code.l t).l).length≤5000 from (by omega)) bd_46 (fun _ h=>h) (by intro A hA;simp at hA;rcases hA with rfl|rfl;exact h_.sh.ok _ (List.mem_of_getElem? (i:=5) rfl);exact h_.sh.ok _ (List.mem_of_getElem? (i:=7) rfl)) (fun w i hE (hi:i<(nth code.l t).l.length)=>link1_c i _ b12 code words locks regs w (by omega) (hE (.blk b12 25 [code.v,words.v, .int .i64 locks, .int .i64 regs]) (by simp)) (hE (.at_ words) (by simp)) (ok_as hok t i (by omega) hi)) (fun i hi=>by have:=linkB_len words.l.length i (nth (nth code.l t).l i);exact Nat.le_trans this (by omega)) (linkB_ok _ _ hjt))) rfl<|?_
  rintro _ _ w69 ⟨s69,rfl,hl69,hs69⟩
  refine gWk hs69 rfl<|gU<|gRn (oM 1 rfl<|.nl)<|nK k68<|fun a70 w70 h70=> ?_;clear hs69
  have hlen8:s69.l.length≤140737488355328:=((h70.sh.own 0 rfl)).len
  refine gG h70<|gK fun _ k71=>sK fun _ k72=>gNl (aO 0 rfl) fun hl73=>gRn (oM 1 rfl<|oln sl_33 (aO 0 rfl) rfl<|oM 1 rfl<|.nl)<|nK k72<|gB<|fun a75 w75 h75=>x_loop (fun m a w=>∃(k3:Nat) (ou:List Ins),(k3≤s69.l.length)∧(ou.length=s69.l.length)∧(∀j,j<k3→nth ou j=fix1 j (nth s69.l j))∧(∀j,k3≤j→nth ou j=nth s69.l j)∧St 91 (fun _=>False) W a w [(1, .pointer (some ⟨b12,0,none⟩)),(2, .pointer (some ⟨b13,0,none⟩)),(3, .pointer (some ⟨b14,0,none⟩)),(5, .pointer (some ⟨b7007,0,none⟩)),(6, .int .i64 ((t:Nat):Int)),(8,s69.v),(40,code.v),(41, .int .i64 ((code.l.length:Nat):Int)),(42, .int .i64 ((t:Nat):Int)),(51, .int .i64 ((s69.l.length:Nat):Int)),(52, .int .i64 ((k3:Nat):Int))] [.own 32 (⟨s69.v,ou⟩:Ls Ins), .blk b7007 25 [vq,v7005, .int .i64 0, .int .i64 8], .own 3 (⟨v7005,words.l++List.replicate locks.toNat 0⟩:Ls Int), .blk b18 28 [.int .i64 ((checkG (pgOf code words locks regs)).code), .int .i64 ((checkG (pgOf code words locks regs)).thread), .int .i64 ((checkG (pgOf code words locks regs)).at_)], .blk b14 28 [.int .i64 0, .int .i64 0, .int .i64 0], .blk b13 25 [(.slice none 0 0),(.slice none 0 0), .int .i64 0, .int .i64 0], .blk b12 25 [code.v,words.v, .int .i64 locks, .int .i64 regs], .at_ code, .at_ words, .deep 33 (⟨vq,qs⟩:Ls (Ls Ins))]∧m=s69.l.length-k3) ⟨_,0,s69.l,(by omega),(rfl),(fun j hj=>absurd hj (by omega)),(fun j hj=>rfl),h75.nf ⟨rfl,rfl,rfl,rfl,rfl,rfl,rfl,rfl,rfl,rfl,rfl,trivial⟩,rfl⟩ ?_;clear h70
  clear h75
  rintro m74 a74 w74 ⟨k3,ou,hk3,hol,hdone,hrest,h74,hm74⟩
  refine gG h74<|sG (oltN _ _ rfl<|.nl)<|gK fun _ k77=>gcd rfl (fun hb78 hp78=> ?_) fun hb78 hp78=> ?_;clear h74
  ·skip
   refine gS<|hK k77<|gK fun _ k79=>gB<|sG (oM 2 rfl<|.nl)<|sK fun _ k81=>gNl (aO 0 rfl) fun (hl82:ou.length≤140737488355328)=>gRn (oM 2 rfl<|oxN sl_33 ti_32 (aO 0 rfl) _ om9 rfl<|oM 1 rfl<|.nl)<|nK k81<|sK fun _ k83=>gRn (oM 1 rfl<|onl rfl<|ofE fl_32_0 rfl<|olE (.int .i64 ((nth ou k3).op)) ti_3 (aO 0 rfl) om9 rfl<|oeqI _ _ rfl<|oM 1 rfl<|.nl)<|?_
   rcases dsp ((nth ou k3).op=15) with ⟨hb84,hp84⟩|⟨hb84,hp84⟩
   ·skip
    refine gRn (oG hb84 (r_move rfl rfl) rfl<|oG hb84 (r_nil rfl rfl) rfl<|oG hb84 (r_fieldE (r:=2) fl_32_2 rfl rfl rfl) rfl<|oG hb84 (r_lde (s:=(⟨s69.v,ou⟩:Ls Ins)) (i:=k3) (v:= .int .i64 ((nth ou k3).b)) ti_3 rfl rfl rfl (fun w h=>(h.own 0 rfl)) (show k3<ou.length from om9) (Nat.le_of_ble_eq_true rfl) rfl) rfl<|oG hb84 (r_eqlI (p:=(nth ou k3).b) (q:=(-1)) rfl rfl rfl) rfl<|opT hb84 rfl<|.nl)<|nK k83<|gcd rfl (fun hb85 hp85=> ?_) fun hb85 hp85=> ?_
    ·skip
     refine gL<|gRn (oM 2 rfl<|osbI _ _ om9 rfl<|onl rfl<|ofE fl_32_2 rfl<|.nl)<|gte 0 ({ nth ou k3 with b:=((k3:Nat):Int)-3 } :Ins) ti_3 om9 rfl rfl<|nK k79<|gF [1,2,3,5,6,8,40,41,42,51,52] rfl<|gL<|gRn (oadN _ 1 om9 rfl<|oM 1 rfl<|.nl)<|nN<|fun a87 w87 h87=>x_again ⟨_, ?_,k3+1,ou.set k3 ({ nth ou k3 with b:=((k3:Nat):Int)-3 }), ?_, ?_, ?_, ?_,h87.nf ⟨rfl,rfl,rfl,rfl,rfl,rfl,rfl,rfl,rfl,rfl,rfl,trivial⟩,rfl⟩
     · rw [hm74];first|omega|(simp only [lens9];omega)
     · omega
     · first|simpa using hol|exact hol
     · intro j hj;rcases Nat.lt_or_ge j k3 with h|h;(first|(rw [nth_set,if_neg (by omega)];exact hdone j h)|exact hdone j h);obtain rfl:j=k3:=(by omega);have hr:=hrest j (by omega);have hr1:=congrArg Ins.op hr;have hr2:=congrArg Ins.b hr;(try rw [nth_set,if_pos ⟨rfl,by omega⟩]);rw [hr];unfold fix1;(repeat' split)<;>first|(exfalso;omega)|rfl
     · intro j hj;first|(rw [nth_set,if_neg (by omega)];exact hrest j (by omega))|exact hrest j (by omega)
    refine gS<|hK k79<|gL<|gRn (oadN _ 1 om9 rfl<|oM 1 rfl<|.nl)<|nN<|fun a88 w88 h88=>x_again ⟨_, ?_,k3+1,ou, ?_, ?_, ?_, ?_,h88.nf ⟨rfl,rfl,rfl,rfl,rfl,rfl,rfl,rfl,rfl,rfl,rfl,trivial⟩,rfl⟩
    · rw [hm74];first|omega|(simp only [lens9];omega)
    · omega
    · first|simpa using hol|exact hol
    · intro j hj;rcases Nat.lt_or_ge j k3 with h|h;(first|(rw [nth_set,if_neg (by omega)];exact hdone j h)|exact hdone j h);obtain rfl:j=k3:=(by omega);have hr:=hrest j (by omega);have hr1:=congrArg Ins.op hr;have hr2:=congrArg Ins.b hr;(try rw [nth_set,if_pos ⟨rfl,by omega⟩]);rw [hr];unfold fix1;(repeat' split)<;>first|(exfalso;omega)|rfl
    · intro j hj;first|(rw [nth_set,if_neg (by omega)];exact hrest j (by omega))|exact hrest j (by omega)
   refine gRn (oKs 5 hb84 rfl rfl<|opF hb84 rfl<|.nl)<|nK k83<|gcF rfl rfl<|gS<|hK k79<|gL<|gRn (oadN _ 1 om9 rfl<|oM 1 rfl<|.nl)<|nN<|fun a89 w89 h89=>x_again ⟨_, ?_,k3+1,ou, ?_, ?_, ?_, ?_,h89.nf ⟨rfl,rfl,rfl,rfl,rfl,rfl,rfl,rfl,rfl,rfl,rfl,trivial⟩,rfl⟩
   · rw [hm74];first|omega|(simp only [lens9];omega)
   · omega
   · first|simpa using hol|exact hol
   · intro j hj;rcases Nat.lt_or_ge j k3 with h|h;(first|(rw [nth_set,if_neg (by omega)];exact hdone j h)|exact hdone j h);obtain rfl:j=k3:=(by omega);have hr:=hrest j (by omega);have hr1:=congrArg Ins.op hr;have hr2:=congrArg Ins.b hr;(try rw [nth_set,if_pos ⟨rfl,by omega⟩]);rw [hr];unfold fix1;(repeat' split)<;>first|(exfalso;omega)|rfl
   · intro j hj;first|(rw [nth_set,if_neg (by omega)];exact hrest j (by omega))|exact hrest j (by omega)
  refine gX<|hK k71<|?_
  have hq1:ou=linkL words.l.length (nth code.l t).l:=by rw [←linkB_eq,←hl69];exact eq_fix _ _ hol (fun j hj=>hdone j (by omega))
  refine gK fun _ k90=>sK fun _ k91=>gNl (aO 0 rfl) fun (hl92:ou.length≤140737488355328)=>gRn (oM 1 rfl<|oln (n:=ou.length) sl_33 (aO 0 rfl) rfl<|ogtN _ 400 rfl<|.nl)<|nK k91<|gcd rfl (fun hb93 hp93=> ?_) fun hb93 hp93=> ?_
  ·skip
   refine sK fun _ k94=>gRn (oV (r_build (cs:= [(.slice none 0 0),(.slice none 0 0), .int .i64 0, .int .i64 0]) rfl rfl (by kernel_rfl)) rfl<|oM 1 rfl<|oV (r_build (cs:= [.int .i64 1, .int .i64 ((t:Nat):Int), .int .i64 0]) rfl rfl (by kernel_rfl)) rfl<|.nl)<|gsw 5 ti_25 rfl rfl rfl<|gsw 4 ti_28 rfl rfl rfl<|nK k94<|gR<|uT<|uB<|uT<|uT<|uB<|uT<|fun a97 w97 h97=>x_ret2c (fn:=Tryz.f16) (t:=2) (t2:=3) (i:=5) (i2:=4) ti_25 ti_28 rfl h97 rfl rfl rfl rfl rfl rfl ?_
   exact .inr ⟨t,by omega,by rw [←hq1];omega,hbf,rfl,(h97.sh.sel [] rfl)⟩
  refine gS<|hK k90<|gL<|gRn (ofB fl_25_0 rfl<|olB 1 ti_22 rfl rfl<|oM 1 rfl<|.nl)<|gE1 (fun _ _ h_=>x_litD (E:=0) (x:=(⟨s69.v,ou⟩:Ls Ins)) h_ sl_22 ti_33 rfl rfl rfl ((h_.sh.own 0 rfl)) (fun b hb=>(own_on (h_.sh.ok _ (List.mem_of_getElem? (i:=0) rfl)) hb).elim (fun h=>h) (fun h=>Flat.noRd h)) (fun b hb=>Flat.noRd hb) rfl rfl) rfl fun v98=>gO [9,0,1,2,3,4,5,6,7,8] rfl<|gE1 (fun _ _ h_=>x_appD (s:=(⟨vq,qs⟩:Ls (Ls Ins))) (m:=(⟨v98, [(⟨s69.v,ou⟩:Ls Ins)]⟩:Ls (Ls Ins))) h_ sl_22 ti_33 rfl rfl rfl rfl rfl rfl rfl inferInstance (show (qs.length+([(⟨s69.v,ou⟩:Ls Ins)]).length)*24≤140737488355328∧qs.length+([(⟨s69.v,ou⟩:Ls Ins)]).length≤140737488355328 from om9) rfl rfl) rfl fun v100=>gRn (ofB fl_25_0 rfl<|.nl)<|gsr 1 ti_22 rfl (aD 0 rfl) rfl<|nK k66<|gL<|gRn (oadN _ 1 om9 rfl<|oM 1 rfl<|.nl)<|nN<|fun a102 w102 h102=>x_again ⟨_, ?_,t+1,qs++([(⟨s69.v,ou⟩:Ls Ins)]),v100, ?_, ?_, ?_, ?_,h102.nrm ⟨rfl,rfl,rfl,rfl,rfl,rfl,rfl,trivial⟩ [1,2,3,4,5,6,7,8,0] rfl,rfl⟩
  · rw [hm60];first|omega|(simp only [lens9];omega)
  · omega
  · rw [List.map_append,hqs,take_succ_nth _ _ (by omega)];simp [hq1]
  · simp [hql]
  · intro j hj;rcases Nat.lt_or_ge j t with h9|h9;exact hbf j h9;obtain rfl:j=t:=(by omega);rw [←hq1];omega
 refine gX<|hK k57<|sK fun _ k103=>gRn (olw 0 ti_25 rfl rfl<|oV (r_build (cs:= [.int .i64 0, .int .i64 0, .int .i64 0]) rfl rfl (by kernel_rfl)) rfl<|.nl)<|gE (fun _ _ h_=>x_stb (i:=4) (vs:= [vq,v7005, .int .i64 0, .int .i64 8]) (cs' := [vq,v7005, .int .i64 0, .int .i64 8]) h_ ti_25 rfl rfl rfl rfl rfl rfl rfl (allOne_cons ((h_.sh.deep 8 rfl)).one (allOne_cons ((h_.sh.own 1 rfl)).one (allOne_cons rfl (allOne_cons rfl allOne_nil)))) (Nat.le_of_ble_eq_true rfl) rfl) rfl<|gsw 3 ti_28 rfl rfl rfl<|nK k103<|gR<|fun a106 w106 h106=>x_ret2c (fn:=Tryz.f16) (t:=2) (t2:=3) (i:=4) (i2:=3) ti_25 ti_28 rfl h106 rfl rfl rfl rfl rfl rfl<| .inl ⟨fun j hj=>hbf j (by omega), ?_⟩
 refine ⟨⟨vq,qs⟩,⟨v7005,words.l++List.replicate locks.toNat 0⟩,rfl, ?_,rfl,(h106.sh.sel [8,1] rfl)⟩
 show qs.map (·.l)=_;rw [hqs,List.take_of_length_le (by omega)]
theorem link_r (code:Ls (Ls Ins))(words:Ls Int)(locks regs:Int)(W:World)(hcode:code.At W)(hwords:words.At W)(hok:OkPg (pgOf code words locks regs))(hr:6<regs):
    Rets Tryz.prog 16 [.agg #[code.v,words.v, .int .i64 locks, .int .i64 regs]] W (fun v w' =>v= .tuple #[.agg #[.slice none 0 0, .slice none 0 0, .int .i64 0, .int .i64 0],(⟨3,0,0⟩:Flt).val]∧Sh0 W w' []):=by
 have hz:=checkG_ok hok
 obtain ⟨hl1,hl2,hl3,hl4',hl5,hl6,hl7⟩:=ok_len hok
 refine gen Tryz.func16 Tryz.ntmps16 (Sh0.ext2 hcode hwords:Sh (fun _=>False) W W [.at_ code, .at_ words]) rfl fun a10 h10=>gG h10<|sK fun _ k11=>gbx rfl rfl fun b12=>gal ti_25 rfl fun b13=>gal ti_28 rfl fun b14=>nK k11<|gK fun _ k15=>sK fun _ k16=>gRn (olw 2 ti_25 rfl rfl<|.nl)<|gC (fun _ _ h_=>xCl h_ bd_43 rfl (asmCheck_c (code:=code) (words:=words) (locks:=locks) (regs:=regs) (h_.sh.at 3 rfl) (h_.sh.at 4 rfl))) rfl<|?_;clear h10
 rintro _ _ w17 ⟨rfl,hs17⟩
 refine gWk hs17 rfl<|gU<|gal ti_28 rfl fun b18=>gsw 0 ti_28 rfl rfl rfl<|nK k16<|sG (ofB fl_28_0 rfl<|olB 0 ti_26 rfl rfl<|oneI _ _ rfl<|.nl)<|gcF rfl (by rw [hz];rfl)<|gS<|hK k15<|gK fun _ k21=>sG (ofB fl_25_3 rfl<|olB 3 ti_3 rfl rfl<|ogtI _ _ rfl<|.nl)<|gcT rfl (decide_eq_true hr)<|sK fun _ k23=>gRn (oV (r_build (cs:= [(.slice none 0 0),(.slice none 0 0), .int .i64 0, .int .i64 0]) rfl rfl (by kernel_rfl)) rfl<|oV (r_build (cs:= [.int .i64 3, .int .i64 0, .int .i64 0]) rfl rfl (by kernel_rfl)) rfl<|.nl)<|gsw 2 ti_25 rfl rfl rfl<|gsw 1 ti_28 rfl rfl rfl<|nK k23<|gR<|uT<|fun a26 w26 h26=> ?_;clear hs17
 refine x_ret2c (fn:=Tryz.f16) (t:=2) (t2:=3) (i:=2) (i2:=1) ti_25 ti_28 rfl h26 rfl rfl rfl rfl rfl rfl ?_
 exact ⟨rfl,(h26.sh.sel [] rfl)⟩
theorem link_s (code:Ls (Ls Ins))(words:Ls Int)(locks regs:Int)(W:World)(hcode:code.At W)(hwords:words.At W)(hok:OkPg (pgOf code words locks regs))(hr:regs≤6)(hs:64<(words.l.length:Int)+locks):
    Rets Tryz.prog 16 [.agg #[code.v,words.v, .int .i64 locks, .int .i64 regs]] W (fun v w' =>v= .tuple #[.agg #[.slice none 0 0, .slice none 0 0, .int .i64 0, .int .i64 0],(⟨1,0,0⟩:Flt).val]∧Sh0 W w' []):=by
 have hz:=checkG_ok hok
 obtain ⟨hl1,hl2,hl3,hl4',hl5,hl6,hl7⟩:=ok_len hok
 refine gen Tryz.func16 Tryz.ntmps16 (Sh0.ext2 hcode hwords:Sh (fun _=>False) W W [.at_ code, .at_ words]) rfl fun a10 h10=>gG h10<|sK fun _ k11=>gbx rfl rfl fun b12=>gal ti_25 rfl fun b13=>gal ti_28 rfl fun b14=>nK k11<|gK fun _ k15=>sK fun _ k16=>gRn (olw 2 ti_25 rfl rfl<|.nl)<|gC (fun _ _ h_=>xCl h_ bd_43 rfl (asmCheck_c (code:=code) (words:=words) (locks:=locks) (regs:=regs) (h_.sh.at 3 rfl) (h_.sh.at 4 rfl))) rfl<|?_;clear h10
 rintro _ _ w17 ⟨rfl,hs17⟩
 refine gWk hs17 rfl<|gU<|gal ti_28 rfl fun b18=>gsw 0 ti_28 rfl rfl rfl<|nK k16<|sG (ofB fl_28_0 rfl<|olB 0 ti_26 rfl rfl<|oneI _ _ rfl<|.nl)<|gcF rfl (by rw [hz];rfl)<|gS<|hK k15<|gK fun _ k21=>sG (ofB fl_25_3 rfl<|olB 3 ti_3 rfl rfl<|ogtI _ _ rfl<|.nl)<|gcF rfl (decide_eq_false (by omega))<|gS<|hK k21<|gK fun _ k23=>sK fun _ k24=>gNl (aA 5 rfl) fun hl25=>gRn (ofB fl_25_1 rfl<|olB 3 ti_23 rfl rfl<|oln sl_23 (aA 5 rfl) rfl<|ofB fl_25_2 rfl<|olB 3 ti_3 rfl rfl<|oadI _ _ om9 rfl<|ogtI _ _ rfl<|.nl)<|nK k24<|gcT rfl (decide_eq_true (by omega))<|sK fun _ k26=>gRn (oV (r_build (cs:= [(.slice none 0 0),(.slice none 0 0), .int .i64 0, .int .i64 0]) rfl rfl (by kernel_rfl)) rfl<|oV (r_build (cs:= [.int .i64 1, .int .i64 0, .int .i64 0]) rfl rfl (by kernel_rfl)) rfl<|.nl)<|gsw 2 ti_25 rfl rfl rfl<|gsw 1 ti_28 rfl rfl rfl<|nK k26<|gR<|uT<|fun a29 w29 h29=> ?_;clear hs17
 refine x_ret2c (fn:=Tryz.f16) (t:=2) (t2:=3) (i:=2) (i2:=1) ti_25 ti_28 rfl h29 rfl rfl rfl rfl rfl rfl ?_
 exact ⟨rfl,(h29.sh.sel [] rfl)⟩
theorem link_b (code:Ls (Ls Ins))(words:Ls Int)(locks regs:Int)(W:World)(hcode:code.At W)(hwords:words.At W)(hz:(checkG (pgOf code words locks regs)).code≠0):
    Rets Tryz.prog 16 [.agg #[code.v,words.v, .int .i64 locks, .int .i64 regs]] W (fun v w' =>v= .tuple #[.agg #[.slice none 0 0, .slice none 0 0, .int .i64 0, .int .i64 0],(checkG (pgOf code words locks regs)).val]∧Sh0 W w' []):=by
 refine gen Tryz.func16 Tryz.ntmps16 (Sh0.ext2 hcode hwords:Sh (fun _=>False) W W [.at_ code, .at_ words]) rfl fun a10 h10=>gG h10<|sK fun _ k11=>gbx rfl rfl fun b12=>gal ti_25 rfl fun b13=>gal ti_28 rfl fun b14=>nK k11<|gK fun _ k15=>sK fun _ k16=>gRn (olw 2 ti_25 rfl rfl<|.nl)<|gC (fun _ _ h_=>xCl h_ bd_43 rfl (asmCheck_c (code:=code) (words:=words) (locks:=locks) (regs:=regs) (h_.sh.at 3 rfl) (h_.sh.at 4 rfl))) rfl<|?_;clear h10
 rintro _ _ w17 ⟨rfl,hs17⟩
 refine gWk hs17 rfl<|gU<|gal ti_28 rfl fun b18=>gsw 0 ti_28 rfl rfl rfl<|nK k16<|sG (ofB fl_28_0 rfl<|olB 0 ti_26 rfl rfl<|oneI _ _ rfl<|.nl)<|gcT rfl (decide_eq_true hz)<|gK fun _ k21=>rC [2,3] rfl<|pR [0,1] rfl (oV (r_build (cs:= [(.slice none 0 0),(.slice none 0 0), .int .i64 0, .int .i64 0]) rfl rfl (by kernel_rfl)) rfl<|olw 0 ti_28 rfl rfl<|.nl) rfl<|pS (fun _ _ h_=>x_stb (i:=2) (vs:= [(.slice none 0 0),(.slice none 0 0), .int .i64 0, .int .i64 0]) (cs' := [(.slice none 0 0),(.slice none 0 0), .int .i64 0, .int .i64 0]) h_ ti_25 rfl rfl rfl rfl rfl rfl rfl (allOne_cons rfl (allOne_cons rfl (allOne_cons rfl (allOne_cons rfl allOne_nil)))) (Nat.le_of_ble_eq_true rfl) rfl) rfl<|pR [1] rfl (olw 0 ti_28 rfl rfl<|.nl) rfl<|pS (fun _ _ h_=>x_stb (i:=1) (vs:= [.int .i64 ((checkG (pgOf code words locks regs)).code), .int .i64 ((checkG (pgOf code words locks regs)).thread), .int .i64 ((checkG (pgOf code words locks regs)).at_)]) (cs' := [.int .i64 ((checkG (pgOf code words locks regs)).code), .int .i64 ((checkG (pgOf code words locks regs)).thread), .int .i64 ((checkG (pgOf code words locks regs)).at_)]) h_ ti_28 rfl rfl rfl rfl rfl rfl rfl (allOne_cons rfl (allOne_cons rfl (allOne_cons rfl allOne_nil))) (Nat.le_of_ble_eq_true rfl) rfl) rfl<|pE [] rfl (.nl) rfl<|hK k21<|gR<|uT<|fun a24 w24 h24=> ?_;clear hs17
 refine x_ret2c (fn:=Tryz.f16) (t:=2) (t2:=3) (i:=2) (i2:=1) ti_25 ti_28 rfl h24 rfl rfl rfl rfl rfl rfl ?_
 exact ⟨rfl,(h24.sh.sel [] rfl)⟩
theorem link_k (code:Ls (Ls Ins))(words:Ls Int)(locks regs:Int)(W:World)(hcode:code.At W)(hwords:words.At W)(hok:OkPg (pgOf code words locks regs))(hr:regs≤6)(hs:(words.l.length:Int)+locks≤64)(hshort:∀j,j<code.l.length→(linkL words.l.length (nth code.l j).l).length≤400):
  Rets Tryz.prog 16 [.agg #[code.v,words.v, .int .i64 locks, .int .i64 regs]] W (fun v w' =>∃(c:Ls (Ls Ins)) (u:Ls Int),v= .tuple #[.agg #[c.v,u.v, .int .i64 0, .int .i64 8], .agg #[.int .i64 0, .int .i64 0, .int .i64 0]]∧c.l.map (·.l)=(code.l.map (·.l)).map (linkL words.l.length)∧u.l=words.l++List.replicate locks.toNat 0∧Sh0 W w' [.deep 33 c, .own 3 u]):=
 (link_kl code words locks regs W hcode hwords hok hr hs).mono fun v w' h=>h.elim (fun h=>h.2) fun ⟨k,hk,h4,_⟩=>absurd (hshort k hk) (by omega)
theorem link_l (code:Ls (Ls Ins))(words:Ls Int)(locks regs:Int)(k:Nat)(W:World)(hcode:code.At W)(hwords:words.At W)(hok:OkPg (pgOf code words locks regs))(hr:regs≤6)(hs:(words.l.length:Int)+locks≤64)(hk:k<code.l.length)(h400:400<(linkL words.l.length (nth code.l k).l).length)(hbef:∀j,j<k→(linkL words.l.length (nth code.l j).l).length≤400):
  Rets Tryz.prog 16 [.agg #[code.v,words.v, .int .i64 locks, .int .i64 regs]] W (fun v w' =>v= .tuple #[.agg #[.slice none 0 0, .slice none 0 0, .int .i64 0, .int .i64 0],(⟨1,k,0⟩:Flt).val]∧Sh0 W w' []):=
 (link_kl code words locks regs W hcode hwords hok hr hs).mono fun v w' h=>h.elim (fun h=>absurd (h.1 k hk) (by omega)) fun ⟨k',hk',h4,hb,h⟩=>by
  obtain rfl:k' =k:=by
   rcases Nat.lt_trichotomy k' k with hq|hq|hq
   ·have:=hbef k' hq;omega
   ·exact hq
   ·have:=hb k hq;omega
  exact h
theorem store_pc (m:Int)(x:TS)(w:Wt)(u:Int):TS.store m { x with pc:=u } w= { x.store m w with pc:=u } :=by unfold TS.store;split<;>rfl
theorem store_pc' (m:Int)(x:TS)(w:Wt):(x.store m w).pc=x.pc:=by unfold TS.store;split<;>rfl
theorem execT_pc (m:Int)(n:Nat)(i:Ins)(x:TS)(u:Int)(h14:i.op≠14)(h15:i.op≠15):execT m n i { x with pc:=u } = { execT m n i x with pc:=u }∧(execT m n i x).pc=x.pc:=by
 by_cases e1:i.op=1
 ·rw [execT_1 e1,execT_1 e1];exact ⟨rfl,rfl⟩
 by_cases e2:i.op=2
 ·rw [execT_2 e2,execT_2 e2];exact ⟨rfl,rfl⟩
 by_cases e3:i.op=3
 ·rw [execT_3 e3,execT_3 e3];exact ⟨rfl,rfl⟩
 by_cases e4:i.op=4
 ·rw [execT_4 e4,execT_4 e4];exact ⟨rfl,rfl⟩
 by_cases e5:i.op=5
 ·rw [execT_5 e5,execT_5 e5];exact ⟨rfl,rfl⟩
 by_cases e6:i.op=6
 ·rw [execT_6 e6,execT_6 e6];exact ⟨rfl,rfl⟩
 by_cases e7:i.op=7
 ·rw [execT_7 e7,execT_7 e7];exact ⟨rfl,rfl⟩
 by_cases e8:i.op=8
 ·rw [execT_8 e8,execT_8 e8];exact ⟨rfl,rfl⟩
 by_cases e9:i.op=9
 ·rw [execT_9 e9,execT_9 e9];exact ⟨store_pc _ _ _ _,store_pc' _ _ _⟩
 by_cases e10:i.op=10
 ·by_cases hw:0≤x.reg i.b∧x.reg i.b<(x.words.length:Int)
  ·rw [execT_10t e10 hw,execT_10t (x:= { x with pc:=u }) e10 hw];exact ⟨rfl,rfl⟩
  ·rw [execT_10f e10 hw,execT_10f (x:= { x with pc:=u }) e10 hw];exact ⟨rfl,rfl⟩
 by_cases e11:i.op=11
 ·by_cases hw:0≤x.reg i.a∧x.reg i.a<(x.words.length:Int)
  ·rw [execT_11t e11 hw,execT_11t (x:= { x with pc:=u }) e11 hw];exact ⟨store_pc _ _ _ _,store_pc' _ _ _⟩
  ·rw [execT_11f e11 hw,execT_11f (x:= { x with pc:=u }) e11 hw];exact ⟨rfl,rfl⟩
 by_cases e13:i.op=13
 ·by_cases hw:nth x.words i.a.toNat=x.reg i.b
  ·rw [execT_13t e13 hw,execT_13t (x:= { x with pc:=u }) e13 hw];exact ⟨rfl,rfl⟩
  ·rw [execT_13f e13 hw,execT_13f (x:= { x with pc:=u }) e13 hw];exact ⟨rfl,rfl⟩
 by_cases e16:i.op=16
 ·rw [execT_16 e16,execT_16 e16];exact ⟨rfl,rfl⟩
 by_cases e17:i.op=17
 ·rw [execT_17 e17,execT_17 e17];exact ⟨rfl,rfl⟩
 by_cases e18:i.op=18
 ·by_cases hw:nth x.owner i.a.toNat≠n
  ·rw [execT_18a e18 hw,execT_18a (x:= { x with pc:=u }) e18 hw];exact ⟨rfl,rfl⟩
  ·by_cases hh:∃j,j<x.wait.length∧(nth x.wait j).lock=true∧(nth x.wait j).wh=i.a
   ·obtain ⟨j,hj,h1,h2⟩:=hh
    rw [execT_18b e18 hw j hj h1 h2,execT_18b (x:= { x with pc:=u }) e18 hw j hj h1 h2];exact ⟨rfl,rfl⟩
   ·rw [execT_18c e18 hw (fun q hq hc=>hh ⟨q,hq,hc⟩),execT_18c (x:= { x with pc:=u }) e18 hw (fun q hq hc=>hh ⟨q,hq,hc⟩)];exact ⟨store_pc _ _ _ _,store_pc' _ _ _⟩
 rw [execT_no ⟨e1,e2,e3,e4,e5,e6,e7,e8,e9,e10,e11,e13,h14,h15,e16,e17,e18⟩,execT_no ⟨e1,e2,e3,e4,e5,e6,e7,e8,e9,e10,e11,e13,h14,h15,e16,e17,e18⟩]
 exact ⟨rfl,rfl⟩
section
variable {p q:Pg}{m m' :Int}
end
structure RelP (n:Nat)(R:Nat→Int→Int→Prop)(s s' :MSt):Prop where
 words:s'.words=s.words
 owner:s'.owner=s.owner
 prints:s'.prints=s.prints
 regs:∀t,t<n→(nth s'.ths t).regs=(nth s.ths t).regs
 wait:∀t,t<n→(nth s'.ths t).wait=(nth s.ths t).wait
 pc:∀t,t<n→R t (nth s.ths t).pc (nth s'.ths t).pc
theorem RelP.view {n:Nat}{R:Nat→Int→Int→Prop}{s s' :MSt}(h:RelP n R s s'){t:Nat}(ht:t<n):s'.view t= { s.view t with pc:=(nth s'.ths t).pc } :=by
 unfold MSt.view
 simp only [h.words,h.owner,h.prints,h.regs t ht,h.wait t ht]
theorem putT_th {s:MSt}{t u:Nat}{y:TS}(h:t<s.ths.length):nth (s.putT t y).ths u=if t=u then ⟨y.pc,y.regs,y.wait⟩ else nth s.ths u:=by
 unfold MSt.putT
 simp only [nth_set0]
 by_cases e:t=u<;>simp [e,h]
 intro h2;exact absurd h (by rw [e];omega)
theorem RelP.put {n:Nat}{R:Nat→Int→Int→Prop}{s s' :MSt}(h:RelP n R s s'){t:Nat}(hl:t<s.ths.length)(hl' :t<s'.ths.length){y:TS}{u:Int}(hR:t<n→R t y.pc u):RelP n R (s.putT t y) (s'.putT t { y with pc:=u }):=by
 refine ⟨rfl,rfl,rfl,fun v hv=> ?_,fun v hv=> ?_,fun v hv=> ?_⟩
 ·rw [putT_th hl,putT_th hl'];split
  ·rfl
  ·exact h.regs v hv
 ·rw [putT_th hl,putT_th hl'];split
  ·rfl
  ·exact h.wait v hv
 ·rw [putT_th hl,putT_th hl'];split
  ·rename_i e;subst e;exact hR hv
  ·exact h.pc v hv
theorem RelP.left {n:Nat}{R:Nat→Int→Int→Prop}{s s' :MSt}(h:RelP n R s s'){t:Nat}(hl:t<s.ths.length){u:Int}(hR:t<n→R t u (nth s'.ths t).pc):RelP n R (s.putT t { s.view t with pc:=u }) s' :=by
 refine ⟨h.words,h.owner,h.prints,fun v hv=> ?_,fun v hv=> ?_,fun v hv=> ?_⟩
 ·rw [putT_th hl];split
  ·rename_i e;subst e;exact h.regs _ hv
  ·exact h.regs v hv
 ·rw [putT_th hl];split
  ·rename_i e;subst e;exact h.wait _ hv
  ·exact h.wait v hv
 ·rw [putT_th hl];split
  ·rename_i e;subst e;exact hR hv
  ·exact h.pc v hv
theorem RelP.right {n:Nat}{R:Nat→Int→Int→Prop}{s s' :MSt}(h:RelP n R s s'){t:Nat}(hl:t<s'.ths.length){u:Int}(hR:t<n→R t (nth s.ths t).pc u):RelP n R s (s'.putT t { s'.view t with pc:=u }):=by
 refine ⟨h.words,h.owner,h.prints,fun v hv=> ?_,fun v hv=> ?_,fun v hv=> ?_⟩
 ·rw [putT_th hl];split
  ·rename_i e;subst e;exact h.regs _ hv
  ·exact h.regs v hv
 ·rw [putT_th hl];split
  ·rename_i e;subst e;exact h.wait _ hv
  ·exact h.wait v hv
 ·rw [putT_th hl];split
  ·rename_i e;subst e;exact hR hv
  ·exact h.pc v hv
theorem ended_iff {p:Pg}{s:MSt} :ended p s=true↔∀t,t<p.code.length→¬(nth s.ths t).pc<((nth p.code t).length:Int)∧(nth s.ths t).wait.length=0:=by
 unfold ended
 rw [List.all_eq_true]
 simp only [List.mem_range,Bool.and_eq_true,decide_eq_true_eq]
theorem mvOK_0 {m:Int}{c:List Ins}{x:TS}(h1:x.pc<c.length)(h2:ableL x.owner x.wait.length (nextIns c x.pc)=true):mvOK m c x 0=true:=by
 unfold mvOK ableV
 rw [if_pos rfl,decide_eq_true h1,h2];rfl
theorem Reach.len {p:Pg}{m:Int}(hok:OkPg p){s:MSt}(h:Reach p m s){t:Nat}(ht:t<p.code.length):t<s.ths.length:=by rw [(h.wf hok).ths];exact ht
theorem execT_jump {m:Int}{n:Nat}{i:Ins}{a:Int}{x:TS}(h:i.op=14):execT m n { i with a:=a } x= { x with pc:=a } :=execT_14 (i:= { i with a:=a }) h
theorem execT_zt {m:Int}{n:Nat}{i:Ins}{b:Int}{x:TS}(h:i.op=15)(hz:x.reg i.a=0):execT m n { i with b:=b } x= { x with pc:=b } :=execT_15t (i:= { i with b:=b }) h hz
theorem execT_zf {m:Int}{n:Nat}{i:Ins}{b:Int}{x:TS}(h:i.op=15)(hz:¬x.reg i.a=0):execT m n { i with b:=b } x=x:=execT_15f (i:= { i with b:=b }) h hz
theorem RelP.trans {n:Nat}{R R' R'' :Nat→Int→Int→Prop}{s s' s'' :MSt}(h:RelP n R s s')(h' :RelP n R' s' s'')(hc:∀t a b c,t<n→R t a b→R' t b c→R'' t a c):RelP n R'' s s'' :=
 ⟨h'.words.trans h.words,h'.owner.trans h.owner,h'.prints.trans h.prints,fun t ht=>(h'.regs t ht).trans (h.regs t ht),fun t ht=>(h'.wait t ht).trans (h.wait t ht),fun t ht=>hc t _ _ _ ht (h.pc t ht) (h'.pc t ht)⟩
theorem RelP.refl (n:Nat)(s:MSt):RelP n (fun _ a b=>b=a) s s:=⟨rfl,rfl,rfl,fun _ _=>rfl,fun _ _=>rfl,fun _ _=>rfl⟩
def At1 (t:Nat)(j:Int)(u:Nat)(a b:Int):Prop:=if u=t then b=j else b=a
theorem RelP.one {n:Nat}{s:MSt}{t:Nat}{u:Int}(hl:t<s.ths.length):RelP n (At1 t u) s (s.putT t { s.view t with pc:=u }):=by
 refine ⟨rfl,rfl,rfl,fun v hv=> ?_,fun v hv=> ?_,fun v hv=> ?_⟩
 ·rw [putT_th hl];split
  ·rename_i e;subst e;rfl
  ·rfl
 ·rw [putT_th hl];split
  ·rename_i e;subst e;rfl
  ·rfl
 ·rw [putT_th hl];unfold At1;split
  ·rename_i e;subst e;rw [if_pos rfl]
  ·rename_i e;rw [if_neg (fun h=>e h.symm)]
theorem At1.trans {t:Nat}{i j:Int}{u:Nat}{a b c:Int}(h:At1 t i u a b)(h' :At1 t j u b c):At1 t j u a c:=by
 unfold At1 at*
 split
 ·rename_i e;rw [if_pos e] at h';exact h'
 ·rename_i e;rw [if_neg e] at h h';rw [h',h]
theorem RelP.both {n:Nat}{R:Nat→Int→Int→Prop}{s s' s'' :MSt}(h:RelP n R s s'){t:Nat}(hl:t<s.ths.length){u j:Int}(h' :RelP n (At1 t j) s' s'')(hR:t<n→R t u j):RelP n R (s.putT t { s.view t with pc:=u }) s'' :=by
 refine ⟨h'.words.trans h.words,h'.owner.trans h.owner,h'.prints.trans h.prints,fun v hv=> ?_,fun v hv=> ?_,fun v hv=> ?_⟩
 ·rw [h'.regs v hv,h.regs v hv,putT_th hl];split
  ·rename_i e;subst e;rfl
  ·rfl
 ·rw [h'.wait v hv,h.wait v hv,putT_th hl];split
  ·rename_i e;subst e;rfl
  ·rfl
 ·rw [putT_th hl]
  have h1:=h'.pc v hv
  unfold At1 at h1
  by_cases e:t=v
  ·subst e
   rw [if_pos rfl] at h1
   rw [if_pos rfl,h1]
   exact hR hv
  ·rw [if_neg (fun h=>e h.symm)] at h1
   rw [if_neg e,h1]
   exact h.pc v hv
theorem stepT_e {p:Pg}{m:Int}{s:MSt}{t:Nat} :stepT p m s t 0=execT m t (nextIns (nth p.code t) (s.view t).pc) { s.view t with pc:=(s.view t).pc+1 } :=doT_0 rfl
theorem moved_upto (B:Nat→Ins→List Ins)(code:List Ins):∀n,n≤code.length→((List.range n).flatMap fun i=>(B i (nth code i)).map (fixMv (becL B code) code i)).length=placeL (becL B code) n∧
  ∀i k,i<n→k<(B i (nth code i)).length→nth ((List.range n).flatMap fun i=>(B i (nth code i)).map (fixMv (becL B code) code i)) (placeL (becL B code) i+k)=fixMv (becL B code) code i (nth (B i (nth code i)) k)∧placeL (becL B code) i+k<placeL (becL B code) n
 |0,_=>⟨by simp [placeL],fun i k hi=>absurd hi (by omega)⟩
 |n+1,h=>by
  obtain ⟨h1,h2⟩:=moved_upto B code n (by omega)
  have hp:placeL (becL B code) (n+1)=placeL (becL B code) n+(B n (nth code n)).length:=by
   rw [placeL_succ _ _ (by rw [becL_len];omega),becL_nth _ _ _ (by omega)]
  rw [List.range_succ,List.flatMap_append,List.flatMap_cons,List.flatMap_nil,List.append_nil]
  refine ⟨by rw [List.length_append,h1,hp,List.length_map],fun i k hi hk=> ?_⟩
  rcases Nat.lt_or_ge i n with hlt|hge
  ·obtain ⟨e1,e2⟩:=h2 i k hlt hk
   exact ⟨by rw [nth_app0,if_pos (by rw [h1];exact e2)];exact e1,by omega⟩
  ·obtain rfl:i=n:=by omega
   refine ⟨?_,by omega⟩
   rw [nth_app0,if_neg (by rw [h1];omega),h1,Nat.add_sub_cancel_left,nth_map' _ _ _ hk]
theorem moved_len (B:Nat→Ins→List Ins)(code:List Ins):(movedL B code).length=placeL (becL B code) code.length:=(moved_upto B code _ (Nat.le_refl _)).1
theorem moved_at (B:Nat→Ins→List Ins)(code:List Ins){i k:Nat}(hi:i<code.length)(hk:k<(B i (nth code i)).length):nth (movedL B code) (placeL (becL B code) i+k)=fixMv (becL B code) code i (nth (B i (nth code i)) k)∧placeL (becL B code) i+k<(movedL B code).length:=by
 rw [moved_len];exact (moved_upto B code _ (Nat.le_refl _)).2 i k hi hk
theorem place_succ (B:Nat→Ins→List Ins)(code:List Ins){i:Nat}(hi:i<code.length):placeL (becL B code) (i+1)=placeL (becL B code) i+(B i (nth code i)).length:=by
 rw [placeL_succ _ _ (by rw [becL_len];exact hi),becL_nth _ _ _ hi]
theorem place_mono (B:Nat→Ins→List Ins)(code:List Ins){i j:Nat}(hij:i≤j)(hj:j≤code.length):placeL (becL B code) i≤placeL (becL B code) j:=by
 induction j with
 |zero=>exact (show i=0 by omega)▸Nat.le_refl _
 |succ j ih=>
  rcases Nat.eq_or_lt_of_le hij with e|h
  ·rw [e];exact Nat.le_refl _
  ·have:=ih (by omega) (by omega)
   rw [place_succ B code (by omega)];omega
theorem kind_key {op:Int}(b:ByteArray)(e:kindsB op=b)(h:∀(k:Nat) (hk:k<b.size),((b[k]).toNat:Int)≠99)(k:Nat)(hk:k<(kindsB op).size):(((kindsB op)[k]).toNat:Int)≠99:=by
 subst e;exact h k hk
theorem kind_c {op:Int}(h14:op≠14)(h15:op≠15)(k:Nat)(hk:k<(kindsB op).size):(((kindsB op)[k]).toNat:Int)≠99:=by
 by_cases hop:1≤op∧op≤18
 ·rcases cases18 op hop with rfl|rfl|rfl|rfl|rfl|rfl|rfl|rfl|rfl|rfl|rfl|rfl|rfl|rfl|rfl|rfl|rfl|rfl
  ·refine kind_key ⟨#[114,110]⟩ (by unfold kindsB;simp) (fun k hk=> ?_) k hk
   rcases k with _|_|k
   ·show ((114:UInt8).toNat:Int)≠99;decide
   ·show ((110:UInt8).toNat:Int)≠99;decide
   ·exact absurd hk (by show¬(k+2<2);omega)
  ·refine kind_key ⟨#[114,114]⟩ (by unfold kindsB;simp) (fun k hk=> ?_) k hk
   rcases k with _|_|k
   ·show ((114:UInt8).toNat:Int)≠99;decide
   ·show ((114:UInt8).toNat:Int)≠99;decide
   ·exact absurd hk (by show¬(k+2<2);omega)
  ·refine kind_key ⟨#[114,114,114]⟩ (by unfold kindsB;simp) (fun k hk=> ?_) k hk
   rcases k with _|_|_|k
   ·show ((114:UInt8).toNat:Int)≠99;decide
   ·show ((114:UInt8).toNat:Int)≠99;decide
   ·show ((114:UInt8).toNat:Int)≠99;decide
   ·exact absurd hk (by show¬(k+3<3);omega)
  ·refine kind_key ⟨#[114,114,114]⟩ (by unfold kindsB;simp) (fun k hk=> ?_) k hk
   rcases k with _|_|_|k
   ·show ((114:UInt8).toNat:Int)≠99;decide
   ·show ((114:UInt8).toNat:Int)≠99;decide
   ·show ((114:UInt8).toNat:Int)≠99;decide
   ·exact absurd hk (by show¬(k+3<3);omega)
  ·refine kind_key ⟨#[114,114,114]⟩ (by unfold kindsB;simp) (fun k hk=> ?_) k hk
   rcases k with _|_|_|k
   ·show ((114:UInt8).toNat:Int)≠99;decide
   ·show ((114:UInt8).toNat:Int)≠99;decide
   ·show ((114:UInt8).toNat:Int)≠99;decide
   ·exact absurd hk (by show¬(k+3<3);omega)
  ·refine kind_key ⟨#[114,114,114]⟩ (by unfold kindsB;simp) (fun k hk=> ?_) k hk
   rcases k with _|_|_|k
   ·show ((114:UInt8).toNat:Int)≠99;decide
   ·show ((114:UInt8).toNat:Int)≠99;decide
   ·show ((114:UInt8).toNat:Int)≠99;decide
   ·exact absurd hk (by show¬(k+3<3);omega)
  ·refine kind_key ⟨#[114,114,114]⟩ (by unfold kindsB;simp) (fun k hk=> ?_) k hk
   rcases k with _|_|_|k
   ·show ((114:UInt8).toNat:Int)≠99;decide
   ·show ((114:UInt8).toNat:Int)≠99;decide
   ·show ((114:UInt8).toNat:Int)≠99;decide
   ·exact absurd hk (by show¬(k+3<3);omega)
  ·refine kind_key ⟨#[114,119]⟩ (by unfold kindsB;simp) (fun k hk=> ?_) k hk
   rcases k with _|_|k
   ·show ((114:UInt8).toNat:Int)≠99;decide
   ·show ((119:UInt8).toNat:Int)≠99;decide
   ·exact absurd hk (by show¬(k+2<2);omega)
  ·refine kind_key ⟨#[119,114]⟩ (by unfold kindsB;simp) (fun k hk=> ?_) k hk
   rcases k with _|_|k
   ·show ((119:UInt8).toNat:Int)≠99;decide
   ·show ((114:UInt8).toNat:Int)≠99;decide
   ·exact absurd hk (by show¬(k+2<2);omega)
  ·refine kind_key ⟨#[114,114]⟩ (by unfold kindsB;simp) (fun k hk=> ?_) k hk
   rcases k with _|_|k
   ·show ((114:UInt8).toNat:Int)≠99;decide
   ·show ((114:UInt8).toNat:Int)≠99;decide
   ·exact absurd hk (by show¬(k+2<2);omega)
  ·refine kind_key ⟨#[114,114]⟩ (by unfold kindsB;simp) (fun k hk=> ?_) k hk
   rcases k with _|_|k
   ·show ((114:UInt8).toNat:Int)≠99;decide
   ·show ((114:UInt8).toNat:Int)≠99;decide
   ·exact absurd hk (by show¬(k+2<2);omega)
  ·refine kind_key ⟨#[]⟩ (by unfold kindsB;simp) (fun k hk=> ?_) k hk
   ·exact absurd hk (by show¬(k<0);omega)
  ·refine kind_key ⟨#[119,114,114]⟩ (by unfold kindsB;simp) (fun k hk=> ?_) k hk
   rcases k with _|_|_|k
   ·show ((119:UInt8).toNat:Int)≠99;decide
   ·show ((114:UInt8).toNat:Int)≠99;decide
   ·show ((114:UInt8).toNat:Int)≠99;decide
   ·exact absurd hk (by show¬(k+3<3);omega)
  ·exact absurd rfl h14
  ·exact absurd rfl h15
  ·refine kind_key ⟨#[114]⟩ (by unfold kindsB;simp) (fun k hk=> ?_) k hk
   rcases k with _|k
   ·show ((114:UInt8).toNat:Int)≠99;decide
   ·exact absurd hk (by show¬(k+1<1);omega)
  ·refine kind_key ⟨#[108]⟩ (by unfold kindsB;simp) (fun k hk=> ?_) k hk
   rcases k with _|k
   ·show ((108:UInt8).toNat:Int)≠99;decide
   ·exact absurd hk (by show¬(k+1<1);omega)
  ·refine kind_key ⟨#[108]⟩ (by unfold kindsB;simp) (fun k hk=> ?_) k hk
   rcases k with _|k
   ·show ((108:UInt8).toNat:Int)≠99;decide
   ·exact absurd hk (by show¬(k+1<1);omega)
 ·refine kind_key ⟨#[]⟩ (kindsB_none op hop) (fun k hk=> ?_) k hk
  exact absurd hk (Nat.not_lt_zero _)
theorem fits_move {p p' :Pg}{size size' kind n:Int}(hr:p'.regs=p.regs)(hw:p'.words.length=p.words.length)(hl:p'.locks=p.locks)(hk:kind≠99):fitsG p' size' kind n=fitsG p size kind n:=by
 unfold fitsG
 rw [hr,hw,hl]
 simp only [hk,if_false]
theorem okNum_move {p p' :Pg}{size size' :Int}{x:Ins}{k:Nat}(hr:p'.regs=p.regs)(hw:p'.words.length=p.words.length)(hl:p'.locks=p.locks)(h14:x.op≠14)(h15:x.op≠15):okNumG p' size' x k=okNumG p size x k:=by
 unfold okNumG
 split
 ·rename_i h
  exact fits_move hr hw hl (kind_c h14 h15 k h)
 ·rfl
theorem OkIns.move {p p' :Pg}{size size' :Int}{x:Ins}(hr:p'.regs=p.regs)(hw:p'.words.length=p.words.length)(hl:p'.locks=p.locks)(h14:x.op≠14)(h15:x.op≠15)(h:OkIns p size x):OkIns p' size' x:=
 ⟨h.op,by rw [okNum_move hr hw hl h14 h15];exact h.n0,by rw [okNum_move hr hw hl h14 h15];exact h.n1,by rw [okNum_move hr hw hl h14 h15];exact h.n2⟩
theorem fit_c_mk {p:Pg}{size n:Int}(hs:0≤size∧size≤100000)(h:0≤n∧n≤size):fitsG p size 99 n=true:=by
 unfold fitsG
 simp only [Int.reduceEq,if_false,if_true,Bool.and_eq_true,decide_eq_true_eq]
 rw [IntWalk.wrap64_in _ ⟨by omega,by omega⟩]
 omega
theorem num0_iff {p:Pg}{size:Int}{x:Ins}{b:UInt8}{r:List UInt8}(hk:kindsB x.op=⟨(b::r).toArray⟩):okNumG p size x 0=fitsG p size (b.toNat:Int) x.a:=by
 unfold okNumG
 rw [hk,dif_pos (by simp [ByteArray.size])];rfl
theorem num1_iff {p:Pg}{size:Int}{x:Ins}{a b:UInt8}{r:List UInt8}(hk:kindsB x.op=⟨(a::b::r).toArray⟩):okNumG p size x 1=fitsG p size (b.toNat:Int) x.b:=by
 unfold okNumG
 rw [hk,dif_pos (by simp [ByteArray.size])];rfl
theorem num_no {p:Pg}{size:Int}{x:Ins}{k:Nat}(hk:(kindsB x.op).size≤k):okNumG p size x k=(x.num k==0):=by
 unfold okNumG
 rw [dif_neg (by omega)]
theorem OkIns.jump {p p' :Pg}{size size' :Int}{x:Ins}{a' :Int}(h14:x.op=14)(h:OkIns p size x)(hs:0≤size' ∧size' ≤100000)(ha:0≤a' ∧a' ≤size'):OkIns p' size' { x with a:=a' } :=by
 have k:kindsB x.op=⟨[99].toArray⟩:=by rw [h14];unfold kindsB;simp
 have k' :kindsB ({ x with a:=a' } :Ins).op=⟨[99].toArray⟩:=k
 have h1:=h.n1
 have h2:=h.n2
 rw [num_no (by rw [k];decide)] at h1 h2
 refine ⟨h.op, ?_, ?_, ?_⟩
 ·rw [num0_iff k'];exact fit_c_mk hs ha
 ·rw [num_no (by rw [k'];decide)];exact h1
 ·rw [num_no (by rw [k'];decide)];exact h2
theorem OkIns.zero {p p' :Pg}{size size' :Int}{x:Ins}{b' :Int}(hr:p'.regs=p.regs)(hw:p'.words.length=p.words.length)(hl:p'.locks=p.locks)(h15:x.op=15)(h:OkIns p size x)(hs:0≤size' ∧size' ≤100000)(hb:0≤b' ∧b' ≤size'):OkIns p' size' { x with b:=b' } :=by
 have k:kindsB x.op=⟨[114,99].toArray⟩:=by rw [h15];unfold kindsB;simp
 have k' :kindsB ({ x with b:=b' } :Ins).op=⟨[114,99].toArray⟩:=k
 have h0:=h.n0
 have h2:=h.n2
 rw [num0_iff k] at h0
 rw [num_no (by rw [k];decide)] at h2
 refine ⟨h.op, ?_, ?_, ?_⟩
 ·rw [num0_iff k',fits_move hr hw hl (by decide)];exact h0
 ·rw [num1_iff k'];exact fit_c_mk hs hb
 ·rw [num_no (by rw [k'];decide)];exact h2
theorem moved_from (B:Nat→Ins→List Ins)(code:List Ins):∀n,n≤code.length→∀j,j<placeL (becL B code) n→∃i k,i<n∧k<(B i (nth code i)).length∧j=placeL (becL B code) i+k
 |0,_,j,hj=>by simp [placeL] at hj
 |n+1,hn,j,hj=>by
  rw [place_succ B code (by omega)] at hj
  rcases Nat.lt_or_ge j (placeL (becL B code) n) with h|h
  ·obtain ⟨i,k,h1,h2,h3⟩:=moved_from B code n (by omega) j h
   exact ⟨i,k,by omega,h2,h3⟩
  ·exact ⟨n,j-placeL (becL B code) n,by omega,by omega,by omega⟩
def fenB (b:Bool)(x:Ins):List Ins:=if b=true then [x,⟨12,0,0,0⟩] else [x]
def fenW (w:Nat→Bool)(i:Nat)(x:Ins):List Ins:=fenB (w i) x
theorem fenB_mem {b:Bool}{x y:Ins}(h:y∈fenB b x):y=x∨y=⟨12,0,0,0⟩:=by
 unfold fenB at h
 split at h
 ·simpa using h
 ·exact .inl (by simpa using h)
def withL (w:Nat→Bool)(code:List Ins):List Ins:=putL (becL (fenW w) code) code
theorem fen_put (w:Nat→Bool)(code:List Ins):movedL (fenW w) code=withL w code:=by
 refine moved_put _ _ fun i hi x hx h15=> ?_
 rcases fenB_mem hx with rfl|rfl
 ·omega
 ·exact absurd h15 (by decide)
def isSt (op:Int):Prop:=op=9∨op=11∨op=18
theorem execT_keep {m m' :Int}{n:Nat}{i:Ins}{x:TS}(h:¬isSt i.op):execT m n i x=execT m' n i x∧(execT m n i x).wait=x.wait∧(i.op≠17→(execT m n i x).owner=x.owner)∧(i.op=17→(execT m n i x).owner=x.owner.set i.a.toNat n)∧(i.op=17→(execT m n i x).fell=x.fell):=by
 have h9:i.op≠9:=fun e=>h (.inl e)
 have h11:i.op≠11:=fun e=>h (.inr (.inl e))
 have h18:i.op≠18:=fun e=>h (.inr (.inr e))
 by_cases e1:i.op=1
 ·rw [execT_1 e1,execT_1 e1];exact ⟨rfl,rfl,fun _=>rfl,fun e=>absurd e (by omega),fun e=>absurd e (by omega)⟩
 by_cases e2:i.op=2
 ·rw [execT_2 e2,execT_2 e2];exact ⟨rfl,rfl,fun _=>rfl,fun e=>absurd e (by omega),fun e=>absurd e (by omega)⟩
 by_cases e3:i.op=3
 ·rw [execT_3 e3,execT_3 e3];exact ⟨rfl,rfl,fun _=>rfl,fun e=>absurd e (by omega),fun e=>absurd e (by omega)⟩
 by_cases e4:i.op=4
 ·rw [execT_4 e4,execT_4 e4];exact ⟨rfl,rfl,fun _=>rfl,fun e=>absurd e (by omega),fun e=>absurd e (by omega)⟩
 by_cases e5:i.op=5
 ·rw [execT_5 e5,execT_5 e5];exact ⟨rfl,rfl,fun _=>rfl,fun e=>absurd e (by omega),fun e=>absurd e (by omega)⟩
 by_cases e6:i.op=6
 ·rw [execT_6 e6,execT_6 e6];exact ⟨rfl,rfl,fun _=>rfl,fun e=>absurd e (by omega),fun e=>absurd e (by omega)⟩
 by_cases e7:i.op=7
 ·rw [execT_7 e7,execT_7 e7];exact ⟨rfl,rfl,fun _=>rfl,fun e=>absurd e (by omega),fun e=>absurd e (by omega)⟩
 by_cases e8:i.op=8
 ·rw [execT_8 e8,execT_8 e8];exact ⟨rfl,rfl,fun _=>rfl,fun e=>absurd e (by omega),fun e=>absurd e (by omega)⟩
 by_cases e10:i.op=10
 ·by_cases hw:0≤x.reg i.b∧x.reg i.b<(x.words.length:Int)
  ·rw [execT_10t e10 hw,execT_10t e10 hw];exact ⟨rfl,rfl,fun _=>rfl,fun e=>absurd e (by omega),fun e=>absurd e (by omega)⟩
  ·rw [execT_10f e10 hw,execT_10f e10 hw];exact ⟨rfl,rfl,fun _=>rfl,fun e=>absurd e (by omega),fun e=>absurd e (by omega)⟩
 by_cases e13:i.op=13
 ·by_cases hw:nth x.words i.a.toNat=x.reg i.b
  ·rw [execT_13t e13 hw,execT_13t e13 hw];exact ⟨rfl,rfl,fun _=>rfl,fun e=>absurd e (by omega),fun e=>absurd e (by omega)⟩
  ·rw [execT_13f e13 hw,execT_13f e13 hw];exact ⟨rfl,rfl,fun _=>rfl,fun e=>absurd e (by omega),fun e=>absurd e (by omega)⟩
 by_cases e14:i.op=14
 ·rw [execT_14 e14,execT_14 e14];exact ⟨rfl,rfl,fun _=>rfl,fun e=>absurd e (by omega),fun e=>absurd e (by omega)⟩
 by_cases e15:i.op=15
 ·by_cases hw:x.reg i.a=0
  ·rw [execT_15t e15 hw,execT_15t e15 hw];exact ⟨rfl,rfl,fun _=>rfl,fun e=>absurd e (by omega),fun e=>absurd e (by omega)⟩
  ·rw [execT_15f e15 hw,execT_15f e15 hw];exact ⟨rfl,rfl,fun _=>rfl,fun e=>absurd e (by omega),fun e=>absurd e (by omega)⟩
 by_cases e16:i.op=16
 ·rw [execT_16 e16,execT_16 e16];exact ⟨rfl,rfl,fun _=>rfl,fun e=>absurd e (by omega),fun e=>absurd e (by omega)⟩
 by_cases e17:i.op=17
 ·rw [execT_17 e17,execT_17 e17];exact ⟨rfl,rfl,fun e=>absurd e17 e,fun _=>rfl,fun _=>rfl⟩
 rw [execT_no ⟨e1,e2,e3,e4,e5,e6,e7,e8,h9,e10,h11,e13,e14,e15,e16,e17,h18⟩,execT_no ⟨e1,e2,e3,e4,e5,e6,e7,e8,h9,e10,h11,e13,e14,e15,e16,e17,h18⟩]
 exact ⟨rfl,rfl,fun _=>rfl,fun e=>absurd e e17,fun e=>absurd e e17⟩
theorem execT0_wait {n:Nat}{i:Ins}{x:TS} :(execT 0 n i x).wait=x.wait:=by
 have hs:∀(x:TS) w,(x.store 0 w).wait=x.wait:=fun x w=>by unfold TS.store;rw [if_neg (by decide)];rfl
 by_cases h:isSt i.op
 ·rcases h with h|h|h
  ·rw [execT_9 h,hs]
  ·by_cases hw:0≤x.reg i.a∧x.reg i.a<(x.words.length:Int)
   ·rw [execT_11t h hw,hs]
   ·rw [execT_11f h hw]
  ·by_cases hw:nth x.owner i.a.toNat≠n
   ·rw [execT_18a h hw]
   ·by_cases hh:∃j,j<x.wait.length∧(nth x.wait j).lock=true∧(nth x.wait j).wh=i.a
    ·obtain ⟨j,hj,h1,h2⟩:=hh
     rw [execT_18b h hw j hj h1 h2]
    ·rw [execT_18c h hw (fun q hq hc=>hh ⟨q,hq,hc⟩),hs]
 ·exact (execT_keep (m' :=0) h).2.1
theorem Reach.no_wait {p:Pg}{s:MSt}(hok:OkPg p)(h:Reach p 0 s):∀t,t<p.code.length→(nth s.ths t).wait= []:=by
 induction h with
 |start=>intro t ht;unfold begin_;rw [nth_map' _ _ _ ht]
 |step hr ht hk hf ih=>
  rename_i s t k
  intro u hu
  rw [putT_th (hr.len hok ht)]
  split
  ·rename_i e;subst e
   have h0:(s.view t).wait= []:=ih t ht
   rcases mvOK_k hk with ⟨rfl,_,_⟩|⟨h1,h2,_⟩
   ·show (stepT p 0 s t 0).wait= []
    rw [stepT_e,execT0_wait];exact h0
   ·rw [h0] at h2;simp at h2;omega
  ·exact ih u hu
section
variable (c:List Ins)
def wF (i:Nat):Bool:=waitsB (nth c i).op
def pF (i:Nat):Nat:=placeL (becL (fenW (wF c)) c) i
def fenL :List Ins:=withL (wF c) c
end
section
variable {c:List Ins}
theorem wF_t {i:Nat} :wF c i=true↔isSt (nth c i).op:=by unfold wF waitsB isSt;simp
theorem fenW_len {i:Nat} :(fenW (wF c) i (nth c i)).length=if wF c i=true then 2 else 1:=by unfold fenW fenB;split<;>rfl
theorem pF_succ {i:Nat}(h:i<c.length):pF c (i+1)=pF c i+if wF c i=true then 2 else 1:=by
 unfold pF
 rw [place_succ _ _ h,fenW_len]
theorem pF_at {i:Nat}(h:i<c.length):nth (fenL c) (pF c i)=fixMv (becL (fenW (wF c)) c) c i (nth c i)∧pF c i<(fenL c).length:=by
 have h1:=moved_at (fenW (wF c)) c (k:=0) h (by rw [fenW_len];split<;>omega)
 rw [fen_put] at h1
 have e:nth (fenW (wF c) i (nth c i)) 0=nth c i:=by unfold fenW fenB;split<;>rfl
 rw [e] at h1
 exact h1
theorem pF_fence {i:Nat}(h:i<c.length)(hw:wF c i=true):nth (fenL c) (pF c i+1)=⟨12,0,0,0⟩∧pF c i+1<(fenL c).length:=by
 have h1:=moved_at (fenW (wF c)) c (k:=1) h (by rw [fenW_len,if_pos hw];omega)
 rw [fen_put] at h1
 have e:nth (fenW (wF c) i (nth c i)) 1=⟨12,0,0,0⟩:=by unfold fenW fenB;rw [if_pos hw];rfl
 rw [e] at h1
 refine ⟨h1.1.trans ?_,h1.2⟩
 unfold fixMv
 rw [if_neg (fun h=>absurd h.1 (by decide)),if_neg (fun h=>absurd h.1 (by decide))]
theorem fen_other {i:Nat}(h:i<c.length)(h14:(nth c i).op≠14)(h15:(nth c i).op≠15):nth (fenL c) (pF c i)=nth c i:=by
 rw [(pF_at h).1]
 unfold fixMv
 rw [if_neg (fun hh=>h14 hh.1),if_neg (fun hh=>h15 hh.1)]
end
section
variable {p:Pg}
def fullPg (p:Pg):Pg:= { p with code:=p.code.map fenL }
theorem fullPg_len :(fullPg p).code.length=p.code.length:=by simp [fullPg]
theorem fullPg_code {t:Nat}(h:t<p.code.length):nth (fullPg p).code t=fenL (nth p.code t):=nth_map' _ _ _ h
theorem nextIns_nat {c:List Ins}{x:TS}{i:Nat}(h:x.pc=(i:Int))(hi:i<c.length):nextIns c x.pc=nth c i:=by rw [h,nextIns_t (by omega)];simp
def pend (i:Ins)(regs:List Int):Wt:=if i.op=18 then ⟨true,i.a,0⟩ else if i.op=9 then ⟨false,i.a,nth regs i.b.toNat⟩ else ⟨false,nth regs i.a.toNat,nth regs i.b.toNat⟩
def pendOK (t:Nat)(i:Ins)(regs:List Int)(W:Nat)(owner:List Int):Prop:=(i.op=18→nth owner i.a.toNat=t)∧(i.op=11→0≤nth regs i.a.toNat∧nth regs i.a.toNat<(W:Int))
theorem exec_st {m:Int}{t:Nat}{i:Ins}{x:TS}(hs:isSt i.op)(hw:x.wait= []):(pendOK t i x.regs x.words.length x.owner→execT m t i x=x.store m (pend i x.regs))∧(¬pendOK t i x.regs x.words.length x.owner→execT m t i x= { x with fell:=true }):=by
 unfold pendOK pend
 rcases hs with h|h|h
 ·refine ⟨fun _=> ?_,fun hn=>absurd ⟨fun e=>by omega,fun e=>by omega⟩ hn⟩
  rw [execT_9 h,if_neg (by omega),if_pos h];rfl
 ·refine ⟨fun hp=> ?_,fun hn=> ?_⟩
  ·rw [execT_11t h (hp.2 h),if_neg (by omega),if_neg (by omega)];rfl
  ·rw [execT_11f h fun hh=>hn ⟨fun e=>by omega,fun _=>hh⟩]
 ·refine ⟨fun hp=> ?_,fun hn=> ?_⟩
  ·rw [execT_18c h (fun hh=>hh (hp.1 h)) (fun q hq=>by rw [hw] at hq;simp at hq),if_pos h]
  ·rw [execT_18a h fun hh=>hn ⟨fun _=>hh,fun e=>by omega⟩]
theorem putT_putT {s:MSt}{t:Nat}{x y:TS} :(s.putT t x).putT t y=s.putT t y:=by
 unfold MSt.putT
 simp only [List.set_set]
theorem isSt_no {i:Ins}(h:isSt i.op):i.op≠14∧i.op≠15:=by unfold isSt at h;omega
theorem able_st {i:Ins}{owner:List Int}(h:isSt i.op):ableL owner 0 i=true:=by
 unfold ableL
 unfold isSt at h
 rw [if_pos h];rfl
theorem three (hq:OkPg (fullPg p)){s' :MSt}{t i:Nat}(hr' :Reach (fullPg p) 1 s')(ht:t<p.code.length)(hi:i<(nth p.code t).length)(hs:isSt (nth (nth p.code t) i).op)(hb:(nth s'.ths t).pc=(pF (nth p.code t) i:Int))(hw:(nth s'.ths t).wait= [])
  (hp:pendOK t (nth (nth p.code t) i) (nth s'.ths t).regs s'.words.length s'.owner):Reach (fullPg p) 1 (s'.putT t { (s'.view t).done (pend (nth (nth p.code t) i) (nth s'.ths t).regs) with pc:=(pF (nth p.code t) (i+1):Int),wait:= [] }):=by
 have hcode:=fullPg_code ht
 have htq:t<(fullPg p).code.length:=by rw [fullPg_len];exact ht
 have hl' :=hr'.len hq htq
 obtain ⟨n14,n15⟩:=isSt_no hs
 have hwF:wF (nth p.code t) i=true:=wF_t.2 hs
 have hins:=fen_other hi n14 n15
 obtain ⟨hf1,hf2⟩:=pF_fence hi hwF
 have hsuc:=pF_succ hi
 rw [if_pos hwF] at hsuc
 have hv:(s'.view t).pc=(pF (nth p.code t) i:Int):=hb
 have hn:nextIns (nth (fullPg p).code t) (s'.view t).pc=nth (nth p.code t) i:=by rw [hcode,nextIns_nat hv (by omega),hins]
 have e1:stepT (fullPg p) 1 s' t 0= { s'.view t with pc:=(pF (nth p.code t) i:Int)+1,wait:= [pend (nth (nth p.code t) i) (nth s'.ths t).regs] } :=by
  rw [stepT_e,hn,hv]
  rw [(exec_st (m:=1) (t:=t) (x:= { s'.view t with pc:=(pF (nth p.code t) i:Int)+1 }) hs hw).1 hp]
  unfold TS.store
  rw [if_pos (by decide)]
  show ({ s'.view t with pc:=_,wait:=(nth s'.ths t).wait++ [_] } :TS)=_
  rw [hw];rfl
 have hr1:=Reach.step hr' htq (mvOK_0 (by rw [hcode,hv];omega) (by rw [hn];show ableL _ (nth s'.ths t).wait.length _=true;rw [hw];exact able_st hs)) (by rw [e1];rfl)
 rw [e1] at hr1
 have hv1:=putT_view (s:=s') (t:=t) (y:= { s'.view t with pc:=(pF (nth p.code t) i:Int)+1,wait:= [pend (nth (nth p.code t) i) (nth s'.ths t).regs] }) hl'
 have e2:stepT (fullPg p) 1 (s'.putT t { s'.view t with pc:=(pF (nth p.code t) i:Int)+1,wait:= [pend (nth (nth p.code t) i) (nth s'.ths t).regs] }) t 1= { (s'.view t).done (pend (nth (nth p.code t) i) (nth s'.ths t).regs) with pc:=(pF (nth p.code t) i:Int)+1,wait:= [] } :=by
  unfold stepT;rw [hv1];rfl
 have hr2:=Reach.step hr1 htq (k:=1) (by rw [hv1];rfl) (by rw [e2];rfl)
 rw [e2,putT_putT] at hr2
 have hv2:=putT_view (s:=s') (t:=t) (y:= { (s'.view t).done (pend (nth (nth p.code t) i) (nth s'.ths t).regs) with pc:=(pF (nth p.code t) i:Int)+1,wait:= [] }) hl'
 have hpc2:((s'.putT t { (s'.view t).done (pend (nth (nth p.code t) i) (nth s'.ths t).regs) with pc:=(pF (nth p.code t) i:Int)+1,wait:= [] }).view t).pc=((pF (nth p.code t) i+1:Nat):Int):=by rw [hv2];simp
 have hn2:nextIns (nth (fullPg p).code t) ((s'.putT t { (s'.view t).done (pend (nth (nth p.code t) i) (nth s'.ths t).regs) with pc:=(pF (nth p.code t) i:Int)+1,wait:= [] }).view t).pc=⟨12,0,0,0⟩:=by rw [hcode,nextIns_nat hpc2 hf2,hf1]
 have e3:stepT (fullPg p) 1 (s'.putT t { (s'.view t).done (pend (nth (nth p.code t) i) (nth s'.ths t).regs) with pc:=(pF (nth p.code t) i:Int)+1,wait:= [] }) t 0= { (s'.view t).done (pend (nth (nth p.code t) i) (nth s'.ths t).regs) with pc:=(pF (nth p.code t) (i+1):Int),wait:= [] } :=by
  rw [stepT_e,hn2,hpc2,hv2,execT_no (by decide),hsuc]
  simp
  exact ⟨by omega,rfl⟩
 have hr3:=Reach.step hr2 htq (mvOK_0 (by rw [hcode,hpc2];omega) (by rw [hn2,hv2];rfl)) (by rw [e3];rfl)
 rw [e3,putT_putT] at hr3
 exact hr3
end
theorem put_upto (B:List (List Ins))(code:List Ins):∀n,n≤B.length→(putUpto B code n).length=placeL B n∧∀i k,i<n→k<(nth B i).length→nth (putUpto B code n) (placeL B i+k)=fixIns B code i (nth (nth B i) k)∧placeL B i+k<placeL B n
 |0,_=>⟨by simp [putUpto,placeL],fun i k hi=>absurd hi (by omega)⟩
 |n+1,h=>by
  obtain ⟨h1,h2⟩:=put_upto B code n (by omega)
  have hp:=placeL_succ B n (by omega)
  rw [putUpto_succ]
  refine ⟨by rw [List.length_append,h1,hp,List.length_map],fun i k hi hk=> ?_⟩
  rcases Nat.lt_or_ge i n with hlt|hge
  ·obtain ⟨e1,e2⟩:=h2 i k hlt hk
   exact ⟨by rw [nth_app0,if_pos (by rw [h1];exact e2)];exact e1,by omega⟩
  ·obtain rfl:i=n:=by omega
   refine ⟨?_,by omega⟩
   rw [nth_app0,if_neg (by rw [h1];omega),h1,Nat.add_sub_cancel_left,nth_map' _ _ _ hk]
section
variable (nw:Nat)(c:List Ins)
def pK (i:Nat):Nat:=placeL (becL (linkR nw) c) i
end
section
variable {nw:Nat}{c:List Ins}
theorem pK_len :(linkL nw c).length=pK nw c c.length:=(put_upto _ c _ (by rw [becL_len];exact Nat.le_refl _)).1
theorem pK_succ {i:Nat}(hi:i<c.length):pK nw c (i+1)=pK nw c i+(linkR nw i (nth c i)).length:=place_succ _ _ hi
theorem link_at {i k:Nat}(hi:i<c.length)(hk:k<(linkR nw i (nth c i)).length):nth (linkL nw c) (pK nw c i+k)=fixIns (becL (linkR nw) c) c i (nth (linkR nw i (nth c i)) k)∧pK nw c i+k<(linkL nw c).length:=by
 rw [pK_len]
 have h:=(put_upto (becL (linkR nw) c) c c.length (by rw [becL_len];exact Nat.le_refl _)).2 i k hi (by rw [becL_nth _ _ _ hi];exact hk)
 rw [becL_nth _ _ _ hi] at h
 exact h
theorem pK_le {i:Nat}(h:i≤c.length):pK nw c i≤(linkL nw c).length:=by rw [pK_len];exact place_mono _ _ h (Nat.le_refl _)
theorem fix_no {B:List (List Ins)}{c:List Ins}{i:Nat}{x:Ins}(h:x.op≠14)(h' :x.op≠15):fixIns B c i x=x:=by
 unfold fixIns;rw [if_neg (fun e=>h e.1),if_neg (fun e=>h' e.1),if_neg (fun e=>h' e.1)]
theorem linkR_17 {i:Nat}{x:Ins}(h:x.op=17):linkR nw i x= [⟨1,6,0,0⟩,⟨1,7,1,0⟩,⟨13,nw+x.a,6,7⟩,⟨15,6,0,0⟩]:=by unfold linkR;rw [if_pos h]
theorem linkR_18 {i:Nat}{x:Ins}(h:x.op=18):linkR nw i x= [⟨1,6,0,0⟩,⟨9,nw+x.a,6,0⟩]:=by unfold linkR;rw [if_neg (by omega),if_pos h]
theorem linkR_o {i:Nat}{x:Ins}(h:x.op≠17)(h' :x.op≠18):linkR nw i x= [x]:=by unfold linkR;rw [if_neg h,if_neg h']
theorem linkR_pos {i:Nat}{x:Ins} :0<(linkR nw i x).length:=by unfold linkR;split;simp;split<;>simp
theorem pK_lt {i:Nat}(h:i<c.length):pK nw c i<(linkL nw c).length:=by
 have:=(link_at (nw:=nw) h linkR_pos).2;omega
theorem link_17 {i:Nat}(h:i<c.length)(e:(nth c i).op=17):nth (linkL nw c) (pK nw c i)=⟨1,6,0,0⟩∧nth (linkL nw c) (pK nw c i+1)=⟨1,7,1,0⟩∧nth (linkL nw c) (pK nw c i+2)=⟨13,nw+(nth c i).a,6,7⟩∧nth (linkL nw c) (pK nw c i+3)=⟨15,6,pK nw c i,0⟩∧pK nw c (i+1)=pK nw c i+4∧pK nw c i+3<(linkL nw c).length:=by
 have hl:(linkR nw i (nth c i)).length=4:=by rw [linkR_17 e];rfl
 have h0:=(link_at (nw:=nw) (k:=0) h (by omega)).1
 have h1:=(link_at (nw:=nw) (k:=1) h (by omega)).1
 have h2:=(link_at (nw:=nw) (k:=2) h (by omega)).1
 have h3:=link_at (nw:=nw) (k:=3) h (by omega)
 rw [linkR_17 e] at h0 h1 h2 h3
 refine ⟨h0.trans (fix_no (x:=⟨1,6,0,0⟩) (by decide) (by decide)),h1.trans (fix_no (x:=⟨1,7,1,0⟩) (by decide) (by decide)),h2.trans (fix_no (x:=⟨13,nw+(nth c i).a,6,7⟩) (show (13:Int)≠14 by decide) (show (13:Int)≠15 by decide)),h3.1.trans ?_,by rw [pK_succ h,hl],h3.2⟩
 show fixIns (becL (linkR nw) c) c i ⟨15,6,0,0⟩=_
 unfold fixIns
 rw [if_neg (fun h=>absurd h.1 (by decide)),if_neg (fun h=>by have:=h.2;omega),if_pos ⟨rfl,e⟩]
 rfl
theorem link_18 {i:Nat}(h:i<c.length)(e:(nth c i).op=18):nth (linkL nw c) (pK nw c i)=⟨1,6,0,0⟩∧nth (linkL nw c) (pK nw c i+1)=⟨9,nw+(nth c i).a,6,0⟩∧pK nw c (i+1)=pK nw c i+2∧pK nw c i+1<(linkL nw c).length:=by
 have hl:(linkR nw i (nth c i)).length=2:=by rw [linkR_18 e];rfl
 have h0:=(link_at (nw:=nw) (k:=0) h (by omega)).1
 have h1:=link_at (nw:=nw) (k:=1) h (by omega)
 rw [linkR_18 e] at h0 h1
 exact ⟨h0.trans (fix_no (x:=⟨1,6,0,0⟩) (by decide) (by decide)),h1.1.trans (fix_no (x:=⟨9,nw+(nth c i).a,6,0⟩) (show (9:Int)≠14 by decide) (show (9:Int)≠15 by decide)),by rw [pK_succ h,hl],h1.2⟩
theorem link_o {i:Nat}(h:i<c.length)(h7:(nth c i).op≠17)(h8:(nth c i).op≠18):nth (linkL nw c) (pK nw c i)=fixIns (becL (linkR nw) c) c i (nth c i)∧pK nw c (i+1)=pK nw c i+1:=by
 have h0:=(link_at (nw:=nw) (k:=0) h linkR_pos).1
 rw [linkR_o h7 h8] at h0
 exact ⟨h0,by rw [pK_succ h,linkR_o h7 h8];rfl⟩
theorem link_14 {i:Nat}(h:i<c.length)(e:(nth c i).op=14):nth (linkL nw c) (pK nw c i)= { nth c i with a:=pK nw c (nth c i).a.toNat } :=by
 rw [(link_o h (by omega) (by omega)).1];unfold fixIns;rw [if_pos ⟨e, .inl e⟩];rfl
theorem link_15 {i:Nat}(h:i<c.length)(e:(nth c i).op=15):nth (linkL nw c) (pK nw c i)= { nth c i with b:=pK nw c (nth c i).b.toNat } :=by
 rw [(link_o h (by omega) (by omega)).1];unfold fixIns;rw [if_neg (by omega),if_pos ⟨e,e⟩];rfl
theorem link_other {i:Nat}(h:i<c.length)(h14:(nth c i).op≠14)(h15:(nth c i).op≠15)(h7:(nth c i).op≠17)(h8:(nth c i).op≠18):nth (linkL nw c) (pK nw c i)=nth c i:=by
 rw [(link_o h h7 h8).1];unfold fixIns;rw [if_neg (by omega),if_neg (by omega),if_neg (by omega)]
end
def lkB (x:Int):Int:=if x= -1 then 0 else 1
def lkW (o:List Int):List Int:=o.map lkB
def lkWt (n:Nat)(w:Wt):Wt:=if w.lock=true then ⟨false,n+w.wh,0⟩ else w
theorem lkWt_t {n:Nat}{w:Wt}(h:w.lock=true):lkWt n w=⟨false,n+w.wh,0⟩:=by unfold lkWt;rw [if_pos h]
theorem lkWt_f {n:Nat}{w:Wt}(h:w.lock=false):lkWt n w=w:=by unfold lkWt;rw [if_neg (by rw [h];decide)]
structure RVk (n R:Nat)(x y:TS):Prop where
 w:y.words=x.words++lkW x.owner
 p:y.prints=x.prints
 wt:y.wait=x.wait.map (lkWt n)
 r:∀k,k<R→nth y.regs k=nth x.regs k
 rl:y.regs.length=8
structure XK (n R L:Nat)(x:TS):Prop where
 r:x.regs.length=R
 w:x.words.length=n
 o:x.owner.length=L
 wt:∀v∈x.wait,if v.lock=true then 0≤v.wh∧v.wh<L else 0≤v.wh∧v.wh<n
section
variable {n R L:Nat}{x y:TS}{m:Int}{t:Nat}
theorem RVk.pc (h:RVk n R x y)(u v:Int):RVk n R { x with pc:=u } { y with pc:=v } :=⟨h.w,h.p,h.wt,h.r,h.rl⟩
theorem RVk.reg (h:RVk n R x y){k:Int}(hk:0≤k∧k<R):y.reg k=x.reg k:=h.r _ (by omega)
theorem RVk.put (h:RVk n R x y)(hx:XK n R L x)(hR:R≤6){k:Int}(hk:0≤k∧k<R)(v:Int):RVk n R (x.put k v) (y.put k v):=by
 refine ⟨h.w,h.p,h.wt,fun j hj=> ?_,by simpa [TS.put] using h.rl⟩
 show nth (y.regs.set k.toNat v) j=nth (x.regs.set k.toNat v) j
 rw [nth_set0,nth_set0,h.rl,hx.r,h.r j hj]
 by_cases e:k.toNat=j
 ·rw [if_pos ⟨e,by omega⟩,if_pos ⟨e,by omega⟩]
 ·rw [if_neg (fun hh=>e hh.1),if_neg (fun hh=>e hh.1)]
theorem RVk.putq (h:RVk n R x y){k:Nat}(hk:R≤k)(v:Int):RVk n R x { y with regs:=y.regs.set k v } :=by
 refine ⟨h.w,h.p,h.wt,fun j hj=> ?_,by simpa using h.rl⟩
 show nth (y.regs.set k v) j=_
 rw [nth_set0,if_neg (fun hh=>by omega)]
 exact h.r j hj
theorem RVk.len (h:RVk n R x y)(hx:XK n R L x):y.words.length=n+L:=by rw [h.w,List.length_append,hx.w,lkW,List.length_map,hx.o]
theorem RVk.word (h:RVk n R x y)(hx:XK n R L x){a:Int}(ha:0≤a∧a<n):nth y.words a.toNat=nth x.words a.toNat:=by
 rw [h.w,nth_app0,if_pos (by rw [hx.w];omega)]
theorem RVk.lock (h:RVk n R x y)(hx:XK n R L x){a:Int}(ha:0≤a∧a<L):nth y.words ((n:Int)+a).toNat=lkB (nth x.owner a.toNat):=by
 have e:((n:Int)+a).toNat=n+a.toNat:=by omega
 rw [h.w,nth_app0,if_neg (by rw [hx.w];omega),hx.w,e,Nat.add_sub_cancel_left]
 exact nth_map' _ _ _ (by rw [hx.o];omega)
theorem finds_eq {w:Int}(hw:w<n)(ws:List Int):∀l:List Wt,(∀v∈l,v.lock=true→0≤v.wh)→(match (l.map (lkWt n)).find? (fun x=> !x.lock&&decide (x.wh=w)) with|some x=>x.what|none=>nth ws w.toNat)=(match l.find? (fun x=> !x.lock&&decide (x.wh=w)) with|some x=>x.what|none=>nth ws w.toNat)
 | [],_=>rfl
 |v::l,hv=>by
  have ih:=finds_eq hw ws l fun u hu=>hv u (List.mem_cons_of_mem _ hu)
  rw [List.map_cons,List.find?_cons,List.find?_cons]
  cases hl:v.lock with
  |true=>
   have h0:=hv v (List.mem_cons_self ..) hl
   have e1:(!(lkWt n v).lock&&decide ((lkWt n v).wh=w))=false:=by rw [lkWt_t hl];simp;omega
   have e2:(!true&&decide (v.wh=w))=false:=rfl
   rw [e1,e2];exact ih
  |false=>
   have e1:(!(lkWt n v).lock&&decide ((lkWt n v).wh=w))=(!false&&decide (v.wh=w)):=by rw [lkWt_f hl,hl]
   rw [e1]
   cases (!false&&decide (v.wh=w)) with
   |true=>show (lkWt n v).what=v.what;rw [lkWt_f hl]
   |false=>exact ih
theorem RVk.finds (h:RVk n R x y)(hx:XK n R L x){w:Int}(hw:0≤w∧w<n):y.finds w=x.finds w:=by
 unfold TS.finds findsL
 rw [h.wt,←List.map_reverse,h.word hx hw]
 exact finds_eq hw.2 _ _ fun v hv hl=>by
  have:=hx.wt v (List.mem_reverse.1 hv)
  rw [if_pos hl] at this;exact this.1
theorem lkW_set {o:List Int}{k:Nat}{v:Int} :lkW (o.set k v)=(lkW o).set k (lkB v):=by unfold lkW;rw [List.map_set]
theorem app_set_l {a b:List Int}{k:Nat}{v:Int}(h:k<a.length):(a++b).set k v=a.set k v++b:=List.set_append_left k v h
theorem app_set_r {a b:List Int}{k:Nat}{v:Int} :(a++b).set (a.length+k) v=a++b.set k v:=by
 rw [List.set_append_right _ _ (by omega),Nat.add_sub_cancel_left]
theorem RVk.done (h:RVk n R x y)(hx:XK n R L x){v:Wt}(hv:if v.lock=true then 0≤v.wh∧v.wh<L else 0≤v.wh∧v.wh<n):RVk n R (x.done v) (y.done (lkWt n v)):=by
 cases hl:v.lock with
 |true=>
  rw [if_pos hl] at hv
  refine ⟨?_,h.p,h.wt,h.r,h.rl⟩
  rw [lkWt_t hl]
  unfold TS.done
  simp only [hl,if_true,Bool.false_eq_true,if_false]
  rw [lkW_set,h.w,show ((n:Int)+v.wh).toNat=x.words.length+v.wh.toNat by rw [hx.w];omega,app_set_r]
  rfl
 |false=>
  rw [if_neg (by rw [hl];decide)] at hv
  refine ⟨?_,h.p,h.wt,h.r,h.rl⟩
  rw [lkWt_f hl]
  unfold TS.done
  simp only [hl,Bool.false_eq_true,if_false]
  rw [h.w,app_set_l (by rw [hx.w];omega)]
theorem RVk.store (h:RVk n R x y)(hx:XK n R L x){v:Wt}(hv:if v.lock=true then 0≤v.wh∧v.wh<L else 0≤v.wh∧v.wh<n):RVk n R (x.store m v) (y.store m (lkWt n v)):=by
 unfold TS.store
 split
 ·refine ⟨h.w,h.p, ?_,h.r,h.rl⟩
  show y.wait++ [lkWt n v]=(x.wait++ [v]).map (lkWt n)
  rw [h.wt,List.map_append];rfl
 ·exact h.done hx hv
theorem XK.of {C:Nat}(h:WfS R n L C x):XK n R L x:=⟨h.regs,h.words,h.owner,h.wt⟩
theorem RVk.able (h:RVk n R x y){i:Ins}(h7:i.op≠17):ableL y.owner y.wait.length i=ableL x.owner x.wait.length i:=by
 unfold ableL
 rw [h.wt,List.length_map]
 by_cases h1:i.op=9∨i.op=11∨i.op=18
 ·rw [if_pos h1,if_pos h1]
 ·rw [if_neg h1,if_neg h1]
  by_cases h2:i.op=12∨i.op=13
  ·rw [if_pos h2,if_pos h2]
  ·rw [if_neg h2,if_neg h2,if_neg h7,if_neg h7]
theorem RVk.exec (h:RVk n R x y)(hx:XK n R L x)(hR:R≤6){i:Ins}(hi:InsR R n L i)(h14:i.op≠14)(h15:i.op≠15)(h17:i.op≠17)(h18:i.op≠18)(hf:(execT m t i x).fell=false)(hy:y.fell=false):RVk n R (execT m t i x) (execT m t i y)∧(execT m t i y).fell=false:=by
 by_cases e1:i.op=1
 ·rw [execT_1 e1,execT_1 e1];exact ⟨h.put hx hR (hi.o1 e1) _,hy⟩
 by_cases e2:i.op=2
 ·rw [execT_2 e2,execT_2 e2,h.reg (hi.o2 e2).2];exact ⟨h.put hx hR (hi.o2 e2).1 _,hy⟩
 by_cases e3:i.op=3
 ·have q:=hi.o3 (by omega);rw [execT_3 e3,execT_3 e3,h.reg q.2.1,h.reg q.2.2];exact ⟨h.put hx hR q.1 _,hy⟩
 by_cases e4:i.op=4
 ·have q:=hi.o3 (by omega);rw [execT_4 e4,execT_4 e4,h.reg q.2.1,h.reg q.2.2];exact ⟨h.put hx hR q.1 _,hy⟩
 by_cases e5:i.op=5
 ·have q:=hi.o3 (by omega);rw [execT_5 e5,execT_5 e5,h.reg q.2.1,h.reg q.2.2];exact ⟨h.put hx hR q.1 _,hy⟩
 by_cases e6:i.op=6
 ·have q:=hi.o3 (by omega);rw [execT_6 e6,execT_6 e6,h.reg q.2.1,h.reg q.2.2];exact ⟨h.put hx hR q.1 _,hy⟩
 by_cases e7:i.op=7
 ·have q:=hi.o3 (by omega);rw [execT_7 e7,execT_7 e7,h.reg q.2.1,h.reg q.2.2];exact ⟨h.put hx hR q.1 _,hy⟩
 by_cases e8:i.op=8
 ·have q:=hi.o8 e8;rw [execT_8 e8,execT_8 e8,h.finds hx q.2];exact ⟨h.put hx hR q.1 _,hy⟩
 by_cases e9:i.op=9
 ·have q:=hi.o9 e9
  rw [execT_9 e9,execT_9 e9,h.reg q.2]
  have:=h.store (m:=m) hx (v:=⟨false,i.a,x.reg i.b⟩) (by rw [if_neg Bool.false_ne_true];exact q.1)
  rw [lkWt_f rfl] at this
  exact ⟨this,by unfold TS.store;split<;>exact hy⟩
 by_cases e10:i.op=10
 ·have q:=hi.o10 (.inl e10)
  by_cases hw:0≤x.reg i.b∧x.reg i.b<(x.words.length:Int)
  ·have hw2:0≤y.reg i.b∧y.reg i.b<(y.words.length:Int):=by rw [h.reg q.2,h.len hx];rw [hx.w] at hw;omega
   rw [execT_10t e10 hw,execT_10t e10 hw2,h.reg q.2,h.finds hx (by rw [hx.w] at hw;exact hw)]
   exact ⟨h.put hx hR q.1 _,hy⟩
  ·rw [execT_10f e10 hw] at hf;cases hf
 by_cases e11:i.op=11
 ·have q:=hi.o10 (.inr e11)
  by_cases hw:0≤x.reg i.a∧x.reg i.a<(x.words.length:Int)
  ·have hw2:0≤y.reg i.a∧y.reg i.a<(y.words.length:Int):=by rw [h.reg q.1,h.len hx];rw [hx.w] at hw;omega
   rw [execT_11t e11 hw,execT_11t e11 hw2,h.reg q.1,h.reg q.2]
   have:=h.store (m:=m) hx (v:=⟨false,x.reg i.a,x.reg i.b⟩) (by rw [if_neg Bool.false_ne_true];rw [hx.w] at hw;exact hw)
   rw [lkWt_f rfl] at this
   exact ⟨this,by unfold TS.store;split<;>exact hy⟩
  ·rw [execT_11f e11 hw] at hf;cases hf
 by_cases e13:i.op=13
 ·have q:=hi.o13 e13
  by_cases hw:nth x.words i.a.toNat=x.reg i.b
  ·have hw2:nth y.words i.a.toNat=y.reg i.b:=by rw [h.word hx q.1,h.reg q.2.1];exact hw
   rw [execT_13t e13 hw,execT_13t e13 hw2,h.reg q.2.2]
   have:=h.put hx hR q.2.1 1
   refine ⟨⟨?_,h.p,h.wt,this.r,this.rl⟩,hy⟩
   show y.words.set _ _=_
   rw [h.w,app_set_l (by rw [hx.w];omega)]
  ·have hw2:¬nth y.words i.a.toNat=y.reg i.b:=by rw [h.word hx q.1,h.reg q.2.1];exact hw
   rw [execT_13f e13 hw,execT_13f e13 hw2];exact ⟨h.put hx hR q.2.1 _,hy⟩
 by_cases e16:i.op=16
 ·rw [execT_16 e16,execT_16 e16,h.reg (hi.o15 (.inr e16))]
  exact ⟨⟨h.w,by show y.prints++_=_;rw [h.p],h.wt,h.r,h.rl⟩,hy⟩
 rw [execT_no ⟨e1,e2,e3,e4,e5,e6,e7,e8,e9,e10,e11,e13,h14,h15,e16,h17,h18⟩,execT_no ⟨e1,e2,e3,e4,e5,e6,e7,e8,e9,e10,e11,e13,h14,h15,e16,h17,h18⟩]
 exact ⟨h,hy⟩
theorem RVk.move (h:RVk n R x y)(hx:XK n R L x)(hw:x.wait≠ [])(c c' :List Ins):RVk n R (doT m t c 1 x) (doT m t c' 1 y):=by
 unfold doT
 rw [if_pos (by decide),if_pos (by decide)]
 obtain ⟨v,l,e⟩:∃v l,x.wait=v::l:=by cases hh:x.wait with|nil=>exact absurd hh hw|cons a b=>exact ⟨a,b,rfl⟩
 have hy:y.wait=lkWt n v::l.map (lkWt n):=by rw [h.wt,e];rfl
 have hv:=hx.wt v (by rw [e];exact List.mem_cons_self ..)
 have hd:=h.done hx hv
 rw [e,hy]
 exact ⟨hd.w,hd.p,rfl,hd.r,hd.rl⟩
end
section
variable {n R L:Nat}{x y:TS}{m:Int}{t:Nat}
theorem RVk.pcq (h:RVk n R x y)(v:Int):RVk n R x { y with pc:=v } :=⟨h.w,h.p,h.wt,h.r,h.rl⟩
theorem RVk.take (h:RVk n R x y)(hx:XK n R L x){a:Int}(ha:0≤a∧a<L)(t:Nat):RVk n R { x with owner:=x.owner.set a.toNat t } { y with words:=y.words.set ((n:Int)+a).toNat 1 } :=by
 refine ⟨?_,h.p,h.wt,h.r,h.rl⟩
 show y.words.set _ _=x.words++lkW (x.owner.set _ _)
 rw [lkW_set,h.w,show ((n:Int)+a).toNat=x.words.length+a.toNat by rw [hx.w];omega,app_set_r,show lkB (t:Int)=1 by unfold lkB;rw [if_neg (by omega)]]
theorem doT1 {c:List Ins} :(doT m t c 1 x).pc=x.pc∧(doT m t c 1 x).regs=x.regs∧(doT m t c 1 x).fell=x.fell:=by
 unfold doT;rw [if_pos (by decide)];exact ⟨rfl,rfl,rfl⟩
end
theorem mayK_1 {l:List Wt}{k:Nat}(h:mayK 1 l k=true):k=0:=by
 unfold mayK at h
 simpa using h
theorem mayK_0 {m:Int}{l:List Wt} :mayK m l 0=true:=by unfold mayK;rfl
structure RelK (p:Pg)(Rr:Nat→Int→Int→List Int→Prop)(s s' :MSt):Prop where
 w:s'.words=s.words++lkW s.owner
 pr:s'.prints=s.prints
 wt:∀t,t<p.code.length→(nth s'.ths t).wait=(nth s.ths t).wait.map (lkWt p.words.length)
 r:∀t,t<p.code.length→∀k,k<p.regs.toNat→nth (nth s'.ths t).regs k=nth (nth s.ths t).regs k
 rl:∀t,t<p.code.length→(nth s'.ths t).regs.length=8
 pc:∀t,t<p.code.length→Rr t (nth s.ths t).pc (nth s'.ths t).pc (nth s'.ths t).regs
section
variable {p:Pg}{Rr:Nat→Int→Int→List Int→Prop}{s s' :MSt}{t:Nat}
theorem RelK.view (h:RelK p Rr s s')(ht:t<p.code.length):RVk p.words.length p.regs.toNat (s.view t) (s'.view t):=⟨h.w,h.pr,h.wt t ht,h.r t ht,h.rl t ht⟩
theorem RelK.put (h:RelK p Rr s s')(hl:t<s.ths.length)(hl' :t<s'.ths.length){x y:TS}(hv:RVk p.words.length p.regs.toNat x y)(hR:Rr t x.pc y.pc y.regs):RelK p Rr (s.putT t x) (s'.putT t y):=by
 refine ⟨hv.w,hv.p,fun u hu=> ?_,fun u hu=> ?_,fun u hu=> ?_,fun u hu=> ?_⟩<;>rw [putT_th hl']<;>(try rw [putT_th hl])<;>split
 ·exact hv.wt
 ·exact h.wt u hu
 ·exact hv.r
 ·exact h.r u hu
 ·exact hv.rl
 ·exact h.rl u hu
 ·rename_i e;subst e;exact hR
 ·exact h.pc u hu
theorem RelK.right (h:RelK p Rr s s')(hl' :t<s'.ths.length){y:TS}(hv:RVk p.words.length p.regs.toNat (s.view t) y)(hR:Rr t (nth s.ths t).pc y.pc y.regs):RelK p Rr s (s'.putT t y):=by
 refine ⟨hv.w,hv.p,fun u hu=> ?_,fun u hu=> ?_,fun u hu=> ?_,fun u hu=> ?_⟩<;>rw [putT_th hl']<;>split
 ·rename_i e;subst e;exact hv.wt
 ·exact h.wt u hu
 ·rename_i e;subst e;exact hv.r
 ·exact h.r u hu
 ·exact hv.rl
 ·exact h.rl u hu
 ·rename_i e;subst e;exact hR
 ·exact h.pc u hu
end
def linkPg (p:Pg):Pg:=⟨p.code.map (linkL p.words.length),p.words++List.replicate p.locks.toNat 0,0,8⟩
inductive StL (nw:Nat)(c:List Ins)(a b:Int)(rs:List Int):Prop
 |A (i:Nat) (ha:a=i) (hi:i≤c.length) (hb:b=(pK nw c i:Int))
 |L1 (i:Nat) (ha:a=i) (hi:i<c.length) (ho:(nth c i).op=17) (hb:b=((pK nw c i+1:Nat):Int)) (h6:nth rs 6=0)
 |L2 (i:Nat) (ha:a=i) (hi:i<c.length) (ho:(nth c i).op=17) (hb:b=((pK nw c i+2:Nat):Int)) (h6:nth rs 6=0) (h7:nth rs 7=1)
 |L3 (i:Nat) (ha:a=i) (hi:i<c.length) (ho:(nth c i).op=17) (hb:b=((pK nw c i+3:Nat):Int)) (h6:nth rs 6=0)
 |S (i:Nat) (ha:a=(i:Int)+1) (hi:i<c.length) (ho:(nth c i).op=17) (hb:b=((pK nw c i+3:Nat):Int)) (h6:nth rs 6≠0)
 |U (i:Nat) (ha:a=i) (hi:i<c.length) (ho:(nth c i).op=18) (hb:b=((pK nw c i+1:Nat):Int)) (h6:nth rs 6=0)
theorem stepQ {q:Pg}{m:Int}{s:MSt}{t j:Nat}{ins:Ins}{c:List Ins}(hc:nth q.code t=c)(hp:(nth s.ths t).pc=(j:Int))(hj:j<c.length)(e:nth c j=ins):
  stepT q m s t 0=execT m t ins { s.view t with pc:=(j:Int)+1 }∧mvOK m c (s.view t) 0=ableL s.owner (nth s.ths t).wait.length ins:=by
 have hp' :(s.view t).pc=(j:Int):=hp
 have hn:nextIns c (s.view t).pc=ins:=by rw [hp',nextIns_t (by omega)];simpa using e
 refine ⟨by rw [stepT_e,hc,hn,hp'], ?_⟩
 unfold mvOK ableV
 rw [if_pos rfl,hn,decide_eq_true (show (s.view t).pc<(c.length:Int) by omega)]
 rfl
theorem set_get {rs:List Int}{k:Nat}{v:Int}(h:k<rs.length):nth (rs.set k v) k=v:=by rw [nth_set0,if_pos ⟨rfl,h⟩]
theorem set_getn {rs:List Int}{k j:Nat}{v:Int}(h:k≠j):nth (rs.set k v) j=nth rs j:=by rw [nth_set0,if_neg (fun hh=>h hh.1)]
theorem rep0 {n k:Nat} :nth (List.replicate n (0:Int)) k=0:=by
 simp only [nth,List.getD,List.getElem?_replicate]
 split<;>rfl
section
variable {p:Pg}{m:Int}
theorem linkPg_len :(linkPg p).code.length=p.code.length:=by simp [linkPg]
theorem linkPg_code {t:Nat}(h:t<p.code.length):nth (linkPg p).code t=linkL p.words.length (nth p.code t):=nth_map' _ _ _ h
theorem begin_relK {Rr:Nat→Int→Int→List Int→Prop}(hR:p.regs≤6)(h0:∀t rs,t<p.code.length→Rr t 0 0 rs):RelK p Rr (begin_ p) (begin_ (linkPg p)):=by
 have e:∀(p:Pg) t,t<p.code.length→nth (begin_ p).ths t=⟨0,List.replicate p.regs.toNat 0, []⟩:=fun p t ht=>nth_map' _ _ _ ht
 have e2:∀t,t<p.code.length→nth (begin_ (linkPg p)).ths t=⟨0,List.replicate 8 0, []⟩:=fun t ht=>by rw [e (linkPg p) t (by rw [linkPg_len];exact ht)];rfl
 refine ⟨?_,rfl,fun t ht=> ?_,fun t ht k hk=> ?_,fun t ht=> ?_,fun t ht=> ?_⟩
 ·show p.words++List.replicate p.locks.toNat 0=p.words++lkW (List.replicate p.locks.toNat (-1))
  rw [lkW,List.map_replicate];rfl
 ·rw [e p t ht,e2 t ht];rfl
 ·rw [e p t ht,e2 t ht]
  show nth (List.replicate 8 0) k=nth (List.replicate p.regs.toNat 0) k
  rw [rep0,rep0]
 ·rw [e2 t ht];rfl
 ·rw [e p t ht,e2 t ht];exact h0 t _ ht
theorem wait_step (hok:OkPg p)(hm:m=0∨m=1){s s' :MSt}{Rr:Nat→Int→Int→List Int→Prop}(hr:Reach p m s)(hrel:RelK p Rr s s'){t k:Nat}(ht:t<p.code.length)(hk0:0<k)(c c' :List Ins):
  (mvOK m c (s.view t) k=true↔mvOK m c' (s'.view t) k=true)∧(mvOK m c (s.view t) k=true→k=1∧(s.view t).wait≠ []):=by
 have hv:=(hrel.view ht).wt
 have hl:(s'.view t).wait.length=(s.view t).wait.length:=by rw [hv,List.length_map]
 unfold mvOK
 rw [if_neg (by omega),if_neg (by omega),hl]
 rcases hm with rfl|rfl
 ·have h0:(s.view t).wait= []:=hr.no_wait hok t ht
  have:decide (k≤(s.view t).wait.length)=false:=decide_eq_false (by rw [h0];simp;omega)
  simp [this]
 ·have key:∀l,mayK 1 l (k-1)=true↔k=1:=fun l=>⟨fun h=>by have:=mayK_1 h;omega,fun h=>by subst h;exact mayK_0⟩
  simp only [Bool.and_eq_true,decide_eq_true_eq,key]
  refine ⟨trivial,fun h=>⟨h.2,fun h0=> ?_⟩⟩
  rw [h0] at h;simp at h;omega
def NoFall (p:Pg)(m:Int):Prop:=∀s t k,Reach p m s→t<p.code.length→mvOK m (nth p.code t) (s.view t) k=true→(stepT p m s t k).fell=false
theorem unlock_ok {t:Nat}{i:Ins}{x:TS}(h:i.op=18)(hf:(execT m t i x).fell=false)(hx:x.fell=false):execT m t i x=x.store m ⟨true,i.a,0⟩:=by
 by_cases h1:nth x.owner i.a.toNat≠t
 ·rw [execT_18a h h1] at hf;cases hf
 ·by_cases h2:∃j,j<x.wait.length∧(nth x.wait j).lock=true∧(nth x.wait j).wh=i.a
  ·obtain ⟨j,hj,a,b⟩:=h2
   rw [execT_18b h h1 j hj a b] at hf;cases hf
  ·rw [execT_18c h h1 (fun q hq hc=>h2 ⟨q,hq,hc⟩)]
theorem store_r (x:TS)(w:Wt):(x.store m w).regs=x.regs∧(x.store m w).pc=x.pc∧(x.store m w).fell=x.fell:=by unfold TS.store;split<;>exact ⟨rfl,rfl,rfl⟩
theorem link_bwd (hok:OkPg p)(hq:OkPg (linkPg p))(hR:p.regs≤6)(hm:m=0∨m=1)(hnf:NoFall p m){s' :MSt}(h:Reach (linkPg p) m s'):∃s,Reach p m s∧RelK p (fun t a b rs=>StL p.words.length (nth p.code t) a b rs) s s' :=by
  induction h with
  |start=>exact ⟨_, .start,begin_relK hR fun t _ ht=> .A 0 rfl (Nat.zero_le _) (by simp [pK,placeL])⟩
  |step hr' ht' hk hf ih=>
    rename_i s' t k
    obtain ⟨s,hr,hrel⟩:=ih
    have ht:t<p.code.length:=by rw [linkPg_len] at ht';exact ht'
    have hcode:=linkPg_code ht
    have hl:=hr.len hok ht
    have hl' :=hr'.len hq ht'
    have hv:=hrel.view ht
    have hx:=XK.of ((hr.wf hok).th t ht)
    have hR6:p.regs.toNat≤6:=by omega
    have hlen8:(nth s'.ths t).regs.length=8:=hrel.rl t ht
    rw [hcode] at hk
    by_cases hk0:0<k
    · obtain ⟨h1,h2⟩:=wait_step hok hm hr hrel ht hk0 (nth p.code t) (linkL p.words.length (nth p.code t))
      have hkp:=h1.2 hk
      obtain ⟨rfl,hw⟩:=h2 hkp
      refine ⟨_, .step hr ht hkp (hnf _ _ _ hr ht hkp), ?_⟩
      refine hrel.put hl hl' (hv.move hx hw _ _) ?_
      rw [show stepT p m s t 1=doT m t (nth p.code t) 1 (s.view t) from rfl,show stepT (linkPg p) m s' t 1=doT m t (nth (linkPg p).code t) 1 (s'.view t) from rfl,doT1.1,doT1.1,doT1.2.1]
      exact hrel.pc t ht
    obtain rfl:k=0:=by omega
    rcases hrel.pc t ht with ⟨i,ha,hi,hb⟩|⟨i,ha,hi,ho,hb,h6⟩|⟨i,ha,hi,ho,hb,h6,h7⟩|⟨i,ha,hi,ho,hb,h6⟩|⟨i,ha,hi,ho,hb,h6⟩|⟨i,ha,hi,ho,hb,h6⟩
    ·
      have hlt:i<(nth p.code t).length:=by
        rcases Nat.lt_or_ge i (nth p.code t).length with h|h
        · exact h
        · obtain rfl:i=(nth p.code t).length:=by omega
          rcases mvOK_k hk with ⟨_,h1,_⟩|⟨h1,_⟩
          · rw [show (s'.view t).pc=(nth s'.ths t).pc from rfl,hb,pK_len] at h1;omega
          · omega
      have hI:=hok.insR ht hlt
      obtain ⟨hst,hmv⟩:=stepQ (m:=m) hcode hb (pK_lt hlt) rfl
      obtain ⟨hst0,hmv0⟩:=stepQ (q:=p) (m:=m) rfl ha hlt rfl
      by_cases e17:(nth (nth p.code t) i).op=17
      · rw [(link_17 hlt e17).1,execT_1 rfl] at hst
        refine ⟨s,hr, ?_⟩
        rw [hst]
        exact hrel.right hl' ((hv.pcq _).putq (k:=6) hR6 0) (.L1 i ha hlt e17 (by show (pK _ _ _:Int)+1=_;simp) (set_get (by rw [show ({ s'.view t with pc:=_ } :TS).regs=(nth s'.ths t).regs from rfl,hlen8];decide)))
      by_cases e18:(nth (nth p.code t) i).op=18
      · rw [(link_18 hlt e18).1,execT_1 rfl] at hst
        refine ⟨s,hr, ?_⟩
        rw [hst]
        exact hrel.right hl' ((hv.pcq _).putq (k:=6) hR6 0) (.U i ha hlt e18 (by show (pK _ _ _:Int)+1=_;simp) (set_get (by rw [show ({ s'.view t with pc:=_ } :TS).regs=(nth s'.ths t).regs from rfl,hlen8];decide)))
      rw [hmv] at hk
      have hsucc:=(link_o (nw:=p.words.length) hlt e17 e18).2
      by_cases e14:(nth (nth p.code t) i).op=14
      · rw [link_14 hlt e14,execT_jump e14] at hst
        have hj:=hI.2.1 e14
        have hk2:mvOK m (nth p.code t) (s.view t) 0=true:=by rw [hmv0];unfold ableL;simp [e14]
        refine ⟨_, .step hr ht hk2 (hnf _ _ _ hr ht hk2), ?_⟩
        rw [hst,hst0,execT_14 e14]
        exact hrel.put hl hl' (hv.pc _ _) (.A (nth (nth p.code t) i).a.toNat (by show (nth (nth p.code t) i).a=_;omega) (by omega) rfl)
      by_cases e15:(nth (nth p.code t) i).op=15
      · rw [link_15 hlt e15] at hst
        have hj:=hI.2.2 e15
        have hk2:mvOK m (nth p.code t) (s.view t) 0=true:=by rw [hmv0];unfold ableL;simp [e15]
        refine ⟨_, .step hr ht hk2 (hnf _ _ _ hr ht hk2), ?_⟩
        have hreg:=hv.reg (hI.1.o15 (.inl e15))
        by_cases hz:(s.view t).reg (nth (nth p.code t) i).a=0
        · rw [hst,hst0,execT_15t (x:= { s.view t with pc:=(i:Int)+1 }) e15 hz,execT_zt (x:= { s'.view t with pc:=(pK p.words.length (nth p.code t) i:Int)+1 }) e15 (by rw [←hreg] at hz;exact hz)]
          exact hrel.put hl hl' (hv.pc _ _) (.A (nth (nth p.code t) i).b.toNat (by show (nth (nth p.code t) i).b=_;omega) (by omega) rfl)
        · rw [hst,hst0,execT_15f (x:= { s.view t with pc:=(i:Int)+1 }) e15 hz,execT_zf (x:= { s'.view t with pc:=(pK p.words.length (nth p.code t) i:Int)+1 }) e15 (by rw [←hreg] at hz;exact hz)]
          exact hrel.put hl hl' (hv.pc _ _) (.A (i+1) (by simp) (by omega) (by rw [hsucc];simp))
      rw [link_other hlt e14 e15 e17 e18] at hst hk
      have hk2:mvOK m (nth p.code t) (s.view t) 0=true:=by rw [hmv0];exact (hv.able e17).symm.trans hk
      have hnf0:=hnf _ _ _ hr ht hk2
      refine ⟨_, .step hr ht hk2 hnf0, ?_⟩
      rw [hst0] at hnf0
      obtain ⟨g1,g2⟩:=(hv.pc ((i:Int)+1) ((pK p.words.length (nth p.code t) i:Int)+1)).exec (m:=m) (t:=t) (L:=p.locks.toNat) ⟨hx.r,hx.w,hx.o,hx.wt⟩ hR6 hI.1 e14 e15 e17 e18 hnf0 rfl
      rw [hst,hst0]
      refine hrel.put hl hl' g1 ?_
      rw [(execT_pc m t _ { s.view t with pc:=(i:Int)+1 } 0 e14 e15).2,(execT_pc m t _ { s'.view t with pc:=(pK p.words.length (nth p.code t) i:Int)+1 } 0 e14 e15).2]
      exact .A (i+1) (by simp) (by omega) (by rw [hsucc];simp)
    ·
      obtain ⟨_,l1,_,_,_,l5⟩:=link_17 (nw:=p.words.length) hi ho
      obtain ⟨hst,_⟩:=stepQ (m:=m) hcode hb (by omega) l1
      rw [execT_1 rfl] at hst
      refine ⟨s,hr, ?_⟩
      rw [hst]
      exact hrel.right hl' ((hv.pcq _).putq (k:=7) (by omega) 1) (.L2 i ha hi ho (by show ((pK p.words.length (nth p.code t) i+1:Nat):Int)+1=_;omega) ((set_getn (k:=7) (j:=6) (by decide)).trans h6) (set_get (by rw [show ({ s'.view t with pc:=_ } :TS).regs=(nth s'.ths t).regs from rfl,hlen8];decide)))
    ·
      obtain ⟨_,_,l2,_,_,l5⟩:=link_17 (nw:=p.words.length) hi ho
      obtain ⟨hst,hmv⟩:=stepQ (m:=m) hcode hb (by omega) l2
      rw [hmv] at hk
      have hI:=hok.insR ht hi
      have hla:=hI.1.o17 (.inl ho)
      have hlk:=hv.lock hx hla
      have hw0:(nth s'.ths t).wait.length=0:=by
        unfold ableL at hk
        rw [if_neg (show¬((13:Int)=9∨(13:Int)=11∨(13:Int)=18) by decide),if_pos (.inr rfl)] at hk
        exact of_decide_eq_true hk
      by_cases hfree:nth s.owner (nth (nth p.code t) i).a.toNat= -1
      · have hz:nth (s'.view t).words ((p.words.length:Int)+(nth (nth p.code t) i).a).toNat=(s'.view t).reg 6:=by
          rw [hlk];show lkB (nth s.owner _)=nth (nth s'.ths t).regs 6
          rw [hfree,h6];rfl
        rw [execT_13t (i:=⟨13,(p.words.length:Int)+(nth (nth p.code t) i).a,6,7⟩) (x:= { s'.view t with pc:=((pK p.words.length (nth p.code t) i+2:Nat):Int)+1 }) rfl hz] at hst
        obtain ⟨hst0,hmv0⟩:=stepQ (q:=p) (m:=m) rfl ha hi rfl
        have hk2:mvOK m (nth p.code t) (s.view t) 0=true:=by
          rw [hmv0];unfold ableL
          rw [if_neg (by omega),if_neg (by omega),if_pos ho,hfree]
          have:(nth s.ths t).wait.length=0:=by have h3:=congrArg List.length (hrel.wt t ht);rw [List.length_map] at h3;omega
          rw [this];rfl
        refine ⟨_, .step hr ht hk2 (hnf _ _ _ hr ht hk2), ?_⟩
        rw [hst,hst0,execT_17 ho]
        have h71:(s'.view t).reg 7=1:=h7
        have g:=((hv.pc ((i:Int)+1) (((pK p.words.length (nth p.code t) i+2:Nat):Int)+1)).take (L:=p.locks.toNat) ⟨hx.r,hx.w,hx.o,hx.wt⟩ hla t).putq (k:=6) hR6 1
        refine hrel.put hl hl' (y:= { s'.view t with pc:=((pK p.words.length (nth p.code t) i+2:Nat):Int)+1,words:=(s'.view t).words.set ((p.words.length:Int)+(nth (nth p.code t) i).a).toNat ((s'.view t).reg 7),regs:=(s'.view t).regs.set 6 1 }) (by rw [h71];exact g) (.S i rfl hi ho (by show ((pK p.words.length (nth p.code t) i+2:Nat):Int)+1=_;omega) ?_)
        rw [set_get (by rw [show (s'.view t).regs=(nth s'.ths t).regs from rfl,hlen8];decide)];decide
      · have hz:¬nth (s'.view t).words ((p.words.length:Int)+(nth (nth p.code t) i).a).toNat=(s'.view t).reg 6:=by
          rw [hlk];show¬lkB (nth s.owner _)=nth (nth s'.ths t).regs 6
          rw [h6];unfold lkB;rw [if_neg hfree];decide
        rw [execT_13f (i:=⟨13,(p.words.length:Int)+(nth (nth p.code t) i).a,6,7⟩) (x:= { s'.view t with pc:=((pK p.words.length (nth p.code t) i+2:Nat):Int)+1 }) rfl hz] at hst
        refine ⟨s,hr, ?_⟩
        rw [hst]
        exact hrel.right hl' ((hv.pcq _).putq (k:=6) hR6 0) (.L3 i ha hi ho (by show ((pK p.words.length (nth p.code t) i+2:Nat):Int)+1=_;omega) (set_get (k:=6) (by rw [show ({ s'.view t with pc:=_ } :TS).regs=(nth s'.ths t).regs from rfl,hlen8];decide)))
    ·
      obtain ⟨_,_,_,l3,_,l5⟩:=link_17 (nw:=p.words.length) hi ho
      obtain ⟨hst,_⟩:=stepQ (m:=m) hcode hb (by omega) l3
      rw [execT_15t (i:=⟨15,6,(pK p.words.length (nth p.code t) i:Int),0⟩) (x:= { s'.view t with pc:=((pK p.words.length (nth p.code t) i+3:Nat):Int)+1 }) rfl h6] at hst
      refine ⟨s,hr, ?_⟩
      rw [hst]
      exact hrel.right hl' (hv.pcq _) (.A i ha (by omega) rfl)
    ·
      obtain ⟨_,_,_,l3,l4,l5⟩:=link_17 (nw:=p.words.length) hi ho
      obtain ⟨hst,_⟩:=stepQ (m:=m) hcode hb (by omega) l3
      rw [execT_15f (i:=⟨15,6,(pK p.words.length (nth p.code t) i:Int),0⟩) (x:= { s'.view t with pc:=((pK p.words.length (nth p.code t) i+3:Nat):Int)+1 }) rfl h6] at hst
      refine ⟨s,hr, ?_⟩
      rw [hst]
      exact hrel.right hl' (hv.pcq _) (.A (i+1) (by rw [ha];simp) (by omega) (by rw [l4];show ((pK p.words.length (nth p.code t) i+3:Nat):Int)+1=_;omega))
    ·
      obtain ⟨_,l1,l4,l5⟩:=link_18 (nw:=p.words.length) hi ho
      obtain ⟨hst,hmv⟩:=stepQ (m:=m) hcode hb (by omega) l1
      rw [hmv] at hk
      have hla:=(hok.insR ht hi).1.o17 (.inr ho)
      obtain ⟨hst0,hmv0⟩:=stepQ (q:=p) (m:=m) rfl ha hi rfl
      have hk2:mvOK m (nth p.code t) (s.view t) 0=true:=by
        rw [hmv0];unfold ableL at hk⊢
        rw [if_pos (.inl rfl)] at hk
        rw [if_pos (.inr (.inr ho))]
        rw [hrel.wt t ht,List.length_map] at hk;exact hk
      have hnf0:=hnf _ _ _ hr ht hk2
      refine ⟨_, .step hr ht hk2 hnf0, ?_⟩
      rw [hst0] at hnf0
      rw [hst,hst0,unlock_ok ho hnf0 rfl,execT_9 (i:=⟨9,_,6,0⟩) rfl,show ({ s'.view t with pc:=((pK p.words.length (nth p.code t) i+1:Nat):Int)+1 } :TS).reg 6=0 from h6]
      have g:=(hv.pc ((i:Int)+1) (((pK p.words.length (nth p.code t) i+1:Nat):Int)+1)).store (m:=m) (L:=p.locks.toNat) ⟨hx.r,hx.w,hx.o,hx.wt⟩ (v:=⟨true,(nth (nth p.code t) i).a,0⟩) (by rw [if_pos rfl];exact hla)
      refine hrel.put hl hl' g ?_
      rw [(store_r _ _).2.1,(store_r _ _).2.1]
      exact .A (i+1) (by simp) (by omega) (by rw [l4];show ((pK p.words.length (nth p.code t) i+1:Nat):Int)+1=_;omega)
end
theorem MSt.putT_view {s:MSt}{t:Nat}(h:t<s.ths.length):s.putT t (s.view t)=s:=by
 cases s with
 |mk ths w o pr=>
  unfold MSt.putT MSt.view
  have:ths.set t ⟨(nth ths t).pc,(nth ths t).regs,(nth ths t).wait⟩=ths:=by
   refine ext_nth _ _ (by simp) fun i hi=> ?_
   rw [nth_set0]
   split
   ·rename_i e;rw [←e.1]
   ·rfl
  simp only [this]
theorem MSt.view_put {s:MSt}{t:Nat}{y:TS}(h:t<s.ths.length):(s.putT t y).view t= { y with fell:=false } :=by
 unfold MSt.view
 rw [putT_th h,if_pos rfl]
 rfl
theorem run1 {q:Pg}{m:Int}{s:MSt}{t j:Nat}{y:TS}{ins:Ins}{c:List Ins}(hc:nth q.code t=c)(ht:t<q.code.length)(hl:t<s.ths.length)(hr:Reach q m (s.putT t y))(hp:y.pc=(j:Int))(hj:j<c.length)(e:nth c j=ins)(hab:ableL y.owner y.wait.length ins=true){z:TS}
  (hz:execT m t ins { y with pc:=(j:Int)+1,fell:=false } =z) (hf:z.fell=false):Reach q m (s.putT t z):=by
 obtain ⟨h1,h2⟩:=stepQ (m:=m) (s:=s.putT t y) hc (by rw [putT_th hl,if_pos rfl];exact hp) hj e
 rw [MSt.view_put hl] at h1
 have h1' :stepT q m (s.putT t y) t 0=z:=h1.trans hz
 have:=Reach.step hr ht (k:=0) (by rw [hc,h2,putT_th hl,if_pos rfl];exact hab) (by rw [h1'];exact hf)
 rw [h1',putT_putT] at this
 exact this
section
variable {p:Pg}{m:Int}
theorem link_fwd (hok:OkPg p)(hq:OkPg (linkPg p))(hR:p.regs≤6)(hm:m=0∨m=1){s:MSt}(h:Reach p m s):∃s',Reach (linkPg p) m s' ∧RelK p (fun t a b _=>∃i:Nat,a=i∧i≤(nth p.code t).length∧b=(pK p.words.length (nth p.code t) i:Int)) s s' :=by
 induction h with
 |start=>exact ⟨_, .start,begin_relK hR fun t _ ht=>⟨0,rfl,Nat.zero_le _,by simp [pK,placeL]⟩⟩
 |step hr ht hk hf ih=>
  rename_i s t k
  obtain ⟨s',hr',hrel⟩:=ih
  have ht' :t<(linkPg p).code.length:=by rw [linkPg_len];exact ht
  have hcode:=linkPg_code ht
  have hl:=hr.len hok ht
  have hl' :=hr'.len hq ht'
  have hv:=hrel.view ht
  have hx:=XK.of ((hr.wf hok).th t ht)
  have hR6:p.regs.toNat≤6:=by omega
  have hlen8:(s'.view t).regs.length=8:=hrel.rl t ht
  by_cases hk0:0<k
  ·obtain ⟨h1,h2⟩:=wait_step hok hm hr hrel ht hk0 (nth p.code t) (linkL p.words.length (nth p.code t))
   obtain ⟨rfl,hw⟩:=h2 hk
   have hst:stepT (linkPg p) m s' t 1=doT m t (nth (linkPg p).code t) 1 (s'.view t):=rfl
   refine ⟨_, .step hr' ht' (by rw [hcode];exact h1.1 hk) (by rw [hst,doT1.2.2];rfl), ?_⟩
   refine hrel.put hl hl' (hv.move hx hw _ _) ?_
   rw [show stepT p m s t 1=doT m t (nth p.code t) 1 (s.view t) from rfl,hst,doT1.1,doT1.1]
   exact hrel.pc t ht
  obtain rfl:k=0:=by omega
  obtain ⟨i,ha,hi,hb⟩:=hrel.pc t ht
  have hlt:i<(nth p.code t).length:=by
   rcases mvOK_k hk with ⟨_,h1,_⟩|⟨h1,_⟩
   ·rw [show (s.view t).pc=(nth s.ths t).pc from rfl,ha] at h1;omega
   ·omega
  have hI:=hok.insR ht hlt
  obtain ⟨hst0,hmv0⟩:=stepQ (q:=p) (m:=m) rfl ha hlt rfl
  rw [hmv0] at hk
  have hwl:(s'.view t).wait.length=(nth s.ths t).wait.length:=by rw [hv.wt,List.length_map];rfl
  by_cases e17:(nth (nth p.code t) i).op=17
  ·obtain ⟨l0,l1,l2,l3,l4,l5⟩:=link_17 (nw:=p.words.length) hlt e17
   have hla:=hI.1.o17 (.inl e17)
   unfold ableL at hk
   rw [if_neg (by omega),if_neg (by omega),if_pos e17] at hk
   simp only [Bool.and_eq_true,decide_eq_true_eq] at hk
   have hr0:Reach (linkPg p) m (s'.putT t (s'.view t)):=by rw [MSt.putT_view hl'];exact hr'
   have hr1:=run1 hcode ht' hl' hr0 hb (by omega) l0 rfl (execT_1 rfl) rfl
   have hr2:=run1 hcode ht' hl' hr1 (j:=pK p.words.length (nth p.code t) i+1) (by show (pK _ _ _:Int)+1=_;simp) (by omega) l1 rfl (execT_1 rfl) rfl
   have hlk:=hv.lock hx hla
   have hg1:nth (((s'.view t).regs.set 6 0).set 7 1) 6=0:=(set_getn (by decide)).trans (set_get (by rw [hlen8];decide))
   have hg2:nth (((s'.view t).regs.set 6 0).set 7 1) 7=1:=set_get (by rw [List.length_set,hlen8];decide)
   have hr3:=run1 hcode ht' hl' hr2 (j:=pK p.words.length (nth p.code t) i+2) (by show ((pK p.words.length (nth p.code t) i+1:Nat):Int)+1=_;omega) (by omega) l2 (by show decide ((s'.view t).wait.length=0)=true;rw [hwl,hk.1];rfl)
    (z:= { s'.view t with pc:=((pK p.words.length (nth p.code t) i+2:Nat):Int)+1,words:=(s'.view t).words.set ((p.words.length:Int)+(nth (nth p.code t) i).a).toNat 1,regs:=(((s'.view t).regs.set 6 0).set 7 1).set 6 1 })
    ((execT_13t (i:=⟨13,(p.words.length:Int)+(nth (nth p.code t) i).a,6,7⟩) (x:= { s'.view t with pc:=((pK p.words.length (nth p.code t) i+2:Nat):Int)+1,regs:=((s'.view t).regs.set 6 0).set 7 1 }) rfl (hlk.trans (by show lkB (nth s.owner (nth (nth p.code t) i).a.toNat)=nth (((s'.view t).regs.set 6 0).set 7 1) 6;rw [hk.2,hg1];rfl))).trans
     (congrArg (fun v=>({ s'.view t with pc:=((pK p.words.length (nth p.code t) i+2:Nat):Int)+1,words:=(s'.view t).words.set ((p.words.length:Int)+(nth (nth p.code t) i).a).toNat v,regs:=(((s'.view t).regs.set 6 0).set 7 1).set 6 1 } :TS)) hg2)) rfl
   have hr4:=run1 hcode ht' hl' hr3 (j:=pK p.words.length (nth p.code t) i+3) (by show ((pK p.words.length (nth p.code t) i+2:Nat):Int)+1=_;omega) (by omega) l3 rfl
    (execT_15f (i:=⟨15,6,_,0⟩) rfl (by show¬nth ((((s'.view t).regs.set 6 0).set 7 1).set 6 1) 6=0;rw [set_get (by rw [List.length_set,List.length_set,hlen8];decide)];decide)) rfl
   refine ⟨_,hr4, ?_⟩
   rw [hst0,execT_17 e17]
   have g1:=(hv.pc ((i:Int)+1) ((pK p.words.length (nth p.code t) i:Int)+1)).putq (k:=6) hR6 0
   have g2:=(g1.putq (k:=7) (by omega) 1).take (L:=p.locks.toNat) ⟨hx.r,hx.w,hx.o,hx.wt⟩ hla t
   have g3:=g2.putq (k:=6) hR6 1
   exact hrel.put hl hl' ⟨g3.w,g3.p,g3.wt,g3.r,g3.rl⟩ ⟨i+1,by simp,by omega,by rw [l4];show ((pK p.words.length (nth p.code t) i+3:Nat):Int)+1=_;omega⟩
  by_cases e18:(nth (nth p.code t) i).op=18
  ·obtain ⟨l0,l1,l4,l5⟩:=link_18 (nw:=p.words.length) hlt e18
   have hla:=hI.1.o17 (.inr e18)
   have hf' :=hf
   rw [hst0] at hf'
   unfold ableL at hk
   rw [if_pos (.inr (.inr e18))] at hk
   have hr0:Reach (linkPg p) m (s'.putT t (s'.view t)):=by rw [MSt.putT_view hl'];exact hr'
   have hr1:=run1 hcode ht' hl' hr0 hb (by omega) l0 rfl (execT_1 rfl) rfl
   have hr2:=run1 hcode ht' hl' hr1 (j:=pK p.words.length (nth p.code t) i+1) (by show (pK _ _ _:Int)+1=_;simp) (by omega) l1 (by show decide ((s'.view t).wait.length<3)=true;rw [hwl];exact hk)
    (z:=TS.store m { s'.view t with pc:=((pK p.words.length (nth p.code t) i+1:Nat):Int)+1,regs:=(s'.view t).regs.set 6 0 } ⟨false,(p.words.length:Int)+(nth (nth p.code t) i).a,0⟩)
    ((execT_9 (i:=⟨9,(p.words.length:Int)+(nth (nth p.code t) i).a,6,0⟩) rfl).trans (congrArg (fun v=>TS.store m { s'.view t with pc:=((pK p.words.length (nth p.code t) i+1:Nat):Int)+1,regs:=(s'.view t).regs.set 6 0 } ⟨false,(p.words.length:Int)+(nth (nth p.code t) i).a,v⟩) (show nth ((s'.view t).regs.set 6 0) 6=0 from set_get (by rw [hlen8];decide)))) (by rw [(store_r _ _).2.2];rfl)
   refine ⟨_,hr2, ?_⟩
   rw [hst0,unlock_ok e18 hf' rfl]
   have g:=((hv.pc ((i:Int)+1) (((pK p.words.length (nth p.code t) i+1:Nat):Int)+1)).putq (k:=6) hR6 0).store (m:=m) (L:=p.locks.toNat) ⟨hx.r,hx.w,hx.o,hx.wt⟩ (v:=⟨true,(nth (nth p.code t) i).a,0⟩) (by rw [if_pos rfl];exact hla)
   refine hrel.put hl hl' g ⟨i+1, ?_,by omega, ?_⟩
   ·rw [(store_r _ _).2.1];simp
   ·rw [(store_r _ _).2.1,l4];show ((pK p.words.length (nth p.code t) i+1:Nat):Int)+1=_;omega
  obtain ⟨hst,hmv⟩:=stepQ (m:=m) hcode hb (pK_lt hlt) rfl
  have hsucc:=(link_o (nw:=p.words.length) hlt e17 e18).2
  by_cases e14:(nth (nth p.code t) i).op=14
  ·rw [link_14 hlt e14] at hst hmv
   rw [execT_jump e14] at hst
   have hj:=hI.2.1 e14
   refine ⟨_, .step hr' ht' (by rw [hcode,hmv];unfold ableL;simp [e14]) (by rw [hst];rfl), ?_⟩
   rw [hst,hst0,execT_14 e14]
   exact hrel.put hl hl' (hv.pc _ _) ⟨(nth (nth p.code t) i).a.toNat,by show (nth (nth p.code t) i).a=_;omega,by omega,rfl⟩
  by_cases e15:(nth (nth p.code t) i).op=15
  ·rw [link_15 hlt e15] at hst hmv
   have hj:=hI.2.2 e15
   have hreg:=hv.reg (hI.1.o15 (.inl e15))
   have hm2:mvOK m (nth (linkPg p).code t) (s'.view t) 0=true:=by rw [hcode,hmv];unfold ableL;simp [e15]
   by_cases hz:(s.view t).reg (nth (nth p.code t) i).a=0
   ·rw [execT_zt (x:= { s'.view t with pc:=(pK p.words.length (nth p.code t) i:Int)+1 }) e15 (by rw [←hreg] at hz;exact hz)] at hst
    refine ⟨_, .step hr' ht' hm2 (by rw [hst];rfl), ?_⟩
    rw [hst,hst0,execT_15t (x:= { s.view t with pc:=(i:Int)+1 }) e15 hz]
    exact hrel.put hl hl' (hv.pc _ _) ⟨(nth (nth p.code t) i).b.toNat,by show (nth (nth p.code t) i).b=_;omega,by omega,rfl⟩
   ·rw [execT_zf (x:= { s'.view t with pc:=(pK p.words.length (nth p.code t) i:Int)+1 }) e15 (by rw [←hreg] at hz;exact hz)] at hst
    refine ⟨_, .step hr' ht' hm2 (by rw [hst];rfl), ?_⟩
    rw [hst,hst0,execT_15f (x:= { s.view t with pc:=(i:Int)+1 }) e15 hz]
    exact hrel.put hl hl' (hv.pc _ _) ⟨i+1,by simp,by omega,by rw [hsucc];simp⟩
  rw [link_other hlt e14 e15 e17 e18] at hst hmv
  rw [hst0] at hf
  obtain ⟨g1,g2⟩:=(hv.pc ((i:Int)+1) ((pK p.words.length (nth p.code t) i:Int)+1)).exec (m:=m) (t:=t) (L:=p.locks.toNat) ⟨hx.r,hx.w,hx.o,hx.wt⟩ hR6 hI.1 e14 e15 e17 e18 hf rfl
  refine ⟨_, .step hr' ht' (by rw [hcode,hmv];exact (hv.able e17).trans hk) (by rw [hst];exact g2), ?_⟩
  rw [hst,hst0]
  refine hrel.put hl hl' g1 ?_
  rw [(execT_pc m t _ { s.view t with pc:=(i:Int)+1 } 0 e14 e15).2,(execT_pc m t _ { s'.view t with pc:=(pK p.words.length (nth p.code t) i:Int)+1 } 0 e14 e15).2]
  exact ⟨i+1,by simp,by omega,by rw [hsucc];simp⟩
theorem done_wait (x:TS)(w:Wt)(h:x.wait= []):({ ({ x with wait:= [w] } :TS).done w with wait:= [] } :TS)=x.done w:=by
 cases x;simp only at h;subst h;rfl
theorem step01 (hok:OkPg p){s:MSt}(hr0:Reach p 0 s)(hr:Reach p 1 s){t k:Nat}(ht:t<p.code.length)(hk:mvOK 0 (nth p.code t) (s.view t) k=true):k=0∧mvOK 1 (nth p.code t) (s.view t) 0=true∧((stepT p 0 s t 0).fell=true→(stepT p 1 s t 0).fell=true)∧((stepT p 0 s t 0).fell=false→Reach p 1 (s.putT t (stepT p 0 s t 0))):=by
 have hw:(s.view t).wait= []:=hr0.no_wait hok t ht
 have hl:=hr.len hok ht
 rcases mvOK_k hk with ⟨rfl,hlt,hab⟩|⟨h1,h2,_⟩
 case inr=>rw [hw] at h2;simp at h2;omega
 have hm:mvOK 1 (nth p.code t) (s.view t) 0=true:=mvOK_0 hlt hab
 refine ⟨rfl,hm, ?_⟩
 by_cases hs:isSt (nextIns (nth p.code t) (s.view t).pc).op
 ·have x0:=exec_st (m:=0) (t:=t) (x:= { s.view t with pc:=(s.view t).pc+1 }) hs hw
  have x1:=exec_st (m:=1) (t:=t) (x:= { s.view t with pc:=(s.view t).pc+1 }) hs hw
  rw [←stepT_e] at x0 x1
  by_cases hp:pendOK t (nextIns (nth p.code t) (s.view t).pc) (s.view t).regs (s.view t).words.length (s.view t).owner
  ·have e0:=x0.1 hp
   have e1:=x1.1 hp
   refine ⟨fun h=>(by rw [e0,(store_r _ _).2.2] at h;cases h),fun _=> ?_⟩
   have e1' :stepT p 1 s t 0= { ({ s.view t with pc:=(s.view t).pc+1 } :TS) with wait:= [pend (nextIns (nth p.code t) (s.view t).pc) (s.view t).regs] } :=by
    rw [e1];unfold TS.store;rw [if_pos (by decide)]
    show ({ ({ s.view t with pc:=(s.view t).pc+1 } :TS) with wait:=(s.view t).wait++ [_] } :TS)=_
    rw [hw];rfl
   have hr1:=Reach.step hr ht hm (by rw [e1'];rfl)
   rw [e1'] at hr1
   have hk1:mvOK 1 (nth p.code t) ((s.putT t ({ ({ s.view t with pc:=(s.view t).pc+1 } :TS) with wait:= [pend (nextIns (nth p.code t) (s.view t).pc) (s.view t).regs] })).view t) 1=true:=by
    rw [MSt.view_put hl];rfl
   have e2:stepT p 1 (s.putT t ({ ({ s.view t with pc:=(s.view t).pc+1 } :TS) with wait:= [pend (nextIns (nth p.code t) (s.view t).pc) (s.view t).regs] })) t 1=stepT p 0 s t 0:=by
    unfold stepT
    rw [MSt.view_put hl]
    refine Eq.trans ?_ ((done_wait _ (pend (nextIns (nth p.code t) (s.view t).pc) (s.view t).regs) (show ({ s.view t with pc:=(s.view t).pc+1 } :TS).wait= [] from hw)).trans ?_)
    ·rfl
    ·refine Eq.trans ?_ e0.symm
     unfold TS.store;rw [if_neg (by decide)]
   have hr2:=Reach.step hr1 ht hk1 (by rw [e2,e0,(store_r _ _).2.2];rfl)
   rw [e2,putT_putT] at hr2
   exact hr2
  ·have e0:=x0.2 hp
   exact ⟨fun _=>by rw [x1.2 hp],fun h=>by rw [e0] at h;cases h⟩
 ·have e:stepT p 0 s t 0=stepT p 1 s t 0:=by rw [stepT_e,stepT_e];exact (execT_keep hs).1
  refine ⟨fun h=>by rw [←e];exact h,fun h=> ?_⟩
  rw [e] at h⊢
  exact .step hr ht hm h
theorem reach01 (hok:OkPg p){s:MSt}(h:Reach p 0 s):Reach p 1 s:=by
 induction h with
 |start=>exact .start
 |step hr ht hk hf ih=>
  obtain ⟨rfl,_,_,h2⟩:=step01 hok hr ih ht hk
  exact h2 hf
theorem noFall (hok:OkPg p)(hm:m=0∨m=1)(h:∀o,Outs p 1 o→o.st≠1):NoFall p m:=by
 have h1:NoFall p 1:=fun s t k hr ht hk=>by
  cases hf:(stepT p 1 s t k).fell with
  |false=>rfl
  |true=>exact absurd rfl (h _ (.fell hr ht hk hf))
 rcases hm with rfl|rfl
 ·intro s t k hr ht hk
  obtain ⟨rfl,h2,h3,_⟩:=step01 hok hr (reach01 hok hr) ht hk
  cases hf:(stepT p 0 s t 0).fell with
  |false=>rfl
  |true=>rw [h1 s t 0 (reach01 hok hr) ht h2] at h3;exact absurd (h3 hf) (by decide)
 ·exact h1
theorem link_to (hok:OkPg p)(hq:OkPg (linkPg p))(hR:p.regs≤6)(hm:m=0∨m=1){w pr:List Int}(h:Outs p m ⟨0,w,pr⟩):∃l,Outs (linkPg p) m ⟨0,w++l,pr⟩:=by
 cases h with
 |done hr he=>
  rename_i s
  obtain ⟨s',hr',hrel⟩:=link_fwd hok hq hR hm hr
  have he2:=ended_iff.1 he
  have:ended (linkPg p) s' =true:=ended_iff.2 fun t ht=>by
   rw [linkPg_len] at ht
   obtain ⟨h1,h2⟩:=he2 t ht
   obtain ⟨i,ha,hi,hb⟩:=hrel.pc t ht
   rw [linkPg_code ht,hrel.wt t ht,List.length_map]
   refine ⟨?_,h2⟩
   rw [ha] at h1
   obtain rfl:i=(nth p.code t).length:=by omega
   rw [hb,pK_len];omega
  have h3:=Outs.done hr' this
  rw [hrel.w,hrel.pr] at h3
  exact ⟨_,h3⟩
theorem link_from (hok:OkPg p)(hq:OkPg (linkPg p))(hR:p.regs≤6)(hm:m=0∨m=1)(hnf:NoFall p m){w pr:List Int}(h:Outs (linkPg p) m ⟨0,w,pr⟩):Outs p m ⟨0,w.take p.words.length,pr⟩:=by
 cases h with
 |done hr' he=>
  rename_i s'
  obtain ⟨s,hr,hrel⟩:=link_bwd hok hq hR hm hnf hr'
  have he2:=ended_iff.1 he
  have:ended p s=true:=ended_iff.2 fun t ht=>by
   obtain ⟨h1,h2⟩:=he2 t (by rw [linkPg_len];exact ht)
   rw [linkPg_code ht] at h1
   rw [hrel.wt t ht,List.length_map] at h2
   refine ⟨?_,h2⟩
   rcases hrel.pc t ht with ⟨i,ha,hi,hb⟩|⟨i,ha,hi,ho,hb,h6⟩|⟨i,ha,hi,ho,hb,h6,h7⟩|⟨i,ha,hi,ho,hb,h6⟩|⟨i,ha,hi,ho,hb,h6⟩|⟨i,ha,hi,ho,hb,h6⟩
   ·rcases Nat.lt_or_ge i (nth p.code t).length with h|h
    ·have:=pK_lt (nw:=p.words.length) h;omega
    ·omega
   ·have:=(link_17 (nw:=p.words.length) hi ho).2.2.2.2.2;omega
   ·have:=(link_17 (nw:=p.words.length) hi ho).2.2.2.2.2;omega
   ·have:=(link_17 (nw:=p.words.length) hi ho).2.2.2.2.2;omega
   ·have:=(link_17 (nw:=p.words.length) hi ho).2.2.2.2.2;omega
   ·have:=(link_18 (nw:=p.words.length) hi ho).2.2.2;omega
  have h3:=Outs.done hr this
  rw [hrel.w,hrel.pr,List.take_left' (hr.wf hok).words]
  exact h3
end
theorem kl_ (op:Int)(h:∀k:Fin (kindsB op).size,(((kindsB op)[k.1]'k.2).toNat:Int)≠108)(k:Nat)(hk:k<(kindsB op).size):(((kindsB op)[k]).toNat:Int)≠108:=h ⟨k,hk⟩
theorem kind_l {op:Int}(h17:op≠17)(h18:op≠18)(k:Nat)(hk:k<(kindsB op).size):(((kindsB op)[k]).toNat:Int)≠108:=by
 by_cases hop:1≤op∧op≤18
 ·rcases cases18 op hop with rfl|rfl|rfl|rfl|rfl|rfl|rfl|rfl|rfl|rfl|rfl|rfl|rfl|rfl|rfl|rfl|rfl|rfl<;>first|exact absurd rfl h17|exact absurd rfl h18|exact kl_ _ (by decide+kernel) k hk
 ·have:(kindsB op).size=0:=by rw [kindsB_none op hop];rfl
  omega
section
variable {p q:Pg}{size size' :Int}{n:Int}
theorem fits_more {kind:Int}(hr:p.regs≤q.regs)(hw:p.words.length≤q.words.length)(h99:kind≠99)(h108:kind≠108)(h:fitsG p size kind n=true):fitsG q size' kind n=true:=by
 unfold fitsG at h⊢
 by_cases h1:kind=110
 ·rw [if_pos h1]
 rw [if_neg h1] at h⊢
 by_cases h2:kind=114
 ·simp only [h2,if_true,Bool.and_eq_true,decide_eq_true_eq] at h⊢;omega
 by_cases h3:kind=119
 ·simp only [h3,Int.reduceEq,if_true,if_false,Bool.and_eq_true,decide_eq_true_eq] at h⊢;omega
 simp only [h2,h3,h99,h108,if_false,Bool.and_eq_true,decide_eq_true_eq] at h;omega
theorem OkIns.more {x:Ins}(hr:p.regs≤q.regs)(hw:p.words.length≤q.words.length)(h14:x.op≠14)(h15:x.op≠15)(h17:x.op≠17)(h18:x.op≠18)(h:OkIns p size x):OkIns q size' x:=by
 have key:∀k,okNumG p size x k=true→okNumG q size' x k=true:=by
  intro k hk
  unfold okNumG at hk⊢
  split
  ·rename_i hh
   rw [dif_pos hh] at hk
   exact fits_more hr hw (kind_c h14 h15 k hh) (kind_l h17 h18 k hh) hk
  ·rename_i hh
   rw [dif_neg hh] at hk;exact hk
 exact ⟨h.op,key 0 h.n0,key 1 h.n1,key 2 h.n2⟩
theorem fit_r_mk (h:0≤n∧n<p.regs):fitsG p size 114 n=true:=by
 unfold fitsG
 simp only [Int.reduceEq,if_false,if_true,Bool.and_eq_true,decide_eq_true_eq]
 exact h
theorem fit_w_mk (h:0≤n∧n<p.words.length):fitsG p size 119 n=true:=by
 unfold fitsG
 simp only [Int.reduceEq,if_false,if_true,Bool.and_eq_true,decide_eq_true_eq]
 exact h
theorem fit_n_mk :fitsG p size 110 n=true:=by unfold fitsG;rw [if_pos rfl]
theorem num2_iff {x:Ins}{a b c:UInt8}{r:List UInt8}(hk:kindsB x.op=⟨(a::b::c::r).toArray⟩):okNumG p size x 2=fitsG p size (c.toNat:Int) x.c:=by
 unfold okNumG
 rw [hk,dif_pos (by simp [ByteArray.size])];rfl
theorem ok_const {a v:Int}(ha:0≤a∧a<p.regs):OkIns p size ⟨1,a,v,0⟩:=by
 have k:kindsB (⟨1,a,v,0⟩:Ins).op=⟨[114,110].toArray⟩:=by show kindsB 1=_;unfold kindsB;simp
 exact ⟨⟨show (1:Int)≤1 by decide,show (1:Int)≤18 by decide⟩,by rw [num0_iff k];exact fit_r_mk ha,by rw [num1_iff k];exact fit_n_mk,by rw [num_no (by rw [k];decide)];rfl⟩
theorem ok_cas {a b c:Int}(ha:0≤a∧a<p.words.length)(hb:0≤b∧b<p.regs)(hc:0≤c∧c<p.regs):OkIns p size ⟨13,a,b,c⟩:=by
 have k:kindsB (⟨13,a,b,c⟩:Ins).op=⟨[119,114,114].toArray⟩:=by show kindsB 13=_;unfold kindsB;simp
 exact ⟨⟨show (1:Int)≤13 by decide,show (13:Int)≤18 by decide⟩,by rw [num0_iff k];exact fit_w_mk ha,by rw [num1_iff k];exact fit_r_mk hb,by rw [num2_iff k];exact fit_r_mk hc⟩
theorem ok_store {a b:Int}(ha:0≤a∧a<p.words.length)(hb:0≤b∧b<p.regs):OkIns p size ⟨9,a,b,0⟩:=by
 have k:kindsB (⟨9,a,b,0⟩:Ins).op=⟨[119,114].toArray⟩:=by show kindsB 9=_;unfold kindsB;simp
 exact ⟨⟨show (1:Int)≤9 by decide,show (9:Int)≤18 by decide⟩,by rw [num0_iff k];exact fit_w_mk ha,by rw [num1_iff k];exact fit_r_mk hb,by rw [num_no (by rw [k];decide)];rfl⟩
theorem ok_zero {a b:Int}(ha:0≤a∧a<p.regs)(hs:0≤size∧size≤100000)(hb:0≤b∧b≤size):OkIns p size ⟨15,a,b,0⟩:=by
 have k:kindsB (⟨15,a,b,0⟩:Ins).op=⟨[114,99].toArray⟩:=by show kindsB 15=_;unfold kindsB;simp
 exact ⟨⟨show (1:Int)≤15 by decide,show (15:Int)≤18 by decide⟩,by rw [num0_iff k];exact fit_r_mk ha,by rw [num1_iff k];exact fit_c_mk hs hb,by rw [num_no (by rw [k];decide)];rfl⟩
end
theorem linkPg_ok {p:Pg}(h:OkPg p)(hR:p.regs≤6)(hw:(p.words.length:Int)+p.locks≤64)(hs:∀t,t<p.code.length→(linkL p.words.length (nth p.code t)).length≤400):OkPg (linkPg p):=by
 have hlk:=h.locks
 have hrg:=h.regs
 have hwl:(linkPg p).words.length=p.words.length+p.locks.toNat:=by simp [linkPg]
 have hq8:(linkPg p).regs=8:=rfl
 refine ⟨by rw [linkPg_len];exact h.code,by omega,⟨show (0:Int)≤0 by decide,show (0:Int)≤4 by decide⟩,⟨show (1:Int)≤8 by decide,show (8:Int)≤200 by decide⟩,fun t ht=> ?_,fun t j ht hj=> ?_⟩
 ·rw [linkPg_len] at ht
  rw [linkPg_code ht];exact hs t ht
 ·rw [linkPg_len] at ht
  rw [linkPg_code ht] at hj⊢
  have hsz:=hs t ht
  obtain ⟨i,k,hi,hk,e⟩:=moved_from (linkR p.words.length) (nth p.code t) _ (Nat.le_refl _) j (by rw [pK_len] at hj;exact hj)
  have e' :j=pK p.words.length (nth p.code t) i+k:=e
  have ho:=h.ins t i ht hi
  have hI:=h.insR ht hi
  by_cases e17:(nth (nth p.code t) i).op=17
  ·obtain ⟨l0,l1,l2,l3,l4,l5⟩:=link_17 (nw:=p.words.length) hi e17
   have hla:=hI.1.o17 (.inl e17)
   rw [linkR_17 e17] at hk
   have hk4:k<4:=hk
   rw [e']
   rcases k with _|_|_|_|k
   ·rw [Nat.add_zero,l0];exact ok_const (by rw [hq8];decide)
   ·rw [l1];exact ok_const (by rw [hq8];decide)
   ·rw [l2];exact ok_cas (by rw [hwl];omega) (by rw [hq8];decide) (by rw [hq8];decide)
   ·rw [l3];exact ok_zero (by rw [hq8];decide) ⟨by omega,by omega⟩ ⟨by omega,by omega⟩
   ·omega
  by_cases e18:(nth (nth p.code t) i).op=18
  ·obtain ⟨l0,l1,l4,l5⟩:=link_18 (nw:=p.words.length) hi e18
   have hla:=hI.1.o17 (.inr e18)
   rw [linkR_18 e18] at hk
   have hk2:k<2:=hk
   rw [e']
   rcases k with _|_|k
   ·rw [Nat.add_zero,l0];exact ok_const (by rw [hq8];decide)
   ·rw [l1];exact ok_store (by rw [hwl];omega) (by rw [hq8];decide)
   ·omega
  rw [linkR_o e17 e18] at hk
  obtain rfl:k=0:=by simpa using hk
  rw [e',Nat.add_zero]
  by_cases e14:(nth (nth p.code t) i).op=14
  ·have ha:=hI.2.1 e14
   rw [link_14 hi e14]
   exact OkIns.jump e14 ho ⟨by omega,by omega⟩ ⟨by omega,by have:=pK_le (nw:=p.words.length) (c:=nth p.code t) (i:=(nth (nth p.code t) i).a.toNat) (by omega);omega⟩
  by_cases e15:(nth (nth p.code t) i).op=15
  ·have hb:=hI.2.2 e15
   have ha:=hI.1.o15 (.inl e15)
   have h0:=ho.n2
   rw [num_no (by rw [e15];decide+kernel)] at h0
   have hc:(nth (nth p.code t) i).c=0:=by simpa [Ins.num] using h0
   rw [link_15 hi e15,show ({ nth (nth p.code t) i with b:=(pK p.words.length (nth p.code t) (nth (nth p.code t) i).b.toNat:Int) } :Ins)=⟨15,(nth (nth p.code t) i).a,(pK p.words.length (nth p.code t) (nth (nth p.code t) i).b.toNat:Int),0⟩ by rw [←e15,←hc]]
   exact ok_zero (by rw [hq8];omega) ⟨by omega,by omega⟩ ⟨by omega,by have:=pK_le (nw:=p.words.length) (c:=nth p.code t) (i:=(nth (nth p.code t) i).b.toNat) (by omega);omega⟩
  rw [link_other hi e14 e15 e17 e18]
  exact OkIns.more (by rw [hq8];omega) (by rw [hwl];omega) e14 e15 e17 e18 ho
theorem outs_lenK {p:Pg}{m:Int}(hok:OkPg p){w pr:List Int}(h:Outs p m ⟨0,w,pr⟩):w.length=p.words.length:=by
 cases h with
 |done hr _=>exact (hr.wf hok).words
end Go.Proofs.YtmjkobhkkjgplaaGreatDoor
namespace Go.Proofs.YtmjkobhkkjgplaaGreatDoor
open Go.ChangeShapes Go.WideShapes Go.ChangeAt Go.RowKit
open Go.Deep (open_slice)
set_option linter.unusedSimpArgs false
set_option linter.unusedVariables false
class Rd (α:Type) extends Enc α where
 ty:Program→TypeId→Prop
 fine:α→Prop
 read:∀ {H:Type} {enc:TypeId×Value→H} {P:Program} {w:World} {base:Nat} {spare:Nat→Bool} {held:Bool} {fuel:Nat} {T:TypeId} {cs:List Value} {x:DataW H×List MemPlace},
  ty P T→DataW.trod enc P w base spare held fuel T cs=some x→(∀n∈DataW.weights P T x.1,n≤reachBytes)→∃a:α,cs=cellsOf a∧Enc.inner a w∧fine a
instance : Rd Int where
 ty P T:=P.underlying T=some (.int .i64)
 fine n:=(Lit.int .i64 n).wf=true
 read hT h _:=by
  obtain ⟨n,rfl,_,hw⟩:=DataW.trod_int hT h
  exact ⟨n,rfl,trivial,hw⟩
instance : Rd Bool where
 ty P T:=P.underlying T=some .bool
 fine _:=True
 read hT h _:=by
  obtain ⟨b,rfl,_⟩:=DataW.trod_bool hT h
  exact ⟨b,rfl,trivial,trivial⟩
def intFields (P:Program)(fs:Array Field)(n:Nat):Prop:=fs.size=n∧∀(j:Nat) (f:Field),fs[j]? =some f→f.offset=j∧P.underlying f.type=some (.int .i64)∧P.cellsOf f.type=1
theorem read_ints {H:Type}{enc:TypeId×Value→H}{P:Program}{w:World}{base:Nat}{spare:Nat→Bool}{held:Bool}{fuel:Nat}{T:TypeId}{cs:List Value}{x:DataW H×List MemPlace}{fs:Array Field}{n:Nat}
  (hT:P.underlying T=some (.struct fs)) (hfs:intFields P fs n) (hC:P.cellsOf T=n) (h:DataW.trod enc P w base spare held fuel T cs=some x):
  cs.length=n∧∀j,j<n→∃k:Int,cs[j]? =some (.int .i64 k)∧(Lit.int .i64 k).wf=true:=by
 obtain ⟨xs,m,_,_,hlen,hxl,hf⟩:=DataW.trod_struct hT h
 refine ⟨hlen.trans hC,fun j hj=> ?_⟩
 obtain ⟨hs,hall⟩:=hfs
 have hjs:j<fs.size:=by omega
 obtain ⟨ho,ht,hc⟩:=hall j fs[j] (by simp [hjs])
 have h1:=hf j fs[j] (by simp [hjs])
 rw [ho,hc,List.getElem?_eq_getElem (by omega)] at h1
 obtain ⟨k,hk,_,hw⟩:=DataW.trod_int ht h1
 refine ⟨k, ?_,hw⟩
 rw [List.drop_eq_getElem_cons (by omega)] at hk
 simp only [List.take_succ_cons,List.take_zero,List.cons.injEq,and_true] at hk
 rw [List.getElem?_eq_getElem (by omega),hk]
instance : Rd Ins where
 ty P T:=∃fs,P.underlying T=some (.struct fs)∧intFields P fs 4∧P.cellsOf T=4
 fine x:=(Lit.int .i64 x.op).wf=true∧(Lit.int .i64 x.a).wf=true∧(Lit.int .i64 x.b).wf=true∧(Lit.int .i64 x.c).wf=true
 read:=by
  rintro H enc P w base spare held fuel T cs x ⟨fs,hT,hfs,hC⟩ h _
  obtain ⟨hl,hj⟩:=read_ints hT hfs hC h
  obtain ⟨k0,e0,w0⟩:=hj 0 (by omega)
  obtain ⟨k1,e1,w1⟩:=hj 1 (by omega)
  obtain ⟨k2,e2,w2⟩:=hj 2 (by omega)
  obtain ⟨k3,e3,w3⟩:=hj 3 (by omega)
  match cs,hl with
  | [c0,c1,c2,c3],_=>
   simp only [List.getElem?_cons_zero,List.getElem?_cons_succ,Option.some.injEq] at e0 e1 e2 e3
   subst e0 e1 e2 e3
   exact ⟨⟨k0,k1,k2,k3⟩,rfl,trivial,w0,w1,w2,w3⟩
theorem weights_slice {H:Type}{P:Program}{T e:TypeId}{elems spare:List (DataW H)}(hT:P.underlying T=some (.slice e))(h:∀n∈DataW.weights P T (.slice elems spare),n≤reachBytes):
  (elems.length+spare.length)*P.bytesOf e≤reachBytes∧∀d∈elems,∀n∈DataW.weights P e d,n≤reachBytes:=by
 unfold DataW.weights at h
 rw [hT] at h
 refine ⟨h _ (by simp),fun d hd n hn=>h n ?_⟩
 have:∀l:List (DataW H),d∈l→n∈DataW.weightsAll P e l:=by
  intro l hl
  induction l with
  |nil=>cases hl
  |cons y l ih=>
   unfold DataW.weightsAll
   rcases List.mem_cons.1 hl with rfl|hl
   ·exact List.mem_append.2 (.inl hn)
   ·exact List.mem_append.2 (.inr (ih hl))
 simp only [List.mem_cons,List.mem_append]
 exact .inr (.inl (this _ hd))
instance {α:Type}[Rd α]:Rd (Sl α) where
 ty P T:=∃e,P.underlying T=some (.slice e)∧P.cellsOf e=Enc.sz α∧1≤P.bytesOf e∧0<Enc.sz α∧Rd.ty α P e
 fine s:=∀i,i<s.l.length→Rd.fine (nth s.l i)
 read:=by
  rintro H enc P w base spare held fuel T cs x ⟨e,hT,hC,hB,hpos,hty⟩ h hw
  rcases open_slice hT h with ⟨rfl,rfl⟩|⟨a,len,cap,m,n,D,Pl,rfl,_,hl,hm,hmm,rfl,hi⟩
  ·refine ⟨⟨none,0, []⟩,rfl,⟨Nat.le_refl _,by simp,by simp,fun hh=>absurd hh (by simp),fun hh=>absurd hh (by simp),fun i j hi=>absurd hi (by simp),fun i hi=>absurd hi (by simp)⟩,fun i hi=>absurd hi (by simp)⟩
  ·obtain ⟨hb,hd⟩:=weights_slice hT hw
   have hlm:len≤m:=by rw [hmm];split<;>omega
   have hlen:len≤140737488355328:=by
    simp only [List.length_map,List.length_range,reachBytes] at hb
    have:(len+(m-len))*1≤(len+(m-len))*P.bytesOf e:=Nat.mul_le_mul_left _ hB
    omega
   have key:∀i,i<len→∃y:α,(∀j,j<Enc.sz α→w.cell? ((a.add (i*Enc.sz α)).add j)=some (Enc.cell y j))∧Enc.inner y w∧Rd.fine y:=by
    intro i hil
    obtain ⟨cs',hc',ht'⟩:=hi i (by omega)
    obtain ⟨y,hy,hin,hf⟩:=Rd.read hty ht' (hd _ (List.mem_map.2 ⟨i,by simpa using hil,rfl⟩))
    obtain ⟨_,hcl,hat⟩:=World.cells?_some hc'
    rw [hC] at hc' hat hcl
    refine ⟨y,fun j hj=> ?_,hin,hf⟩
    rw [hat j (by first|exact hj|omega)]
    subst hy
    simp [cellsOf,hj]
   obtain ⟨F,hF⟩:=Go.Deep.choose_lt key
   let l:=(List.range len).map F
   have hll:l.length=len:=by simp [l]
   have hn:∀i,i<len→nth l i=F i:=by intro i hil;simp [nth,l,hil]
   have hcell0:0<len→∃v,w.cell? a=some v:=fun h0=>⟨_,by
    have h1:=(hF 0 h0).1 0 hpos
    rw [Nat.zero_mul,Addr.add_zero',Addr.add_zero'] at h1
    exact h1⟩
   have hspot:0<len→a.spot=none:=by
    intro h0
    obtain ⟨v,hv⟩:=hcell0 h0
    unfold World.cell? at hv
    split at hv
    ·split at hv
     ·cases hv
     ·rename_i hs
      simpa using hs
    ·cases hv
   refine ⟨⟨some a,cap,l⟩,by simp [cellsOf,Enc.cell,Enc.sz,hll],⟨by rw [hll];exact hl,hm,by rw [hll];exact hlen, ?_, ?_, ?_, ?_⟩, ?_⟩
   ·intro h0
    exact ⟨a,rfl,hspot (by rw [←hll];exact h0)⟩
   ·intro h0
    obtain ⟨v,hv⟩:=hcell0 (by rw [←hll];exact h0)
    exact World.block_lt_of_cell? w a hv
   ·intro i j hi' hj
    rw [hll] at hi'
    show w.cell? ⟨a.block,a.off+i*Enc.sz α+j,none⟩=some (Enc.cell (nth l i) j)
    rw [hn i hi',←(hF i hi').1 j hj]
    have hs:=hspot (by omega)
    rcases a with ⟨b,o,sp⟩
    simp only at hs
    subst hs
    rw [Addr.add_lit,Addr.add_lit]
   ·intro i hi'
    rw [hll] at hi'
    rw [hn i hi']
    exact (hF i hi').2.1
   ·intro i hi'
    rw [hll] at hi'
    rw [hn i hi']
    exact (hF i hi').2.2
def prFields (P:Program)(fs:Array Field):Prop:=
 ∃f0 f1 f2 f3:Field,fs= #[f0,f1,f2,f3]∧(f0.offset=0∧P.cellsOf f0.type=1∧Rd.ty (Sl (Sl Ins)) P f0.type)∧(f1.offset=1∧P.cellsOf f1.type=1∧Rd.ty (Sl Int) P f1.type)∧
  (f2.offset=2∧P.cellsOf f2.type=1∧Rd.ty Int P f2.type)∧(f3.offset=3∧P.cellsOf f3.type=1∧Rd.ty Int P f3.type)
def PR.fine (p:PR):Prop:=Rd.fine p.code∧Rd.fine p.words∧(Lit.int .i64 p.locks).wf=true∧(Lit.int .i64 p.regs).wf=true
theorem weights_agg {H:Type}{P:Program}{T:TypeId}{f0 f1 f2 f3:Field}{d0 d1 d2 d3:DataW H}(hT:P.underlying T=some (.struct #[f0,f1,f2,f3]))(h:∀n∈DataW.weights P T (.agg [d0,d1,d2,d3]),n≤reachBytes):
  (∀n∈DataW.weights P f0.type d0,n≤reachBytes)∧(∀n∈DataW.weights P f1.type d1,n≤reachBytes)∧(∀n∈DataW.weights P f2.type d2,n≤reachBytes)∧(∀n∈DataW.weights P f3.type d3,n≤reachBytes):=by
 unfold DataW.weights at h
 rw [hT] at h
 simp only [List.map_cons,List.map_nil,DataW.weightsEach,List.append_nil,List.mem_append] at h
 exact ⟨fun n hn=>h n (.inl hn),fun n hn=>h n (.inr (.inl hn)),fun n hn=>h n (.inr (.inr (.inl hn))),fun n hn=>h n (.inr (.inr (.inr hn)))⟩
theorem open_PR {H:Type}{enc:TypeId×Value→H}{P:Program}{w:World}{base:Nat}{spare:Nat→Bool}{held:Bool}{r:Go.Reach}{b0:Nat}{T:TypeId}{fs:Array Field}{v:Value}{d:DataW H}{p:List MemPlace}
  (hT:P.underlying T=some (.struct fs)) (hfs:prFields P fs) (hC:P.cellsOf T=4) (hv:Value.okWide P w r b0 T v) (h:DataW.Trod enc P w base spare held T v d p) (hw:∀n∈DataW.weights P T d,n≤reachBytes):
  ∃q:PR,v=q.val∧q.At w∧q.fine:=by
 obtain ⟨f0,f1,f2,f3,rfl,⟨o0,c0,t0⟩,⟨o1,c1,t1⟩,⟨o2,c2,t2⟩,⟨o3,c3,t3⟩⟩:=hfs
 obtain ⟨cs,rfl,hsz⟩:=okWide_struct hT hv
 obtain ⟨l⟩:=cs
 match l,hsz.trans hC with
 | [v0,v1,v2,v3],_=>
  obtain ⟨fuel,hf⟩:=h
  obtain ⟨xs,n,_,hx,_,hlen,hg⟩:=DataW.trod_struct hT hf
  match xs,hlen with
  | [y0,y1,y2,y3],_=>
   simp only [Prod.mk.injEq,List.map_cons,List.map_nil] at hx
   rw [hx.1] at hw
   obtain ⟨w0,w1,w2,w3⟩:=weights_agg hT hw
   have g0:=hg 0 f0 rfl
   have g1:=hg 1 f1 rfl
   have g2:=hg 2 f2 rfl
   have g3:=hg 3 f3 rfl
   rw [o0,c0] at g0
   rw [o1,c1] at g1
   rw [o2,c2] at g2
   rw [o3,c3] at g3
   simp [Value.cells] at g0 g1 g2 g3
   obtain ⟨s0,e0,i0,k0⟩:=Rd.read t0 g0 w0
   obtain ⟨s1,e1,i1,k1⟩:=Rd.read t1 g1 w1
   obtain ⟨s2,e2,i2,k2⟩:=Rd.read t2 g2 w2
   obtain ⟨s3,e3,i3,k3⟩:=Rd.read t3 g3 w3
   simp [cellsOf,Enc.cell,Enc.sz] at e0 e1 e2 e3
   subst e0 e1 e2 e3
   exact ⟨⟨s0,s1,s2,s3⟩,rfl,⟨i0,i1⟩,k0,k1,k2,k3⟩
end Go.Proofs.YtmjkobhkkjgplaaGreatDoor
namespace Go.Proofs.YtmjkobhkkjgplaaGreatDoor
open Go.ChangeShapes Go.WideShapes Go.ChangeAt Go.RowKit
set_option linter.unusedSimpArgs false
set_option linter.unusedVariables false
theorem own :ownKnob Tryz.prog.godebug=none:=by kernel_rfl
theorem laidOut :laidOutB Tryz.prog=true:=by kernel_rfl
theorem ty_int :Rd.ty Int Tryz.prog 3:=Tryz.underlying3
theorem ty_ins :Rd.ty Ins Tryz.prog 32:=by
 refine ⟨_,Tryz.underlying32,⟨rfl,fun j f hf=> ?_⟩,by kernel_rfl⟩
 rcases j with _|_|_|_|j<;>simp at hf<;>subst hf<;>exact ⟨rfl,Tryz.underlying3,by kernel_rfl⟩
theorem ty_ints :Rd.ty (Sl Int) Tryz.prog 23:=⟨_,Tryz.underlying23,by kernel_rfl,of_decide_eq_true (by kernel_rfl),by decide,ty_int⟩
theorem ty_code :Rd.ty (Sl Ins) Tryz.prog 33:=⟨_,Tryz.underlying33,by kernel_rfl,of_decide_eq_true (by kernel_rfl),by decide,ty_ins⟩
theorem ty_codes :Rd.ty (Sl (Sl Ins)) Tryz.prog 22:=⟨_,Tryz.underlying22,by kernel_rfl,of_decide_eq_true (by kernel_rfl),by decide,ty_code⟩
theorem ty_pr :∃fs,Tryz.prog.underlying 25=some (.struct fs)∧prFields Tryz.prog fs:=
 ⟨_,Tryz.underlying25,_,_,_,_,rfl,⟨rfl,by kernel_rfl,ty_codes⟩,⟨rfl,by kernel_rfl,ty_ints⟩,⟨rfl,by kernel_rfl,ty_int⟩,⟨rfl,by kernel_rfl,ty_int⟩⟩
section
variable {α:Type}[Enc α]
def ofSl (s:Sl α):Ls α:=⟨.slice s.A s.l.length s.cap,s.l⟩
theorem ofSl_at {s:Sl α}{w:World}(h:s.At w):(ofSl s).At w:=⟨s.A,s.cap,rfl,h⟩
def ofSl2 (s:Sl (Sl α)):Ls (Ls α):=⟨.slice s.A s.l.length s.cap,s.l.map ofSl⟩
theorem ofSl2_at {s:Sl (Sl α)}{w:World}(h:s.At w):(ofSl2 s).At w:=by
 refine ⟨s.A,s.cap,by simp [ofSl2],⟨by simpa [ofSl2] using h.le,h.max,by simpa [ofSl2] using h.len,by simpa [ofSl2] using h.some,by simpa [ofSl2] using h.lt',fun i j hi hj=> ?_,fun i hi=> ?_⟩⟩
 ·have hi' :i<s.l.length:=by simpa [ofSl2] using hi
  show w.cell? _=some (Enc.cell (nth (s.l.map ofSl) i) j)
  rw [nth_map' ofSl _ _ hi']
  exact h.cell i j hi' hj
 ·have hi' :i<s.l.length:=by simpa [ofSl2] using hi
  show Enc.inner (nth (s.l.map ofSl) i) w
  rw [nth_map' ofSl _ _ hi']
  exact ofSl_at (h.inner i hi')
end
end Go.Proofs.YtmjkobhkkjgplaaGreatDoor
namespace Go.Proofs.YtmjkobhkkjgplaaGreatDoor
open Go.RowKit
set_option linter.unusedSimpArgs false
set_option linter.unusedVariables false
set_option maxRecDepth 100000
set_option maxHeartbeats 20000000
theorem take_hund {β:Type}{l:List β}{t:Nat}(h1:t≤l.length)(h2:t≤100)(h3:¬(t<l.length∧t<100)):l.take 100=l.take t:=by
 rcases Nat.lt_or_ge t 100 with h|h
 ·rw [List.take_of_length_le (by omega),List.take_of_length_le (by omega)]
 ·rw [show t=100 by omega]
theorem spin_q9 {code c:Ls (Ls Ins)}{words u:Ls Int}{Lk R:Nat}(hok:OkPg (pgN code words Lk R))(hr:(R:Int)≤6)(hs:(words.l.length:Int)+(Lk:Int)≤64)(hsh:∀j,j<code.l.length→(linkL words.l.length (nth code.l j).l).length≤400)
  (hq:c.l.map (·.l)=(code.l.map (·.l)).map (linkL words.l.length)) (hu:u.l=words.l++List.replicate (Lk:Int).toNat 0):pgN c u 0 8=linkPg (pgN code words Lk R)∧OkPg (pgN c u 0 8):=by
 have e:pgN c u 0 8=linkPg (pgN code words Lk R):=by unfold pgN pgOf linkPg;rw [hq,hu];rfl
 refine ⟨e, ?_⟩
 rw [e]
 exact linkPg_ok hok hr hs fun t ht=>by
  rw [pgN_len] at ht
  rw [pgN_code ht];exact hsh t ht
theorem linkPg_r {p:Pg}(h:OkPg p)(hP:PgR p)(hs:∀t,t<p.code.length→(linkL p.words.length (nth p.code t)).length≤400):PgR (linkPg p):=by
 refine ⟨fun c hc x hx=> ?_,fun n hn=> ?_⟩
 ·obtain ⟨t,ht,rfl⟩:=List.mem_iff_getElem.1 hc
  have ht' :t<p.code.length:=by rw [linkPg_len] at ht;exact ht
  rw [←nth_lt _ _ ht,linkPg_code ht'] at hx
  obtain ⟨j,hj,rfl⟩:=List.mem_iff_getElem.1 hx
  rw [←nth_lt _ _ hj]
  have hsz:=hs t ht'
  have hwl:=h.words
  obtain ⟨i,k,hi,hk,e⟩:=moved_from (linkR p.words.length) (nth p.code t) _ (Nat.le_refl _) j (by rw [pK_len] at hj;exact hj)
  have e' :j=pK p.words.length (nth p.code t) i+k:=e
  have h0:R64I (nth (nth p.code t) i):=hP.code _ (nth_mem _ _ ht') _ (nth_mem _ _ hi)
  have hI:=h.insR ht' hi
  have hlk:=h.locks
  by_cases e17:(nth (nth p.code t) i).op=17
  ·obtain ⟨l0,l1,l2,l3,l4,l5⟩:=link_17 (nw:=p.words.length) hi e17
   have hla:=hI.1.o17 (.inl e17)
   rw [linkR_17 e17] at hk
   have hk4:k<4:=hk
   rw [e']
   rcases k with _|_|_|_|k
   ·rw [Nat.add_zero,l0];exact ⟨by unfold R64;simp,by unfold R64;simp,by unfold R64;simp⟩
   ·rw [l1];exact ⟨by unfold R64;simp,by unfold R64;simp,by unfold R64;simp⟩
   ·rw [l2];exact ⟨by unfold R64;simp only;omega,by unfold R64;simp,by unfold R64;simp⟩
   ·rw [l3];exact ⟨by unfold R64;simp,by unfold R64;simp only;omega,by unfold R64;simp⟩
   ·omega
  by_cases e18:(nth (nth p.code t) i).op=18
  ·obtain ⟨l0,l1,l4,l5⟩:=link_18 (nw:=p.words.length) hi e18
   have hla:=hI.1.o17 (.inr e18)
   rw [linkR_18 e18] at hk
   have hk2:k<2:=hk
   rw [e']
   rcases k with _|_|k
   ·rw [Nat.add_zero,l0];exact ⟨by unfold R64;simp,by unfold R64;simp,by unfold R64;simp⟩
   ·rw [l1];exact ⟨by unfold R64;simp only;omega,by unfold R64;simp,by unfold R64;simp⟩
   ·omega
  rw [linkR_o e17 e18] at hk
  obtain rfl:k=0:=by simpa using hk
  rw [e',Nat.add_zero]
  have hn:∀q:Nat,q≤(nth p.code t).length→R64 (pK p.words.length (nth p.code t) q:Int):=fun q hq=>by
   have:=pK_le (nw:=p.words.length) (c:=nth p.code t) (i:=q) hq
   unfold R64;omega
  by_cases e14:(nth (nth p.code t) i).op=14
  ·have ha:=hI.2.1 e14
   rw [link_14 hi e14];exact ⟨hn _ (by omega),h0.2⟩
  by_cases e15:(nth (nth p.code t) i).op=15
  ·have hb:=hI.2.2 e15
   rw [link_15 hi e15];exact ⟨h0.1,hn _ (by omega),h0.2.2⟩
  rw [link_other hi e14 e15 e17 e18];exact h0
 ·have hn2:n∈p.words++List.replicate p.locks.toNat 0:=hn
  rcases List.mem_append.1 hn2 with h1|h1
  ·exact hP.words n h1
  ·obtain rfl:=(List.mem_replicate.1 h1).2
   unfold R64;omega
def lkP :Pg:=⟨[[⟨17,0,0,0⟩,⟨18,0,0,0⟩]], [],1,1⟩
theorem lk_pg {code:Ls (Ls Ins)}{words:Ls Int}(hc:code.l.map (·.l)=lkP.code)(hw:words.l= []):pgOf code words 1 1=lkP:=by
 simp only [pgOf,hc,hw]
 rfl
theorem lk_w {code:Ls (Ls Ins)}(hc:code.l.map (·.l)=lkP.code):code.l.length=1∧(linkL 0 (nth code.l 0).l).length=6:=by
 obtain ⟨v,l⟩:=code
 rcases l with _|⟨⟨w,k⟩,_|⟨b,r⟩⟩
 ·cases hc
 ·have:k= [⟨17,0,0,0⟩,⟨18,0,0,0⟩]:=by simpa [lkP] using hc
  subst this
  exact ⟨rfl,by kernel_rfl⟩
 ·simp [lkP] at hc
theorem linkT (code:Ls (Ls Ins))(words:Ls Int)(W:World)(hcode:code.At W)(hwords:words.At W)(hc:code.l.map (·.l)=lkP.code)(hw:words.l= []):
  Rets Tryz.prog 16 [.agg #[code.v,words.v, .int .i64 1, .int .i64 1]] W (fun v w' =>∃(c:Ls (Ls Ins)) (u:Ls Int),v= .tuple #[.agg #[c.v,u.v, .int .i64 0, .int .i64 8], .agg #[.int .i64 0, .int .i64 0, .int .i64 0]]∧(c.l.length=1∧(nth c.l 0).l.length=6∧u.l.length=1)∧Sh0 W w' [.deep 33 c, .own 3 u]):=by
 have e:=lk_pg hc hw
 obtain ⟨h1,h2⟩:=lk_w hc
 refine Rets.mono (link_k code words 1 1 W hcode hwords (by rw [e];exact checkG_code_pos.1 (by kernel_rfl)) (by decide) (by rw [hw];decide) (fun j hj=>by obtain rfl:j=0:=(by omega);rw [hw];show (linkL 0 _).length≤_;omega)) ?_
 rintro v w' ⟨c,u,rfl,hq,hu,hs⟩
 rw [hw] at hq hu
 have hcl:c.l.length=1:=by
  have:=congrArg List.length hq
  simp only [List.length_map] at this
  omega
 refine ⟨c,u,rfl,⟨hcl, ?_,by rw [hu];rfl⟩,hs⟩
 have h3:=congrArg (fun l:List (List Ins)=>nth l 0) hq
 simp only at h3
 rw [nth_map' _ _ _ (by omega),nth_map' _ _ _ (by rw [List.length_map];omega),nth_map' _ _ _ (by omega)] at h3
 rw [h3];exact h2
def Meets (l m:List OutL)(n:Nat):Prop:=∀i,i<l.length→(nth l i).st=0→∃j,j<m.length∧(nth l i).st=(nth m j).st∧(nth l i).words.l.take n=(nth m j).words.l.take n∧(nth l i).prints.l=(nth m j).prints.l
section
variable {p q:Pg}{u v:Ls OutL}{W W' :World}{K K' :Nat→Prop}{b b' :Bool}
theorem meets_of {n:Nat}(h:∀w pr,(⟨0,w,pr⟩:Outc)∈u.l.map OutL.out→∃w',(⟨0,w',pr⟩:Outc)∈v.l.map OutL.out∧w.take n=w'.take n):Meets u.l v.l n:=fun i hi h0=>by
 have h1:(⟨0,(nth u.l i).words.l,(nth u.l i).prints.l⟩:Outc)∈u.l.map OutL.out:=List.mem_map.2 ⟨_,nth_mem _ _ hi,by unfold OutL.out;rw [h0]⟩
 obtain ⟨w',h2,h3⟩:=h _ _ h1
 obtain ⟨y,hy,e⟩:=List.mem_map.1 h2
 obtain ⟨j,hj,rfl⟩:=List.mem_iff_getElem.1 hy
 rw [←nth_lt _ _ hj] at e
 unfold OutL.out at e
 simp only [Outc.mk.injEq] at e
 exact ⟨j,hj,by rw [h0,e.1],by rw [h3,e.2.1],e.2.2.symm⟩
theorem spin_to (hok:OkPg p)(hq:q=linkPg p∧OkPg q)(hR:p.regs≤6)(hu:FRes p 1 (fun (_:Unit) _=>()) () K W b u ())(hv:FRes q 1 (fun (_:Unit) _=>()) () K' W' b' v ())(hb:b=true)(hb' :b' =true):Meets u.l v.l p.words.length:=meets_of fun w pr h=>by
 have h1:=((hu.good hb).2.2.1 _).1 h
 obtain ⟨rfl,h9⟩:=hq
 obtain ⟨l,h2⟩:=link_to hok h9 hR (.inr rfl) h1
 refine ⟨_,((hv.good hb').2.2.1 _).2 h2, ?_⟩
 have h3:=outs_lenK hok h1
 rw [←h3,List.take_length,List.take_left' rfl]
theorem spin_from (hok:OkPg p)(hq:q=linkPg p∧OkPg q)(hR:p.regs≤6)(hu:FRes p 1 (fun (_:Unit) _=>()) () K W b u ())(hv:FRes q 1 (fun (_:Unit) _=>()) () K' W' b' v ())(hb:b=true)(hb' :b' =true)(hall:∀j,j<u.l.length→(nth u.l j).st≠1):Meets v.l u.l p.words.length:=meets_of fun w pr h=>by
 have h1:=((hv.good hb').2.2.1 _).1 h
 obtain ⟨rfl,h9⟩:=hq
 have hnf:∀o,Outs p 1 o→o.st≠1:=fun o ho=>by
  obtain ⟨y,hy,rfl⟩:=List.mem_map.1 (((hu.good hb).2.2.1 o).2 ho)
  obtain ⟨i,hi,rfl⟩:=List.mem_iff_getElem.1 hy
  have:=hall i hi
  rwa [nth_lt _ _ hi] at this
 have h2:=link_from hok h9 hR (.inr rfl) (noFall hok (.inr rfl) hnf) h1
 exact ⟨_,((hu.good hb).2.2.1 _).2 h2,by rw [List.take_take,Nat.min_self]⟩
end
theorem tvast_c (code:Ls (Ls Ins))(words:Ls Int)(locks regs:Int)(W:World)(hcode:code.At W)(hwords:words.At W):
    Rets Tryz.prog 17 [.agg #[code.v,words.v, .int .i64 locks, .int .i64 regs]] W (fun v w' =>v= .bool (vastG (code.l.map (·.l)) words.l)∧Sh0 W w' []):=by
 refine gen Tryz.func17 Tryz.ntmps17 (Sh0.ext2 hcode hwords:Sh (fun _=>False) W W [.at_ code, .at_ words]) rfl fun a10 h10=>gG h10<|sK fun _ k11=>gbx rfl rfl fun b12=>gRn (oM 1 rfl<|.nl)<|nK k11<|sK fun _ k13=>gNl (aA 1 rfl) fun hl14=>gNl (aA 2 rfl) fun hl15=>gRn (ofB fl_25_0 rfl<|olB 0 ti_22 rfl rfl<|oln sl_22 (aA 1 rfl) rfl<|ofB fl_25_1 rfl<|olB 0 ti_23 rfl rfl<|oln sl_23 (aA 2 rfl) rfl<|oadN _ _ (show code.l.length+words.l.length<9223372036854775808 from (by first|omega|(have:=(hcode.inner t (by omega):(nth code.l t).At W).len;omega))) rfl<|oM 1 rfl<|.nl)<|nK k13<|gK fun _ k16=>sG (oM 1 rfl<|.nl)<|gB<|?_;clear h10
 have hwl:=hwords.len
 have hcl:=hcode.len
 intro a19 w19 h19
 refine x_loop (fun m a w=>∃(n t:Nat),(t≤code.l.length∧t≤100)∧((n:Int)=code.l.length+words.l.length+(((code.l.map (·.l)).take t).map fun s=>(s.length:Int)).sum)∧(n≤(t+2)*140737488355328)∧St 39 (fun _=>False) W a w [(1, .pointer (some ⟨b12,0,none⟩)),(3, .int .i64 ((n:Nat):Int)),(4, .int .i64 ((t:Nat):Int))] [.blk b12 25 [code.v,words.v, .int .i64 locks, .int .i64 regs], .at_ code, .at_ words]∧m=code.l.length-t) ⟨_,code.l.length+words.l.length,0,(by omega),(by simp),(by omega),h19.nf ⟨rfl,rfl,rfl,trivial⟩,rfl⟩ ?_
 clear h19
 rintro m18 a18 w18 ⟨n,t,ht,hn,hn2,h18,hm18⟩
 refine gG h18<|gK fun _ k20=>sK fun _ k21=>gRn (oM 1 rfl<|ofB fl_25_0 rfl<|olB 0 ti_22 rfl rfl<|oln sl_22 (aA 1 rfl) rfl<|oltN _ _ rfl<|oM 1 rfl<|.nl)<|?_;clear h18
 rcases dsp (t<code.l.length) with ⟨hb22,hp22⟩|⟨hb22,hp22⟩
 ·skip
  refine gRn (oG hb22 (r_move rfl rfl) rfl<|oG hb22 (r_lssN (p:=t) (q:=100) rfl rfl rfl) rfl<|opT hb22 rfl<|.nl)<|nK k21<|gcd rfl (fun hb23 hp23=> ?_) fun hb23 hp23=> ?_
  ·skip
   refine gS<|hK k20<|?_
   have hlt:=(hcode.inner t (by omega):(nth code.l t).At W).len
   refine gK fun _ k24=>gB<|gL<|gNl (fun w h=>((h.at 1 rfl).nth t (show t<code.l.length from (by omega)))) fun (hl25:((nth code.l t).l).length≤140737488355328)=>gRn (oM 1 rfl<|ofB fl_25_0 rfl<|olB 0 ti_22 rfl rfl<|oM 1 rfl<|oxN sl_22 ti_33 (aA 1 rfl) _ om9 rfl<|olE ((nth code.l t).v) ti_33 (aA 1 rfl) om9 rfl<|oln (n:=((nth code.l t).l).length) sl_33 (fun w h=>((h.at 1 rfl).nth t (show t<code.l.length from (by omega)))) rfl<|oadN _ _ (show n+(((nth code.l t).l).length)<9223372036854775808 from (by first|omega|(have:=(hcode.inner t (by omega):(nth code.l t).At W).len;omega))) rfl<|oM 1 rfl<|.nl)<|nK k24<|gL<|gRn (oM 1 rfl<|oadN _ 1 (show t+1<9223372036854775808 from (by first|omega|(have:=(hcode.inner t (by omega):(nth code.l t).At W).len;omega))) rfl<|oM 1 rfl<|.nl)<|nN<|fun a26 w26 h26=> ?_
   refine x_again ⟨_, ?_,n+(((nth code.l t).l).length),t+1, ?_, ?_, ?_,h26.nf ⟨rfl,rfl,rfl,trivial⟩,rfl⟩
   · rw [hm18];first|omega|(simp only [lens9];omega)
   · omega
   · rw [take_succ_nth _ _ (by simp;omega),List.map_append,List.sum_append,nth_map' _ _ _ (by omega)];simp only [List.map_cons,List.map_nil,List.sum_cons,List.sum_nil];omega
   · omega
  refine gX<|hK k16<|sK fun _ k27=>gRn (oM 1 rfl<|ogtN _ 5000 rfl<|oM 1 rfl<|.nl)<|?_
  rcases dsp (5000<n) with ⟨hb28,hp28⟩|⟨hb28,hp28⟩
  ·skip
   refine gRn (oKs 4 hb28 rfl rfl<|opT hb28 rfl<|oM 1 rfl<|.nl)<|nK k27<|gR<|fun a29 w29 h29=>x_ret1 (fn:=Tryz.f17) (t:=2) rfl h29 rfl<|⟨?_,(h29.sh.sel [] rfl)⟩
   congr 1
   have hv:vastG (code.l.map (·.l)) words.l=(decide (5000<n)||decide (100<code.l.length)):=by unfold vastG;rw [take_hund (l:=code.l.map (·.l)) (t:=t) (by simp;omega) (by omega) (by simp;omega),List.length_map];congr 1<;>(rw [decide_eq_decide];omega)
   rw [hv]
   first|(rw [show decide (5000<n)=true by assumption];rfl)|(rw [show decide (5000<n)=false by assumption];rfl)
  refine gRn (oG hb28 (r_fieldB (r:=0) fl_25_0 rfl rfl rfl) rfl<|oG hb28 (r_ldb (i:=0) ti_22 rfl rfl rfl rfl) rfl<|oG hb28 (r_len (s:=code) (n:=code.l.length) sl_22 rfl rfl (fun w h=>(h.at 1 rfl)) rfl) rfl<|oG hb28 (r_gtrN (p:=code.l.length) (q:=100) rfl rfl rfl) rfl<|opF hb28 rfl<|oM 1 rfl<|.nl)<|nK k27<|gR<|fun a30 w30 h30=>x_ret1 (fn:=Tryz.f17) (t:=2) rfl h30 rfl<|⟨?_,(h30.sh.sel [] rfl)⟩
  congr 1
  have hv:vastG (code.l.map (·.l)) words.l=(decide (5000<n)||decide (100<code.l.length)):=by unfold vastG;rw [take_hund (l:=code.l.map (·.l)) (t:=t) (by simp;omega) (by omega) (by simp;omega),List.length_map];congr 1<;>(rw [decide_eq_decide];omega)
  rw [hv]
  first|(rw [show decide (5000<n)=true by assumption];rfl)|(rw [show decide (5000<n)=false by assumption];rfl)
 refine gRn (oKs 2 hb22 rfl rfl<|opF hb22 rfl<|.nl)<|nK k21<|gcF rfl rfl<|gX<|hK k16<|sK fun _ k31=>gRn (oM 1 rfl<|ogtN _ 5000 rfl<|oM 1 rfl<|.nl)<|?_
 rcases dsp (5000<n) with ⟨hb32,hp32⟩|⟨hb32,hp32⟩
 ·skip
  refine gRn (oKs 4 hb32 rfl rfl<|opT hb32 rfl<|oM 1 rfl<|.nl)<|nK k31<|gR<|fun a33 w33 h33=>x_ret1 (fn:=Tryz.f17) (t:=2) rfl h33 rfl<|⟨?_,(h33.sh.sel [] rfl)⟩
  congr 1
  have hv:vastG (code.l.map (·.l)) words.l=(decide (5000<n)||decide (100<code.l.length)):=by unfold vastG;rw [take_hund (l:=code.l.map (·.l)) (t:=t) (by simp;omega) (by omega) (by simp;omega),List.length_map];congr 1<;>(rw [decide_eq_decide];omega)
  rw [hv]
  first|(rw [show decide (5000<n)=true by assumption];rfl)|(rw [show decide (5000<n)=false by assumption];rfl)
 refine gRn (oG hb32 (r_fieldB (r:=0) fl_25_0 rfl rfl rfl) rfl<|oG hb32 (r_ldb (i:=0) ti_22 rfl rfl rfl rfl) rfl<|oG hb32 (r_len (s:=code) (n:=code.l.length) sl_22 rfl rfl (fun w h=>(h.at 1 rfl)) rfl) rfl<|oG hb32 (r_gtrN (p:=code.l.length) (q:=100) rfl rfl rfl) rfl<|opF hb32 rfl<|oM 1 rfl<|.nl)<|nK k31<|gR<|fun a34 w34 h34=>x_ret1 (fn:=Tryz.f17) (t:=2) rfl h34 rfl<|⟨?_,(h34.sh.sel [] rfl)⟩
 congr 1
 have hv:vastG (code.l.map (·.l)) words.l=(decide (5000<n)||decide (100<code.l.length)):=by unfold vastG;rw [take_hund (l:=code.l.map (·.l)) (t:=t) (by simp;omega) (by omega) (by simp;omega),List.length_map];congr 1<;>(rw [decide_eq_decide];omega)
 rw [hv]
 first|(rw [show decide (5000<n)=true by assumption];rfl)|(rw [show decide (5000<n)=false by assumption];rfl)
theorem tints_c (x y:Ls Int)(W:World)(hx:x.At W)(hy:y.At W):
    Rets Tryz.prog 48 [x.v,y.v] W (fun v w' =>v= .bool (decide (x.l=y.l))∧Sh0 W w' []):=by
 refine gen Tryz.func48 Tryz.ntmps48 (Sh0.ext2 hx hy:Sh (fun _=>False) W W [.at_ x, .at_ y]) rfl fun a10 h10=>gG h10<|sG (oM 1 rfl<|.nl)<|gK fun _ k12=>sK fun _ k13=>gNl (aA 0 rfl) fun hl14=>gNl (aA 1 rfl) fun hl15=>gRn (oM 1 rfl<|oln sl_23 (aA 0 rfl) rfl<|oM 1 rfl<|oln sl_23 (aA 1 rfl) rfl<|oneN _ _ rfl<|.nl)<|nK k13<|?_;clear h10
 refine gcd rfl (fun hb16 hp16=> ?_) fun hb16 hp16=> ?_
 ·skip
  refine sG (oM 1 rfl<|.nl)<|gR<|uT<|fun a18 w18 h18=>x_ret1 (fn:=Tryz.f48) (t:=4) rfl h18 rfl<|⟨?_,(h18.sh.sel [] rfl)⟩
  congr 1
  first|(exact (decide_eq_true (ext_nth _ _ (by omega) fun i hi=>hall i (by omega))).symm)|(refine (decide_eq_false fun e=> ?_).symm;first|(rw [e] at*;omega)|(simp_all;done))
 refine gS<|hK k12<|gK fun _ k19=>sG (oM 1 rfl<|.nl)<|gB<|fun a22 w22 h22=>x_loop (fun m a w=>∃(k:Nat),(k≤x.l.length)∧(∀j,j<k→nth x.l j=nth y.l j)∧St 26 (fun _=>False) W a w [(0,x.v),(1,y.v),(5, .int .i64 ((k:Nat):Int))] [.at_ x, .at_ y]∧m=x.l.length-k) ⟨_,0,(by omega),(fun j hj=>absurd hj (by omega)),h22.nf ⟨rfl,rfl,rfl,trivial⟩,rfl⟩ ?_
 clear h22
 rintro m21 a21 w21 ⟨k,hk,hall,h21,hm21⟩
 refine gG h21<|gK fun _ k23=>sG (oM 2 rfl<|oln sl_23 (aA 0 rfl) rfl<|oltN _ _ rfl<|.nl)<|?_;clear h21
 refine gcd rfl (fun hb25 hp25=> ?_) fun hb25 hp25=> ?_
 ·skip
  refine gS<|hK k23<|gK fun _ k26=>gB<|gK fun _ k27=>rQ (oM 2 rfl<|oxN sl_23 ti_3 (aA 0 rfl) _ om9 rfl<|olI ti_3 (aA 0 rfl) om9 rfl<|oM 2 rfl<|oxN sl_23 ti_3 (aA 1 rfl) _ om9 rfl<|olI ti_3 (aA 1 rfl) om9 rfl<|oneI _ _ rfl<|.nl)<|hK k27<|gcd rfl (fun hb28 hp28=> ?_) fun hb28 hp28=> ?_
  ·skip
   refine sG (oM 1 rfl<|.nl)<|gR<|uB<|uT<|uT<|uB<|uT<|fun a30 w30 h30=>x_ret1 (fn:=Tryz.f48) (t:=4) rfl h30 rfl<|⟨?_,(h30.sh.sel [] rfl)⟩
   congr 1
   first|(exact (decide_eq_true (ext_nth _ _ (by omega) fun i hi=>hall i (by omega))).symm)|(refine (decide_eq_false fun e=> ?_).symm;first|(rw [e] at*;omega)|(simp_all;done))
  refine gS<|hK k26<|gL<|gRn (oM 1 rfl<|oadN _ 1 om9 rfl<|oM 1 rfl<|.nl)<|nN<|fun a31 w31 h31=>x_again ⟨_, ?_,k+1, ?_, ?_,h31.nf ⟨rfl,rfl,rfl,trivial⟩,rfl⟩
  · rw [hm21];first|omega|(simp only [lens9];omega)
  · omega
  · intro j hj;rcases Nat.lt_or_ge j k with h|h;exact hall j h;obtain rfl:j=k:=(by omega);omega
 refine gX<|hK k19<|sG (oM 1 rfl<|.nl)<|gR<|fun a33 w33 h33=>x_ret1 (fn:=Tryz.f48) (t:=4) rfl h33 rfl<|⟨?_,(h33.sh.sel [] rfl)⟩
 congr 1
 first|(exact (decide_eq_true (ext_nth _ _ (by omega) fun i hi=>hall i (by omega))).symm)|(refine (decide_eq_false fun e=> ?_).symm;first|(rw [e] at*;omega)|(simp_all;done))
theorem within_c (ol om:Ls OutL)(n:Nat)(W:World)(hl:ol.At W)(hm:om.At W)(hmt:Meets ol.l om.l n):
    Rets Tryz.prog 19 [ol.v,om.v, .int .i64 ((n:Nat):Int), .bool true] W (fun v w' =>v= .bool true∧Sh0 W w' []):=by
 refine gen Tryz.func19 Tryz.ntmps19 (Sh0.ext2 hl hm:Sh (fun _=>False) W W [.at_ ol, .at_ om]) rfl fun a10 h10=>gG h10<|sG (oM 1 rfl<|.nl)<|gK fun _ k12=>sG (oM 1 rfl<|.nl)<|gB<|fun a15 w15 h15=>x_loop (fun m a w=>∃(i:Nat),(i≤ol.l.length)∧St 97 (fun _=>False) W a w [(0,ol.v),(1,om.v),(2, .int .i64 ((n:Nat):Int)),(3, .bool true),(9, .int .i64 ((i:Nat):Int))] [.at_ ol, .at_ om]∧m=ol.l.length-i) ⟨_,0,(by omega),h15.nf ⟨rfl,rfl,rfl,rfl,rfl,trivial⟩,rfl⟩ ?_;clear h10
 clear h15
 rintro m14 a14 w14 ⟨i,hi,h14,hm14⟩
 refine gG h14<|gK fun _ k16=>sK fun _ k17=>gNl (aA 0 rfl) fun hl18=>gRn (oM 2 rfl<|oln sl_35 (aA 0 rfl) rfl<|oltN _ _ rfl<|.nl)<|nK k17<|?_;clear h14
 refine gcd rfl (fun hb19 hp19=> ?_) fun hb19 hp19=> ?_
 ·skip
  refine gS<|hK k16<|gK fun _ k20=>gB<|gK fun _ k21=>sG (oM 2 rfl<|oG rfl (r_move rfl rfl) rfl<|oG rfl (r_move rfl rfl) rfl<|oG rfl (r_ixN (s:=ol) (q:=i) sl_35 ti_39 rfl rfl rfl (fun w h=>(h.at 0 rfl)) (show i<ol.l.length from om9)) rfl<|oG rfl (r_fieldE (r:=0) fl_39_0 rfl rfl rfl) rfl<|oG rfl (r_lde (s:=ol) (i:=i) (v:= .int .i64 ((nth ol.l i).st)) ti_3 rfl rfl rfl (fun w h=>(h.at 0 rfl)) (show i<ol.l.length from om9) (Nat.le_of_ble_eq_true rfl) rfl) rfl<|oG rfl (r_neqI (p:=(nth ol.l i).st) (q:=0) rfl rfl rfl) rfl<|opT rfl rfl<|.nl)<|gcd rfl (fun hb23 hp23=> ?_) fun hb23 hp23=> ?_
  ·skip
   refine gX<|hK k20<|gL<|gRn (oM 1 rfl<|oadN _ 1 om9 rfl<|oM 1 rfl<|.nl)<|nN<|fun a24 w24 h24=>x_again ⟨_, ?_,i+1, ?_,h24.nf ⟨rfl,rfl,rfl,rfl,rfl,trivial⟩,rfl⟩
   · rw [hm14];first|omega|(simp only [lens9];omega)
   · omega
  refine gS<|hK k21<|sG (oM 1 rfl<|.nl)<|gK fun _ k26=>sG (oM 1 rfl<|.nl)<|gB<|fun a29 w29 h29=>x_loop (fun m a w=>∃(k:Nat) (b0:Bool),(k≤om.l.length)∧(∀j,j<k→((nth ol.l i).st=(nth om.l j).st∧(nth ol.l i).words.l.take n=(nth om.l j).words.l.take n∧(nth ol.l i).prints.l=(nth om.l j).prints.l)→b0=true)∧St 97 (fun _=>False) W a w [(0,ol.v),(1,om.v),(2, .int .i64 ((n:Nat):Int)),(3, .bool true),(9, .int .i64 ((i:Nat):Int)),(10, .bool b0),(11, .int .i64 ((k:Nat):Int))] [.at_ ol, .at_ om]∧m=om.l.length-k) ⟨_,0,false,(by omega),(fun j hj=>absurd hj (by omega)),h29.nf ⟨rfl,rfl,rfl,rfl,rfl,rfl,rfl,trivial⟩,rfl⟩ ?_
  clear h29
  rintro m28 a28 w28 ⟨k,b0,hk,hin,h28,hm28⟩
  refine gG h28<|gK fun _ k30=>sK fun _ k31=>gNl (aA 1 rfl) fun hl32=>gRn (oM 2 rfl<|oln sl_35 (aA 1 rfl) rfl<|oltN _ _ rfl<|.nl)<|nK k31<|?_;clear h28
  refine gcd rfl (fun hb33 hp33=> ?_) fun hb33 hp33=> ?_
  ·skip
   refine gS<|hK k30<|gK fun _ k34=>gB<|sG (oM 2 rfl<|oxN sl_35 ti_39 (aA 0 rfl) _ om9 rfl<|ofE fl_39_1 rfl<|olE (((nth ol.l i).words).v) ti_23 (aA 0 rfl) om9 rfl<|oM 1 rfl<|.nl)<|sG (oM 2 rfl<|oxN sl_35 ti_39 (aA 1 rfl) _ om9 rfl<|ofE fl_39_1 rfl<|olE (((nth om.l k).words).v) ti_23 (aA 1 rfl) om9 rfl<|oM 1 rfl<|.nl)<|gK fun _ k37=>sK fun _ k38=>gNl (fun w h=>((h.at 0 rfl).inner i (show i<ol.l.length from (by omega))).1) fun (hl39:(((nth ol.l i).words).l).length≤140737488355328)=>gRn (oM 1 rfl<|oln (n:=(((nth ol.l i).words).l).length) sl_23 (fun w h=>((h.at 0 rfl).inner i (show i<ol.l.length from (by omega))).1) rfl<|oM 1 rfl<|ogtN _ _ rfl<|.nl)<|nK k38<|gcd rfl (fun hb40 hp40=> ?_) fun hb40 hp40=> ?_
   ·skip
    refine gL<|gRn (oM 2 rfl<|oV (r_slH0 (s:=(nth ol.l i).words) (j:=n) sl_23 ti_3 rfl rfl rfl (fun w h=>((h.at 0 rfl).inner i (show i<ol.l.length from om9)).1) (show n≤(((nth ol.l i).words).l).length from om9)) rfl<|oM 1 rfl<|.nl)<|nK k37<|gK fun _ k41=>sK fun _ k42=>gNl (fun w h=>((h.at 1 rfl).inner k (show k<om.l.length from (by omega))).1) fun (hl43:(((nth om.l k).words).l).length≤140737488355328)=>gRn (oM 1 rfl<|oln (n:=(((nth om.l k).words).l).length) sl_23 (fun w h=>((h.at 1 rfl).inner k (show k<om.l.length from (by omega))).1) rfl<|oM 1 rfl<|ogtN _ _ rfl<|.nl)<|nK k42<|gF [0,1,2,3,9,10,11,12,13,57] rfl<|gcd rfl (fun hb44 hp44=> ?_) fun hb44 hp44=> ?_
    ·skip
     refine gL<|gRn (oM 2 rfl<|oV (r_slH0 (s:=(nth om.l k).words) (j:=n) sl_23 ti_3 rfl rfl rfl (fun w h=>((h.at 1 rfl).inner k (show k<om.l.length from om9)).1) (show n≤(((nth om.l k).words).l).length from om9)) rfl<|oM 1 rfl<|.nl)<|nK k41<|sK fun _ k45=>gRn (oM 2 rfl<|.nl)<|gP (fun _ _ h_=>xCl h_ bd_48 rfl (tints_c (⟨(vtake (((nth ol.l i).words).v) n),((((nth ol.l i).words).l).take n)⟩:Ls Int) (⟨(vtake (((nth om.l k).words).v) n),((((nth om.l k).words).l).take n)⟩:Ls Int) _ (take_at ((h_.sh.at 0 rfl).inner i (show i<ol.l.length from (by omega))).1 (show n≤(((nth ol.l i).words).l).length from (by omega))) (take_at ((h_.sh.at 1 rfl).inner k (show k<om.l.length from (by omega))).1 (show n≤(((nth om.l k).words).l).length from (by omega))))) rfl<|gRn (oM 1 rfl<|.nl)<|nK k45<|gK fun _ k47=>fun a48 w48 h48=>x_quiet (by kernel_rfl) (by kernel_rfl) h48 fun _ z49=>qQ h48.fr<|qRn (oM 2 rfl<|oxN sl_35 ti_39 (aA 0 rfl) _ om9 rfl<|ofE fl_39_2 rfl<|olE (((nth ol.l i).prints).v) ti_23 (aA 0 rfl) om9 rfl<|oM 2 rfl<|oxN sl_35 ti_39 (aA 1 rfl) _ om9 rfl<|ofE fl_39_2 rfl<|olE (((nth om.l k).prints).v) ti_23 (aA 1 rfl) om9 rfl<|.nl)<|qP bd_48 rfl (fun w h=>(tints_c ((nth ol.l i).prints) ((nth om.l k).prints) _ ((h.at 0 rfl).inner i (show i<ol.l.length from (by omega))).2 ((h.at 1 rfl).inner k (show k<om.l.length from (by omega))).2))<|qRn (oM 1 rfl<|.nl)<|qN z49<|hK k47<|fun a50 w50 h50=>x_quiet (by kernel_rfl) (by kernel_rfl) h50 fun _ z51=>qQ h50.fr<|qRn (oM 2 rfl<|.nl)<|?_;clear h48
     rcases Bool.eq_false_or_eq_true b0 with hb52|hb52
     ·skip
      refine qRn (oKs 12 hb52 rfl rfl<|oK2 rfl<|oKs 2 hb52 rfl rfl<|oK2 rfl<|oK hb52 rfl<|opT hb52 rfl<|oM 1 rfl<|.nl)<|qN z51<|?_;clear h50
      refine hK k34<|gF [0,1,2,3,9,10,11] rfl<|gL<|gRn (oM 1 rfl<|oadN _ 1 om9 rfl<|oM 1 rfl<|.nl)<|nN<|fun a58 w58 h58=>x_again ⟨_, ?_,(k+1),true, ?_, ?_,h58.nf ⟨rfl,rfl,rfl,rfl,rfl,rfl,rfl,trivial⟩,rfl⟩
      · rw [hm28];first|omega|(simp only [lens9];omega)
      · omega
      · intro j hj hm9;rcases Nat.lt_or_ge j k with h9|h9;(first|rfl|(have h8:=hin j h9 hm9;rw [show b0=false by assumption] at h8;cases h8));obtain rfl:j=k:=(by omega);obtain ⟨m1,m2,m3⟩:=hm9;first|rfl|exact decide_eq_true m3|exact absurd m1 (by assumption)|exact absurd m2 (by assumption)|exact absurd (hta.symm.trans m2) (by assumption)|exact absurd (m2.trans htb) (by assumption)|exact absurd (hta.symm.trans (m2.trans htb)) (by assumption)
     refine qRn (oG hb52 (r_move rfl rfl) rfl<|oG hb52 (r_move rfl rfl) rfl<|oG hb52 (r_ixN (s:=ol) (q:=i) sl_35 ti_39 rfl rfl rfl (fun w h=>(h.at 0 rfl)) (show i<ol.l.length from om9)) rfl<|oG hb52 (r_fieldE (r:=0) fl_39_0 rfl rfl rfl) rfl<|oG hb52 (r_lde (s:=ol) (i:=i) (v:= .int .i64 ((nth ol.l i).st)) ti_3 rfl rfl rfl (fun w h=>(h.at 0 rfl)) (show i<ol.l.length from om9) (Nat.le_of_ble_eq_true rfl) rfl) rfl<|oG hb52 (r_move rfl rfl) rfl<|oG hb52 (r_move rfl rfl) rfl<|oG hb52 (r_ixN (s:=om) (q:=k) sl_35 ti_39 rfl rfl rfl (fun w h=>(h.at 1 rfl)) (show k<om.l.length from om9)) rfl<|oG hb52 (r_fieldE (r:=0) fl_39_0 rfl rfl rfl) rfl<|oG hb52 (r_lde (s:=om) (i:=k) (v:= .int .i64 ((nth om.l k).st)) ti_3 rfl rfl rfl (fun w h=>(h.at 1 rfl)) (show k<om.l.length from om9) (Nat.le_of_ble_eq_true rfl) rfl) rfl<|oG hb52 (r_eqlI (p:=(nth ol.l i).st) (q:=(nth om.l k).st) rfl rfl rfl) rfl<|oG hb52 (r_move rfl rfl) rfl<|.nl)<|?_
     rcases dsp ((nth ol.l i).st=(nth om.l k).st) with ⟨hb71,hp71⟩|⟨hb71,hp71⟩
     ·skip
      refine qRn (oG hb71 (r_move rfl rfl) rfl<|oG hb52 (r_pickT rfl rfl hb71 rfl) rfl<|oG hb52 (r_move rfl rfl) rfl<|.nl)<|?_
      rcases dsp (((((nth ol.l i).words).l).take n)=((((nth om.l k).words).l).take n)) with ⟨hb75,hp75⟩|⟨hb75,hp75⟩
      ·skip
       refine qRn (oG hb75 (r_move rfl rfl) rfl<|oG hb52 (r_pickT rfl rfl hb75 rfl) rfl<|opF hb52 rfl<|oM 1 rfl<|.nl)<|qN z51<|?_;clear h50
       refine hK k34<|gF [0,1,2,3,9,10,11] rfl<|gL<|gRn (oM 1 rfl<|oadN _ 1 om9 rfl<|oM 1 rfl<|.nl)<|nN<|fun a78 w78 h78=>x_again ⟨_, ?_,(k+1),decide (((nth ol.l i).prints).l=((nth om.l k).prints).l), ?_, ?_,h78.nf ⟨rfl,rfl,rfl,rfl,rfl,rfl,rfl,trivial⟩,rfl⟩
       · rw [hm28];first|omega|(simp only [lens9];omega)
       · omega
       · intro j hj hm9;rcases Nat.lt_or_ge j k with h9|h9;(first|rfl|(have h8:=hin j h9 hm9;rw [show b0=false by assumption] at h8;cases h8));obtain rfl:j=k:=(by omega);obtain ⟨m1,m2,m3⟩:=hm9;first|rfl|exact decide_eq_true m3|exact absurd m1 (by assumption)|exact absurd m2 (by assumption)|exact absurd (hta.symm.trans m2) (by assumption)|exact absurd (m2.trans htb) (by assumption)|exact absurd (hta.symm.trans (m2.trans htb)) (by assumption)
      refine qRn (oK hb75 rfl<|oG hb52 (r_pickF rfl rfl hb75 rfl) rfl<|opF hb52 rfl<|oM 1 rfl<|.nl)<|qN z51<|?_;clear h50
      refine hK k34<|gF [0,1,2,3,9,10,11] rfl<|gL<|gRn (oM 1 rfl<|oadN _ 1 om9 rfl<|oM 1 rfl<|.nl)<|nN<|fun a81 w81 h81=>x_again ⟨_, ?_,(k+1),false, ?_, ?_,h81.nf ⟨rfl,rfl,rfl,rfl,rfl,rfl,rfl,trivial⟩,rfl⟩
      · rw [hm28];first|omega|(simp only [lens9];omega)
      · omega
      · intro j hj hm9;rcases Nat.lt_or_ge j k with h9|h9;(first|rfl|(have h8:=hin j h9 hm9;rw [show b0=false by assumption] at h8;cases h8));obtain rfl:j=k:=(by omega);obtain ⟨m1,m2,m3⟩:=hm9;first|rfl|exact decide_eq_true m3|exact absurd m1 (by assumption)|exact absurd m2 (by assumption)|exact absurd (hta.symm.trans m2) (by assumption)|exact absurd (m2.trans htb) (by assumption)|exact absurd (hta.symm.trans (m2.trans htb)) (by assumption)
     refine qRn (oK hb71 rfl<|oG hb52 (r_pickF rfl rfl hb71 rfl) rfl<|oG hb52 (r_move rfl rfl) rfl<|oK rfl rfl<|oG hb52 (r_pickF rfl rfl rfl rfl) rfl<|opF hb52 rfl<|oM 1 rfl<|.nl)<|qN z51<|?_;clear h50
     refine hK k34<|gF [0,1,2,3,9,10,11] rfl<|gL<|gRn (oM 1 rfl<|oadN _ 1 om9 rfl<|oM 1 rfl<|.nl)<|nN<|fun a87 w87 h87=>x_again ⟨_, ?_,(k+1),false, ?_, ?_,h87.nf ⟨rfl,rfl,rfl,rfl,rfl,rfl,rfl,trivial⟩,rfl⟩
     · rw [hm28];first|omega|(simp only [lens9];omega)
     · omega
     · intro j hj hm9;rcases Nat.lt_or_ge j k with h9|h9;(first|rfl|(have h8:=hin j h9 hm9;rw [show b0=false by assumption] at h8;cases h8));obtain rfl:j=k:=(by omega);obtain ⟨m1,m2,m3⟩:=hm9;first|rfl|exact decide_eq_true m3|exact absurd m1 (by assumption)|exact absurd m2 (by assumption)|exact absurd (hta.symm.trans m2) (by assumption)|exact absurd (m2.trans htb) (by assumption)|exact absurd (hta.symm.trans (m2.trans htb)) (by assumption)
    have htb:(nth om.l k).words.l.take n=(nth om.l k).words.l:=List.take_of_length_le (by omega)
    refine gS<|hK k41<|sK fun _ k88=>gRn (oM 2 rfl<|.nl)<|gP (fun _ _ h_=>xCl h_ bd_48 rfl (tints_c (⟨(vtake (((nth ol.l i).words).v) n),((((nth ol.l i).words).l).take n)⟩:Ls Int) ((nth om.l k).words) _ (take_at ((h_.sh.at 0 rfl).inner i (show i<ol.l.length from (by omega))).1 (show n≤(((nth ol.l i).words).l).length from (by omega))) ((h_.sh.at 1 rfl).inner k (show k<om.l.length from (by omega))).1)) rfl<|gRn (oM 1 rfl<|.nl)<|nK k88<|gK fun _ k90=>fun a91 w91 h91=>x_quiet (by kernel_rfl) (by kernel_rfl) h91 fun _ z92=>qQ h91.fr<|qRn (oM 2 rfl<|oxN sl_35 ti_39 (aA 0 rfl) _ om9 rfl<|ofE fl_39_2 rfl<|olE (((nth ol.l i).prints).v) ti_23 (aA 0 rfl) om9 rfl<|oM 2 rfl<|oxN sl_35 ti_39 (aA 1 rfl) _ om9 rfl<|ofE fl_39_2 rfl<|olE (((nth om.l k).prints).v) ti_23 (aA 1 rfl) om9 rfl<|.nl)<|qP bd_48 rfl (fun w h=>(tints_c ((nth ol.l i).prints) ((nth om.l k).prints) _ ((h.at 0 rfl).inner i (show i<ol.l.length from (by omega))).2 ((h.at 1 rfl).inner k (show k<om.l.length from (by omega))).2))<|qRn (oM 1 rfl<|.nl)<|qN z92<|hK k90<|fun a93 w93 h93=>x_quiet (by kernel_rfl) (by kernel_rfl) h93 fun _ z94=>qQ h93.fr<|qRn (oM 2 rfl<|.nl)<|?_;clear h91
    rcases Bool.eq_false_or_eq_true b0 with hb95|hb95
    ·skip
     refine qRn (oKs 12 hb95 rfl rfl<|oK2 rfl<|oKs 2 hb95 rfl rfl<|oK2 rfl<|oK hb95 rfl<|opT hb95 rfl<|oM 1 rfl<|.nl)<|qN z94<|?_;clear h93
     refine hK k34<|gF [0,1,2,3,9,10,11] rfl<|gL<|gRn (oM 1 rfl<|oadN _ 1 om9 rfl<|oM 1 rfl<|.nl)<|nN<|fun a101 w101 h101=>x_again ⟨_, ?_,(k+1),true, ?_, ?_,h101.nf ⟨rfl,rfl,rfl,rfl,rfl,rfl,rfl,trivial⟩,rfl⟩
     · rw [hm28];first|omega|(simp only [lens9];omega)
     · omega
     · intro j hj hm9;rcases Nat.lt_or_ge j k with h9|h9;(first|rfl|(have h8:=hin j h9 hm9;rw [show b0=false by assumption] at h8;cases h8));obtain rfl:j=k:=(by omega);obtain ⟨m1,m2,m3⟩:=hm9;first|rfl|exact decide_eq_true m3|exact absurd m1 (by assumption)|exact absurd m2 (by assumption)|exact absurd (hta.symm.trans m2) (by assumption)|exact absurd (m2.trans htb) (by assumption)|exact absurd (hta.symm.trans (m2.trans htb)) (by assumption)
    refine qRn (oG hb95 (r_move rfl rfl) rfl<|oG hb95 (r_move rfl rfl) rfl<|oG hb95 (r_ixN (s:=ol) (q:=i) sl_35 ti_39 rfl rfl rfl (fun w h=>(h.at 0 rfl)) (show i<ol.l.length from om9)) rfl<|oG hb95 (r_fieldE (r:=0) fl_39_0 rfl rfl rfl) rfl<|oG hb95 (r_lde (s:=ol) (i:=i) (v:= .int .i64 ((nth ol.l i).st)) ti_3 rfl rfl rfl (fun w h=>(h.at 0 rfl)) (show i<ol.l.length from om9) (Nat.le_of_ble_eq_true rfl) rfl) rfl<|oG hb95 (r_move rfl rfl) rfl<|oG hb95 (r_move rfl rfl) rfl<|oG hb95 (r_ixN (s:=om) (q:=k) sl_35 ti_39 rfl rfl rfl (fun w h=>(h.at 1 rfl)) (show k<om.l.length from om9)) rfl<|oG hb95 (r_fieldE (r:=0) fl_39_0 rfl rfl rfl) rfl<|oG hb95 (r_lde (s:=om) (i:=k) (v:= .int .i64 ((nth om.l k).st)) ti_3 rfl rfl rfl (fun w h=>(h.at 1 rfl)) (show k<om.l.length from om9) (Nat.le_of_ble_eq_true rfl) rfl) rfl<|oG hb95 (r_eqlI (p:=(nth ol.l i).st) (q:=(nth om.l k).st) rfl rfl rfl) rfl<|oG hb95 (r_move rfl rfl) rfl<|.nl)<|?_
    rcases dsp ((nth ol.l i).st=(nth om.l k).st) with ⟨hb114,hp114⟩|⟨hb114,hp114⟩
    ·skip
     refine qRn (oG hb114 (r_move rfl rfl) rfl<|oG hb95 (r_pickT rfl rfl hb114 rfl) rfl<|oG hb95 (r_move rfl rfl) rfl<|.nl)<|?_
     rcases dsp (((((nth ol.l i).words).l).take n)=((nth om.l k).words).l) with ⟨hb118,hp118⟩|⟨hb118,hp118⟩
     ·skip
      refine qRn (oG hb118 (r_move rfl rfl) rfl<|oG hb95 (r_pickT rfl rfl hb118 rfl) rfl<|opF hb95 rfl<|oM 1 rfl<|.nl)<|qN z94<|?_;clear h93
      refine hK k34<|gF [0,1,2,3,9,10,11] rfl<|gL<|gRn (oM 1 rfl<|oadN _ 1 om9 rfl<|oM 1 rfl<|.nl)<|nN<|fun a121 w121 h121=>x_again ⟨_, ?_,(k+1),decide (((nth ol.l i).prints).l=((nth om.l k).prints).l), ?_, ?_,h121.nf ⟨rfl,rfl,rfl,rfl,rfl,rfl,rfl,trivial⟩,rfl⟩
      · rw [hm28];first|omega|(simp only [lens9];omega)
      · omega
      · intro j hj hm9;rcases Nat.lt_or_ge j k with h9|h9;(first|rfl|(have h8:=hin j h9 hm9;rw [show b0=false by assumption] at h8;cases h8));obtain rfl:j=k:=(by omega);obtain ⟨m1,m2,m3⟩:=hm9;first|rfl|exact decide_eq_true m3|exact absurd m1 (by assumption)|exact absurd m2 (by assumption)|exact absurd (hta.symm.trans m2) (by assumption)|exact absurd (m2.trans htb) (by assumption)|exact absurd (hta.symm.trans (m2.trans htb)) (by assumption)
     refine qRn (oK hb118 rfl<|oG hb95 (r_pickF rfl rfl hb118 rfl) rfl<|opF hb95 rfl<|oM 1 rfl<|.nl)<|qN z94<|?_;clear h93
     refine hK k34<|gF [0,1,2,3,9,10,11] rfl<|gL<|gRn (oM 1 rfl<|oadN _ 1 om9 rfl<|oM 1 rfl<|.nl)<|nN<|fun a124 w124 h124=>x_again ⟨_, ?_,(k+1),false, ?_, ?_,h124.nf ⟨rfl,rfl,rfl,rfl,rfl,rfl,rfl,trivial⟩,rfl⟩
     · rw [hm28];first|omega|(simp only [lens9];omega)
     · omega
     · intro j hj hm9;rcases Nat.lt_or_ge j k with h9|h9;(first|rfl|(have h8:=hin j h9 hm9;rw [show b0=false by assumption] at h8;cases h8));obtain rfl:j=k:=(by omega);obtain ⟨m1,m2,m3⟩:=hm9;first|rfl|exact decide_eq_true m3|exact absurd m1 (by assumption)|exact absurd m2 (by assumption)|exact absurd (hta.symm.trans m2) (by assumption)|exact absurd (m2.trans htb) (by assumption)|exact absurd (hta.symm.trans (m2.trans htb)) (by assumption)
    refine qRn (oK hb114 rfl<|oG hb95 (r_pickF rfl rfl hb114 rfl) rfl<|oG hb95 (r_move rfl rfl) rfl<|oK rfl rfl<|oG hb95 (r_pickF rfl rfl rfl rfl) rfl<|opF hb95 rfl<|oM 1 rfl<|.nl)<|qN z94<|?_;clear h93
    refine hK k34<|gF [0,1,2,3,9,10,11] rfl<|gL<|gRn (oM 1 rfl<|oadN _ 1 om9 rfl<|oM 1 rfl<|.nl)<|nN<|fun a130 w130 h130=>x_again ⟨_, ?_,(k+1),false, ?_, ?_,h130.nf ⟨rfl,rfl,rfl,rfl,rfl,rfl,rfl,trivial⟩,rfl⟩
    · rw [hm28];first|omega|(simp only [lens9];omega)
    · omega
    · intro j hj hm9;rcases Nat.lt_or_ge j k with h9|h9;(first|rfl|(have h8:=hin j h9 hm9;rw [show b0=false by assumption] at h8;cases h8));obtain rfl:j=k:=(by omega);obtain ⟨m1,m2,m3⟩:=hm9;first|rfl|exact decide_eq_true m3|exact absurd m1 (by assumption)|exact absurd m2 (by assumption)|exact absurd (hta.symm.trans m2) (by assumption)|exact absurd (m2.trans htb) (by assumption)|exact absurd (hta.symm.trans (m2.trans htb)) (by assumption)
   have hta:(nth ol.l i).words.l.take n=(nth ol.l i).words.l:=List.take_of_length_le (by omega)
   refine gS<|hK k37<|gK fun _ k131=>sK fun _ k132=>gNl (fun w h=>((h.at 1 rfl).inner k (show k<om.l.length from (by omega))).1) fun (hl133:(((nth om.l k).words).l).length≤140737488355328)=>gRn (oM 1 rfl<|oln (n:=(((nth om.l k).words).l).length) sl_23 (fun w h=>((h.at 1 rfl).inner k (show k<om.l.length from (by omega))).1) rfl<|oM 1 rfl<|ogtN _ _ rfl<|.nl)<|nK k132<|gcd rfl (fun hb134 hp134=> ?_) fun hb134 hp134=> ?_
   ·skip
    refine gL<|gRn (oM 2 rfl<|oV (r_slH0 (s:=(nth om.l k).words) (j:=n) sl_23 ti_3 rfl rfl rfl (fun w h=>((h.at 1 rfl).inner k (show k<om.l.length from om9)).1) (show n≤(((nth om.l k).words).l).length from om9)) rfl<|oM 1 rfl<|.nl)<|nK k131<|gF [0,1,2,3,9,10,11,12,13] rfl<|sK fun _ k135=>gRn (oM 2 rfl<|.nl)<|gP (fun _ _ h_=>xCl h_ bd_48 rfl (tints_c ((nth ol.l i).words) (⟨(vtake (((nth om.l k).words).v) n),((((nth om.l k).words).l).take n)⟩:Ls Int) _ ((h_.sh.at 0 rfl).inner i (show i<ol.l.length from (by omega))).1 (take_at ((h_.sh.at 1 rfl).inner k (show k<om.l.length from (by omega))).1 (show n≤(((nth om.l k).words).l).length from (by omega))))) rfl<|gRn (oM 1 rfl<|.nl)<|nK k135<|gK fun _ k137=>fun a138 w138 h138=>x_quiet (by kernel_rfl) (by kernel_rfl) h138 fun _ z139=>qQ h138.fr<|qRn (oM 2 rfl<|oxN sl_35 ti_39 (aA 0 rfl) _ om9 rfl<|ofE fl_39_2 rfl<|olE (((nth ol.l i).prints).v) ti_23 (aA 0 rfl) om9 rfl<|oM 2 rfl<|oxN sl_35 ti_39 (aA 1 rfl) _ om9 rfl<|ofE fl_39_2 rfl<|olE (((nth om.l k).prints).v) ti_23 (aA 1 rfl) om9 rfl<|.nl)<|qP bd_48 rfl (fun w h=>(tints_c ((nth ol.l i).prints) ((nth om.l k).prints) _ ((h.at 0 rfl).inner i (show i<ol.l.length from (by omega))).2 ((h.at 1 rfl).inner k (show k<om.l.length from (by omega))).2))<|qRn (oM 1 rfl<|.nl)<|qN z139<|hK k137<|fun a140 w140 h140=>x_quiet (by kernel_rfl) (by kernel_rfl) h140 fun _ z141=>qQ h140.fr<|qRn (oM 2 rfl<|.nl)<|?_;clear h138
    rcases Bool.eq_false_or_eq_true b0 with hb142|hb142
    ·skip
     refine qRn (oKs 12 hb142 rfl rfl<|oK2 rfl<|oKs 2 hb142 rfl rfl<|oK2 rfl<|oK hb142 rfl<|opT hb142 rfl<|oM 1 rfl<|.nl)<|qN z141<|?_;clear h140
     refine hK k34<|gF [0,1,2,3,9,10,11] rfl<|gL<|gRn (oM 1 rfl<|oadN _ 1 om9 rfl<|oM 1 rfl<|.nl)<|nN<|fun a148 w148 h148=>x_again ⟨_, ?_,(k+1),true, ?_, ?_,h148.nf ⟨rfl,rfl,rfl,rfl,rfl,rfl,rfl,trivial⟩,rfl⟩
     · rw [hm28];first|omega|(simp only [lens9];omega)
     · omega
     · intro j hj hm9;rcases Nat.lt_or_ge j k with h9|h9;(first|rfl|(have h8:=hin j h9 hm9;rw [show b0=false by assumption] at h8;cases h8));obtain rfl:j=k:=(by omega);obtain ⟨m1,m2,m3⟩:=hm9;first|rfl|exact decide_eq_true m3|exact absurd m1 (by assumption)|exact absurd m2 (by assumption)|exact absurd (hta.symm.trans m2) (by assumption)|exact absurd (m2.trans htb) (by assumption)|exact absurd (hta.symm.trans (m2.trans htb)) (by assumption)
    refine qRn (oG hb142 (r_move rfl rfl) rfl<|oG hb142 (r_move rfl rfl) rfl<|oG hb142 (r_ixN (s:=ol) (q:=i) sl_35 ti_39 rfl rfl rfl (fun w h=>(h.at 0 rfl)) (show i<ol.l.length from om9)) rfl<|oG hb142 (r_fieldE (r:=0) fl_39_0 rfl rfl rfl) rfl<|oG hb142 (r_lde (s:=ol) (i:=i) (v:= .int .i64 ((nth ol.l i).st)) ti_3 rfl rfl rfl (fun w h=>(h.at 0 rfl)) (show i<ol.l.length from om9) (Nat.le_of_ble_eq_true rfl) rfl) rfl<|oG hb142 (r_move rfl rfl) rfl<|oG hb142 (r_move rfl rfl) rfl<|oG hb142 (r_ixN (s:=om) (q:=k) sl_35 ti_39 rfl rfl rfl (fun w h=>(h.at 1 rfl)) (show k<om.l.length from om9)) rfl<|oG hb142 (r_fieldE (r:=0) fl_39_0 rfl rfl rfl) rfl<|oG hb142 (r_lde (s:=om) (i:=k) (v:= .int .i64 ((nth om.l k).st)) ti_3 rfl rfl rfl (fun w h=>(h.at 1 rfl)) (show k<om.l.length from om9) (Nat.le_of_ble_eq_true rfl) rfl) rfl<|oG hb142 (r_eqlI (p:=(nth ol.l i).st) (q:=(nth om.l k).st) rfl rfl rfl) rfl<|oG hb142 (r_move rfl rfl) rfl<|.nl)<|?_
    rcases dsp ((nth ol.l i).st=(nth om.l k).st) with ⟨hb161,hp161⟩|⟨hb161,hp161⟩
    ·skip
     refine qRn (oG hb161 (r_move rfl rfl) rfl<|oG hb142 (r_pickT rfl rfl hb161 rfl) rfl<|oG hb142 (r_move rfl rfl) rfl<|.nl)<|?_
     rcases dsp (((nth ol.l i).words).l=((((nth om.l k).words).l).take n)) with ⟨hb165,hp165⟩|⟨hb165,hp165⟩
     ·skip
      refine qRn (oG hb165 (r_move rfl rfl) rfl<|oG hb142 (r_pickT rfl rfl hb165 rfl) rfl<|opF hb142 rfl<|oM 1 rfl<|.nl)<|qN z141<|?_;clear h140
      refine hK k34<|gF [0,1,2,3,9,10,11] rfl<|gL<|gRn (oM 1 rfl<|oadN _ 1 om9 rfl<|oM 1 rfl<|.nl)<|nN<|fun a168 w168 h168=>x_again ⟨_, ?_,(k+1),decide (((nth ol.l i).prints).l=((nth om.l k).prints).l), ?_, ?_,h168.nf ⟨rfl,rfl,rfl,rfl,rfl,rfl,rfl,trivial⟩,rfl⟩
      · rw [hm28];first|omega|(simp only [lens9];omega)
      · omega
      · intro j hj hm9;rcases Nat.lt_or_ge j k with h9|h9;(first|rfl|(have h8:=hin j h9 hm9;rw [show b0=false by assumption] at h8;cases h8));obtain rfl:j=k:=(by omega);obtain ⟨m1,m2,m3⟩:=hm9;first|rfl|exact decide_eq_true m3|exact absurd m1 (by assumption)|exact absurd m2 (by assumption)|exact absurd (hta.symm.trans m2) (by assumption)|exact absurd (m2.trans htb) (by assumption)|exact absurd (hta.symm.trans (m2.trans htb)) (by assumption)
     refine qRn (oK hb165 rfl<|oG hb142 (r_pickF rfl rfl hb165 rfl) rfl<|opF hb142 rfl<|oM 1 rfl<|.nl)<|qN z141<|?_;clear h140
     refine hK k34<|gF [0,1,2,3,9,10,11] rfl<|gL<|gRn (oM 1 rfl<|oadN _ 1 om9 rfl<|oM 1 rfl<|.nl)<|nN<|fun a171 w171 h171=>x_again ⟨_, ?_,(k+1),false, ?_, ?_,h171.nf ⟨rfl,rfl,rfl,rfl,rfl,rfl,rfl,trivial⟩,rfl⟩
     · rw [hm28];first|omega|(simp only [lens9];omega)
     · omega
     · intro j hj hm9;rcases Nat.lt_or_ge j k with h9|h9;(first|rfl|(have h8:=hin j h9 hm9;rw [show b0=false by assumption] at h8;cases h8));obtain rfl:j=k:=(by omega);obtain ⟨m1,m2,m3⟩:=hm9;first|rfl|exact decide_eq_true m3|exact absurd m1 (by assumption)|exact absurd m2 (by assumption)|exact absurd (hta.symm.trans m2) (by assumption)|exact absurd (m2.trans htb) (by assumption)|exact absurd (hta.symm.trans (m2.trans htb)) (by assumption)
    refine qRn (oK hb161 rfl<|oG hb142 (r_pickF rfl rfl hb161 rfl) rfl<|oG hb142 (r_move rfl rfl) rfl<|oK rfl rfl<|oG hb142 (r_pickF rfl rfl rfl rfl) rfl<|opF hb142 rfl<|oM 1 rfl<|.nl)<|qN z141<|?_;clear h140
    refine hK k34<|gF [0,1,2,3,9,10,11] rfl<|gL<|gRn (oM 1 rfl<|oadN _ 1 om9 rfl<|oM 1 rfl<|.nl)<|nN<|fun a177 w177 h177=>x_again ⟨_, ?_,(k+1),false, ?_, ?_,h177.nf ⟨rfl,rfl,rfl,rfl,rfl,rfl,rfl,trivial⟩,rfl⟩
    · rw [hm28];first|omega|(simp only [lens9];omega)
    · omega
    · intro j hj hm9;rcases Nat.lt_or_ge j k with h9|h9;(first|rfl|(have h8:=hin j h9 hm9;rw [show b0=false by assumption] at h8;cases h8));obtain rfl:j=k:=(by omega);obtain ⟨m1,m2,m3⟩:=hm9;first|rfl|exact decide_eq_true m3|exact absurd m1 (by assumption)|exact absurd m2 (by assumption)|exact absurd (hta.symm.trans m2) (by assumption)|exact absurd (m2.trans htb) (by assumption)|exact absurd (hta.symm.trans (m2.trans htb)) (by assumption)
   have htb:(nth om.l k).words.l.take n=(nth om.l k).words.l:=List.take_of_length_le (by omega)
   refine gS<|hK k131<|sK fun _ k178=>gRn (oM 2 rfl<|.nl)<|gP (fun _ _ h_=>xCl h_ bd_48 rfl (tints_c ((nth ol.l i).words) ((nth om.l k).words) _ ((h_.sh.at 0 rfl).inner i (show i<ol.l.length from (by omega))).1 ((h_.sh.at 1 rfl).inner k (show k<om.l.length from (by omega))).1)) rfl<|gRn (oM 1 rfl<|.nl)<|nK k178<|gF [0,1,2,3,9,10,11,14] rfl<|gK fun _ k180=>fun a181 w181 h181=>x_quiet (by kernel_rfl) (by kernel_rfl) h181 fun _ z182=>qQ h181.fr<|qRn (oM 2 rfl<|oxN sl_35 ti_39 (aA 0 rfl) _ om9 rfl<|ofE fl_39_2 rfl<|olE (((nth ol.l i).prints).v) ti_23 (aA 0 rfl) om9 rfl<|oM 2 rfl<|oxN sl_35 ti_39 (aA 1 rfl) _ om9 rfl<|ofE fl_39_2 rfl<|olE (((nth om.l k).prints).v) ti_23 (aA 1 rfl) om9 rfl<|.nl)<|qP bd_48 rfl (fun w h=>(tints_c ((nth ol.l i).prints) ((nth om.l k).prints) _ ((h.at 0 rfl).inner i (show i<ol.l.length from (by omega))).2 ((h.at 1 rfl).inner k (show k<om.l.length from (by omega))).2))<|qRn (oM 1 rfl<|.nl)<|qN z182<|hK k180<|fun a183 w183 h183=>x_quiet (by kernel_rfl) (by kernel_rfl) h183 fun _ z184=>qQ h183.fr<|qRn (oM 2 rfl<|.nl)<|?_;clear h181
   rcases Bool.eq_false_or_eq_true b0 with hb185|hb185
   ·skip
    refine qRn (oKs 12 hb185 rfl rfl<|oK2 rfl<|oKs 2 hb185 rfl rfl<|oK2 rfl<|oK hb185 rfl<|opT hb185 rfl<|oM 1 rfl<|.nl)<|qN z184<|?_;clear h183
    refine hK k34<|gF [0,1,2,3,9,10,11] rfl<|gL<|gRn (oM 1 rfl<|oadN _ 1 om9 rfl<|oM 1 rfl<|.nl)<|nN<|fun a191 w191 h191=>x_again ⟨_, ?_,(k+1),true, ?_, ?_,h191.nf ⟨rfl,rfl,rfl,rfl,rfl,rfl,rfl,trivial⟩,rfl⟩
    · rw [hm28];first|omega|(simp only [lens9];omega)
    · omega
    · intro j hj hm9;rcases Nat.lt_or_ge j k with h9|h9;(first|rfl|(have h8:=hin j h9 hm9;rw [show b0=false by assumption] at h8;cases h8));obtain rfl:j=k:=(by omega);obtain ⟨m1,m2,m3⟩:=hm9;first|rfl|exact decide_eq_true m3|exact absurd m1 (by assumption)|exact absurd m2 (by assumption)|exact absurd (hta.symm.trans m2) (by assumption)|exact absurd (m2.trans htb) (by assumption)|exact absurd (hta.symm.trans (m2.trans htb)) (by assumption)
   refine qRn (oG hb185 (r_move rfl rfl) rfl<|oG hb185 (r_move rfl rfl) rfl<|oG hb185 (r_ixN (s:=ol) (q:=i) sl_35 ti_39 rfl rfl rfl (fun w h=>(h.at 0 rfl)) (show i<ol.l.length from om9)) rfl<|oG hb185 (r_fieldE (r:=0) fl_39_0 rfl rfl rfl) rfl<|oG hb185 (r_lde (s:=ol) (i:=i) (v:= .int .i64 ((nth ol.l i).st)) ti_3 rfl rfl rfl (fun w h=>(h.at 0 rfl)) (show i<ol.l.length from om9) (Nat.le_of_ble_eq_true rfl) rfl) rfl<|oG hb185 (r_move rfl rfl) rfl<|oG hb185 (r_move rfl rfl) rfl<|oG hb185 (r_ixN (s:=om) (q:=k) sl_35 ti_39 rfl rfl rfl (fun w h=>(h.at 1 rfl)) (show k<om.l.length from om9)) rfl<|oG hb185 (r_fieldE (r:=0) fl_39_0 rfl rfl rfl) rfl<|oG hb185 (r_lde (s:=om) (i:=k) (v:= .int .i64 ((nth om.l k).st)) ti_3 rfl rfl rfl (fun w h=>(h.at 1 rfl)) (show k<om.l.length from om9) (Nat.le_of_ble_eq_true rfl) rfl) rfl<|oG hb185 (r_eqlI (p:=(nth ol.l i).st) (q:=(nth om.l k).st) rfl rfl rfl) rfl<|oG hb185 (r_move rfl rfl) rfl<|.nl)<|?_
   rcases dsp ((nth ol.l i).st=(nth om.l k).st) with ⟨hb204,hp204⟩|⟨hb204,hp204⟩
   ·skip
    refine qRn (oG hb204 (r_move rfl rfl) rfl<|oG hb185 (r_pickT rfl rfl hb204 rfl) rfl<|oG hb185 (r_move rfl rfl) rfl<|.nl)<|?_
    rcases dsp (((nth ol.l i).words).l=((nth om.l k).words).l) with ⟨hb208,hp208⟩|⟨hb208,hp208⟩
    ·skip
     refine qRn (oG hb208 (r_move rfl rfl) rfl<|oG hb185 (r_pickT rfl rfl hb208 rfl) rfl<|opF hb185 rfl<|oM 1 rfl<|.nl)<|qN z184<|?_;clear h183
     refine hK k34<|gF [0,1,2,3,9,10,11] rfl<|gL<|gRn (oM 1 rfl<|oadN _ 1 om9 rfl<|oM 1 rfl<|.nl)<|nN<|fun a211 w211 h211=>x_again ⟨_, ?_,(k+1),decide (((nth ol.l i).prints).l=((nth om.l k).prints).l), ?_, ?_,h211.nf ⟨rfl,rfl,rfl,rfl,rfl,rfl,rfl,trivial⟩,rfl⟩
     · rw [hm28];first|omega|(simp only [lens9];omega)
     · omega
     · intro j hj hm9;rcases Nat.lt_or_ge j k with h9|h9;(first|rfl|(have h8:=hin j h9 hm9;rw [show b0=false by assumption] at h8;cases h8));obtain rfl:j=k:=(by omega);obtain ⟨m1,m2,m3⟩:=hm9;first|rfl|exact decide_eq_true m3|exact absurd m1 (by assumption)|exact absurd m2 (by assumption)|exact absurd (hta.symm.trans m2) (by assumption)|exact absurd (m2.trans htb) (by assumption)|exact absurd (hta.symm.trans (m2.trans htb)) (by assumption)
    refine qRn (oK hb208 rfl<|oG hb185 (r_pickF rfl rfl hb208 rfl) rfl<|opF hb185 rfl<|oM 1 rfl<|.nl)<|qN z184<|?_;clear h183
    refine hK k34<|gF [0,1,2,3,9,10,11] rfl<|gL<|gRn (oM 1 rfl<|oadN _ 1 om9 rfl<|oM 1 rfl<|.nl)<|nN<|fun a214 w214 h214=>x_again ⟨_, ?_,(k+1),false, ?_, ?_,h214.nf ⟨rfl,rfl,rfl,rfl,rfl,rfl,rfl,trivial⟩,rfl⟩
    · rw [hm28];first|omega|(simp only [lens9];omega)
    · omega
    · intro j hj hm9;rcases Nat.lt_or_ge j k with h9|h9;(first|rfl|(have h8:=hin j h9 hm9;rw [show b0=false by assumption] at h8;cases h8));obtain rfl:j=k:=(by omega);obtain ⟨m1,m2,m3⟩:=hm9;first|rfl|exact decide_eq_true m3|exact absurd m1 (by assumption)|exact absurd m2 (by assumption)|exact absurd (hta.symm.trans m2) (by assumption)|exact absurd (m2.trans htb) (by assumption)|exact absurd (hta.symm.trans (m2.trans htb)) (by assumption)
   refine qRn (oK hb204 rfl<|oG hb185 (r_pickF rfl rfl hb204 rfl) rfl<|oG hb185 (r_move rfl rfl) rfl<|oK rfl rfl<|oG hb185 (r_pickF rfl rfl rfl rfl) rfl<|opF hb185 rfl<|oM 1 rfl<|.nl)<|qN z184<|?_;clear h183
   refine hK k34<|gF [0,1,2,3,9,10,11] rfl<|gL<|gRn (oM 1 rfl<|oadN _ 1 om9 rfl<|oM 1 rfl<|.nl)<|nN<|fun a220 w220 h220=>x_again ⟨_, ?_,(k+1),false, ?_, ?_,h220.nf ⟨rfl,rfl,rfl,rfl,rfl,rfl,rfl,trivial⟩,rfl⟩
   · rw [hm28];first|omega|(simp only [lens9];omega)
   · omega
   · intro j hj hm9;rcases Nat.lt_or_ge j k with h9|h9;(first|rfl|(have h8:=hin j h9 hm9;rw [show b0=false by assumption] at h8;cases h8));obtain rfl:j=k:=(by omega);obtain ⟨m1,m2,m3⟩:=hm9;first|rfl|exact decide_eq_true m3|exact absurd m1 (by assumption)|exact absurd m2 (by assumption)|exact absurd (hta.symm.trans m2) (by assumption)|exact absurd (m2.trans htb) (by assumption)|exact absurd (hta.symm.trans (m2.trans htb)) (by assumption)
  refine gX<|hK k26<|?_
  have hin9:b0=true:=by obtain ⟨j,hj,h1⟩:=hmt i (by omega) (by omega);exact hin j (by omega) h1
  refine sG (oM 1 rfl<|ont rfl<|.nl)<|gcF rfl (by rw [hin9];rfl)<|gS<|hK k20<|gL<|gRn (oM 1 rfl<|oadN _ 1 om9 rfl<|oM 1 rfl<|.nl)<|nN<|fun a222 w222 h222=> ?_
  refine x_again ⟨_, ?_,i+1, ?_,h222.nf ⟨rfl,rfl,rfl,rfl,rfl,trivial⟩,rfl⟩
  · rw [hm14];first|omega|(simp only [lens9];omega)
  · omega
 refine gX<|hK k12<|sG (oM 1 rfl<|.nl)<|gR<|fun a224 w224 h224=>x_ret1 (fn:=Tryz.f19) (t:=8) rfl h224 rfl ?_
 exact ⟨rfl,(h224.sh.sel [] rfl)⟩
theorem topSpun_v (code:Ls (Ls Ins))(words:Ls Int)(locks regs:Int)(W:World)(hcode:code.At W)(hwords:words.At W)(hv:vastG (code.l.map (·.l)) words.l=true):
    Rets Tryz.prog 3 [.agg #[code.v,words.v, .int .i64 locks, .int .i64 regs]] W (fun v w' =>v= .bool true∧Sh0 W w' []):=by
 refine gen Tryz.func3 Tryz.ntmps3 (Sh0.ext2 hcode hwords:Sh (fun _=>False) W W [.at_ code, .at_ words]) rfl fun a10 h10=>gG h10<|sK fun _ k11=>gbx rfl rfl fun b12=>gRn (oM 1 rfl<|.nl)<|nK k11<|sK fun _ k13=>gRn (oV (r_build (cs:= [.int .i64 17, .int .i64 0, .int .i64 0, .int .i64 0]) rfl rfl (by kernel_rfl)) rfl<|oV (r_build (cs:= [.int .i64 18, .int .i64 0, .int .i64 0, .int .i64 0]) rfl rfl (by kernel_rfl)) rfl<|.nl)<|gE1 (fun _ _ h_=>x_lit (n:=2) (cs:= [.int .i64 17, .int .i64 0, .int .i64 0, .int .i64 0, .int .i64 18, .int .i64 0, .int .i64 0, .int .i64 0]) ([(⟨17,0,0,0⟩:Ins),(⟨18,0,0,0⟩:Ins)]:List Ins) h_ sl_33 ti_32 rfl rfl rfl (by decide) rfl (by kernel_rfl) rfl (fun q hq w h=>Flat.inner _ _) (fun q hq b hb=>(Flat.on _ _ hb).elim) rfl rfl) rfl fun v14=>gE1 (fun _ _ h_=>x_litD (E:=0) (x:=(⟨v14, [(⟨17,0,0,0⟩:Ins),(⟨18,0,0,0⟩:Ins)]⟩:Ls Ins)) h_ sl_22 ti_33 rfl rfl rfl ((h_.sh.own 0 rfl)) (fun b hb=>(own_on (h_.sh.ok _ (List.mem_of_getElem? (i:=0) rfl)) hb).elim (fun h=>h) (fun h=>Flat.noRd h)) (fun b hb=>Flat.noRd hb) rfl rfl) rfl fun v15=>gRn (oV (r_buildS (cs:= [v15,(.slice none 0 0), .int .i64 1, .int .i64 1]) rfl rfl (fun w h=>by obtain ⟨A16,n16,c16,(e16:v15=_)⟩:=((h.deep 0 rfl)).form;rw [e16];kernel_rfl)) rfl<|.nl)<|fun a18 w18 h18=> ?_;clear h10
 refine wl_ex (x_call h18 bd_16 rfl rfl rfl rfl rfl (linkT (⟨v15, [(⟨v14, [(⟨17,0,0,0⟩:Ins),(⟨18,0,0,0⟩:Ins)]⟩:Ls Ins)]⟩:Ls (Ls Ins)) (⟨.slice none 0 0, []⟩:Ls Int) _ (h18.sh.deep 0 rfl) (Sh.nilAt (α:=Int) h18.sh) rfl rfl)) (wanted_none rfl _) ?_
 rintro a19 w19 ⟨_,⟨c19,u19,rfl,⟨hfl19,hfm19,hfw19⟩,hs19⟩,hf19⟩
 have h19:=(⟨hf19,h18.sh.call hs19 (by intro A hA b hb;simp only [List.mem_cons,List.not_mem_nil,or_false] at hA;first|(subst hA;exact Flat.noRd hb)|(rcases hA with rfl|rfl<;>first|exact (hb:False).elim|exact Flat.noRd hb|exact .inl (hb:_)))⟩:St 104 (fun _=>False) W a19 w19 _ _)
 clear hf19 hs19
 clear h18
 refine gG h19<|gRn (oM 1 rfl<|oxt rfl<|oxt rfl<|.nl)<|gal ti_25 rfl fun b20=>gal ti_28 rfl fun b21=>gE (fun _ _ h_=>x_stb (i:=1) (vs:= [c19.v,u19.v, .int .i64 0, .int .i64 8]) (cs' := [c19.v,u19.v, .int .i64 0, .int .i64 8]) h_ ti_25 rfl rfl rfl rfl rfl rfl rfl (allOne_cons ((h_.sh.deep 2 rfl)).one (allOne_cons ((h_.sh.own 3 rfl)).one (allOne_cons rfl (allOne_cons rfl allOne_nil)))) (Nat.le_of_ble_eq_true rfl) rfl) rfl<|gsw 0 ti_28 rfl rfl rfl<|nK k13<|gK fun _ k24=>sK fun _ k25=>gNl (aD 2 rfl) fun hl26=>gNl (fun w h=>((h.deep 2 rfl).nth 0 (show 0<c19.l.length from (by omega)))) fun (hl27:((nth c19.l 0).l).length≤140737488355328)=>gNl (aO 3 rfl) fun hl28=>gRn (ofB fl_28_0 rfl<|olB 0 ti_26 rfl rfl<|oneN 0 0 rfl<|oM 1 rfl<|oG (by decide) (r_fieldB (r:=0) fl_25_0 rfl rfl rfl) rfl<|oG (by decide) (r_ldb (i:=1) ti_22 rfl rfl rfl rfl) rfl<|oG (by decide) (r_len (s:=c19) (n:=c19.l.length) sl_22 rfl rfl (fun w h=>(h.deep 2 rfl)) rfl) rfl<|oG (by decide) (r_neqN (p:=c19.l.length) (q:=1) rfl rfl rfl) rfl<|opF (by decide) rfl<|oM 1 rfl<|oG (decide_eq_false (by omega)) (r_fieldB (r:=0) fl_25_0 rfl rfl rfl) rfl<|oG (decide_eq_false (by omega)) (r_ldb (i:=1) ti_22 rfl rfl rfl rfl) rfl<|oG (decide_eq_false (by omega)) (r_ixN (s:=c19) (q:=0) sl_22 ti_33 rfl rfl rfl (fun w h=>(h.deep 2 rfl)) (show 0<c19.l.length from om9)) rfl<|oG (decide_eq_false (by omega)) (r_lde (s:=c19) (i:=0) (v:=(nth c19.l 0).v) ti_33 rfl rfl rfl (fun w h=>(h.deep 2 rfl)) (show 0<c19.l.length from om9) (Nat.le_of_ble_eq_true rfl) rfl) rfl<|oG (decide_eq_false (by omega)) (r_len (s:=nth c19.l 0) (n:=((nth c19.l 0).l).length) sl_33 rfl rfl (fun w h=>((h.deep 2 rfl).nth 0 (show 0<c19.l.length from om9))) rfl) rfl<|oG (decide_eq_false (by omega)) (r_neqN (p:=((nth c19.l 0).l).length) (q:=6) rfl rfl rfl) rfl<|opF (decide_eq_false (by omega)) rfl<|oM 1 rfl<|oG (decide_eq_false (by omega)) (r_fieldB (r:=2) fl_25_2 rfl rfl rfl) rfl<|oG (decide_eq_false (by omega)) (r_ldb (i:=1) ti_3 rfl rfl rfl rfl) rfl<|oG (decide_eq_false (by omega)) (r_neqN (p:=0) (q:=0) rfl rfl rfl) rfl<|opF (decide_eq_false (by omega)) rfl<|oM 1 rfl<|oG (by decide) (r_fieldB (r:=1) fl_25_1 rfl rfl rfl) rfl<|oG (by decide) (r_ldb (i:=1) ti_23 rfl rfl rfl rfl) rfl<|oG (by decide) (r_len (s:=u19) (n:=u19.l.length) sl_23 rfl rfl (fun w h=>(h.own 3 rfl)) rfl) rfl<|oG (by decide) (r_neqN (p:=u19.l.length) (q:=1) rfl rfl rfl) rfl<|opF (by decide) rfl<|.nl)<|nK k25<|gF [1,3,4,48] rfl<|gcF rfl (decide_eq_false (by omega))<|gS<|hK k24<|gK fun _ k29=>sK fun _ k30=>gRn (olw 5 ti_25 rfl rfl<|.nl)<|fun a32 w32 h32=>wl_ex (x_call h32 bd_17 rfl rfl rfl rfl rfl (tvast_c code words locks regs _ (h32.sh.at 6 rfl) (h32.sh.at 7 rfl))) (wanted_none rfl _) ?_;clear h19
 rintro a33 w33 ⟨_,⟨rfl,hs33⟩,hf33⟩
 have h33:St 104 (fun _=>False) W a33 w33 _ _:=⟨hf33,h32.sh.call0 hs33⟩
 clear hf33 hs33
 clear h32
 refine gG h33<|nK k30<|gcT rfl hv<|sG (oM 1 rfl<|.nl)<|gR<|uT<|fun a35 w35 h35=>x_ret1 (fn:=Tryz.f3) (t:=2) rfl h35 rfl ?_;clear h33
 exact ⟨rfl,(h35.sh.sel [] rfl)⟩
theorem topSpun_b (code:Ls (Ls Ins))(words:Ls Int)(locks regs:Int)(W:World)(hcode:code.At W)(hwords:words.At W)(hv:vastG (code.l.map (·.l)) words.l=false)(hz:(checkG (pgOf code words locks regs)).code≠0):
    Rets Tryz.prog 3 [.agg #[code.v,words.v, .int .i64 locks, .int .i64 regs]] W (fun v w' =>v= .bool true∧Sh0 W w' []):=by
 refine gen Tryz.func3 Tryz.ntmps3 (Sh0.ext2 hcode hwords:Sh (fun _=>False) W W [.at_ code, .at_ words]) rfl fun a10 h10=>gG h10<|sK fun _ k11=>gbx rfl rfl fun b12=>gRn (oM 1 rfl<|.nl)<|nK k11<|sK fun _ k13=>gRn (oV (r_build (cs:= [.int .i64 17, .int .i64 0, .int .i64 0, .int .i64 0]) rfl rfl (by kernel_rfl)) rfl<|oV (r_build (cs:= [.int .i64 18, .int .i64 0, .int .i64 0, .int .i64 0]) rfl rfl (by kernel_rfl)) rfl<|.nl)<|gE1 (fun _ _ h_=>x_lit (n:=2) (cs:= [.int .i64 17, .int .i64 0, .int .i64 0, .int .i64 0, .int .i64 18, .int .i64 0, .int .i64 0, .int .i64 0]) ([(⟨17,0,0,0⟩:Ins),(⟨18,0,0,0⟩:Ins)]:List Ins) h_ sl_33 ti_32 rfl rfl rfl (by decide) rfl (by kernel_rfl) rfl (fun q hq w h=>Flat.inner _ _) (fun q hq b hb=>(Flat.on _ _ hb).elim) rfl rfl) rfl fun v14=>gE1 (fun _ _ h_=>x_litD (E:=0) (x:=(⟨v14, [(⟨17,0,0,0⟩:Ins),(⟨18,0,0,0⟩:Ins)]⟩:Ls Ins)) h_ sl_22 ti_33 rfl rfl rfl ((h_.sh.own 0 rfl)) (fun b hb=>(own_on (h_.sh.ok _ (List.mem_of_getElem? (i:=0) rfl)) hb).elim (fun h=>h) (fun h=>Flat.noRd h)) (fun b hb=>Flat.noRd hb) rfl rfl) rfl fun v15=>gRn (oV (r_buildS (cs:= [v15,(.slice none 0 0), .int .i64 1, .int .i64 1]) rfl rfl (fun w h=>by obtain ⟨A16,n16,c16,(e16:v15=_)⟩:=((h.deep 0 rfl)).form;rw [e16];kernel_rfl)) rfl<|.nl)<|fun a18 w18 h18=> ?_;clear h10
 refine wl_ex (x_call h18 bd_16 rfl rfl rfl rfl rfl (linkT (⟨v15, [(⟨v14, [(⟨17,0,0,0⟩:Ins),(⟨18,0,0,0⟩:Ins)]⟩:Ls Ins)]⟩:Ls (Ls Ins)) (⟨.slice none 0 0, []⟩:Ls Int) _ (h18.sh.deep 0 rfl) (Sh.nilAt (α:=Int) h18.sh) rfl rfl)) (wanted_none rfl _) ?_
 rintro a19 w19 ⟨_,⟨c19,u19,rfl,⟨hfl19,hfm19,hfw19⟩,hs19⟩,hf19⟩
 have h19:=(⟨hf19,h18.sh.call hs19 (by intro A hA b hb;simp only [List.mem_cons,List.not_mem_nil,or_false] at hA;first|(subst hA;exact Flat.noRd hb)|(rcases hA with rfl|rfl<;>first|exact (hb:False).elim|exact Flat.noRd hb|exact .inl (hb:_)))⟩:St 104 (fun _=>False) W a19 w19 _ _)
 clear hf19 hs19
 clear h18
 refine gG h19<|gRn (oM 1 rfl<|oxt rfl<|oxt rfl<|.nl)<|gal ti_25 rfl fun b20=>gal ti_28 rfl fun b21=>gE (fun _ _ h_=>x_stb (i:=1) (vs:= [c19.v,u19.v, .int .i64 0, .int .i64 8]) (cs' := [c19.v,u19.v, .int .i64 0, .int .i64 8]) h_ ti_25 rfl rfl rfl rfl rfl rfl rfl (allOne_cons ((h_.sh.deep 2 rfl)).one (allOne_cons ((h_.sh.own 3 rfl)).one (allOne_cons rfl (allOne_cons rfl allOne_nil)))) (Nat.le_of_ble_eq_true rfl) rfl) rfl<|gsw 0 ti_28 rfl rfl rfl<|nK k13<|gK fun _ k24=>sK fun _ k25=>gNl (aD 2 rfl) fun hl26=>gNl (fun w h=>((h.deep 2 rfl).nth 0 (show 0<c19.l.length from (by omega)))) fun (hl27:((nth c19.l 0).l).length≤140737488355328)=>gNl (aO 3 rfl) fun hl28=>gRn (ofB fl_28_0 rfl<|olB 0 ti_26 rfl rfl<|oneN 0 0 rfl<|oM 1 rfl<|oG (by decide) (r_fieldB (r:=0) fl_25_0 rfl rfl rfl) rfl<|oG (by decide) (r_ldb (i:=1) ti_22 rfl rfl rfl rfl) rfl<|oG (by decide) (r_len (s:=c19) (n:=c19.l.length) sl_22 rfl rfl (fun w h=>(h.deep 2 rfl)) rfl) rfl<|oG (by decide) (r_neqN (p:=c19.l.length) (q:=1) rfl rfl rfl) rfl<|opF (by decide) rfl<|oM 1 rfl<|oG (decide_eq_false (by omega)) (r_fieldB (r:=0) fl_25_0 rfl rfl rfl) rfl<|oG (decide_eq_false (by omega)) (r_ldb (i:=1) ti_22 rfl rfl rfl rfl) rfl<|oG (decide_eq_false (by omega)) (r_ixN (s:=c19) (q:=0) sl_22 ti_33 rfl rfl rfl (fun w h=>(h.deep 2 rfl)) (show 0<c19.l.length from om9)) rfl<|oG (decide_eq_false (by omega)) (r_lde (s:=c19) (i:=0) (v:=(nth c19.l 0).v) ti_33 rfl rfl rfl (fun w h=>(h.deep 2 rfl)) (show 0<c19.l.length from om9) (Nat.le_of_ble_eq_true rfl) rfl) rfl<|oG (decide_eq_false (by omega)) (r_len (s:=nth c19.l 0) (n:=((nth c19.l 0).l).length) sl_33 rfl rfl (fun w h=>((h.deep 2 rfl).nth 0 (show 0<c19.l.length from om9))) rfl) rfl<|oG (decide_eq_false (by omega)) (r_neqN (p:=((nth c19.l 0).l).length) (q:=6) rfl rfl rfl) rfl<|opF (decide_eq_false (by omega)) rfl<|oM 1 rfl<|oG (decide_eq_false (by omega)) (r_fieldB (r:=2) fl_25_2 rfl rfl rfl) rfl<|oG (decide_eq_false (by omega)) (r_ldb (i:=1) ti_3 rfl rfl rfl rfl) rfl<|oG (decide_eq_false (by omega)) (r_neqN (p:=0) (q:=0) rfl rfl rfl) rfl<|opF (decide_eq_false (by omega)) rfl<|oM 1 rfl<|oG (by decide) (r_fieldB (r:=1) fl_25_1 rfl rfl rfl) rfl<|oG (by decide) (r_ldb (i:=1) ti_23 rfl rfl rfl rfl) rfl<|oG (by decide) (r_len (s:=u19) (n:=u19.l.length) sl_23 rfl rfl (fun w h=>(h.own 3 rfl)) rfl) rfl<|oG (by decide) (r_neqN (p:=u19.l.length) (q:=1) rfl rfl rfl) rfl<|opF (by decide) rfl<|.nl)<|nK k25<|gF [1,3,4,48] rfl<|gcF rfl (decide_eq_false (by omega))<|gS<|hK k24<|gK fun _ k29=>sK fun _ k30=>gRn (olw 5 ti_25 rfl rfl<|.nl)<|fun a32 w32 h32=>wl_ex (x_call h32 bd_17 rfl rfl rfl rfl rfl (tvast_c code words locks regs _ (h32.sh.at 6 rfl) (h32.sh.at 7 rfl))) (wanted_none rfl _) ?_;clear h19
 rintro a33 w33 ⟨_,⟨rfl,hs33⟩,hf33⟩
 have h33:St 104 (fun _=>False) W a33 w33 _ _:=⟨hf33,h32.sh.call0 hs33⟩
 clear hf33 hs33
 clear h32
 refine gG h33<|nK k30<|gcF rfl hv<|gS<|hK k29<|sK fun _ k34=>gRn (olw 5 ti_25 rfl rfl<|.nl)<|fun a36 w36 h36=>wl_ex (x_call h36 bd_16 rfl rfl rfl rfl rfl (link_b code words locks regs _ (h36.sh.at 6 rfl) (h36.sh.at 7 rfl) hz)) (wanted_none rfl _) ?_;clear h33
 rintro a37 w37 ⟨_,⟨rfl,hs37⟩,hf37⟩
 have h37:St 104 (fun _=>False) W a37 w37 _ _:=⟨hf37,h36.sh.call0 hs37⟩
 clear hf37 hs37
 clear h36
 refine gG h37<|gRn (oM 1 rfl<|oxt rfl<|oxt rfl<|.nl)<|gE (fun _ _ h_=>x_stb (i:=1) (vs:= [(.slice none 0 0),(.slice none 0 0), .int .i64 0, .int .i64 0]) (cs' := [(.slice none 0 0),(.slice none 0 0), .int .i64 0, .int .i64 0]) h_ ti_25 rfl rfl rfl rfl rfl rfl rfl (allOne_cons ((Sh.nilAt (α:=Ls Ins) h_.sh)).one (allOne_cons ((Sh.nilAt (α:=Int) h_.sh)).one (allOne_cons rfl (allOne_cons rfl allOne_nil)))) (Nat.le_of_ble_eq_true rfl) rfl) rfl<|gsw 0 ti_28 rfl rfl rfl<|nK k34<|gK fun _ k40=>sG (ofB fl_28_0 rfl<|olB 0 ti_26 rfl rfl<|oneI _ _ rfl<|.nl)<|gcT rfl (decide_eq_true hz)<|sG (oM 1 rfl<|.nl)<|gR<|uT<|fun a43 w43 h43=>x_ret1 (fn:=Tryz.f3) (t:=2) rfl h43 rfl ?_;clear h37
 exact ⟨rfl,(h43.sh.sel [] rfl)⟩
theorem topSpun_k (code:Ls (Ls Ins))(words:Ls Int)(Lk R:Nat)(W:World)(hcode:code.At W)(hwords:words.At W)(hv:vastG (code.l.map (·.l)) words.l=false)(hok:OkPg (pgN code words Lk R))(hR:PgR (pgN code words Lk R))(hr:(R:Int)≤6)(hs:(words.l.length:Int)+(Lk:Int)≤64)(hshort:∀j,j<code.l.length→(linkL words.l.length (nth code.l j).l).length≤400):
    Rets Tryz.prog 3 [.agg #[code.v,words.v, .int .i64 ((Lk:Nat):Int), .int .i64 ((R:Nat):Int)]] W (fun v w' =>v= .bool true∧Sh0 W w' []):=by
 refine gen Tryz.func3 Tryz.ntmps3 (Sh0.ext2 hcode hwords:Sh (fun _=>False) W W [.at_ code, .at_ words]) rfl fun a10 h10=>gG h10<|sK fun _ k11=>gbx rfl rfl fun b12=>gRn (oM 1 rfl<|.nl)<|nK k11<|sK fun _ k13=>gRn (oV (r_build (cs:= [.int .i64 17, .int .i64 0, .int .i64 0, .int .i64 0]) rfl rfl (by kernel_rfl)) rfl<|oV (r_build (cs:= [.int .i64 18, .int .i64 0, .int .i64 0, .int .i64 0]) rfl rfl (by kernel_rfl)) rfl<|.nl)<|gE1 (fun _ _ h_=>x_lit (n:=2) (cs:= [.int .i64 17, .int .i64 0, .int .i64 0, .int .i64 0, .int .i64 18, .int .i64 0, .int .i64 0, .int .i64 0]) ([(⟨17,0,0,0⟩:Ins),(⟨18,0,0,0⟩:Ins)]:List Ins) h_ sl_33 ti_32 rfl rfl rfl (by decide) rfl (by kernel_rfl) rfl (fun q hq w h=>Flat.inner _ _) (fun q hq b hb=>(Flat.on _ _ hb).elim) rfl rfl) rfl fun v14=>gE1 (fun _ _ h_=>x_litD (E:=0) (x:=(⟨v14, [(⟨17,0,0,0⟩:Ins),(⟨18,0,0,0⟩:Ins)]⟩:Ls Ins)) h_ sl_22 ti_33 rfl rfl rfl ((h_.sh.own 0 rfl)) (fun b hb=>(own_on (h_.sh.ok _ (List.mem_of_getElem? (i:=0) rfl)) hb).elim (fun h=>h) (fun h=>Flat.noRd h)) (fun b hb=>Flat.noRd hb) rfl rfl) rfl fun v15=>gRn (oV (r_buildS (cs:= [v15,(.slice none 0 0), .int .i64 1, .int .i64 1]) rfl rfl (fun w h=>by obtain ⟨A16,n16,c16,(e16:v15=_)⟩:=((h.deep 0 rfl)).form;rw [e16];kernel_rfl)) rfl<|.nl)<|fun a18 w18 h18=> ?_;clear h10
 refine wl_ex (x_call h18 bd_16 rfl rfl rfl rfl rfl (linkT (⟨v15, [(⟨v14, [(⟨17,0,0,0⟩:Ins),(⟨18,0,0,0⟩:Ins)]⟩:Ls Ins)]⟩:Ls (Ls Ins)) (⟨.slice none 0 0, []⟩:Ls Int) _ (h18.sh.deep 0 rfl) (Sh.nilAt (α:=Int) h18.sh) rfl rfl)) (wanted_none rfl _) ?_
 rintro a19 w19 ⟨_,⟨c19,u19,rfl,⟨hfl19,hfm19,hfw19⟩,hs19⟩,hf19⟩
 have h19:=(⟨hf19,h18.sh.call hs19 (by intro A hA b hb;simp only [List.mem_cons,List.not_mem_nil,or_false] at hA;first|(subst hA;exact Flat.noRd hb)|(rcases hA with rfl|rfl<;>first|exact (hb:False).elim|exact Flat.noRd hb|exact .inl (hb:_)))⟩:St 104 (fun _=>False) W a19 w19 _ _)
 clear hf19 hs19
 clear h18
 refine gG h19<|gRn (oM 1 rfl<|oxt rfl<|oxt rfl<|.nl)<|gal ti_25 rfl fun b20=>gal ti_28 rfl fun b21=>gE (fun _ _ h_=>x_stb (i:=1) (vs:= [c19.v,u19.v, .int .i64 0, .int .i64 8]) (cs' := [c19.v,u19.v, .int .i64 0, .int .i64 8]) h_ ti_25 rfl rfl rfl rfl rfl rfl rfl (allOne_cons ((h_.sh.deep 2 rfl)).one (allOne_cons ((h_.sh.own 3 rfl)).one (allOne_cons rfl (allOne_cons rfl allOne_nil)))) (Nat.le_of_ble_eq_true rfl) rfl) rfl<|gsw 0 ti_28 rfl rfl rfl<|nK k13<|gK fun _ k24=>sK fun _ k25=>gNl (aD 2 rfl) fun hl26=>gNl (fun w h=>((h.deep 2 rfl).nth 0 (show 0<c19.l.length from (by omega)))) fun (hl27:((nth c19.l 0).l).length≤140737488355328)=>gNl (aO 3 rfl) fun hl28=>gRn (ofB fl_28_0 rfl<|olB 0 ti_26 rfl rfl<|oneN 0 0 rfl<|oM 1 rfl<|oG (by decide) (r_fieldB (r:=0) fl_25_0 rfl rfl rfl) rfl<|oG (by decide) (r_ldb (i:=1) ti_22 rfl rfl rfl rfl) rfl<|oG (by decide) (r_len (s:=c19) (n:=c19.l.length) sl_22 rfl rfl (fun w h=>(h.deep 2 rfl)) rfl) rfl<|oG (by decide) (r_neqN (p:=c19.l.length) (q:=1) rfl rfl rfl) rfl<|opF (by decide) rfl<|oM 1 rfl<|oG (decide_eq_false (by omega)) (r_fieldB (r:=0) fl_25_0 rfl rfl rfl) rfl<|oG (decide_eq_false (by omega)) (r_ldb (i:=1) ti_22 rfl rfl rfl rfl) rfl<|oG (decide_eq_false (by omega)) (r_ixN (s:=c19) (q:=0) sl_22 ti_33 rfl rfl rfl (fun w h=>(h.deep 2 rfl)) (show 0<c19.l.length from om9)) rfl<|oG (decide_eq_false (by omega)) (r_lde (s:=c19) (i:=0) (v:=(nth c19.l 0).v) ti_33 rfl rfl rfl (fun w h=>(h.deep 2 rfl)) (show 0<c19.l.length from om9) (Nat.le_of_ble_eq_true rfl) rfl) rfl<|oG (decide_eq_false (by omega)) (r_len (s:=nth c19.l 0) (n:=((nth c19.l 0).l).length) sl_33 rfl rfl (fun w h=>((h.deep 2 rfl).nth 0 (show 0<c19.l.length from om9))) rfl) rfl<|oG (decide_eq_false (by omega)) (r_neqN (p:=((nth c19.l 0).l).length) (q:=6) rfl rfl rfl) rfl<|opF (decide_eq_false (by omega)) rfl<|oM 1 rfl<|oG (decide_eq_false (by omega)) (r_fieldB (r:=2) fl_25_2 rfl rfl rfl) rfl<|oG (decide_eq_false (by omega)) (r_ldb (i:=1) ti_3 rfl rfl rfl rfl) rfl<|oG (decide_eq_false (by omega)) (r_neqN (p:=0) (q:=0) rfl rfl rfl) rfl<|opF (decide_eq_false (by omega)) rfl<|oM 1 rfl<|oG (by decide) (r_fieldB (r:=1) fl_25_1 rfl rfl rfl) rfl<|oG (by decide) (r_ldb (i:=1) ti_23 rfl rfl rfl rfl) rfl<|oG (by decide) (r_len (s:=u19) (n:=u19.l.length) sl_23 rfl rfl (fun w h=>(h.own 3 rfl)) rfl) rfl<|oG (by decide) (r_neqN (p:=u19.l.length) (q:=1) rfl rfl rfl) rfl<|opF (by decide) rfl<|.nl)<|nK k25<|gF [1,3,4,48] rfl<|gcF rfl (decide_eq_false (by omega))<|gS<|hK k24<|gK fun _ k29=>sK fun _ k30=>gRn (olw 5 ti_25 rfl rfl<|.nl)<|fun a32 w32 h32=>wl_ex (x_call h32 bd_17 rfl rfl rfl rfl rfl (tvast_c code words ((Lk:Nat):Int) ((R:Nat):Int) _ (h32.sh.at 6 rfl) (h32.sh.at 7 rfl))) (wanted_none rfl _) ?_;clear h19
 rintro a33 w33 ⟨_,⟨rfl,hs33⟩,hf33⟩
 have h33:St 104 (fun _=>False) W a33 w33 _ _:=⟨hf33,h32.sh.call0 hs33⟩
 clear hf33 hs33
 clear h32
 refine gG h33<|nK k30<|gcF rfl hv<|gS<|hK k29<|sK fun _ k34=>gRn (olw 5 ti_25 rfl rfl<|.nl)<|fun a36 w36 h36=>wl_ex (x_call h36 bd_16 rfl rfl rfl rfl rfl (link_k code words ((Lk:Nat):Int) ((R:Nat):Int) _ (h36.sh.at 6 rfl) (h36.sh.at 7 rfl) hok hr hs hshort)) (wanted_none rfl _) ?_;clear h33
 rintro a37 w37 ⟨_,⟨c37,u37,rfl,hq37,hu37,hs37⟩,hf37⟩
 have hf:=spin_q9 hok hr hs hshort hq37 hu37
 have hqr:PgR (pgN c37 u37 0 8):=hf.1▸linkPg_r hok hR (fun t ht=>by rw [pgN_len] at ht;rw [pgN_code ht];exact hshort t ht)
 have h37:=(⟨hf37,h36.sh.call hs37 (by intro A hA b hb;simp only [List.mem_cons,List.not_mem_nil,or_false] at hA;first|(subst hA;exact Flat.noRd hb)|(rcases hA with rfl|rfl<;>first|exact (hb:False).elim|exact Flat.noRd hb|exact .inl (hb:_)))⟩:St 104 (fun _=>False) W a37 w37 _ _)
 clear hf37 hs37
 clear h36
 refine gG h37<|gRn (oM 1 rfl<|oxt rfl<|oxt rfl<|.nl)<|gE (fun _ _ h_=>x_stb (i:=3) (vs:= [c37.v,u37.v, .int .i64 0, .int .i64 8]) (cs' := [c37.v,u37.v, .int .i64 0, .int .i64 8]) h_ ti_25 rfl rfl rfl rfl rfl rfl rfl (allOne_cons ((h_.sh.deep 0 rfl)).one (allOne_cons ((h_.sh.own 1 rfl)).one (allOne_cons rfl (allOne_cons rfl allOne_nil)))) (Nat.le_of_ble_eq_true rfl) rfl) rfl<|gsw 2 ti_28 rfl rfl rfl<|nK k34<|gK fun _ k40=>sG (ofB fl_28_0 rfl<|olB 2 ti_26 rfl rfl<|oneN 0 0 rfl<|.nl)<|gcF rfl (by decide)<|gS<|hK k40<|sK fun _ k42=>gRn (olw 7 ti_25 rfl rfl<|.nl)<|fun a44 w44 h44=>wl_ex (x_call h44 bd_18 rfl rfl rfl rfl rfl (stso_k code words Lk R _ (h44.sh.at 8 rfl) (h44.sh.at 9 rfl) hok hR)) (wanted_none rfl _) ?_;clear h37
 rintro a45 w45 ⟨_,⟨u45,ok45,rfl,hfu45,hs45⟩,hf45⟩
 have h45:=(⟨hf45,h44.sh.call hs45 (by intro A hA b hb;obtain rfl:=List.mem_singleton.1 hA;obtain ⟨i9,hi9,hb9⟩:=hb;exact .inl ((hfu45.nw _ (nth_mem _ _ hi9) b hb9).resolve_left id))⟩:St 104 (fun _=>False) W a45 w45 _ _)
 have hfr45:=hfu45.up (K' :=fun _=>False) (W' :=W) (fun b hb=>hb.imp id (fun h9=>Nat.le_trans h44.sh.chg.size h9))
 clear hf45 hs45
 clear h44
 refine gG h45<|gRn (oM 1 rfl<|oxt rfl<|oxt rfl<|oM 1 rfl<|.nl)<|gsw 3 ti_28 rfl rfl rfl<|nK k42<|sK fun _ k47=>gRn (olw 4 ti_25 rfl rfl<|.nl)<|fun a49 w49 h49=>wl_ex (x_call h49 bd_18 rfl rfl rfl rfl rfl (stso_k c37 u37 0 8 _ (h49.sh.deep 1 rfl) (h49.sh.own 2 rfl) hf.2 hqr)) (wanted_none rfl _) ?_;clear h45
 rintro a50 w50 ⟨_,⟨u50,ok50,rfl,hfu50,hs50⟩,hf50⟩
 have h50:=(⟨hf50,h49.sh.call hs50 (by intro A hA b hb;obtain rfl:=List.mem_singleton.1 hA;obtain ⟨i9,hi9,hb9⟩:=hb;exact .inl ((hfu50.nw _ (nth_mem _ _ hi9) b hb9).resolve_left id))⟩:St 104 (fun _=>False) W a50 w50 _ _)
 have hfr50:=hfu50.up (K' :=fun _=>False) (W' :=W) (fun b hb=>hb.imp id (fun h9=>Nat.le_trans h49.sh.chg.size h9))
 clear hf50 hs50
 clear h49
 refine gG h50<|gRn (oM 1 rfl<|oxt rfl<|oxt rfl<|.nl)<|gal ti_28 rfl fun b51=>gRn (oM 1 rfl<|.nl)<|gsw 0 ti_28 rfl rfl rfl<|nK k47<|gK fun _ k53=>sK fun _ k54=>gRn (ofB fl_28_0 rfl<|olB 5 ti_26 rfl rfl<|oneI _ _ rfl<|oM 1 rfl<|.nl)<|?_;clear h50
 rcases dsp ((if ok45=true then (0:Int) else 10)≠0) with ⟨hb55,hp55⟩|⟨hb55,hp55⟩
 ·skip
  refine gRn (oKs 3 hb55 rfl rfl<|opT hb55 rfl<|.nl)<|nK k54<|gF [1,5,6,76] rfl<|gcT rfl rfl<|sG (oM 1 rfl<|.nl)<|gR<|uT<|fun a57 w57 h57=>x_ret1 (fn:=Tryz.f3) (t:=2) rfl h57 rfl ?_
  exact ⟨rfl,(h57.sh.sel [] rfl)⟩
 refine gRn (oG hb55 (r_fieldB (r:=0) fl_28_0 rfl rfl rfl) rfl<|oG hb55 (r_ldb (i:=0) ti_26 rfl rfl rfl rfl) rfl<|oG hb55 (r_neqI (p:=(if ok50=true then (0:Int) else 10)) (q:=0) rfl rfl rfl) rfl<|opF hb55 rfl<|.nl)<|nK k54<|gF [1,5,6,76] rfl<|gcd rfl (fun hb58 hp58=> ?_) fun hb58 hp58=> ?_
 ·skip
  refine sG (oM 1 rfl<|.nl)<|gR<|uT<|fun a60 w60 h60=>x_ret1 (fn:=Tryz.f3) (t:=2) rfl h60 rfl ?_
  exact ⟨rfl,(h60.sh.sel [] rfl)⟩
 refine gS<|hK k53<|gK fun _ k61=>sG (oM 1 rfl<|.nl)<|gB<|fun a64 w64 h64=>x_loop (fun m a w=>∃(e:Nat),(e≤u45.l.length)∧(∀j,j<e→(nth u45.l j).st≠1)∧St 104 (fun _=>False) W a w [(1, .pointer (some ⟨b12,0,none⟩)),(5,u45.v),(6,u50.v),(8, .int .i64 ((e:Nat):Int))] [.blk b51 28 [.int .i64 (if ok50=true then (0:Int) else 10), .int .i64 0, .int .i64 0], .own 39 u50, .own 39 u45, .deep 33 c37, .own 3 u37, .blk b21 28 [.int .i64 (if ok45=true then (0:Int) else 10), .int .i64 0, .int .i64 0], .blk b20 25 [c37.v,u37.v, .int .i64 0, .int .i64 8], .deep 33 c19, .own 3 u19, .deep 33 (⟨v15, [(⟨v14, [(⟨17,0,0,0⟩:Ins),(⟨18,0,0,0⟩:Ins)]⟩:Ls Ins)]⟩:Ls (Ls Ins)), .blk b12 25 [code.v,words.v, .int .i64 ((Lk:Nat):Int), .int .i64 ((R:Nat):Int)], .at_ code, .at_ words]∧m=u45.l.length-e) ⟨_,0,(by omega),(fun j hj=>absurd hj (by omega)),h64.nf ⟨rfl,rfl,rfl,rfl,trivial⟩,rfl⟩ ?_
 clear h64
 rintro m63 a63 w63 ⟨e,he,hall,h63,hm63⟩
 refine gG h63<|gK fun _ k65=>sK fun _ k66=>gNl (aO 2 rfl) fun hl67=>gRn (oM 2 rfl<|oln sl_35 (aO 2 rfl) rfl<|oltN _ _ rfl<|.nl)<|nK k66<|?_;clear h63
 refine gcd rfl (fun hb68 hp68=> ?_) fun hb68 hp68=> ?_
 ·skip
  refine gS<|hK k65<|gK fun _ k69=>gB<|sG (oM 2 rfl<|oxN sl_35 ti_39 (aO 2 rfl) _ om9 rfl<|ofE fl_39_0 rfl<|olI ti_3 (aO 2 rfl) om9 rfl<|oeqI _ _ rfl<|.nl)<|gcd rfl (fun hb71 hp71=> ?_) fun hb71 hp71=> ?_
  ·skip
   refine sG (oM 1 rfl<|.nl)<|gR<|uB<|uT<|uT<|uB<|uT<|fun a73 w73 h73=>x_ret1 (fn:=Tryz.f3) (t:=2) rfl h73 rfl ?_
   exact ⟨rfl,(h73.sh.sel [] rfl)⟩
  refine gS<|hK k69<|gL<|gRn (oM 1 rfl<|oadN _ 1 om9 rfl<|oM 1 rfl<|.nl)<|nN<|fun a74 w74 h74=>x_again ⟨_, ?_,e+1, ?_, ?_,h74.nf ⟨rfl,rfl,rfl,rfl,trivial⟩,rfl⟩
  · rw [hm63];first|omega|(simp only [lens9];omega)
  · omega
  · intro j hj;rcases Nat.lt_or_ge j e with h9|h9;exact hall j h9;obtain rfl:j=e:=(by omega);omega
 refine gX<|hK k61<|sK fun _ k75=>gNl (aA 12 rfl) fun hl76=>gRn (ofB fl_25_1 rfl<|olB 10 ti_23 rfl rfl<|oln sl_23 (aA 12 rfl) rfl<|oM 1 rfl<|.nl)<|nK k75<|sK fun _ k77=>gRn (oM 3 rfl<|.nl)<|fun a79 w79 h79=>wl_ex (x_call h79 bd_19 rfl rfl rfl rfl rfl (within_c u45 u50 words.l.length _ (h79.sh.own 2 rfl) (h79.sh.own 1 rfl) (spin_to hok hf (show (pgN code words Lk R).regs≤6 from hr) hfr45 hfr50 (cd_ok (by assumption)) (cd_ok (by assumption))))) (wanted_none rfl _) ?_
 rintro a80 w80 ⟨_,⟨rfl,hs80⟩,hf80⟩
 have h80:St 104 (fun _=>False) W a80 w80 _ _:=⟨hf80,h79.sh.call0 hs80⟩
 clear hf80 hs80
 clear h79
 refine gG h80<|gRn (oM 1 rfl<|.nl)<|nK k77<|sK fun _ k81=>gRn (oM 3 rfl<|.nl)<|fun a83 w83 h83=>wl_ex (x_call h83 bd_19 rfl rfl rfl rfl rfl (within_c u50 u45 words.l.length _ (h83.sh.own 1 rfl) (h83.sh.own 2 rfl) (spin_from hok hf (show (pgN code words Lk R).regs≤6 from hr) hfr45 hfr50 (cd_ok (by assumption)) (cd_ok (by assumption)) (fun j hj=>hall j (by omega))))) (wanted_none rfl _) ?_;clear h80
 rintro a84 w84 ⟨_,⟨rfl,hs84⟩,hf84⟩
 have h84:St 104 (fun _=>False) W a84 w84 _ _:=⟨hf84,h83.sh.call0 hs84⟩
 clear hf84 hs84
 clear h83
 refine gG h84<|gRn (oM 1 rfl<|.nl)<|nK k81<|sG (oM 2 rfl<|oG rfl (r_move rfl rfl) rfl<|opT rfl rfl<|oM 1 rfl<|.nl)<|gF [2] rfl<|gR<|fun a86 w86 h86=>x_ret1 (fn:=Tryz.f3) (t:=2) rfl h86 rfl ?_;clear h84
 exact ⟨rfl,(h86.sh.sel [] rfl)⟩
theorem topSpun_r (code:Ls (Ls Ins))(words:Ls Int)(Lk R:Nat)(W:World)(hcode:code.At W)(hwords:words.At W)(hv:vastG (code.l.map (·.l)) words.l=false)(hok:OkPg (pgN code words Lk R))(hR:PgR (pgN code words Lk R))(hr:6<(R:Int)):
    Rets Tryz.prog 3 [.agg #[code.v,words.v, .int .i64 ((Lk:Nat):Int), .int .i64 ((R:Nat):Int)]] W (fun v w' =>v= .bool true∧Sh0 W w' []):=by
 refine gen Tryz.func3 Tryz.ntmps3 (Sh0.ext2 hcode hwords:Sh (fun _=>False) W W [.at_ code, .at_ words]) rfl fun a10 h10=>gG h10<|sK fun _ k11=>gbx rfl rfl fun b12=>gRn (oM 1 rfl<|.nl)<|nK k11<|sK fun _ k13=>gRn (oV (r_build (cs:= [.int .i64 17, .int .i64 0, .int .i64 0, .int .i64 0]) rfl rfl (by kernel_rfl)) rfl<|oV (r_build (cs:= [.int .i64 18, .int .i64 0, .int .i64 0, .int .i64 0]) rfl rfl (by kernel_rfl)) rfl<|.nl)<|gE1 (fun _ _ h_=>x_lit (n:=2) (cs:= [.int .i64 17, .int .i64 0, .int .i64 0, .int .i64 0, .int .i64 18, .int .i64 0, .int .i64 0, .int .i64 0]) ([(⟨17,0,0,0⟩:Ins),(⟨18,0,0,0⟩:Ins)]:List Ins) h_ sl_33 ti_32 rfl rfl rfl (by decide) rfl (by kernel_rfl) rfl (fun q hq w h=>Flat.inner _ _) (fun q hq b hb=>(Flat.on _ _ hb).elim) rfl rfl) rfl fun v14=>gE1 (fun _ _ h_=>x_litD (E:=0) (x:=(⟨v14, [(⟨17,0,0,0⟩:Ins),(⟨18,0,0,0⟩:Ins)]⟩:Ls Ins)) h_ sl_22 ti_33 rfl rfl rfl ((h_.sh.own 0 rfl)) (fun b hb=>(own_on (h_.sh.ok _ (List.mem_of_getElem? (i:=0) rfl)) hb).elim (fun h=>h) (fun h=>Flat.noRd h)) (fun b hb=>Flat.noRd hb) rfl rfl) rfl fun v15=>gRn (oV (r_buildS (cs:= [v15,(.slice none 0 0), .int .i64 1, .int .i64 1]) rfl rfl (fun w h=>by obtain ⟨A16,n16,c16,(e16:v15=_)⟩:=((h.deep 0 rfl)).form;rw [e16];kernel_rfl)) rfl<|.nl)<|fun a18 w18 h18=> ?_;clear h10
 refine wl_ex (x_call h18 bd_16 rfl rfl rfl rfl rfl (linkT (⟨v15, [(⟨v14, [(⟨17,0,0,0⟩:Ins),(⟨18,0,0,0⟩:Ins)]⟩:Ls Ins)]⟩:Ls (Ls Ins)) (⟨.slice none 0 0, []⟩:Ls Int) _ (h18.sh.deep 0 rfl) (Sh.nilAt (α:=Int) h18.sh) rfl rfl)) (wanted_none rfl _) ?_
 rintro a19 w19 ⟨_,⟨c19,u19,rfl,⟨hfl19,hfm19,hfw19⟩,hs19⟩,hf19⟩
 have h19:=(⟨hf19,h18.sh.call hs19 (by intro A hA b hb;simp only [List.mem_cons,List.not_mem_nil,or_false] at hA;first|(subst hA;exact Flat.noRd hb)|(rcases hA with rfl|rfl<;>first|exact (hb:False).elim|exact Flat.noRd hb|exact .inl (hb:_)))⟩:St 104 (fun _=>False) W a19 w19 _ _)
 clear hf19 hs19
 clear h18
 refine gG h19<|gRn (oM 1 rfl<|oxt rfl<|oxt rfl<|.nl)<|gal ti_25 rfl fun b20=>gal ti_28 rfl fun b21=>gE (fun _ _ h_=>x_stb (i:=1) (vs:= [c19.v,u19.v, .int .i64 0, .int .i64 8]) (cs' := [c19.v,u19.v, .int .i64 0, .int .i64 8]) h_ ti_25 rfl rfl rfl rfl rfl rfl rfl (allOne_cons ((h_.sh.deep 2 rfl)).one (allOne_cons ((h_.sh.own 3 rfl)).one (allOne_cons rfl (allOne_cons rfl allOne_nil)))) (Nat.le_of_ble_eq_true rfl) rfl) rfl<|gsw 0 ti_28 rfl rfl rfl<|nK k13<|gK fun _ k24=>sK fun _ k25=>gNl (aD 2 rfl) fun hl26=>gNl (fun w h=>((h.deep 2 rfl).nth 0 (show 0<c19.l.length from (by omega)))) fun (hl27:((nth c19.l 0).l).length≤140737488355328)=>gNl (aO 3 rfl) fun hl28=>gRn (ofB fl_28_0 rfl<|olB 0 ti_26 rfl rfl<|oneN 0 0 rfl<|oM 1 rfl<|oG (by decide) (r_fieldB (r:=0) fl_25_0 rfl rfl rfl) rfl<|oG (by decide) (r_ldb (i:=1) ti_22 rfl rfl rfl rfl) rfl<|oG (by decide) (r_len (s:=c19) (n:=c19.l.length) sl_22 rfl rfl (fun w h=>(h.deep 2 rfl)) rfl) rfl<|oG (by decide) (r_neqN (p:=c19.l.length) (q:=1) rfl rfl rfl) rfl<|opF (by decide) rfl<|oM 1 rfl<|oG (decide_eq_false (by omega)) (r_fieldB (r:=0) fl_25_0 rfl rfl rfl) rfl<|oG (decide_eq_false (by omega)) (r_ldb (i:=1) ti_22 rfl rfl rfl rfl) rfl<|oG (decide_eq_false (by omega)) (r_ixN (s:=c19) (q:=0) sl_22 ti_33 rfl rfl rfl (fun w h=>(h.deep 2 rfl)) (show 0<c19.l.length from om9)) rfl<|oG (decide_eq_false (by omega)) (r_lde (s:=c19) (i:=0) (v:=(nth c19.l 0).v) ti_33 rfl rfl rfl (fun w h=>(h.deep 2 rfl)) (show 0<c19.l.length from om9) (Nat.le_of_ble_eq_true rfl) rfl) rfl<|oG (decide_eq_false (by omega)) (r_len (s:=nth c19.l 0) (n:=((nth c19.l 0).l).length) sl_33 rfl rfl (fun w h=>((h.deep 2 rfl).nth 0 (show 0<c19.l.length from om9))) rfl) rfl<|oG (decide_eq_false (by omega)) (r_neqN (p:=((nth c19.l 0).l).length) (q:=6) rfl rfl rfl) rfl<|opF (decide_eq_false (by omega)) rfl<|oM 1 rfl<|oG (decide_eq_false (by omega)) (r_fieldB (r:=2) fl_25_2 rfl rfl rfl) rfl<|oG (decide_eq_false (by omega)) (r_ldb (i:=1) ti_3 rfl rfl rfl rfl) rfl<|oG (decide_eq_false (by omega)) (r_neqN (p:=0) (q:=0) rfl rfl rfl) rfl<|opF (decide_eq_false (by omega)) rfl<|oM 1 rfl<|oG (by decide) (r_fieldB (r:=1) fl_25_1 rfl rfl rfl) rfl<|oG (by decide) (r_ldb (i:=1) ti_23 rfl rfl rfl rfl) rfl<|oG (by decide) (r_len (s:=u19) (n:=u19.l.length) sl_23 rfl rfl (fun w h=>(h.own 3 rfl)) rfl) rfl<|oG (by decide) (r_neqN (p:=u19.l.length) (q:=1) rfl rfl rfl) rfl<|opF (by decide) rfl<|.nl)<|nK k25<|gF [1,3,4,48] rfl<|gcF rfl (decide_eq_false (by omega))<|gS<|hK k24<|gK fun _ k29=>sK fun _ k30=>gRn (olw 5 ti_25 rfl rfl<|.nl)<|fun a32 w32 h32=>wl_ex (x_call h32 bd_17 rfl rfl rfl rfl rfl (tvast_c code words ((Lk:Nat):Int) ((R:Nat):Int) _ (h32.sh.at 6 rfl) (h32.sh.at 7 rfl))) (wanted_none rfl _) ?_;clear h19
 rintro a33 w33 ⟨_,⟨rfl,hs33⟩,hf33⟩
 have h33:St 104 (fun _=>False) W a33 w33 _ _:=⟨hf33,h32.sh.call0 hs33⟩
 clear hf33 hs33
 clear h32
 refine gG h33<|nK k30<|gcF rfl hv<|gS<|hK k29<|sK fun _ k34=>gRn (olw 5 ti_25 rfl rfl<|.nl)<|fun a36 w36 h36=>wl_ex (x_call h36 bd_16 rfl rfl rfl rfl rfl (link_r code words ((Lk:Nat):Int) ((R:Nat):Int) _ (h36.sh.at 6 rfl) (h36.sh.at 7 rfl) hok hr)) (wanted_none rfl _) ?_;clear h33
 rintro a37 w37 ⟨_,⟨rfl,hs37⟩,hf37⟩
 have h37:St 104 (fun _=>False) W a37 w37 _ _:=⟨hf37,h36.sh.call0 hs37⟩
 clear hf37 hs37
 clear h36
 refine gG h37<|gRn (oM 1 rfl<|oxt rfl<|oxt rfl<|.nl)<|gE (fun _ _ h_=>x_stb (i:=1) (vs:= [(.slice none 0 0),(.slice none 0 0), .int .i64 0, .int .i64 0]) (cs' := [(.slice none 0 0),(.slice none 0 0), .int .i64 0, .int .i64 0]) h_ ti_25 rfl rfl rfl rfl rfl rfl rfl (allOne_cons ((Sh.nilAt (α:=Ls Ins) h_.sh)).one (allOne_cons ((Sh.nilAt (α:=Int) h_.sh)).one (allOne_cons rfl (allOne_cons rfl allOne_nil)))) (Nat.le_of_ble_eq_true rfl) rfl) rfl<|gsw 0 ti_28 rfl rfl rfl<|nK k34<|gK fun _ k40=>sG (ofB fl_28_0 rfl<|olB 0 ti_26 rfl rfl<|oneN 3 0 rfl<|.nl)<|gcT rfl (by decide)<|sG (oM 1 rfl<|.nl)<|gR<|uT<|fun a43 w43 h43=>x_ret1 (fn:=Tryz.f3) (t:=2) rfl h43 rfl ?_;clear h37
 exact ⟨rfl,(h43.sh.sel [] rfl)⟩
theorem topSpun_s (code:Ls (Ls Ins))(words:Ls Int)(Lk R:Nat)(W:World)(hcode:code.At W)(hwords:words.At W)(hv:vastG (code.l.map (·.l)) words.l=false)(hok:OkPg (pgN code words Lk R))(hR:PgR (pgN code words Lk R))(hr:(R:Int)≤6)(hs:64<(words.l.length:Int)+(Lk:Int)):
    Rets Tryz.prog 3 [.agg #[code.v,words.v, .int .i64 ((Lk:Nat):Int), .int .i64 ((R:Nat):Int)]] W (fun v w' =>v= .bool true∧Sh0 W w' []):=by
 refine gen Tryz.func3 Tryz.ntmps3 (Sh0.ext2 hcode hwords:Sh (fun _=>False) W W [.at_ code, .at_ words]) rfl fun a10 h10=>gG h10<|sK fun _ k11=>gbx rfl rfl fun b12=>gRn (oM 1 rfl<|.nl)<|nK k11<|sK fun _ k13=>gRn (oV (r_build (cs:= [.int .i64 17, .int .i64 0, .int .i64 0, .int .i64 0]) rfl rfl (by kernel_rfl)) rfl<|oV (r_build (cs:= [.int .i64 18, .int .i64 0, .int .i64 0, .int .i64 0]) rfl rfl (by kernel_rfl)) rfl<|.nl)<|gE1 (fun _ _ h_=>x_lit (n:=2) (cs:= [.int .i64 17, .int .i64 0, .int .i64 0, .int .i64 0, .int .i64 18, .int .i64 0, .int .i64 0, .int .i64 0]) ([(⟨17,0,0,0⟩:Ins),(⟨18,0,0,0⟩:Ins)]:List Ins) h_ sl_33 ti_32 rfl rfl rfl (by decide) rfl (by kernel_rfl) rfl (fun q hq w h=>Flat.inner _ _) (fun q hq b hb=>(Flat.on _ _ hb).elim) rfl rfl) rfl fun v14=>gE1 (fun _ _ h_=>x_litD (E:=0) (x:=(⟨v14, [(⟨17,0,0,0⟩:Ins),(⟨18,0,0,0⟩:Ins)]⟩:Ls Ins)) h_ sl_22 ti_33 rfl rfl rfl ((h_.sh.own 0 rfl)) (fun b hb=>(own_on (h_.sh.ok _ (List.mem_of_getElem? (i:=0) rfl)) hb).elim (fun h=>h) (fun h=>Flat.noRd h)) (fun b hb=>Flat.noRd hb) rfl rfl) rfl fun v15=>gRn (oV (r_buildS (cs:= [v15,(.slice none 0 0), .int .i64 1, .int .i64 1]) rfl rfl (fun w h=>by obtain ⟨A16,n16,c16,(e16:v15=_)⟩:=((h.deep 0 rfl)).form;rw [e16];kernel_rfl)) rfl<|.nl)<|fun a18 w18 h18=> ?_;clear h10
 refine wl_ex (x_call h18 bd_16 rfl rfl rfl rfl rfl (linkT (⟨v15, [(⟨v14, [(⟨17,0,0,0⟩:Ins),(⟨18,0,0,0⟩:Ins)]⟩:Ls Ins)]⟩:Ls (Ls Ins)) (⟨.slice none 0 0, []⟩:Ls Int) _ (h18.sh.deep 0 rfl) (Sh.nilAt (α:=Int) h18.sh) rfl rfl)) (wanted_none rfl _) ?_
 rintro a19 w19 ⟨_,⟨c19,u19,rfl,⟨hfl19,hfm19,hfw19⟩,hs19⟩,hf19⟩
 have h19:=(⟨hf19,h18.sh.call hs19 (by intro A hA b hb;simp only [List.mem_cons,List.not_mem_nil,or_false] at hA;first|(subst hA;exact Flat.noRd hb)|(rcases hA with rfl|rfl<;>first|exact (hb:False).elim|exact Flat.noRd hb|exact .inl (hb:_)))⟩:St 104 (fun _=>False) W a19 w19 _ _)
 clear hf19 hs19
 clear h18
 refine gG h19<|gRn (oM 1 rfl<|oxt rfl<|oxt rfl<|.nl)<|gal ti_25 rfl fun b20=>gal ti_28 rfl fun b21=>gE (fun _ _ h_=>x_stb (i:=1) (vs:= [c19.v,u19.v, .int .i64 0, .int .i64 8]) (cs' := [c19.v,u19.v, .int .i64 0, .int .i64 8]) h_ ti_25 rfl rfl rfl rfl rfl rfl rfl (allOne_cons ((h_.sh.deep 2 rfl)).one (allOne_cons ((h_.sh.own 3 rfl)).one (allOne_cons rfl (allOne_cons rfl allOne_nil)))) (Nat.le_of_ble_eq_true rfl) rfl) rfl<|gsw 0 ti_28 rfl rfl rfl<|nK k13<|gK fun _ k24=>sK fun _ k25=>gNl (aD 2 rfl) fun hl26=>gNl (fun w h=>((h.deep 2 rfl).nth 0 (show 0<c19.l.length from (by omega)))) fun (hl27:((nth c19.l 0).l).length≤140737488355328)=>gNl (aO 3 rfl) fun hl28=>gRn (ofB fl_28_0 rfl<|olB 0 ti_26 rfl rfl<|oneN 0 0 rfl<|oM 1 rfl<|oG (by decide) (r_fieldB (r:=0) fl_25_0 rfl rfl rfl) rfl<|oG (by decide) (r_ldb (i:=1) ti_22 rfl rfl rfl rfl) rfl<|oG (by decide) (r_len (s:=c19) (n:=c19.l.length) sl_22 rfl rfl (fun w h=>(h.deep 2 rfl)) rfl) rfl<|oG (by decide) (r_neqN (p:=c19.l.length) (q:=1) rfl rfl rfl) rfl<|opF (by decide) rfl<|oM 1 rfl<|oG (decide_eq_false (by omega)) (r_fieldB (r:=0) fl_25_0 rfl rfl rfl) rfl<|oG (decide_eq_false (by omega)) (r_ldb (i:=1) ti_22 rfl rfl rfl rfl) rfl<|oG (decide_eq_false (by omega)) (r_ixN (s:=c19) (q:=0) sl_22 ti_33 rfl rfl rfl (fun w h=>(h.deep 2 rfl)) (show 0<c19.l.length from om9)) rfl<|oG (decide_eq_false (by omega)) (r_lde (s:=c19) (i:=0) (v:=(nth c19.l 0).v) ti_33 rfl rfl rfl (fun w h=>(h.deep 2 rfl)) (show 0<c19.l.length from om9) (Nat.le_of_ble_eq_true rfl) rfl) rfl<|oG (decide_eq_false (by omega)) (r_len (s:=nth c19.l 0) (n:=((nth c19.l 0).l).length) sl_33 rfl rfl (fun w h=>((h.deep 2 rfl).nth 0 (show 0<c19.l.length from om9))) rfl) rfl<|oG (decide_eq_false (by omega)) (r_neqN (p:=((nth c19.l 0).l).length) (q:=6) rfl rfl rfl) rfl<|opF (decide_eq_false (by omega)) rfl<|oM 1 rfl<|oG (decide_eq_false (by omega)) (r_fieldB (r:=2) fl_25_2 rfl rfl rfl) rfl<|oG (decide_eq_false (by omega)) (r_ldb (i:=1) ti_3 rfl rfl rfl rfl) rfl<|oG (decide_eq_false (by omega)) (r_neqN (p:=0) (q:=0) rfl rfl rfl) rfl<|opF (decide_eq_false (by omega)) rfl<|oM 1 rfl<|oG (by decide) (r_fieldB (r:=1) fl_25_1 rfl rfl rfl) rfl<|oG (by decide) (r_ldb (i:=1) ti_23 rfl rfl rfl rfl) rfl<|oG (by decide) (r_len (s:=u19) (n:=u19.l.length) sl_23 rfl rfl (fun w h=>(h.own 3 rfl)) rfl) rfl<|oG (by decide) (r_neqN (p:=u19.l.length) (q:=1) rfl rfl rfl) rfl<|opF (by decide) rfl<|.nl)<|nK k25<|gF [1,3,4,48] rfl<|gcF rfl (decide_eq_false (by omega))<|gS<|hK k24<|gK fun _ k29=>sK fun _ k30=>gRn (olw 5 ti_25 rfl rfl<|.nl)<|fun a32 w32 h32=>wl_ex (x_call h32 bd_17 rfl rfl rfl rfl rfl (tvast_c code words ((Lk:Nat):Int) ((R:Nat):Int) _ (h32.sh.at 6 rfl) (h32.sh.at 7 rfl))) (wanted_none rfl _) ?_;clear h19
 rintro a33 w33 ⟨_,⟨rfl,hs33⟩,hf33⟩
 have h33:St 104 (fun _=>False) W a33 w33 _ _:=⟨hf33,h32.sh.call0 hs33⟩
 clear hf33 hs33
 clear h32
 refine gG h33<|nK k30<|gcF rfl hv<|gS<|hK k29<|sK fun _ k34=>gRn (olw 5 ti_25 rfl rfl<|.nl)<|fun a36 w36 h36=>wl_ex (x_call h36 bd_16 rfl rfl rfl rfl rfl (link_s code words ((Lk:Nat):Int) ((R:Nat):Int) _ (h36.sh.at 6 rfl) (h36.sh.at 7 rfl) hok hr hs)) (wanted_none rfl _) ?_;clear h33
 rintro a37 w37 ⟨_,⟨rfl,hs37⟩,hf37⟩
 have h37:St 104 (fun _=>False) W a37 w37 _ _:=⟨hf37,h36.sh.call0 hs37⟩
 clear hf37 hs37
 clear h36
 refine gG h37<|gRn (oM 1 rfl<|oxt rfl<|oxt rfl<|.nl)<|gE (fun _ _ h_=>x_stb (i:=1) (vs:= [(.slice none 0 0),(.slice none 0 0), .int .i64 0, .int .i64 0]) (cs' := [(.slice none 0 0),(.slice none 0 0), .int .i64 0, .int .i64 0]) h_ ti_25 rfl rfl rfl rfl rfl rfl rfl (allOne_cons ((Sh.nilAt (α:=Ls Ins) h_.sh)).one (allOne_cons ((Sh.nilAt (α:=Int) h_.sh)).one (allOne_cons rfl (allOne_cons rfl allOne_nil)))) (Nat.le_of_ble_eq_true rfl) rfl) rfl<|gsw 0 ti_28 rfl rfl rfl<|nK k34<|gK fun _ k40=>sG (ofB fl_28_0 rfl<|olB 0 ti_26 rfl rfl<|oneN 1 0 rfl<|.nl)<|gcT rfl (by decide)<|sG (oM 1 rfl<|.nl)<|gR<|uT<|fun a43 w43 h43=>x_ret1 (fn:=Tryz.f3) (t:=2) rfl h43 rfl ?_;clear h37
 exact ⟨rfl,(h43.sh.sel [] rfl)⟩
theorem topSpun_l (code:Ls (Ls Ins))(words:Ls Int)(Lk R k:Nat)(W:World)(hcode:code.At W)(hwords:words.At W)(hv:vastG (code.l.map (·.l)) words.l=false)(hok:OkPg (pgN code words Lk R))(hR:PgR (pgN code words Lk R))(hr:(R:Int)≤6)(hs:(words.l.length:Int)+(Lk:Int)≤64)(hk:k<code.l.length)(h400:400<(linkL words.l.length (nth code.l k).l).length)(hbef:∀j,j<k→(linkL words.l.length (nth code.l j).l).length≤400):
    Rets Tryz.prog 3 [.agg #[code.v,words.v, .int .i64 ((Lk:Nat):Int), .int .i64 ((R:Nat):Int)]] W (fun v w' =>v= .bool true∧Sh0 W w' []):=by
 refine gen Tryz.func3 Tryz.ntmps3 (Sh0.ext2 hcode hwords:Sh (fun _=>False) W W [.at_ code, .at_ words]) rfl fun a10 h10=>gG h10<|sK fun _ k11=>gbx rfl rfl fun b12=>gRn (oM 1 rfl<|.nl)<|nK k11<|sK fun _ k13=>gRn (oV (r_build (cs:= [.int .i64 17, .int .i64 0, .int .i64 0, .int .i64 0]) rfl rfl (by kernel_rfl)) rfl<|oV (r_build (cs:= [.int .i64 18, .int .i64 0, .int .i64 0, .int .i64 0]) rfl rfl (by kernel_rfl)) rfl<|.nl)<|gE1 (fun _ _ h_=>x_lit (n:=2) (cs:= [.int .i64 17, .int .i64 0, .int .i64 0, .int .i64 0, .int .i64 18, .int .i64 0, .int .i64 0, .int .i64 0]) ([(⟨17,0,0,0⟩:Ins),(⟨18,0,0,0⟩:Ins)]:List Ins) h_ sl_33 ti_32 rfl rfl rfl (by decide) rfl (by kernel_rfl) rfl (fun q hq w h=>Flat.inner _ _) (fun q hq b hb=>(Flat.on _ _ hb).elim) rfl rfl) rfl fun v14=>gE1 (fun _ _ h_=>x_litD (E:=0) (x:=(⟨v14, [(⟨17,0,0,0⟩:Ins),(⟨18,0,0,0⟩:Ins)]⟩:Ls Ins)) h_ sl_22 ti_33 rfl rfl rfl ((h_.sh.own 0 rfl)) (fun b hb=>(own_on (h_.sh.ok _ (List.mem_of_getElem? (i:=0) rfl)) hb).elim (fun h=>h) (fun h=>Flat.noRd h)) (fun b hb=>Flat.noRd hb) rfl rfl) rfl fun v15=>gRn (oV (r_buildS (cs:= [v15,(.slice none 0 0), .int .i64 1, .int .i64 1]) rfl rfl (fun w h=>by obtain ⟨A16,n16,c16,(e16:v15=_)⟩:=((h.deep 0 rfl)).form;rw [e16];kernel_rfl)) rfl<|.nl)<|fun a18 w18 h18=> ?_;clear h10
 refine wl_ex (x_call h18 bd_16 rfl rfl rfl rfl rfl (linkT (⟨v15, [(⟨v14, [(⟨17,0,0,0⟩:Ins),(⟨18,0,0,0⟩:Ins)]⟩:Ls Ins)]⟩:Ls (Ls Ins)) (⟨.slice none 0 0, []⟩:Ls Int) _ (h18.sh.deep 0 rfl) (Sh.nilAt (α:=Int) h18.sh) rfl rfl)) (wanted_none rfl _) ?_
 rintro a19 w19 ⟨_,⟨c19,u19,rfl,⟨hfl19,hfm19,hfw19⟩,hs19⟩,hf19⟩
 have h19:=(⟨hf19,h18.sh.call hs19 (by intro A hA b hb;simp only [List.mem_cons,List.not_mem_nil,or_false] at hA;first|(subst hA;exact Flat.noRd hb)|(rcases hA with rfl|rfl<;>first|exact (hb:False).elim|exact Flat.noRd hb|exact .inl (hb:_)))⟩:St 104 (fun _=>False) W a19 w19 _ _)
 clear hf19 hs19
 clear h18
 refine gG h19<|gRn (oM 1 rfl<|oxt rfl<|oxt rfl<|.nl)<|gal ti_25 rfl fun b20=>gal ti_28 rfl fun b21=>gE (fun _ _ h_=>x_stb (i:=1) (vs:= [c19.v,u19.v, .int .i64 0, .int .i64 8]) (cs' := [c19.v,u19.v, .int .i64 0, .int .i64 8]) h_ ti_25 rfl rfl rfl rfl rfl rfl rfl (allOne_cons ((h_.sh.deep 2 rfl)).one (allOne_cons ((h_.sh.own 3 rfl)).one (allOne_cons rfl (allOne_cons rfl allOne_nil)))) (Nat.le_of_ble_eq_true rfl) rfl) rfl<|gsw 0 ti_28 rfl rfl rfl<|nK k13<|gK fun _ k24=>sK fun _ k25=>gNl (aD 2 rfl) fun hl26=>gNl (fun w h=>((h.deep 2 rfl).nth 0 (show 0<c19.l.length from (by omega)))) fun (hl27:((nth c19.l 0).l).length≤140737488355328)=>gNl (aO 3 rfl) fun hl28=>gRn (ofB fl_28_0 rfl<|olB 0 ti_26 rfl rfl<|oneN 0 0 rfl<|oM 1 rfl<|oG (by decide) (r_fieldB (r:=0) fl_25_0 rfl rfl rfl) rfl<|oG (by decide) (r_ldb (i:=1) ti_22 rfl rfl rfl rfl) rfl<|oG (by decide) (r_len (s:=c19) (n:=c19.l.length) sl_22 rfl rfl (fun w h=>(h.deep 2 rfl)) rfl) rfl<|oG (by decide) (r_neqN (p:=c19.l.length) (q:=1) rfl rfl rfl) rfl<|opF (by decide) rfl<|oM 1 rfl<|oG (decide_eq_false (by omega)) (r_fieldB (r:=0) fl_25_0 rfl rfl rfl) rfl<|oG (decide_eq_false (by omega)) (r_ldb (i:=1) ti_22 rfl rfl rfl rfl) rfl<|oG (decide_eq_false (by omega)) (r_ixN (s:=c19) (q:=0) sl_22 ti_33 rfl rfl rfl (fun w h=>(h.deep 2 rfl)) (show 0<c19.l.length from om9)) rfl<|oG (decide_eq_false (by omega)) (r_lde (s:=c19) (i:=0) (v:=(nth c19.l 0).v) ti_33 rfl rfl rfl (fun w h=>(h.deep 2 rfl)) (show 0<c19.l.length from om9) (Nat.le_of_ble_eq_true rfl) rfl) rfl<|oG (decide_eq_false (by omega)) (r_len (s:=nth c19.l 0) (n:=((nth c19.l 0).l).length) sl_33 rfl rfl (fun w h=>((h.deep 2 rfl).nth 0 (show 0<c19.l.length from om9))) rfl) rfl<|oG (decide_eq_false (by omega)) (r_neqN (p:=((nth c19.l 0).l).length) (q:=6) rfl rfl rfl) rfl<|opF (decide_eq_false (by omega)) rfl<|oM 1 rfl<|oG (decide_eq_false (by omega)) (r_fieldB (r:=2) fl_25_2 rfl rfl rfl) rfl<|oG (decide_eq_false (by omega)) (r_ldb (i:=1) ti_3 rfl rfl rfl rfl) rfl<|oG (decide_eq_false (by omega)) (r_neqN (p:=0) (q:=0) rfl rfl rfl) rfl<|opF (decide_eq_false (by omega)) rfl<|oM 1 rfl<|oG (by decide) (r_fieldB (r:=1) fl_25_1 rfl rfl rfl) rfl<|oG (by decide) (r_ldb (i:=1) ti_23 rfl rfl rfl rfl) rfl<|oG (by decide) (r_len (s:=u19) (n:=u19.l.length) sl_23 rfl rfl (fun w h=>(h.own 3 rfl)) rfl) rfl<|oG (by decide) (r_neqN (p:=u19.l.length) (q:=1) rfl rfl rfl) rfl<|opF (by decide) rfl<|.nl)<|nK k25<|gF [1,3,4,48] rfl<|gcF rfl (decide_eq_false (by omega))<|gS<|hK k24<|gK fun _ k29=>sK fun _ k30=>gRn (olw 5 ti_25 rfl rfl<|.nl)<|fun a32 w32 h32=>wl_ex (x_call h32 bd_17 rfl rfl rfl rfl rfl (tvast_c code words ((Lk:Nat):Int) ((R:Nat):Int) _ (h32.sh.at 6 rfl) (h32.sh.at 7 rfl))) (wanted_none rfl _) ?_;clear h19
 rintro a33 w33 ⟨_,⟨rfl,hs33⟩,hf33⟩
 have h33:St 104 (fun _=>False) W a33 w33 _ _:=⟨hf33,h32.sh.call0 hs33⟩
 clear hf33 hs33
 clear h32
 refine gG h33<|nK k30<|gcF rfl hv<|gS<|hK k29<|sK fun _ k34=>gRn (olw 5 ti_25 rfl rfl<|.nl)<|fun a36 w36 h36=>wl_ex (x_call h36 bd_16 rfl rfl rfl rfl rfl (link_l code words ((Lk:Nat):Int) ((R:Nat):Int) k _ (h36.sh.at 6 rfl) (h36.sh.at 7 rfl) hok hr hs hk h400 hbef)) (wanted_none rfl _) ?_;clear h33
 rintro a37 w37 ⟨_,⟨rfl,hs37⟩,hf37⟩
 have h37:St 104 (fun _=>False) W a37 w37 _ _:=⟨hf37,h36.sh.call0 hs37⟩
 clear hf37 hs37
 clear h36
 refine gG h37<|gRn (oM 1 rfl<|oxt rfl<|oxt rfl<|.nl)<|gE (fun _ _ h_=>x_stb (i:=1) (vs:= [(.slice none 0 0),(.slice none 0 0), .int .i64 0, .int .i64 0]) (cs' := [(.slice none 0 0),(.slice none 0 0), .int .i64 0, .int .i64 0]) h_ ti_25 rfl rfl rfl rfl rfl rfl rfl (allOne_cons ((Sh.nilAt (α:=Ls Ins) h_.sh)).one (allOne_cons ((Sh.nilAt (α:=Int) h_.sh)).one (allOne_cons rfl (allOne_cons rfl allOne_nil)))) (Nat.le_of_ble_eq_true rfl) rfl) rfl<|gsw 0 ti_28 rfl rfl rfl<|nK k34<|gK fun _ k40=>sG (ofB fl_28_0 rfl<|olB 0 ti_26 rfl rfl<|oneN 1 0 rfl<|.nl)<|gcT rfl (by decide)<|sG (oM 1 rfl<|.nl)<|gR<|uT<|fun a43 w43 h43=>x_ret1 (fn:=Tryz.f3) (t:=2) rfl h43 rfl ?_;clear h37
 exact ⟨rfl,(h43.sh.sel [] rfl)⟩
theorem topSpun_any (code:Ls (Ls Ins))(words:Ls Int)(locks regs:Int)(W:World)(hcode:code.At W)(hwords:words.At W)(hR:PgR (pgOf code words locks regs)):Rets Tryz.prog 3 [.agg #[code.v,words.v, .int .i64 locks, .int .i64 regs]] W (fun v w' =>v= .bool true∧Sh0 W w' []):=by
 cases hv:vastG (code.l.map (·.l)) words.l with
 |true=>exact topSpun_v code words locks regs W hcode hwords hv
 |false=>
  by_cases hok:OkPg (pgOf code words locks regs)
  ·obtain ⟨Lk,rfl⟩:=Int.eq_ofNat_of_zero_le hok.locks.1
   obtain ⟨R,rfl⟩:=Int.eq_ofNat_of_zero_le (show 0≤regs by have:=hok.regs.1;have e:(pgOf code words (Lk:Int) regs).regs=regs:=rfl;omega)
   by_cases hr:(R:Int)≤6
   ·by_cases hs:(words.l.length:Int)+(Lk:Int)≤64
    ·by_cases hsh:∀j,j<code.l.length→(linkL words.l.length (nth code.l j).l).length≤400
     ·exact topSpun_k code words Lk R W hcode hwords hv hok hR hr hs hsh
     ·have hex:∃k,k<code.l.length∧400<(linkL words.l.length (nth code.l k).l).length:=by
       apply Classical.byContradiction
       intro hn
       exact hsh fun j hj=>Nat.le_of_not_lt fun h4=>hn ⟨j,hj,h4⟩
      have least:∀n,(∃k,k<n∧k<code.l.length∧400<(linkL words.l.length (nth code.l k).l).length)→∃k,k<code.l.length∧400<(linkL words.l.length (nth code.l k).l).length∧∀j,j<k→(linkL words.l.length (nth code.l j).l).length≤400:=by
       intro n
       induction n with
       |zero=>rintro ⟨k,hk,_⟩;omega
       |succ n ih=>
        rintro ⟨k,hk,h1,h2⟩
        by_cases hb:∃j,j<k∧j<code.l.length∧400<(linkL words.l.length (nth code.l j).l).length
        ·obtain ⟨j,hj,hj2⟩:=hb
         exact ih ⟨j,by omega,hj2⟩
        ·exact ⟨k,h1,h2,fun j hj=>Nat.le_of_not_lt fun h4=>hb ⟨j,hj,by omega,h4⟩⟩
      obtain ⟨k0,hk0⟩:=hex
      obtain ⟨k,hk,h4,hb⟩:=least (k0+1) ⟨k0,by omega,hk0⟩
      exact topSpun_l code words Lk R k W hcode hwords hv hok hR hr hs hk h4 hb
    ·exact topSpun_s code words Lk R W hcode hwords hv hok hR hr (by omega)
   ·exact topSpun_r code words Lk R W hcode hwords hv hok hR (by omega)
  ·exact topSpun_b code words locks regs W hcode hwords hv (fun h=>hok (checkG_code_pos.1 h))
end Go.Proofs.YtmjkobhkkjgplaaGreatDoor
namespace Go.Proofs.YtmjkobhkkjgplaaGreatDoor
open Go Go.ChangeShapes Go.WideShapes Go.ChangeAt Go.RowKit
set_option linter.unusedSimpArgs false
set_option linter.unusedVariables false
theorem wf64 {n:Int}(h:(Lit.int .i64 n).wf=true):R64 n:=by
 unfold Lit.wf at h
 simp only [Bool.and_eq_true,decide_eq_true_eq] at h
 have e1:IntKind.i64.min= -9223372036854775808:=by kernel_rfl
 have e2:IntKind.i64.max=9223372036854775807:=by kernel_rfl
 rw [e1,e2] at h
 unfold R64
 omega
theorem pr_fine {pr:PR}(h:pr.fine):PgR (pgOf (ofSl2 pr.code) (ofSl pr.words) pr.locks pr.regs):=by
 obtain ⟨h1,h2,_,_⟩:=h
 refine ⟨fun c hc i hi=> ?_,fun n hn=> ?_⟩
 ·obtain ⟨l,hl,rfl⟩:=List.mem_map.1 hc
  obtain ⟨s,hs,rfl⟩:=List.mem_map.1 hl
  obtain ⟨k,hk,rfl⟩:=List.mem_iff_getElem.1 hs
  have h3:=h1 k hk
  rw [nth_lt _ _ hk] at h3
  obtain ⟨q,hq,rfl⟩:=List.mem_iff_getElem.1 hi
  have h4:=h3 q hq
  have hq' :q<(pr.code.l[k]).l.length:=hq
  rw [nth_lt _ _ hq'] at h4
  exact ⟨wf64 h4.2.1,wf64 h4.2.2.1,wf64 h4.2.2.2⟩
 ·obtain ⟨k,hk,rfl⟩:=List.mem_iff_getElem.1 hn
  have hk' :k<pr.words.l.length:=hk
  have h3:=h2 k hk'
  rw [nth_lt _ _ hk'] at h3
  exact wf64 h3
theorem door_met (os:Os)(args:Array Value):laidMetH Tryz.prog Rows.topSpunRow.laid ((World.doorLaid Tryz.prog 24 os).forCall (fun _ _=>0) ⟨#[],args, []⟩).memory:=
 laidMetH_of_parts3 (fuel:=8) (laidMet_of_run' 8 (by kernel_rfl) (by kernel_rfl)) (by kernel_rfl) (by kernel_rfl)
set_option maxRecDepth 100000 in
theorem topSpun_lifted (os:Os)(started:os.Started)(H:Type)(enc:TypeId×Value→H):
  ReturnsInHanded {} Tryz.checked os 3 .any (fun w args=>(Rows.topSpunSpec.pre enc Tryz.prog Tryz.f3 [] false w args∧laidMetH Tryz.prog Rows.topSpunRow.laid w)∧sizedMet enc Tryz.prog Tryz.f3 (OpenSpec.ofChange Rows.topSpunSpec) false w args) (Rows.topSpunSpec.post enc Tryz.prog Tryz.f3 false true false false):=by
 refine returnsInHanded_of_change_and (C:=Tryz.checked) (X:=fun w _=>laidMetH Tryz.prog Rows.topSpunRow.laid w) (fun _ _ _ hh h=>h.of_heap hh) own started (by kernel_rfl) Tryz.func3
  (ChangeSpec.witness_shaped (enc:=enc) (C:=Tryz.checked) (os:=os) (X:=fun w _=>laidMetH Tryz.prog Rows.topSpunRow.laid w) false (World.doorLaid Tryz.prog 24 os) #[.agg #[.slice none 0 0, .slice none 0 0, .int .i64 0, .int .i64 0]] 8 rfl (World.shaped_of_RefB (by kernel_rfl) (by kernel_rfl)) (by kernel_rfl) (by kernel_rfl) (by kernel_rfl) (door_met os _)) ?_
 intro W base args ds gs before hval0 hW _ hsz0 _ _
 have hsz:(DataW.weightsEach Tryz.prog (Tryz.f3.params.toList++Rows.topSpunSpec.plain.varTypes Tryz.prog) (ds++gs)).all (· ≤reachBytes)=true:=hsz0
 have hval:∀(j:Nat) t v,Tryz.f3.params[j]? =some t→args[j]? =some v→Value.okWide Tryz.prog W .any base t v:=hval0
 have hW' :=hW
 obtain ⟨p,q,hA0,hV,rfl,hfz,hnd⟩:=hW
 have hA:DataW.TrodAll enc Tryz.prog W 0 (fun _=>true) true Tryz.f3.params.toList args.toList ds p:=hA0
 rw [Tryz.params3] at hA hval hsz
 obtain ⟨v0,d0,rfl,rfl,h0⟩:=trodAll_one hA
 obtain ⟨rfl,rfl⟩:=trodVars_none hV
 clear hA0 hval0
 simp only [List.append_nil] at hW'
 have hw0:∀n∈DataW.weights Tryz.prog 25 d0,n≤reachBytes:=by
  intro n hn
  have:=List.all_eq_true.1 hsz n (by simp [DataW.weightsEach,hn])
  simpa using this
 obtain ⟨fs,hfs,hpf⟩:=ty_pr
 obtain ⟨pr,rfl,hAt,hfin⟩:=open_PR hfs hpf (by kernel_rfl) (hval 0 25 v0 rfl rfl) h0 hw0
 have hlt:∀x∈p,x.block<W.heap.size:=fun x hx=>by simpa using hW'.lt x hx
 have hcall:=topSpun_any (ofSl2 pr.code) (ofSl pr.words) pr.locks pr.regs W (ofSl2_at hAt.code) (ofSl_at hAt.words) (pr_fine hfin)
 refine Calls.mono hcall fun e W' ⟨v',he,hv',hg0⟩=> ?_
 have hg:=hg0.chg.to_below
 subst he
 subst hv'
 exact ⟨_,rfl,_,_,_, [],p, [],hW',trodAll_mk1 (shut_bool Tryz.underlying4 true),trodAll_mk1 (Below.trod laidOut (by kernel_rfl) (of_decide_eq_true (by kernel_rfl)) h0 hg hlt),rfl,hg.frame _,fun h=>by cases h⟩
theorem topSpun_said :Rows.TopSpunSaid:=
 OpenClaim.holds_of_wide 3 Tryz.f3 rfl rfl rfl rfl rfl rfl rfl ⟨rfl,rfl,rfl,rfl,rfl⟩ rfl rfl rfl rfl rfl (by kernel_rfl) Tryz.func3 (by kernel_rfl)
  (of_decide_eq_true (by kernel_rfl)) (by unfold Func.isWrapper;first|(rw [if_pos (by decide+kernel)];kernel_rfl)|(rw [if_neg (by decide+kernel)];exact ⟨rfl,rfl⟩))
  (fun os started H enc _=>topSpun_lifted os started H enc)
theorem topSpun_holds :Rows.TopSpunCardSaid:=
 Claim7.holds_tied_plain_at .later [] [.data, .data, .data] true (true, "7156a00dd565ccc5b243c7c66c0e1b87025c3a7a962659fa9eea236c69567f4f") false
  topSpun_said (fun _ h=>by cases h) (by kernel_rfl) (fun _ h=>by cases h) topSpun_row_tie rfl ⟨rfl,rfl⟩ (by kernel_rfl) rfl
  (fun f fn hf hfn=>by
   obtain rfl:f=3:=Option.some.inj ((show Tryz.prog.funcNamed Rows.topSpunRow.func=some 3 by kernel_rfl).symm.trans hf)|>.symm
   obtain rfl:fn=Tryz.f3:=(Option.some.inj (Tryz.func3.symm.trans hfn)).symm
   exact ⟨by kernel_rfl,fun j t ht=>by
    rw [Tryz.params3] at ht
    have h3:t=25:=by
     rcases j with _|j
     ·simpa using ht.symm
     ·simp at ht
    subst h3
    exact (show Tryz.prog.wantsStandIn 25=false by kernel_rfl)⟩)
  (by kernel_rfl)
end Go.Proofs.YtmjkobhkkjgplaaGreatDoor
