/- Arrays of truth values, as data. It imports nothing of the dump. -/
import Derived.Test.YtmjkobhkkjgplaaGreatDoorS11
namespace Go.Proofs.YtmjkobhkkjgplaaGreatDoor
open Go.RowKit
set_option linter.unusedSimpArgs false
set_option linter.unusedVariables false
def arI (P:Program) (T:TypeId):Option (Nat×TypeId):=match P.underlying T with
 |some (.array n e)=>some (n,e)
 |_=>none
theorem arI_parts {P:Program} {T e:TypeId} {n:Nat} (h:arI P T=some (n,e)):P.underlying T=some (.array n e):=by
 unfold arI at h
 split at h
 ·rename_i hu;cases h;exact hu
 ·cases h
section
variable {P:Program} {o:Oper} {N:Nat} {K:Nat→Prop} {W w:World} {a:Act} {F:List (Nat×Value)} {L:List Asn}
theorem r_ixAr {T e:TypeId} {gg:Bool} {m by_:Nat} {z:List Value} {x y:Operand} {n g q:Nat} (hT:arI P T=some (n,e)) (he:tyI P e=some (gg,m,by_,z)) (hm:m=1) (ho:o.op= .indexAddr T x y) (hx:ev F x=some (.pointer (some ⟨g,0,none⟩))) (hy:ev F y=some (.int .i64 (q:Int))) (hq:q<n):Rn P o N K W F L (.pointer (some ⟨g,q,none⟩)):=fun a w h=>by
 obtain ⟨i,d,zv,hi,hd,_,rfl,_⟩:=tyI_parts he
 have hu:=arI_parts hT
 have hel:P.elem T=e:=by simp [Program.elem,hu]
 have hal:P.arrayLen T=n:=by simp [Program.arrayLen,hu]
 have hu' :P.underlying T=some (.array (P.arrayLen T) (P.elem T)):=by rw [hel,hal];exact hu
 have e1:=run_indexAt_array (P:=P) (w:=w) T ⟨g,0,none⟩ .i64 (q:Int) hu'
 rw [if_pos ⟨by omega,by rw [hal];omega⟩,hel,run_sizeOf hi,Result.andThen_ok,hm] at e1
 unfold execOp
 simp only [ho,h.fr.ev hx,h.fr.ev hy,Sem.run_bind,e1,Result.andThen_ok,Sem.run_pure]
 simp [Addr.add_lit]
structure BArr where
 l:List Bool
instance : Inhabited BArr:=⟨⟨List.replicate 200 false⟩⟩
instance : Enc BArr where
 sz:=200
 cell x j:= .bool (nth x.l j)
 whole x:= .agg ((List.range 200).map fun j=> .bool (nth x.l j)).toArray
 agg:=true
 inner x _:=x.l.length=200
 on _ _:=False
 one h:=by cases h
 many _ _:=rfl
 keep _ _ _ h _:=h
 lt _ _ _ _ hb:=hb.elim
end
end Go.Proofs.YtmjkobhkkjgplaaGreatDoor
