/- Maps from numbers to numbers as resources: made, looked up, entered, cloned, their length. It imports nothing of the dump. -/
import Derived.Test.YtmjkobhkkjgplaaGreatDoorS15
import Derived.Maps.RangeRun
namespace Go.Proofs.YtmjkobhkkjgplaaGreatDoor
open Go.RowKit
set_option linter.unusedSimpArgs false
set_option linter.unusedVariables false
structure KE where
 k:Int
 v:Int
 b:Nat
def KE.e (x:KE):MapEntry:=⟨.int .i64 x.k, .int .i64 x.v,x.b⟩
def KE.kv (x:KE):Int×Int:=(x.k,x.v)
structure MapC (w:World) (g:Nat) (c:List KE) (t:Nat):Prop where
 blk:w.heap[g]? =some (.map (c.map KE.e).toArray t)
 born:(c.map (·.b)).Nodup
 below:∀x∈c,x.b<t
 keys:(c.map (·.k)).Nodup
def MapZ (w:World) (g:Nat) (l:List (Int×Int)):Prop:=∃c t,MapC w g c t∧c.map KE.kv=l
theorem MapC.of_block {w w' :World} {g:Nat} {c:List KE} {t:Nat} (h:MapC w g c t) (hb:w'.heap[g]? =w.heap[g]?):MapC w' g c t:=⟨hb.trans h.blk,h.born,h.below,h.keys⟩
theorem MapC.lt {w:World} {g:Nat} {c:List KE} {t:Nat} (h:MapC w g c t):g<w.heap.size:=(Array.getElem?_eq_some_iff.1 h.blk).1
def vz (l:List (Int×Int)):List (Int×Value):=l.map fun x=>(x.1, .int .i64 x.2)
theorem MapZ.int {w:World} {g:Nat} {l:List (Int×Int)} (h:MapZ w g l):MapI w g (vz l):=by
 obtain ⟨c,t,h1,rfl⟩:=h
 exact ⟨_,t,h1.blk,by simp [pairsOf,keysI,vz,KE.e,KE.kv,Function.comp_def]⟩
theorem MapZ.keys {w:World} {g:Nat} {l:List (Int×Int)} (h:MapZ w g l):(l.map (·.1)).Nodup:=by
 obtain ⟨c,t,h1,rfl⟩:=h
 have:=h1.keys
 rw [List.map_map]
 exact this
structure MapTZ (P:Program) (T kT eT:TypeId):Prop where
 map:P.underlying T=some (.map kT eT)
 int:P.underlying kT=some (.int .i64)
 zero:∀w,(zeroValue eT).run P w= .ok (.int .i64 0) w
section
variable {P:Program} {o:Oper} {N:Nat} {K:Nat→Prop} {W w:World} {a:Act} {F:List (Nat×Value)} {L:List Asn} {T kT eT:TypeId} {p:Option Nat} {l:List (Int×Int)} {k v:Int} {g:Nat}
theorem setMap_get {w:World} {g:Nat} (hlt:g<w.heap.size) (es:Array MapEntry) (t:Nat):(World.setMap w g es t).heap[g]? =some (.map es t):=by
 show (w.heap.setIfInBounds g _)[g]? =_
 rw [Array.getElem?_setIfInBounds_self_of_lt hlt]
end
end Go.Proofs.YtmjkobhkkjgplaaGreatDoor
