/- A part of the proof. -/
import Derived.Test.YtmbccnioijokfaaGreatDoorZs12
namespace Go.Proofs.YtmbccnioijokfaaGreatDoor
set_option maxRecDepth 100000
set_option maxHeartbeats 32000000
open Go.Value (int)
open Go.IntKind (i64 u8)
open Go.Proofs.Tryz
section
open Go.RowKit Go.Shelf
attribute [local go_sem] Oper.semAt_some
abbrev EK (v:Value):List Value:=[v]
def Ki (P:Program)(G:FuncId)(lb:Array Value)(vs:List Value)(q:Nat->Bool)(w:World):Prop:=
 ∀k v,vs[k]?=some v->∀W,Below w.heap.size w W->Calls P G (#[v]++lb) W λr W'=>r=.returned (.bool (q k))/\Below W.heap.size W W'
def Aq (q:Nat->Bool)(n:Nat)(k:Int):Prop:=(k= -1/\∀j,j<n->q j=false)∨∃m:Nat,m<n/\k=m/\q m=true/\∀j,j<m->q j=false
theorem ev (q:Option Addr)(cp:Nat)(a:List Value)(E:a.length<=1000000)(G:FuncId)(t:Array Value)(p:Nat->Bool)(w:World)(z:Rd w q 1 EK a)(eG:∀args w,(callFunc G args).run prog w=.ok (.enter G args) w)(y:Ki prog G t a p w):
  Calls prog 118 #[.slice q a.length cp,.func (.func G) #[] t] w λr w'=>∃k:Int,r=.returned (int i64 k)/\Aq p a.length k/\Below w.heap.size w w':=by
 have B:=pp (show a.length<=maxLen by unfold maxLen;omega)
 have C:=pp y;clear E y;go_enter func118,ntmps118;go_upto_region 2 with fail
 go_loopw [8] (λI wr=>∃(i:Nat),I=.int .i64 (i:Nat)/\Hid (i<=a.length)/\Rd wr q 1 EK a/\Hid (∀j,j<i->p j=false)/\Hid (pM w wr)) (λv _=>a.length - (intOf v).toNat)
 case atStart=>exact ⟨0,rfl,pC _,z,pp (λj n=>by omega),pI _ _⟩
 case round=>
  clear z;obtain ⟨i,rfl,D,R,c,H⟩:=hrel;by_cases b:i<a.length
  ·obtain ⟨x,m⟩:∃x,a[i]?=some x:=⟨_,pH b⟩;have e:(i:Int)<(a.length:Int):=by omega
   obtain ⟨g,o,rfl,u⟩:=R (by omega)
   have e0:wr.cell? ⟨g,o+i,none⟩=some x:=by have:=u i x m 0 _ rfl;simpa using this
   obtain ⟨n2,n3,n5,n6⟩:=Uf b B.o;have d:=C.o i x m wr H.out;clear m u;cases hp:p i
   ·rw [hp] at d;have s:=pp hp;have l:=pp d;clear hp d;go_wp2_with (refine l.o.mono ?_;rintro F A ⟨rfl,f⟩);go_roundw
    case rel=>exact ⟨i+1,rfl,b,R.on f,pp (λj n=>by
     rcases Nat.lt_or_eq_of_le (Nat.le_of_lt_succ n) with h|rfl
     ·exact c.out j h
     ·exact s.o),after H.out f⟩
    case measure=>simp [intOf];omega
   ·rw [hp] at d;have s:=pp hp;have l:=pp d;clear hp d;go_wp2_with (refine l.o.mono ?_;rintro F A ⟨rfl,f⟩);go_returns;exact ⟨(i:Int),rfl,.inr ⟨i,b,rfl,s.o,c.out⟩,after H.out f⟩
  ·have hi2:i=a.length:=by have:=D.out;omega
   have e:¬(i:Int)<(a.length:Int):=by omega
   go_wp2_with fail;go_returns;exact ⟨-1,rfl,.inl ⟨rfl,λj n=>c.out j (by omega)⟩,H.out⟩
theorem ew (q:Option Addr)(cp:Nat)(a:List Value)(E:a.length<=1000000)(G:FuncId)(t:Array Value)(p:Nat->Bool)(w:World)(z:Rd w q 1 EK a)(eG:∀args w,(callFunc G args).run prog w=.ok (.enter G args) w)(y:Ki prog G t a p w):
  Calls prog 245 #[.slice q a.length cp,.func (.func G) #[] t] w λr w'=>∃k:Int,r=.returned (int i64 k)/\Aq p a.length k/\Below w.heap.size w w':=by
 have B:=pp (show a.length<=maxLen by unfold maxLen;omega)
 have C:=pp y;clear E y;go_enter func245,ntmps245;go_upto_region 2 with fail
 go_loopw [8] (λI wr=>∃(i:Nat),I=.int .i64 (i:Nat)/\Hid (i<=a.length)/\Rd wr q 1 EK a/\Hid (∀j,j<i->p j=false)/\Hid (pM w wr)) (λv _=>a.length - (intOf v).toNat)
 case atStart=>exact ⟨0,rfl,pC _,z,pp (λj n=>by omega),pI _ _⟩
 case round=>
  clear z;obtain ⟨i,rfl,D,R,c,H⟩:=hrel;by_cases b:i<a.length
  ·obtain ⟨x,m⟩:∃x,a[i]?=some x:=⟨_,pH b⟩;have e:(i:Int)<(a.length:Int):=by omega
   obtain ⟨g,o,rfl,u⟩:=R (by omega)
   have e0:wr.cell? ⟨g,o+i,none⟩=some x:=by have:=u i x m 0 _ rfl;simpa using this
   obtain ⟨n2,n3,n5,n6⟩:=Uf b B.o;have d:=C.o i x m wr H.out;clear m u;cases hp:p i
   ·rw [hp] at d;have s:=pp hp;have l:=pp d;clear hp d;go_wp2_with (refine l.o.mono ?_;rintro F A ⟨rfl,f⟩);go_roundw
    case rel=>exact ⟨i+1,rfl,b,R.on f,pp (λj n=>by
     rcases Nat.lt_or_eq_of_le (Nat.le_of_lt_succ n) with h|rfl
     ·exact c.out j h
     ·exact s.o),after H.out f⟩
    case measure=>simp [intOf];omega
   ·rw [hp] at d;have s:=pp hp;have l:=pp d;clear hp d;go_wp2_with (refine l.o.mono ?_;rintro F A ⟨rfl,f⟩);go_returns;exact ⟨(i:Int),rfl,.inr ⟨i,b,rfl,s.o,c.out⟩,after H.out f⟩
  ·have hi2:i=a.length:=by have:=D.out;omega
   have e:¬(i:Int)<(a.length:Int):=by omega
   go_wp2_with fail;go_returns;exact ⟨-1,rfl,.inl ⟨rfl,λj n=>c.out j (by omega)⟩,H.out⟩
end
end Go.Proofs.YtmbccnioijokfaaGreatDoor