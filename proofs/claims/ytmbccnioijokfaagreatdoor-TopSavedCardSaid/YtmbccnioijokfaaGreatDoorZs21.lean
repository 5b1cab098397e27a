/- A part of the proof. -/
import Derived.Test.YtmbccnioijokfaaGreatDoorZs12
namespace Go.Proofs.YtmbccnioijokfaaGreatDoor
set_option maxRecDepth 100000
set_option maxHeartbeats 32000000
open Go.Value (int)
open Go.IntKind (i64 u8)
open Go.Proofs.Tryz
variable {N:Nat}{ws:List ByteArray}{w w':World}
section
open Go.RowKit
attribute [local go_sem] Oper.semAt_some
abbrev YJ (s:ByteArray):List Value:=[.string s]
theorem jw (s:ByteArray):(YJ s).length=1:=rfl
def Z8 (N a:Nat)(ws:List ByteArray)(w:World):Prop:=∃q c,Q0 w a 58 #[.slice q ws.length c]/\ws.length<=c/\ws.length<=1000000/\(N<=w.heap.size/\a<N)/\(∀b,q=some b->b.block≠a/\b.block<N)/\Rd w q 1 YJ ws
theorem Z8.bel {a:Nat}(h:Z8 N a ws w)(d:Below N w w'):Z8 N a ws w':=by
 obtain ⟨q,c,v,k,m,⟨t,b⟩,f,s⟩:=h;refine ⟨q,c,v.below d b,k,m,⟨pB t d.size,b⟩,f,λr=>?_⟩
 obtain ⟨g,o,e,y⟩:=s r;refine ⟨g,o,e,λi x p j u l=>?_⟩
 rw [<-y i x p j u l];have n:=(f _ e).2;simp only [World.cell?,d.block g n]
theorem Z8.on {a:Nat}(h:Z8 N a ws w)(b:pM w w'):Z8 N a ws w':=by
 have d:N<=w.heap.size:=by obtain ⟨q,c,-,-,-,⟨e,-⟩,-⟩:=h;exact e
 exact h.bel (b.mono d)
theorem Z8.le {a:Nat}(h:Z8 N a ws w):N<=w.heap.size/\a<N:=by obtain ⟨q,c,-,-,-,b,-⟩:=h;exact b
theorem AH (w:World):Calls prog 25 #[.bool true] w λr w'=>r=.returned (.tuple #[])/\w=w':=by
 go_enter func25,ntmps25;go_wp2_with fail;go_returns;exact ⟨rfl,rfl⟩
def Nv (g o c:Nat):Addr:=if c=1 then ⟨g,o,none⟩ else ⟨g,o+1,none⟩
theorem jx (g o n c:Nat)(hc:n+1<=c)(w:World):(Instr.slice 48 (.slice (some ⟨g,o,none⟩) (n+1) c) (some (int i64 1)) none none).run prog w=.ok (.slice (some (Nv g o c)) n (c - 1)) w:=by
 unfold Nv;by_cases h:c=1
 ·subst h;obtain rfl:n=0:=by omega
  rw [if_pos rfl];simp [Instr.slice,Instr.sliceBounds,Instr.sliceBound,go_sem]
 ·rw [if_neg h];have b:¬c=1:=h;have a:(1:Int)<=(n:Int)+1:=by omega
  simp [Instr.slice,Instr.sliceBounds,Instr.sliceBound,go_sem,b,a]
theorem EL (N a:Nat)(s:ByteArray)(e:List ByteArray)(w:World)(h:Z8 N a (s::e) w):
  Calls prog 24 #[a] w λr w'=>r=.returned (.string s)/\Z8 N a e w'/\Kept (λb=>b≠a) w w':=by
 obtain ⟨q,c,k,n,v,m,t,y⟩:=h;obtain ⟨g,o,rfl,l⟩:=y (by simp)
 have f:g≠a/\g<N:=t _ rfl;have s0:w.cell? ⟨g,o,none⟩=some (.string s):=l 0 s rfl 0 _ rfl;rw [List.length_cons] at k n v;have a0:=k.cell 0;have f0:=k.frz 0;have htl:=jx g o e.length c n;have hpos:(0:Int)<((e.length+1:Nat):Int):=by omega
 have d:Z8 N a e (w.setCell ⟨a,0,none⟩ (.slice (some (Nv g o c)) e.length (c - 1))):=by
  refine ⟨_,_,k.set_ 0 _,by omega,by omega,⟨by simp [World.setCell];exact m.1,m.2⟩,λb z=>?_,λhn=>?_⟩
  ·obtain rfl:=pE z;unfold Nv;split<;>exact f
  ·have p:¬c=1:=by omega
   refine ⟨g,o+1,by unfold Nv;rw [if_neg p],λi x D j u B=>?_⟩
   have:=l (i+1) x (by simpa using D) j u B
   rw [World.cell?_setCell_other _ _ _ _ (λE=>f.1 (congrArg Addr.block E).symm)]
   rw [<-this];congr 2;omega
 have A:=pp d;have C:=pp (show Kept (λb=>b≠a) w (w.setCell ⟨a,0,none⟩ (.slice (some (Nv g o c)) e.length (c - 1))) from (Kept.refl _ _).setCell (by simp) _)
 clear k l y t n v d f m;go_enter func24,ntmps24;go_wp2_with (go_at_call 25;refine (AH _).mono ?_;rintro e_ w1 ⟨rfl,rfl⟩);go_returns;exact ⟨rfl,A.o,C.o⟩
theorem Ug (N a:Nat)(w:World)(h:Z8 N a [] w):
  Calls prog 74 #[a] w λr w'=>r=.returned (.tuple #[])/\w=w':=by
 obtain ⟨q,c,b,-⟩:=h;have a0:=b.cell 0;clear b;go_enter func74,ntmps74;go_wp2_with (go_at_call 25;refine (AH _).mono ?_;rintro e_ w1 ⟨rfl,rfl⟩);go_returns;exact ⟨rfl,rfl⟩
end
end Go.Proofs.YtmbccnioijokfaaGreatDoor