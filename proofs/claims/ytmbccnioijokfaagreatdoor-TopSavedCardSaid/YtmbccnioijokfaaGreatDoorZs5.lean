/- A part of the proof. -/
import Derived.Test.YtmbccnioijokfaaGreatDoorZs2
import Derived.Test.YtmbccnioijokfaaGreatDoorRows
namespace Go.Proofs.YtmbccnioijokfaaGreatDoor
set_option maxRecDepth 100000
set_option maxHeartbeats 32000000
open Go.Value (int)
open Go.IntKind (i64 u8)
open Go.Proofs.Tryz
variable {W W' w:World}{args:Array Value}{base:Nat}{spare:Nat -> Bool}{held:Bool}{f0 f1 f2:Field}
section
open Go.ChangeShapes Go.WideShapes Go.ChangeAt Go.RowKit
theorem own:ownKnob prog.godebug=none:=by kernel_rfl
theorem Ng:laidOutB prog=true:=by kernel_rfl
section
variable {H:Type}{enc:TypeId×Value->H}{P:Program}
theorem JT (g:laidOutB P=true)(k:pM W W'):
  ∀{ts:List TypeId} {d:List Value} {ds:List (DataW H)} {ps:List MemPlace},(∀t∈ts,P.readableRec t=true/\t<P.types.size)->
   DataW.TrodAll enc P W 0 (λ_=>true) true ts d ds ps->(∀x∈ps,x.block<W.heap.size)->
   DataW.TrodAll enc P W' 0 (λb=>decide (b<W.heap.size)) true ts d ds ps:=by
 intro ts;induction ts with
 | nil=>
  intro d ds ps _ h _;obtain ⟨rfl,rfl,rfl⟩:=trodAll_nil h;exact trodAll_mk0
 | cons t ts l=>
  intro d ds ps a h f;obtain ⟨v0,vs0,d0,ds0,p0,q0,rfl,rfl,rfl,j,m⟩:=trodAll_cons h;obtain ⟨i,c⟩:=a t (List.mem_cons_self ..);exact trodAll_cons_mk (Below.trod g i c j k λx e=>f x (by simp [e])) (l (λt ht=>a t (List.mem_cons_of_mem _ ht)) m λx e=>f x (by simp [e]))
theorem TJ {f:Func}{s:ChangeSpec}{tb:TypeId}{ds g:List (DataW H)}{a:List MemPlace}
  (v:laidOutB P=true) (j:(f.params.toList.all λt=>P.readableRec t&&decide (t<P.types.size))=true) (b:s.vars=[]) (l:f.resultTypes=#[tb]) (n:P.underlying tb=some .bool)
  (k:DataW.Whole enc P f.params.toList s.vars false W args.toList ds g a)
  (d:(s.fn H (ds++g)).results=[.lit (.bool true)]) (c:(s.fn H (ds++g)).args=ds) (y:(s.fn H (ds++g)).vars=[])
  (r:pM W W'):s.post enc P f false true false false W args (.bool true) W':=by
 have i:∀x∈a,x.block<W.heap.size:=λx w=>k.lt x w
 have m:=k;obtain ⟨p,q,z,u,e,hz,hn⟩:=k;rw [b] at u;obtain ⟨rfl,rfl⟩:=trodVars_none u;rw [List.append_nil] at e;subst e;refine ⟨ds,[],a,[],a,[],m,?_,?_,?_,World.keptBut_mono (λp o=>⟨o,Or.inr (Or.inl o)⟩) (r.frame (·∈a)),λh=>by cases h⟩
 ·rw [d,l];exact trodAll_mk1 (shut_bool n true)
 ·rw [c];refine JT v r (λt ht=>?_) z i
  have:=List.all_eq_true.1 j t ht;simpa using this
 ·rw [b,y];exact rfl
def Cr (P:Program)(f0 f1 f2:Field)(ti:TypeId):Bool:=
 (f0.offset==0&&f1.offset==1&&f2.offset==2)&&((f0.type==ti&&f1.type==ti&&f2.type==ti)&&P.cellsOf ti==1)
theorem Gg {e:Nat}{t p:TypeId}{cs:List Value}{x:DataW H×List MemPlace}(z:P.underlying t=some (.struct #[f0,f1,f2]))
  (m:Cr P f0 f1 f2 p=true) (i:P.underlying p=some (.int .i64)) (y:cs.length=3) (h:DataW.trod enc P w base spare held e t cs=some x):
  ∃a b c,cs=[.int .i64 a,.int .i64 b,.int .i64 c]/\Qg a/\Qg b/\Qg c:=by
 simp only [Cr,Bool.and_eq_true,beq_iff_eq] at m;obtain ⟨⟨⟨A,u⟩,o2⟩,⟨⟨t0,v⟩,r⟩,j⟩:=m;obtain ⟨xs,n,_,_,_,f,g⟩:=DataW.trod_struct z h
 match cs,y with
 | [v0,v1,v2],_=>
  match xs,f with
  | [y0,y1,B],_=>
   have l:=g 0 f0 rfl;have o:=g 1 f1 rfl;have g2:=g 2 f2 rfl;rw [A,t0,j] at l;rw [u,v,j] at o;rw [o2,r,j] at g2;obtain ⟨a,q,_,wa⟩:=DataW.trod_int (x:=y0) i l;obtain ⟨b,k,_,s⟩:=DataW.trod_int (x:=y1) i o;obtain ⟨c,d,_,wc⟩:=DataW.trod_int (x:=B) i g2;simp at q k d;subst q k d;exact ⟨a,b,c,rfl,Ys wa,Ys s,Ys wc⟩
end
end
end Go.Proofs.YtmbccnioijokfaaGreatDoor