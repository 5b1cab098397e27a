/- A part of the proof. -/
import Derived.Test.YtmbccnioijokfaaGreatDoorZs23
import Derived.Test.YtmbccnioijokfaaGreatDoorZs19
namespace Go.Proofs.YtmbccnioijokfaaGreatDoor
set_option maxRecDepth 100000
set_option maxHeartbeats 32000000
open Go.Value (int)
open Go.IntKind (i64 u8)
open Go.Proofs.Tryz
variable {P:Program}{ops:Array Oper}{o:Oper}{a:Act}{Q:Exit -> Act -> World -> Prop}{w:World}{base B size:Nat}{v:Value}
section
open Go.RowKit Go.Shelf
attribute [local go_sem] Oper.semAt_some
theorem Ev {F:Fence}{f:Nat}(w:World){rest:List Oper}(b:o.guard=none)(s x:Operand)(t g:TypeId)
  (d:o.op=.call { callee:=.builtin .append,args:=#[s,x],argTypes:=#[t,g] }) (vs vx:Value) (hs:a.eval s=vs) (hx:a.eval x=vx)
  (v':Value) (w':World) (hr:(Builtin.append_ #[t,g] o.type #[vs,vx]).run P w=.ok v' w') (h:wpListIn F f P ops Q rest (a.put o.dst v') w'):wpListIn F f P ops Q (o::rest) a w:=by
 refine wpListIn_plain b λK i=>?_
 unfold Oper.wpIn;refine ⟨?_,?_⟩
 ·simp [Oper.about,d,resolve,Target.leads,Sem.run_pure]
 ·rw [Oper.semAt_plain F _ _ (by rw [d];intro c e;cases e)]
  simp [execOp,d,resolve,invoke,builtin,hs,hx,hr,Result.andThen];exact i _ _ h
theorem WI (s b a:Int)(w:World):Calls prog 170 #[int i64 s,.agg #[b,a]] w λr w'=>
  r=.returned (.func (.func 217) #[] #[.pointer (some ⟨w.heap.size+1,0,none⟩),w.heap.size])/\w'=(w.alloc (.cells #[s] 3)).alloc (.cells #[b,a] 123):=by
 go_enter func170,ntmps170;go_wp2_with fail;go_returns;exact ⟨rfl,rfl⟩
theorem jH (q:Option Addr)(n c:Nat)(hc:n<=c)(w:World):Calls prog 172 #[.slice q n c] w λr w'=>r=.returned (.slice q n n)/\w=w':=by
 go_enter func172,ntmps172;go_wp2_with fail;go_returns;exact ⟨rfl,rfl⟩
theorem Q5.lowB {e:TypeId}{α:Type}{enc:α->List Value}{xs:List α}(h:Q5 w base e size enc v xs)(d:B<=base):Q5 w B e size enc v xs:=by
 refine ⟨h.1,?_⟩;rcases h.2 with c|⟨g,cap,cur,b,a,r⟩
 ·exact .inl c
 ·exact .inr ⟨g,cap,cur,b,pB d a,r⟩
theorem ms:(prog.info? 3).map (λi=>(i.zero,i.size,i.bytes))=some (some (int i64 0),1,8):=by kernel_rfl
theorem WJ (s a d:Int)(hx: -1000000000<=a/\a<=1000000000)(hz: -1000000000<=d/\d<=1000000000)(w:World):
  Calls prog 126 #[int i64 s,.agg #[int i64 a,int i64 d]] w λr w'=>DK w (Yn (Ye s a d)) r w':=by
 obtain ⟨N,hN⟩:=pt (w.heap.size+1);obtain ⟨T,y⟩:=pt ((w.alloc (.cells #[int i64 a,int i64 d] 123)).alloc (.cells #[.slice none 0 0] 31));have H0:Below w.heap.size w T:=by rw [y];go_grown
 have P0:Q0 T w.heap.size 123 #[int i64 a,int i64 d]:=by rw [y];exact (Q0.new' rfl).alloc _
 have A0:Q0 T N 31 #[.slice none 0 0]:=by rw [y,hN];exact Q0.new' (by simp)
 have ae:T.heap.size=w.heap.size+2:=by rw [y];simp
 obtain ⟨p0,p1,-,-⟩:=P0.pair;refine (callsIn_wide (n:=5)).1 (callsIn_of_wp_marks func126 rfl trivial ?_ rfl);refine wpIn_wide.2 ?_;simp only [ntmps126,List.size_toArray,List.length_cons,List.length_nil,Nat.reduceAdd,Nat.reduceSub,Array.replicate_succ,Array.replicate_zero,List.push_toArray,List.append_toArray,List.nil_append,List.cons_append];go_upto_region 2 with fail
 rw [<-y,<-hN];have HN:=pp hN;have X:=pp ae;clear y hN ae P0;obtain ⟨M,U⟩:=pt T.heap.size;obtain ⟨I,t⟩:=pt ((T.alloc (.cells #[int i64 s] 3)).alloc (.cells #[int i64 a,int i64 d] 123));have H1:Below w.heap.size w I:=by rw [t];exact ((H0.alloc H0.size _).alloc (H0.alloc H0.size _).size _)
 have S1:Q0 I M 3 #[int i64 s]:=by rw [t,U];exact (Q0.new' rfl).alloc _
 have P1:Q0 I (M+1) 123 #[int i64 a,int i64 d]:=by rw [t,U];exact Q0.new' (by simp)
 have A1:Q0 I N 31 #[.slice none 0 0]:=by rw [t];exact (A0.alloc _).alloc _
 have G:I.heap.size=M+2:=by rw [t,U];simp
 have HM:=pp (show M=N+1 by have:=HN.o;have:=X.o;omega)
 have K:=pp (show (Ye s a d).length=8192 by simp [Ye])
 go_wp2_with (go_at_call 170;refine (WI _ _ _ _).mono ?_;rintro e_ w1 ⟨rfl,rfl⟩);rw [<-t,<-U];have HS:=pp G;clear t U G p0 p1 H0 A0 X;refine Gd (m:=3) (gf:=217) (lb:=#[.pointer (some ⟨M+1,0,none⟩),M]) rfl (enters_of func217 (by kernel_rfl) rfl) (jB (M+1) M s a d hx hz I P1 S1) (λb hb=>by have:=HS.o;omega) (λ_=>rfl)
  (λZ i A=>∃v,Q0 A N 31 #[v]/\Hid (Q5 A (max Z (M+2)) 3 1 OH v ((Ye s a d).take i))/\Below w.heap.size w A)
  (λZ k i A=>False) ?_ ?_ (λZ=>⟨_,A1,by rw [List.take_zero];exact Q5.nil,H1⟩) ?round ?done ?stop
 ·rintro Z i A B ⟨v,D,J,C⟩ hk;exact ⟨v,hk.blk (λh=>by have h4:=h.1;have:=HM.o;rw [HS.o] at h4;omega) D,J.out.kept (λg hg S=>hk.block g S (λh=>by have:=h.2;have:=Nat.le_max_left Z (M+2);omega)),C.trans (hk.below C.size (λb hb h=>by have h4:=h.1;have:=HM.o;have:=HN.o;rw [HS.o] at h4;omega))⟩
 ·rintro Z k i A B h _;exact h.elim
 case round=>
  rintro Z l i x A rfl aj ah AY ⟨v,D,J,C⟩;clear A1 H1 S1 P1
  gi_wp2
  refine ⟨Kept.refl _ _,λE H W=>?_⟩
  have G:=HS.o;have al:=HM.o;have am:=HN.o;have R:max Z (M+2)=Z:=by omega
  rw [R] at J;replace D:Q0 E N 31 #[v]:=H.blk (show N≠I.heap.size+1 by omega) D
  have V:Q5 E Z 3 1 OH v ((Ye s a d).take i):=J.out.kept λg hg S=>H.block g S (show g≠I.heap.size+1 by omega)
  replace C:Below w.heap.size w E:=C.trans (H.below C.size (λb hb=>by omega))
  have Eo:Z<=E.heap.size:=by rw [W];omega
  have hi:i<(Ye s a d).length:=(List.getElem?_eq_some_iff.1 AY).1;have ac:(Ye s a d).take (i+1)=(Ye s a d).take i++[x]:=by rw [List.take_add_one,AY];rfl
  have ad:((Ye s a d).take i).length=i:=by rw [List.length_take];omega
  have h8:=K.o;obtain ⟨A3,F⟩:=pt (E.alloc (.cells #[int i64 x] 3));have z:Below E.heap.size E A3:=by rw [F];exact (pI _ _).alloc (pA _) _
  have Q:Q0 A3 E.heap.size 3 #[int i64 x]:=by rw [F];exact Q0.new' rfl
  obtain ⟨v',w',hrun,V2,-,f,g9,c9,rfl⟩:=V0 (P:=prog) (ts:=31) (ty:=31) (x:=x) (b:=E.heap.size) underlying31 ms rfl (by decide) (by decide) rfl (by simp [Value.oneCell']) (V.on z)
   (λj u hu=>by rw [Q.cell j];simpa using hu) (by rw [ad];omega) (pB Eo z.size)
  generalize ((Ye s a d).take i).length+1=n9 at hrun V2;rw [<-ac] at V2;have O:=(D.on z).below f (by omega)
  have f0:=O.frz 0;have o0:=O.cell 0;have aa:Kept (Cm I.heap.size Z (λx=>x=M+1∨x=M)) E w':=(Kept.of_below z).trans ⟨f.os,f.tape,f.output,f.size,λb hb hK=>f.block b (by
   rcases hK with h|h
   ·exact h.2
   ·omega)⟩
  have af:=aa.setCell (p:=⟨N,0,none⟩) (λh=>by
   rcases h with h|h
   ·have:=h.1;dsimp only at this;omega
   ·dsimp only at h;omega) (.slice (some ⟨g9,0,none⟩) n9 c9)
  have L:Below w.heap.size w (w'.setCell ⟨N,0,none⟩ (.slice (some ⟨g9,0,none⟩) n9 c9)):=(after C z |>.trans (f.mono (by omega))).setCell (p:=⟨N,0,none⟩) (by dsimp only;omega) _
  have V3:=V2.far (p:=⟨N,0,none⟩) (show N<Z by omega) (.slice (some ⟨g9,0,none⟩) n9 c9)
  rw [<-R] at V3;have HF:=pp (py af (py (O.set_ 0 (.slice (some ⟨g9,0,none⟩) n9 c9)) (py V3 L)));have v0:=D.cell 0;rw [F] at hrun;clear H W G R V Eo hi ac ad F z Q V2 f O aa af L V3 AY aj ah J C D al am h8
  gi_wp2_with (gi_at_builtin;refine Ev _ rfl _ _ _ _ rfl _ _ rfl rfl _ _ hrun ?_)
  exact ⟨HF.o.1,_,HF.o.2.1,HF.o.2.2.1,HF.o.2.2.2⟩
 case done=>
  rintro Z A ⟨v,D,J,C⟩ hK;clear A1 H1;have v0:=D.cell 0;have hO:=J.out;rw [List.take_length] at hO;obtain ⟨q,c,rfl,ag,an,ab,-⟩:=hO.form nV;have ak:=pp (el A q (Ye s a d).length (Ye s a d) ab (by rw [K.o];decide))
  have ao:=pp (jH q (Ye s a d).length c ag A);have HK:=pp hK;have H3:=pp C;have Y:=pp (Array.getElem?_eq_some_iff.1 hK).1;clear hK hO ag an ab D J C;go_wp2_with first
   | (go_at_call 172;refine ao.o.mono ?_;rintro e_ w1 ⟨rfl,rfl⟩)
   | (go_at_call 171;refine ak.o.mono ?_;rintro e_ w1 ⟨v,rfl,g1,g2⟩;have G1:=pp g1;have G2:=pp g2;clear g1 g2)
  refine UM ((G2.o.block _ Y.o).trans HK.o) (v:=v) (by simp [results,Tryz.f126,go_sem]) ⟨v,rfl,?_,?_⟩
  ·have h:=G1.o.lowB H3.o.size;refine ⟨h.1,?_⟩;rcases h.2 with h0|⟨g,cp,cur,hv,ai,hg,r⟩
   ·exact .inl h0
   ·refine .inr ⟨g,cp,cur,hv,ai,(World.putObj_heap_other (λe=>?_)).trans hg,r⟩
    rw [e,(G2.o.block _ Y.o).trans HK.o] at hg;cases hg
  ·exact VD (after H3.o G2.o) (by have:=HS.o;have:=HM.o;have:=HN.o;omega) _
 case stop=>
  rintro Z k i A hi h;exact h.elim
end
end Go.Proofs.YtmbccnioijokfaaGreatDoor