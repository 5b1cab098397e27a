/- A part of the proof. -/
import Derived.Test.YtmbccnioijokfaaGreatDoorZs29
import Derived.Lib.AppendZerosOnto
namespace Go.Proofs.YtmbccnioijokfaaGreatDoor
set_option maxRecDepth 100000
set_option maxHeartbeats 32000000
open Go.Value (int)
open Go.IntKind (i64 u8)
open Go.Proofs.Tryz
variable {ops:Array Oper}{o:Oper}{a:Act}{Q:Exit -> Act -> World -> Prop}{w0 W:World}{K:Nat -> Prop}{l':List QI}{c:Cl}{N n k j B b:Nat}{v:Value}
section
open Go.RowKit Go.Maps
attribute [local go_sem] Oper.semAt_some
theorem Uj (w:World){rest:List Oper}(b:o.guard=none)(d s:Operand)(t c:TypeId)
  (e:o.op=.call { callee:=.builtin .copy,args:=#[d,s],argTypes:=#[t,c] }) (v u:Value) (hd:a.eval d=v) (hs:a.eval s=u) {v':Value} {w':World}
  (hr:(Builtin.copy_ #[t,c] o.type #[v,u]).run prog w=.ok v' w') (h:wpList prog ops Q rest (a.put o.dst v') w'):wpList prog ops Q (o::rest) a w:=
 wpList_plain b λ_ f=>by
  unfold Oper.wp execOp;simp only [e,resolve,invoke,builtin,Sem.run_bind,Sem.run_pure,Result.andThen_ok,List.map_toArray,List.map_cons,List.map_nil,hd,hs,hr];exact f _ _ h
theorem JH {w:World}{g:Nat}{t:TypeId}{cur:Array Value}(h:Q0 w g t cur):w.shape? g=some (t,cur.size):=by
 unfold Q0 at h;simp [World.shape?,h]
theorem Ic:∀xs:List QI,∀v∈xs.flatMap Qt,v.oneCell'=true:=λxs v b=>by
 obtain ⟨x,-,a⟩:=List.mem_flatMap.1 b;simp [Qt] at a;rcases a with rfl|rfl|rfl|rfl<;>rfl
theorem Km:(prog.info? 92).map (·.size)=some 4:=by kernel_rfl
theorem mU (w:World):(Go.sizeOf 92).run prog w=.ok 4 w:=by kernel_rfl
theorem E6 {w:World}{g o:Nat}{l:List QI}(h:∀i x,l[i]?=some x->∀j u,(Qt x)[j]?=some u->w.cell? ⟨g,o+i * 4+j,none⟩=some u):∀j v,(l.flatMap Qt)[j]?=some v->w.cell? ((⟨g,o,none⟩:Addr).add j)=some v:=λj v b=>by
 rw [Addr.add_lit];have hj:j<l.length * 4:=by rw [<-QV Xq l];exact (List.getElem?_eq_some_iff.1 b).1
 obtain ⟨x,c⟩:∃x,l[j / 4]?=some x:=⟨_,pH (by omega)⟩
 have a:(Qt x)[j%4]?=some v:=by
  obtain ⟨u,a⟩:∃u,(Qt x)[j%4]?=some u:=⟨_,pH (by rw [Xq];omega)⟩
  have:=D7 Xq l (j / 4) x c (j%4) u a;rw [show j / 4 * 4+j%4=j by omega,b] at this
  rw [a,<-this]
 have:=h (j / 4) x c (j%4) v a;rw [show o+j / 4 * 4+j%4=o+j by omega] at this
 exact this
theorem GF {w:World}{g:Nat}(h:Kept K w0 w)(c:¬K g)(cs:Array Value):Kept K w0 (w.setRow g cs):=
 ⟨h.os,h.tape,h.output,by rw [size_setRow];exact h.size,λk b a=>by rw [setRow_other w g k cs (λe=>c (e▸a))];exact h.block k b a⟩
theorem Lu (g cp i:Nat)(l:List QI)(x:QI)(b:Nat)(w:World)(M:Q5 w 0 92 4 Qt (.slice (some ⟨g,0,none⟩) l.length cp) l)(C:Q0 w b 92 #[int i64 x.1,int i64 x.2.1,int i64 x.2.2.1,int i64 x.2.2.2])(d:b≠g)(hi:i<l.length)(hc:l.length+1<=cp)(hl:l.length<=4096):
  Calls prog 336 #[.slice (some ⟨g,0,none⟩) l.length cp,int i64 i,.slice (some ⟨b,0,none⟩) 1 1] w λr w'=>IW (.slice (some ⟨g,0,none⟩) l.length cp) (l.take i++x::l.drop i) w r w':=by
 obtain ⟨cur,O,a,-,c,-,m⟩:=M.parts;obtain ⟨n,F⟩:=pt l.length;have X:∀la Z lb cb o,(callFunc 351 #[.slice (some ⟨b,0,none⟩) la Z,.slice (some ⟨g,o,none⟩) lb cb]).run prog w=.ok (.value (.bool false)) w:=λla Z lb cb o=>by
  rw [run_callFunc_extern func351 (by kernel_rfl) (by kernel_rfl) (by kernel_rfl) (e:=Extern.SlicesOverlaps.overlaps #[88,88] #[4]) (by kernel_rfl),
   Lib.run_overlaps_apart w 88 4 92 underlying88 4 mU ⟨b,0,none⟩ ⟨g,o,none⟩ la Z lb cb d _ _ _ _ (JH C) (JH O) (by omega) (C.frz _) (C.frz _)]
  rfl
 rw [<-F] at hi hc hl ⊢;have HX:=pp (py M (py C (py d (py O (py a (py c (py m F)))))));have q0:(0:Int)<=(i:Int):=by omega
 have q1:¬(i:Int)=(n:Int):=by omega
 have q2:(i:Int)<(n:Int):=by omega
 unfold maxLen at c;have q3:¬(cp:Int)<(n:Int)+1:=by omega
 have q4:(n:Int)<=4096:=by omega
 clear M C d O a c m F;go_enter func336,ntmps336;have q5:(0:Int)<=(i:Int)+1:=by omega
 have q6:(i:Int)+1<=(n:Int)+1:=by omega
 have q7:(n:Int)+1<=(cp:Int):=by omega
 have q8:(i:Int)<=(n:Int)+1:=by omega
 have q9:¬cp=i+1:=by omega
 have q10:¬cp=i:=by omega
 have hw:IntKind.i64.wrap ((i:Int)+1)=(i:Int)+1:=pJ _ (by omega)
 go_upto_region 15 with (simp only [X])
 refine Qk [0,0,0,0,0,0,0,0,3] (λ_ _ _=>True) (by kernel_rfl) (by kernel_rfl) (λ_ _ _ _ h _=>h) ?_
 repeat (first|(refine Qi ?_)|(refine Qf (λK hK=>?_);go_simp;refine hK _ ?_;clear hK K))
 refine Q8 ?_;repeat (refine Q2 ?_)
 refine Qc ?_;simp only [Qd];intro Q N _;have G3:=pp N;obtain ⟨M,C,d,O,a,c,m,F⟩:=HX.o;have P:=M.on N;have I:=O.on N;have U:=C.on N;have t:∀k y,l[k]?=some y->∀j u,(Qt y)[j]?=some u->Q.cell? ⟨g,k * 4+j,none⟩=some u:=λk y T j u W=>by
  obtain ⟨q',cap',Y,-,-,t,-⟩:=P.form Xq;obtain ⟨g',o',e1,h5⟩:=t (by have:=(List.getElem?_eq_some_iff.1 T).1;omega)
  obtain ⟨e2,e3,-⟩:=Value.slice.inj Y;rw [e1] at e2;obtain ⟨rfl,rfl⟩:g=g'/\0=o':=by simpa using e2
  have:=h5 k y T j u W
  rwa [Nat.zero_add] at this
 have A:((l.drop i).flatMap Qt).length=(n - i) * 4:=by rw [QV Xq,List.length_drop,<-F]
 have p:∀ty G sc,(Builtin.copy_ #[88,88] ty #[.slice (some ⟨g,(i+1) * 4,none⟩) (n - i) G,.slice (some ⟨g,i * 4,none⟩) (n+1 - i) sc]).run prog Q=.ok (goInt (Nat.min (n+1 - i) (n - i))) (Q.setRow g (cur.toList.take ((i+1) * 4)++(l.drop i).flatMap Qt++cur.toList.drop ((i+1) * 4+((l.drop i).flatMap Qt).length)).toArray):=λty G sc=>
  Ui prog 4 Q _ _ ty 92 g ((i+1) * 4) (n - i) G ⟨g,i * 4,none⟩ (n+1 - i) sc cur 92 _ underlying88 Km I (by rw [A];congr 1;simp only [Nat.min_def];split<;>omega)
   (E6 λk y T j u W=>by
    rw [List.getElem?_drop] at T;have:=t (i+k) y T j u W
    rwa [Nat.add_mul] at this) (by rw [A,a];omega) (Ic _)
 obtain ⟨E,s⟩:=pt ((cur.toList.take ((i+1) * 4)++(l.drop i).flatMap Qt++cur.toList.drop ((i+1) * 4+((l.drop i).flatMap Qt).length)).toArray);rw [<-s] at p;have H:E.size=cp * 4:=by
  rw [s,List.size_toArray,List.length_append,List.length_append,List.length_take,List.length_drop,A,Array.length_toList,a];omega
 obtain ⟨L,q⟩:=pt (Q.setRow g E);rw [<-q] at p;have J:Q0 L g 92 E:=by rw [q];exact I.row _
 have S:Q0 L b 92 #[int i64 x.1,int i64 x.2.1,int i64 x.2.2.1,int i64 x.2.2.2]:=by rw [q];exact U.row_far d _
 have R:Kept (λk=>k≠g) w L:=by rw [q];exact GF ((Kept.of_below N).mono λ_ _=>trivial) (by simp) _
 have B:∀ty G,(Builtin.copy_ #[88,88] ty #[.slice (some ⟨g,i * 4,none⟩) (n+1 - i) G,.slice (some ⟨b,0,none⟩) 1 1]).run prog L=.ok (goInt (Nat.min 1 (n+1 - i))) (L.setRow g (E.toList.take (i * 4)++Qt x++E.toList.drop (i * 4+(Qt x).length)).toArray):=λty G=>
  Ui prog 4 L _ _ ty 92 g (i * 4) (n+1 - i) G ⟨b,0,none⟩ 1 1 E 92 _ underlying88 Km J (by rw [Xq];simp only [Nat.min_def];split<;>omega)
   (λj v hj=>by rw [Addr.add_lit,Nat.zero_add,S.cell];simpa [Qt] using hj) (by rw [Xq,H];omega) (by intro v hv;exact Ic [x] v (by simpa using hv))
 obtain ⟨C2,z⟩:=pt ((E.toList.take (i * 4)++Qt x++E.toList.drop (i * 4+(Qt x).length)).toArray);rw [<-z] at B;have D:IW (.slice (some ⟨g,0,none⟩) n cp) (l.take i++x::l.drop i) w (.returned (.slice (some ⟨g,0,none⟩) (n+1) cp)) (L.setRow g C2):=by
  have f:(l.take i++x::l.drop i).length=n+1:=by rw [List.length_append,List.length_take,List.length_cons,List.length_drop];omega
  have V:cp<=maxLen:=c;refine ⟨g,cp,by rw [f],Q5.made Xq (J.row _) ?_ (by rw [f];omega) V (pC _) ?_,(GF R (by simp) _).mono λk hk e=>hk (by rw [e];rfl),.inl rfl⟩
  ·rw [z,List.size_toArray,List.length_append,List.length_append,List.length_take,List.length_drop,Xq,Array.length_toList,H];omega
  ·rw [f,F,z,s];exact Sv Xq x (by omega) m (by have h1:cur.toList.length=cur.size:=Array.length_toList;rw [h1,a,<-F];omega)
 have HF:=pp D;clear M C d O a m F P I U t A s z H J S R D N c;subst q;go_wp2_with (at_builtin;first|(refine Uj _ rfl _ _ 88 88 rfl _ _ rfl rfl (p _ _ _) ?_)|(refine Uj _ rfl _ _ 88 88 rfl _ _ rfl rfl (B _ _) ?_))
 go_returns;exact HF.o
theorem GG (k:Nat):(Builtin.zeroCells (Value.agg #[int i64 0,int i64 0,int i64 0,int i64 0]).cells k).size=k * 4:=by
 simp [Builtin.zeroCells,Value.cells]
theorem aD {α:Type}{K:Nat}{enc:α->List Value}(a:∀x,(enc x).length=K){xs:List α}{i:Nat}(x:α)(hi:i<xs.length){row:List Value}(ht:row.take (i * K)=(xs.take i).flatMap enc):
  (((row.take (i * K)++enc x++row.drop (i * K+(enc x).length)).take ((i+1) * K)++(xs.drop i).flatMap enc++(row.take (i * K)++enc x++row.drop (i * K+(enc x).length)).drop ((i+1) * K+((xs.drop i).flatMap enc).length))).take ((xs.length+1) * K)=(xs.take i++x::xs.drop i).flatMap enc:=by
 have b:∀ys:List α,(ys.flatMap enc).length=ys.length * K:=QV a;have f:(i+1) * K=i * K+K:=Nat.succ_mul i K;have e:(xs.length+1) * K=xs.length * K+K:=Nat.succ_mul _ K;have m3:(xs.length - i) * K+i * K=xs.length * K:=by rw [<-Nat.add_mul];congr 1;omega
 have c:((xs.take i).flatMap enc).length=i * K:=by rw [b,List.length_take];congr 1;omega
 have g:((xs.drop i).flatMap enc).length=(xs.length - i) * K:=by rw [b,List.length_drop]
 rw [ht];have d:((xs.take i).flatMap enc++enc x++row.drop (i * K+(enc x).length)).take ((i+1) * K)=(xs.take i).flatMap enc++enc x:=by
  rw [List.take_left'];rw [List.length_append,c,a,f]
 rw [d,List.flatMap_append,List.flatMap_cons,<-List.append_assoc ((xs.take i).flatMap enc) (enc x)];rw [List.take_left'];rw [List.length_append,List.length_append,c,a,g,e];omega
theorem MT (g i:Nat)(l:List QI)(x:QI)(b:Nat)(w:World)(hO:Q5 w 0 92 4 Qt (.slice (some ⟨g,0,none⟩) l.length l.length) l)(hX:Q0 w b 92 #[int i64 x.1,int i64 x.2.1,int i64 x.2.2.1,int i64 x.2.2.2])(hi:i<l.length)(hl:l.length<=4096):
  Calls prog 336 #[.slice (some ⟨g,0,none⟩) l.length l.length,int i64 i,.slice (some ⟨b,0,none⟩) 1 1] w λr w'=>IW (.slice (some ⟨g,0,none⟩) l.length l.length) (l.take i++x::l.drop i) w r w':=by
 obtain ⟨cur,hB,al,-,ae,-,ah⟩:=hO.parts;obtain ⟨i0,Z,aa,Y,L⟩:=info_parts Ls;obtain ⟨n,hn⟩:=pt l.length;have f:∀k y,l[k]?=some y->∀j u,(Qt y)[j]?=some u->w.cell? ⟨g,k * 4+j,none⟩=some u:=λk y t j u V=>by
  obtain ⟨q',cap',ai,-,-,f,-⟩:=hO.form Xq;obtain ⟨g',o',e1,h5⟩:=f (by have:=(List.getElem?_eq_some_iff.1 t).1;omega)
  obtain ⟨e2,e3,-⟩:=Value.slice.inj ai;rw [e1] at e2;obtain ⟨rfl,rfl⟩:g=g'/\0=o':=by simpa using e2
  have:=h5 k y t j u V
  rwa [Nat.zero_add] at this
 have D:(Builtin.firstCells i0.size i (.slice (some ⟨g,0,none⟩) i n)).run prog w.drew=.ok ((l.take i).flatMap Qt).toArray w.drew:=by
  rw [Y];exact run_firstCells_some w.drew 4 i ⟨g,0,none⟩ i n ((l.take i).flatMap Qt) (by rw [QV Xq,List.length_take];congr 1;omega) (E6 (w:=w.drew) (o:=0) λk y t j u V=>by
   have hk:k<i:=by have:=(List.getElem?_eq_some_iff.1 t).1;rw [List.length_take] at this;omega
   rw [List.getElem?_take_of_lt hk] at t;rw [Nat.zero_add];exact f k y t j u V)
 obtain ⟨G,X⟩:=pt (grownCap w (n+1) n 92);have ad:n+1<=G:=by rw [X];exact grownCap_ge w _ _ _
 have M:G<=maxLen:=by rw [X];exact grownCap_le_maxLen w _ _ _ (by unfold maxLen;omega)
 obtain ⟨a,c⟩:∃a:Array Value,a=((l.take i).flatMap Qt).toArray++Builtin.zeroCells (Value.agg #[int i64 0,int i64 0,int i64 0,int i64 0]).cells (n+1 - i)++Builtin.zeroCells (Value.agg #[int i64 0,int i64 0,int i64 0,int i64 0]).cells (G - (n+1)):=⟨_,rfl⟩;have N:i+(n+1 - i)=n+1:=by omega
 have T:(n:Int)+1 - (i:Int)=((n+1 - i:Nat):Int):=by omega
 have ac:∀ty,(Builtin.append_ #[88,3] ty #[.slice (some ⟨g,0,none⟩) i n,int i64 ((n:Int)+1 - (i:Int))]).run prog w=.ok (.slice (some ⟨w.heap.size,0,none⟩) (n+1) G) (w.drew.alloc (.cells a 92)):=λty=>by
  have h:=Lib.run_append_grow_zeros w 88 3 ty 92 i0 _ .i64 .i64 underlying88 underlying3 Z aa (some ⟨g,0,none⟩) i n _ D (n+1 - i) (by omega) (by omega) (by omega) (by omega) (by rw [L];omega) (by rw [L,N];exact growslice_fits (by omega) (by omega))
  rw [N] at h;rw [T,h,X,c,X]
 have J:a.size=G * 4:=by
  have h1:((l.take i).flatMap Qt).length=i * 4:=by rw [QV Xq,List.length_take];congr 1;omega
  rw [c,Array.size_append,Array.size_append,GG,GG,List.size_toArray,h1];omega
 have ab:a.toList.take (i * 4)=(l.take i).flatMap Qt:=by
  rw [c,Array.toList_append,Array.toList_append,List.append_assoc,List.take_left'];rw [QV Xq,List.length_take];congr 1;omega
 obtain ⟨Q,p⟩:=pt (w.drew.alloc (.cells a 92));have P:pM w Q:=by rw [p];exact (pI _ _).drew.alloc (pA _) _
 have F:Q0 Q w.heap.size 92 a:=by rw [p];exact Q0.new' rfl
 have R:=hX.on P;have af:b≠w.heap.size:=by have:=hX.lt;omega
 rw [<-p] at ac;have C:∀ty H,(Builtin.copy_ #[88,88] ty #[.slice (some ⟨w.heap.size,i * 4,none⟩) (n+1 - i) H,.slice (some ⟨b,0,none⟩) 1 1]).run prog Q=.ok (goInt (Nat.min 1 (n+1 - i))) (Q.setRow w.heap.size (a.toList.take (i * 4)++Qt x++a.toList.drop (i * 4+(Qt x).length)).toArray):=λty H=>
  Ui prog 4 Q _ _ ty 92 w.heap.size (i * 4) (n+1 - i) H ⟨b,0,none⟩ 1 1 a 92 _ underlying88 Km F (by rw [Xq];simp only [Nat.min_def];split<;>omega)
   (λj v hj=>by rw [Addr.add_lit,Nat.zero_add,R.cell];simpa [Qt] using hj) (by rw [Xq,J];omega) (by intro v hv;exact Ic [x] v (by simpa using hv))
 obtain ⟨E,q⟩:=pt ((a.toList.take (i * 4)++Qt x++a.toList.drop (i * 4+(Qt x).length)).toArray);rw [<-q] at C;have I:E.size=G * 4:=by
  rw [q,List.size_toArray,List.length_append,List.length_append,List.length_take,List.length_drop,Xq,Array.length_toList,J];omega
 obtain ⟨W2,m⟩:=pt (Q.setRow w.heap.size E);have z:pM w W2:=by rw [m];exact Ut P (pA _) _
 have O:Q0 W2 w.heap.size 92 E:=by rw [m];exact F.row _
 have A:((l.drop i).flatMap Qt).length=(n - i) * 4:=by rw [QV Xq,List.length_drop,<-hn]
 have d:∀W,pM W2 W->∀ty H sc,(Builtin.copy_ #[88,88] ty #[.slice (some ⟨w.heap.size,(i+1) * 4,none⟩) (n - i) H,.slice (some ⟨g,i * 4,none⟩) (n - i) sc]).run prog W=.ok (goInt (Nat.min (n - i) (n - i))) (W.setRow w.heap.size (E.toList.take ((i+1) * 4)++(l.drop i).flatMap Qt++E.toList.drop ((i+1) * 4+((l.drop i).flatMap Qt).length)).toArray):=λW S ty H sc=>
  Ui prog 4 W _ _ ty 92 w.heap.size ((i+1) * 4) (n - i) H ⟨g,i * 4,none⟩ (n - i) sc E 92 _ underlying88 Km (O.on S) (by rw [A];congr 1;simp only [Nat.min_def];split<;>omega)
   (E6 λk y t j u V=>by
    rw [List.getElem?_drop] at t;have:=f (i+k) y t j u V;rw [Nat.add_mul] at this;exact (Below.cell S (QN ((Below.cell z (QN this)).trans this))).trans ((Below.cell z (QN this)).trans this)) (by rw [A,I];omega) (Ic _)
 obtain ⟨C2,s⟩:=pt ((E.toList.take ((i+1) * 4)++(l.drop i).flatMap Qt++E.toList.drop ((i+1) * 4+((l.drop i).flatMap Qt).length)).toArray);rw [<-s] at d;have B:∀W,pM W2 W->IW (.slice (some ⟨g,0,none⟩) n n) (l.take i++x::l.drop i) w (.returned (.slice (some ⟨w.heap.size,0,none⟩) (n+1) G)) (W.setRow w.heap.size C2):=λW S=>by
  have e:(l.take i++x::l.drop i).length=n+1:=by rw [List.length_append,List.length_take,List.length_cons,List.length_drop];omega
  refine ⟨w.heap.size,G,by rw [e],Q5.made Xq ((O.on S).row _) ?_ (by rw [e];omega) M (pC _) ?_,(Kept.of_below (Ut (after z S) (pA _) _)).mono λ_ _=>trivial,.inr (pA _)⟩
  ·rw [s,List.size_toArray,List.length_append,List.length_append,List.length_take,List.length_drop,A,Array.length_toList,I];omega
  ·rw [e,hn,s,q];exact aD Xq x (by omega) ab
 have HF:=pp B;have ak:=pp d;rw [<-hn] at hi hl ⊢;have q0:(0:Int)<=(i:Int):=by omega
 have q1:¬(i:Int)=(n:Int):=by omega
 have q2:(i:Int)<(n:Int):=by omega
 have q3:(n:Int)<(n:Int)+1:=by omega
 have q4:(n:Int)<=4096:=by omega
 have q5:(0:Int)<=(i:Int)+1:=by omega
 have q6:(i:Int)+1<=(n:Int)+1:=by omega
 have q8:(i:Int)<=(n:Int)+1:=by omega
 have q9:¬G=i+1:=by omega
 have q10:¬G=i:=by omega
 have q11:¬n=i:=by omega
 have q12:(i:Int)<=(n:Int):=by omega
 have hw:IntKind.i64.wrap ((i:Int)+1)=(i:Int)+1:=pJ _ (by omega)
 have HQ:=pp (py ad M);have q13:(n:Int)+1<=(G:Int):=by omega
 clear hO hX hB al ae ah hn f D X ad M c T N J ab P F R af q I z O A d s B Z aa Y L p;have ag:=pp m;clear m;go_enter func336,ntmps336;go_upto_region 10 with (at_builtin;refine Lib.wpList_append_run _ rfl _ _ _ _ rfl _ _ rfl rfl _ _ (ac _) ?_)
 go_upto_region 11 with (at_builtin;refine Uj _ rfl _ _ 88 88 rfl _ _ rfl rfl (C _ _) ?_)
 rw [<-ag.o];refine Qk [0,0,0,0,0,0,0,0,3] (λ_ _ _=>True) (by kernel_rfl) (by kernel_rfl) (λ_ _ _ _ h _=>h) ?_
 repeat (first|(refine Qi ?_)|(refine Qf (λK hK=>?_);go_simp;refine hK _ ?_;clear hK K))
 refine Q8 ?_;repeat (refine Q2 ?_)
 refine Qc ?_;simp only [Qd];intro W3 h3 _;have U:=ak.o W3 h3;have aj:=pp (HF.o W3 h3);clear h3;go_wp2_with (at_builtin;refine Uj _ rfl _ _ 88 88 rfl _ _ rfl rfl (U _ _ _) ?_);go_returns;exact aj.o
theorem NS (q:Option Addr)(cp i:Nat)(l:List QI)(x:QI)(b:Nat)(w:World)(c:Q5 w 0 92 4 Qt (.slice q l.length cp) l)(d:Q0 w b 92 #[int i64 x.1,int i64 x.2.1,int i64 x.2.2.1,int i64 x.2.2.2])(k:Value.ownBlock (.slice q l.length cp)≠some b)(hi:i<=l.length)(j:l.length<=4096):
  Calls prog 336 #[.slice q l.length cp,int i64 i,.slice (some ⟨b,0,none⟩) 1 1] w λr w'=>IW (.slice q l.length cp) (l.take i++x::l.drop i) w r w':=by
 by_cases p:i=l.length
 ·subst p;rw [List.take_length,List.drop_length];exact kj q cp l x b w c d (by omega)
 ·have a:i<l.length:=by omega
  obtain ⟨q',cap',f,hcap,hmax,-,-,n⟩:=c.form Xq;obtain ⟨m,-,o⟩:=Value.slice.inj f;subst m o;obtain ⟨g,rfl⟩:=n (by omega)
  rcases (show cp=l.length∨l.length+1<=cp by omega) with h|h
  ·subst h;exact MT g i l x b w c d a j
  ·exact Lu g cp i l x b w c d (λe=>k (by rw [e];rfl)) a h j
def VR (l:List QI)(x:QI):List QI:=l.take (Vg l x.1)++x::l.drop (Vg l x.1)
def QH (l:List QI):Prop:=(l.map (·.2)).Nodup
theorem CG (l:List QI)(x:QI):(l++[x]).Perm (VR l x):=by
 unfold VR;refine List.Perm.trans ?_ List.perm_middle.symm;rw [List.take_append_drop];exact List.perm_append_comm
theorem aE (l:List QI)(x:QI):(VR l x).length=l.length+1:=by
 have:=(CG l x).length_eq;rw [List.length_append] at this;exact this.symm
theorem Lv {l:List QI}(h:l.Perm l')(c:Cl):XM l c=XM l' c:=by
 unfold XM;rw [Bool.eq_iff_iff,List.any_eq_true,List.any_eq_true];exact ⟨λ⟨x,b,a⟩=>⟨x,h.mem_iff.1 b,a⟩,λ⟨x,b,a⟩=>⟨x,h.mem_iff.2 b,a⟩⟩
theorem Sw {l:List QI}(c:QH l){x:QI}(b:x∈l):Bc l x.2=x.1:=by
 induction l with
 | nil=>cases b
 | cons a l d=>
  unfold QH at c;rw [List.map_cons,List.nodup_cons] at c;unfold Bc;by_cases h:a.2=x.2
  ·rw [List.find?_cons_of_pos (by simpa using h)]
   rcases List.mem_cons.1 b with rfl|b
   ·rfl
   ·exact absurd (List.mem_map.2 ⟨x,b,h.symm⟩) c.1
  ·rw [List.find?_cons_of_neg (by simpa using h)]
   rcases List.mem_cons.1 b with rfl|b
   ·exact absurd rfl h
   ·exact d c.2 b
theorem NT {l:List QI}(h:XM l c=false):Bc l c=0:=by
 have:l.find? (λp=>decide (p.2=c))=none:=by
  rw [List.find?_eq_none];intro x b a;unfold XM at h;rw [List.any_eq_false] at h;exact h x b a
 unfold Bc;rw [this]
theorem fy {l:List QI}(h:l.Perm l')(b:QH l)(c:Cl):Bc l c=Bc l' c:=by
 have a:QH l':=(h.map _).nodup_iff.1 b;cases hh:XM l c
 ·rw [NT hh,NT (by rw [<-Lv h];exact hh)]
 ·unfold XM at hh;rw [List.any_eq_true] at hh;obtain ⟨x,d,e⟩:=hh;obtain rfl:x.2=c:=by simpa using e
  rw [Sw b d,Sw a (h.mem_iff.1 d)]
theorem Tell.perm {D:DU}{l:List QI}(h:Tell D l)(a:l.Perm l')(d:QH l):Tell D l' where
 size:=by rw [h.size,a.length_eq]
 has:=λc b=>by rw [h.has c b,Lv a]
 at_:=λc b=>by rw [h.at_ c b,fy a d]
 far:=λp e=>h.far p (a.mem_iff.2 e)
theorem JI {l:List QI}(f:QH l){x:QI}(d:XM l x.2=false):QH (l++[x]):=by
 unfold QH at *;rw [List.map_append,List.nodup_append];refine ⟨f,by simp,λa g b i e=>?_⟩
 obtain ⟨y,h,rfl⟩:=List.mem_map.1 g;have c:b=x.2:=by simpa using i
 unfold XM at d;rw [List.any_eq_false] at d;exact d y h (by simpa using e.trans c)
theorem Sy {l:List QI}(a:QH l){x:QI}(b:XM l x.2=false):QH (VR l x):=((CG l x).map _).nodup_iff.1 (JI a b)
theorem Pj {l:List QI}(c:Xh l)(t:Int):(∀y∈l.take (Vg l t),y.1<=t)/\(∀y∈l.drop (Vg l t),t<y.1):=by
 induction l with
 | nil=>exact ⟨λy b=>by simp at b,λy b=>by simp at b⟩
 | cons a l f=>
  unfold Xh at c;rw [List.pairwise_cons] at c;by_cases d:a.1<=t
  ·have e:Vg (a::l) t=Vg l t+1:=by unfold Vg;rw [List.takeWhile_cons,if_pos (by simpa using d),List.length_cons]
   rw [e,List.take_succ_cons,List.drop_succ_cons];refine ⟨λy b=>?_,(f c.2).2⟩
   rcases List.mem_cons.1 b with rfl|b
   ·exact d
   ·exact (f c.2).1 y b
  ·have e:Vg (a::l) t=0:=by unfold Vg;rw [List.takeWhile_cons,if_neg (by simpa using d)];rfl
   rw [e];refine ⟨λy b=>by simp at b,λy b=>?_⟩
   rw [List.drop_zero] at b;rcases List.mem_cons.1 b with rfl|b
   ·omega
   ·have:=c.1 y b;omega
theorem MU {l:List QI}(d:Xh l)(x:QI):Xh (VR l x):=by
 obtain ⟨h,e⟩:=Pj d x.1;unfold Xh VR;rw [List.pairwise_append,List.pairwise_cons];refine ⟨d.sublist (List.take_sublist _ _),⟨λy g=>by have:=e y g;omega,d.sublist (List.drop_sublist _ _)⟩,λa f b c=>?_⟩
 have:=h a f;rcases List.mem_cons.1 c with rfl|c
 ·exact this
 ·have:=e b c;omega
def oG (N:Nat)(x:QI)(v:Value)(w:World):Prop:=∃b,v=.slice (some ⟨b,0,none⟩) 1 1/\N<=b/\Q0 w b 92 #[int i64 x.1,int i64 x.2.1,int i64 x.2.2.1,int i64 x.2.2.2]
def oH (N:Nat)(r:Option Nat)(L:List QI)(v:Value)(w:World):Prop:=∃g c,v=.slice (some ⟨g,0,none⟩) L.length c/\Q5 w 0 92 4 Qt (.slice (some ⟨g,0,none⟩) L.length c) L/\(r=some g∨N<=g)
def aF (N:Nat)(r:Option Nat)(x:QI)(L:List QI):Nat->XO:=λi v' w=>match i with|7=>oG N x v' w|8=>oH N r L v' w|_=>True
theorem fD {r:Option Nat}{x:QI}{L:List QI}(j:∀b,r=some b->b<N):∀i v' (w w':World),aF N r x L i v' w->(if i=8 then Below w.heap.size w w' else Kept (λb=>r≠some b) w w')->aF N r x L i v' w'
 | 7,_,_,_,⟨b,h,a,d⟩,f=>⟨b,h,a,(show Kept _ _ _ from f).blk (λe=>by have:=j b e;omega) d⟩
 | 8,_,_,_,⟨g,c,h,a,d⟩,f=>⟨g,c,h,a.on f,d⟩
 | 0,_,_,_,_,_=>trivial
 | 1,_,_,_,_,_=>trivial
 | 2,_,_,_,_,_=>trivial
 | 3,_,_,_,_,_=>trivial
 | 4,_,_,_,_,_=>trivial
 | 5,_,_,_,_,_=>trivial
 | 6,_,_,_,_,_=>trivial
 | n+9,_,_,_,_,_=>trivial
theorem Lw (q:Nat)(Q:QS)(x:QI)(hx:UC x.2)(ht:Qg x.1)(hl:Q.l.length<=4095)(hs:Xh Q.l)(hd:QH Q.l)(hn:XM Q.l x.2=false)(w:World)(M:Nat->Prop)(h:QA q Q w M):
  Calls prog 298 #[q,.agg #[.int .i64 x.1,.int .i64 x.2.1,.int .i64 x.2.2.1,.int .i64 x.2.2.2]] w λr w'=>r=.returned (.tuple #[])/\Q6 (QA q { Q with l:=VR Q.l x }) w M w':=by
 obtain ⟨v,m,D,h1,h2,h3,h4,hM⟩:=h;obtain ⟨q0,cp,rfl,-,-,ae,-⟩:=h2.form Xq;generalize hL:Q.l=l0 at *;have k:=pp (py hs (py hd (py hn hl)));obtain ⟨W,hW⟩:=pt (w.alloc (.cells #[.int .i64 x.1,.int .i64 x.2.1,.int .i64 x.2.2.1,.int .i64 x.2.2.2] 92));have H:pM w W:=by rw [hW];exact Q3 _ _
 have C:Q0 W w.heap.size 92 #[.int .i64 x.1,.int .i64 x.2.1,.int .i64 x.2.2.1,.int .i64 x.2.2.2]:=Q0.fresh hW;have HH:=pp H;have HB:=pp h1;have HC:=pp C;have HO:=pp h2;have Y:=pp h3;have t:=pp (py h4 (py hx (py ht hM)));have b2:=λd os=>((h1.on H).re d os).cell 2
 have c0:=λd os=>(C.re d os).cell 0
 have c1:=λd os=>(C.re d os).cell 1
 have c2:=λd os=>(C.re d os).cell 2
 have c3:=λd os=>(C.re d os).cell 3
 have ai:=pp λW2 (g:pM w W2)=>ku q0 cp l0 x W2 (by omega) hs (ae.on g)
 have hl0:(l0.length:Int)<=4095:=by omega
 clear h1 h2 h3 h4 hM H C hx ht hl hs hd hn ae;go_enter func298,ntmps298;go_upto_region 1 with fail
 rw [<-hW];clear hW;refine wp_region_quiet_below (by kernel_rfl) (by kernel_rfl) ?_
 repeat (go_big_quiet_step (exact Calls.regrown_of (ai.o _ (after HH.o (pK _ _ _)))))
 refine wpQuiet_nil ?_;intro w' ak;obtain ⟨rg,rfl⟩:=ak;obtain ⟨W1,S⟩:=pt (Go.Sort.grow (redrawn W rg.d) rg.os);have g1:pM W W1:=by rw [S];exact pK _ _ _
 rw [<-S];have G1:=pp (after HH.o g1);have u:=pp (HC.o.on g1);clear S g1 b2 c0 c1 c2 c3 ai;have I:=HB.o.on G1.o;have J:=pp (HO.o.on G1.o);have T:Value.ownBlock (.slice q0 l0.length cp)≠some q:=λe=>by
  obtain ⟨-,cur,h5⟩:=QC J.o e;exact absurd (Q7 h5 I) (by decide)
 have p:Value.ownBlock (.slice q0 l0.length cp)≠some w.heap.size:=λe=>by have:=(HO.o.block _ e).2;omega
 have HV:=pp (λb (e:Value.ownBlock (.slice q0 l0.length cp)=some b)=>(J.o.block b e).2)
 have b2:=λf d os=>(I.sp (QR T) f d os).cell 2
 have c0:=λf d os=>(u.o.sp (QR p) f d os).cell 0
 have c1:=λf d os=>(u.o.sp (QR p) f d os).cell 1
 have c2:=λf d os=>(u.o.sp (QR p) f d os).cell 2
 have c3:=λf d os=>(u.o.sp (QR p) f d os).cell 3
 have HN:=pp (py T p);have ah:=pp I;clear T p I;go_upto_region 2 with fail
 generalize ag:Value.ownBlock (.slice q0 l0.length cp)=vr at *;have c:=pp ag;clear ag;refine VI [0,0,0,0,0,0,0,2,2,1,1,3] 8 (vr) (aF W1.heap.size vr x (VR l0 x)) (by kernel_rfl) (by kernel_rfl) (fD HV.o) ?_
 repeat (first|(refine Qi ?_)|(refine Qf (λK R=>?_);go_simp;refine R _ ?_;clear R K)|(refine Vo (λK R=>?_);go_simp;refine R _ ?_;clear R K))
 refine Q8 ?_;refine Q2 ?_;refine Q2 ?_;refine Q2 ?_;refine Q2 ?_;refine Q2 ?_;refine Q2 ?_;refine Q2 ?_;refine Qv ?lsA (λv_=>?_)
 case lsA=>(intro w_ i X;(first|(dsimp only at L;obtain ⟨b9,rfl,al,ac⟩:=L.2 (by kernel_rfl);go_simp;refine (NS q0 cp (Vg l0 x.1) l0 x b9 w_ (J.o.on (Y9 i X)) ac (λe=>by have h1:=HV.o b9 (c.o.symm.trans e);omega) (NQ _ _) (by have:=k.o.2.2.2;omega)).mono ?_;rintro e_ w9 ⟨O,P,rfl,n,ab,s⟩;exact ⟨_,rfl,ab.mono λb a e=>a (by unfold BJ;rw [if_pos rfl,Option.mem_toList,<-c.o];exact e),O,P,rfl,n,s.imp (λe=>c.o.symm.trans e) (pB (Qb i).size)⟩)|(go_simp;exact ⟨Kept.of_below ((pI _ _).alloc (pA _) _),_,rfl,(Qb i).size,Q0.new' rfl⟩)))
 refine Xz ?lsA (λv_=>?_)
 case lsA=>(intro w_ i X L;(first|(dsimp only at L;obtain ⟨b9,rfl,al,ac⟩:=L.2 (by kernel_rfl);go_simp;refine (NS q0 cp (Vg l0 x.1) l0 x b9 w_ (J.o.on (Y9 i X)) ac (λe=>by have h1:=HV.o b9 (c.o.symm.trans e);omega) (NQ _ _) (by have:=k.o.2.2.2;omega)).mono ?_;rintro e_ w9 ⟨O,P,rfl,n,ab,s⟩;exact ⟨_,rfl,ab.mono λb a e=>a (by unfold BJ;rw [if_pos rfl,Option.mem_toList,<-c.o];exact e),O,P,rfl,n,s.imp (λe=>c.o.symm.trans e) (pB (Qb i).size)⟩)|(go_simp;exact ⟨Kept.of_below ((pI _ _).alloc (pA _) _),_,rfl,(Qb i).size,Q0.new' rfl⟩)))
 refine Q2 ?_;refine Q2 ?_;refine Q2 ?_;refine XX ?_;simp only [Qd];rintro W5 k5 ⟨-,O,P,rfl,n,s⟩;have G:=k5.blk (QR HN.o.1) ah.o;have e1:=G.cell 2;have f1:=G.frz 2;have H5:=pp (py k5 (py n (py s G)));clear k5 n s G b2 c0 c1 c2 c3;go_upto_region 3 with fail
 obtain ⟨W6,F⟩:=pt (W5.setCell ⟨q,2,none⟩ (.slice (some ⟨O,0,none⟩) (VR l0 x).length P));rw [<-F];have aa:Kept (λb=>b≠q) W5 W6:=by rw [F];exact (Kept.refl _ _).setCell (by simp) _
 have B:Q0 W6 q 175 #[.int .i64 Q.room,.int .i64 Q.lost,.slice (some ⟨O,0,none⟩) (VR l0 x).length P,.map (some m)]:=by rw [F];exact H5.o.2.2.2.set_ 2 _
 have y:Q5 W6 0 92 4 Qt (.slice (some ⟨O,0,none⟩) (VR l0 x).length P) (VR l0 x):=H5.o.2.1.keep aa λb a e=>by
  obtain ⟨-,cur,h5⟩:=QC H5.o.2.1 a;subst e;exact absurd (Q7 h5 H5.o.2.2.2) (by decide)
 have j:Kept (λb=>vr≠some b/\b≠q) W1 W6:=(H5.o.1.mono λb a=>QR a.1).trans (aa.mono λb a=>a.2)
 have A:Q0 W6 w.heap.size 92 #[.int .i64 x.1,.int .i64 x.2.1,.int .i64 x.2.2.1,.int .i64 x.2.2.2]:=j.blk ⟨HN.o.2,λe=>by have:=HB.o.lt;omega⟩ u.o
 have z:m≠q:=λe=>VQ Y.o (by rw [e];exact HB.o)
 have N:vr≠some m:=λe=>by
  rw [<-c.o] at e;obtain ⟨-,cur,h5⟩:=QC HO.o e;exact VQ Y.o h5
 have aj:=XC (XC (K:=λ_=>True) Y.o ((Kept.of_below G1.o).mono λ_ _=>trivial) trivial) j ⟨N,z⟩
 have b3:=λd os=>(B.re d os).cell 3
 have c0:=λd os=>(A.re d os).cell 0
 have c1:=λd os=>(A.re d os).cell 1
 have c2:=λd os=>(A.re d os).cell 2
 have c3:=λd os=>(A.re d os).cell 3
 have H6:=pp (py B (py y (py j (py z (py N aj)))));clear F aa B y j A z N aj e1 f1;refine Qk [0,0,0,0,0,0,0,0,3] (λ_ _ _=>True) (by kernel_rfl) (by kernel_rfl) (λ_ _ _ _ h _=>h) ?_
 repeat (first|(refine Qi ?_)|(refine Qf (λK R=>?_);go_simp;refine R _ ?_;clear R K))
 refine Q8 ?_;repeat (refine Q2 ?_)
 refine Qc ?_;simp only [Qd];intro W7 h7 _;have H7:=pp h7;have ad:=XC (K:=λ_=>True) H6.o.2.2.2.2.2 ((Kept.of_below h7).mono λ_ _=>trivial) trivial
 have U:=pp ad;clear h7 b3 c0 c1 c2 c3 ad;go_wp2_with (at_mapUpdate;refine wpList_mapUpdate_in _ rfl _ _ _ 173 rfl 43 3 F5 underlying173 RI m _ D rfl U.o (by have:=k.o.2.2.2;unfold maxLen;omega) _ _ (kc x.2) rfl rfl (IV t.o.2.1) (.lit (.int .i64 x.1)) [] (plainElem_int underlying3 (TY t.o.2.2.1)) ?_;intro w8 Z E)
 go_returns;have V:=XQ E.grown;have af:=(t.o.1.push (U.o.tidy F5) t.o.2.1 t.o.2.2.1 k.o.2.2.1).perm (CG l0 x) (JI k.o.2.1 k.o.2.2.1);obtain ⟨B,y,j,z,N,-⟩:=H6.o;refine ⟨rfl,λb=>b=q∨Value.ownBlock (.slice (some ⟨O,0,none⟩) (VR l0 x).length P)=some b∨b=m,⟨_,m,_,V.blk (λe=>z (pE e)) (B.on H7.o),(y.on H7.o).keep V λb a e=>?_,by have h8:=GD Z;rw [af.size] at h8;exact h8,af,λ_=>Iff.rfl⟩,λb a=>?_,?_⟩
 ·obtain rfl:=pE e;obtain ⟨-,cur,h5⟩:=QC (y.on H7.o) a;exact VQ U.o h5
 ·rcases a with rfl|a|rfl
  ·exact .inl ((t.o.2.2.2 _).2 (.inl rfl))
  ·simp [Value.ownBlock] at a;subst a;rcases H5.o.2.2.1 with h|h
   ·exact .inl ((t.o.2.2.2 _).2 (.inr (.inl h)))
   ·exact .inr (pB G1.o.size h)
  ·exact .inl ((t.o.2.2.2 _).2 (.inr (.inr rfl)))
 ·exact ((Kept.of_below G1.o).mono (K':=λb=>¬M b) λ_ _=>trivial).trans ((j.mono λb a=>⟨λe=>a ((t.o.2.2.2 _).2 (.inr (.inl e))),λe=>a ((t.o.2.2.2 _).2 (.inl e))⟩).trans (((Kept.of_below H7.o).mono λ_ _=>trivial).trans (V.mono λb a e=>a ((t.o.2.2.2 _).2 (.inr (.inr (pE e).symm))))))
def U6 (w:World)(g cp:Nat)(l:List QI):Prop:=∃cur:Array Value,Q0 w g 92 cur/\cur.size=cp * 4/\l.length<=cp/\∀(i:Nat) (x:QI),l[i]?=some x->∀(j:Nat) (u:Value),(Qt x)[j]?=some u->cur[i * 4+j]?=some u
section
variable {w w':World}{g cp:Nat}{l:List QI}{i:Nat}
theorem U6.on (h:U6 w g cp l)(b:pM w w'):U6 w' g cp l:=by
 obtain ⟨cur,a,c⟩:=h;exact ⟨cur,a.on b,c⟩
theorem U6.of (h:Q5 w 0 92 4 Qt (.slice (some ⟨g,0,none⟩) n cp) l):U6 w g cp l:=by
 obtain ⟨cur,e,c,k,-,-,b⟩:=h.parts;refine ⟨cur,e,c,k,λi x m j u f=>?_⟩
 have a:=D7 Xq l i x m j u f;rw [<-b] at a;have d:=(List.getElem?_eq_some_iff.1 a).1;rw [List.length_take] at d;rw [List.getElem?_take_of_lt (by omega)] at a
 simpa using a
theorem U6.own (h:U6 w g cp l)(n:cp<=maxLen)(k:Nat)(hk:k<=l.length):Q5 w 0 92 4 Qt (.slice (some ⟨g,0,none⟩) k cp) (l.take k):=by
 obtain ⟨cur,p,a,hc,o⟩:=h;have d:(l.take k).length=k:=by rw [List.length_take];omega
 have:=Q5.made (w:=w) (base:=0) (g:=g) (cap:=cp) (e:=92) (enc:=Qt) (xs:=l.take k) (cur:=cur) Xq p a (by omega) n (pC _) (by
  apply List.ext_getElem?;intro m;by_cases b:m<k * 4
  ·rw [d,List.getElem?_take_of_lt b];obtain ⟨x,j⟩:∃x,l[m / 4]?=some x:=⟨_,pH (by omega)⟩
   obtain ⟨u,f⟩:∃u,(Qt x)[m%4]?=some u:=⟨_,pH (by rw [Xq];omega)⟩
   have c:=o (m / 4) x j (m%4) u f;have i:=D7 Xq (l.take k) (m / 4) x (by rw [List.getElem?_take_of_lt (by omega)];exact j) (m%4) u f
   rw [show m / 4 * 4+m%4=m by omega] at c i
   rw [i];simpa using c
  ·rw [List.getElem?_eq_none (by rw [List.length_take];omega),List.getElem?_eq_none (by rw [QV Xq];omega)])
 rw [d] at this;exact this
theorem U6.cells (h:U6 w g cp l){x:QI}(c:l[i]?=some x):w.cell? ⟨g,i * 4,none⟩=some (int i64 x.1)/\w.cell? ⟨g,i * 4+1,none⟩=some (int i64 x.2.1)/\w.cell? ⟨g,i * 4+2,none⟩=some (int i64 x.2.2.1)/\w.cell? ⟨g,i * 4+3,none⟩=some (int i64 x.2.2.2):=by
 obtain ⟨cur,b,-,-,d⟩:=h;have a:=d i _ c;refine ⟨?_,?_,?_,?_⟩<;>rw [b.cell]
 ·exact a 0 _ rfl
 ·exact a 1 _ rfl
 ·exact a 2 _ rfl
 ·exact a 3 _ rfl
theorem U6.frz (h:U6 w g cp l)(k:Nat):w.frozen? ⟨g,k,none⟩=false:=by
 obtain ⟨cur,a,-⟩:=h;exact a.frz k
abbrev Lx (w:World)(g o:Nat)(a b c d:Int):World:=(((w.setCell ⟨g,o,none⟩ (int i64 a)).setCell ⟨g,o+1,none⟩ (int i64 b)).setCell ⟨g,o+2,none⟩ (int i64 c)).setCell ⟨g,o+3,none⟩ (int i64 d)
theorem U6.set4 (h:U6 w g cp l)(k:i<l.length)(y:QI):U6 (Lx w g (i * 4) y.1 y.2.1 y.2.2.1 y.2.2.2) g cp (l.set i y):=by
 obtain ⟨cur,m,c,n,d⟩:=h;have hsz:i * 4+3<cur.size:=by
  have e:=d i l[i] (pH k) 3 _ rfl;exact (Array.getElem?_eq_some_iff.1 e).1
 refine ⟨_,(((m.set_ _ _).set_ _ _).set_ _ _).set_ _ _,by simp only [Array.size_setIfInBounds];exact c,by rw [List.length_set];exact n,λf b' a j u b=>?_⟩
 have hj:j<4:=(List.getElem?_eq_some_iff.1 b).1;simp only [Array.getElem?_setIfInBounds,Array.size_setIfInBounds];rw [List.getElem?_set] at a;by_cases e:i=f
 ·subst e;rw [if_pos rfl,if_pos k] at a;obtain rfl:=pE a;rcases (show j=0∨j=1∨j=2∨j=3 by omega) with rfl|rfl|rfl|rfl
  all_goals
   obtain rfl:=pE b;repeat (first|rw [if_neg (by omega)]|rw [if_pos (by omega)])
   try rfl
 ·rw [if_neg e] at a;repeat rw [if_neg (by omega)]
  exact d f b' a j u b
theorem cT (h:Kept K w0 w)(e:¬K g)(o:Nat)(a b c d:Int):Kept K w0 (Lx w g o a b c d):=
 (((h.setCell (p:=⟨g,o,none⟩) e _).setCell (p:=⟨g,o+1,none⟩) e _).setCell (p:=⟨g,o+2,none⟩) e _).setCell (p:=⟨g,o+3,none⟩) e _
end
theorem FV:prog.eqGuardType prog.depth 43=false:=by kernel_rfl
theorem Ly (c d:Cl)(w:World):(binOp .eql 43 (.agg #[int i64 c.1,int i64 c.2.1,int i64 c.2.2]) (.agg #[int i64 d.1,int i64 d.2.1,int i64 d.2.2])).run prog w=.ok (.bool (decide (c=d))) w:=by
 rw [run_eql_struct];obtain ⟨a,b,e⟩:=c;obtain ⟨g,b',j⟩:=d;simp [go_sem];by_cases h:a=g<;>by_cases f:b=b'<;>by_cases i:e=j<;>simp [h,f,i]
theorem fE (x:QI)(g:Nat)(c:Cl)(w:World)(b:Q0 w g 43 #[int i64 c.1,int i64 c.2.1,int i64 c.2.2]):Calls prog 331 #[NP x,g] w λr w'=>r=.returned (.bool (decide (x.2=c)))/\Below w.heap.size w w':=by
 obtain ⟨W,a⟩:=pt (w.alloc (.cells #[int i64 x.1,int i64 x.2.1,int i64 x.2.2.1,int i64 x.2.2.2] 92));have H:pM w W:=by rw [a];exact Q3 _ _
 have X:Q0 W w.heap.size 92 #[int i64 x.1,int i64 x.2.1,int i64 x.2.2.1,int i64 x.2.2.2]:=Q0.fresh a;have x1:=X.cell 1;have x2:=X.cell 2;have x3:=X.cell 3;obtain ⟨g0,g1,g2,-,-,-⟩:=(b.on H).c3;have pe:=Ly;have pg:=FV;have d:=pp H;clear H X b;go_enter func331,ntmps331;go_upto_region 1 with fail
 rw [<-a];clear a;go_wp2_with fail;go_returns;exact ⟨rfl,d.o⟩
end
section
open Go.RowKit Go.Shelf
attribute [local go_sem] Oper.semAt_some
def mV (P:Program)(G:FuncId)(lb:Array Value)(p:QI->Bool)(w:World):Prop:=
 ∀x W,Below w.heap.size w W->Calls P G (#[NP x]++lb) W λr W'=>r=.returned (.bool (p x))/\Below W.heap.size W W'
theorem mW {i:Nat}(h:i<n)(hn:n<=4096):(0:Int)<=i/\(i:Int)<n/\-9223372036854775808<=(i:Int)+1/\(i:Int)+1<=9223372036854775807:=by omega
def Sz (l:List QI)(p:QI->Bool):Int:=if l.any p then (l.findIdx p:Nat) else -1
theorem NU {l:List QI}{p:QI->Bool}{i:Nat}{x:QI}(d:l[i]?=some x)(c:p x=true)(a:∀j y,j<i->l[j]?=some y->p y=false):Sz l p=(i:Nat):=by
 obtain ⟨b,f⟩:=List.getElem?_eq_some_iff.1 d;unfold Sz;rw [if_pos (List.any_eq_true.2 ⟨x,pG d,c⟩),(List.findIdx_eq b).2 ⟨by rw [f];exact c,λj e=>a j _ e (pH (by omega))⟩]
theorem aG {l:List QI}{p:QI->Bool}(a:∀j y,j<l.length->l[j]?=some y->p y=false):Sz l p= -1:=by
 unfold Sz;rw [if_neg];intro h;obtain ⟨x,d,b⟩:=List.any_eq_true.1 h;obtain ⟨i,c⟩:=List.getElem?_of_mem d;have:=a i x (List.getElem?_eq_some_iff.1 c).1 c;rw [this] at b;cases b
theorem fF (q:Option Addr)(cp:Nat)(l:List QI)(A:l.length<=4096)(G:FuncId)(u:Array Value)(p:QI->Bool)(w:World)(B:Rd w q 4 Qt l)(eG:∀args w,(callFunc G args).run prog w=.ok (.enter G args) w)(z:mV prog G u p w):
  Calls prog 349 #[.slice q l.length cp,.func (.func G) #[] u] w λr w'=>r=.returned (int i64 (Sz l p))/\Below w.heap.size w w':=by
 have E:=pp A;have F:=pp z;clear A z;go_enter func349,ntmps349;go_upto_region 2 with fail
 go_loopw [8] (λK wr=>∃(i:Nat),K=.int .i64 (i:Nat)/\Hid (i<=l.length)/\Rd wr q 4 Qt l/\Hid (∀j y,j<i->l[j]?=some y->p y=false)/\Hid (pM w wr)) (λv _=>l.length - (intOf v).toNat)
 case atStart=>exact ⟨0,rfl,pC _,B,λj y k=>absurd k (by omega),pI _ _⟩
 case round=>
  clear B;obtain ⟨i,rfl,I,R,a,H⟩:=hrel;by_cases b:i<l.length
  ·obtain ⟨x,c⟩:∃x,l[i]?=some x:=⟨_,pH b⟩;have e:(i:Int)<(l.length:Int):=by omega
   obtain ⟨g,o,rfl,f⟩:=R (by omega)
   have e0:wr.cell? ⟨g,o+i * 4,none⟩=some (int i64 x.1):=f i x c 0 _ rfl;have e1:wr.cell? ⟨g,o+i * 4+1,none⟩=some (int i64 x.2.1):=f i x c 1 _ rfl;have e2:wr.cell? ⟨g,o+i * 4+2,none⟩=some (int i64 x.2.2.1):=f i x c 2 _ rfl;have e3:wr.cell? ⟨g,o+i * 4+3,none⟩=some (int i64 x.2.2.2):=f i x c 3 _ rfl;obtain ⟨n2,n3,n5,n6⟩:=mW b E.o;have d:=F.o x wr H.out;have C:=pp c;clear c f;cases hp:p x
   ·rw [hp] at d;have t:=pp hp;have n:=pp d;clear hp d;go_wp2_with (refine n.o.mono ?_;rintro J D ⟨rfl,h⟩);go_roundw
    case rel=>
     refine ⟨i+1,rfl,b,R.on h,λj y k s=>?_,after H.out h⟩
     rcases (show j<i∨j=i by omega) with k|rfl
     ·exact a.out j y k s
     ·rw [C.o] at s;obtain rfl:=pE s;exact t.o
    case measure=>simp [intOf];omega
   ·rw [hp] at d;have t:=pp hp;have n:=pp d;clear hp d;go_wp2_with (refine n.o.mono ?_;rintro J D ⟨rfl,h⟩);go_returns;refine ⟨?_,after H.out h⟩;rw [NU C.o t.o a.out];rfl
  ·have m:i=l.length:=by have:=I.out;omega
   have e:¬(i:Int)<(l.length:Int):=by omega
   go_wp2_with fail;go_returns;refine ⟨?_,H.out⟩;rw [aG (by rw [<-m];exact a.out)];rfl
end
section
open Go.RowKit Go.Maps
attribute [local go_sem] Oper.semAt_some
theorem Pk (w:World)(g o c:Nat)(ty:TypeId)(cur:Array Value)(h:Q0 w g 92 cur)(hc:o+4<=cur.size):
  (Builtin.clear_ #[88] ty #[.slice (some ⟨g,o,none⟩) 1 c]).run prog w=.ok (.tuple #[]) (Lx w g o 0 0 0 0):=by
 have b:(Builtin.zeroCells (Value.agg #[int i64 0,int i64 0,int i64 0,int i64 0]).cells 1).toList=List.replicate 4 (int i64 0):=by kernel_rfl
 have a:=run_storeCells_cells (P:=prog) g o (List.replicate 4 (int i64 0)) 0 w (λj f=>?_) (λj f=>?_) (by intro v d;rw [List.eq_of_mem_replicate d];rfl)
 ·simp only [Nat.add_zero] at a;simp only [Builtin.clear_];simp [run_underlying underlying88];simp only [List.replicate] at a b;rw [b,a];rfl
 ·have e:o+j<cur.size:=by rw [List.length_replicate] at f;omega
  simp only [Nat.add_zero];rw [h.cell,Array.getElem?_eq_getElem e];rfl
 ·exact h.frz _
def E7 (l:List QI)(k i:Nat)(m:List QI):Prop:=m.length=l.length/\(∀a,a<i->m[a]?=(l.eraseIdx k)[a]?)/\∀a,i<=a->m[a]?=l[a]?
theorem E7.start {l:List QI} :E7 l k k l:=⟨rfl,λa b=>by rw [List.getElem?_eraseIdx_of_lt b],λ_ _=>rfl⟩
theorem E7.next {l m:List QI}{i:Nat}{y:QI}(h:E7 l k i m)(c:k<=i)(b:l[i+1]?=some y):E7 l k (i+1) (m.set i y):=by
 obtain ⟨g,f,j⟩:=h;have hlt:=(List.getElem?_eq_some_iff.1 b).1;refine ⟨by rw [List.length_set];exact g,λa d=>?_,λa d=>?_⟩
 ·rw [List.getElem?_set];by_cases e:i=a
  ·subst e;rw [if_pos rfl,if_pos (by omega),List.getElem?_eraseIdx_of_ge c,b]
  ·rw [if_neg e];exact f a (by omega)
 ·rw [List.getElem?_set_ne (by omega)]
  exact j a (by omega)
theorem E7.done {l m:List QI}{i:Nat}(h:E7 l k i m)(c:k<l.length)(hi:i+1=l.length)(y:QI):(m.set i y).take i=l.eraseIdx k:=by
 apply List.ext_getElem?;intro a;by_cases b:a<i
 ·rw [List.getElem?_take_of_lt b,List.getElem?_set_ne (by omega),h.2.1 a b]
 ·rw [List.getElem?_eq_none (by rw [List.length_take];omega),List.getElem?_eq_none (by rw [List.length_eraseIdx_of_lt c];omega)]
def Lz (g cp n:Nat)(L:List QI)(w:World)(r:Ending)(w':World):Prop:=r=.returned (.slice (some ⟨g,0,none⟩) n cp)/\Q5 w' 0 92 4 Qt (.slice (some ⟨g,0,none⟩) n cp) L/\Kept (λb=>b≠g) w w'
theorem fI (g cp k:Nat)(l:List QI)(hm:l.length<=4096)(G:FuncId)(lg:Array Value)(p:QI->Bool)(x:QI)(V:l[k]?=some x)(D:p x=true)(u:∀j y,j≠k->l[j]?=some y->p y=false)(w:World)(N:Q5 w 0 92 4 Qt (.slice (some ⟨g,0,none⟩) l.length cp) l)(eG:∀args w,(callFunc G args).run prog w=.ok (.enter G args) w)
  (X:∀x W,Kept (λb=>b≠g) w W->Calls prog G (#[NP x]++lg) W λr W'=>r=.returned (.bool (p x))/\Below W.heap.size W W'):
  Calls prog 330 #[.slice (some ⟨g,0,none⟩) l.length cp,.func (.func G) #[] lg] w λr w'=>Lz g cp (l.length - 1) (l.eraseIdx k) w r w':=by
 obtain ⟨F,-⟩:=List.getElem?_eq_some_iff.1 V;obtain ⟨cur0,-,-,C,s,-,-⟩:=N.parts;have K:U6 w g cp l:=U6.of N;have H:Rd w (some ⟨g,0,none⟩) 4 Qt l:=by
  obtain ⟨q',cap',ad,-,-,aa,-⟩:=N.form Xq;obtain ⟨Z,-,-⟩:=Value.slice.inj ad;rw [Z];exact aa
 have P:=fF (some ⟨g,0,none⟩) cp l hm G lg p w H eG (λx W h=>X x W ((Kept.of_below h).mono λ_ _=>trivial))
 rw [NU V D (λj y hj=>u j y (by omega))] at P
 obtain ⟨n,hn⟩:=pt l.length;rw [<-hn] at P hm F C ⊢;have HI:=pp P;have A:=pp (py u (py X (py K (py hn s))));have q0:¬(k:Int)= -1:=by omega
 have q1:(n:Int)<=4096:=by omega
 have q2:(k:Int)<(n:Int):=by omega
 have hw:IntKind.i64.wrap ((k:Int)+1)=(k:Int)+1:=pJ _ (by omega)
 clear H P V D u X K N hn s;go_enter func330,ntmps330;go_upto_region 5 with (go_at_call 349;refine HI.o.mono ?_;rintro e_ w1 ⟨rfl,J⟩)
 have ac:((k:Int)== -1)=false:=by simp
 simp only [ac];clear HI q0 hw q2;go_loopw [5,6] (λiv T wr=>∃(i j:Nat) (m:List QI),iv=.int .i64 i/\T=.int .i64 j/\Hid (j=i+1/\k<=i/\j<=n)/\Hid (E7 l k i m/\U6 wr g cp m/\Kept (λb=>b≠g) w wr)) (λ_ T _=>n - (intOf T).toNat)
 case atStart=>exact ⟨k,k+1,l,rfl,by go_num,pp ⟨rfl,pA _,F⟩,pp ⟨E7.start,A.o.2.2.1.on J,(Kept.of_below J).mono λ_ _=>trivial⟩⟩
 case round=>
  clear J;obtain ⟨i,j,m,rfl,rfl,a,d⟩:=hrel;by_cases ab:j<n
  ·have q:(j:Int)<(n:Int):=by omega
   obtain ⟨y,hy⟩:∃y,l[j]?=some y:=⟨_,pH (by have:=A.o.2.2.2.1;omega)⟩
   have t:m[j]?=some y:=by rw [d.out.1.2.2 j (by have:=a.out;omega)];exact hy
   obtain ⟨c0,c1,c2,c3⟩:=d.out.2.1.cells t;have q3:(0:Int)<=(j:Int):=by omega
   have HY:=pp (py hy t);clear hy t;have v:=d.out.2.1.on (Q3 wr (.cells #[int i64 y.1,int i64 y.2.1,int i64 y.2.2.1,int i64 y.2.2.2] 92));go_upto_region 8 with fail
   obtain ⟨Q,e⟩:=pt (wr.alloc (.cells #[int i64 y.1,int i64 y.2.1,int i64 y.2.2.1,int i64 y.2.2.2] 92));rw [<-e] at v ⊢;have B:Q0 Q wr.heap.size 92 #[int i64 y.1,int i64 y.2.1,int i64 y.2.2.1,int i64 y.2.2.2]:=Q0.fresh e;have b2:pM wr Q:=by rw [e];exact Q3 _ _
   have Y:Kept (λb=>b≠g) w Q:=d.out.2.2.trans ((Kept.of_below b2).mono λ_ _=>trivial)
   have I:p y=false:=A.o.1 j y (by have:=a.out;omega) HY.o.1
   have hc:=A.o.2.1 y Q Y;rw [I] at hc;have HC:=pp hc;have x0:=B.cell 0;have x1:=B.cell 1;have x2:=B.cell 2;have x3:=B.cell 3;have R:=pp (py B (py b2 (py Y v)));clear hc I v B b2 Y e c0 c1 c2 c3 q3;go_upto_region 9 with (refine HC.o.mono ?_;rintro e_ w3 ⟨rfl,O⟩)
   have L:=R.o.1.on O;have S:=R.o.2.2.2.on O;obtain ⟨z,U⟩:∃z,m[i]?=some z:=⟨_,pH (by have:=d.out.1.1;have:=A.o.2.2.2.1;have:=a.out;omega)⟩
   obtain ⟨d0,d1,d2,d3⟩:=S.cells U;have f3:=S.frz;have y0:=L.cell 0;have y1:=L.cell 1;have y2:=L.cell 2;have y3:=L.cell 3;have q5:(i:Int)<(n:Int):=by have:=a.out;omega
   have q6:(0:Int)<=(i:Int):=by omega
   have hw:IntKind.i64.wrap ((i:Int)+1)=(i:Int)+1:=pJ _ (by omega)
   have hw2:IntKind.i64.wrap ((j:Int)+1)=(j:Int)+1:=pJ _ (by omega)
   have HR:=pp (py S (py (R.o.2.2.1.trans ((Kept.of_below O).mono λ_ _=>trivial)) U))
   clear L S U x0 x1 x2 x3 O HC R q;go_wp2_with fail;go_roundw
   case rel=>exact ⟨i+1,j+1,m.set i y,by go_num,by go_num,pp ⟨by rw [a.out.1],by have:=a.out;omega,ab⟩,pp ⟨d.out.1.next a.out.2.1 (by rw [<-a.out.1];exact HY.o.1),HR.o.1.set4 (List.getElem?_eq_some_iff.1 HR.o.2.2).1 y,cT HR.o.2.1 (by simp) _ _ _ _ _⟩⟩
   case measure=>simp [intOf];omega
  ·obtain ⟨Z,e2,e3⟩:=a.out;obtain rfl:n=j:=by omega
   obtain rfl:n=i+1:=Z;have q:¬((i+1:Nat):Int)<((i+1:Nat):Int):=by omega
   obtain ⟨cur,hB,ae,-,-⟩:=d.out.2.1;have M:∀(c:Nat) (ty:TypeId),(Builtin.clear_ #[88] ty #[.slice (some ⟨g,i * 4,none⟩) 1 c]).run prog wr=.ok (.tuple #[]) (Lx wr g (i * 4) 0 0 0 0):=λc ty=>Pk wr g (i * 4) c ty cur hB (by omega)
   have E:=pp M;have f:Lz g cp i (l.eraseIdx k) w (.returned (.slice (some ⟨g,0,none⟩) i cp)) (Lx wr g (i * 4) 0 0 0 0):=by
    have hml:=d.out.1.1;have hln:=A.o.2.2.2.1;have J:=d.out.2.1.set4 (i:=i) (by omega) (0,0,0,0)
    have h2:=J.own A.o.2.2.2.2 i (by rw [List.length_set];omega)
    rw [d.out.1.done (by omega) (by omega) (0,0,0,0)] at h2
    exact ⟨rfl,h2,cT d.out.2.2 (by simp) _ _ _ _ _⟩
   have HF:=pp f;have hcp':((i+1:Nat):Int)<=(cp:Int):=by omega
   clear hB ae f M e2 e3;go_wp2_with (simp only [E.o]);go_returns;exact HF.o
def Vh (l:List QI)(c:Cl):List QI:=l.filter λx=>!decide (x.2=c)
theorem GH {l:List QI}(h:XM l c=false):Vh l c=l:=by
 unfold Vh;rw [List.filter_eq_self];intro x a;unfold XM at h;rw [List.any_eq_false] at h;simpa using h x a
theorem LA:∀{l:List QI} {k:Nat} {x:QI},QH l->l[k]?=some x->l.eraseIdx k=Vh l x.2
 | [],_,_,_,h=>by simp at h
 | a::l,0,x,b,h=>by
  obtain rfl:a=x:=by simpa using h
  unfold QH at b;rw [List.map_cons,List.nodup_cons] at b;have:Vh (a::l) a.2=Vh l a.2:=by unfold Vh;rw [List.filter_cons_of_neg (by simp)]
  rw [this,List.eraseIdx_cons_zero,GH];unfold XM;rw [List.any_eq_false];intro y f g;exact b.1 (List.mem_map.2 ⟨y,f,by simpa using g⟩)
 | a::l,k+1,x,b,h=>by
  have d:l[k]?=some x:=by simpa using h
  unfold QH at b;rw [List.map_cons,List.nodup_cons] at b;have c:¬a.2=x.2:=λe=>b.1 (List.mem_map.2 ⟨x,pG d,e.symm⟩)
  rw [List.eraseIdx_cons_succ,LA b.2 d];unfold Vh;rw [List.filter_cons_of_pos (by simpa using c)]
theorem LC {l:List QI}(a:QH l)(c:Cl):QH (Vh l c):=List.Pairwise.sublist (List.filter_sublist.map _) a
theorem Id {l:List QI}(a:Xh l)(c:Cl):Xh (Vh l c):=List.Pairwise.sublist List.filter_sublist a
theorem J0 (l:List QI)(c:Cl):XM (Vh l c) c=false:=by
 unfold XM Vh;rw [List.any_eq_false];intro x b a;have:=(List.mem_filter.1 b).2;simp at this a;exact this a
theorem kz {l:List QI}(h:XM l c=true):∃(k:Nat) (x:QI),l[k]?=some x/\x.2=c:=by
 obtain ⟨x,d,b⟩:=List.any_eq_true.1 h;obtain ⟨k,a⟩:=List.getElem?_of_mem d;exact ⟨k,x,a,by simpa using b⟩
theorem NV {l:List QI}(g:QH l){i:Nat}{x y:QI}(m:l[i]?=some x)(k:l[j]?=some y)(e:x.2=y.2):i=j:=by
 obtain ⟨d,b⟩:=List.getElem?_eq_some_iff.1 m;obtain ⟨c,f⟩:=List.getElem?_eq_some_iff.1 k;have h:=List.pairwise_iff_getElem.1 g;rcases Nat.lt_trichotomy i j with a|a|a
 ·exact (h i j (by simpa using d) (by simpa using c) a (by rw [List.getElem_map,List.getElem_map,b,f,e])).elim
 ·exact a
 ·exact (h j i (by simpa using c) (by simpa using d) a (by rw [List.getElem_map,List.getElem_map,b,f,e])).elim
theorem Ie:∀{l:List QI} {k:Nat} {x:QI},l[k]?=some x->l.Perm (x::l.eraseIdx k)
 | [],_,_,h=>by simp at h
 | a::l,0,x,h=>by
  obtain rfl:a=x:=by simpa using h
  rw [List.eraseIdx_cons_zero]
 | a::l,k+1,x,h=>by
  rw [List.eraseIdx_cons_succ];exact ((Ie (by simpa using h)).cons a).trans (List.Perm.swap x a _)
theorem Tell.drop {D:DU}{l:List QI}(h:Tell D l)(d:Tidy D)(b:QH l){x:QI}(c:l[k]?=some x):Tell (D.del (kc x.2)) (Vh l x.2):=by
 have a:Tell D ((x.1,x.2)::l.eraseIdx k):=h.perm (Ie c) b;rw [LA b c] at a;exact a.pop d (J0 l x.2)
theorem aH (q:Nat)(Q:QS)(c:Cl)(J:UC c)(O:Q.l.length<=4096)(E:QH Q.l)(hn:XM Q.l c=true)(w:World)(M:Nat->Prop)(h:QA q Q w M):
  Calls prog 297 #[q,XF c] w λr w'=>r=.returned (.bool true)/\Q6 (QA q { Q with l:=Vh Q.l c }) w M w':=by
 have hmf:∀(fn:Fn) (first cap:Array Value) (w:World),(Instr.makeFunc fn first cap).run prog w=.ok (.func fn first cap) w:=λ_ _ _ _=>rfl
 obtain ⟨v,m,D,t,u,n,N,i⟩:=h;generalize hL:Q.l=l0 at *;obtain ⟨k,x,s,rfl⟩:=kz hn;have R:k<l0.length:=(List.getElem?_eq_some_iff.1 s).1;obtain ⟨q0,cp,rfl,ao,-,-,-,ak⟩:=u.form Xq;obtain ⟨g,rfl⟩:=ak (by omega)
 obtain ⟨W,hW⟩:=pt (w.alloc (.cells #[int i64 x.2.1,int i64 x.2.2.1,int i64 x.2.2.2] 43));have H:pM w W:=by rw [hW];exact Q3 _ _
 have C:Q0 W w.heap.size 43 #[int i64 x.2.1,int i64 x.2.2.1,int i64 x.2.2.2]:=Q0.fresh hW;have ad:=λd os=>Sq (XC (K:=λ_=>True) (w':=Go.Sort.grow (redrawn W d) os) n ((Kept.of_below (after H (pK W d os))).mono λ_ _=>trivial) trivial) N J
 rw [hn] at ad;obtain ⟨c0,c1,c2⟩:=C.re3;have q3:=λd os=>((t.on H).re d os).cell 3
 have HH:=pp H;have HX:=pp (py t (py u (py n (py N (py i (py E (py s (py R (py C (py J O))))))))));clear t u n N H C J hn i E s R ao O;go_enter func297,ntmps297;go_upto_region 1 with fail
 rw [<-hW];clear hW;refine wp_region_quiet_below (by kernel_rfl) (by kernel_rfl) ?_
 repeat (go_big_quiet_step (fail))
 refine wpQuiet_nil ?_;intro w' ah;obtain ⟨rg,rfl⟩:=ah;obtain ⟨W1,T⟩:=pt (Go.Sort.grow (redrawn W rg.d) rg.os);have g1:pM W W1:=by rw [T];exact pK _ _ _
 rw [<-T];have G1:=pp (after HH.o g1);obtain ⟨t,u,n,N,i,E,s,R,hC,J,O⟩:=HX.o;have V:=pp (hC.on g1);clear T g1 c0 c1 c2 q3 ad;obtain ⟨c0,c1,c2⟩:=V.o.re3;have aa:=t.on G1.o;have q3:=λd os=>(aa.re d os).cell 3
 clear t u n N i E s R hC J O aa;go_upto_region 4 with fail
 refine Qk [0,0,0,0,0,3] (λ_ _ _=>True) (by kernel_rfl) (by kernel_rfl) (λ_ _ _ _ h _=>h) ?_
 repeat (first|(refine Qi ?_)|(refine Qf (λK hK=>?_);go_simp;refine hK _ ?_;clear hK K))
 refine Q8 ?_;repeat (refine Q2 ?_)
 refine Qc ?_;simp only [Qd];intro W4 N _;have G4:=pp (after G1.o N);obtain ⟨t,u,n,P,i,E,s,R,hC,J,O⟩:=HX.o;have ac:=pp (XC (K:=λ_=>True) n ((Kept.of_below G4.o).mono λ_ _=>trivial) trivial)
 have af:=pp (V.o.on N);have HK:=pp (IV J);clear t u n P i E s R hC J O c0 c1 c2 q3 N;go_upto_region 5 with (at_delete;refine wpList_delete_own _ rfl _ _ 173 43 rfl 3 F5 underlying173 RI m _ D rfl ac.o _ (kc x.2) rfl HK.o ?_;intro w5 B p)
 have f:=XQ p.grown;have G:=GD B;obtain ⟨t,u,n,P,i,E,s,R,hC,J,O⟩:=HX.o;have F:m≠q:=λe=>VQ n (by rw [e];exact t)
 obtain ⟨-,curg,z⟩:=QC u (b:=g) rfl;have I:m≠g:=λe=>VQ n (by rw [e];exact z)
 have L:g≠q:=λe=>by rw [e] at z;exact absurd (Q7 z t) (by decide)
 have U:=z.lt;have Z:=n.lt;have A:=f.blk (λe=>F (pE e)) (t.on G4.o)
 have ab:=(u.on G4.o).keep f λb a e=>by
  simp [Value.ownBlock] at a;exact I ((pE e).trans a.symm)
 have ae:=f.blk (λe=>by have:=pE e;omega) af.o
 have hT:=P.drop (n.tidy F5) E s;rw [hT.size] at G;have X:=fI g cp k l0 O 331 #[w.heap.size] (λy=>decide (y.2=x.2)) x s (by simp) (λj y hj hy=>by
  rw [decide_eq_false_iff_not];exact λe=>hj (NV E hy s e)) w5 ab (enters_of func331 (by kernel_rfl) rfl) (λy W2 ai=>fE y w.heap.size x.2 W2 (ai.blk (by omega) ae))
 rw [LA E s] at X;have an:=pp X;have b2:=A.cell 2;have H5:=pp (py A (py f (py G (py hT (py F (py I (py L (py U (py Z i)))))))));clear t u n P i E s R hC J O F z I L U Z A ab ae hT G X f B p af V ac HK;go_upto_region 6 with (go_at_call 330;refine an.o.mono ?_;rintro e_ w6 ⟨rfl,o6,S⟩;have K6:=pp S;have O6:=pp o6;have aj:=(S.blk H5.o.2.2.2.2.2.2.1.symm H5.o.1).cell 2;have al:=(S.blk H5.o.2.2.2.2.2.2.1.symm H5.o.1).frz 2;clear S o6)
 clear b2 aj al;go_wp2_with fail;go_returns;obtain ⟨A,f,G,hT,F,I,L,U,Z,i⟩:=H5.o;have S:=K6.o;have am:=S.blk L.symm A;have Y:Kept (λb=>b≠q) w6 (w6.setCell ⟨q,2,none⟩ (.slice (some ⟨g,0,none⟩) (l0.length - 1) cp)):=(Kept.refl _ _).setCell (by simp) _
 have ag:Kept (λb=>b≠m/\b≠g/\b≠q) W4 (w6.setCell ⟨q,2,none⟩ (.slice (some ⟨g,0,none⟩) (l0.length - 1) cp)):=(f.mono λb a e=>a.1 (pE e).symm).trans ((S.mono λb a=>a.2.1).trans (Y.mono λb a=>a.2.2))
 refine ⟨rfl,λb=>b=q∨Value.ownBlock (.slice (some ⟨g,0,none⟩) (l0.length - 1) cp)=some b∨b=m,⟨_,m,_,am.set_ 2 _,O6.o.keep Y λb a e=>?_,XC (XC G S I) Y F,hT,λ_=>Iff.rfl⟩,λb a=>.inl ((i b).2 ?_),?_⟩
 ·simp [Value.ownBlock] at a;omega
 ·rcases a with a|a|a
  ·exact .inl a
  ·exact .inr (.inl a)
  ·exact .inr (.inr a)
 ·exact ((Kept.of_below G4.o).mono λ_ _=>trivial).trans (ag.mono λb a=>⟨λe=>a ((i b).2 (.inr (.inr e))),λe=>a ((i b).2 (.inr (.inl (by rw [e];rfl)))),λe=>a ((i b).2 (.inl e))⟩)
def YS (l:List QI)(c:Cl)(t:Int):List QI:=if XM l c&&decide (Bc l c<=t) then l else VR (Vh l c) (t,c)
def E9 (l:List QI)(c:Cl)(t:Int):Bool:=!(XM l c&&decide (Bc l c<=t))
theorem NX (l:List QI)(c:Cl):(Vh l c).length<=l.length:=List.length_filter_le _ _
theorem If {l:List QI}(a:Xh l)(c:Cl)(t:Int):Xh (YS l c t):=by
 unfold YS;split
 ·exact a
 ·exact MU (Id a c) _
theorem LD {l:List QI}(a:QH l)(c:Cl)(t:Int):QH (YS l c t):=by
 unfold YS;split
 ·exact a
 ·exact Sy (LC a c) (J0 l c)
theorem NY (l:List QI)(c:Cl)(t:Int):(YS l c t).length<=l.length+1:=by
 unfold YS;split
 ·omega
 ·rw [aE];have:=NX l c;omega
theorem NZ (q:Nat)(Q:QS)(c:Cl)(t:Int)(z:UC c)(ht:Qg t)(T:Q.l.length<=4095)(L:Xh Q.l)(E:QH Q.l)(Y:(Q.l.length:Int)<Q.room)(w:World)(M:Nat->Prop)(h:QA q Q w M):
  Calls prog 234 #[q,XF c,int i64 t] w λr w'=>r=.returned (.bool (E9 Q.l c t))/\Q6 (QA q { Q with l:=YS Q.l c t }) w M w':=by
 obtain ⟨W,p⟩:=pt (w.alloc (.cells #[int i64 c.1,int i64 c.2.1,int i64 c.2.2] 43));have H:pM w W:=by rw [p];exact Q3 _ _
 have C:Q0 W w.heap.size 43 #[int i64 c.1,int i64 c.2.1,int i64 c.2.2]:=Q0.fresh p;have A:=mS q Q c z W M ((Zs q Q).on h H);have X:=pp C;have HH:=pp H;obtain ⟨B,F,c2,-,-,-⟩:=C.c3;have HQ:=pp h;cases hh:XM Q.l c
 ·
  have k:E9 Q.l c t=true:=by unfold E9;rw [hh];rfl
  have j:YS Q.l c t=VR Q.l (t,c):=by unfold YS;rw [hh,GH hh];rfl
  rw [k,j];rw [hh] at A;have S:=pp A;have P:=pp λa (g:pM w a)=>Lw q Q (t,c) z ht T L E hh a M ((Zs q Q).on h g)
  obtain ⟨v,m,D,h1,G,-⟩:=h;obtain ⟨q0,cp,rfl,-⟩:=G.form Xq;have HB:=pp h1;have hr0:¬(Q.l.length:Int)=Q.room:=by omega
  have hr1:((Q.l.length:Int)==Q.room)=false:=by simp;omega
  clear A h1 G H C z ht T Y L E hh k j;go_enter func234,ntmps234;go_upto_region 1 with fail
  rw [<-p];clear p;go_upto_region 6 with (go_at_call 296;refine S.o.mono ?_;rintro N I ⟨rfl,f⟩;have n:=pp (after HH.o f);have b:=pp (X.o.on f);clear f)
  clear B F c2;have u:=HB.o.on n.o;have b0:=λd os=>(u.re d os).cell 0
  have b2:=λd os=>(u.re d os).cell 2
  refine wp_region_quiet_below (by kernel_rfl) (by kernel_rfl) ?_
  repeat (go_big_quiet_step (fail))
  refine wpQuiet_nil ?_;intro w' V;obtain ⟨rg,rfl⟩:=V;obtain ⟨a,s⟩:=pt (Go.Sort.grow (redrawn I rg.d) rg.os);have g2:pM I a:=by rw [s];exact pK _ _ _
  rw [<-s];have G2:=pp (after n.o g2);obtain ⟨B,F,c2,-,-,-⟩:=(b.o.on g2).c3;have y:=pp (P.o a G2.o);clear b0 b2 u s g2 P;go_upto_region 10 with (go_at_call 298;refine y.o.mono ?_;rintro N w3 ⟨rfl,x⟩;replace x:=pp x)
  go_wp2_with fail;go_returns;exact ⟨rfl,Q6.ahead G2.o x.o⟩
 ·rw [hh] at A;have S:=pp A;by_cases i:Bc Q.l c<=t
  ·have k:E9 Q.l c t=false:=by unfold E9;rw [hh,decide_eq_true i];rfl
   have j:YS Q.l c t=Q.l:=by unfold YS;rw [hh,decide_eq_true i];rfl
   rw [k,j];clear A h H C z ht T Y L E hh k j;go_enter func234,ntmps234;go_upto_region 1 with fail
   rw [<-p];clear p;go_wp2_with (go_at_call 296;refine S.o.mono ?_;rintro N I ⟨rfl,f⟩;have n:=pp (after HH.o f);have b:=pp (X.o.on f);clear f);go_returns;exact ⟨rfl,Q6.below ((Zs q Q).on HQ.o n.o) n.o⟩
  ·have k:E9 Q.l c t=true:=by unfold E9;rw [hh,decide_eq_false i];rfl
   have j:YS Q.l c t=VR (Vh Q.l c) (t,c):=by unfold YS;rw [hh,decide_eq_false i];rfl
   rw [k,j];have HD:=pp λa (g:pM w a)=>aH q Q c z (by omega) E hh a M ((Zs q Q).on h g)
   have Z:=NX Q.l c;have P:=pp λa U (g:QA q { Q with l:=Vh Q.l c } a U)=>Lw q { Q with l:=Vh Q.l c } (t,c) z ht (by show (Vh Q.l c).length<=4095;omega) (Id L c) (LC E c) (J0 Q.l c) a U g
   clear A h H C z ht T Y L E hh k j Z;go_enter func234,ntmps234;go_upto_region 1 with fail
   rw [<-p];clear p;go_upto_region 5 with (go_at_call 296;refine S.o.mono ?_;rintro N I ⟨rfl,f⟩;have n:=pp (after HH.o f);have b:=pp (X.o.on f);clear f)
   clear B F c2;obtain ⟨B,F,c2,-,-,-⟩:=b.o.c3;have O:=pp (HD.o I n.o);have hM:=pp (λ(e:M w.heap.size)=>by have:=(HQ.o.type e).1;omega:¬M w.heap.size)
   go_upto_region 9 with (go_at_call 297;refine O.o.mono ?_;rintro N w2 ⟨rfl,R⟩;replace R:=pp R)
   clear B F c2;obtain ⟨B,F,c2,-,-,-⟩:=(R.o.blk hM.o b.o).c3;obtain ⟨U,G,K,k2⟩:=R.o;have y:=pp (P.o w2 U G);have J:=pp (py K k2);clear G K k2 P HD O;go_upto_region 10 with (go_at_call 298;refine y.o.mono ?_;rintro N w3 ⟨rfl,x⟩;replace x:=pp x)
   go_wp2_with fail;go_returns;exact ⟨rfl,Q6.ahead n.o (Q6.bind J.o.1 J.o.2 x.o)⟩
theorem Q0.cellsq {ty:TypeId}{g:Nat} :∀(c:List Value) (o:Nat) (w:World) (cur:Array Value),Q0 w g ty cur->∃a,Q0 (w.setCells g o c) g ty a/\a.size=cur.size/\(∀j,j<o->a[j]?=cur[j]?)/\Kept (λb=>b≠g) w (w.setCells g o c)
 | [],o,w,cur,h=>⟨cur,h,rfl,λ_ _=>rfl,Kept.refl _ _⟩
 | v::r,o,w,cur,h=>by
  obtain ⟨c2,i,d,e,f⟩:=Q0.cellsq r (o+1) (w.setCell ⟨g,o,none⟩ v) _ (h.set_ o v);refine ⟨c2,i,by rw [d,Array.size_setIfInBounds],λj hj=>?_,((Kept.refl _ w).setCell (p:=⟨g,o,none⟩) (by simp) v).trans f⟩
  rw [e j (by omega),Array.getElem?_setIfInBounds,if_neg (by omega)]
theorem Pm (w:World)(g o n c:Nat)(ty:TypeId)(cur:Array Value)(f:Q0 w g 92 cur)(hn:1<=n)(hc:o+n * 4<=cur.size):
  (Builtin.clear_ #[88] ty #[.slice (some ⟨g,o,none⟩) n c]).run prog w=.ok (.tuple #[]) (w.setCells g o (Builtin.zeroCells (Value.agg #[int i64 0,int i64 0,int i64 0,int i64 0]).cells n).toList):=by
 obtain ⟨n,rfl⟩:∃k,n=k+1:=⟨n - 1,by omega⟩
 have m:=GG (n+1);have a:=run_storeCells_cells (P:=prog) g o (Builtin.zeroCells (Value.agg #[int i64 0,int i64 0,int i64 0,int i64 0]).cells (n+1)).toList 0 w (λj e=>?_) (λj e=>?_) (by
  intro v d;rw [Array.mem_toList_iff,Builtin.zeroCells,Array.mem_map] at d;obtain ⟨i,-,rfl⟩:=d;have l:(Value.agg #[int i64 0,int i64 0,int i64 0,int i64 0]).cells.size=4:=rfl;rw [l];rcases (show i%4=0∨i%4=1∨i%4=2∨i%4=3 by omega) with h|h|h|h<;>rw [h]<;>rfl)
 ·simp only [Nat.add_zero] at a;simp only [Builtin.clear_];simp [run_underlying underlying88];rw [a];rfl
 ·have b:o+j<cur.size:=by rw [Array.length_toList,m] at e;omega
  simp only [Nat.add_zero];rw [f.cell,Array.getElem?_eq_getElem b];rfl
 ·exact f.frz _
theorem fJ (g cp n:Nat)(l:List QI)(hm:l.length<=4096)(V:1<=n)(hn:n<=l.length)(w:World)(hO:Q5 w 0 92 4 Qt (.slice (some ⟨g,0,none⟩) l.length cp) l):Calls prog 273 #[.slice (some ⟨g,0,none⟩) l.length cp,int i64 0,int i64 n] w λr w'=>Lz g cp (l.length - n) (l.drop n) w r w':=by
 obtain ⟨cur,Q,F,J,B,-,L⟩:=hO.parts;obtain ⟨i,hi,-,x,-⟩:=info_parts Ls;obtain ⟨k,O⟩:=pt l.length;obtain ⟨b,a⟩:=pt ((l.drop n).flatMap Qt);have q:b.length=(k - n) * 4:=by rw [a,QV Xq,List.length_drop,<-O]
 have A:∀u∈b,u.oneCell'=true:=by rw [a];exact Ic _
 obtain ⟨s,y⟩:=pt ((cur.toList.take (0 * 4)++b++cur.toList.drop (0 * 4+b.length)).toArray);rw [<-O] at hm hn J ⊢;have v:s.size=cp * 4:=by
  rw [y,List.size_toArray,List.length_append,List.length_append,List.length_take,List.length_drop,Array.length_toList,q,F];omega
 have z:s.toList.take ((k - n) * 4)=b:=by
  rw [y,List.toList_toArray,Nat.zero_mul,List.take_zero,List.nil_append,<-q,List.take_left]
 have I:∀(W:World),pM w W->∀(c:Nat) (ty:TypeId),(Builtin.append_ #[88,88] ty #[.slice (some ⟨g,0,none⟩) 0 cp,.slice (some (if cp=n then ⟨g,0,none⟩ else ⟨g,n * 4,none⟩)) (k - n) c]).run prog W=.ok (.slice (some ⟨g,0,none⟩) (k - n) cp) (W.setRow g s):=λW G c ty=>by
  have hr:=run_append_room (P:=prog) W 88 ty 92 i underlying88 hi g 0 cp cur (Q.on G) (if cp=n then ⟨g,0,none⟩ else ⟨g,n * 4,none⟩) (k - n) c b (by rw [x];exact q) (λj u hu=>by
   have hjl:=(List.getElem?_eq_some_iff.1 hu).1;rw [if_neg (by omega),Addr.add_lit,(Q.on G).cell]
   have h1:(l.flatMap Qt)[n * 4+j]?=some u:=by
    rw [show l=l.take n++l.drop n from (List.take_append_drop n l).symm,List.flatMap_append,List.getElem?_append_right (by rw [QV Xq,List.length_take];omega),QV Xq,List.length_take,show n * 4+j - min n l.length * 4=j by omega,<-a]
    exact hu
   rw [<-L,List.getElem?_take_of_lt (by omega)] at h1
   simpa using h1) A (by omega) (by rw [x,q,F];omega)
  rw [x,<-y,Nat.zero_add] at hr;exact hr
 have p:=pp I;obtain ⟨Z,hZ⟩:=pt ((Builtin.zeroCells (Value.agg #[int i64 0,int i64 0,int i64 0,int i64 0]).cells n).toList);have m:Hid (∀W,pM w W->(∀(c:Nat) (ty:TypeId),(Builtin.clear_ #[88] ty #[.slice (some ⟨g,(k - n) * 4,none⟩) n c]).run prog (W.setRow g s)=.ok (.tuple #[]) ((W.setRow g s).setCells g ((k - n) * 4) Z))/\Lz g cp (k - n) (l.drop n) w (.returned (.slice (some ⟨g,0,none⟩) (k - n) cp)) ((W.setRow g s).setCells g ((k - n) * 4) Z)):=pp λW G=>by
  have C:Q0 (W.setRow g s) g 92 s:=(Q.on G).row _;refine ⟨λc ty=>by rw [hZ];exact Pm _ g ((k - n) * 4) n c ty s C V (by rw [v];omega),rfl,?_,?_⟩
  ·obtain ⟨C2,aa,S,R,-⟩:=C.cellsq Z ((k - n) * 4);have hl:(l.drop n).length=k - n:=by rw [List.length_drop,<-O]
   have:=Q5.made (w:=(W.setRow g s).setCells g ((k - n) * 4) Z) (base:=0) (g:=g) (cap:=cp) (e:=92) (enc:=Qt) (xs:=l.drop n) Xq aa (by rw [S,v]) (by omega) B (pC _) (by
    rw [hl,<-a,<-z];apply List.ext_getElem?;intro j;by_cases T:j<(k - n) * 4
    ·rw [List.getElem?_take_of_lt T,List.getElem?_take_of_lt T,Array.getElem?_toList,Array.getElem?_toList,R j T]
    ·rw [List.getElem?_eq_none (by rw [List.length_take];omega),List.getElem?_eq_none (by rw [List.length_take];omega)])
   rw [hl] at this;exact this
  ·obtain ⟨-,-,-,-,ab⟩:=C.cellsq Z ((k - n) * 4);exact (GF ((Kept.of_below G).mono λ_ _=>trivial) (by simp) s).trans ab
 have q1:(n:Int)<=(k:Int):=by omega
 have q2:(k:Int)<=(cp:Int):=by omega
 have q3:¬(0:Int)=(n:Int):=by omega
 have q4:(0:Int)<=(n:Int):=by omega
 have q5:(0:Int)<=(k:Int):=by omega
 have q6:(n:Int)<=(cp:Int):=by omega
 have q7:(0:Int)<=(cp:Int):=by omega
 clear hO Q F L hi x a q A y v z I B O hZ;obtain ⟨d,X⟩:=pt (k - n);rw [<-X] at p m ⊢;have e1:k - n=d:=X.symm;have e2:k - d=n:=by omega
 have q8:(d:Int)<=(k:Int):=by omega
 have q9:(0:Int)<=(d:Int):=by omega
 have q10:(d:Int)<=(cp:Int):=by omega
 have q11:¬cp=d:=by omega
 clear X;by_cases H:cp=n
 ·subst H;simp only [if_true] at p;go_enter func273,ntmps273;go_upto_region 5 with fail
  refine Qk [0,0,0,0,0,0,3,3] (λ_ _ _=>True) (by kernel_rfl) (by kernel_rfl) (λ_ _ _ _ h _=>h) ?_
  repeat (first|(refine Qi ?_)|(refine Qf (λK M=>?_);go_simp;refine M _ ?_;clear M K))
  refine Q8 ?_;repeat (refine Q2 ?_)
  refine Qc ?_;simp only [Qd];intro N D _;have U:=p.o N D;obtain ⟨f,t⟩:=m.out N D;have Y:=pp t;have E:=pp f;clear f t p m D;go_upto_region 6 with (at_builtin;refine Lib.wpList_append_run _ rfl _ _ _ _ rfl _ _ rfl rfl _ _ (U _ _) ?_)
  have f:=E.o;go_wp2_with (simp only [f]);go_returns;exact Y.o
 ·simp only [if_neg H] at p;go_enter func273,ntmps273;go_upto_region 5 with fail
  refine Qk [0,0,0,0,0,0,3,3] (λ_ _ _=>True) (by kernel_rfl) (by kernel_rfl) (λ_ _ _ _ h _=>h) ?_
  repeat (first|(refine Qi ?_)|(refine Qf (λK M=>?_);go_simp;refine M _ ?_;clear M K))
  refine Q8 ?_;repeat (refine Q2 ?_)
  refine Qc ?_;simp only [Qd];intro N D _;have U:=p.o N D;obtain ⟨f,t⟩:=m.out N D;have Y:=pp t;have E:=pp f;clear f t p m D;go_upto_region 6 with (at_builtin;refine Lib.wpList_append_run _ rfl _ _ _ _ rfl _ _ rfl rfl _ _ (U _ _) ?_)
  have f:=E.o;go_wp2_with (simp only [f]);go_returns;exact Y.o
def Xr (l:List QI)(now many:Int):Nat:=min (l.takeWhile λx=>decide (x.1<=now)).length many.toNat
theorem J1 (l:List QI)(now many:Int):Xr l now many<=l.length:=by
 have:∀l:List QI,(l.takeWhile λx=>decide (x.1<=now)).length<=l.length:=λl=>(List.takeWhile_sublist _).length_le
 have:=this l;unfold Xr;omega
theorem Ea:∀(l:List QI) (now:Int) (i:Nat),i<(l.takeWhile λx=>decide (x.1<=now)).length->∃x,l[i]?=some x/\x.1<=now
 | [],_,_,h=>by simp at h
 | a::l,now,i,h=>by
  by_cases b:a.1<=now
  ·rw [List.takeWhile_cons_of_pos (by simpa using b)] at h
   cases i with
   | zero=>exact ⟨a,rfl,b⟩
   | succ i=>
    obtain ⟨x,d,c⟩:=Ea l now i (by simpa using h)
    exact ⟨x,by simpa using d,c⟩
  ·rw [List.takeWhile_cons_of_neg (by simpa using b)] at h
   simp at h
theorem JJ:∀(l:List QI) (now:Int) (x:QI),l[(l.takeWhile λx=>decide (x.1<=now)).length]?=some x->now<x.1
 | [],_,_,h=>by simp at h
 | a::l,now,x,h=>by
  by_cases b:a.1<=now
  ·rw [List.takeWhile_cons_of_pos (by simpa using b),List.length_cons,List.getElem?_cons_succ] at h
   exact JJ l now x h
  ·rw [List.takeWhile_cons_of_neg (by simpa using b)] at h
   obtain rfl:a=x:=by simpa using h
   omega
theorem aI {l:List QI}{now many:Int}{i:Nat}(h:i<Xr l now many):(i:Int)<many/\∃x,l[i]?=some x/\x.1<=now:=by
 unfold Xr at h;exact ⟨by omega,Ea l now i (by omega)⟩
theorem fK {l:List QI}{now many:Int} :Xr l now many=l.length∨(Xr l now many<l.length/\many<=Xr l now many)∨(((Xr l now many:Nat):Int)<many/\∃x,l[Xr l now many]?=some x/\now<x.1):=by
 have h:=J1 l now many;have hw:(l.takeWhile λx=>decide (x.1<=now)).length<=l.length:=(List.takeWhile_sublist _).length_le
 rcases Nat.lt_or_ge (Xr l now many) l.length with a|a
 ·right;by_cases b:many<=Xr l now many
  ·exact .inl ⟨a,b⟩
  ·right;refine ⟨by omega,?_⟩
   have e:Xr l now many=(l.takeWhile λx=>decide (x.1<=now)).length:=by unfold Xr at b ⊢;omega
   obtain ⟨x,c⟩:∃x,l[Xr l now many]?=some x:=⟨_,pH a⟩;exact ⟨x,c,JJ l now x (by rw [<-e];exact c)⟩
 ·exact .inl (by omega)
theorem fL (g cp n:Nat)(l:List QI)(c:l.length<=4096)(d:n<=l.length)(w:World)(b:Q5 w 0 92 4 Qt (.slice (some ⟨g,0,none⟩) l.length cp) l):Calls prog 273 #[.slice (some ⟨g,0,none⟩) l.length cp,int i64 0,int i64 n] w λr w'=>Lz g cp (l.length - n) (l.drop n) w r w':=by
 rcases n with _|n
 ·obtain ⟨cur,-,-,a,-⟩:=b.parts;refine (NN (some ⟨g,0,none⟩) l.length cp (λe=>by cases e) a w).mono ?_
  rintro r w' ⟨rfl,rfl⟩;exact ⟨rfl,b,Kept.refl _ _⟩
 ·exact fJ g cp (n+1) l c (by omega) d w b
theorem U6.keep {w w':World}{g cp:Nat}{l:List QI}(h:U6 w g cp l)(a:Kept K w w')(d:K g):U6 w' g cp l:=by
 obtain ⟨cur,c,b⟩:=h;exact ⟨cur,a.blk d c,b⟩
theorem Tell.pop1 {D:DU}{l:List QI}{i:Nat}{x:QI}(h:Tell D (l.drop i))(g:Tidy D)(d:QH l)(b:l[i]?=some x):Tell (D.del (kc x.2)) (l.drop (i+1)):=by
 have a:=(List.getElem?_eq_some_iff.1 b).1;have e:l.drop i=(x.1,x.2)::l.drop (i+1):=by
  rw [List.drop_eq_getElem_cons a];congr 1;exact (List.getElem?_eq_some_iff.1 b).2
 rw [e] at h;refine h.pop g ?_;unfold XM;rw [List.any_eq_false];intro y f k;obtain ⟨j,c⟩:=List.getElem?_of_mem f;rw [List.getElem?_drop] at c;have:=NV d c b (by simpa using k)
 omega
theorem aJ {xs:List Cl}{p:Cl}(f:Q5 W B 43 3 XG v xs)(e:Q0 W b 43 #[int i64 p.1,int i64 p.2.1,int i64 p.2.2])(hl:xs.length<=1000000)(i:B<=W.heap.size):
  ∃g c w',(Builtin.append_ #[47,47] 47 #[v,.slice (some ⟨b,0,none⟩) 1 1]).run prog W=.ok (.slice (some ⟨g,0,none⟩) (xs.length+1) c) w'/\Q5 w' B 43 3 XG (.slice (some ⟨g,0,none⟩) (xs.length+1) c) (xs++[p])/\Kept (λb=>v.ownBlock≠some b) W w':=by
 obtain ⟨g,c,w',hrun,h,d,-⟩:=Yr (P:=prog) (ts:=47) (ty:=47) (x:=p) (b:=b) underlying47 Kk rfl (by decide) (by decide) rfl (by intro u a;simp [XG] at a;rcases a with rfl|rfl|rfl<;>rfl) f (λj u a=>by rw [e.cell j];simpa [XG] using a) (by omega) i
 exact ⟨g,c,w',hrun,h,XQ d⟩
theorem fM (q:Nat)(Q:QS)(now many:Int)(al:Q.l≠[])(hl:Q.l.length<=4096)(hd:QH Q.l)(w:World)(M:Nat->Prop)(h:QA q Q w M):
  Calls prog 202 #[q,now,many] w λr w'=>Pi q { Q with l:=Q.l.drop (Xr Q.l now many) } ((Q.l.take (Xr Q.l now many)).map (·.2)) w M r w':=by
 obtain ⟨v,m,D,C,E,G,N,H⟩:=h;generalize hL:Q.l=l0 at *;have am:0<l0.length:=List.length_pos_iff.2 al;obtain ⟨q0,cp,rfl,bd,A,ax,-,aq⟩:=E.form Xq;obtain ⟨g,rfl⟩:=aq am;obtain ⟨n,U⟩:=pt l0.length;obtain ⟨k,O⟩:=pt (Xr l0 now many);have ad:=J1 l0 now many;have s:=fL g cp k l0 hl;rw [<-O] at ad ⊢;rw [<-U] at ad bd C G hl s;have u:=pp (py C (py E (py G (py N (py H (py U (py O (py hd (py A (s ad))))))))));have b2:=C.cell 2;have au:Hid (Rd w (some ⟨g,0,none⟩) 4 Qt l0):=pp ax;have q1:(n:Int)<=4096:=by omega
 have q2:(n:Int)<=(cp:Int):=by omega
 have q3:(k:Int)<=(n:Int):=by omega
 rw [<-U] at E;clear C E G N H U O hd A s ax hL al am aq;go_enter func202,ntmps202;go_upto_block 0 with fail
 go_cut [7] from 11 to 36 (λv7 wx=>v7=.int .i64 k/\wx=w)
 case first=>
  go_upto_region 2 with fail
  go_loopw [7] (λiv wr=>∃i:Nat,iv=.int .i64 i/\Hid (i<=k)/\wr=w) (λiv _=>k - (intOf iv).toNat)
  case atStart=>exact ⟨0,rfl,pC _,rfl⟩
  case round=>
   obtain ⟨i,rfl,hi,rfl⟩:=hrel;by_cases ah:i<k
   ·have a9:i<Xr l0 now many:=by have:=u.o.2.2.2.2.2.2.1;omega
    obtain ⟨af,x,p,ar⟩:=aI a9;obtain ⟨g',o',e,h5⟩:=au.out (by have:=u.o.2.2.2.2.2.1;omega)
    obtain ⟨rfl,rfl⟩:g=g'/\0=o':=by simpa using e
    have r0:wr.cell? ⟨g,i * 4,none⟩=some (int i64 x.1):=by simpa using h5 i x p 0 _ rfl
    have a1:(i:Int)<(n:Int):=by omega
    have az:(0:Int)<=(i:Int):=by omega
    have YV:IntKind.i64.wrap ((i:Int)+1)=(i:Int)+1:=pJ _ (by omega)
    have d1:decide ((i:Int)<(n:Int))=true:=decide_eq_true a1;have d2:decide ((i:Int)<many)=true:=decide_eq_true af;have d3:decide (x.1<=now)=true:=decide_eq_true ar;clear h5 p e;go_wp2_with fail;go_roundw
    case rel=>exact ⟨i+1,by go_num,pp ah,trivial⟩
    case measure=>simp [intOf];omega
   ·obtain rfl:i=k:=by have:=hi.out;omega
    rcases fK (l:=l0) (now:=now) (many:=many) with h|⟨h,h'⟩|⟨h',x,p,ar⟩
    ·have d1:¬(i:Int)<(n:Int):=by have:=u.o.2.2.2.2.2.1;have:=u.o.2.2.2.2.2.2.1;omega
     have av:decide ((i:Int)<(n:Int))=false:=decide_eq_false d1;clear h;go_wp2_with fail;go_meet
     case rel=>exact ⟨rfl,rfl⟩
    ·have d1:(i:Int)<(n:Int):=by have:=u.o.2.2.2.2.2.1;have:=u.o.2.2.2.2.2.2.1;omega
     have d2:¬(i:Int)<many:=by have:=u.o.2.2.2.2.2.2.1;omega
     have av:decide ((i:Int)<(n:Int))=true:=decide_eq_true d1;have a8:decide ((i:Int)<many)=false:=decide_eq_false d2;clear h h';go_wp2_with fail;go_meet
     case rel=>exact ⟨rfl,rfl⟩
    ·have ap:=u.o.2.2.2.2.2.2.1;rw [<-ap] at p h';have bb:=(List.getElem?_eq_some_iff.1 p).1;obtain ⟨g',o',e,h5⟩:=au.out (by omega)
     obtain ⟨rfl,rfl⟩:g=g'/\0=o':=by simpa using e
     have r0:wr.cell? ⟨g,i * 4,none⟩=some (int i64 x.1):=by simpa using h5 i x p 0 _ rfl
     have d1:(i:Int)<(n:Int):=by have:=u.o.2.2.2.2.2.1;omega
     have az:(0:Int)<=(i:Int):=by omega
     have av:decide ((i:Int)<(n:Int))=true:=decide_eq_true d1;have a8:decide ((i:Int)<many)=true:=decide_eq_true h';have d3':decide (x.1<=now)=false:=decide_eq_false (by omega)
     have d3:¬x.1<=now:=by omega
     clear h5 p e ap bb;go_wp2_with fail;go_meet
     case rel=>exact ⟨rfl,rfl⟩
 case rest=>
  obtain ⟨rfl,rfl⟩:=hcut;obtain ⟨C,E,G,N,H,U,O,hd,A,s⟩:=u.o;have q4:(k:Int)<=(cp:Int):=by omega
  have q5:(0:Int)<=(k:Int):=by omega
  clear C E G N H U O hd A s;go_upto_region 6 with fail
  go_loopw [45,8,10] (λiv v wv wr=>∃i:Nat,iv=.int .i64 i/\Hid (i<=k)/\Hid (∃D',Q5 wr wc.heap.size 43 3 XG v ((l0.take i).map (·.2))/\wr.ownsMap prog 43 RI m (l0.drop i).length D'/\Tell D' (l0.drop i)/\Kept (λb=>b≠m) wc wr)) (λiv _ _ _=>k - (intOf iv).toNat)
  case atStart=>exact ⟨0,rfl,pC _,pp ⟨D,Q5.nil,by have h:=u.o.2.2.1;rw [u.o.2.2.2.2.2.1] at h;exact h,u.o.2.2.2.1,Kept.refl _ _⟩⟩
  case round=>
   obtain ⟨i,rfl,hi,HI⟩:=hrel;by_cases ah:i<k
   ·obtain ⟨D',B,j,P,c⟩:=HI.out;obtain ⟨C,E,G,N,H,U,O,hd,A,s⟩:=u.o;obtain ⟨x,p⟩:∃x,l0[i]?=some x:=⟨_,pH (by omega)⟩
    have f:m≠q:=λe=>VQ G (by rw [e];exact C)
    obtain ⟨-,ay,z⟩:=QC E (b:=g) rfl;have t:m≠g:=λe=>VQ G (by rw [e];exact z)
    obtain ⟨r0,r1,r2,r3⟩:=((U6.of E).keep c t.symm).cells p;have a1:(i:Int)<(k:Int):=by omega
    have az:(0:Int)<=(i:Int):=by omega
    have YV:IntKind.i64.wrap ((i:Int)+1)=(i:Int)+1:=pJ _ (by omega)
    obtain ⟨q8,c8,rfl,-⟩:=B.form E4;obtain ⟨W1,ab⟩:=pt (wr.alloc (.cells #[int i64 x.1,int i64 x.2.1,int i64 x.2.2.1,int i64 x.2.2.2] 92));have b1:pM wr W1:=by rw [ab];exact Q3 _ _
    have Y:=Q0.fresh ab;have x0:=Y.cell 0;have x1:=Y.cell 1;have x2:=Y.cell 2;have x3:=Y.cell 3;have HR:=pp (py B (py j (py P (py c (py p (py f (py t (py b1 Y))))))));clear B j P c p f t z b1 Y C E G N H U O hd A s HI b2;go_upto_region 8 with fail
    rw [<-ab];clear ab r0 r1 r2 r3;obtain ⟨W2,aa⟩:=pt (W1.alloc (.cells #[int i64 x.2.1,int i64 x.2.2.1,int i64 x.2.2.2] 43));have b2:pM W1 W2:=by rw [aa];exact Q3 _ _
    have X2:=Q0.fresh aa;obtain ⟨B,j,P,c,p,f,t,b1,Y⟩:=HR.o;have V:=after b1 b2;have a0:wc.heap.size<=W2.heap.size:=pB c.size V.size;obtain ⟨g9,c9,w3,hrun,L,F⟩:=aJ (B.on V) X2 (by rw [List.length_map,List.length_take];omega) a0
    have X3:=F.blk (λe=>by have:=(B.block _ e).2;omega) (Y.on b2)
    have a2:m<wc.heap.size:=u.o.2.2.1.lt;have ac:=XC (XC (K:=λ_=>True) j ((Kept.of_below V).mono λ_ _=>trivial) trivial) F (λe=>by have:=(B.block _ e).1;omega)
    have J:Kept (λb=>b≠m/\b<wc.heap.size) wc w3:=((c.trans ((Kept.of_below V).mono λ_ _=>trivial)).mono λb a=>a.1).trans (F.mono λb a e=>by have:=(B.block _ e).1;omega)
    have k3:Kept (λb=>b≠m) wc w3:=⟨J.os,J.tape,J.output,J.size,λb a O=>J.block b a ⟨O,a⟩⟩
    have ao:=(P.far x (by
     have h:=p;rw [show i=i+0 by omega,<-List.getElem?_drop] at h
     exact pG h)).1
    have y:=P.pop1 (j.tidy F5) u.o.2.2.2.2.2.2.2.1 p;rw [aa] at hrun;have H3:=pp (py X3 (py ac (py k3 (py L (py y (py (IV ao) (py f p)))))));clear b2 X2 B j P c p f t b1 Y V a0 F X3 a2 ac J k3 ao y L aa HR;go_upto_region 9 with (at_builtin;refine Lib.wpList_append_run _ rfl _ _ _ _ rfl _ _ rfl rfl _ _ hrun ?_)
    clear hrun x0 x1 x2 x3;have x1:=λd os=>(H3.o.1.re d os).cell 1
    have x2:=λd os=>(H3.o.1.re d os).cell 2
    have x3:=λd os=>(H3.o.1.re d os).cell 3
    have an:=H3.o.2.2.1.blk H3.o.2.2.2.2.2.2.1.symm u.o.1;have b3:=λd os=>(an.re d os).cell 3
    refine Qk [0,0,0,0,0,0,3] (λ_ _ _=>True) (by kernel_rfl) (by kernel_rfl) (λ_ _ _ _ h _=>h) ?_
    repeat (first|(refine Qi ?_)|(refine Qf (λK hK=>?_);go_simp;refine hK _ ?_;clear hK K))
    refine Q8 ?_;repeat (refine Q2 ?_)
    refine Qc ?_;simp only [Qd];intro W4 N _;have aw:=pp (XC (K:=λ_=>True) H3.o.2.1 ((Kept.of_below N).mono λ_ _=>trivial) trivial)
    have H4:=pp N;clear x1 x2 x3 b3 an N;go_upto_region 10 with (at_delete;refine wpList_delete_own _ rfl _ _ 173 43 rfl 3 F5 underlying173 RI m _ D' rfl aw.o _ (kc x.2) rfl H3.o.2.2.2.2.2.1 ?_;intro w5 T I)
    have aj:=XQ I.grown;have R:=GD T;obtain ⟨bc,ac,F,L,y,a5,f,p⟩:=H3.o;rw [y.size] at R;have X:=(L.on H4.o).keep aj λb a e=>by
     have C:=(L.block _ a).1;have E:=u.o.2.2.1.lt;have:=pE e;omega
    have k5:Kept (λb=>b≠m) wc w5:=(F.trans ((Kept.of_below H4.o).mono λ_ _=>trivial)).trans (aj.mono λb a e=>a (pE e).symm)
    have H5:=pp (py R (py X (py k5 (py y p))));clear aj T I R bc ac F L y a5 f p X k5 H3 H4 aw;go_wp2_with fail;go_roundw
    case rel=>
     obtain ⟨R,X,k5,y,p⟩:=H5.o;refine ⟨i+1,by go_num,pp ah,pp ⟨_,?_,R,y,k5⟩⟩
     have e:(l0.take (i+1)).map (·.2)=(l0.take i).map (·.2)++[x.2]:=by rw [List.take_add_one,p,List.map_append];rfl
     rw [e];simpa using X
    case measure=>simp [intOf];omega
   ·obtain rfl:i=k:=by have:=hi.out;omega
    obtain ⟨D',B,j,P,c⟩:=HI.out;obtain ⟨C,E,G,N,H,U,O,hd,A,s⟩:=u.o;have f:m≠q:=λe=>VQ G (by rw [e];exact C)
    obtain ⟨-,ay,z⟩:=QC E (b:=g) rfl;have t:m≠g:=λe=>VQ G (by rw [e];exact z)
    have W:g≠q:=λe=>by rw [e] at z;exact absurd (Q7 z C) (by decide)
    have ag:=z.lt;have ai:=G.lt;have ak:=C.lt;have S:=c.blk f.symm C;have ae:=E.keep c λb a e=>by
     simp [Value.ownBlock] at a;omega
    rw [<-U] at ae;have b2:=S.cell 2;have a3:=pp (s wr ae);have H5:=pp (py S (py c (py j (py P (py f (py t (py W (py ag (py ai (py H (py B ak)))))))))));clear f z t W S ae ag ai P j c C E G N H U O hd A s B HI ak;have hii:¬(i:Int)<(i:Int):=by omega
    go_upto_region 12 with (go_at_call 273;refine a3.o.mono ?_;rintro e_ w6 ⟨rfl,o6,k6⟩;have K6:=pp k6;have O6:=pp o6;have a4:=(k6.blk H5.o.2.2.2.2.2.2.1.symm H5.o.1).cell 2;have a6:=(k6.blk H5.o.2.2.2.2.2.2.1.symm H5.o.1).frz 2;clear k6 o6)
    clear b2 a4 a6;go_wp2_with fail;go_returns;obtain ⟨S,c,j,P,f,t,W,ag,ai,H,B,ak⟩:=H5.o;have k6:=K6.o;have a7:=k6.blk W.symm S;have Z:Kept (λb=>b≠q) w6 (w6.setCell ⟨q,2,none⟩ (.slice (some ⟨g,0,none⟩) (n - i) cp)):=(Kept.refl _ _).setCell (by simp) _
    have ba:Kept (λb=>b≠m/\b≠g/\b≠q) wc (w6.setCell ⟨q,2,none⟩ (.slice (some ⟨g,0,none⟩) (n - i) cp)):=(c.mono λb a=>a.1).trans ((k6.mono λb a=>a.2.1).trans (Z.mono λb a=>a.2.2))
    refine ⟨_,rfl,(B.keep k6 λb a e=>?_).keep Z λb a e=>?_,λb=>b=q∨Value.ownBlock (.slice (some ⟨g,0,none⟩) (n - i) cp)=some b∨b=m,⟨_,m,_,a7.set_ 2 _,O6.o.keep Z λb a e=>?_,XC (XC j k6 t) Z f,P,λ_=>Iff.rfl⟩,λb a=>.inl ((H b).2 ?_),?_⟩
    ·have:=(B.block b a).1;omega
    ·have:=(B.block b a).1;omega
    ·simp [Value.ownBlock] at a;omega
    ·rcases a with a|a|a
     ·exact .inl a
     ·exact .inr (.inl a)
     ·exact .inr (.inr a)
    ·exact ba.mono λb a=>⟨λe=>a ((H b).2 (.inr (.inr e))),λe=>a ((H b).2 (.inr (.inl (by rw [e];rfl)))),λe=>a ((H b).2 (.inl e))⟩
def YA (xs l:List QI):List QI:=xs.foldl (λl x=>YS l x.2 x.1) l
theorem SA (xs l:List QI)(x:QI):YA (xs++[x]) l=YS (YA xs l) x.2 x.1:=by
 unfold YA;rw [List.foldl_append];rfl
theorem FW:∀(xs:List QI) {l:List QI},Xh l->Xh (YA xs l)
 | [],_,h=>h
 | x::xs,_,h=>FW xs (If h x.2 x.1)
theorem JK:∀(xs:List QI) {l:List QI},QH l->QH (YA xs l)
 | [],_,h=>h
 | x::xs,_,h=>JK xs (LD h x.2 x.1)
theorem LE:∀(xs l:List QI),(YA xs l).length<=l.length+xs.length
 | [],_=>pA _
 | x::xs,l=>by
  have h1:=LE xs (YS l x.2 x.1);have h2:=NY l x.2 x.1;rw [List.length_cons];unfold YA at *;rw [List.foldl_cons];omega
theorem SB {l:List QI}(b:Xh l)(a:QH l):YA l []=l:=by
 have key:∀(ys xs:List QI),Xh (xs++ys)->QH (xs++ys)->YA ys xs=xs++ys:=by
  intro ys;induction ys with
  | nil=>intro xs _ _;simp [YA]
  | cons y ys h=>
   intro xs b a;have e:YS xs y.2 y.1=xs++[y]:=by
    have d:XM xs y.2=false:=by
     unfold XM;rw [List.any_eq_false];intro x g i;unfold QH at a;rw [List.map_append,List.map_cons,List.nodup_append] at a;exact a.2.2 x.2 (List.mem_map.2 ⟨x,g,rfl⟩) y.2 List.mem_cons_self (by simpa using i)
    unfold YS;rw [d,Bool.false_and,if_neg (by simp),GH d]
    unfold VR;have f:Vg xs y.1=xs.length:=IY (pA _) (λj z c _=>by
     unfold Xh at b;exact (List.pairwise_append.1 b).2.2 z (pG c) y List.mem_cons_self) (λj z c hj=>by
     have:=(List.getElem?_eq_some_iff.1 c).1;omega)
    rw [f,List.take_length,List.drop_length]
   have k:YA (y::ys) xs=YA ys (YS xs y.2 y.1):=rfl;rw [k,e,h (xs++[y]) (by simpa using b) (by simpa using a)]
   simp
 have:=key l [] b a;simpa using this
theorem fN (q:Nat)(Q:QS)(v:Value)(xs:List QI)(t:∀x∈xs,UC x.2/\Qg x.1)(H:Q.l.length+xs.length<=4000)(K:4090<=Q.room)(F:Xh Q.l)(A:QH Q.l)(w:World)(M:Nat->Prop)(h:QA q Q w M)(p:Q5 w 0 92 4 Qt v xs)(y:∀b,v.ownBlock=some b->¬M b):
  Calls prog 179 #[q,v] w λr w'=>(∃k:Int,r=.returned (int i64 k))/\Q6 (QA q { Q with l:=YA xs Q.l }) w M w':=by
 have hf:=p.form Xq;obtain ⟨q0,cp,rfl,-,-,d,-,f⟩:=hf;obtain ⟨n,G⟩:=pt xs.length;have T:=pp (py t (py H (py K (py F (py A (py G (py h (py p (py y (py d f))))))))));have hnm:n<=4000:=by omega
 rw [<-G];clear t H K F A G h p y d f;go_enter func179,ntmps179;go_upto_region 3 with fail
 go_loopw [5,7,10] (λcv pv N wr=>∃i k:Nat,N=.int .i64 i/\cv=.int .i64 k/\Hid (i<=n/\k<=i)/\Hid (Q6 (QA q { Q with l:=YA (xs.take i) Q.l }) w M wr)) (λ_ _ N _=>n - (intOf N).toNat)
 case atStart=>exact ⟨0,0,rfl,rfl,pp ⟨pC _,pA _⟩,pp (Q6.same T.o.2.2.2.2.2.2.1)⟩
 case round=>
  obtain ⟨i,k,rfl,rfl,I,S⟩:=hrel;by_cases B:i<n
  ·have hin:(i:Int)<(n:Int):=by omega
   have hi0:(0:Int)<=(i:Int):=by omega
   have YV:IntKind.i64.wrap ((i:Int)+1)=(i:Int)+1:=pJ _ (by omega)
   have hk1:IntKind.i64.wrap ((k:Int)+1)=(k:Int)+1:=pJ _ (by have:=I.out;omega)
   obtain ⟨Z,X,V,P⟩:=S.out;obtain ⟨t,H,K,F,A,G,h,p,y,d,f⟩:=T.o;obtain ⟨x,c⟩:∃x,xs[i]?=some x:=⟨_,pH (by omega)⟩
   obtain ⟨g,rfl⟩:=f (by omega)
   obtain ⟨g',o',e,C⟩:=d (by omega)
   obtain ⟨rfl,rfl⟩:g=g'/\0=o':=by simpa using e
   have z:=(p.block g rfl).2;have a:∀(k:Nat) (u:Value),w.cell? ⟨g,k,none⟩=some u->wr.cell? ⟨g,k,none⟩=some u:=λk u hu=>by
    rw [World.cell?_of_block (P.block g z (y g rfl))];exact hu
   have r0:wr.cell? ⟨g,i * 4,none⟩=some (int i64 x.1):=a _ _ (by simpa using C i x c 0 _ rfl)
   have r1:wr.cell? ⟨g,i * 4+1,none⟩=some (int i64 x.2.1):=a _ _ (by simpa using C i x c 1 _ rfl)
   have r2:wr.cell? ⟨g,i * 4+2,none⟩=some (int i64 x.2.2.1):=a _ _ (by simpa using C i x c 2 _ rfl)
   have Y:wr.cell? ⟨g,i * 4+3,none⟩=some (int i64 x.2.2.2):=a _ _ (by simpa using C i x c 3 _ rfl)
   have O:(YA (xs.take i) Q.l).length<=4000:=by
    have:=LE (xs.take i) Q.l;rw [List.length_take] at this;omega
   obtain ⟨E,AY⟩:=t x (pG c);obtain ⟨W,j⟩:=pt (wr.alloc (.cells #[int i64 x.1,int i64 x.2.1,int i64 x.2.2.1,int i64 x.2.2.2] 92));have L:pM wr W:=by rw [j];exact Q3 _ _
   have s:=Q0.fresh j;have x0:=s.cell 0;have x1:=s.cell 1;have x2:=s.cell 2;have x3:=s.cell 3;have D:=NZ q { Q with l:=YA (xs.take i) Q.l } x.2 x.1 E AY (by show (YA (xs.take i) Q.l).length<=4095;omega) (FW _ F) (JK _ A) (by show ((YA (xs.take i) Q.l).length:Int)<Q.room;omega) W Z ((Zs q _).on X L)
   have U:YS (YA (xs.take i) Q.l) x.2 x.1=YA (xs.take (i+1)) Q.l:=by
    rw [List.take_add_one,c];exact (SA _ _ _).symm
   dsimp only at D;rw [U] at D;generalize E9 (YA (xs.take i) Q.l) x.2 x.1=bb at D;have R:=pp D;have m:=pp (py V (py P L));clear X V P t H K F A G h p y d f c e C z a O E AY L s D U S;cases bb
   all_goals
    go_upto_region 5 with fail
    rw [<-j];clear j r0 r1 r2 Y;go_wp2_with (go_at_call 234;refine R.o.mono ?_;rintro e_ w5 ⟨rfl,J⟩;replace J:=pp J);go_roundw
    case rel=>first
     | exact ⟨i+1,k,by go_num,rfl,pp ⟨B,by have:=I.out;omega⟩,pp (Q6.bind m.o.1 m.o.2.1 (Q6.ahead m.o.2.2 J.o))⟩
     | exact ⟨i+1,k+1,by go_num,by go_num,pp ⟨B,by have:=I.out;omega⟩,pp (Q6.bind m.o.1 m.o.2.1 (Q6.ahead m.o.2.2 J.o))⟩
    case measure=>simp [intOf];omega
  ·obtain rfl:i=n:=by have:=I.out;omega
   have hii:¬(i:Int)<(i:Int):=by omega
   go_wp2_with fail;go_returns;have h:=S.out;rw [List.take_of_length_le (by have:=T.o.2.2.2.2.2.1;omega)] at h
   exact ⟨⟨_,rfl⟩,h⟩
theorem Pn {w:World}{t:TypeId} :Q5 (w.alloc (.cells #[] t)) w.heap.size t 4 Qt (.slice (some ⟨w.heap.size,0,none⟩) 0 0) []:=by
 refine ⟨by simp,.inr ⟨w.heap.size,0,#[],rfl,pA _,Q0.new' rfl,by simp,by decide,by simp,by simp⟩⟩
theorem fO {w:World}{q:Option Addr}{l:List QI}(h:Rd w q 4 Qt l)(b:q=none):l=[]:=by
 have a:¬0<l.length:=λa=>by
  obtain ⟨g,o,e,-⟩:=h a;rw [b] at e;cases e
 exact List.length_eq_zero_iff.1 (by omega)
theorem fP (q:Option Addr)(n c:Nat)(l:List QI)(i:l.length=n)(s:n<=c)(t:n<=1000000)(w:World)(h:Rd w q 4 Qt l):
  Calls prog 110 #[.slice q n c] w λr w'=>∃v,r=.returned v/\Q5 w' w.heap.size 92 4 Qt v l/\Below w.heap.size w w':=by
 have hnl:∀(w:World) (a:Option Addr) (n c g j:Nat),(binOp .eql 88 (.slice a n c) (.slice none g j)).run prog w=.ok (.bool a.isNone) w:=λw a n c g j=>Lib.run_eql_slice_nil w _ _ a n c g j underlying88
 cases hq:q with
 | none=>
  obtain rfl:=fO h hq;obtain rfl:n=0:=by simpa using i.symm
  subst hq;go_enter func110,ntmps110;go_wp2_with fail;go_returns;exact ⟨_,rfl,Q5.nil,pI _ _⟩
 | some a=>
  rw [hq] at h;have f:Below w.heap.size w (w.alloc (.cells #[] 92)):=(pI _ _).alloc (pA _) _;obtain ⟨v1,w5,d,k,e⟩:=Gc (P:=prog) (ts:=88) (ty:=88) (enc:=Qt) (w:=w.alloc (.cells #[] 92)) (base:=w.heap.size) (xs:=([]:List QI)) (ys:=l) (q:=some a) (m:=n) (c:=c) (v:=.slice (some ⟨w.heap.size,0,none⟩) 0 0) underlying88 Ls rfl (by decide) (by decide) (λ_=>rfl) (λb _=>by simp [Qt,Value.oneCell']) Pn i s (h.on f) (by simp;omega) f.size
  rw [List.nil_append] at k;have p:=pp (py k (f.trans e));clear k e f h i s t hq;go_enter func110,ntmps110;go_wp2_with (at_builtin;refine Lib.wpList_append_run _ rfl _ _ _ _ rfl _ _ rfl rfl _ _ d ?_);go_returns;exact ⟨_,rfl,p.o.1,p.o.2⟩
theorem kA (q:Nat)(Q:QS)(i:Q.l.length<=4096)(w:World)(M:Nat->Prop)(h:QA q Q w M):
  Calls prog 70 #[q] w λr w'=>∃v,r=.returned v/\Q5 w' w.heap.size 92 4 Qt v Q.l/\Below w.heap.size w w':=by
 obtain ⟨v,m,D,e,c,-,-,-⟩:=h;obtain ⟨g,cp,rfl,a,-,b,-⟩:=c.form Xq;have f:=pp (fP g Q.l.length cp Q.l rfl a (by omega) w b)
 have b2:=e.cell 2;clear e c a b i;go_enter func70,ntmps70;go_wp2_with (go_at_call 110;refine f.o.mono ?_;rintro e_ w1 ⟨v1,rfl,(d:Hid _)⟩);go_returns;exact ⟨_,rfl,d.o.1,d.o.2⟩
end
end Go.Proofs.YtmbccnioijokfaaGreatDoor