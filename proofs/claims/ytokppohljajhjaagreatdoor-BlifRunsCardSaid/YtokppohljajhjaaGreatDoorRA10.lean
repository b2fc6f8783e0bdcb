/- Lemmas for this claim, part A10: each holds under what it names. -/
import Derived.Test.YtokppohljajhjaaGreatDoorRA9
import Derived.Test.YtokppohljajhjaaGreatDoorRA7
import Derived.Lib.SlBytesConst
import Derived.Test.YtokppohljajhjaaGreatDoorRA8
set_option linter.all false
namespace Go.Abs
open Go Go.RowKit
section
variable{e:E}
def Brw(k:Nat)(v v':V):Prop:=(v.dat=true/\v'=v)\/∃off,v= .lp k off/\v'= .lp 0 off
def VA(k:Nat):List V->List V->Prop
 |[],[]=>True
 |v::vs,v'::vs'=>Brw k v v'/\VA k vs vs'
 |_,_=>False
theorem VA.rel{k:Nat}{c c':C}(hd:CExt (fun _=>false) c.data c'.data)(hp:∀b,c.pl k=some b->c'.pl 0=some b):∀ {vs vs':List V} {xs:List Value},VA k vs vs'->VList c vs xs->VList c' vs' xs
 |[],[],xs,_,hl=>by simpa only[VList]using hl
 |v::vs,v'::vs',xs,⟨h1,h2⟩,hl=>by
  simp only[VList]at hl ⊢;obtain⟨y,ys,rfl,hy,hys⟩:=hl;refine⟨y,ys,rfl,?_,VA.rel hd hp h2 hys⟩;rcases h1 with⟨h1,rfl⟩|⟨off,rfl,rfl⟩
  ·exact VRel.ofdata _ _ (VRel.mono hd _ _ (VRel.todata _ _ h1 hy))
  ·simp only[VRel]at hy ⊢;obtain⟨b,hb,rfl⟩:=hy;exact⟨b,hp b hb,rfl⟩
end
section
variable{e:E}{n:Nat}{r:Option Nat}{f:Fr}{h:H}{Q:XE->Fr->H->Prop}{ops:Array Oper}
theorem BM{ok:Nat->Prop}{pl:Nat->Option Nat}{w:World}(hs:HSim e ok pl h w){cs:List V}{arr:Array Value}(hl:cs.length=arr.size)(hc:VList (cx ok pl w) cs arr.toList)(el:TypeId) :
 HSim e ok (bg pl h.length w.heap.size) (h++[.cells cs]) (w.alloc (.cells arr el (arr.size,arr.size+1)))/\Keeps (fun _=>false) pl w (bg pl h.length w.heap.size) (w.alloc (.cells arr el (arr.size,arr.size+1))):=by
 have x2:=WExt.alloc w (.cells arr el (arr.size,arr.size+1));have hb:(w.alloc (.cells arr el (arr.size,arr.size+1))).heap[w.heap.size]? =some (.cells arr el (arr.size,arr.size+1)):=by rw[World.alloc];simp
 have key:∀(c':C),CExt (fun _=>false) (cx ok pl w) c'->c'.w=w.alloc (.cells arr el (arr.size,arr.size+1))->OAt c' w.heap.size (.cells cs):=by intro c' hx hw;refine⟨arr,el,(arr.size,arr.size+1),by rw[hw];exact hb,fun j hj=>by show ¬(arr.size<=j/\_);omega,by omega,?_⟩;have:=VList.mono hx cs _ hc;rw[zqh (by simp;omega)];exact this
 have k:CExt (fun _=>false) (cx ok pl w) (cx ok (bg pl h.length w.heap.size) (w.alloc (.cells arr el (arr.size,arr.size+1)))):=by
  refine⟨fun b hb' hok=>⟨⟨hok.1,fun i hi=> ?_⟩,x2.same b hb'⟩,fun i b _ hi=> ?_,fun b arr' el' fz hb'=>⟨arr',fz,(x2.same b (aP hb')).trans hb',rfl⟩⟩
  ·simp only[bg]at hi;split at hi
   ·cases hi;simp only[cx]at hb';omega
   ·exact hok.2 i hi
  ·have:=hs.pl_lt hi;simp only[cx,bg];rw[if_neg (by omega)];exact hi
 exact hs.new x2 (.cells arr el (arr.size,arr.size+1)) (.cells cs) (zrb _) (by simp) (key _ k rfl)
theorem EJ{o1 o2:Oper}{rest:List Oper}{t el:TypeId}{a0 a1 a2:Int}{d1 d2:Tmp}{q re:TI}
 (g1:o1.guard=none) (e1:o1.dst=some d1) (op1:o1.op= .buildSlice t 3 #[(0,.const (.int .u8 a0)),(1,.const (.int .u8 a1)),(2,.const (.int .u8 a2))])
 (g2:o2.guard=none) (e2:o2.dst=some d2) (op2:o2.op= .convert t t (.tmp d1)) (hd1:d1<n)
 (hd2:d2<n) (hq:ti e.P t=some q) (hk0:q.kind= .slice el) (hre:ti e.P el=some re) (hku:re.kind= .int .u8) (hz1:re.size=1)
 (hk:KR e n r ops Q rest ((f.put (some d1) .any).put (some d2) (.ls h.length 1 0 3 3)) (h++[.cells [.int .u8 a0,.int .u8 a1,.int .u8 a2]])):KR e n r ops Q (o1::o2::rest) f h:=by
 intro ok pl0 w0 pl w a s;obtain⟨i,d,z,hT⟩:=aJ hq;have hd:=hT.slice hk0;subst hd;obtain⟨ie,de,ze,hE⟩:=aJ hre;have hde:=hE.int hku;subst hde;obtain⟨res,hr1,hr2⟩:=zl (k:=1) [Value.int .u8 a0,Value.int .u8 a1,Value.int .u8 a2] 0 ((Array.range (3*1)).map (ze.cells[·%ze.cells.size]!)) (by simp) (by simp[Value.cells]);have hres:res.toList=[.int .u8 a0,.int .u8 a1,.int .u8 a2]:=by rw[hr2];simp[Value.cells]
 have hsz:res.size=3:=by rw[<-Array.length_toList,hres];rfl
 have hrun1:(execOp a.eval o1).run e.P w= .ok (.value (.slice (some ⟨w.heap.size,0,none⟩) 3 3)) (w.alloc (.cells res el)):=by
  have h2:(Instr.buildSlice t 3 #[(0,.int .u8 a0),(1,.int .u8 a1),(2,.int .u8 a2)]).run e.P w= .ok (.slice (some ⟨w.heap.size,0,none⟩) 3 3) (w.alloc (.cells res el)):=by unfold Instr.buildSlice;simp only[Sem.run_bind,hT.run_und,Result.andThen,hE.run_size];rw[hz1,if_neg (by decide),if_neg (by decide)];simp only[Sem.run_bind,hE.run_zero,Sem.run_pure,Result.andThen];have h3:Instr.fill (fun i=>some (i*1,1)) ((Array.range (3*1)).map (ze.cells[·%ze.cells.size]!)) [(0,.int .u8 a0),(1,.int .u8 a1),(2,.int .u8 a2)]=some res:=hr1;simp only[h3];rfl
  have h4:execOp a.eval o1=(do pure (Next.value (<-Instr.buildSlice t 3 #[(0,.int .u8 a0),(1,.int .u8 a1),(2,.int .u8 a2)]))):=by simp[execOp,op1,Act.eval]
  rw[h4];exact fP h2
 have hev:(a.put o1.dst (.slice (some ⟨w.heap.size,0,none⟩) 3 3)).eval (.tmp d1)= .slice (some ⟨w.heap.size,0,none⟩) 3 3:=by rw[e1];have:=s.size;simp[Act.put,Act.eval,Array.getD,this,hd1]
 have hrun2:(execOp (a.put o1.dst (.slice (some ⟨w.heap.size,0,none⟩) 3 3)).eval o2).run e.P (w.alloc (.cells res el))= .ok (.value (.slice (some ⟨w.heap.size,0,none⟩) 3 3)) (w.alloc (.cells res el (res.size,res.size+1))):=by
  have h4:execOp (a.put o1.dst (.slice (some ⟨w.heap.size,0,none⟩) 3 3)).eval o2=(do pure (Next.value (<-convert t t (.slice (some ⟨w.heap.size,0,none⟩) 3 3)))):=by simp only[execOp,op2];rw[hev]
  rw[h4];exact fP (Lib.run_convert_bytes_const w t el res 3 3 hT.und hE.und)
 obtain⟨h1',h2'⟩:=BM s.hs (cs:=[.int .u8 a0,.int .u8 a1,.int .u8 a2]) (arr:=res) (by rw[hsz];rfl) (by rw[hres];simp[VList,VRel]) el;have hgd1:gd ops f o1=some true:=by unfold gd;rw[g1]
 have hw1:=mW s.val hgd1;unfold wpListIn;rw[if_pos hw1];refine⟨fun g _=>dZ r g,?_⟩;rw[bH,Oper.semAt_eq r a.eval o1 (fun c=>by rw[op1];exact fun h=>by cases h),hrun1];show wpListIn (RF r) 0 e.P ops (fU e n ok pl0 w0 Q) (o2::rest) (a.put o1.dst (.slice (some ⟨w.heap.size,0,none⟩) 3 3)) (w.alloc (.cells res el));have hw2:Region.wanted o2 (yielded ops (a.put o1.dst (.slice (some ⟨w.heap.size,0,none⟩) 3 3)).tmps)=true:=by unfold Region.wanted;rw[g2]
 unfold wpListIn;rw[if_pos hw2];refine⟨fun g _=>dZ r g,?_⟩;rw[bH,Oper.semAt_eq r _ o2 (fun c=>by rw[op2];exact fun h=>by cases h),hrun2];have s1:=s.next0 h1' h2';have hv1:VRel (cx ok (bg pl h.length w.heap.size) (w.alloc (.cells res el (res.size,res.size+1)))) .any (.slice (some ⟨w.heap.size,0,none⟩) 3 3):=by simp only[VRel]
 have s2:=s1.put (d:=o1.dst) (by rw[e1];simp[iT,hd1]) hv1;have hv2:VRel (cx ok (bg pl h.length w.heap.size) (w.alloc (.cells res el (res.size,res.size+1)))) (.ls h.length 1 0 3 3) (.slice (some ⟨w.heap.size,0,none⟩) 3 3):=by simp only[VRel];exact⟨_,3,rfl,zrb _,zrb _,by decide,.inr ⟨w.heap.size,res,el,(res.size,res.size+1),by simp[cx,bg],rfl,World.alloc_heap_new w _,by omega⟩⟩
 have s3:=s2.put (d:=o2.dst) (by rw[e2];simp[iT,hd2]) hv2;show wpListIn (RF r) 0 e.P ops (fU e n ok pl0 w0 Q) rest ((a.put o1.dst (.slice (some ⟨w.heap.size,0,none⟩) 3 3)).put o2.dst (.slice (some ⟨w.heap.size,0,none⟩) 3 3)) _;rw[e1,e2]at s3 ⊢;exact hk ok pl0 w0 _ _ _ s3
end
mutual
def V.sh(b:Nat):V->V
 | .lp id off=> .lp (b+id) off
 | .ls id k off len cap=> .ls (b+id) k off len cap
 | .lm id=> .lm (b+id)
 | .yd id=> .yd (b+id)
 | .fn f first captured=> .fn f (V.shs b first) (V.shs b captured)
 | .iface t e=> .iface t (e.sh b)
 | .agg vs=> .agg (V.shs b vs)
 | .tup vs=> .tup (V.shs b vs)
 | .grd g e=> .grd g (e.sh b)
 | .row k es=> .row k (V.shs b es)
 |v=>v
def V.shs(b:Nat):List V->List V
 |[]=>[]
 |v::vs=>v.sh b::V.shs b vs
end
structure SExt(b:Nat)(c c':C):Prop where
 w:c'.w=c.w
 ok:∀x,c.ok x->c'.ok x
 pl:∀i x,c.pl i=some x->c'.pl (b+i)=some x
theorem SExt.data{b:Nat}{c c':C}(h:SExt b c c'):CExt (fun _=>false) c.data c'.data :=
 ⟨fun x hx hok=>⟨h.ok x hok,by show c'.w.heap[x]? =c.w.heap[x]?;rw[h.w]⟩,fun i x _ hi=>by simp[C.data]at hi,fun x arr el fz hb=>⟨arr,fz,by show c'.w.heap[x]? =_;rw[h.w];exact hb,rfl⟩⟩
theorem oO.sh{b:Nat}{c c':C}(h:SExt b c c'){x off:Nat}{ev:Value}(hr:oO c x off ev):oO c' x off ev:=fun j hj=>by obtain⟨h1,h2⟩:=hr j hj;exact⟨h.ok x h1,by rw[h.w];exact h2⟩
theorem lh{b:Nat}:∀vs:List V,(V.shs b vs).length=vs.length
 |[]=>rfl
 |v::vs=>by rw[V.shs,zrt,lh vs,zrt]
mutual
theorem VRel.sh{b:Nat}{c c':C}(h:SExt b c c'):∀(v:V)(x:Value),VRel c v x->VRel c' (v.sh b) x
 | .any,_,_=>by simp[VRel,V.sh]
 | .bool _,_,hv | .int _ _,_,hv | .str _,_,hv | .nilp,_,hv | .nils,_,hv | .nilm,_,hv | .nilf,_,hv | .nili,_,hv=>by simpa only[VRel,V.sh]using hv
 | .lp id off,x,hv=>by simp only[VRel,V.sh]at hv ⊢;obtain⟨q,h1,h2⟩:=hv;exact⟨q,h.pl _ _ h1,h2⟩
 | .ip e,x,hv=>by simp only[VRel,V.sh]at hv ⊢;obtain⟨q,off,ev,h1,h2,h3,h4⟩:=hv;exact⟨q,off,ev,h1,h2.sh h,h3,VRel.mono h.data e ev h4⟩
 | .ls id k off len cap,x,hv=>by
  simp only[VRel,V.sh]at hv ⊢;obtain⟨a,cp,h1,h2,h3,h4,h5⟩:=hv;refine⟨a,cp,h1,h2,h3,h4,?_⟩;rcases h5 with h5|⟨q,arr,el,fz,h5,h6,h7,h8⟩
  ·exact .inl h5
  ·exact .inr ⟨q,arr,el,fz,h.pl _ _ h5,h6,by rw[h.w];exact h7,h8⟩
 | .is ex k es,x,hv=>by
  simp only[VRel,V.sh]at hv ⊢;obtain⟨a,cp,h1,h2,h3,h4,h5⟩:=hv;refine⟨a,cp,h1,h2,h3,h4,?_⟩;rcases h5 with h5|⟨q,off,h5,h6⟩
  ·exact .inl h5
  ·exact .inr ⟨q,off,h5,VElems.mono h.data k es q off h6⟩
 | .lm id,x,hv=>by simp only[VRel,V.sh]at hv ⊢;obtain⟨q,h1,h2⟩:=hv;exact⟨q,h.pl _ _ h1,h2⟩
 | .im ks vs,x,hv=>by simp only[VRel,V.sh]at hv ⊢;obtain⟨r,es,clk,h1,h2,h3,h4,h5⟩:=hv;exact⟨r,es,clk,h1,h.ok r h2,by rw[h.w];exact h3,VList.mono h.data ks _ h4,VList.mono h.data vs _ h5.1,h5.2⟩
 | .fn f first captured,x,hv=>by simp only[VRel,V.sh]at hv ⊢;obtain⟨fs,cs,h1,h2,h3⟩:=hv;exact⟨fs,cs,h1,VList.sh h first _ h2,VList.sh h captured _ h3⟩
 | .yd id,x,hv=>by simp only[VRel,V.sh]at hv ⊢;obtain⟨q,h1,h2⟩:=hv;exact⟨q,h.pl _ _ h1,h2⟩
 | .iface t e,x,hv=>by simp only[VRel,V.sh]at hv ⊢;obtain⟨ev,h1,h2⟩:=hv;exact⟨ev,h1,VRel.sh h e _ h2⟩
 | .agg vs,x,hv=>by simp only[VRel,V.sh]at hv ⊢;obtain⟨cs,h1,h2⟩:=hv;exact⟨cs,h1,VList.sh h vs _ h2⟩
 | .tup vs,x,hv=>by simp only[VRel,V.sh]at hv ⊢;obtain⟨cs,h1,h2⟩:=hv;exact⟨cs,h1,VList.sh h vs _ h2⟩
 | .grd g e,x,hv=>by simp only[VRel,V.sh]at hv ⊢;exact⟨fun hg=>VRel.sh h e _ (hv.1 hg),hv.2⟩
 | .row k es,x,hv=>by simp only[VRel,V.sh]at hv ⊢;obtain⟨q,h1,h2,h3⟩:=hv;rw[lh];exact⟨q,h1,h2,VElems.sh h k es q 0 h3⟩
theorem VList.sh{b:Nat}{c c':C}(h:SExt b c c'):∀(vs:List V)(xs:List Value),VList c vs xs->VList c' (V.shs b vs) xs
 |[],_,hv=>by simpa only[VList,V.shs]using hv
 |v::vs,xs,hv=>by simp only[VList,V.shs]at hv ⊢;obtain⟨y,ys,h1,h2,h3⟩:=hv;exact⟨y,ys,h1,VRel.sh h v y h2,VList.sh h vs ys h3⟩
theorem VElems.sh{b:Nat}{c c':C}(h:SExt b c c'):∀(k:Nat)(es:List V)(q off:Nat),VElems c k es q off->VElems c' k (V.shs b es) q off
 |_,[],_,_,_=>by simp only[VElems,V.shs]
 |k,e::es,q,off,hv=>by simp only[VElems,V.shs]at hv ⊢;obtain⟨⟨ev,h1,h2,h3⟩,h4⟩:=hv;exact⟨⟨ev,h1,h2.sh h,VRel.sh h e ev h3⟩,VElems.sh h k es q (off+k) h4⟩
end
def O.sh(b:Nat):O->O
 | .cells cs=> .cells (V.shs b cs)
 | .typed T cs=> .typed T (V.shs b cs)
 | .map ks vs=> .map (V.shs b ks) (V.shs b vs)
 | .loop t n ps asg body st pend=> .loop (fun i=>(t i).sh b) n ps asg body st pend
 |o=>o
theorem OAt.sh{b:Nat}{c c':C}(h:SExt b c c'){q:Nat}:∀ {o:O},OAt c q o->OAt c' q (o.sh b)
 | .dead,ho=>ho
 | .cells cs,ho=>by obtain⟨arr,el,fz,h1,h2,h3,h4⟩:=ho;refine⟨arr,el,fz,by rw[h.w];exact h1,h2,by rw[lh];exact h3,?_⟩;rw[lh];exact VList.sh h cs _ h4
 | .typed T cs,ho=>by obtain⟨arr,fz,h1,h2,h3,h4⟩:=ho;refine⟨arr,fz,by rw[h.w];exact h1,h2,by rw[lh];exact h3,?_⟩;rw[lh];exact VList.sh h cs _ h4
 | .map ks vs,ho=>by obtain⟨es,clk,h1,h2,h3⟩:=ho;exact⟨es,clk,by rw[h.w];exact h1,VList.sh h ks _ h2,VList.sh h vs _ h3.1,h3.2⟩
 | .loop t n ps asg body st pend,ho=>by obtain⟨r,h1,h2,h3,h4,h5,h6,h7,h8⟩:=ho;exact⟨r,by rw[h.w];exact h1,h2,h3,h4,h5,h6,h7,fun i=>VRel.sh h _ _ (h8 i)⟩
 | .misc .dfd,ho=>by show c'.w.heap[q]? =_;rw[h.w];exact ho
 | .misc .shut,ho=>by show c'.w.heap[q]? =_;rw[h.w];exact ho
 | .misc (.siter l pos),ho=>by obtain⟨s,h1,h2,h3⟩:=ho;exact⟨s,h1,h2,by rw[h.w];exact h3⟩
 | .misc (.miter ks vs cur),ho=>by
  obtain⟨m,seen,es,clk,h1,h2,h3,h4,h5,h6,h7⟩:=ho;exact⟨m,seen,es,clk,by rw[h.w];exact h1,h.ok m h2,by rw[h.w];exact h3,h4,VList.mono h.data ks _ h5,VList.mono h.data vs _ h6,fun k v hc=>by
   obtain⟨x,g1,g2,g3,g4⟩:=h7 k v hc;exact⟨x,g1,g2,VRel.mono h.data _ _ g3,VRel.mono h.data _ _ g4⟩⟩
def AEnd.sh(b:Nat):AEnd->AEnd
 | .ret v=> .ret (v.sh b)
 | .pan v=> .pan (v.sh b)
theorem lq{e:E}{g:FuncId}{args:List V}{h:H}{R0 R:AEnd->H->(Nat->Bool)->Prop}(hc:ag e g args [] R0)(hd:V.dats args=true)
 (hr:∀ae h' p,R0 ae h' p->R (ae.sh h.length) (h++h'.map (O.sh h.length)) (fun _=>false)):ag e g args h R:=by
 intro ok pl w vs hs hl;refine(hc _ _ w vs hs.toData (VList.mono (kV ok pl w) _ _ (VList.todata _ _ hd hl))).mono ?_;rintro en w' ⟨p,pl',h',ae,hs',k',he,hq⟩;obtain⟨pl2,hpl2⟩:∃pl2:Nat->Option Nat,pl2=fun i=>if i<h.length then pl i else pl' (i-h.length):=⟨_,rfl⟩
 have p1:∀i,i<h.length->pl2 i=pl i:=fun i hi=>by rw[hpl2];exact if_pos hi
 have p2:∀i,pl2 (h.length+i)=pl' i:=fun i=>by rw[hpl2];show(if _ then _ else _)=_;rw[if_neg (by omega),Nat.add_sub_cancel_left]
 have same:∀b,b<w.heap.size->w'.heap[b]? =w.heap[b]? :=fun b hb=>k'.same b hb (fun i hi=>by cases hi);have loc:∀i b,pl' i=some b->w.heap.size<=b:=fun i b hi=>by
  rcases k'.loc i b hi with⟨j,hj⟩|hlt
  ·cases hj
  ·exact hlt
 have K:Keeps (fun _=>false) pl w pl2 w':=by
  refine⟨k'.os,k'.tape,k'.output,k'.size,fun b hb _=>same b hb,fun i b hi=> ?_,fun i b _ hi=>by rw[p1 i (hs.pl_lt hi)];exact hi,fun b arr el fz hb=>⟨arr,fz,(same b (aP hb)).trans hb,rfl⟩⟩;by_cases hlt:i<h.length
  ·exact .inl ⟨i,by rw[<-p1 i hlt];exact hi⟩
  ·rw[show i=h.length+(i-h.length) by omega,p2]at hi;exact .inr (loc _ _ hi)
 have S:SExt h.length (cx (fun b=>ok b/\∀i,pl i≠some b) pl' w') (cx ok pl2 w'):=by
  refine⟨rfl,fun x hx=>⟨hx.1.1,fun i hi=> ?_⟩,fun i x hi=>by simp only[cx]at hi ⊢;rw[p2];exact hi⟩;by_cases hlt:i<h.length
  ·exact hx.1.2 i (by rw[<-p1 i hlt];exact hi)
  ·rw[show i=h.length+(i-h.length) by omega,p2]at hi;exact hx.2 _ hi
 have HS:HSim e ok pl2 (h++h'.map (O.sh h.length)) w':=by
  refine hs.next K (fun i b hi=> ?_) (fun i j b hi hj=> ?_) (fun i b hi=> ?_) (fun i o ho hi=> ?_)
  ·by_cases hlt:i<h.length
   ·have:=hs.lt i b (by rw[<-p1 i hlt];exact hi);have:=k'.size;omega
   ·rw[show i=h.length+(i-h.length) by omega,p2]at hi;exact hs'.lt _ _ hi
  ·by_cases hl1:i<h.length
   ·by_cases hl2:j<h.length
    ·exact hs.inj i j b (by rw[<-p1 i hl1];exact hi) (by rw[<-p1 j hl2];exact hj)
    ·exfalso;rw[show j=h.length+(j-h.length) by omega,p2]at hj;have h1:=loc _ _ hj;have h2:=hs.lt i b (by rw[<-p1 i hl1];exact hi);omega
   ·by_cases hl2:j<h.length
    ·exfalso;rw[show i=h.length+(i-h.length) by omega,p2]at hi;have h1:=loc _ _ hi;have h2:=hs.lt j b (by rw[<-p1 j hl2];exact hj);omega
    ·rw[show i=h.length+(i-h.length) by omega,p2]at hi;rw[show j=h.length+(j-h.length) by omega,p2]at hj;have:=hs'.inj _ _ b hi hj;omega
  ·by_cases hlt:i<h.length
   ·have hi':pl i=some b:=by rw[<-p1 i hlt];exact hi
    refine .inl ⟨hi',same b (hs.lt i b hi'),?_⟩;rw[zqj hlt];cases h[i]? <;>simp[iR]
   ·have hi':=hi;rw[show i=h.length+(i-h.length) by omega,p2]at hi';obtain⟨o,h1,h2⟩:=hs'.obj _ b hi';exact .inr ⟨o.sh h.length,by rw[zsb (by omega),zqo,h1];rfl,OAt.sh S h2⟩
  ·by_cases hlt:i<h.length
   ·rw[zqj hlt]at ho;exact hs.bare i o ho (by rw[<-p1 i hlt];exact hi)
   ·rw[zsb (by omega),zqo]at ho;rw[show i=h.length+(i-h.length) by omega,p2]at hi;cases ho':h'[i-h.length]? with
    |none=>rw[ho']at ho;cases ho
    |some o' =>
     rw[ho']at ho;cases ho;rcases hs'.bare _ o' ho' hi with rfl|rfl
     ·exact .inl rfl
     ·exact .inr rfl
 refine⟨fun _=>false,pl2,_,ae.sh h.length,HS,K,?_,hr ae h' p hq⟩;cases ae with
 |ret v =>
  cases en with
  |returned x=>exact VRel.sh S v x he
  |panicked ch=>exact he.elim
  |outgrown=>exact he.elim
 |pan v =>
  cases en with
  |returned x=>exact he.elim
  |panicked ch=>obtain⟨x,h1,h2⟩:=he;exact⟨x,h1,VRel.sh S v x h2⟩
  |outgrown=>exact he.elim
section
variable{e:E}{n:Nat}{r:Option Nat}{ops:Array Oper}{h:H}{Q:XE->Fr->H->Prop}{ok:Nat->Prop}{pl0:Nat->Option Nat}{w0:World}
def opE(e:E)(n:Nat)(r:Option Nat)(ops:Array Oper)(i:Nat)(Kn:Fr->H->Prop)(Q:XE->Fr->H->Prop)(f:Fr)(h:H):Prop :=
 ∃o,ops[i]? =some o/\o.guard=none/\iT n o.dst=true/\Eff e n r o f h Kn Q
theorem UL{i:Nat}{Kn:Fr->H->Prop}{f:Fr}{h:H}(hv:opE e n r ops i Kn Q f h){K':Act->World->Prop}
 (hk:∀f h pl w a,SSim e n ok pl0 w0 f h pl w a->Kn f h->K' a w) {pl:Nat->Option Nat} {w:World} {a:Act} (s:SSim e n ok pl0 w0 f h pl w a) :
 wpOpIn (RF r) 0 e.P ops (fU e n ok pl0 w0 Q) i K' a w:=by
 obtain⟨o,ho,hg,hd,he⟩:=hv;unfold wpOpIn;simp only[ho];have hgd:gd ops f o=some true:=by unfold gd;rw[hg]
 have hw:=mW s.val hgd;rw[if_pos hw];exact Oper.wpIn_mono (fun a' w' ⟨pl',f',h',s',hk'⟩=>hk _ _ _ _ _ s' hk') (he ok pl0 w0 pl w a s hd)
theorem OY(hna:∀(j:Nat)(o:Oper),ops[j]? =some o->dB o=false)(hB:IJ ops=true):∀(fuel:Nat)(listed:Array Bool)(f:Fr),
 ug e n ops h (ops.size-1) (fun f1=>opE e n r ops (ops.size-1) (fun f' h'=>Q .normal f' h') Q f1 h) fuel listed f ->
 uF ops listed->∀pl w a,SSim e n ok pl0 w0 f h pl w a->wpAnyIn (RF r) 0 e.P .any ops (fU e n ok pl0 w0 Q) (fuel+1) listed a w:=by
 have lastly:∀(fuel:Nat)(listed:Array Bool)(f:Fr),opE e n r ops (ops.size-1) (fun f' h'=>Q .normal f' h') Q f h->uF ops listed->ops.size-1∈Region.ready .any ops listed ->
  ∀pl w a,SSim e n ok pl0 w0 f h pl w a->wpOpIn (RF r) 0 e.P ops (fU e n ok pl0 w0 Q) (ops.size-1) (wpAnyIn (RF r) 0 e.P .any ops (fU e n ok pl0 w0 Q) fuel (listed.setIfInBounds (ops.size-1) true)) a w:=by
  intro fuel listed f hv hc hr pl w a k;exact UL hv (fun f' h' pl' w' a' s' hq=>wpAnyIn_done (BK hB hc hr) ⟨pl',f',h',.normal,s',trivial,hq⟩ fuel) k
 intro fuel
 induction fuel with
 |zero =>
  intro listed f hL hc pl w a k;refine⟨fun h0=>(by rw[hL.1]at h0;cases h0),fun i hi=> ?_⟩;have hil:i=ops.size-1:=by rw[hL.1]at hi;simpa using hi
  subst hil;exact lastly _ _ _ hL.2 hc hi pl w a k
 |succ fuel ih =>
  intro listed f hL hc pl w a k;refine⟨fun h0=>absurd h0 hL.1,fun i hi=> ?_⟩;by_cases hil:i=ops.size-1
  ·subst hil;exact lastly _ _ _ (hL.2.1 (Gm hB hc hi)) hc hi pl w a k
  ·have h1:=hL.2.2 i hi hil;obtain⟨hun,o,ho,_⟩:=mem_ready.1 hi;unfold uD at h1;rw[ho]at h1;obtain⟨v,hy,hn⟩:=h1;rcases hy with⟨h2,_⟩|⟨_,hd,g,v',hg,hv,rfl⟩
   ·rw[hna i o ho]at h2;cases h2
   ·unfold wpOpIn;rw[ho];dsimp only;have hw:=mW k.val hg;cases g with
    |true=>rw[if_pos hw];exact(hv rfl).wpIn k fun x w' hx hr=>ih _ _ hn (hc.set hi) pl w' _ ((k.next0 (k.hs.wext hx) (hx.keeps k.hs)).put hd hr)
    |false=>rw[if_neg (by rw[hw];simp)];exact⟨fun g _=>dZ r g,ih _ _ hn (hc.set hi) pl w _ (k.put hd (iI (fun hf=>by cases hf) (fun _=>rfl)))⟩
theorem Lh(hm:e.P.follows .mixedOrders=true){id:Nat}{f:Fr}(hB:(Gn ops&&ops.all fun o=> !dB o)=true)
 (hv:dw e n ops h (fun f1=>opE e n r ops (ops.size-1) (fun f' h'=>Q .normal f' h') Q f1 h) (ops.toList.take (ops.size-1)) f):awp e n r (.region id ops true) Q f h:=by
 intro ok pl0 w0 pl w a s;unfold Gn at hB;simp only[zqf,zqb]at hB;obtain⟨⟨⟨hpos,hB1⟩,hB2⟩,hB3⟩:=hB;have x:WExt w {w with drawn:=w.drawn+1}:=WExt.drew w;have hlen:(ops.toList.take (ops.size-1)).length=ops.size-1:=by rw[zrl];simp
 have hL:=su (e:=e) (n:=n) (h:=h) (last:=ops.size-1) (ops.toList.take (ops.size-1)) 0 (Array.replicate ops.size false) f KW (by rw[hlen];exact hB2) (dX _ _ hv);rw[hlen]at hL;have:=OY (r:=r) (ok:=ok) (pl0:=pl0) (w0:=w0) (fun j o ho=>by
  have h1:=Array.all_eq_true.1 hB3;obtain⟨hl,rfl⟩:=Array.getElem?_eq_some_iff.1 ho;simpa using h1 j hl) hB1 _ _ _ hL uF.none pl _ a (s.next0 (s.hs.wext x) (x.keeps s.hs))
 rw[show ops.size-1+1=ops.size by omega]at this;exact wpIn_region_any hm this
end
section
variable{e:E}{n:Nat}{r:Option Nat}{o:Oper}{f:Fr}{h:H}{Kn:Fr->H->Prop}{Q:XE->Fr->H->Prop}
theorem xZ{x lo:Operand}{t el m:Nat}{q re:TI}{qq:Option IntKind}(hop:o.op= .slice t x (some lo) none none)(hti:Abs.ti e.P t=some q)(hkind:q.kind= .arr m el qq)(hre:Abs.ti e.P el=some re)
 (hc:(f.ev e x).sc) {id off:Nat} (hx:(f.ev e x).sv= .lp id off) {cs:List V} (hid:h[id]? =some (.cells cs)) (hl:off+m*re.size<=cs.length) (hm:m<=maxLen) (h1:re.size=1)
 {a:Nat} (hhc:(f.ev e lo).sc) (hhv:(f.ev e lo).sv= .int .i64 a) (hab:a<m)
 (hk:Kn (f.put o.dst (.ls id 1 (off+a) (m-a) (m-a))) h):Eff e n r o f h Kn Q:=by
 refine jc (v:= .ls id 1 (off+a) (m-a) (m-a)) (fO fun ok pl w ev hs hr=> ?_) hk;obtain⟨i,d,z,hT⟩:=aJ hti;obtain⟨i',d',z',hT'⟩:=aJ hre;have hd:=hT.arr hkind;subst hd;have h1':=(hr x (by simp[hop,Op.operands])).sv hc;rw[hx]at h1';simp only[VRel]at h1';obtain⟨bb,hb,hev⟩:=h1';have h2:=(hr lo (by simp[hop,Op.operands])).sv hhc;rw[hhv]at h2;simp only[VRel]at h2;obtain⟨o',ho',hat⟩:=hs.obj id bb hb;rw[hid]at ho';cases ho';obtain⟨arr,el',fz,hw,_,hsz,_⟩:=hat;refine⟨.slice (some ⟨bb,off+a,none⟩) (m-a) (m-a),?_,?_⟩
 ·have hex:execOp ev o=(do pure (Next.value (<-Instr.sliceAt t (ev x) (some (ev lo)) none none))):=by simp[execOp,hop]
  rw[hex,hev,h2];refine fP ?_;have hbd:(Instr.sliceBounds false m m (some (.int .i64 (a:Int))) none none).run e.P w= .ok (a,m,m) w:=by
   have:=gK (P:=e.P) (w:=w) false m m .i64 none none none (some (.int .i64 (a:Int))) none none a m m (.inr ⟨_,rfl⟩) (.inl ⟨rfl,rfl,rfl⟩) (.inl ⟨rfl,rfl⟩) (by omega) (by omega) (Int.le_refl _) (Int.le_refl _);simpa using this
  have hsz':=hT'.run_size (w:=w);rw[h1]at hsz';simp[Instr.sliceAt,hT.run_und,Result.andThen,Instr.sureAddr,hbd,hsz',dC];omega
 ·simp only[VRel];refine⟨_,m-a,rfl,zrb _,zrb _,by omega,.inr ⟨bb,arr,el',fz,hb,rfl,hw,?_⟩⟩;rw[h1]at hl;omega
end
def UM(e:E)(id:Nat)(vs:List V)(h:H)(S:H->(Nat->Bool)->Prop)(SP:V->H->(Nat->Bool)->Prop):Prop :=
 ∃t n' ps asg body,h[id]? =some (.loop t n' ps asg body .ready none)/\vs.length=ps.size/\(ps.toList.all fun p=>decide (p<n'))=true /\
  ∀l,awp e n' (some l) asg (fun xe f1 h1=>xe= .normal/\f1.k id=false/\∃t,h1[id]? =some (.loop t n' ps asg body .ready none) /\
   Q5 e n' (some l) body (fun xe f2 h2 => xe = .normal /\ f2.k id = false /\ ∃ t st,h2[id]? = some (.loop t n' ps asg body st none) /\ S (h2.set id (.loop t n' ps asg body .ready none)) f2.k)
    (fun v f2 h2=>f2.d=[]/\SP v h2 f2.k) f1 (h1.set id (.loop t n' ps asg body .busy none)))
   (fZ {t:=t} ps.toList vs) h
section
variable{e:E}{n:Nat}{r:Option Nat}{f:Fr}{h:H}{Q:XE->Fr->H->Prop}
theorem Lj(htl:e.tl=[]){o:Oper}{Kn:Fr->H->Prop}{fx:Operand}{args:Array Operand}{ts:Array TypeId}(hop:o.op= .call {callee:= .value fx,args:=args,argTypes:=ts}){id:Nat}(hfx:(f.ev e fx).sv= .yd id)
 (hsc:dE (f.ev e) fx args) {S:H->(Nat->Bool)->Prop} {SP:V->H->(Nat->Bool)->Prop} (hg:UM e id (args.toList.map fun x=>(f.ev e x).sv) h S SP)
 (hk:∀h' p,p id=false->S h' p->(∀i∈f.d,p i=false)/\Kn ((f.drop p).put o.dst (.bool true)) h')
 (hp:∀v h' p,SP v h' p->(∀i∈f.d,p i=false)/\Q (.pan v) (f.drop p) h'):Eff e n r o f h Kn Q:=by
 obtain⟨t,n',ps,asg,body,hc,hl,hps,hw⟩:=hg;refine IE htl hop hfx hsc hc (by simpa using hl) hps fun l=> ?_;refine bi ?_ (hw l);rintro xe f1 h1 ⟨rfl,k1,t1,hc1,hb⟩;refine⟨rfl,k1,t1,hc1,KQ ?_ ?_ hb⟩
 ·rintro xe f2 h2 ⟨rfl,k2,t2,st,hc2,hs⟩;obtain⟨a,b⟩:=hk _ _ k2 hs;exact⟨rfl,⟨k2,a⟩,t2,st,hc2,b⟩
 ·rintro v f2 h2 ⟨hd,hs⟩;obtain⟨a,b⟩:=hp _ _ _ hs;exact⟨hd,a,b⟩
end
section
variable{e:E}{n:Nat}{r:Option Nat}{ops:Array Oper}{Q:XE->Fr->H->Prop}
theorem ui(ops:Array Oper)(a:Nat):∀k:Nat,zO ops (List.range' a k)=(ops.toList.drop a).take k
 |0=>rfl
 |k+1=>by
  have ih:=ui ops a k;unfold zO at ih ⊢;rw[List.range'_1_concat,List.filterMap_append,ih,zrg]
  congr 1
  rw[List.filterMap_cons,List.filterMap_nil,List.getElem?_drop,Array.getElem?_toList];cases ops[a+k]? <;>rfl
theorem Ll(hm:e.P.follows .mixedOrders=true){id:Nat}{f:Fr}{h:H}(tk:List Nat)(a k last:Nat)(p:Plan)(R:Fr->H->Prop)(hB:sH e.P ops tk (List.range' a k) last p=true)
 (hv:∀K:Fr->H->Prop,(∀f1 h1,iq e n ops (rU R) p f1 h1->K f1 h1)->sG e n ops (rU R) (fun f h=>fG e n ops h (fun f1=>K f1 h) ((ops.toList.drop a).take k) f) tk f h) (hk:∀f h,R f h->Q .normal f h):awp e n r (.region id ops true) Q f h:=by
 intro ok pl0 w0 pl w ac s;unfold sH at hB;simp only[zqf,Bool.not_eq_true',zqb]at hB;obtain⟨⟨⟨⟨⟨⟨⟨b1,b2⟩,b3⟩,b4⟩,b5⟩,b6⟩,b7⟩,b8⟩:=hB;have hna:∀(j:Nat)(o:Oper),ops[j]? =some o->dB o=false:=fun j o ho=>by
  have h1:=Array.all_eq_true.1 b1;obtain⟨hl,rfl⟩:=Array.getElem?_eq_some_iff.1 ho;simpa using h1 j hl
 have hl:last∉tk/\last∉List.range' a k:=⟨by simpa using b6.1,fun hh=>by
  have:=b6.2;rw[List.contains_iff_mem.2 hh]at this;cases this⟩
 have x:WExt w {w with drawn:=w.drawn+1}:=WExt.drew w;obtain⟨c1,c2,c3,c4⟩:=wG (ops:=ops) (tk:=tk) tk (Array.replicate ops.size false) b3 uF.none (by simp) (fun i hi hni=>absurd hi hni) (fun i hi=>by
  rcases Nat.lt_or_ge i ops.size with h'|h'<;>simp[h']) (fun i hi=>hi)
 have li:LI ops tk (List.range' a k) last (nK (Array.replicate ops.size false) tk):=⟨c1,c2,c3,fun i h1 _=>c4 i h1⟩;have hQ:∀v f h,¬rU R (.pan v) f h:=fun v f h hh=>hh;have hal:∀o∈(ops.toList.drop a).take k,dB o=false:=fun o ho=>by obtain⟨i,hi,rfl⟩:=List.getElem_of_mem (List.mem_of_mem_drop (zsh ho));exact hna i _ (by simp at hi;simp[hi])
 have:=zT (r:=r) (ok:=ok) (pl0:=pl0) (w0:=w0) (n:=n) (e:=e) (Q:=rU R) (fuel:=ops.size-tk.length-(List.range' a k).length+(List.range' a k).length) hQ b2 tk (Array.replicate ops.size false) f h b3 (hv (fun f1 h1=>iq e n ops (rU R) p f1 h1) fun _ _ h=>h) (fun f h pl w a1 hK s=>by
  have hL:=pX (e:=e) (n:=n) (h:=h) (List.range' a k) (nK (Array.replicate ops.size false) tk) f b4 (dX _ _ (by rw[ui];exact pY _ _ hal hK));exact Q7 (r:=r) hna hQ b2 b5 hl b7 _ _ _ hL li pl w a1 s) pl _ ac (s.next0 (s.hs.wext x) (x.keeps s.hs))
 rw [show ops.size - tk.length - (List.range' a k).length + (List.range' a k).length + tk.length = ops.size by omega] at this;refine wpIn_mono (wpIn_region_any hm this) ?_;rintro ex a' w' ⟨pl',f',h',xe,s',hx,hq⟩;cases xe <;> first
  |exact⟨pl',f',h',_,s',hx,hk _ _ hq⟩
  |exact hq.elim
end
section
variable{e:E}{n:Nat}
theorem EK{fn:Func}{ok:Nat->Prop}{pl0:Nat->Option Nat}{w0:World}{n:Nat}{f:Fr}{R':Ending->World->Prop}{u:FrameMode}(hu:u≠ .run){a:Act}{v:V}{x:Value}:∀(is:List Nat)(ds:List Deferred)(h h':H)(pl:Nat->Option Nat)(w:World),
 SSim e n ok pl0 w0 {f with d:=is} h pl w {a with defers:=ds}->VRel (cx ok pl w) v x->fH is h=some h' ->
 (∀w',SSim e n ok pl0 w0 {f with d:=[]} h' pl w' {a with defers:=e.tl}->VRel (cx ok pl w') v x->LeavesInM (RF none) 0 e.P fn a.tmps R' e.tl u w')->LeavesInM (RF none) 0 e.P fn a.tmps R' ds u w
 |[],ds,h,h',pl,w,s,hx,hsh,hk=>by have hd:ds=e.tl:=s.dfr;subst hd;simp only[fH,Option.some.injEq]at hsh;subst hsh;exact hk w s hx
 |i::is,ds,h,h',pl,w,s,hx,hsh,hk=>by
  obtain⟨b,rest,h1,h2,h3⟩:=s.dfr;have h1:ds=_:=h1;subst h1;have h2:pl i=some b:=h2;simp only[fH]at hsh;split at hsh
  ·rename_i hc;obtain ⟨o,ho,hat⟩ := s.hs.obj i b h2;rw [hc] at ho;cases ho;have hheap : w.heap[b]? = some (.deferred (some [])) := hat;have hlt := s.hs.lt i b h2;obtain ⟨hs2,k2⟩ := s.hs.upd (w' := w.putObj b (.deferred none)) h2 (.misc .shut) rfl rfl rfl (by simp) (fun j hj => World.putObj_heap_other hj)
    (fun arr el fz hh=>by rw[hheap]at hh;cases hh) (fun k=>World.putObj_heap_same hlt)
   refine⟨hu,.inl ⟨b,_,rfl,run_takeDeferred hheap,?_⟩⟩;have s2:=s.next0 hs2 k2;have h4:AO (cx ok pl (w.putObj b (.deferred none))) e.tl is rest:=AO.mono (c:=cx ok pl w) (c':=cx ok pl (w.putObj b (.deferred none))) (fun _ _ hi=>hi) h3;exact EK hu is rest _ h' pl _ ⟨s2.hs,s2.kp,s2.size,s2.val,h4⟩ (VRel.mono k2.cext _ _ hx) hsh hk
  ·cases hsh
theorem EL(htl:e.tl=[]){fn:Func}{R:AEnd->H->(Nat->Bool)->Prop}{ok:Nat->Prop}{pl0:Nat->Option Nat}{w0:World}{f F1:Fr}{h:H}{id:Nat}{mk df:Oper}{rest:Code}{q:FuncId}{caps:List V}{fx:Operand}
 (hmg:mk.guard=none) (hmd:iT fn.ntmps mk.dst=true) (hmp:(rF e.P mk (f.ev e) h).1) (hmf:f.put mk.dst (rF e.P mk (f.ev e) h).2=F1)
 (hdg:df.guard=none) (hdd:df.dst=none) (hdop:df.op= .defer {callee:= .value fx,args:=#[],argTypes:=#[]}) (hfx:(F1.ev e fx).sv= .fn (.func q) [] caps) (hsc:(F1.ev e fx).sc) (hen:ai e.P q=true) (hfd:f.d=[])
 (hrest:∀d,awp {e with tl:=[d]} fn.ntmps none rest (fun xe f' h'=>∃h2,fH f'.d h'=some h2/\V.drops f'.k caps=caps/\match xe with
  | .pan v=>jI e q caps v h2 (fun h'' p=>lZ e.P fn.results.toList (fun v h k=>R (.ret v) h (fun i=>f.k i||k i)) ({f' with d:=[]}.drop p) h'')
  | .ret=>iV e q caps h2 (fun h'' p=>lZ e.P fn.results.toList (fun v h k=>R (.ret v) h (fun i=>f.k i||k i)) ({f' with d:=[]}.drop p) h'')
  |_=>False) {F1 with k:=fun _=>false} h) :
 UF e fn.ntmps (bodyPostM (RF none) 0 e.P fn (OV e ok pl0 w0 R)) ok pl0 w0 (.seq (.region id [mk,df].toArray false) rest) f h:=by
 intro pl w a s;refine wpIn_seq (wpIn_region_lit ?_);have hgd:gd [mk,df].toArray f mk=some true:=by unfold gd;rw[hmg]
 unfold wpListIn;rw[if_pos (mW s.val hgd)];refine⟨fun g _=>dZ none g,?_⟩;have hq:=lX (e:=e) hmp ok pl w a.eval s.hs s.evs;have hnd:mk.semAt (RF none).round a.eval=execOp a.eval mk:=by rw[bH,Oper.semAt_none]
 rw[hnd];have hF1d:F1.d=[]:=by
  rw[<-hmf];cases mk.dst with
  |none=>exact hfd
  |some i=>exact hfd
 have fin:∀x w1,WExt w w1/\VRel (cx ok pl w1) (rF e.P mk (f.ev e) h).2 x->wpListIn (RF none) 0 e.P [mk,df].toArray (Exit.then (rest.wpIn (RF none) 0 e.P (bodyPostM (RF none) 0 e.P fn (OV e ok pl0 w0 R))) (bodyPostM (RF none) 0 e.P fn (OV e ok pl0 w0 R))) [df] (a.put mk.dst x) w1:=by
  rintro x w1 ⟨hx,hv⟩;have kx:=hx.keeps s.hs;have s1:=(s.next0 (s.hs.wext hx) kx).put hmd hv;rw[hmf]at s1;generalize ha1:a.put mk.dst x=a1 at s1 ⊢;have hgd1:gd [mk,df].toArray F1 df=some true:=by unfold gd;rw[hdg]
  unfold wpListIn;rw[if_pos (mW s1.val hgd1)];refine⟨fun g _=>dZ none g,?_⟩;have h1:=(s1.ev fx).sv hsc;rw[hfx]at h1;simp only[VRel]at h1;obtain⟨fs,cs,h2,h3,h4⟩:=h1;have hfs:fs=#[]:=by
   simp only[VList]at h3;exact Array.toList_eq_nil_iff.1 h3
  subst hfs;obtain⟨d,ed⟩:∃d:Deferred,d={target:= .fn (.func q) cs,args:=#[]}:=⟨_,rfl⟩;have hrun:(execOp a1.eval df).run e.P w1= .ok (.defer d) w1:=by
   rw[ed];simp[execOp,hdop,resolve,h2,Deferred.ofValue,Result.andThen]
  rw[bH,Oper.semAt_none,hrun,Oper.uponIn_defer,hdd];have hdf1:a1.defers=[]:=by
   have:=s1.dfr;rw[hF1d]at this;exact Eq.trans this htl
  have s2:SSim {e with tl:=[d]} fn.ntmps ok pl w1 {F1 with k:=fun _=>false} h pl w1 {a1 with defers:=d::a1.defers} :=
   ⟨s1.hs.tl _,Keeps.refl pl w1,s1.size,s1.val,by
    show AO _ [d] F1.d (d::a1.defers);rw[hF1d,hdf1];rfl⟩
  show rest.wpIn (RF none) 0 e.P _ {a1 with defers:=d::a1.defers} w1;refine wpIn_mono (hrest d ok pl w1 pl w1 _ s2) ?_;rintro ex a3 w3 ⟨pl3,f3,h3',xe,s3,hx3,h2',hsh,hcap,hcD⟩;have hinv:∀w5,(invoke d.target d.args).run e.P w5= .ok (.enter q cs) w5:=fun w5=>by
   rw[ed];simp only[invoke];rw[kW hen]
   congr 2
   simp
  have hcs:∀ {w5:World},SSim {e with tl:=[d]} fn.ntmps ok pl w1 {f3 with d:=[]} h2' pl3 w5 {a3 with defers:=[d]}->VList (cx ok pl3 w5) caps cs.toList:=fun {w5} s5=>by
   have:=VList.mdrop s5.kp.cext _ _ h4
   rwa [show V.drops ({f3 with d:=[]}:Fr).k caps=caps from hcap]at this
  have fin2:∀ {w5:World} {p:Nat->Bool} {pl4:Nat->Option Nat} {h4':H} {w4:World},SSim {e with tl:=[d]} fn.ntmps ok pl w1 {f3 with d:=[]} h2' pl3 w5 {a3 with defers:=[d]}->HSim e ok pl4 h4' w4->Keeps p pl3 w5 pl4 w4->lZ e.P fn.results.toList (fun v h k=>R (.ret v) h (fun i=>f.k i||k i)) ({f3 with d:=[]}.drop p) h4'->LeavesInM (RF none) 0 e.P fn a3.tmps (OV e ok pl0 w0 R) [] .returning w4:=by
   intro w5 p pl4 h4' w4 s5 hs4 k4 hK;have s4:=s5.next (hs4.tl _) k4 (p:=p) (by intro i hi;cases hi)
   unfold lZ at hK;rw[show(({f3 with d:=[]}:Fr).drop p).d=[]from rfl]at hK;simp only[fH]at hK;obtain⟨u,hu1,hu2⟩:=Bo (f:=({f3 with d:=[]}:Fr).drop p) (e:=e) hs4 s4.val hK.1;have kk:=((s.kp.trans kx).trans s5.kp).trans k4;exact⟨u,hu1,_,pl4,h4',.ret _,hs4,kk.weaken (q:=fun i=>f.k i||(({f3 with d:=[]}:Fr).drop p).k i) (fun i hi=>by
    simp only[Fr.drop,Bool.or_eq_true,Bool.or_false,zrm,or_false]at hi ⊢;rcases hi with(hi|hi)|hi
    ·exact .inl hi
    ·exact .inr (.inl hi)
    ·exact .inr (.inr hi)),hu2,hK.2⟩
  cases xe<;>cases ex<;>(try exact hx3.elim)<;>(try exact hcD.elim)
  case ret.ret =>
   show LeavesInM (RF none) 0 e.P fn a3.tmps _ a3.defers .returning w3;refine EK (e:={e with tl:=[d]}) (f:=f3) (a:=a3) (v:= .any) (x:=undef) (by simp) f3.d a3.defers h3' h2' pl3 w3 s3 (by simp only[VRel]) hsh fun w5 s5 _=> ?_;refine⟨by simp,.inr ⟨(fun hh=>by rw[fK]at hh;cases hh),Fn.func q,cs,q,cs,(by rw[ed]),hinv w5,(fun g _=>dZ none g),?_⟩⟩;refine CallsDIn.mono (hcD ok pl3 w5 cs.toList s5.hs.untl (hcs s5)) ?_;rintro en u' w4 ⟨⟨z,rfl⟩,rfl,p,pl4,h4',hs4,k4,hK⟩;exact fin2 s5 hs4 k4 hK
  case pan.panic =>
   obtain⟨y,rfl,hy⟩:=hx3;show LeavesInM (RF none) 0 e.P fn a3.tmps _ a3.defers (.panicking _) w3;refine EK (e:={e with tl:=[d]}) (f:=f3) (a:=a3) (x:=y) (by simp) f3.d a3.defers h3' h2' pl3 w3 s3 hy hsh fun w5 s5 hy5=> ?_;refine⟨by simp,.inr ⟨(fun hh=>by rw[fK]at hh;cases hh),Fn.func q,cs,q,cs,(by rw[ed]),hinv w5,(fun g _=>dZ none g),?_⟩⟩;refine CallsDIn.mono (hcD ok pl3 w5 cs.toList y s5.hs.untl (hcs s5) hy5) ?_;rintro en u' w4 ⟨⟨z,rfl⟩,rfl,p,pl4,h4',hs4,k4,hK⟩;exact fin2 s5 hs4 k4 hK
 revert hq
 cases hrun:(execOp a.eval mk).run e.P w with
 |halt x w'=>intro hq;exact hq.elim
 |ok nx w' =>
  intro hq;cases nx<;>try exact hq.elim
  case value x=>exact fin x w' hq
  case skip=>exact fin undef w' hq
  case enter g args =>
   refine⟨fun hh=>(by rw[fK]at hh;cases hh),bJ (Calls.mono hq ?_)⟩;rintro en w'' ⟨x,rfl,hx⟩;exact fin x w'' hx
end
end Go.Abs
