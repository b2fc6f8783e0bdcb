/- Lemmas for this claim, part A5: each holds under what it names. -/
import Derived.Test.YthaijohbpdabfaaGreatDoorRA4
import Derived.Laws.MakeOwn
import Derived.Laws.IdiomRangeMap
import Derived.Still
import Derived.Sort.LoopGhostIn
set_option linter.all false
namespace Go.Abs
open Go.RowKit
open List renaming length → aa, replicate → ao
open Bool renaming true → ab, false → ac
open Option renaming some → al, none → aq
open Decidable renaming decide → ar
open Go.IntKind renaming wrap → aD
open Go.Result renaming andThen → aM
open Go.Abs.V renaming drops → ap, dat → aE, dats → aL
def vcB(b:Bool)(X Y:Fr->H->Prop)(f:Fr)(h:H):Prop:=(b=ab->X f h)/\(b=ac->Y f h)
theorem TG(X Y:Fr->H->Prop)(f:Fr)(h:H):vcB ab X Y f h=X f h:=by simp[vcB]
theorem OB(X Y:Fr->H->Prop)(f:Fr)(h:H):vcB ac X Y f h=Y f h:=by simp[vcB]
theorem vcB.mk{b:Bool}{X Y:Fr->H->Prop}{f:Fr}{h:H}(h1:b=ab->X f h)(h2:b=ac->Y f h):vcB b X Y f h:=⟨h1,h2⟩
def fO(dst:Option Tmp)(Kn:Fr->H->Prop)(Q:XE->Fr->H->Prop)(f:Fr)(ae:AEnd)(h':H)(p:Nat->Bool):Prop :=
 (∀i∈f.d,p i=ac)/\match ae with
  | .ret v=>Kn ((f.drop p).put dst v) h'
  | .pan v=>Q (.pan v) (f.drop p) h'
def YI(c:Prop)(dst:Option Tmp)(x:Bool)(Kn:Fr->H->Prop)(f:Fr)(h:H):Prop:=∀b:Bool,(b=ab->c)->Kn (f.put dst (.bool (b==x))) h
def VT(e:E)(n' id:Nat)(t:Nat->V)(ps:Array Tmp)(asg body:Code)(dst:Option Tmp)(Kn:Fr->H->Prop)(f:Fr)(vs:List V)(h:H):Prop :=
 ∀l,awp e n' (al l) asg (XE.seq (JH e n' l id body dst Kn f) (λ_ _ _=>False)) (kJ {t:=t} ps.toList vs) h
def JI(e:E)(n:Nat)(dst:Option Tmp)(fx:Operand)(args:Array Operand)(f:Fr)(h:H)(Kn:Fr->H->Prop)(Q:XE->Fr->H->Prop):Prop :=
 match ni e (f.ev e) fx args with
 |some (g,vs)=>dX (f.ev e) fx args/\ah e.P g=ab/\ag e g vs h (fO dst Kn Q f)
 |none=>match (f.ev e fx).sv with
  | .yd id=>match h[id]? with
   |some (.loop t n' ps asg body .ready pend)=>(dX (f.ev e) fx args/\args.size=ps.size/\(ps.toList.all λp=>ar (p<n'))=ab/\e.tl=[])/\VT e n' id t ps asg body dst Kn f (args.toList.map λx=>(f.ev e x).sv) h
   |_=>False
  |_=>False
def xY(e:E)(dst:Option Tmp)(x y:Operand)(t xt:TypeId)(f:Fr)(h:H)(Kn:Fr->H->Prop):Prop :=
 match ti e.P t with
 |some q=>match q.kind with
  | .slice el=>match ti e.P el with
   |some re=>(re.zero.fit=ab/\aa re.zero.vc=re.size/\0<re.size/\(f.ev e x).sc/\(f.ev e y).sc/\Dc e.P xt el (f.ev e y).sv=ab/\oP re.size (f.ev e y).sv=ab) /\
    match jS h re.size (f.ev e y).sv with
    |some (m,cs)=>match (f.ev e x).sv with
     | .ls id k off len cap=>match ar (len<cap)with
      |false=>match h[id]? with
       |some (.cells cs0)=>(k=re.size/\off=0/\aa cs0=len*re.size/\dB cs=ab/\len+m<=maxLen/\(len+m)*re.bytes<=140737488355328/\(∀i∈f.d,(i==id)=ac)) /\
        Kn ((f.drop (·==id)).put dst (.ls id re.size 0 (len+m) (len+m))) ((h.map (O.drop (·==id))).set id (.cells (ap (·==id) (cs0++cs))))
       |_=>False
      |true=>match h[id]? with
       |some (.cells cs0)=>(k=re.size/\dB cs=ab/\len+m<=cap/\0<cap/\off+len*re.size+aa cs<=aa cs0) /\
        Kn (f.put dst (.ls id re.size off (len+m) cap)) (h.set id (.cells (di cs0 (off+len*re.size) cs)))
       |_=>False
     |xv=>match jS h re.size xv with
      |some (n0,cs0)=>(yJ xv=ab/\oP re.size xv=ab/\(n0=0\/0<m)/\n0+m<=maxLen/\(n0+m)*re.bytes<=140737488355328) /\
       Kn (f.put dst (.ls (aa h) re.size 0 (n0+m) (n0+m))) (h++[.cells (cs0++cs)])
      |none=>False
    |none=>False
   |none=>False
  |_=>False
 |none=>False
def OC(e:E)(op:BinOp)(dst:Option Tmp)(t:TypeId)(x:Operand)(f:Fr)(h:H)(Kn:Fr->H->Prop):Prop :=
 match ti e.P t with
 |some q=>match q.kind with
  | .slice _=>(f.ev e x).sc/\match (f.ev e x).sv with
   | .nils=>Kn (f.put dst (.bool (op== .eql))) h
   | .is _ _ es=>YI (es=[]) dst (op== .eql) Kn f h
   | .ls _ _ _ len _=>YI (len=0) dst (op== .eql) Kn f h
   |_=>False
  |_=>False
 |none=>False
def EQ(l:List UInt8)(pos:Nat):Nat×Nat:=Utf8.decode ⟨l.toArray⟩ pos
def ny(b:Bool)(l:List UInt8)(pos id:Nat)(dst:Option Tmp)(Kn:Fr->H->Prop)(f:Fr)(h:H):Prop :=
 match b with
 |true=>Kn (f.put dst (.tup [.bool ab,.int .i64 pos,.int .i32 (EQ l pos).1])) (h.set id (.misc (.siter l (pos+(EQ l pos).2))))
 |false=>Kn (f.put dst (.tup [.bool ac])) h
def OD(ks vs:List V)(id:Nat)(dst:Option Tmp)(Kn:Fr->H->Prop)(f:Fr)(h:H):Prop :=
 (ks=[]->Kn (f.put dst (.tup [.bool ac])) h) /\
 ∀i,i<aa ks->Kn (f.put dst (.tup [.bool ab,ks.getD i .any,vs.getD i .any])) (h.set id (.misc (.miter (ks.eraseIdx i) (vs.eraseIdx i) (al (ks.getD i .any,vs.getD i .any)))))
def ER(e:E)(n:Nat)(o:Oper)(f:Fr)(h:H)(Kn:Fr->H->Prop)(Q:XE->Fr->H->Prop):Prop :=
 match o.op with
 | .alloc t=>match ti e.P t with
  |some q=>q.zero.fit=ab/\Kn (f.put o.dst (.lp (aa h) 0)) (h++[.cells q.zero.vc])
  |none=>False
 | .box t x=>((f.ev e x).sc/\(f.ev e x).sv.fit=ab)/\Kn (f.put o.dst (.lp (aa h) 0)) (h++[.cells (f.ev e x).sv.vc])
 | .store t x y=>match (f.ev e x).sv,ti e.P t with
  | .lp id off,al q=>match h[id]? with
   |some (.cells cs)=>((f.ev e x).sc/\(f.ev e y).sc/\(f.ev e y).sv.fit=ab/\dB (f.ev e y).sv.vc=ab/\(f.ev e y).sv.vc.length=q.size/\off+(f.ev e y).sv.vc.length<=aa cs) /\
    Kn (f.put o.dst jR) (h.set id (.cells (di cs off (f.ev e y).sv.vc)))
   |_=>False
  |_,_=>False
 | .range t x=>match ti e.P t,(f.ev e x).sv with
  |some q,.str l=>(q.kind= .str/\(f.ev e x).sc)/\Kn (f.put o.dst (.lp (aa h) 0)) (h++[.misc (.siter l 0)])
  |some q,.im ks vs=>(q.kind.isMap=ab/\(f.ev e x).sc)/\Kn (f.put o.dst (.lp (aa h) 0)) (h++[.misc (.miter ks vs aq)])
  |_,_=>False
 | .next x ac=>match (f.ev e x).sv with
  | .lp id 0=>match h[id]? with
   |some (.misc (.miter ks vs _))=>(f.ev e x).sc/\OD ks vs id o.dst Kn f h
   |_=>False
  |_=>False
 | .entry x=>match (f.ev e x).sv with
  | .lp id 0=>match h[id]? with
   |some (.misc (.miter _ _ (al (k,v))))=>(f.ev e x).sc/\Kn (f.put o.dst (.tup [k,v])) h
   |_=>False
  |_=>False
 | .makeSlice t l c=>match ti e.P t,(f.ev e l).sv,(f.ev e c).sv with
  |some q,.int _ m,.int _ m'=>match q.kind with
   | .slice el=>match ti e.P el with
    |some re=>(re.zero.fit=ab/\aa re.zero.vc=1/\re.size=1/\(f.ev e l).sc/\(f.ev e c).sc/\m=m'/\0<=m/\m<=1000000/\re.bytes<=1000) /\
     Kn (f.put o.dst (.ls (aa h) 1 0 m.toNat m.toNat)) (h++[.cells (ao m.toNat (re.zero.vc.getD 0 .any))])
    |none=>False
   |_=>False
  |_,_,_=>False
 | .next x ab=>match (f.ev e x).sv with
  | .lp id 0=>match h[id]? with
   |some (.misc (.siter l pos))=>(f.ev e x).sc/\ny (ar (pos<aa l)) l pos id o.dst Kn f h
   |_=>False
  |_=>False
 | .makeMap _ aq=>Kn (f.put o.dst (.lm (aa h))) (h++[.map [] []])
 | .mapUpdate t m k x=>match (f.ev e m).sv,ti e.P t with
  | .lm id,al q=>match q.kind,h[id]? with
   | .map kt et,al (.map ks vs)=>match ti e.P kt with
    |some rk=>match Ov rk.kind (f.ev e k).sv (f.ev e x).sv ks vs with
     |some (ks',vs')=>((f.ev e m).sc/\(f.ev e k).sc/\(f.ev e x).sc/\rk.kind.keyOk (f.ev e k).sv=ab)/\Kn (f.put o.dst jR) (h.set id (.map ks' vs'))
     |none=>False
    |none=>False
   |_,_=>False
  |_,_=>False
 | .call c=>match c.callee,c.args.toList,c.argTypes.toList with
  | .value fx,_,_=>JI e n o.dst fx c.args f h Kn Q
  | .builtin .append,[x,y],t::xt::_=>xY e o.dst x y t xt f h Kn
  | .invoke _ _,_,_=>∀r,Eff e n r o f h Kn Q
  |_,_,_=>False
 | .panic x=>match (f.ev e x).sv with
  | .iface t v=>(f.ev e x).sc/\Q (.pan (.iface t v)) f h
  |_=>False
 | .binOp .eql t x (.const (.slice aq 0 0)) _=>OC e .eql o.dst t x f h Kn
 | .binOp .neq t x (.const (.slice aq 0 0)) _=>OC e .neq o.dst t x f h Kn
 |_=>False
def kL:Op->Bool
 | .panic _ | .range _ _ | .next _ _ | .alloc _ | .box _ _ | .store _ _ _ | .makeMap _ _ | .mapUpdate _ _ _ _ | .entry _ | .makeSlice _ _ _=>ab
 | .binOp .eql _ _ (.const (.slice aq 0 0)) _ | .binOp .neq _ _ (.const (.slice aq 0 0)) _=>ab
 | .call c=>match c.callee with
  | .builtin .append=>ab
  | .builtin _=>ac
  |_=>ab
 |_=>ac
section
variable{e:E}{n:Nat}{r:Option Nat}{o:Oper}{f:Fr}{h:H}{Kn:Fr->H->Prop}{Q:XE->Fr->H->Prop}
theorem Iu{x y:Operand}{t xt:TypeId}{ts:Array TypeId}(hop:o.op= .call {callee:= .builtin .append,args:=#[x,y],argTypes:=ts})(h0:ts[0]? =al t)(h1:ts[1]? =al xt)
 (hv:xY e o.dst x y t xt f h Kn):Eff e n r o f h Kn Q:=by
 unfold xY at hv;split at hv
 ·rename_i q hq;split at hv
  ·rename_i el hk;split at hv
   ·rename_i re hre;obtain⟨⟨z1,z2,z3,c1,c2,c3,c4⟩,hv⟩:=hv;have ha:IsAppend e o x y t xt el q re:=⟨⟨ts,hop,h0,h1⟩,hq,hk,hre,z1,z2,z3⟩;split at hv
    ·rename_i m cs hcs;split at hv
     ·rename_i id k off len cap hx;split at hv
      ·split at hv
       ·rename_i cs0 hc0;obtain⟨⟨rfl,rfl,d3,d4,d5,d6,d7⟩,hk'⟩:=hv;exact yK ha c1 c2 hx hc0 d3 c3 hcs c4 d4 d5 d6 d7 hk'
       ·exact hv.elim
      ·split at hv
       ·rename_i cs0 hc0;obtain⟨⟨rfl,d4,d5,d6,d7⟩,hk'⟩:=hv;exact yL ha c1 c2 hx hc0 c3 hcs c4 d4 d5 d6 d7 hk'
       ·exact hv.elim
     ·split at hv
      ·rename_i n0 cs0 hx;obtain⟨⟨d1,d2,d3,d4,d5⟩,hk'⟩:=hv;exact xG ha c1 c2 d1 c3 hx d2 hcs c4 d3 d4 d5 hk'
      ·exact hv.elim
    ·exact hv.elim
   ·exact hv.elim
  ·exact hv.elim
 ·exact hv.elim
theorem OE{t:TypeId}{x:Operand}(hop:o.op= .range t x){q:TI}(hq:ti e.P t=al q)(hk0:q.kind= .str)(hsc:(f.ev e x).sc){l:List UInt8}(hx:(f.ev e x).sv= .str l)
 (hk:Kn (f.put o.dst (.lp (aa h) 0)) (h++[.misc (.siter l 0)])):Eff e n r o f h Kn Q:=by
 refine aV ?_ (λc=>by rw[hop];exact λh=>by cases h);intro ok pl w ev hs hr;obtain⟨i,d,z,hT⟩:=aG hq;have h1:=(hr x (by simp[hop,Op.operands])).sv hsc;rw[hx]at h1;simp only[VRel]at h1;obtain⟨s,hs1,hs2,hs3⟩:=h1;have hb:(w.alloc (.stringIter s 0)).heap[w.heap.size]? =al (.stringIter s 0):=World.alloc_heap_new w _;obtain⟨h1,h2⟩:=hs.new (WExt.alloc w (.stringIter s 0)) (.stringIter s 0) (.misc (.siter l 0)) (zrb _) (by simp) ⟨s,hs2,hs3,hb⟩;refine⟨λ_=>ac,.lp (aa h) 0,_,_,_,.pointer (al ⟨w.heap.size,0,aq⟩),.inl ?_,h1,h2,?_,λ_ _=>rfl,by simpa using hk⟩
 ·have h3:execOp ev o=(do pure (Next.value (<-Instr.range t (ev x)))):=by simp[execOp,hop]
  rw[h3];refine gJ ?_;unfold Instr.range;simp only[Sem.run_bind,hT.run_und,aM];rw[hT.str hk0,hs1];rfl
 ·simp only[VRel];exact⟨w.heap.size,by simp[cx,bz],rfl⟩
theorem Dh{t:TypeId}{x:Operand}(hop:o.op= .range t x){q:TI}(hq:ti e.P t=al q)(hk0:q.kind.isMap=ab)(hsc:(f.ev e x).sc){ks vs:List V}(hx:(f.ev e x).sv= .im ks vs)
 (hk:Kn (f.put o.dst (.lp (aa h) 0)) (h++[.misc (.miter ks vs aq)])):Eff e n r o f h Kn Q:=by
 refine aV ?_ (λc=>by rw[hop];exact λh=>by cases h);intro ok pl w ev hs hr;obtain⟨i,d,z,hT⟩:=aG hq;obtain⟨kt,et,hkd⟩:=CQ hk0;have hd:=hT.map hkd;subst hd;have h1:=(hr x (by simp[hop,Op.operands])).sv hsc;rw[hx]at h1;simp only[VRel]at h1;obtain⟨m,es,clk,hs1,hs2,hs3,hs4,hs5,hs6⟩:=h1;have hb:(w.alloc (.mapIter (al m) clk #[] clk)).heap[w.heap.size]? =al (.mapIter (al m) clk #[] clk):=World.alloc_heap_new w _;have hm:m<w.heap.size:=aW hs3;have x1:=WExt.alloc w (.mapIter (al m) clk #[] clk);have hcx:CExt (λ_=>ac) (cx ok pl w) (cx ok (bz pl (aa h) w.heap.size) (w.alloc (.mapIter (al m) clk #[] clk))):=by
  refine⟨λb hb' hok=>⟨⟨hok.1,λi hi=> ?_⟩,x1.same b hb'⟩,λi b _ hi=> ?_,λb arr' el' fz hb'=>⟨arr',fz,(x1.same b (aW hb')).trans hb',rfl⟩⟩
  ·simp only[bz]at hi;split at hi
   ·cases hi;simp only[cx]at hb';omega
   ·exact hok.2 i hi
  ·have:=hs.pl_lt hi;simp only[cx,bz];rw[if_neg (by omega)];exact hi
 obtain⟨g1,g2⟩:=hcx.dat m hm hs2;have hfil:(es.toList.filter λx=> !(#[]:Array Nat).contains x.born)=es.toList:=by simp
 obtain ⟨h1,h2⟩ := hs.new x1 (.mapIter (al m) clk #[] clk) (.misc (.miter ks vs aq)) (zrb _) (by simp)
  ⟨m,#[],es,clk,hb,g1,g2.trans hs3,hs6,by rw[hfil];exact VList.mono hcx.data _ _ hs4,by rw[hfil];exact VList.mono hcx.data _ _ hs5,λk v hc=>by cases hc⟩
 refine⟨λ_=>ac,.lp (aa h) 0,_,_,_,.pointer (al ⟨w.heap.size,0,aq⟩),.inl ?_,h1,h2,?_,λ_ _=>rfl,by simpa using hk⟩
 ·have h3:execOp ev o=(do pure (Next.value (<-Instr.range t (ev x)))):=by simp[execOp,hop]
  rw[h3];refine gJ ?_;have hs3':w.heap[m]? =al (.map es clk):=hs3;unfold Instr.range;simp only[Sem.run_bind,hT.run_und,aM];rw[hs1];simp only[MapKept.run_getObj_map hs3',Sem.run_bind,aM];rfl
 ·simp only[VRel];exact⟨w.heap.size,by simp[cx,bz],rfl⟩
theorem Di{t:TypeId}{l c:Operand}(hop:o.op= .makeSlice t l c){q re:TI}(hq:ti e.P t=al q){el:TypeId}(hk0:q.kind= .slice el)(hre:ti e.P el=al re)
 (hf:re.zero.fit=ab) (hf1:aa re.zero.vc=1) (hz1:re.size=1) (hlc:(f.ev e l).sc) (hcc:(f.ev e c).sc) {k k':IntKind} {m:Int} (hl:(f.ev e l).sv= .int k m) (hc:(f.ev e c).sv= .int k' m)
 (hm0:0<=m) (hm1:m<=1000000) (hby:re.bytes<=1000)
 (hk:Kn (f.put o.dst (.ls (aa h) 1 0 m.toNat m.toNat)) (h++[.cells (ao m.toNat (re.zero.vc.getD 0 .any))])):Eff e n r o f h Kn Q:=by
 refine aV ?_ (λc=>by rw[hop];exact λh=>by cases h);intro ok pl w ev hs hr;obtain⟨i,d,z,hT⟩:=aG hq;have hd:=hT.slice hk0;subst hd;obtain⟨ie,de,ze,hE⟩:=aG hre;have h1:=(hr l (by simp[hop,Op.operands])).sv hlc;have h2:=(hr c (by simp[hop,Op.operands])).sv hcc;rw[hl]at h1;rw[hc]at h2;simp only[VRel]at h1 h2;have hzr:=(dA (cx ok pl w) ze).vc (by rw[<-hE.zv];exact hf);rw[<-hE.zv]at hzr;obtain⟨v0,hv0⟩:∃v0,re.zero.vc=[v0]:=by
  match h:re.zero.vc,hf1 with
  |[v],_=>exact⟨v,rfl⟩
 rw[hv0]at hzr hk;simp only[List.getD_cons_zero]at hk;simp only[VList]at hzr;obtain⟨y,ys,hy,hyr,rfl⟩:=hzr;have hzc:ze.cells=#[y]:=by
  apply Array.toList_inj.1;rw[hy]
 have hsz:ie.size=1:=by rw[<-hE.size];exact hz1
 have hbb:ie.bytes<=1000:=by rw[<-hE.bytes];exact hby
 have hrun:=run_makeSlice (P:=e.P) w t el ie ze hT.und hE.info hE.zero k k' m m hm0 (Int.le_refl _) (by rw[hsz];omega) (by
  have h1:(ie.bytes:Int)*m<=1000*m:=Int.mul_le_mul_of_nonneg_right (by omega) hm0;omega) (by omega)
 rw[hsz,Nat.mul_one,hzc]at hrun;have harr:(madeCells #[y] m.toNat).toList=ao m.toNat y:=by
  apply List.ext_getElem?;intro j;simp only[madeCells,Array.toList_map,Array.toList_range,zqo,List.getElem?_range',List.getElem?_replicate];by_cases hj:j<m.toNat
  ·rw[List.getElem?_range hj];simp[hj,Nat.mod_one]
  ·rw[zsj (by simp;omega)];simp[hj]
 have hrep:∀k:Nat,VList (cx ok pl w) (ao k v0) (ao k y):=by
  intro k
  induction k with
  |zero=>simp[VList]
  |succ k ih=>simp only[List.replicate_succ,VList];exact⟨_,_,rfl,hyr,ih⟩
 obtain⟨h1',h2'⟩:=qI hs (cs:=ao m.toNat v0) (arr:=madeCells #[y] m.toNat) (by simp[size_madeCells]) (by rw[harr,zqh (by simp)];exact hrep _) el (WExt.refl w);refine⟨λ_=>ac,.ls (aa h) 1 0 m.toNat m.toNat,_,_,_,.slice (al ⟨w.heap.size,0,aq⟩) m.toNat m.toNat,.inl ?_,h1',h2',?_,λ_ _=>rfl,by simpa using hk⟩
 ·have h3:execOp ev o=(do pure (Next.value (<-Instr.makeSlice t (ev l) (ev c)))):=by simp[execOp,hop]
  rw[h3,h1,h2];exact gJ hrun
 ·have hM:=mLx;simp only[VRel];refine⟨_,m.toNat,rfl,zrb _,zrb _,by omega,.inr ⟨w.heap.size,madeCells #[y] m.toNat,el,(0,0),by simp[cx,bz],rfl,World.alloc_heap_new w _,by rw[size_madeCells];omega⟩⟩
theorem yO{α β:Type}{g:α->β}:∀(l:List α)(i:Nat),(l.eraseIdx i).map g=(l.map g).eraseIdx i
 |[],_=>rfl
 |_::_,0=>rfl
 |_::l,i+1=>by simp only[List.eraseIdx_cons_succ,zrd,yO l i]
theorem VList.eraseIdx{c:C}:∀ {vs:List V} {xs:List Value} (i:Nat),VList c vs xs->VList c (vs.eraseIdx i) (xs.eraseIdx i)
 |[],_,i,h=>by simp only[VList]at h;subst h;simp[VList]
 |u::us,_,i,h=>by
  simp only[VList]at h;obtain⟨y,ys,rfl,h1,h2⟩:=h;cases i with
  |zero=>exact h2
  |succ i=>simp only[List.eraseIdx_cons_succ,VList];exact⟨y,_,rfl,h1,h2.eraseIdx i⟩
theorem wW{en:MapEntry}:∀(L:List MapEntry)(j:Nat),(L.map (·.born)).Nodup->L[j]? =al en->(L.filter λx=> !(x.born==en.born))=L.eraseIdx j
 |[],j,_,h=>by simp at h
 |y::L,0,hn,h=>by simp only[List.getElem?_cons_zero,Option.some.injEq]at h;subst h;have hn':=List.nodup_cons.1 (by simpa only[zrd]using hn);simp only[List.filter_cons,beq_self_eq_true,Bool.not_true,zrm,if_false,List.eraseIdx_cons_zero];refine List.filter_eq_self.2 λx hx=> ?_;have:¬x.born=y.born:=λh=>hn'.1 (h▸zrh.2 ⟨x,hx,rfl⟩);simpa using this
 |y::L,j+1,hn,h=>by
  simp only[List.getElem?_cons_succ]at h;have hn':=List.nodup_cons.1 (by simpa only[zrd]using hn);have hm:=List.mem_of_getElem? h;have hne:¬y.born=en.born:=λhe=>hn'.1 (he▸zrh.2 ⟨en,hm,rfl⟩);have hne':(!(y.born==en.born))=ab:=by simpa using hne
  simp only[List.filter_cons,hne',if_true,List.eraseIdx_cons_succ];rw[wW L j hn'.2 h]
theorem Iw{es:List MapEntry}{seen:Array Nat}{j:Nat}{en:MapEntry}(hn:(es.map (·.born)).Nodup)(h:(es.filter λx=> !seen.contains x.born)[j]? =al en) :
 (es.filter λx=> !(seen.push en.born).contains x.born)=(es.filter λx=> !seen.contains x.born).eraseIdx j:=by
 rw[<-wW _ j ((List.filter_sublist.map _).nodup hn) h,List.filter_filter];refine List.filter_congr λx _=> ?_;rw[Array.contains_push,Bool.not_or,Bool.and_comm]
theorem Iy{w:World}{P:Program}{r m:Nat}{seen:Array Nat}{es:Array MapEntry}{clk:Nat}(ty:TypeId)(hr:w.heap[r]? =al (.mapIter (al m) clk seen clk))(hm:w.heap[m]? =al (.map es clk))(hok:yz es clk) :
 ((es.toList.filter λx=> !seen.contains x.born)=[]/\(Instr.next (.pointer (al ⟨r,0,aq⟩)) ac ty).run P w= .ok (.tuple #[.bool ac]) w) \/
 ∃(j:Nat)(w1:World)(x:MapEntry),(es.toList.filter λx=> !seen.contains x.born)[j]? =al x/\(w1=w\/w1=w.drew) /\
  (Instr.next (.pointer (al ⟨r,0,aq⟩)) ac ty).run P w= .ok (.tuple #[.bool ab,x.key,x.val]) (w1.putObj r (.mapIter (al m) clk (seen.push x.born) clk)):=by
 simp only[Instr.next,getObj,Sem.run_bind,Sem.run,hr,hm,aM,next_test_false seen es clk clk hok.1 (zrb _),zrm,if_false];have hL0:(Array.filter (λe=> !seen.contains e.born) es).toList=es.toList.filter λx=> !seen.contains x.born:=by simp
 rw[<-hL0];have hmem:∀x∈(Array.filter (λe=> !seen.contains e.born) es).toList,x.born<clk:=λx hx=>hok.1 x (by simp at hx ⊢;exact hx.1);generalize Array.filter (λe=> !seen.contains e.born) es=L at hmem ⊢;have e1:L.filter (λx=>ar (x.born<clk))=L:=Array.filter_eq_self.2 (λx hx=>by simpa using hmem x (by simpa using hx));have e2:L.filter (λx=>ar (x.born>=clk))=#[]:=by
  rw[Array.filter_eq_empty_iff];intro x hx;have:=hmem x (by simpa using hx);simp;omega
 simp only[e1,e2,Array.append_empty];by_cases h0:L.size=0
 ·left;have:L=#[]:=Array.eq_empty_of_size_eq_zero h0;subst this;refine⟨rfl,?_⟩;simp[choose,Sem.run,Question.forced]
 ·right;have hne:L.isEmpty=ac:=by simp[Array.isEmpty,h0]
  simp only[hne,zrm,if_false,Array.empty_append,Array.size_map];have hch:∃(j:Nat)(w1:World),j<L.size/\(w1=w\/w1=w.drew)/\(choose (Question.mapNext L.size)).run P w= .ok j w1:=by
   by_cases hf:L.size<=1
   ·exact⟨0,w,by omega,.inl rfl,by simp[choose,Sem.run,Question.forced,hf]⟩
   ·exact⟨_,w.drew,Nat.mod_lt _ (by omega),.inr rfl,by
     simp only[choose,Sem.run,Question.forced,zqb,hf,if_false,Question.cut];rfl⟩
  obtain⟨j,w1,hj,hal,hrun⟩:=hch;refine⟨j,w1,L[j],by simp[hj],hal,?_⟩;have hr1:w1.heap[r]? =al (.mapIter (al m) clk seen clk):=by rcases hal with rfl|rfl<;>exact hr
  have hset:∀(o':Obj),(setObj r o').run P w1= .ok () (w1.putObj r o'):=λo'=>by simp only[setObj,Sem.run,hr1];rfl
  simp only[hrun,Array.getElem?_map,Array.getElem?_eq_getElem hj,zrw,Sem.run_bind,hset,aM];rfl
theorem ES{x:Operand}(hop:o.op= .next x ac)(hsc:(f.ev e x).sc){id:Nat}(hx:(f.ev e x).sv= .lp id 0){ks vs:List V}{cur:Option (V×V)}(hc:h[id]? =al (.misc (.miter ks vs cur)))
 (hk:OD ks vs id o.dst Kn f h):Eff e n r o f h Kn Q:=by
 refine aV ?_ (λc=>by rw[hop];exact λh=>by cases h);intro ok pl w ev hs hr;have h1:=(hr x (by simp[hop,Op.operands])).sv hsc;rw[hx]at h1;simp only[VRel]at h1;obtain⟨b,hb,hxv⟩:=h1;have hb:pl id=al b:=hb;obtain⟨ob,ho,hat⟩:=hs.obj id b hb;rw[hc]at ho;cases ho;obtain⟨m,seen,es,clk,g1,g2,g3,g4,g5,g6,g7⟩:=hat;have g1':w.heap[b]? =al (.mapIter (al m) clk seen clk):=g1;have g3':w.heap[m]? =al (.map es clk):=g3;have h3:execOp ev o=(do pure (Next.value (<-Instr.next (ev x) ac o.type))):=by simp[execOp,hop]
 have hlt:=hs.lt id b hb;have hl5:=g5.length;have hl6:=g6.length;rw[zra]at hl5 hl6;rcases Iy (P:=e.P) o.type g1' g3' g4 with⟨hnil,hrun⟩|⟨j,w1,en,hj,hw1,hrun⟩
 ·rw[hnil]at hl5;have hks:ks=[]:=zse (by simpa using hl5.symm);refine⟨λ_=>ac,.tup [.bool ac],h,pl,w,.tuple #[.bool ac],.inl ?_,hs,Keeps.refl pl w,?_,λ_ _=>rfl,by simpa using hk.1 hks⟩
  ·rw[h3,hxv];exact gJ hrun
  ·simp only[VRel,VList];exact⟨_,rfl,_,_,rfl,rfl,rfl⟩
 ·have hjl:=(zqe hj).1;have hjk:j<aa ks:=by omega
  have hjv:j<aa vs:=by omega
  obtain⟨kx,hkx1,hkx2⟩:=g5.get j ks[j] (zqk hjk);obtain⟨vx,hvx1,hvx2⟩:=g6.get j vs[j] (zqk hjv);rw[zqo,hj]at hkx1 hvx1;simp only[zrw,Option.some.injEq]at hkx1 hvx1;subst hkx1;subst hvx1;have hk2:=hk.2 j hjk;have ek:ks.getD j .any=ks[j]:=by simp[zqg,hjk]
  have evv:vs.getD j .any=vs[j]:=by simp[zqg,hjv]
  rw[ek,evv]at hk2;have hsw:HSim e ok pl h w1:=by rcases hw1 with rfl|rfl<;>first|exact hs|exact hs.wext (WExt.drew _)
  have hheap1:w1.heap=w.heap:=by rcases hw1 with rfl|rfl<;>rfl
  have hmem:en∈es.toList/\seen.contains en.born=ac:=by have:=List.mem_of_getElem? hj;simpa using this
  have hfil := Iw g4.2 hj;obtain ⟨k1,k2⟩ := hsw.upd (w' := w1.putObj b (.mapIter (al m) clk (seen.push en.born) clk)) hb (.misc (.miter (ks.eraseIdx j) (vs.eraseIdx j) (al (ks[j],vs[j])))) rfl rfl rfl (by simp) (λi hi => World.putObj_heap_other hi)
   (λarr el fz hh=>by rw[hheap1,g1']at hh;cases hh) (λkx=>by
    have hm1:(cx ok pl w1).w.heap[m]? =al (.map es clk):=by show w1.heap[m]? =_;rw[hheap1];exact g3'
    have hcd:CExt (λ_=>ac) (cx ok pl w) (cx ok pl w1):=⟨λb' _ hok=>⟨hok,by show w1.heap[b']? =w.heap[b']?;rw[hheap1]⟩,λ_ _ _ hi=>hi,λb' arr el fz hb'=>⟨arr,fz,by show w1.heap[b']? =_;rw[hheap1];exact hb',rfl⟩⟩;obtain⟨q1,q2⟩:=kx.dat m (aW hm1) g2;refine⟨m,seen.push en.born,es,clk,World.putObj_heap_same (by rw[hheap1];exact hlt),q1,q2.trans hm1,g4,?_,?_,?_⟩
    ·rw[hfil,yO];exact VList.mono kx.data _ _ (VList.mono hcd.data _ _ (g5.eraseIdx j))
    ·rw[hfil,yO];exact VList.mono kx.data _ _ (VList.mono hcd.data _ _ (g6.eraseIdx j))
    ·intro k v hkv;cases hkv;exact⟨en,hmem.1,by simp,VRel.mono kx.data _ _ (VRel.mono hcd.data _ _ hkx2),VRel.mono kx.data _ _ (VRel.mono hcd.data _ _ hvx2)⟩)
  have kk:Keeps (λ_=>ac) pl w pl w1:=by rcases hw1 with rfl|rfl<;>first|exact Keeps.refl pl _|exact(WExt.drew _).keeps hs
  have kk2:=kk.trans k2;simp only[Bool.or_self]at kk2;refine⟨λ_=>ac,.tup [.bool ab,ks[j],vs[j]],_,pl,_,.tuple #[.bool ab,en.key,en.val],.inl ?_,k1,kk2,?_,λ_ _=>rfl,by simpa using hk2⟩
  ·rw[h3,hxv];exact gJ hrun
  ·have hcd:CExt (λ_=>ac) (cx ok pl w) (cx ok pl (w1.putObj b (.mapIter (al m) clk (seen.push en.born) clk))):=kk2.cext;simp only[VRel,VList];exact⟨_,rfl,_,_,rfl,rfl,_,_,rfl,VRel.mono hcd _ _ (VRel.ofdata _ _ hkx2),_,_,rfl,VRel.mono hcd _ _ (VRel.ofdata _ _ hvx2),rfl⟩
theorem OG{x:Operand}(hop:o.op= .entry x)(hsc:(f.ev e x).sc){id:Nat}(hx:(f.ev e x).sv= .lp id 0){ks vs:List V}{k v:V}(hc:h[id]? =al (.misc (.miter ks vs (al (k,v)))))
 (hk:Kn (f.put o.dst (.tup [k,v])) h):Eff e n r o f h Kn Q:=by
 refine aV ?_ (λc=>by rw[hop];exact λh=>by cases h);intro ok pl w ev hs hr;have h1:=(hr x (by simp[hop,Op.operands])).sv hsc;rw[hx]at h1;simp only[VRel]at h1;obtain⟨b,hb,hxv⟩:=h1;have hb:pl id=al b:=hb;obtain⟨ob,ho,hat⟩:=hs.obj id b hb;rw[hc]at ho;cases ho;obtain⟨m,seen,es,clk,g1,g2,g3,g4,g5,g6,g7⟩:=hat;obtain⟨en,e1,e2,e3,e4⟩:=g7 k v rfl;have g1':w.heap[b]? =al (.mapIter (al m) clk seen clk):=g1;have g3':w.heap[m]? =al (.map es clk):=g3;have h3:execOp ev o=(do pure (Next.value (<-Instr.entry (ev x)))):=by simp[execOp,hop]
 refine⟨λ_=>ac,.tup [k,v],h,pl,w,.tuple #[en.key,en.val],.inl ?_,hs,Keeps.refl pl w,?_,λ_ _=>rfl,by simpa using hk⟩
 ·rw[h3,hxv];refine gJ ?_;have hf:es.find? (·.born==en.born)=al en:=by rw[<-Array.find?_toList];exact find_born en es.toList g4.2 e1
  simp only[Instr.entry,getObj,Sem.run_bind,Sem.run,g1',g3',aM,e2,bne_self_eq_false,zrm,if_false,hf];rfl
 ·simp only[VRel,VList];exact⟨_,rfl,_,_,rfl,VRel.ofdata _ _ e3,_,_,rfl,VRel.ofdata _ _ e4,rfl⟩
theorem TJ{x:Operand}(hop:o.op= .next x ab)(hsc:(f.ev e x).sc){id:Nat}(hx:(f.ev e x).sv= .lp id 0){l:List UInt8}{pos:Nat}(hc:h[id]? =al (.misc (.siter l pos)))
 (hk:ny (ar (pos<aa l)) l pos id o.dst Kn f h):Eff e n r o f h Kn Q:=by
 refine aV ?_ (λc=>by rw[hop];exact λh=>by cases h);intro ok pl w ev hs hr;have h1:=(hr x (by simp[hop,Op.operands])).sv hsc;rw[hx]at h1;simp only[VRel]at h1;obtain⟨b,hb,hxv⟩:=h1;have hb:pl id=al b:=hb;obtain⟨ob,ho,hat⟩:=hs.obj id b hb;rw[hc]at ho;cases ho;obtain⟨s,hs2,hs3,hheap⟩:=hat;have hheap:w.heap[b]? =al (.stringIter s pos):=hheap;have hsz:s.size=aa l:=by rw[<-hs2];exact(Array.length_toList).symm
 have hdec:Utf8.decode s pos=EQ l pos:=by unfold EQ;rw[<-hs2]
 have h3:execOp ev o=(do pure (Next.value (<-Instr.next (ev x) ab o.type))):=by simp[execOp,hop]
 have hlt:=hs.lt id b hb;cases hp:ar (pos<aa l)with
 |true =>
  rw[hp]at hk;have hp':pos<aa l:=by simpa using hp
  obtain ⟨h1,h2⟩ := hs.upd (w' := w.putObj b (.stringIter s (pos + (EQ l pos).2))) hb (.misc (.siter l (pos + (EQ l pos).2))) rfl rfl rfl (by simp) (λi hi => World.putObj_heap_other hi)
   (λarr el fz hh=>by rw[hheap]at hh;cases hh) (λk=>⟨s,hs2,hs3,World.putObj_heap_same hlt⟩)
  refine⟨λ_=>ac,.tup [.bool ab,.int .i64 pos,.int .i32 (EQ l pos).1],_,pl,_,.tuple #[.bool ab,goInt pos,.int .i32 (EQ l pos).1],.inl ?_,h1,h2,?_,λ_ _=>rfl,by simpa [ny]using hk⟩
  ·rw[h3,hxv];refine gJ ?_;have:pos<s.size:=by omega
   simp[Instr.next,getObj,setObj,Sem.run,hheap,aM,this,hdec,World.putObj]
  ·simp only[VRel,VList];exact⟨_,rfl,_,_,rfl,rfl,_,_,rfl,rfl,_,_,rfl,rfl,rfl⟩
 |false =>
  rw[hp]at hk;have hp':¬pos<aa l:=by simpa using hp
  refine⟨λ_=>ac,.tup [.bool ac],h,pl,w,.tuple #[.bool ac],.inl ?_,hs,Keeps.refl pl w,?_,λ_ _=>rfl,by simpa [ny]using hk⟩
  ·rw[h3,hxv];refine gJ ?_;have:¬pos<s.size:=by omega
   simp[Instr.next,getObj,setObj,Sem.run,hheap,aM,this]
  ·simp only[VRel,VList];exact⟨_,rfl,_,_,rfl,rfl,rfl⟩
theorem ug{P:Program}{t:TypeId}{q:TI}{i:TypeInfo}{d:TypeDesc}{z:Value}(h:TIs P t q i d z){el:Nat}(hk:q.kind= .slice el)(a:Option Addr)(l c:Nat)(w:World) :
 (Op.equal t (.slice a l c) (.slice aq 0 0)).run P w= .ok a.isNone w:=by
 unfold Op.equal Op.maxDepth Op.equalIn;simp only[Sem.run_bind,h.run_und,aM];rw[h.slice hk];cases a<;>rfl
theorem pI{S:V->Prop}(hnd:∀c,o.op≠ .defer c) (hq:∀ok pl w (ev:Operand->Value),HSim e ok pl h w->(∀x∈o.op.operands,VRel (cx ok pl w) (f.ev e x) (ev x)) ->
 ∃x v,(execOp ev o).run e.P w= .ok (.value x) w/\VRel (cx ok pl w) v x/\S v) (hk:∀v,S v->Kn (f.put o.dst v) h):Eff e n r o f h Kn Q:=by
 refine aV (λok pl w ev hs hr=> ?_) hnd;obtain⟨x,v,h1,h2,h3⟩:=hq ok pl w ev hs hr;exact⟨λ_=>ac,v,h,pl,w,x,.inl h1,hs,Keeps.refl pl w,h2,λ_ _=>rfl,by simpa using hk v h3⟩
theorem JJ{op:BinOp}(hop':op= .eql\/op= .neq){t t2:TypeId}{x:Operand}(hop:o.op= .binOp op t x (.const (.slice aq 0 0)) t2)(hv:OC e op o.dst t x f h Kn):Eff e n r o f h Kn Q:=by
 unfold OC at hv;split at hv
 ·rename_i q hq;obtain⟨ii,d,z,hT⟩:=aG hq;split at hv
  ·rename_i el hk;obtain⟨hsc,hv⟩:=hv;have exec:∀(ev:Operand->Value)(w:World)(a:Option Addr)(l c:Nat),ev x= .slice a l c->ev (.const (.slice aq 0 0))= .slice aq 0 0->(execOp ev o).run e.P w= .ok (.value (.bool (a.isNone==(op== .eql)))) w:=by
    intro ev w a l c hx hy;have hb:(binOp op t (.slice a l c) (.slice aq 0 0)).run e.P w= .ok (.bool (a.isNone==(op== .eql))) w:=by
     rcases hop' with rfl|rfl
     ·show(do pure (Value.bool (<-Op.equal t _ _)):Sem Value).run e.P w=_;simp[ug hT hk,aM]
     ·show(do pure (Value.bool (!(<-Op.equal t _ _))):Sem Value).run e.P w=_;simp only[Sem.run_bind,ug hT hk,aM];cases a<;>rfl
    have h3:execOp ev o=(do pure (Next.value (<-(do eqGuard op t x (.const (.slice aq 0 0)) (ev x) (ev (.const (.slice aq 0 0)));binOp op t (ev x) (ev (.const (.slice aq 0 0))))))):=by simp[execOp,hop]
    rw[h3,hx,hy];refine gJ ?_;simp[rW (x:=x) (y:= .const (.slice aq 0 0)) (op:=op) (t:=t) (P:=e.P) w (a:= .slice a l c) (b:= .slice aq 0 0) (.inl ⟨by simp,by simp⟩),aM,hb]
   have hy:∀(c:C)(y:Value),VRel c (f.ev e (.const (.slice aq 0 0))) y->y= .slice aq 0 0:=by intro c y h1;have h2:f.ev e (.const (.slice aq 0 0))= .nils:=rfl;rw[h2]at h1;simpa only[VRel]using h1
   have nd:∀c,o.op≠ .defer c:=λc=>by rw[hop];exact λh=>by cases h
   split at hv
   ·rename_i hx;refine pI (S:=λv=>v= .bool (op== .eql)) nd (λok pl w ev hs hr=> ?_) (λv hv'=>by subst hv';exact hv);have h1:=(hr x (by simp[hop,Op.operands])).sv hsc;rw[hx]at h1;simp only[VRel]at h1;refine⟨_,_,exec ev w aq 0 0 h1 (hy _ _ (hr _ (by simp[hop,Op.operands]))),?_,rfl⟩;simp[VRel]
   ·rename_i ex k es hx;refine pI (S:=λv=>∃b:Bool,(b=ab->es=[])/\v= .bool (b==(op== .eql))) nd (λok pl w ev hs hr=> ?_) (λv hv'=>by obtain⟨b,h1,rfl⟩:=hv';exact hv b h1);have h1:=(hr x (by simp[hop,Op.operands])).sv hsc;rw[hx]at h1;simp only[VRel]at h1;obtain⟨a,cp,h2,h3,h4,h5,h6⟩:=h1;refine⟨_,_,exec ev w a _ cp h2 (hy _ _ (hr _ (by simp[hop,Op.operands]))),?_,a.isNone,λhn=> ?_,rfl⟩
    ·simp[VRel]
    ·rcases h6 with h6|⟨b,off,h6,_⟩
     ·exact h6
     ·rw[h6]at hn;cases hn
   ·rename_i id k off len cap hx;refine pI (S:=λv=>∃b:Bool,(b=ab->len=0)/\v= .bool (b==(op== .eql))) nd (λok pl w ev hs hr=> ?_) (λv hv'=>by obtain⟨b,h1,rfl⟩:=hv';exact hv b h1);have h1:=(hr x (by simp[hop,Op.operands])).sv hsc;rw[hx]at h1;simp only[VRel]at h1;obtain⟨a,cp,h2,h3,h4,h5,h6⟩:=h1;refine⟨_,_,exec ev w a _ cp h2 (hy _ _ (hr _ (by simp[hop,Op.operands]))),?_,a.isNone,λhn=> ?_,rfl⟩
    ·simp[VRel]
    ·rcases h6 with h6|⟨b,arr,el,fz,h7,h6,_⟩
     ·omega
     ·rw[h6]at hn;cases hn
   ·exact hv.elim
  ·exact hv.elim
 ·exact hv.elim
theorem OH{x:Operand}(hop:o.op= .panic x)(hsc:(f.ev e x).sc){t:TypeId}{v:V}(hx:(f.ev e x).sv= .iface t v)(hq:Q (.pan (.iface t v)) f h):Eff e n r o f h Kn Q:=by
 intro ok pl0 w0 pl w a s hd;have h1:=(s.evs (o:=o) x (by simp[hop,Op.operands])).sv hsc;rw[hx]at h1;have h2:=h1;simp only[VRel]at h1;obtain⟨y,h3,h4⟩:=h1;have hrun:(execOp a.eval o).run e.P w= .halt (.panic (a.eval x)) w:=by
  have h5:execOp a.eval o=(do pure (Next.value (<-Instr.panic (a.eval x)))):=by simp[execOp,hop]
  rw[h5,h3];rfl
 refine⟨λg _=>iD r g,?_⟩;rw[eP,Oper.semAt_eq r a.eval o (λc=>by rw[hop];exact λh=>by cases h),hrun,Oper.uponIn_panic];exact⟨pl,f,h,.pan (.iface t v),s,⟨_,rfl,h2⟩,hq⟩
theorem Dj(hv:ER e n o f h Kn Q):Eff e n r o f h Kn Q:=by
 unfold ER at hv;split at hv
 ·rename_i t hop;split at hv
  ·rename_i q hq;exact Ot hop hq hv.1 hv.2
  ·exact hv.elim
 ·rename_i t x hop;exact WM hop hv.1.1 hv.1.2 hv.2
 ·rename_i t x y hop;split at hv
  ·rename_i id off q hx hq;split at hv
   ·rename_i cs hc;obtain⟨⟨c1,c2,c3,c4,c5,c6⟩,hk⟩:=hv;exact Ou hop hx c1 c2 hq c3 c4 c5 hc c6 hk
   ·exact hv.elim
  ·exact hv.elim
 ·rename_i t x hop;split at hv
  ·rename_i q l hq hx;exact OE hop hq hv.1.1 hv.1.2 hx hv.2
  ·rename_i q ks vs hq hx;exact Dh hop hq hv.1.1 hv.1.2 hx hv.2
  ·exact hv.elim
 ·rename_i x hop;split at hv
  ·rename_i id hx;split at hv
   ·rename_i ks vs cur hc;exact ES hop hv.1 hx hc hv.2
   ·exact hv.elim
  ·exact hv.elim
 ·rename_i x hop;split at hv
  ·rename_i id hx;split at hv
   ·rename_i ks vs k v hc;exact OG hop hv.1 hx hc hv.2
   ·exact hv.elim
  ·exact hv.elim
 ·rename_i t l c hop;split at hv
  ·rename_i q k m k' m' hq hl hc;split at hv
   ·rename_i el hk0;split at hv
    ·rename_i re hre;obtain⟨⟨c1,c2,c3,c4,c5,rfl,c7,c8,c9⟩,hk⟩:=hv;exact Di hop hq hk0 hre c1 c2 c3 c4 c5 hl hc c7 c8 c9 hk
    ·exact hv.elim
   ·exact hv.elim
  ·exact hv.elim
 ·rename_i x hop;split at hv
  ·rename_i id hx;split at hv
   ·rename_i l pos hc;exact TJ hop hv.1 hx hc hv.2
   ·exact hv.elim
  ·exact hv.elim
 ·rename_i t hop;exact Iq hop hv
 ·rename_i t m k x hop;split at hv
  ·rename_i id q hm hq;split at hv
   ·rename_i kt et ks vs hkd hc;split at hv
    ·rename_i rk hrk;split at hv
     ·rename_i ks' vs' hp;obtain⟨⟨c1,c2,c3,c4⟩,hk⟩:=hv;exact C9 hop hm c1 c2 c3 hq hkd hrk c4 hc hp hk
     ·exact hv.elim
    ·exact hv.elim
   ·exact hv.elim
  ·exact hv.elim
 ·rename_i c hop;obtain⟨callee,args,argTypes⟩:=c;dsimp only at hv;split at hv
  ·rename_i fx;unfold JI at hv;split at hv
   ·rename_i g vs hon;exact TF hop hon hv.1 hv.2.1 hv.2.2
   ·split at hv
    ·rename_i id hfx;split at hv
     ·rename_i t n' ps asg body pend hc;exact OA hv.1.2.2.2 hop hfx hv.1.1 hc hv.1.2.1 hv.1.2.2.1 hv.2
     ·exact hv.elim
    ·exact hv.elim
  ·rename_i x y t xt rest hargs hts;have ha:args=#[x,y]:=by rw[<-hargs]
   subst ha;exact Iu hop (by have:=congrArg (·[0]?) hts;simpa using this) (by have:=congrArg (·[1]?) hts;simpa using this) hv
  ·exact hv r
  ·exact hv.elim
 ·rename_i x hop;split at hv
  ·rename_i t v hx;exact OH hop hv.1 hx hv.2
  ·exact hv.elim
 ·rename_i t x t2 hop;exact JJ (.inl rfl) hop hv
 ·rename_i t x t2 hop;exact JJ (.inr rfl) hop hv
 ·exact hv.elim
end
def OI(d:Option Tmp)(Kn:Fr->H->Prop)(f:Fr)(h:H):Prop:=∃v,Kn (f.put d (.grd ac v)) h
theorem OI.mk{d:Option Tmp}{Kn:Fr->H->Prop}{f:Fr}{h:H}(hk:Kn (f.put d (.grd ac .any)) h):OI d Kn f h:=⟨_,hk⟩
def ET(g:Bool)(e:E)(n:Nat)(o:Oper)(Kn:Fr->H->Prop)(Q:XE->Fr->H->Prop)(f:Fr)(h:H):Prop:=(g=ab->ER e n o f h Kn Q)/\(g=ac->OI o.dst Kn f h)
def ru(e:E)(n:Nat)(ops:Array Oper)(Q:XE->Fr->H->Prop):List Oper->Fr->H->Prop
 |[],f,h=>Q .normal f h
 |o::rest,f,h =>
  match gd ops f o with
  |none=>False
  |some g=>jF n o.dst=ab /\
   match kL o.op with
   |true=>ET g e n o (ru e n ops Q rest) Q f h
   |false=>yN g (xX e.P o (f.ev e) h) o.dst (ru e n ops Q rest) f h
theorem xZ{e:E}{n:Nat}{r:Option Nat}{ops:Array Oper}{Q:XE->Fr->H->Prop}{ok:Nat->Prop}{pl0:Nat->Option Nat}{w0:World} :
 ∀(l:List Oper)(f:Fr)(h:H),ru e n ops Q l f h->∀(pl:Nat->Option Nat)(w:World)(a:Act),SSim e n ok pl0 w0 f h pl w a->wpListIn (RF r) 0 e.P ops (iM e n ok pl0 w0 Q) l a w
 |[],f,h,hv,pl,w,a,s=>⟨pl,f,h,.normal,s,trivial,hv⟩
 |o::rest,f,h,hv,pl,w,a,s=>by
  simp only[ru]at hv;cases hg:gd ops f o with
  |none=>rw[hg]at hv;exact hv.elim
  |some g =>
   rw[hg]at hv;obtain⟨hd,hv⟩:=hv;have hw:=rZ s.val hg;unfold wpListIn;have nx:∀a' w',Oq e n ok pl0 w0 (λf' h'=>ru e n ops Q rest f' h') a' w'->wpListIn (RF r) 0 e.P ops (iM e n ok pl0 w0 Q) rest a' w' :=
    λa' w' ⟨pl',f',h',s',hk⟩=>xZ rest f' h' hk pl' w' a' s'
   cases he:kL o.op with
   |true =>
    rw[he]at hv;dsimp only at hv;cases g with
    |true=>rw[if_pos hw];exact Oper.wpIn_mono nx (Dj (r:=r) (hv.1 rfl) ok pl0 w0 pl w a s hd)
    |false=>rw[if_neg (by rw[hw];simp)];obtain⟨v,hv'⟩:=hv.2 rfl;exact⟨λg _=>iD r g,xZ rest _ _ hv' pl w _ (s.put hd (jg (g:=ac) (v:=v) (λhf=>by cases hf) (λ_=>rfl)))⟩
   |false =>
    rw[he]at hv;dsimp only at hv;obtain⟨hc,hk⟩:=hv;cases g with
    |true=>rw[if_pos hw];exact Oper.wpIn_mono nx (kG (K:=λf' h'=>ru e n ops Q rest f' h') (pz (hc rfl)) hk ok pl0 w0 pl w a s hd)
    |false=>rw[if_neg (by rw[hw];simp)];exact⟨λg _=>iD r g,xZ rest _ _ hk pl w _ (s.put hd (jg (λhf=>by cases hf) (λ_=>rfl)))⟩
theorem Fr.put_comm(f:Fr){x y:Option Tmp}(v u:V)(h:∀d,x=al d->y≠al d):(f.put x v).put y u=(f.put y u).put x v:=by
 cases x with
 |none=>rfl
 |some d =>
  cases y with
  |none=>rfl
  |some e =>
   have hne:d≠e:=λhe=>h d rfl (he▸rfl);simp only[Fr.put]
   congr 1
   funext j
   by_cases h1:j=e
   ·by_cases h2:j=d
    ·exact absurd (h2.symm.trans h1) hne
    ·rw[if_pos h1,if_neg h2,if_pos h1]
   ·rw[if_neg h1,if_neg h1]
theorem OJ{e:E}{f:Fr}{dst:Option Tmp}{v:V}{x:Operand}(h:∀d,dst=al d->x≠ .tmp d):(f.put dst v).ev e x=f.ev e x:=by
 cases dst with
 |none=>rfl
 |some d =>
  cases x with
  |tmp t=>have hne:t≠d:=λhe=>h d rfl (by rw[he]);simp[Fr.ev,Fr.put,hne]
  |_=>rfl
theorem AQ.congr{e:E}{o:Oper}{ρ ρ':Operand->V}{h:H}{v:V}(hh:∀x∈o.op.operands,ρ x=ρ' x)(ha:AQ e o ρ h v):AQ e o ρ' h v :=
 λok pl w ev hs hr=>ha ok pl w ev hs λx hx=>by rw[hh x hx];exact hr x hx
section
variable{e:E}{n:Nat}{r:Option Nat}{ops:Array Oper}{md:Region.Mode}{h:H}
theorem OL{o:Oper}{f:Fr}{dst:Option Tmp}{v:V}(hd:∀d,dst=al d->d∉o.looksAt ops):∀x∈o.op.operands,(f.put dst v).ev e x=f.ev e x :=
 λx hx=>OJ λd hd' hxd=>hd d hd' (by
  subst hxd;exact List.mem_append_left _ (List.mem_filterMap.2 ⟨.tmp d,by simpa using hx,rfl⟩))
theorem VU{o:Oper}{f:Fr}{dst:Option Tmp}{v:V}(hd:∀d,dst=al d->d∉o.looksAt ops):gd ops (f.put dst v) o=gd ops f o:=by
 unfold gd;cases hg:o.guard with
 |none=>rfl
 |some jw =>
  obtain⟨j,want⟩:=jw;dsimp only;cases ht:(ops[j]?).bind (·.dst)with
  |none=>rfl
  |some d' =>
   dsimp only
   congr 1
   cases dst with
   |none=>rfl
   |some d=>simp only[Fr.put];rw[if_neg];intro he;refine hd d rfl ?_;unfold Oper.looksAt;refine List.mem_append_right _ ?_;rw[hg];dsimp only;rw[ht,he];simp
def nz(e:E)(n:Nat)(ops:Array Oper)(h:H)(o:Oper)(v:V)(f:Fr):Prop :=
 jF n o.dst=ab/\∃g v',gd ops f o=al g/\(g=ab->AQ e o (f.ev e) h v')/\v=V.guard g v'
theorem nz.put{o:Oper}{v:V}{f:Fr}(hy:nz e n ops h o v f){dst:Option Tmp}{u:V}(hd:∀d,dst=al d->d∉o.looksAt ops):nz e n ops h o v (f.put dst u):=by obtain⟨h1,g,v',h2,h3,h4⟩:=hy;exact⟨h1,g,v',by rw[VU hd];exact h2,λhg=>(h3 hg).congr λx hx=>(OL hd x hx).symm,h4⟩
theorem nz.unput{o:Oper}{v:V}{f:Fr}{dst:Option Tmp}{u:V}(hy:nz e n ops h o v (f.put dst u))(hd:∀d,dst=al d->d∉o.looksAt ops):nz e n ops h o v f:=by obtain⟨h1,g,v',h2,h3,h4⟩:=hy;exact⟨h1,g,v',by rw[VU hd]at h2;exact h2,λhg=>(h3 hg).congr λx hx=>OL hd x hx,h4⟩
def OM(e:E)(n:Nat)(ops:Array Oper)(h:H)(i:Nat)(Kn:Fr->Prop)(f:Fr):Prop :=
 match ops[i]? with
 |none=>Kn f
 |some o=>∃v,nz e n ops h o v f/\Kn (f.put o.dst v)
theorem OO{i:Nat}{f:Fr}{K K':Fr->Prop}(hh:∀f,K f->K' f)(hq:OM e n ops h i K f):OM e n ops h i K' f:=by
 unfold OM at *;split
 ·exact hh _ (by simpa [*]using hq)
 ·rename_i o ho;simp only[ho]at hq;obtain⟨v,h1,h2⟩:=hq;exact⟨v,h1,hh _ h2⟩
def EU(e:E)(n:Nat)(md:Region.Mode)(ops:Array Oper)(h:H)(Q:Fr->Prop):Nat->Array Bool->Fr->Prop
 |0,listed,f=>Region.ready md ops listed=[]/\Q f
 |fuel+1,listed,f =>
  (Region.ready md ops listed=[]->Q f) /\
  ∀i∈Region.ready md ops listed,OM e n ops h i (EU e n md ops h Q fuel (listed.setIfInBounds i ab)) f
theorem TK{j:Nat}{oi oj:Oper}{v:V}(hj:ops[j]? =al oj)(hap:oi.apart ops oj=ab){K:Fr->Prop}{f:Fr}
 (hy:nz e n ops h oi v f) (hq:OM e n ops h j K (f.put oi.dst v)) :
 OM e n ops h j (λf'=>nz e n ops h oi v f'/\K (f'.put oi.dst v)) f:=by
 obtain⟨h1,h2,h3⟩:=Oper.apart_spec hap;unfold OM at *;simp only[hj]at *;obtain⟨u,hu,hn⟩:=hq;exact⟨u,hu.unput h1,hy.put h3,by rw[<-Fr.put_comm f v u h2];exact hn⟩
theorem EW{Q:Fr->Prop}{i:Nat}{oi:Oper}{v:V}(hi:ops[i]? =al oi) :
 ∀(fuel:Nat)(listed:Array Bool)(f:Fr),
  (∀j oj,ops[j]? =al oj->j≠i->listed.getD j ab=ac->(∀e∈oj.after,Region.binds md e=ab->e.on≠i)->oi.apart ops oj=ab) ->
  i∈Region.ready md ops listed->nz e n ops h oi v f ->
  EU e n md ops h Q fuel (listed.setIfInBounds i ab) (f.put oi.dst v)->EU e n md ops h Q (fuel+1) listed f:=by
 have own:∀ {K:Fr->Prop} {f:Fr},nz e n ops h oi v f->K (f.put oi.dst v)->OM e n ops h i K f:=by intro K f hy hk;unfold OM;rw[hi];exact⟨v,hy,hk⟩
 intro fuel
 induction fuel with
 |zero =>
  intro listed f _ hr hy H;refine⟨λh=>(by rw[h]at hr;cases hr),λj hj=> ?_⟩;by_cases hji:j=i
  ·subst hji;exact own hy H
  ·have:=ready_mono hj hji;rw[H.1]at this;cases this
 |succ fuel ih =>
  intro listed f hfree hr hy H;refine⟨λh=>(by rw[h]at hr;cases hr),λj hj=> ?_⟩;by_cases hji:j=i
  ·subst hji;exact own hy H
  ·have h1:=H.2 j (ready_mono hj hji);obtain⟨hjun,oj,hoj,hall⟩:=mem_ready.1 hj;have hnot:∀e∈oj.after,Region.binds md e=ab->e.on≠i:=λe he hb heq=>by
    have h1:=hall e he hb;have h0:=(mem_ready.1 hr).1;rw[heq]at h1;rcases Nat.lt_or_ge i listed.size with h'|h'
    ·simp[h']at h0 h1;rw[h0]at h1;cases h1
    ·simp[Array.getElem?_eq_none h']at h1
   have h2:=TK hoj (hfree j oj hoj hji hjun hnot) hy h1;have hfree':∀k ok,ops[k]? =al ok->k≠i->(listed.setIfInBounds j ab).getD k ab=ac ->
    (∀e∈ok.after,Region.binds md e=ab->e.on≠i)->oi.apart ops ok=ab:=λk ok hk hki hun hno=>by
    refine hfree k ok hk hki ?_ hno;by_cases hjk:j=k
    ·subst hjk;exact hjun
    ·rw[getD_set_ne ab hjk]at hun;exact hun
   refine OO (λa' h3=>ih (listed.setIfInBounds j ab) a' hfree' (ready_mono hr (Ne.symm hji)) h3.1 ?_) h2;rw[Array.setIfInBounds_comm _ _ hji];exact h3.2
def Dk(e:E)(n:Nat)(ops:Array Oper)(h:H)(Q:Fr->Prop):List Oper->Fr->Prop
 |[],f=>Q f
 |o::rest,f=>∃v,nz e n ops h o v f/\Dk e n ops h Q rest (f.put o.dst v)
theorem Bi{Q:Fr->Prop}:∀(l:List Oper)(k:Nat)(listed:Array Bool)(f:Fr),(∀j,l[j]? =ops[k+j]?) ->
 Region.lexFrom md ops (aa l) k listed=ab->Dk e n ops h Q l f->EU e n md ops h Q (aa l) listed f
 |[],_,_,_,_,hB,h=>⟨by simpa [Region.lexFrom]using hB,h⟩
 |o::l,k,listed,f,hl,hB,hh=>by
  have h0:ops[k]? =al o:=by simpa using(hl 0).symm
  simp only [zrt,Region.lexFrom,zqf] at hB;obtain ⟨⟨hr,hf⟩,hB'⟩ := hB;obtain ⟨v,hy,hK⟩ := hh;exact EW h0 (aa l) listed f (Region.free_spec h0 hf) (by simpa using hr) hy
   (Bi l (k+1) _ _ (λj=>by have:=hl (j+1);simpa [Nat.add_assoc,Nat.add_comm 1 j]using this) hB' hK)
theorem Iz{ok:Nat->Prop}{pl0:Nat->Option Nat}{w0:World}{Q':Exit->Act->World->Prop}{i:Nat}{Kn:Fr->Prop}{K':Act->World->Prop}{f:Fr}
 (hK:∀f pl w a,SSim e n ok pl0 w0 f h pl w a->Kn f->K' a w) (hq:OM e n ops h i Kn f) {pl:Nat->Option Nat} {w:World} {a:Act} (s:SSim e n ok pl0 w0 f h pl w a)
 (hQ:∀(K':Act->World->Prop)(o:Oper) v,AQ e o (f.ev e) h v->jF n o.dst=ab->(∀a' w' pl',SSim e n ok pl0 w0 (f.put o.dst v) h pl' w' a'->K' a' w')->o.wpIn (RF r) 0 e.P a w K' Q'):wpOpIn (RF r) 0 e.P ops Q' i K' a w:=by
 unfold OM at hq;unfold wpOpIn;split
 ·rename_i ho;simp only[ho]at hq;exact hK _ _ _ _ s hq
 ·rename_i o ho;simp only[ho]at hq;obtain⟨v,⟨hd,g,v',hg,hv,rfl⟩,hk⟩:=hq;have hw:=rZ s.val hg;cases g with
  |true=>rw[if_pos hw];exact hQ _ o v' (hv rfl) hd λa' w' pl' s'=>hK _ _ _ _ s' hk
  |false=>rw[if_neg (by rw[hw];simp)];exact⟨λg _=>iD r g,hK _ _ _ _ (s.put hd (jg (λhf=>by cases hf) (λ_=>rfl))) hk⟩
theorem wX{ok:Nat->Prop}{pl0:Nat->Option Nat}{w0:World}{Q:XE->Fr->H->Prop}:∀(fuel:Nat)(listed:Array Bool)(f:Fr),EU e n md ops h (λf=>Q .normal f h) fuel listed f ->
 ∀pl w a,SSim e n ok pl0 w0 f h pl w a->wpAnyIn (RF r) 0 e.P md ops (iM e n ok pl0 w0 Q) fuel listed a w
 |0,_,f,hh,pl,w,a,s=>⟨hh.1,pl,f,h,.normal,s,trivial,hh.2⟩
 |fuel+1,_,f,hh,pl,w,a,s=>⟨λh0=>⟨pl,f,h,.normal,s,trivial,hh.1 h0⟩,λi hi =>
  Iz (λf' pl' w' a' s' hk=>wX fuel _ f' hk pl' w' a' s') (hh.2 i hi) s λK' o v hq hd hk =>
   Oper.wpIn_mono (λa' w' ⟨pl',f',h',s',hf,hh'⟩ => by subst hf;subst hh';exact hk a' w' pl' s')
    (kG (K:=λf' h'=>f'=f.put o.dst v/\h'=h) (Q:=Q) hq ⟨rfl,rfl⟩ ok pl0 w0 pl w a s hd)⟩
end
def uh(e:E)(g:Bool)(q:FuncId)(vs:List V)(sc:Prop)(dst:Option Tmp)(Kn:Fr->Prop)(f:Fr):Prop :=
 ∃rv,(g=ab->sc/\ah e.P q=ab/\aL vs=ab/\Ev e q vs rv)/\Kn (f.put dst (V.guard g rv))
theorem uh.mk{e:E}{q:FuncId}{vs:List V}{dst:Option Tmp}{Kn:Fr->Prop}{f:Fr}{rv:V}(hv:Ev e q vs rv)(h2:ah e.P q=ab)(h3:aL vs=ab)(hk:Kn (f.put dst rv)):uh e ab q vs True dst Kn f :=
 ⟨rv,λ_=>⟨trivial,h2,h3,hv⟩,hk⟩
theorem uh.no{e:E}{q:FuncId}{vs:List V}{sc:Prop}{dst:Option Tmp}{Kn:Fr->Prop}{f:Fr}(hk:Kn (f.put dst (.grd ac .any))):uh e ac q vs sc dst Kn f :=
 ⟨.any,λhg=>(by cases hg),hk⟩
def goQ(g:Bool)(q:Prop×V)(d:Option Tmp)(Kn:Fr->Prop)(f:Fr):Prop:=(g=ab->q.1)/\Kn (f.put d (V.guard g q.2))
def TL(Q:XE->Fr->H->Prop)(h:H)(f:Fr):Prop:=Q .normal f h
def gX(e:E)(n:Nat)(ops:Array Oper)(h:H)(Q:Fr->Prop):List Oper->Fr->Prop
 |[],f=>Q f
 |o::rest,f =>
  match gd ops f o with
  |none=>False
  |some g=>jF n o.dst=ab /\
   match kL o.op with
   |true=>match o.op with
    | .call {callee:= .value fx,args,..}=>match ni e (f.ev e) fx args with
     |some (q,vs)=>uh e g q vs (dX (f.ev e) fx args) o.dst (gX e n ops h Q rest) f
     |none=>False
    |_=>False
   |false=>goQ g (xX e.P o (f.ev e) h) o.dst (gX e n ops h Q rest) f
theorem mr{e:E}{n:Nat}{ops:Array Oper}{h:H}{Q:Fr->Prop}:∀(l:List Oper)(f:Fr),gX e n ops h Q l f->Dk e n ops h Q l f
 |[],f,hv=>hv
 |o::rest,f,hv=>by
  simp only[gX]at hv;cases hg:gd ops f o with
  |none=>rw[hg]at hv;exact hv.elim
  |some g =>
   rw[hg]at hv;obtain⟨hd,hv⟩:=hv;cases he:kL o.op with
   |true =>
    rw[he]at hv;dsimp only at hv;split at hv
    ·rename_i fx args ts hop;split at hv
     ·rename_i q vs hon;obtain⟨rv,h1,h2⟩:=hv;exact⟨_,⟨hd,g,rv,hg,λhgt=>AQ.call hop hon (h1 hgt).1 (h1 hgt).2.1 (h1 hgt).2.2.1 (h1 hgt).2.2.2,rfl⟩,mr rest _ h2⟩
     ·exact hv.elim
    ·exact hv.elim
   |false=>rw[he]at hv;dsimp only at hv;obtain⟨h1,h2⟩:=hv;exact⟨_,⟨hd,g,_,hg,λhgt=>pz (h1 hgt),rfl⟩,mr rest _ h2⟩
theorem Me{e:E}{n:Nat}{r:Option Nat}{ops:Array Oper}{h:H}{Q:XE->Fr->H->Prop}{id:Nat}{f:Fr}{ok:Nat->Prop}{pl0:Nat->Option Nat}{w0:World}(hm:e.P.follows .mixedOrders=ab)
 (hB:Region.lexB .any ops=ab) (hv:gX e n ops h (TL Q h) ops.toList f) {pl:Nat->Option Nat} {w:World} {a:Act} (s:SSim e n ok pl0 w0 f h pl w a) :
 (Code.region id ops ab).wpIn (RF r) 0 e.P (iM e n ok pl0 w0 Q) a w:=by
 simp only[Region.lexB,zqf]at hB;have x:WExt w {w with drawn:=w.drawn+1}:=WExt.drew w;refine wpIn_region_any hm (wX (ops:=ops) (md:= .any) (f:=f) (h:=h) _ _ ?_ _ _ _ (s.next0 (s.hs.wext x) (x.keeps s.hs)));have:=Bi (e:=e) (n:=n) (h:=h) (Q:=λf=>Q .normal f h) (md:= .any) (ops:=ops) ops.toList 0 (Array.replicate ops.size ac) f (by simp) (by simpa using hB.2) (mr _ _ hv);simpa using this
def XE.block(id:Nat)(Q:XE->Fr->H->Prop):XE->Fr->H->Prop
 | .normal=>Q .normal
 | .exit i=>match i==id with
  |true=>Q .normal
  |false=>Q (.exit i)
 | .goto l=>Q (.goto l)
 | .ret=>Q .ret
 | .pan v=>Q (.pan v)
section
variable{e:E}{n:Nat}{r:Option Nat}{Q:XE->Fr->H->Prop}{f:Fr}{h:H}
theorem iM.seq{ok:Nat->Prop}{pl0:Nat->Option Nat}{w0:World}{Kn:Fr->H->Prop}{K':Act->World->Prop}
 (hk:∀pl f h a w,SSim e n ok pl0 w0 f h pl w a->Kn f h->K' a w):∀ex a w,iM e n ok pl0 w0 (XE.seq Kn Q) ex a w->Exit.then K' (iM e n ok pl0 w0 Q) ex a w:=by
 rintro ex a w ⟨pl',f',h',xe,s,hx,hq⟩;cases xe <;> cases ex <;> (try (exact hx.elim)) <;> first
  |exact hk _ _ _ _ _ s hq
  |(cases hx;exact⟨pl',f',h',_,s,rfl,hq⟩)
  |exact⟨pl',f',h',_,s,hx,hq⟩
theorem ak{x y:Code}(hv:awp e n r x (XE.seq (awp e n r y Q) Q) f h):awp e n r (.seq x y) Q f h:=by intro ok pl0 w0 pl w a s;exact wpIn_seq (wpIn_mono (hv ok pl0 w0 pl w a s) (iM.seq λpl f h a w s hk=>hk ok pl0 w0 pl w a s))
theorem aB{id:Nat}{x:Code}(hv:awp e n r x (XE.block id Q) f h):awp e n r (.block id x) Q f h:=by
 intro ok pl0 w0 pl w a s;refine wpIn_block (wpIn_mono (hv ok pl0 w0 pl w a s) ?_);rintro ex a w ⟨pl',f',h',xe,s,hx,hq⟩;cases xe<;>cases ex<;>(try(exact hx.elim))
 case exit i j =>
  cases hx;simp only[XE.block]at hq;simp only[Exit.inBlock];by_cases hid:i=id
  ·subst hid;rw[if_pos rfl];rw[beq_self_eq_true]at hq;exact⟨pl',f',h',.normal,s,trivial,hq⟩
  ·rw[if_neg hid];have:(i==id)=ac:=by simpa using hid
   rw[this]at hq;exact⟨pl',f',h',.exit i,s,rfl,hq⟩
 all_goals first|exact⟨pl',f',h',_,s,hx,hq⟩
theorem bf{c:Code}{Q':XE->Fr->H->Prop}(hq:∀xe f h,Q xe f h->Q' xe f h)(hv:awp e n r c Q f h):awp e n r c Q' f h :=
 λok pl0 w0 pl w a s=>wpIn_mono (hv ok pl0 w0 pl w a s) λex a w ⟨pl',f',h',xe,s,hx,hk⟩=>⟨pl',f',h',xe,s,hx,hq _ _ _ hk⟩
theorem bH{c:Operand}{x y:Code}{b:Bool}(hsc:(f.ev e c).sc)(hb:(f.ev e c).sv= .bool b)(hx:b=ab->awp e n r x Q f h)(hy:b=ac->awp e n r y Q f h):awp e n r (.cond c x y) Q f h:=by intro ok pl0 w0 pl w a s;have h1:=(s.ev c).sv hsc;rw[hb]at h1;simp only[VRel]at h1;refine wpIn_cond_split (t:=b) h1 (λht=>hx ht ok pl0 w0 pl w a s) (λhf=>hy hf ok pl0 w0 pl w a s)
def AC(Q:XE->Fr->H->Prop):Option Code->Fr->H->Prop
 |none=>Q .normal
 |some .ret=>Q .ret
 |some (.exit i)=>Q (.exit i)
 |some (.goto l)=>Q (.goto l)
 |_=>λ_ _=>False
def YJ(id:Nat)(Q:XE->Fr->H->Prop)(f1:Fr)(ae:AEnd)(h2:H)(p:Nat->Bool):Prop :=
 (∀i∈f1.d,p i=ac)/\match ae with
  | .ret _=>match h2[id]? with
   |some (.loop t n ps asg body st pend)=>(p id=ac/\st≠ .busy)/\AC Q pend (f1.drop p) (h2.set id (.loop t n ps asg body .exhausted pend))
   |_=>False
  | .pan v=>Q (.pan v) (f1.drop p) h2
theorem Dl{g:Operand}{ps:Array Tmp}{asg body:Code}{q:FuncId}{first captured:List V}(hsc:(f.ev e g).sc)(hg:(f.ev e g).sv= .fn (.func q) first captured)(hen:ah e.P q=ab)
 (hc:ag e q (first++[.yd (aa h+1)]++captured) (h++[.misc .dfd]++[.loop f.t n ps asg body .ready aq]) (YJ (aa h+1) Q {f with d:=h.length::f.d})):awp e n aq (.rangeFunc g ps asg body) Q f h:=by
 intro ok pl0 w0 pl w a s;refine wpIn_rangeFunc λfn _=> ?_;have h1:=(s.ev g).sv hsc;rw[hg]at h1;simp only[VRel]at h1;obtain⟨fs,cs,h2,h3,h4⟩:=h1;have hb1:(w.alloc (.deferred (al []))).heap[w.heap.size]? =al (.deferred (al [])):=World.alloc_heap_new w _;obtain⟨hs1,k1⟩:=s.hs.new (WExt.alloc w (.deferred (al []))) (.deferred (al [])) (.misc .dfd) (zrb _) (by simp) hb1
 let w1:=w.alloc (.deferred (al []))
 let rec0:Loop:={state:= .ready,pending:=aq,fn,tmps:=a.tmps,params:=ps,assign:=asg,body,defers:=w.heap.size}
 let pl1:=bz pl (aa h) w.heap.size
 have hsz1:w1.heap.size=w.heap.size+1:=by simp[w1]
 have hlen:aa (h++[O.misc .dfd])=aa h+1:=by simp
 have hb2:(w1.alloc (.loop rec0)).heap[w1.heap.size]? =al (.loop rec0):=World.alloc_heap_new w1 _;have hext2:CExt (λ_=>ac) (cx ok pl1 w1) (cx ok (bz pl1 (aa (h++[O.misc .dfd])) w1.heap.size) (w1.alloc (.loop rec0))):=by
  have x2:=WExt.alloc w1 (.loop rec0);refine⟨λb hb' hok=>⟨⟨hok.1,λi hi=> ?_⟩,x2.same b hb'⟩,λi b _ hi=> ?_,λb arr' el' fz hb'=>⟨arr',fz,(x2.same b (aW hb')).trans hb',rfl⟩⟩
  ·simp only[bz]at hi;split at hi
   ·cases hi;simp only[cx]at hb';omega
   ·exact hok.2 i (by simpa only[cx,bz]using hi)
  ·have:=hs1.pl_lt hi;simp only[cx,bz];rw[if_neg (by simp only[hlen]at *;omega)];exact hi
 obtain ⟨hs2,k2⟩ := hs1.new (WExt.alloc w1 (.loop rec0)) (.loop rec0) (.loop f.t n ps asg body .ready aq) (b := w1.heap.size) (zrb _) (by simp)
  ⟨rec0,hb2,rfl,rfl,rfl,rfl,rfl,s.size,λi=>VRel.mono hext2 _ _ (VRel.mono k1.cext _ _ (s.val i))⟩
 have k12:=k1.trans k2;have kk:Keeps (λ_=>ac) pl w (bz pl1 (aa (h++[O.misc .dfd])) w1.heap.size) (w1.alloc (.loop rec0)):=k12.weaken (λi hi=>by simp at hi);have hpd:(bz pl1 (aa (h++[O.misc .dfd])) w1.heap.size) (aa h)=al w.heap.size:=by
  have:aa h≠aa (h++[O.misc .dfd]):=by rw[hlen];omega
  simp[bz,pl1]
 have hpl:(bz pl1 (aa (h++[O.misc .dfd])) w1.heap.size) (aa h+1)=al (w.heap.size+1):=by simp[bz,hsz1]
 have sA := s.next0 hs2 kk;have sB : SSim e n ok pl0 w0 { f with d := h.length :: f.d } (h ++ [.misc .dfd] ++ [.loop f.t n ps asg body .ready aq]) (bz pl1 (aa (h ++ [O.misc .dfd])) w1.heap.size) (w1.alloc (.loop rec0))
  {a with defers:=[({target:= .collected w.heap.size,args:=#[]}:Deferred)]++a.defers} :=
  ⟨sA.hs,sA.kp,sA.size,sA.val,⟨w.heap.size,a.defers,rfl,hpd,sA.dfr⟩⟩
 have hargs:VList (cx ok (bz pl1 (aa (h++[O.misc .dfd])) w1.heap.size) (w1.alloc (.loop rec0))) (first++[.yd (aa h+1)]++captured) (fs.toList++[Value.func (.yield (w.heap.size+1)) #[] #[]]++cs.toList):=by refine VList.append (VList.append (VList.mono kk.cext _ _ h3) ?_) (VList.mono kk.cext _ _ h4);simp only[VList,VRel];exact⟨_,_,rfl,⟨w.heap.size+1,hpl,rfl⟩,rfl⟩
 refine⟨w.heap.size+1,_,w1.alloc (.loop rec0),{target:= .fn (.func q) cs,args:=fs++#[Value.func (.yield (w.heap.size+1)) #[] #[]]},w1.alloc (.loop rec0),q,(fs.toList++[Value.func (.yield (w.heap.size+1)) #[] #[]]++cs.toList).toArray,w1.alloc (.loop rec0),run_enterLoop_outer fn a.tmps ps asg body,?_,λ_ _=>trivial,?_,λhd'=>(by cases hd'),?_⟩
 ·have:(rangeCall g (w.heap.size+1)).args.map a.eval=#[Value.func (.yield (w.heap.size+1)) #[] #[]]:=by simp[Act.eval]
  unfold resolve;rw[this];show(Deferred.ofValue (a.eval g) _).run _ _=_;rw[h2];rfl
 ·simp only[invoke];rw[qK hen]
  congr 2
  apply Array.ext';simp
 ·refine fH (r:=aq) ((hc ok _ _ _ sB.hs hargs).mono ?_);rintro en w' ⟨p,pl',h',ae,hs',k,hend,hp,hk⟩;have sC:=sB.next hs' k hp
  cases ae with
  |ret v =>
   cases en with
   |returned x =>
    dsimp only at hk;split at hk
    ·rename_i t2 n2 ps2 asg2 body2 st2 pend2 hc2;obtain⟨⟨hpi,hbusy⟩,hj⟩:=hk;have hb3:pl' (aa h+1)=al (w.heap.size+1):=k.keep _ _ hpi hpl;obtain⟨rec2,g1,g2,g3,g4,g5,g6,g7,hs3,k3⟩:=hs'.loopSet hb3 hc2 .exhausted pend2;have hrec:({rec2 with state:= .exhausted}:Loop)={rec2 with state:= .exhausted,pending:=pend2}:=by rw[<-g3]
     refine⟨_,_,run_endLoop g1 (by rw[g2];exact hbusy),?_⟩;rw[g3];have sD:=sC.next0 hs3 k3;cases pend2 with
     |none=>exact⟨_,_,_,.normal,sD,trivial,hj⟩
     |some c =>
      cases c<;>try exact hj.elim
      ·exact wpIn_exit ⟨_,_,_,.exit _,sD,rfl,hj⟩
      ·exact wpIn_goto ⟨_,_,_,.goto _,sD,rfl,hj⟩
      ·exact wpIn_ret ⟨_,_,_,.ret,sD,trivial,hj⟩
    ·exact hk.elim
   |panicked ch=>exact hend.elim
   |outgrown=>exact hend.elim
  |pan v =>
   cases en with
   |returned x=>exact hend.elim
   |panicked ch=>exact⟨_,_,_,.pan v,sC,hend,hk⟩
   |outgrown=>exact hend.elim
def Dn(o:Oper):Bool:=match o.op with
 | .call {callee:= .value _,..}=>ab
 |_=> !kL o.op
def vc(e:E)(n:Nat)(r:Option Nat):Code->(XE->Fr->H->Prop)->Fr->H->Prop
 | .skip,Q,f,h=>Q .normal f h
 | .label _,Q,f,h=>Q .normal f h
 | .exit i,Q,f,h=>Q (.exit i) f h
 | .goto l,Q,f,h=>Q (.goto l) f h
 | .ret,Q,f,h=>Q .ret f h
 | .seq x y,Q,f,h=>vc e n r x (XE.seq (vc e n r y Q) Q) f h
 | .cond c x y,Q,f,h=>match (f.ev e c).sv with
  | .bool b=>(f.ev e c).sc/\vcB b (vc e n r x Q) (vc e n r y Q) f h
  |_=>False
 | .block id x,Q,f,h=>vc e n r x (XE.block id Q) f h
 | .region _ ops ac,Q,f,h=>ru e n ops Q ops.toList f h
 | .region id ops ab,Q,f,h=>match ops.toList.all Dn with
  |true=>Region.lexB .any ops=ab/\gX e n ops h (TL Q h) ops.toList f
  |false=>awp e n r (.region id ops ab) Q f h
 | .loop c,Q,f,h=>awp e n r (.loop c) Q f h
 | .rangeFunc fn ps asg body,Q,f,h=>awp e n r (.rangeFunc fn ps asg body) Q f h
 | .scope c,Q,f,h=>awp e n r (.scope c) Q f h
 | .refuse s,Q,f,h=>False
theorem bU(hm:e.P.follows .mixedOrders=ab):∀(c:Code)(Q:XE->Fr->H->Prop)(f:Fr)(h:H),vc e n r c Q f h->awp e n r c Q f h
 | .skip,Q,f,h,hv=>λok pl0 w0 pl w a s=>wpIn_skip ⟨pl,f,h,.normal,s,trivial,hv⟩
 | .label _,Q,f,h,hv=>λok pl0 w0 pl w a s=>wpIn_label ⟨pl,f,h,.normal,s,trivial,hv⟩
 | .exit i,Q,f,h,hv=>λok pl0 w0 pl w a s=>wpIn_exit ⟨pl,f,h,.exit i,s,rfl,hv⟩
 | .goto l,Q,f,h,hv=>λok pl0 w0 pl w a s=>wpIn_goto ⟨pl,f,h,.goto l,s,rfl,hv⟩
 | .ret,Q,f,h,hv=>λok pl0 w0 pl w a s=>wpIn_ret ⟨pl,f,h,.ret,s,trivial,hv⟩
 | .seq x y,Q,f,h,hv=>ak (bf (λxe f h hq=>by cases xe<;>first|exact bU hm y Q f h hq|exact hq) (bU hm x _ f h hv))
 | .cond c x y,Q,f,h,hv=>by
  simp only[vc]at hv;split at hv
  ·rename_i b hb;exact bH hv.1 hb (λht=>bU hm x Q f h (hv.2.1 ht)) (λhf=>bU hm y Q f h (hv.2.2 hf))
  ·exact hv.elim
 | .block id x,Q,f,h,hv=>aB (bU hm x _ f h hv)
 | .region id ops ac,Q,f,h,hv=>λok pl0 w0 pl w a s=>wpIn_region_list (xZ ops.toList f h hv pl w a s)
 | .region id ops ab,Q,f,h,hv=>by
  rw[vc]at hv;cases hq:ops.toList.all Dn with
  |true=>rw[hq]at hv;exact λok pl0 w0 pl w a s=>Me hm hv.1 hv.2 s
  |false=>rw[hq]at hv;exact hv
 | .loop c,Q,f,h,hv=>hv
 | .rangeFunc fn ps asg body,Q,f,h,hv=>hv
 | .scope c,Q,f,h,hv=>hv
 | .refuse s,Q,f,h,hv=>hv.elim
theorem SSim.cut{ok:Nat->Prop}{pl0 pl:Nat->Option Nat}{w0 w:World}{a:Act}(s:SSim e n ok pl0 w0 f h pl w a)(k:Nat)(hd:∀i∈f.d,i<k) :
 SSim e n ok pl0 w0 (f.drop (λi=>ar (k<=i))) ((h.map (O.drop λi=>ar (k<=i))).take k) (λi=>if i<k then pl i else aq) w a:=by
 have kp:Keeps (λi=>ar (k<=i)) pl w (λi=>if i<k then pl i else aq) w:=by
  refine⟨rfl,rfl,rfl,zrb _,λ_ _ _=>rfl,λi b hi=> ?_,λi b hp hi=> ?_,λb arr el fz hb=>⟨arr,fz,hb,rfl⟩⟩
  ·skip
   split at hi
   ·exact .inl ⟨i,hi⟩
   ·cases hi
  ·simp only[zqd,Nat.not_le]at hp;rw[if_pos hp];exact hi
 refine s.next (s.hs.next kp ?_ ?_ ?_ ?_) kp (λi hi=>by simpa using hd i hi)
 ·intro i b hi;split at hi
  ·exact s.hs.lt i b hi
  ·cases hi
 ·intro i j b hi hj
  skip
  split at hi
  ·split at hj
   ·exact s.hs.inj i j b hi hj
   ·cases hj
  ·cases hi
 ·intro i b hi;split at hi
  ·rename_i hik;exact .inl ⟨hi,rfl,by rw[List.getElem?_take];simp[hik]⟩
  ·cases hi
 ·intro i o ho hi;rw[List.getElem?_take]at ho;split at ho
  ·rename_i hik;rw[if_pos hik]at hi;rw[zqo]at ho;cases hh:h[i]? with
   |none=>rw[hh]at ho;cases ho
   |some o' =>
    rw[hh]at ho;have ho:o'.drop (λi=>ar (k<=i))=o:=by simpa using ho
    rcases s.hs.bare i o' hh hi with rfl|rfl<;>subst ho<;>simp[O.drop,ap]
  ·cases ho
def Cut(I:Fr->H->Prop)(f:Fr)(h:H):Prop :=
 I f h\/∃k,(∀i∈f.d,i<k)/\I (f.drop (λi=>ar (k<=i))) ((h.map (O.drop λi=>ar (k<=i))).take k)
theorem OQ{c:Code}(hc:Cut (awp e n r c Q) f h):awp e n r c Q f h:=by
 rcases hc with hc|⟨k,hd,hc⟩
 ·exact hc
 ·intro ok pl0 w0 pl w a s;exact hc ok pl0 w0 _ w a (s.cut k hd)
theorem aF{c:Code}(I:Nat->Fr->H->Prop)(m₀:Nat)(h₀:I m₀ f h)
 (round:∀m f h,I m f h->awp e n r c (XE.seq (Cut λf' h'=>∃m',m'<m/\I m' f' h') Q) f h):awp e n r (.loop c) Q f h:=by
 intro ok pl0 w0 pl w a s;refine wpIn_loop_ghost (λm a w=>∃pl f h,SSim e n ok pl0 w0 f h pl w a/\I m f h) m₀ ⟨pl,f,h,s,h₀⟩ ?_;rintro m a w ⟨pl,f,h,s,hI⟩;refine wpIn_mono (round m f h hI ok pl0 w0 pl w a s) (iM.seq ?_);rintro pl f h a w s (⟨m',hlt,hI'⟩|⟨k,hd,m',hlt,hI'⟩)
 ·exact⟨m',hlt,pl,f,h,s,hI'⟩
 ·exact⟨m',hlt,_,_,_,s.cut k hd,hI'⟩
end
end Go.Abs
