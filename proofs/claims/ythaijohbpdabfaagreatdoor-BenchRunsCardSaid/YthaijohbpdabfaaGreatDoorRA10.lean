/- Lemmas for this claim, part A10: each holds under what it names. -/
import Derived.Test.YthaijohbpdabfaaGreatDoorRA9
import Derived.Test.YthaijohbpdabfaaGreatDoorRA8
import Derived.Test.YthaijohbpdabfaaGreatDoorRA7
import Derived.Lib.ConvBytes
import Derived.RowKit
set_option linter.all false
namespace Go.Abs
open Go Go.RowKit
open List renaming length → aa, replicate → ao
open Bool renaming true → ab, false → ac
open Option renaming some → al, none → aq
open Decidable renaming decide → ar
open Go.IntKind renaming wrap → aD
open Go.Result renaming andThen → aM
open Go.Abs.V renaming drops → ap, dat → aE, dats → aL
section
variable{e:E}{n:Nat}{r:Option Nat}{ops:Array Oper}{h:H}{Q:XE->Fr->H->Prop}{ok:Nat->Prop}{pl0:Nat->Option Nat}{w0:World}
def opE(e:E)(n:Nat)(r:Option Nat)(ops:Array Oper)(i:Nat)(Kn:Fr->H->Prop)(Q:XE->Fr->H->Prop)(f:Fr)(h:H):Prop :=
 ∃o,ops[i]? =al o/\o.guard=aq/\jF n o.dst=ab/\Eff e n r o f h Kn Q
theorem Y8{i:Nat}{Kn:Fr->H->Prop}{f:Fr}{h:H}(hv:opE e n r ops i Kn Q f h){K':Act->World->Prop}
 (hk:∀f h pl w a,SSim e n ok pl0 w0 f h pl w a->Kn f h->K' a w) {pl:Nat->Option Nat} {w:World} {a:Act} (s:SSim e n ok pl0 w0 f h pl w a) :
 wpOpIn (RF r) 0 e.P ops (iM e n ok pl0 w0 Q) i K' a w:=by
 obtain⟨o,ho,hg,hd,he⟩:=hv;unfold wpOpIn;simp only[ho];have hgd:gd ops f o=al ab:=by unfold gd;rw[hg]
 have hw:=rZ s.val hgd;rw[if_pos hw];exact Oper.wpIn_mono (λa' w' ⟨pl',f',h',s',hk'⟩=>hk _ _ _ _ _ s' hk') (he ok pl0 w0 pl w a s hd)
theorem Uh(hna:∀(j:Nat)(o:Oper),ops[j]? =al o->bT o=ac)(hB:MS ops=ab):∀(fuel:Nat)(listed:Array Bool)(f:Fr),
 xf e n ops h (ops.size-1) (λf1=>opE e n r ops (ops.size-1) (λf' h'=>Q .normal f' h') Q f1 h) fuel listed f ->
 xJ ops listed->∀pl w a,SSim e n ok pl0 w0 f h pl w a->wpAnyIn (RF r) 0 e.P .any ops (iM e n ok pl0 w0 Q) (fuel+1) listed a w:=by
 have lastly:∀(fuel:Nat)(listed:Array Bool)(f:Fr),opE e n r ops (ops.size-1) (λf' h'=>Q .normal f' h') Q f h->xJ ops listed->ops.size-1∈Region.ready .any ops listed ->
  ∀pl w a,SSim e n ok pl0 w0 f h pl w a->wpOpIn (RF r) 0 e.P ops (iM e n ok pl0 w0 Q) (ops.size-1) (wpAnyIn (RF r) 0 e.P .any ops (iM e n ok pl0 w0 Q) fuel (listed.setIfInBounds (ops.size-1) ab)) a w:=by
  intro fuel listed f hv hc hr pl w a k;exact Y8 hv (λf' h' pl' w' a' s' hq=>wpAnyIn_done (Fj hB hc hr) ⟨pl',f',h',.normal,s',trivial,hq⟩ fuel) k
 intro fuel
 induction fuel with
 |zero =>
  intro listed f hL hc pl w a k;refine⟨λh0=>(by rw[hL.1]at h0;cases h0),λi hi=> ?_⟩;have hil:i=ops.size-1:=by rw[hL.1]at hi;simpa using hi
  subst hil;exact lastly _ _ _ hL.2 hc hi pl w a k
 |succ fuel ih =>
  intro listed f hL hc pl w a k;refine⟨λh0=>absurd h0 hL.1,λi hi=> ?_⟩;by_cases hil:i=ops.size-1
  ·subst hil;exact lastly _ _ _ (hL.2.1 (JQ hB hc hi)) hc hi pl w a k
  ·have h1:=hL.2.2 i hi hil;obtain⟨hun,o,ho,_⟩:=mem_ready.1 hi;unfold xI at h1;rw[ho]at h1;obtain⟨v,hy,hn⟩:=h1;rcases hy with⟨h2,_⟩|⟨_,hd,g,v',hg,hv,rfl⟩
   ·rw[hna i o ho]at h2;cases h2
   ·unfold wpOpIn;rw[ho];dsimp only;have hw:=rZ k.val hg;cases g with
    |true=>rw[if_pos hw];exact(hv rfl).wpIn k λx w' hx hr=>ih _ _ hn (hc.set hi) pl w' _ ((k.next0 (k.hs.wext hx) (hx.keeps k.hs)).put hd hr)
    |false=>rw[if_neg (by rw[hw];simp)];exact⟨λg _=>iD r g,ih _ _ hn (hc.set hi) pl w _ (k.put hd (jg (λhf=>by cases hf) (λ_=>rfl)))⟩
theorem Pq(hm:e.P.follows .mixedOrders=ab){id:Nat}{f:Fr}(hB:(JR ops&&ops.all λo=> !bT o)=ab)
 (hv:bJ e n ops h (λf1=>opE e n r ops (ops.size-1) (λf' h'=>Q .normal f' h') Q f1 h) (ops.toList.take (ops.size-1)) f):awp e n r (.region id ops ab) Q f h:=by
 intro ok pl0 w0 pl w a s;unfold JR at hB;simp only[zqf,zqb]at hB;obtain⟨⟨⟨hpos,hB1⟩,hB2⟩,hB3⟩:=hB;have x:WExt w {w with drawn:=w.drawn+1}:=WExt.drew w;have hlen:aa (ops.toList.take (ops.size-1))=ops.size-1:=by rw[zrl];simp
 have hL:=vW (e:=e) (n:=n) (h:=h) (last:=ops.size-1) (ops.toList.take (ops.size-1)) 0 (Array.replicate ops.size ac) f Ph (by rw[hlen];exact hB2) (gq _ _ hv);rw[hlen]at hL;have:=Uh (r:=r) (ok:=ok) (pl0:=pl0) (w0:=w0) (λj o ho=>by
  have h1:=Array.all_eq_true.1 hB3;obtain⟨hl,rfl⟩:=Array.getElem?_eq_some_iff.1 ho;simpa using h1 j hl) hB1 _ _ _ hL xJ.none pl _ a (s.next0 (s.hs.wext x) (x.keeps s.hs))
 rw[show ops.size-1+1=ops.size by omega]at this;exact wpIn_region_any hm this
end
section
variable{e:E}{n:Nat}{r:Option Nat}{o:Oper}{f:Fr}{h:H}{Kn:Fr->H->Prop}{Q:XE->Fr->H->Prop}
end
section
variable{e:E}{n:Nat}{r:Option Nat}{f:Fr}{h:H}{Q:XE->Fr->H->Prop}
end
section
variable{e:E}{n:Nat}{r:Option Nat}{ops:Array Oper}{Q:XE->Fr->H->Prop}
end
section
variable{e:E}{n:Nat}
end
section
variable{e:E}{n:Nat}{r:Option Nat}{o:Oper}{f:Fr}{h:H}{Kn:Fr->H->Prop}{Q:XE->Fr->H->Prop}
theorem MW{ok:Nat->Prop}{pl:Nat->Option Nat}{w:World}(hs:HSim e ok pl h w)(el:TypeId)(s:ByteArray){l:List UInt8}(hl:s.data.toList=l) :
 HSim e ok (bz pl (aa h) w.heap.size) (h++[.cells (l.map λc=> .int .u8 c.toNat)]) (Lib.bytesWorld w el s)/\Keeps (λ_=>ac) pl w (bz pl (aa h) w.heap.size) (Lib.bytesWorld w el s):=by
 have x2:WExt w (Lib.bytesWorld w el s):=⟨rfl,rfl,rfl,by rw[Lib.bytesWorld_size];omega,λk hk=>Lib.bytesWorld_at_old w el s k hk⟩;have hb:=Lib.bytesWorld_at_new w el s;have hsz:aa l=s.data.size:=by rw[<-hl];simp
 have key:∀(c':C),c'.w=Lib.bytesWorld w el s->OAt c' w.heap.size (.cells (l.map λc=> .int .u8 c.toNat)):=by
  intro c' hw;refine⟨Lib.bytesCells w el s,el,_,by rw[hw];exact hb,λj hj=> ?_,?_,?_⟩
  ·show ¬((Lib.bytesCells w el s).size<=j/\_);intro hh;have:(Lib.bytesCells w el s).size<=j:=hh.1;omega
  ·simp only[Lib.bytesCells,Array.size_append,Array.size_map,zra];omega
  ·have e1:(Lib.bytesCells w el s).toList.take (aa (l.map λc=>V.int .u8 c.toNat))=l.map λc=>Value.int .u8 c.toNat:=by rw[zra,hsz];simp only[Lib.bytesCells,Array.toList_append,Array.toList_map,hl];rw[List.take_left' (by rw[zra,hsz])]
   rw[e1];clear e1 hsz hl hb
   induction l with
   |nil=>simp[VList]
   |cons a l ih=>simp only[zrd,VList];exact⟨_,_,rfl,by simp only[VRel],ih⟩
 exact hs.new x2 (.cells (Lib.bytesCells w el s) el ((Lib.bytesCells w el s).size,(Lib.bytesCells w el s).size+1)) (.cells (l.map λc=> .int .u8 c.toNat)) (zrb _) (by rw[Lib.bytesWorld_size];omega) (key _ rfl)
theorem Pv{t tt el:TypeId}{x:Operand}(hop:o.op= .convert t tt x){q qs re:TI}(ht:ti e.P t=al qs)(hks:qs.kind= .str)(htt:ti e.P tt=al q)(hk0:q.kind= .slice el)(hre:ti e.P el=al re)(hku:re.kind= .int .u8)
 (hsc:(f.ev e x).sc) {l:List UInt8} (hx:(f.ev e x).sv= .str l) (hl:aa l<=1000000000000)
 (hk:Kn (f.put o.dst (.ls (aa h) 1 0 (aa l) (aa l))) (h++[.cells (l.map λc=> .int .u8 c.toNat)])):Eff e n r o f h Kn Q:=by
 refine aV ?_ (λc=>by rw[hop];exact λh=>by cases h);intro ok pl w ev hs hr;obtain⟨i,d,z,hT⟩:=aG htt;have hd:=hT.slice hk0;subst hd;obtain⟨is,ds,zs,hS⟩:=aG ht;obtain⟨ie,de,ze,hE⟩:=aG hre;have hde:=hE.int hku;subst hde;have hxv:=(hr x (by simp[hop,Op.operands])).sv hsc;rw[hx]at hxv;simp only[VRel]at hxv;obtain⟨s,hxs,hsl,hmx⟩:=hxv;have hrun:=Lib.run_convert_string_bytes (P:=e.P) w t tt el s hS.und hT.und hE.und;have h4:execOp ev o=(do pure (Next.value (<-convert t tt (ev x)))):=by simp only[execOp,hop]
 obtain⟨h1',h2'⟩:=MW hs el s hsl;have hsz:s.size=aa l:=by rw[<-hsl,Array.length_toList];rfl
 have hM:=mLx;have hg:=grownCap_ge w s.size 0 el;refine⟨λ_=>ac,.ls (aa h) 1 0 (aa l) (aa l),_,_,_,.slice (al ⟨w.heap.size,0,aq⟩) s.size (grownCap w s.size 0 el),.inl ?_,h1',h2',?_,λ_ _=>rfl,by simpa using hk⟩
 ·rw[h4,hxs];exact gJ hrun
 ·simp only[VRel];refine⟨_,grownCap w s.size 0 el,by rw[hsz],by omega,by omega,?_,.inr ⟨w.heap.size,Lib.bytesCells w el s,el,_,by simp[cx,bz],rfl,Lib.bytesWorld_at_new w el s,?_⟩⟩
  ·exact grownCap_le_maxLen w s.size 0 el (by omega)
  ·simp only[Lib.bytesCells,Array.size_append,Array.size_map,Array.size_replicate];have:s.data.size=s.size:=rfl;omega
theorem Px{x:Operand}{ts:Array TypeId}{t el:TypeId}{q re:TI}(hop:o.op= .call {callee:= .builtin .clear,args:=#[x],argTypes:=ts})(ht:ts[0]? =al t)(hti:Abs.ti e.P t=al q)(hkind:q.kind= .slice el)(htie:Abs.ti e.P el=al re)
 (hxc:(f.ev e x).sc) {id off len cap:Nat} (hx:(f.ev e x).sv= .ls id 1 off len cap) {cs0:List V} (hc:h[id]? =al (.cells cs0)) (hl:off+len<=aa cs0) {zv:V} (hzf:re.zero.fit=ab) (hzv:re.zero.vc=[zv]) (h1:zv.one=ab)
 (hk:Kn (f.put o.dst (.tup [])) (h.set id (.cells (di cs0 off (ao len zv))))):Eff e n r o f h Kn Q:=by
 refine aV ?_ (λc=>by rw[hop];exact λh=>by cases h);intro ok pl w ev hs hr;obtain⟨i,d,z,hT⟩:=aG hti;have hd:=hT.slice hkind;subst hd;obtain⟨ie,de,ze,hE⟩:=aG htie;have hxv:=(hr x (by simp[hop,Op.operands,Call.operands])).sv hxc;rw[hx]at hxv;simp only[VRel]at hxv;obtain⟨a,cp,hxb,hcap,hlen,hmax,hpl⟩:=hxv;have hzr:=(dA (cx ok pl w) ze).vc (by rw[<-hE.zv];exact hzf);rw[<-hE.zv,hzv]at hzr;obtain⟨zc,hzc,hzrel⟩:∃zc,ze.cells.toList=[zc]/\VRel (cx ok pl w) zv zc:=by
  simp only[VList]at hzr;obtain⟨y,ys,h1,h2,rfl⟩:=hzr;exact⟨y,h1,h2⟩
 have hvz:∀k,VList (cx ok pl w) (ao k zv) (ao k zc):=by
  intro k
  induction k with
  |zero=>simp[VList]
  |succ k ih=>simp only[List.replicate_succ,VList];exact⟨_,_,rfl,hzrel,ih⟩
 have hnz:(Builtin.zeroCells ze.cells len).toList=ao len zc:=by
  have:ze.cells=#[zc]:=Array.toList_inj.1 hzc;apply List.ext_getElem?;intro j;simp[Builtin.zeroCells,this,List.getElem?_replicate];by_cases hj:j<len
  ·rw[List.getElem?_range hj,if_pos hj];simp[Nat.mod_one]
  ·rw[zsj (by simp;omega),if_neg hj];rfl
 have hao:∀k,dB (ao k zv)=ab:=by
  intro k
  induction k with
  |zero=>rfl
  |succ k ih=>rw[List.replicate_succ];simp only[dB,h1,ih,zre]
 have hh : execOp ev o = (do
  let d <-resolve ev {callee:= .builtin .clear,args:=#[x],argTypes:=ts} o.type
  invoke d.target d.args):=by simp[execOp,hop]
 by_cases hl0:len=0
 ·subst hl0;have hset:h.set id (.cells (di cs0 off []))=h:=by
   have:di cs0 off []=cs0:=by unfold di;simp
   rw[this];apply List.ext_getElem?;intro j;by_cases hj:id=j
   ·subst hj;rw[zqt (zqe hc).1,hc]
   ·rw[zqn hj]
  have hk':Kn (f.put o.dst (.tup [])) (h.set id (.cells (di cs0 off []))):=hk;rw[hset]at hk';have hb:(Builtin.clear_ ts o.type #[ev x]).run e.P w= .ok (.tuple #[]) w:=by unfold Builtin.clear_;cases a<;>simp[ht,hT.run_und,aM,hxb]
  refine⟨λ_=>ac,.tup [],h,pl,w,.tuple #[],.inl ?_,hs,Keeps.refl _ _,by simp only[VRel];exact⟨_,rfl,by simp only[VList]⟩,λ_ _=>rfl,by simpa using hk'⟩;rw[hh];simp[resolve,invoke,builtin,hb,aM]
 ·rcases hpl with hcp|⟨b,arr,el',fz,hb,hbs,harr,hsz⟩
  ·omega
  ·subst hbs;have hb':pl id=al b:=hb;obtain⟨w',hrun,hs',k⟩:=rX (off:=off) hs hb' (hvz len) (hao len) hc (by rw[zsc];omega);obtain⟨m,rfl⟩:∃m,len=m+1:=⟨len-1,by omega⟩;have hbb:(Builtin.clear_ ts o.type #[ev x]).run e.P w= .ok (.tuple #[]) w':=by
    unfold Builtin.clear_;simp[ht,hT.run_und,aM,hxb,hE.run_zero,hnz,hrun]
   refine⟨λ_=>ac,.tup [],_,pl,w',.tuple #[],.inl ?_,hs',k,by simp only[VRel];exact⟨_,rfl,by simp only[VList]⟩,λ_ _=>rfl,by simpa using hk⟩;rw[hh];simp[resolve,invoke,builtin,hbb,aM]
end
section
variable{P:Program}{w:World}
theorem xK{ts:Array TypeId}{t xt ty el:TypeId}{r re rx:TI}{i ie ix:TypeInfo}{de:TypeDesc}{z ze zx:Value}{kx:IntKind}(h0:ts[0]? =al t)(h1:ts[1]? =al xt)
 (hT:TIs P t r i (.slice el) z) (hE:TIs P el re ie de ze) (hX:TIs P xt rx ix (.int kx) zx)
 (m:Nat) (hm:0<m) (hm1:m<=1000000000000) (hb:m*re.bytes<=140737488355328) (hsz:0<re.size) :
 (Builtin.append_ ts ty #[.slice aq 0 0,.int .i64 m]).run P w =
  .ok (.slice (al ⟨w.heap.size,0,aq⟩) m (grownCap w m 0 el))
   (w.drew.alloc (.cells (Builtin.zeroCells ze.cells m++Builtin.zeroCells ze.cells (grownCap w m 0 el-m)) el)):=by
 have h48':¬(281474976710656<Builtin.nextslicecap m 0*re.bytes):=by have:=growslice_fits (need:=m) (old:=0) hm hb;omega
 have hw:aD .i64 (m:Int)=m:=yQ (by omega) (by omega);have hbytes:(typeInfo el).run P w= .ok ie w:=by simp[typeInfo,hE.info]
 have hneg:¬((m:Int)<0):=by omega
 have hbig:¬((281474976710656:Int)<(m:Int)*ie.bytes):=by
  have h2:((m*re.bytes:Nat):Int)<=140737488355328:=by omega
  rw[<-hE.bytes];rw[Int.natCast_mul]at h2;omega
 have hns:m*re.size≠0:=Nat.mul_ne_zero (by omega) (by omega);have h63:¬(9223372036854775807<(m:Int)):=by omega
 have hs0:re.size≠0:=by omega
 unfold Builtin.append_;simp only[h0,h1,List.getElem?_toArray,List.getElem?_cons_zero,List.getElem?_cons_succ,Sem.run_bind,hT.run_und,aM,hE.run_size,hX.run_und,Sem.run_pure];simp[asInt,asIntOf,hw,hneg,hbig,hbytes,aM,h63,hE.bytes▸h48',Question.forced,hE.run_zero,newRow,grownCap,typeInfo,hE.info,Builtin.firstCells,show m≠0 by omega,hs0];rw[if_neg hns];rfl
end
section
variable{e:E}{n:Nat}{r:Option Nat}{o:Oper}{f:Fr}{h:H}{Kn:Fr->H->Prop}{Q:XE->Fr->H->Prop}
theorem xM{x y:Operand}{t xt el:TypeId}{q re:TI}(ha:IsAppend e o x y t xt el q re)(hxc:(f.ev e x).sc)(hyc:(f.ev e y).sc)
 (hx:(f.ev e x).sv= .nils) {m:Nat} (hy:(f.ev e y).sv= .int .i64 m) {rx:TI} {kx:IntKind} (hxt:Abs.ti e.P xt=al rx) (hkx:rx.kind= .int kx)
 (hm:0<m) (hm1:m<=1000000000000) (hb:m*re.bytes<=140737488355328) (hsz:0<re.size)
 (hk:Kn (f.put o.dst (.ls (aa h) re.size 0 m 0)) (h++[.cells []])):Eff e n r o f h Kn Q:=by
 obtain⟨⟨ts,hop,ht0,ht1⟩,hti,hkind,htie,hzf,hzl,hpos⟩:=ha;refine aV ?_ (λc=>by rw[hop];exact λh=>by cases h);intro ok pl w ev hs hr;obtain⟨i,d,z,hT⟩:=aG hti;have hd:=hT.slice hkind;subst hd;obtain⟨ie,de,ze,hE⟩:=aG htie;obtain⟨ix,dx,zx,hX⟩:=aG hxt;have hdx:=hX.int hkx;subst hdx;have hxv:=(hr x (by simp[hop,Op.operands,Call.operands])).sv hxc;have hyv:=(hr y (by simp[hop,Op.operands,Call.operands])).sv hyc;rw[hx]at hxv;rw[hy]at hyv;simp only[VRel]at hxv hyv;have hrun:=xK (P:=e.P) (w:=w) (ty:=o.type) ht0 ht1 hT hE hX m hm hm1 hb hsz;obtain⟨cap,hcap⟩:∃cap,grownCap w m 0 el=cap:=⟨_,rfl⟩;have hge:=grownCap_ge w m 0 el;have hle:=grownCap_le_maxLen w m 0 el (by simp only[maxLen];omega);rw[hcap]at hrun hge hle;have hzr:=(dA (cx ok pl w) ze).vc (by rw[<-hE.zv];exact hzf);rw[<-hE.zv]at hzr;have hz1:ze.cells.size=re.size:=by rw[<-Array.length_toList];exact hzr.length.trans hzl
 obtain⟨arr,harr⟩:∃arr,Builtin.zeroCells ze.cells m++Builtin.zeroCells ze.cells (cap-m)=arr:=⟨_,rfl⟩;rw[harr]at hrun;have hasz:arr.size=cap*re.size:=by
  rw[<-harr];simp only[Array.size_append,size_zeroCells,hz1];rw[<-Nat.add_mul]
  congr 1
  omega
 obtain⟨hs',kk⟩:=qI hs (cs:=[]) (arr:=arr) (Nat.zero_le _) (by simp[VList]) el (WExt.drew w);refine⟨λ_=>ac,_,_,_,_,.slice (al ⟨w.heap.size,0,aq⟩) m cap,.inl ?_,hs',kk,?_,λ_ _=>rfl,by rw[Fr.drop_none];exact hk⟩
 ·rw[dE hop,hxv,hyv];exact gJ hrun
 ·simp only[VRel];refine⟨_,cap,rfl,Nat.zero_le _,hge,hle,.inr ⟨w.heap.size,arr,el,(0,0),by simp[cx,bz],rfl,?_,by rw[hasz];omega⟩⟩;exact World.alloc_heap_new w.drew (.cells arr el)
end
end Go.Abs
