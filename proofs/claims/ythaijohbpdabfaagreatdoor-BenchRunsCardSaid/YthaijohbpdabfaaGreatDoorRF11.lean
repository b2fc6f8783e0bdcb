/- Lemmas for this claim, part F11: each holds under what it names. -/
import Derived.Test.YthaijohbpdabfaaGreatDoorRF10
import Derived.Test.YthaijohbpdabfaaGreatDoorRF01
import Derived.Test.YthaijohbpdabfaaGreatDoorRA7
import Derived.Test.YthaijohbpdabfaaGreatDoorRF02
import Derived.Test.YthaijohbpdabfaaGreatDoorRF08
import Derived.Test.YthaijohbpdabfaaGreatDoorRA8
set_option linter.all false
set_option maxRecDepth 20000
set_option maxHeartbeats 8000000
namespace Go.Proofs.YthaijohbpdabfaaGreatDoor
open Go Go.Proofs Go.Abs
open List renaming length → aa, replicate → ao
open Bool renaming true → ab, false → ac
open Option renaming some → al, none → aq
open Decidable renaming decide → ar
open Go.IntKind renaming wrap → aD
open Go.Result renaming andThen → aM
open Go.Abs.O renaming cells → am
open Go.Abs.V renaming drops → ap, dat → aE, dats → aL
theorem G6{h:H}{i:Nat}{o:O}(hi:h[i]? =al o):h.set i o=h:=by
 refine List.ext_getElem? λj=> ?_;rw[List.getElem?_set];split
 ·rename_i e;subst e;rw[if_pos (zqe hi).1,hi]
 ·rfl
theorem Yi{a Z b:List S}{z r:S}:((a++z::Z++b).map V.str).take (aa a*1)++[V.str r]++((a++z::Z++b).map V.str).drop (aa a*1+1)=(a++r::Z++b).map V.str:=by
 have e:(a++z::Z++b).map V.str=a.map V.str++(V.str z::(Z++b).map V.str):=by simp
 have e2:(a++r::Z++b).map V.str=a.map V.str++(V.str r::(Z++b).map V.str):=by simp
 have hl:aa a=aa (a.map V.str):=by rw[zra]
 rw[Nat.mul_one,e,e2,hl,List.take_left,List.drop_length_add_append,zqc];rfl
theorem Yj{a Z b:List S}{x:S}{j:Nat}(h:aa a+aa Z=j)(d:V):((a++Z++x::b).map V.str).getD j d= .str x:=by
 have hj:j=aa (a++Z):=by rw[zqa];omega
 rw[zqg,zqo,hj,zsb (zrb _),Nat.sub_self];rfl
theorem G7[MO]{h:H}{id:Nat}{rows:List S}(hid:h[id]? =al (am (rows.map V.str)))(hl:aa rows<=1000000)(q:FuncId)(caps:List V)(p:S->Bool)(he:ah P q=ab)(hd:aL caps=ab)(hq:∀x∈rows,Ev TE q (.str x::caps) (.bool (p x)))
 {R:AEnd->H->(Nat->Bool)->Prop} (hr:∀X cap,R (.ret (.ls id 1 0 (aa (rows.filter λr=> !p r)) cap)) (h.set id (am ((rows.filter λr=> !p r).map V.str++X))) (λ_=>ac)) :
 ag TE 219 [.ls id 1 0 (aa rows) (aa rows),.fn (.func q) [] caps] h R:=by
 have hM:=mLx;have hix:=PX rows q caps p he hd hq;have lid:=(zqe hid).1;refine aj Tryz.func219 rfl (by simp[nts]) ?_;refine vn ?_;simp only[wq.1,seval,Tryz.results219];refine vn ?_;simp only[wq.1,seval];refine ag.lend hix (au.cons (aX hid rfl) (au.cons (aC.dat (by simp only[aE,hd,aL,zre])) au.nil)) rfl ?_;simp only[wq.1,seval];have hidx:idx rows p=match rows.findIdx? p with|some i=>(i:Int)|none=>-1:=rfl
 rw[hidx];cases hfi:rows.findIdx? p with
 |none =>
  have hall:rows.filter (λr=> !p r)=rows:=List.filter_eq_self.2 λa ha=>by rw[List.findIdx?_eq_none_iff]at hfi;rw[hfi a ha];rfl
  have e1:((-1:Int)==-1)=ab:=rfl;dsimp only;refine vm ?_;simp only[wq.1,seval];have:=hr [] (aa rows);rw[hall,zqp,G6 hid]at this;exact this
 |some i =>
  obtain⟨hi,hpi,hlt⟩:=List.findIdx?_eq_some_iff_getElem.1 hfi;have e1:((i:Int)==-1)=ac:=by rw[beq_eq_false_iff_ne];omega
  have wi:=aA (show i<maxLen by omega);dsimp only;refine vn ?_;simp only[wq.1,seval,e1];refine vn ?_;simp only[wq.1,seval,wi];obtain⟨K,eK⟩:∃K:Nat->List S,K=λj=>(rows.take j).filter λr=> !p r:=⟨_,rfl⟩;have hK0:K (i+1)=rows.take i:=by
   rw[eK];show(rows.take (i+1)).filter _=_;rw[List.take_succ_eq_append_getElem hi,List.filter_append,List.filter_eq_self.2 λa ha=> ?_]
   ·simp[hpi]
   ·obtain⟨k,hk,rfl⟩:=List.mem_take_iff_getElem.1 ha;have:=hlt k (by omega);simpa using this
  have hKs:∀j (hj:j<aa rows),K (j+1)=K j++(if p rows[j]=ab then []else [rows[j]]):=λj hj=>by
   rw[eK];show(rows.take (j+1)).filter _=_;rw[List.take_succ_eq_append_getElem hj,List.filter_append]
   congr 1
   cases hp:p rows[j]<;>simp[hp]
  have hKl:∀j,aa (K j)<=j:=λj=>by rw[eK];exact Nat.le_trans (List.length_filter_le _ _) (by rw[zrl];omega)
  refine aF (λm f h'=>∃j Z,m+j=aa rows/\j<=aa rows/\aa (K j)+(aa Z+1)=j/\(∃z,h'=h.set id (am ((K j++z::Z++rows.drop j).map V.str)))/\f.t 0= .ls id 1 0 (aa rows) (aa rows)/\f.t 1= .fn (.func q) [] caps/\f.t 5=vi (aa (K j))/\f.t 6=vi j/\f.d=[]/\(∀j,f.k j=ac)) (aa rows-(i+1)) ⟨i+1,[],by omega,by omega,by rw[hK0,zrl];simp;omega,⟨rows[i],?_⟩,by simp only[wq.1,seval],by simp only[wq.1,seval],?_,by simp only[wq.1,↓reduceIte],by simp only[wq.1],λ_=>rfl⟩ ?_
  ·rw[hK0];have:rows.take i++rows[i]::[]++rows.drop (i+1)=rows:=by
    rw[zqc];show rows.take i++(rows[i]::rows.drop (i+1))=rows;rw[<-List.drop_eq_getElem_cons hi,List.take_append_drop]
   rw[this,G6 hid]
  ·simp only[wq.1,seval];rw[hK0,zrl,Nat.min_eq_left (by omega)]
  rintro m f h' ⟨j,Z,hm,hjl,hKZ,⟨z,rfl⟩,t0,t1,t5,t6,hfd,hk⟩;have hkf:f.k=λ_=>ac:=funext hk;have hw:=aA (show j<maxLen by omega);have hk':=hKl j;have wk:=aA (show aa (K j)<maxLen by omega);have hset:∀o o':O,(h.set id o).set id o'=h.set id o':=λo o'=>List.set_set ..;have hget:∀o:O,(h.set id o)[id]? =al o:=λo=>zqt lid;obtain⟨C,eC⟩:∃C,C=(K j++z::Z++rows.drop j).map V.str:=⟨_,rfl⟩;have hCl:aa C=aa rows:=by
   rw[eC];simp only[zra,zqa,zrt,List.length_drop];omega
  rw[<-eC];refine vn ?_;simp only[wq.1,seval,t0,t6];refine vcB.mk (λhc=> ?_) (λhc=> ?_)
  ·have hjl:j<aa rows:=by have:=zqs hc;omega
   have hdr:=List.drop_eq_getElem_cons hjl;have hmid:=Yj (a:=K j) (Z:=z::Z) (x:=rows[j]) (b:=rows.drop (j+1)) (j:=j) (by simp only[zrt];exact hKZ) .any;rw[<-hdr,<-eC]at hmid;have hm1:C.getD (j*1) .any= .str rows[j]:=by rw[Nat.mul_one];exact hmid
   have hKj:=hKs j hjl;have hqj:=hq rows[j] (zqu hjl);simp only[wq.1];refine vm ?_;simp only[wq.1,seval,t0,t1,t6,hget,hm1,he];refine⟨⟨by omega,by omega⟩,by omega,ag.ev hqj (by simp only[aL,aE,hd,zre]) ?_⟩;cases hp:p rows[j]with
   |true=>rw[hp,if_pos rfl,zqp]at hKj;simp only[wq.1,seval,t6,hw];refine .inl ⟨m-1,by omega,j+1,Z++[rows[j]],by omega,by omega,by rw[hKj];simp;omega,⟨z,?_⟩,by simp only[wq.1,seval,t0],by simp only[wq.1,seval,t1],by simp only[wq.1,seval,t5,hKj],by simp only[wq.1,↓reduceIte],by simp only[wq.1,hfd],λi=>by simp only[wq.1,hk]⟩;rw[hKj,eC,hdr];simp only[zqc,List.cons_append,List.nil_append,zql,zrd,List.map_nil]
   |false =>
    rw[hp,if_neg (by decide)]at hKj;have hst:=Yi (a:=K j) (z:=z) (Z:=Z) (b:=rows.drop j) (r:=rows[j]);rw[<-eC]at hst;simp only[wq.1,seval,t0,t5,t6,hw,wk,hget];refine⟨⟨by omega,by omega⟩,by omega,?_⟩;refine .inl ⟨m-1,by omega,j+1,?_⟩;cases Z with
    |nil=>refine⟨[],by omega,by omega,by rw[hKj];simp at hKZ ⊢;omega,⟨rows[j],?_⟩,by simp only[wq.1,seval,t0],by simp only[wq.1,seval,t1],by simp only[wq.1,seval,hKj],by simp only[wq.1,↓reduceIte],by simp only[wq.1,hfd],λi=>by simp only[wq.1,hk]⟩;rw[hset,hst,hKj,hdr];simp only[zqc,List.cons_append,List.nil_append,zql,zrd,List.map_nil]
    |cons y Z=>refine⟨Z++[rows[j]],by omega,by omega,by rw[hKj];simp at hKZ ⊢;omega,⟨y,?_⟩,by simp only[wq.1,seval,t0],by simp only[wq.1,seval,t1],by simp only[wq.1,seval,hKj],by simp only[wq.1,↓reduceIte],by simp only[wq.1,hfd],λi=>by simp only[wq.1,hk]⟩;rw[hset,hst,hKj,hdr];simp only[zqc,List.cons_append,List.nil_append,zql,zrd,List.map_nil]
  ·have hjl:j=aa rows:=by have:=of_decide_eq_false hc;omega
   have hKf:K j=rows.filter λr=> !p r:=by rw[eK,hjl];show(rows.take (aa rows)).filter _=_;rw[zrx]
   simp only[wq.1];refine ak (iE ?_);refine az rfl rfl ?_;simp only[wq.1,seval,t0];refine az rfl rfl ?_;simp only[wq.1,seval,t5];refine az rfl rfl ?_;simp only[wq.1,seval];refine⟨⟨by omega,by omega⟩,?_⟩;refine dM rfl rfl ?_;refine Px (t:=23) (el:=9) (q:=⟨.slice 9,1,24,.nils⟩) (re:=⟨.str,1,16,.str []⟩) (cs0:=C) (id:=id) (off:=(K j).length*1) (len:=aa rows-aa (K j)) (cap:=aa rows-aa (K j)) rfl rfl (by simp only[wq.1]) rfl (by simp only[wq.1]) (by simp only[wq.1,↓reduceIte]) (by simp only[wq.1,↓reduceIte]) (hget _) (by rw[hCl];omega) rfl rfl rfl ?_;refine dL ?_;rw[hset];have hsp:di C (aa (K j)*1) (ao (aa rows-aa (K j)) (V.str []))=(rows.filter λr=> !p r).map V.str++ao (aa rows-aa (K j)) (V.str []):=by
    unfold di;rw[Nat.mul_one,zsc,List.drop_of_length_le (by omega),zqp,eC];have e:(K j++z::Z++rows.drop j).map V.str=(K j).map V.str++(z::Z++rows.drop j).map V.str:=by rw[zqc,zql]
    have hl:aa (K j)=aa ((K j).map V.str):=by rw[zra]
    rw[e,List.take_left' hl.symm,hKf]
   show XE.seq _ _ _ _ (h.set id (am (di C (aa (K j)*1) (ao (aa rows-aa (K j)) (V.str [])))));rw[hsp];have hfin:=hr (ao (aa rows-aa (K j)) (V.str [])) (aa rows);rw[<-hKf]at hfin ⊢;show awp _ _ _ _ _ _ _;refine vm ?_;simp only[wq.1,seval,t0,t5,hfd,hkf];exact⟨⟨by omega,.inl (by omega)⟩,hfin⟩
theorem G8[MO](n:Nat)(hn:n<=1000000)(h:H)(R:AEnd->H->(Nat->Bool)->Prop)(hr0:n=0->R (.ret .nils) h (λ_=>ac))
 (hr:0<n->R (.ret (.ls (aa h) 3 0 0 0)) (h++[am []]) (λ_=>ac)):ag TE 265 [.nils,vi n] h R:=by
 refine aj Tryz.func265 rfl (by simp[nts]) ?_;refine vn ?_;simp only[wq.1,Nat.reduceLT,Tryz.results265];refine ak ?_;refine vm ?_;simp only[wq.1,seval];refine vcB.mk (λhc=> ?_) (λhc=> ?_)
 ·simp only[zqb]at hc;omega
 simp only[wq.1];refine ak (ak (iE ?_));refine az rfl rfl ?_;simp only[wq.1,seval];refine az rfl rfl ?_;simp only[wq.1,seval];refine dM rfl rfl ?_;have hq:ti TE.P 151=al ⟨.slice 155,1,24,.nils⟩:=by simp only[wq.1]
 have hqe:ti TE.P 155=al ⟨.struct [(0,3),(1,3),(2,3)],3,24,.agg [vi 0,vi 0,vi 0]⟩:=by simp only[wq.1]
 have hqi:ti TE.P 3=al ⟨.int .i64,1,8,.int .i64 0⟩:=by simp only[wq.1]
 refine jb (t:=151) rfl rfl hq rfl trivial rfl ?_;refine az rfl rfl ?_;simp only[wq.1,seval];refine az rfl rfl ?_;simp only[wq.1,↓reduceIte];refine az rfl rfl ?_;simp only[wq.1,seval];refine az rfl rfl ?_;simp only[wq.1,seval];refine az rfl rfl ?_;simp only[wq.1,↓reduceIte];have w0:aD .i64 0=0:=by decide
 have w1:aD .i64 ((n:Int)-0)=n:=by rw[Int.sub_zero];exact iW (by omega) (by omega)
 refine dL ?_;simp only[wq.1,w0,w1];refine ak ?_;refine vm ?_;simp only[wq.1,seval];refine bH (b:=ar ((0:Int)<n)) (by simp only[wq.1,↓reduceIte]) (by simp only[wq.1,↓reduceIte]) (λhb=> ?_) (λhb=> ?_)
 ·have hpos:0<n:=by simp only[zqb]at hb;omega
  refine iE ?_;refine az rfl rfl ?_;simp only[wq.1,seval];refine az rfl rfl ?_;simp only[wq.1,seval];refine dM rfl rfl ?_;refine jb (t:=151) rfl rfl hq rfl trivial rfl ?_;refine dM rfl rfl ?_;refine mO rfl hq rfl hqe (by simp only[wq.1,seval]) (by simp only[wq.1,seval]) (by simp only[wq.1,↓reduceIte]) (k:= .i64) (by simp only[wq.1,↓reduceIte]) ?_;refine az rfl rfl ?_;simp only[wq.1,seval];refine dM rfl rfl ?_;refine xM (x:= .tmp 20) (y:= .tmp 21) (t:=151) (xt:=3) (el:=155) ⟨⟨_,rfl,rfl,rfl⟩,hq,rfl,hqe,rfl,rfl,by decide⟩ (by simp only[wq.1,seval]) (by simp only[wq.1,↓reduceIte]) (by simp only[wq.1,seval]) (by simp only[wq.1,↓reduceIte]) hqi rfl hpos (by omega) ?_ (by decide) ?_
  ·show n*24<=_;omega
  refine az rfl rfl ?_;simp only[wq.1,seval];refine az rfl rfl ?_;simp only[wq.1,↓reduceIte,Nat.reduceEqDiff,Nat.reduceLT,Nat.reduceLeDiff,Nat.reduceAdd,Nat.reduceSub,Int.reduceToNat,Nat.reduceDiv,Int.reduceLT,Int.reduceLE,Int.reduceNeg,Int.reduceBEq,Int.reduceBNe,Int.reduceAdd,Int.reduceSub,Nat.reduceBEq,reduceCtorEq,Nat.reduceMul,ay,Tryz.results265];refine az rfl rfl ?_;simp only[wq.1,↓reduceIte,Nat.reduceEqDiff,Nat.reduceLT,Nat.reduceLeDiff,Nat.reduceAdd,Nat.reduceSub,Int.reduceToNat,Nat.reduceDiv,Int.reduceLT,Int.reduceLE,Int.reduceNeg,Int.reduceBEq,Int.reduceBNe,Int.reduceAdd,Int.reduceSub,Nat.reduceBEq,reduceCtorEq,Nat.reduceMul,ay,Tryz.results265];refine⟨by omega,?_⟩;refine az rfl rfl ?_;simp only[wq.1,↓reduceIte];refine dL ?_;simp only[wq.1];refine vm ?_;simp only[wq.1,seval];exact hr hpos
 ·have:n=0:=by simp only[zqd]at hb;omega
  refine vm ?_;simp only[wq.1];refine vm ?_;simp only[wq.1,seval];exact hr0 this
theorem tK{ls:List (List Fo)}{i:Nat}(h:i<aa ls):(ls.take i).flatten.length+ls[i].length<=aa ls.flatten:=uD h
theorem Jo[MO](ls:List (List Fo))(hn:aa ls.flatten<=1000000)(hls:aa ls<=1000000):Ev TE 220 [.is ab 1 (ls.map oJ)] (oJ ls.flatten):=by
 have hM:=mLx;have hget:∀ {i:Nat} (h:i<aa ls) (d:V),(ls.map oJ).getD i d=oJ ls[i]:=λh d=>fG h d;refine ai Tryz.func220 rfl (by simp[nts]) (vm ?_);simp only[wq.1,seval,Tryz.results220];refine aF (λm f h=>∃i,m+i=aa ls/\f.t 0= .is ab 1 (ls.map oJ)/\f.t 3=vi (ls.take i).flatten.length/\f.t 9= .is ab 1 (ls.map oJ)/\f.t 10=vi (aa ls)/\f.t 11=vi i/\f.d=[]/\h=[]) (aa ls) ⟨0,by simp,rfl,rfl,rfl,by simp only[wq.1,seval],rfl,rfl,rfl⟩ ?_;rintro m f h ⟨i,hm,h0,h3,h9,h10,h11,hd,rfl⟩;refine vm ?_;simp only[wq.1,seval,h10,h11];refine vcB.mk (λhc=> ?_) (λhc=> ?_)
 ·simp only[zqb,zqi]at hc;have hfl:=tK hc;have hw:aD .i64 (((ls.take i).flatten.length:Int)+(ls[i].length:Int))=((ls.take (i+1)).flatten.length:Int):=by
   rw[fD hc,zqa,yQ (by omega) (by omega)];omega
  simp only[wq.1,seval,h3,h9,h11,hget hc,hw];refine⟨⟨by omega,by omega⟩,vcB.mk (λhc'=> ?_) (λhc'=> ?_)⟩
  ·simp only[zqb]at hc';omega
  ·simp only[wq.1,seval,h11,aA (show i<maxLen by omega)];exact .inl ⟨m-1,by omega,i+1,by omega,h0,rfl,h9,h10,rfl,hd,rfl⟩
 ·simp only[zqd,zqi]at hc;have hi:ls.take i=ls:=zqh (by omega);rw[hi]at h3;simp only[wq.1,seval,h3];refine G8 (aa ls.flatten) hn _ _ (λhz=> ?_) (λhz=> ?_)
  ·simp only[wq.1,seval,h0];refine iF 6 3 (by simp only[wq.1,seval]) ?_;refine aF (λm f h=>∃i,m+i=aa ls/\f.t 25= .is ab 1 (ls.map oJ)/\f.t 26=vi (aa ls)/\f.t 27=vi i/\f.t 6= .ls 0 3 0 (ls.take i).flatten.length (ls.take i).flatten.length/\f.d=[]/\h=[am (foC (ls.take i).flatten)]) (aa ls) ⟨0,by simp,by simp only[wq.1,seval],by simp only[wq.1,seval],by rfl,by rfl,by simp only[wq.1,hd],rfl⟩ ?_;clear h0 h3 h9 h10 h11 hd;rintro m f h ⟨i,hm,h25,h26,h27,h6,hd,rfl⟩;have dF:∀q,ap q (foC (ls.take i).flatten)=foC (ls.take i).flatten:=λq=>jl _;have hfc:=wL (ls.take i).flatten;refine vm ?_;simp only[wq.1,seval,h26,h27];refine vcB.mk (λhc=> ?_) (λhc=> ?_)
   ·simp only[zqb,zqi]at hc;have hfl:=tK hc;have hap:foC (ls.take i).flatten++foC ls[i]=foC (ls.take (i+1)).flatten:=by rw[fD hc,zZ]
    have hln:(ls.take i).flatten.length+ls[i].length=(ls.take (i+1)).flatten.length:=by rw[fD hc,zqa]
    simp only[wq.1,seval,h25,h27,h6,hd,hget hc,aA (show i<maxLen by omega),dF,hfc,Jm,jl];refine⟨⟨by omega,by omega⟩,wM _,⟨vz _,by omega,by omega⟩,.inl ⟨m-1,by omega,i+1,by omega,by simp only[wq.1,seval,h25],by simp only[wq.1,seval,h26],by simp only[wq.1,↓reduceIte],by simp only[wq.1,seval,hln],by simp only[wq.1,hd],by rw[hap]⟩⟩
   ·simp only[zqd,zqi]at hc;have hi:ls.take i=ls:=zqh (by omega);rw[hi]at h6 ⊢;simp only[wq.1,seval,h6,hd];exact yu rfl rfl
  ·simp only[wq.1,seval,h0];refine aF (λm f h=>∃i,m+i=aa ls/\f.t 25= .is ab 1 (ls.map oJ)/\f.t 26=vi (aa ls)/\f.t 27=vi i/\f.t 6= .ls 0 3 0 (ls.take i).flatten.length (ls.take i).flatten.length/\f.d=[]/\h=[am (foC (ls.take i).flatten)]) (aa ls) ⟨0,by simp,by simp only[wq.1,seval],by simp only[wq.1,seval],by rfl,by rfl,by simp only[wq.1,hd],rfl⟩ ?_;clear h0 h3 h9 h10 h11 hd;rintro m f h ⟨i,hm,h25,h26,h27,h6,hd,rfl⟩;have dF:∀q,ap q (foC (ls.take i).flatten)=foC (ls.take i).flatten:=λq=>jl _;have hfc:=wL (ls.take i).flatten;refine vm ?_;simp only[wq.1,seval,h26,h27];refine vcB.mk (λhc=> ?_) (λhc=> ?_)
   ·simp only[zqb,zqi]at hc;have hfl:=tK hc;have hap:foC (ls.take i).flatten++foC ls[i]=foC (ls.take (i+1)).flatten:=by rw[fD hc,zZ]
    have hln:(ls.take i).flatten.length+ls[i].length=(ls.take (i+1)).flatten.length:=by rw[fD hc,zqa]
    simp only[wq.1,seval,h25,h27,h6,hd,hget hc,aA (show i<maxLen by omega),dF,hfc,Jm,jl];refine⟨⟨by omega,by omega⟩,wM _,⟨vz _,by omega,by omega⟩,.inl ⟨m-1,by omega,i+1,by omega,by simp only[wq.1,seval,h25],by simp only[wq.1,seval,h26],by simp only[wq.1,↓reduceIte],by simp only[wq.1,seval,hln],by simp only[wq.1,hd],by rw[hap]⟩⟩
   ·simp only[zqd,zqi]at hc;have hi:ls.take i=ls:=zqh (by omega);rw[hi]at h6 ⊢;simp only[wq.1,seval,h6,hd];exact yu rfl rfl
theorem fU{e:E}{n:Nat}{r:Option Nat}{c:Code}{Q:XE->Fr->H->Prop}{f:Fr}{h:H}(P:Fr->Prop)(hP:P f)(hw:∀f,P f->awp e n r c Q f h):awp e n r c Q f h:=hw f hP
theorem qZ{α:Type}{p:α->Bool}:∀l:List α,l.dropWhile p=[]↔l.all p=ab
 |[]=>by simp
 |a::l=>by
  rw[List.dropWhile_cons,List.all_cons];cases hp:p a with
  |true=>simpa using qZ l
  |false=>simp
theorem G9{α:Type}{p:α->Bool}{a:α}{s:List α}:∀l:List α,l.dropWhile p=a::s->p a=ac
 |[],h=>by simp at h
 |b::l,h=>by
  rw[List.dropWhile_cons]at h;split at h
  ·exact G9 l h
  ·rename_i hb;injection h with h _;rw[<-h];simpa using hb
theorem Ro(row:S):(Lib.trimS row [45]==[])=jX row:=by
 have e:(λc:UInt8=>([45]:S).contains c)=λc=>c==45:=funext λc=>by simp only[List.contains_cons,List.contains_nil,Bool.or_false]
 rw[Bool.eq_iff_iff,beq_iff_eq];unfold Lib.trimS Lib.trimLeftS Lib.trimRightS jX;rw[e,qZ,List.all_reverse];constructor
 ·intro h;have:row.reverse.dropWhile (λc=>c==45)=[]:=by
   cases ht:row.reverse.dropWhile (λc=>c==45)with
   |nil=>rfl
   |cons a s=>rw[ht,List.all_cons,G9 _ ht]at h;cases h
  rw[qZ,List.all_reverse]at this;exact this
 ·intro h;have:row.reverse.dropWhile (λc=>c==45)=[]:=by rw[qZ,List.all_reverse];exact h
  rw[this];rfl
theorem Yk[MO](row:S):Ev TE 210 [.str row] (.bool (jX row)):=by have h:=DF row [45] (by decide) (by decide);refine ai Tryz.func210 rfl (by simp[nts]) (vm ?_);simp only[wq.1,seval,Tryz.results210];refine ag.ev h rfl ?_;simp only[wq.1,seval,Ro];exact aC.dat rfl
theorem Rq[MO](x:Li)(row:S)(hr:aa row<=1000000000):Ev TE 218 [.str row,.ip (.fn (.func 264) [] [.ip (liV x)])] (.bool (!jd x row)):=by have h:=zY x row hr;refine ai Tryz.func218 rfl (by simp[nts]) (vm ?_);simp only[wq.1,seval,Tryz.results218];refine ag.ev h rfl ?_;simp only[wq.1,seval];exact aC.dat rfl
def Rt:Plan:= .take 2<| .alt 0 (.alt 1 (.alt 3 (onZ [4,5,6,7]<| .take 8<| .fin) (.one 4 (.alt 3 (onZ [5,6,7]<| .take 8<| .fin) (.one 5 (onZ [3,6,7]<| .take 8<| .fin))))) (.one 4 (.alt 1 (.alt 3 (onZ [5,6,7]<| .take 8<| .fin) (.one 5 (onZ [3,6,7]<| .take 8<| .fin))) (.one 5 (onZ [1,3,6,7]<| .take 8<| .fin))))) (.one 4 (.alt 0 (.alt 1 (.alt 3 (onZ [5,6,7]<| .take 8<| .fin) (.one 5 (onZ [3,6,7]<| .take 8<| .fin))) (.one 5 (onZ [1,3,6,7]<| .take 8<| .fin))) (.one 5 (onZ [0,1,3,6,7]<| .take 8<| .fin))))
def Ru:Plan:= .alt 0 (.alt 1 (onZ [2,3,4]<| .take 5<| .fin) (.one 2 (onZ [1,3,4]<| .take 5<| .fin))) (.one 2 (onZ [0,1,3,4]<| .take 5<| .fin))
theorem rQ[MO]{h:H}{id cap:Nat}{l:List S}{ex:List V}(hc:h[id]? =al (am (l.map V.str++ex))):aC TE h (.ls id 1 0 (aa l) cap) (aJ l) :=
 Dy hc (au.dat ax) yS Fb (by rw[zra])
theorem Yl(rows:List S)(x:Li):(((iZ rows x:Nat):Int)==(aa rows:Int))=(iZ rows x==aa rows):=by rw[Bool.eq_iff_iff,beq_iff_eq,beq_iff_eq,Int.ofNat_inj]
theorem Ha[MO]{n:Nat}(hn:n<=8):∀(F:Nat)(rows:List S),(∀r∈rows,aa r=n)->aa rows<=128->bK rows<F->Ev TE 157 [aJ rows] (oJ (wF F rows))
 |0,_,_,_,h=>by omega
 |F+1,rows,hr,hrl,hs=>by
  have hM:=mLx;have ih:=Ha (n:=n) hn F;have hr8:∀r∈rows,aa r<=8:=λr h=>by have:=hr r h;omega
  have hct:=DK rows 210 [] jX (by simp[ens]) rfl λr _=>Yk r;refine ai Tryz.func157 rfl (by simp[nts]) ?_;refine vn ?_;simp only[wq.1,Nat.reduceLT,Tryz.results157];refine vn ?_;simp only[wq.1,Nat.reduceLT];refine ak ?_;refine aB ?_;refine vn ?_;simp only[wq.1,↓reduceIte,Nat.reduceEqDiff,Nat.reduceLT];unfold wF;by_cases h0:rows=[]
  ·have e0:((aa rows:Int)==0)=ab:=by rw[h0];rfl
   rw[if_pos h0];refine vm ?_;simp only[wq.1,↓reduceIte,Nat.reduceLT,Nat.reduceLeDiff,Nat.reduceAdd,reduceCtorEq,Nat.reduceMul,e0];exact⟨⟨rfl,by decide⟩,aC.ex rfl⟩
  have e0:((aa rows:Int)==0)=ac:=by rw[beq_eq_false_iff_ne];intro h;exact h0 (zse (by omega))
  rw[if_neg h0];by_cases h1:rows.any jX=ab
  ·rw[if_pos h1];rw[h1]at hct;refine vm ?_;simp only[wq.1,↓reduceIte,Nat.reduceEqDiff,Nat.reduceLT,e0];refine ag.ev hct (by simp only[aL,aE,ax,zre]) ?_;simp only[wq.1,↓reduceIte,Nat.reduceLT,Nat.reduceLeDiff,Nat.reduceAdd,reduceCtorEq,Nat.reduceMul];exact⟨⟨rfl,by decide⟩,aC.ex rfl⟩
  have h1':rows.any jX=ac:=by simpa using h1
  rw[if_neg h1];rw[h1']at hct;obtain⟨r0,rs,erw⟩:∃r0 rs,rows=r0::rs:=by
   cases rows with
   |nil=>exact absurd rfl h0
   |cons a b=>exact⟨a,b,rfl⟩
  have hg0:(rows.map V.str).getD 0 .any= .str r0:=by rw[erw];rfl
  have hrpos:0<aa rows:=by rw[erw];simp
  have hr0m:r0∈rows:=by rw[erw];simp
  have hr0:aa r0<=8:=hr8 r0 hr0m;have hlr0:=Eh r0;refine vm ?_;simp only[wq.1,seval,e0];refine ag.ev hct (by simp only[aL,aE,ax,zre]) ?_;simp only[wq.1,seval];show awp _ _ _ _ _ _ _;refine vn ?_;simp only[wq.1,Nat.reduceLT];refine gI ?_;refine mF (h':=[am [aJ rows],am [.ls 2 2 0 0 0],am []]) (HLe.set (i:=1) (o':=am [.ls 2 2 0 0 0]) rfl (OLe.cells (zrb _) (dm.cons dV dm.nil))) ?_;refine vn ?_;simp only[wq.1,seval,hg0];refine⟨by omega,ag.ev (vw r0) rfl ?_⟩;simp only[wq.1];refine jr (n:=101) (q:=261) (first:=[]) (captured:=[.ip (.str r0)]) (by simp only[wq.1,↓reduceIte]) (by simp only[wq.1,↓reduceIte]) rfl (by decide) ?_;intro L hLd gets;obtain⟨cm,ecm⟩:∃cm:Nat->List Li,cm=λj=>((aY r0).take j).filter λx=>iZ rows x==aa rows:=⟨_,rfl⟩;have hcm0:cm 0=[]:=by rw[ecm];rfl
  have hcml:∀j,aa (cm j)<=8:=λj=>by rw[ecm];exact Nat.le_trans (List.length_filter_le _ _) (by rw[zrl];omega)
  refine ag.mono (zX r0 (by omega) 4 _
   (λj h k=>(∀i<5,i≠2->k i=ac)/\∃t X,t 1= .lp 0 0/\t 4= .lp 1 0/\h=[am [aJ rows],am [.ls 2 2 0 (aa (cm j)) (aa (cm j))],am (liC (cm j)),.misc .dfd,L t .ready aq]++X)
   (λc h k=>False) ?_ ?_) ?_
  ·exact⟨λi _ _=>rfl,_,[],rfl,rfl,by rw[zqp,hcm0];rfl⟩
  ·rintro i h k hi hk ⟨hk5,t,X,t1,t4,rfl⟩;rw[zra]at hi;obtain⟨y,hy⟩:∃y,y=(aY r0)[i]:=⟨_,rfl⟩;have hit:((aY r0).map λx=>[liV x])[i]'(by rw[zra];exact hi)=[liV y]:=by rw[List.getElem_map,<-hy]
   have hcs:cm (i+1)=cm i++(if iZ rows y==aa rows then [y]else []):=by
    rw[ecm];show((aY r0).take (i+1)).filter _=_;rw[List.take_succ_eq_append_getElem hi,<-hy,List.filter_append]
    congr 1
    cases hb:iZ rows y==aa rows<;>simp[hb]
   have hcnt:=BR rows y (by omega) (λr h=>by have:=hr8 r h;omega);have hcml':=hcml i;rw[hit];obtain⟨C,hC⟩:∃C,C=liC (cm i):=⟨_,rfl⟩;have dC:∀q,ap q C=C:=λq=>by rw[hC];exact Aa _
   have hCl:aa C=aa (cm i)*2:=by rw[hC,Jl]
   obtain⟨c,ec⟩:∃c,c=aa (cm i):=⟨_,rfl⟩;rw[<-hC,<-ec];rw[<-ec]at hCl hcml';refine gets _ _ _ t rfl rfl (λlb=> ?_);have k0:=hk5 0 (by decide) (by decide);have k1:=hk5 1 (by decide) (by decide);have gE:∀o:O,(X++[o])[aa X]? =al o:=λo=>by simp
   have gS:∀o o':O,(X++[o]).set (aa X) o'=X++[o']:=λo o'=>by simp
   refine vm ?_;simp only[wq.1,seval,uq,gE,gS];refine⟨t,rfl,?_⟩;refine aB ?_;refine vn ?_;simp only[wq.1,seval,t1,gE];refine⟨by decide +kernel,uh.mk hcnt rfl (by simp only[aL,aE,ax,zre]) ?_⟩;simp only[wq.1,↓reduceIte,Nat.reduceEqDiff,Nat.reduceLT,t1,Yl];cases hb:iZ rows y==aa rows with
   |true =>
    rw[hb,if_pos rfl]at hcs;have hap:C++liF y=liC (cm (i+1)):=by rw[hcs,Rh,Ri,hC]
    have hcl1:aa (cm (i+1))=c+1:=by rw[hcs,zqa,ec];rfl
    refine vm ?_;simp only[wq.1,↓reduceIte,Nat.reduceEqDiff,Nat.reduceLT,Nat.reduceAdd,Nat.reduceBEq,reduceCtorEq,Nat.reduceMul,t4,gE,oQ,XE.jump,dC,hCl,hLd];refine⟨⟨rfl,by decide⟩,rfl,⟨rfl,by omega,by omega⟩,_,_,rfl,λj hj h2=>by rw[hk5 j hj h2];simpa using h2,λi=>(t i).drop λx=>x==2,List.map (O.drop λx=>x==2) X++[am [vi y.1,vi y.2.toNat]],?_,?_,?_⟩
    ·show(t 1).drop _=_;rw[t1];rfl
    ·show(t 4).drop _=_;rw[t4];rfl
    ·rw[<-hap,hcl1];rfl
   |false=>rw[hb,if_neg (by decide),zqp]at hcs;refine vm ?_;simp only[wq.1,↓reduceIte,oQ,XE.jump];refine⟨t,_,rfl,hk5,t,X++[am [vi y.1,vi y.2.toNat]],t1,t4,?_⟩;rw[hcs,<-hC,<-ec];rfl
  ·rintro ae h' p ⟨hp,hr⟩;cases ae with
   |pan v=>exact hr.elim
   |ret v =>
    rcases hr with⟨hk5,t,X,t1,t4,rfl⟩|⟨_,h⟩
    ·rw[zra];have hcf:cm (aa (aY r0))=bD rows:=by
      rw[ecm];show((aY r0).take _).filter _=_;rw[zrx,erw];rfl
     rw[hcf];have k0:=hk5 0 (by decide) (by decide);have k1:=hk5 1 (by decide) (by decide);have k3:=hk5 3 (by decide) (by decide);have k4:=hk5 4 (by decide) (by decide);refine⟨λi hi=> ?_,hp,t,_,aq,(by decide),rfl,?_⟩
     ·have hi:i=3:=by simpa [ui,uj]using hi
      subst hi;exact k3
     ·simp only[wq.1,Nat.reduceAdd,AC];obtain⟨CM,eCM⟩:∃CM,CM=bD rows:=⟨_,rfl⟩;have hCMl:aa CM<=8:=by rw[eCM,<-hcf];exact hcml _
      have hCMx:∀x∈CM,x∈aY r0:=λx hx=>by
       rw[eCM,<-hcf,ecm]at hx;have:=(List.mem_filter.1 hx).1
       rwa [zrx]at this
      have hCMr:∀r∈rows,∀x∈CM,x.1<aa r:=λr hrr x hx=>by have h1:=mW (hCMx x hx);have h2:=hr r hrr;have h3:=hr r0 hr0m;omega
      rw[<-eCM];refine fU (λf=>f.t 1= .lp 0 0/\f.t 4= .lp 1 0/\f.d=[3]) ⟨by simp only[wq.1,seval,k0],by simp only[wq.1,seval,k1],rfl⟩ ?_;rintro f ⟨t1',t4',hd⟩;obtain⟨p,hpp⟩:∃p:Nat->Bool,p=λj=>j==2||ar (5<=j):=⟨_,rfl⟩;refine yU p [am [aJ rows],am [xU CM],.dead,.misc .dfd,L (λi=>(t i).drop p) .exhausted aq] ?_ ?_ (λi hi=>by rw[hd]at hi;rw[zrc.1 hi,hpp];rfl) ?_
      ·intro i hi;rcases i with _|_|_|_|_|i
       ·exact .inl rfl
       ·refine .inr ⟨_,_,rfl,rfl,.inr ⟨?_,Lh ?_ rfl⟩,trivial⟩
        ·rw[hpp];rfl
        ·rw[hpp];show al (am (ap _ _))=_;rw[Aa]
       ·rw[hpp]at hi;cases hi
       ·exact .inl rfl
       ·refine .inl ?_;show al _=al (O.drop p _);rw[hLd]
       ·rw[hpp]at hi;simp at hi
      ·intro i o hi ho;rcases i with _|_|_|_|_|i
       ·rw[hpp]at hi;cases hi
       ·rw[hpp]at hi;cases hi
       ·injection ho with ho;exact ho.symm
       ·rw[hpp]at hi;cases hi
       ·rw[hpp]at hi;cases hi
       ·cases ho
      obtain⟨L2,hL2⟩:∃L2,L2=L (λi=>(t i).drop p) .exhausted aq:=⟨_,rfl⟩;rw[<-hL2];refine fU (λf=>f.t 1= .lp 0 0/\f.t 4= .lp 1 0/\f.d=[3]) ⟨?_,?_,hd⟩ ?_
      ·show(f.t 1).drop p=_;rw[t1',hpp];rfl
      ·show(f.t 4).drop p=_;rw[t4',hpp];rfl
      clear hd t1' t4' f hL2 hpp p;rintro f ⟨t1,t4,hd⟩;refine ak ?_;refine vn ?_;simp only[wq.1,seval,t4];refine bH (b:=ar ((0:Int)<(aa CM:Int))) (by simp only[wq.1,↓reduceIte]) (by simp only[wq.1,↓reduceIte]) (λhc=> ?_) (λhc=> ?_)
      ·have hne:CM≠[]:=λe=>by rw[e]at hc;exact absurd hc (by decide)
       obtain⟨x,cs,hxc⟩:∃x cs,CM=x::cs:=by
        cases hcc:CM with
        |nil=>exact absurd hcc hne
        |cons a b=>exact⟨a,b,rfl⟩
       have hsz:bK (aS rows CM)<bK rows:=by rw[erw,hxc];exact iw (hCMx x (by rw[hxc];simp))
       have hdv:=Ac rows CM (by omega) (by omega) (λr h=>by have:=hr8 r h;omega) hCMr;have hdl:∀r∈aS rows CM,aa r=n:=zJ hr;have hfc:=ih (aS rows CM) hdl (by unfold aS;rw[zra];exact hrl) (by omega);have hfl:=tJ F (aS rows CM) (λr h=>by have:=hdl r h;omega) (by omega);have hsl:=zT (m:=8) rows hr8;have hal:=Eo CM (wF F (aS rows CM)) (by omega) (by omega) (λx hx=>by have:=hCMr r0 hr0m x hx;omega);rw[if_pos hne];refine vm ?_;simp only[wq.1,seval,t1,t4];refine⟨by decide +kernel,uh.mk hdv rfl (by simp only[aL,aE,ax,nM,zre]) ?_⟩;simp only[wq.1,seval];refine uh.mk hfc rfl (by simp only[aL,aE,ax,zre]) ?_;simp only[wq.1,seval];refine uh.mk hal rfl (by simp only[aL,aE,nM,lG,zre]) ?_;simp only[wq.1,seval,hd];exact aC.dat (by simp only[aE,lG])
      ·have hne:CM=[]:=by have:=of_decide_eq_false hc;exact zse (by omega)
       rw[if_neg (by rw[hne];simp)];refine vm ?_;simp only[wq.1];show awp _ _ _ _ _ _ _;have hsl:=zT (m:=8) rows hr8;have hmo:Ev TE 215 [aJ rows] (.tup [liV (jW rows).1,vi (jW rows).2]):=by
        rw[erw];exact Rn r0 rs (by rw[<-erw];omega) (λr h=>by have:=hr8 r (by rw[erw];exact h);omega)
       have hmk:=DX rows;obtain⟨mx,mc,hmxc⟩:∃mx mc,jW rows=(mx,mc):=⟨_,_,rfl⟩;rw[hmxc]at hmo hmk ⊢;dsimp only at hmo hmk ⊢;have hdd:ar ((mc:Int)<2)=ar (mc<2):=decide_eq_decide.2 (by omega);refine vn ?_;simp only[wq.1,seval,t1];refine ag.ev hmo (by simp only[aL,aE,ax,zre]) ?_;simp only[wq.1,seval];refine ak ?_;refine vn ?_;simp only[wq.1,seval,hdd];refine bH (b:=ar (mc<2)) (by simp only[wq.1,↓reduceIte]) (by simp only[wq.1,↓reduceIte]) (λhm=> ?_) (λhm=> ?_)
       ·rw[if_pos (zqs hm)];refine vn ?_;simp only[wq.1,↓reduceIte,Nat.reduceEqDiff,Nat.reduceLT,Nat.reduceLeDiff,Nat.reduceAdd,reduceCtorEq,Nat.reduceMul,t1];refine⟨⟨rfl,by decide⟩,?_⟩;have hall:=λi=>Ei (rows.take i);have hsz:=λi=>zT (m:=8) (rows.take i) λr h=>hr8 r (zsh h);have htl:∀i,aa (rows.take i)<=128:=λi=>by rw[zrl];omega
        obtain⟨acc,eacc⟩:∃acc:Nat->List Fo,acc=λi=>(⟨4,0,aa rows⟩:Fo)::(rows.take i).flatMap λr=>zI (aY r) []:=⟨_,rfl⟩;have haccl:∀i,aa (acc i)<=2000:=λi=>by rw[eacc];have h1:=hall i;have h2:=hsz i;have h3:=htl i;simp only[zrt];omega
        have haccs:∀i (hi:i<aa rows),acc (i+1)=acc i++zI (aY rows[i]) []:=λi hi=>by rw[eacc];show _::(rows.take (i+1)).flatMap _=_;rw[List.take_succ_eq_append_getElem hi,List.flatMap_append];simp
        refine vn ?_;simp only[wq.1,seval,t1];refine aF (λm f h=>∃i,m+i=aa rows/\f.t 62=aJ rows/\f.t 63=vi (aa rows)/\f.t 64=vi i/\f.d=[3]/\((i=0/\f.t 8= .is ab 3 [foV ⟨4,0,aa rows⟩]/\h=[am [aJ rows],am [xU CM],.dead,.misc .dfd,L2,am [vi mx.1,vi mx.2.toNat]])\/(f.t 8= .ls 6 3 0 (aa (acc i)) (aa (acc i))/\∃L4,h=[am [aJ rows],am [xU CM],.dead,.misc .dfd,L4,am [vi mx.1,vi mx.2.toNat],am (foC (acc i))]))) (aa rows) ⟨0,by omega,by simp only[wq.1,seval],by simp only[wq.1,seval],by rfl,by simp only[wq.1,hd],.inl ⟨rfl,by simp only[wq.1,seval];rfl,rfl⟩⟩ ?_;clear t1 t4 hd f;rintro m f h ⟨i,hm,t62,t63,t64,hd,hst⟩;have hw:=aA (show i<maxLen by omega);refine vn ?_;simp only[wq.1,Nat.reduceLT,t63,t64];refine vn ?_;simp only[wq.1,↓reduceIte];refine vcB.mk (λhlt=> ?_) (λhlt=> ?_)
        ·have hlt:i<aa rows:=by have:=zqs hlt;omega
         obtain⟨r,er⟩:∃r,r=rows[i]:=⟨_,rfl⟩;have hgr:=Bz hlt .any;rw[<-er]at hgr;have hrm:r∈rows:=er▸zqu hlt;have hrl8:=hr8 r hrm;have hlir:=Eh r;have hacs:=haccs i hlt;rw[<-er]at hacs;have hal1:=haccl (i+1);rw[hacs,zqa]at hal1;have hall':Ev TE 213 [xU (aY r),.nils] (oJ (zI (aY r) [])):=(Eo (aY r) [] (by omega) (by simp) (λx hx=>by have:=mW hx;omega)).les (dm.cons (VLe.refl _) (dm.cons dG dm.nil));obtain⟨A,eA⟩:∃A,A=zI (aY r) []:=⟨_,rfl⟩;have hApos:0<aa A:=by
          have hfr:jX r=ac:=by rw[List.any_eq_false]at h1';simpa using h1' r hrm
          have hln:=List.length_pos_iff.2 (uS hfr);rw[eA];unfold zI;rw[zqa,zqa,zra];omega
         rw[<-eA]at hacs hal1 hall';have hlen:aa (acc i)+aa A=aa (acc (i+1)):=by rw[hacs,zqa]
         have hfc:=wL (acc i);have dF:∀q,ap q (foC (acc i))=foC (acc i):=λq=>jl _;have hap:foC (acc i)++foC A=foC (acc (i+1)):=by rw[hacs,zZ]
         simp only[wq.1];rcases hst with⟨rfl,t8,rfl⟩|⟨t8,L4,rfl⟩
         ·have hacc0:acc 0=[⟨4,0,aa rows⟩]:=by rw[eacc];rfl
          refine vm ?_;simp only[wq.1,↓reduceIte,Nat.reduceEqDiff,Nat.reduceLT,t8,t62,t64,hgr];refine⟨⟨by omega,by omega⟩,ag.ev (vw r) rfl ?_⟩;simp only[wq.1,seval];refine ag.ev (xB r (by omega)) rfl ?_;simp only[wq.1,seval];refine ag.ev hall' (by simp only[aL,aE,nM,zre]) ?_;simp only[wq.1,↓reduceIte,Nat.reduceEqDiff,Nat.reduceLT,Nat.reduceAdd,reduceCtorEq,t64,hw,Jm];have hlen':1+aa A=aa (acc 1):=by rw[<-hlen,hacc0];rfl
          rw[hacc0]at hap hlen;refine⟨wM A,⟨rfl,.inr hApos,by omega,by omega⟩,.inl ⟨m-1,by omega,1,by omega,by simp only[wq.1,↓reduceIte,Nat.reduceEqDiff,Nat.reduceLT,Nat.reduceLeDiff,Nat.reduceAdd,Nat.reduceSub,Int.reduceToNat,Nat.reduceDiv,Int.reduceLT,Int.reduceLE,Int.reduceNeg,Int.reduceBEq,Int.reduceBNe,Int.reduceAdd,Int.reduceSub,Nat.reduceBEq,reduceCtorEq,Nat.reduceMul,ay,Tryz.results157,t62],by simp only[wq.1,↓reduceIte,Nat.reduceEqDiff,Nat.reduceLT,Nat.reduceLeDiff,Nat.reduceAdd,Nat.reduceSub,Int.reduceToNat,Nat.reduceDiv,Int.reduceLT,Int.reduceLE,Int.reduceNeg,Int.reduceBEq,Int.reduceBNe,Int.reduceAdd,Int.reduceSub,Nat.reduceBEq,reduceCtorEq,Nat.reduceMul,ay,Tryz.results157,t63],by simp only[wq.1,↓reduceIte,Nat.reduceEqDiff,Nat.reduceLT,Nat.reduceLeDiff,Nat.reduceAdd,Nat.reduceSub,Int.reduceToNat,Nat.reduceDiv,Int.reduceLT,Int.reduceLE,Int.reduceNeg,Int.reduceBEq,Int.reduceBNe,Int.reduceAdd,Int.reduceSub,Nat.reduceBEq,reduceCtorEq,Nat.reduceMul,ay,Tryz.results157],by simp only[wq.1,↓reduceIte,Nat.reduceEqDiff,Nat.reduceLT,Nat.reduceLeDiff,Nat.reduceAdd,Nat.reduceSub,Int.reduceToNat,Nat.reduceDiv,Int.reduceLT,Int.reduceLE,Int.reduceNeg,Int.reduceBEq,Int.reduceBNe,Int.reduceAdd,Int.reduceSub,Nat.reduceBEq,reduceCtorEq,Nat.reduceMul,ay,Tryz.results157,hd],.inr ⟨by simp only[wq.1,↓reduceIte,Nat.reduceEqDiff,Nat.reduceLT,Nat.reduceLeDiff,Nat.reduceAdd,Nat.reduceSub,Int.reduceToNat,Nat.reduceDiv,Int.reduceLT,Int.reduceLE,Int.reduceNeg,Int.reduceBEq,Int.reduceBNe,Int.reduceAdd,Int.reduceSub,Nat.reduceBEq,reduceCtorEq,Nat.reduceMul,ay,Tryz.results157,hlen'],L2,?_⟩⟩⟩;rw[<-hap];rfl
         ·refine vm ?_;simp only[wq.1,seval,t8,t62,t64,hgr];refine⟨⟨by omega,by omega⟩,ag.ev (vw r) rfl ?_⟩;simp only[wq.1,seval];refine ag.ev (xB r (by omega)) rfl ?_;simp only[wq.1,seval];refine ag.ev hall' (by simp only[aL,aE,nM,zre]) ?_;simp only[wq.1,seval,hd,t64,hw,dF,hfc,Jm,jl];refine⟨wM A,⟨vz A,by omega,by omega⟩,.inl ⟨m-1,by omega,i+1,by omega,by simp only[wq.1,seval,t62],by simp only[wq.1,seval,t63],by simp only[wq.1,↓reduceIte],by simp only[wq.1,hd],.inr ⟨by simp only[wq.1,seval,hlen],O.drop (λx=>x==6) L4,?_⟩⟩⟩;rw[hap]
        ·have hi:i=aa rows:=by have:=of_decide_eq_false hlt;omega
         have hfin:acc (aa rows)=⟨4,0,aa rows⟩::rows.flatMap λr=>zI (aY r) []:=by rw[eacc];show _::(rows.take (aa rows)).flatMap _=_;rw[zrx]
         rw[<-hfin];rcases hst with⟨h00,_⟩|⟨t8,L4,rfl⟩
         ·omega
         ·rw[hi]at t8 ⊢;refine vm ?_;simp only[wq.1,seval,t8,hd];exact yu rfl rfl
       ·rw[if_neg (of_decide_eq_false hm)];refine vm ?_;simp only[wq.1];show awp _ _ _ _ _ _ _;refine vn ?_;simp only[wq.1,seval];refine ag.ev (Lc mx) rfl ?_;simp only[wq.1,seval];refine vn ?_;simp only[wq.1,seval];refine fU (λf=>f.t 1= .lp 0 0/\f.t 6= .lp 5 0/\f.t 11= .lp 6 0/\f.t 12= .fn (.func 218) [] [.lp 6 0]/\f.d=[3]) ⟨by simp only[wq.1,seval,t1],by simp only[wq.1,seval],by simp only[wq.1,seval],by simp only[wq.1,↓reduceIte],by simp only[wq.1,hd]⟩ ?_;clear t1 t4 hd f;rintro f ⟨t1,t6,t11,t12,hd⟩;obtain⟨p,hpp⟩:∃p:Nat->Bool,p=λj=>j==6:=⟨_,rfl⟩;refine x8 p (λi=>if i=11 then .ip (.fn (.func 264) [] [.ip (liV mx)])else if i=12 then .fn (.func 218) [] [.ip (.fn (.func 264) [] [.ip (liV mx)])]else(f.t i).drop p) (λi=> ?_) (λi hi=>by rw[hd]at hi;rw[zrc.1 hi,hpp];rfl) ?_
        ·have hlp:aC TE (sH p 0 [am [aJ rows],am [xU CM],O.dead,O.misc Misc.dfd,L2,am [vi mx.1,vi mx.2.toNat],am [V.fn (Fn.func 264) [] [(liV mx).ip]]]) (.lp 6 0) (.ip (.fn (.func 264) [] [.ip (liV mx)])):=by rw[hpp];exact aC.lp rfl (au.dat rfl) rfl rfl (by simp[V.vc]) rfl
         by_cases h11:i=11
         ·subst h11;refine .inr ⟨?_,?_⟩
          ·rw[t11,hpp];rfl
          ·rw[t11];exact hlp
         ·rw[if_neg h11];by_cases h12:i=12
          ·subst h12;refine .inr ⟨?_,?_⟩
           ·rw[t12,hpp];rfl
           ·rw[t12];exact aC.fn au.nil (au.cons hlp au.nil)
          ·rw[if_neg h12];exact .inl rfl
        obtain⟨L3,hL3⟩:∃L3,L3=L2.drop p:=⟨_,rfl⟩;have hdp:jv p 0 [am [aJ rows],am [xU CM],O.dead,O.misc Misc.dfd,L2,am [vi mx.1,vi mx.2.toNat],am [V.fn (Fn.func 264) [] [(liV mx).ip]]]=[am [aJ rows],am [xU CM],O.dead,O.misc Misc.dfd,L3,am [vi mx.1,vi mx.2.toNat],.dead]:=by rw[hL3,hpp];rfl
        rw[hdp];refine fU (λf=>f.t 1= .lp 0 0/\f.t 6= .lp 5 0/\f.t 11= .ip (.fn (.func 264) [] [.ip (liV mx)])/\f.t 12= .fn (.func 218) [] [.ip (.fn (.func 264) [] [.ip (liV mx)])]/\f.d=[3]) ⟨?_,?_,rfl,rfl,hd⟩ ?_
        ·show(f.t 1).drop p=_;rw[t1,hpp];rfl
        ·show(f.t 6).drop p=_;rw[t6,hpp];rfl
        clear t1 t6 t11 t12 hd f hL3 hdp hpp p;rintro f ⟨t1,t6,t11,t12,hd⟩;have hcl:=qP rows (by omega);have hdel1:=λ(h:H)(hid:h[7]? =al (am (rows.map V.str)))=>@G7 _ h 7 rows hid (by omega) 218 [.ip (.fn (.func 264) [] [.ip (liV mx)])] (λr=> !jd mx r) (by simp[ens]) rfl (λr hrr=>Rq mx r (by have:=hr8 r hrr;omega));have hdel2:=λ(h:H)(hid:h[8]? =al (am (rows.map V.str)))=>@G7 _ h 8 rows hid (by omega) 264 [.ip (liV mx)] (λr=>jd mx r) (by simp[ens]) rfl (λr hrr=>zY mx r (by have:=hr8 r hrr;omega));have hnn:(rows.filter λr=> !(!jd mx r))=rows.filter (jd mx):=by simp only[Bool.not_not]
        obtain⟨RH,eRH⟩:∃RH,RH=rows.filter (jd mx):=⟨_,rfl⟩;obtain⟨RN,eRN⟩:∃RN,RN=rows.filter λr=> !jd mx r:=⟨_,rfl⟩;rw[hnn]at hdel1;rw[<-eRH]at hdel1 ⊢;rw[<-eRN]at hdel2 ⊢;have hRHm:∀r∈RH,r∈rows/\jd mx r=ab:=λr h=>by rw[eRH]at h;exact List.mem_filter.1 h
        have hcnt:2<=iZ rows mx:=by have:=of_decide_eq_false hm;rcases hmk with⟨h,_⟩|⟨_,h⟩<;>omega
        have hRHl:aa RH<=128:=by rw[eRH];exact Nat.le_trans (List.length_filter_le _ _) hrl
        have hmr:∀r∈RH,∀x∈[mx],x.1<aa r:=λr h x hx=>by rw[zrc.1 hx];have:=mW (lF (hRHm r h).2);omega
        have hdv:=Ac RH [mx] (by simp) (by omega) (λr h=>by have:=hr8 r (hRHm r h).1;omega) hmr;obtain⟨q0,qs,hq⟩:∃q0 qs,RH=q0::qs:=by
         cases hf:RH with
         |nil=>exfalso;unfold iZ at hcnt;rw[List.countP_eq_length_filter,<-eRH,hf]at hcnt;simp at hcnt
         |cons a b=>exact⟨a,b,rfl⟩
        have hq0:mx∈aY q0:=lF (hRHm q0 (by rw[hq];simp)).2;have s1:bK (aS RH [mx])<bK RH:=by rw[hq];exact iw hq0
        have s2:bK RH<=bK rows:=by rw[eRH];exact lD _ _
        have hfc:=ih (aS RH [mx]) (zJ λr h=>hr r (hRHm r h).1) (by unfold aS;rw[zra];exact hRHl) (by omega);have hdv2:Ev TE 214 [aJ RH,.is ab 2 [liV mx]] (aJ (aS RH [mx])):=hdv.les (dm.cons (VLe.refl _) (dm.cons dH dm.nil));have hRNm:∀r∈RN,r∈rows:=λr h=>by rw[eRN]at h;exact(List.mem_filter.1 h).1
        have hRNl:aa RN<=128:=by rw[eRN];exact Nat.le_trans (List.length_filter_le _ _) hrl
        have s3:bK RN<bK rows:=by rw[eRN];exact jD ⟨q0,(hRHm q0 (by rw[hq];simp)).1,by rw[(hRHm q0 (by rw[hq];simp)).2];rfl⟩
        have hfn:=ih RN (λr h=>hr r (hRNm r h)) hRNl (by omega);have hq8:∀r∈aS RH [mx],aa r<=8:=λr h=>by have:=zJ (λr h=>hr r (hRHm r h).1) r h;omega
        have hfl1:=tJ F (aS RH [mx]) hq8 (by omega);have hfl2:=tJ F RN (λr h=>hr8 r (hRNm r h)) (by omega);obtain⟨Q1,eQ1⟩:∃Q1,Q1=wF F (aS RH [mx]):=⟨_,rfl⟩;obtain⟨Q2,eQ2⟩:∃Q2,Q2=wF F RN:=⟨_,rfl⟩;rw[<-eQ1]at hfc hfl1 ⊢;rw[<-eQ2]at hfn hfl2 ⊢;refine ak (dJ mixed Rt (λf' h'=>f'.t 1= .lp 0 0/\f'.t 6= .lp 5 0/\f'.t 11= .ip (.fn (.func 264) [] [.ip (liV mx)])/\f'.t 13=oJ Q1/\f'.d=[3]/\∃L4,h'=[am [aJ rows],am [xU CM],.dead,.misc .dfd,L4,am [vi mx.1,vi mx.2.toNat],.dead,.dead]) (by rw[TEP];decide +kernel) (by decide +kernel) ?_ ?_)
        ·have hdp24:∀X:List V,jv (λj=>j==7) 0 [am [aJ rows],am [xU CM],O.dead,O.misc Misc.dfd,L3,am [vi mx.1,vi mx.2.toNat],O.dead,am (List.map V.str RH++X)]=[am [aJ rows],am [xU CM],O.dead,O.misc Misc.dfd,O.drop (λj=>j==7) L3,am [vi mx.1,vi mx.2.toNat],O.dead,O.dead]:=λX=>rfl;simp only[wq.1,seval,Rt,t1,t6,t12]
         repeat' apply zsa
         all_goals first|exact rfl|exact(by decide)|skip
         all_goals refine kw hcl (by simp only[aL,aE,ax,zre]) ax ?_
         all_goals simp only[wq.1,seval,t6]
         all_goals repeat' apply zsa
         all_goals first|exact rfl|exact(by decide)|skip
         all_goals refine hdel1 _ rfl λX cap=> ?_
         all_goals simp only[wq.1,seval,t6]
         all_goals repeat' apply zsa
         all_goals first|exact rfl|exact(by decide)|skip
         all_goals refine sJ (λj=>j==7) hdv2 rfl (au.cons (rQ (ex:=ap (λj=> !(j==7)) X) (by show al (am (ap _ _))=_;rw[gp,aN])) (au.cons (aC.dat rfl) au.nil)) ?_
         all_goals rw[hdp24 X]
         all_goals simp only[wq.1,seval,bC,hd]
         all_goals refine ag.ev hfc (by simp only[aL,aE,ax,zre]) ?_
         all_goals simp only[wq.1,seval,t1,t6,t11,hd]
         all_goals exact⟨_,rfl⟩
        ·clear t1 t6 t11 t12 hd;rintro f h ⟨t1,t6,t11,t13,hd,L4,rfl⟩;show awp _ _ _ _ _ _ _;have hdp25:∀X:List V,jv (λj=>j==8) 0 [am [aJ rows],am [xU CM],O.dead,O.misc Misc.dfd,L4,am [vi mx.1,vi mx.2.toNat],O.dead,O.dead,am (List.map V.str RN++X)]=[am [aJ rows],am [xU CM],O.dead,O.misc Misc.dfd,O.drop (λj=>j==8) L4,am [vi mx.1,vi mx.2.toNat],O.dead,O.dead,O.dead]:=λX=>rfl;refine ak (dJ mixed Ru (λf' h'=>f'.t 6= .lp 5 0/\f'.t 13=oJ Q1/\f'.t 14=oJ Q2/\f'.d=[3]/\∃L5,h'=[am [aJ rows],am [xU CM],.dead,.misc .dfd,L5,am [vi mx.1,vi mx.2.toNat],.dead,.dead,.dead]) (by rw[TEP];decide +kernel) (by decide +kernel) ?_ ?_)
         ·simp only[wq.1,seval,Ru,t1,t11]
          repeat' apply zsa
          all_goals refine kw hcl (by simp only[aL,aE,ax,zre]) ax ?_
          all_goals simp only[wq.1,seval,t11]
          all_goals repeat' apply zsa
          all_goals refine hdel2 _ rfl λX cap=> ?_
          all_goals simp only[wq.1,seval]
          all_goals refine sJ (λj=>j==8) hfn rfl (au.cons (rQ (ex:=ap (λj=> !(j==8)) X) (by show al (am (ap _ _))=_;rw[gp,aN])) au.nil) ?_
          all_goals rw[hdp25 X]
          all_goals simp only[wq.1,↓reduceIte,Nat.reduceEqDiff,Nat.reduceLT,Nat.reduceLeDiff,Nat.reduceAdd,Nat.reduceSub,Int.reduceToNat,Nat.reduceDiv,Int.reduceLT,Int.reduceLE,Int.reduceNeg,Int.reduceBEq,Int.reduceBNe,Int.reduceAdd,Int.reduceSub,Nat.reduceBEq,reduceCtorEq,Nat.reduceMul,ay,Tryz.results157,bC,t1,t6,t11,t13,hd]
          all_goals exact⟨_,rfl⟩
         ·clear t1 t6 t11 t13 hd;rintro f h ⟨t6,t13,t14,hd,L5,rfl⟩;show awp _ _ _ _ _ _ _;have hal:=Eo [mx] Q1 (by simp) (by omega) (λx hx=>by
           rw[zrc.1 hx];have:=mW hq0;have:=hr8 q0 (hRHm q0 (by rw[hq];simp)).1;omega)
          have hal2:Ev TE 213 [.is ab 2 [liV mx],oJ Q1] (oJ (zI [mx] Q1)):=hal.les (dm.cons dH (dm.cons (VLe.refl _) dm.nil));have hall1:=Eg [mx] Q1;obtain⟨A,eA⟩:∃A,A=zI [mx] Q1:=⟨_,rfl⟩;rw[<-eA]at hal2 hall1 ⊢;have hcat:=Jo [[⟨4,0,2⟩],A,Q2] (by simp at hall1 ⊢;omega) (by simp);have hflat:[[(⟨4,0,2⟩:Fo)],A,Q2].flatten=⟨4,0,2⟩::(A++Q2):=by simp
          rw[hflat]at hcat;have hcat2:Ev TE 220 [.is ab 1 [.is ab 3 [foV ⟨4,0,2⟩],oJ A,oJ Q2]] (oJ (⟨4,0,2⟩::(A++Q2))):=by
           refine hcat.les (dm.cons (VLe.is rfl λi v v' h1 h2=> ?_) dm.nil);rcases i with _|_|_|i
           ·injection h1 with h1;injection h2 with h2;rw[<-h1,<-h2];exact dH
           ·injection h1 with h1;injection h2 with h2;rw[<-h1,<-h2];exact VLe.refl _
           ·injection h1 with h1;injection h2 with h2;rw[<-h1,<-h2];exact VLe.refl _
           ·cases h1
          refine vm ?_;simp only[wq.1,↓reduceIte,Nat.reduceEqDiff,Nat.reduceLT,Nat.reduceLeDiff,Nat.reduceAdd,Nat.reduceSub,Int.reduceToNat,Nat.reduceDiv,Int.reduceLT,Int.reduceLE,Int.reduceNeg,Int.reduceBEq,Int.reduceBNe,Int.reduceAdd,Int.reduceSub,Nat.reduceBEq,reduceCtorEq,Nat.reduceMul,ay,Tryz.results157,t6,t13,t14,hd];refine⟨⟨rfl,by decide⟩,⟨rfl,by decide⟩,ag.ev hal2 (by simp only[aL,aE,lG,zre]) ?_⟩;simp only[wq.1,↓reduceIte,Nat.reduceEqDiff,Nat.reduceLT,reduceCtorEq,Nat.reduceMul,t14];refine⟨⟨rfl,by decide⟩,ag.ev hcat2 (by simp only[aL,aE,lG,zre]) ?_⟩;simp only[wq.1,seval,hd];exact aC.dat (by simp only[aE,lG])
    ·exact h.elim
theorem Vo(c:List S)(s:S):ar (0<=idx c (·==s))=c.contains s:=by
 unfold idx;rw[Bool.eq_iff_iff,zqb];cases h:c.findIdx? (·==s)with
 |none =>
  rw[List.findIdx?_eq_none_iff]at h;constructor
  ·intro h';exact absurd h' (by decide)
  ·intro h';have:=h s (List.contains_iff_mem.1 h');simp at this
 |some i =>
  obtain⟨hi,hp,_⟩:=List.findIdx?_eq_some_iff_getElem.1 h;constructor
  ·intro _;rw[List.contains_iff_mem];have:c[i]=s:=by simpa using hp
   rw[<-this];exact zqu hi
  ·intro _;exact Int.natCast_nonneg i
theorem wO[MO](c:List S)(s:S):Ev TE 63 [aJ c,.str s] (vi (idx c (·==s))):=by
 refine Ev.bnd λhb=> ?_;have hlen:=JU hb;refine ai Tryz.func63 rfl (by simp[nts]) (vm ?_);simp only[wq.1,seval,Tryz.results63];refine aF (λm f h=>∃i,m+i=aa c/\f.t 0=aJ c/\f.t 1= .str s/\f.t 6=aJ c/\f.t 7=vi (aa c)/\f.t 8=vi i/\f.d=[]/\∀x∈c.take i,(x==s)=ac) (aa c) ⟨0,by simp,rfl,rfl,rfl,rfl,rfl,rfl,by simp⟩ ?_;rintro m f h ⟨i,hm,h0,h1,h6,h7,h8,hd,hall⟩;refine vm ?_;simp only[wq.1,seval,h7,h8];refine vcB.mk (λhc=> ?_) (λhc=> ?_)
 ·have hlt:i<aa c:=by have:=zqs hc;omega
  have hgs:=Bz hlt;simp only[wq.1,seval,h0,h1,h8,hgs];refine⟨⟨by omega,by omega⟩,?_⟩;cases hp:(s==c[i])with
  |true =>
   have hp':(c[i]==s)=ab:=by simpa using(by simpa using hp:s=c[i]).symm
   simp only[wq.1,seval,hd];have:idx c (·==s)=i:=by
    unfold idx;have:c.findIdx? (·==s)=al i:=List.findIdx?_eq_some_iff_getElem.2 ⟨hlt,hp',λj hj=>by
     have:=hall c[j] (List.mem_take_iff_getElem.2 ⟨j,by omega,rfl⟩);simp[this]⟩
    rw[this]
   rw[this];exact aC.dat rfl
  |false =>
   have hp':(c[i]==s)=ac:=by rw[beq_eq_false_iff_ne]at hp ⊢;exact λe=>hp e.symm
   simp only[wq.1,seval,h8,aA (show i<maxLen by simp only[maxLen]at *;omega)];exact .inl ⟨m-1,by omega,i+1,by omega,h0,h1,h6,h7,rfl,hd,cu hlt hall hp'⟩
 ·have hi:i=aa c:=by have:=of_decide_eq_false hc;omega
  rw[hi,zrx]at hall;have:idx c (·==s)=-1:=by
   unfold idx;rw[List.findIdx?_eq_none_iff.2 hall]
  rw[this];simp only[wq.1,seval,hd];exact aC.dat rfl
theorem Ep[MO](c:List S)(s:S):Ev TE 156 [aJ c,.str s] (.bool (c.contains s)):=by have h:=wO c s;refine ai Tryz.func156 rfl (by simp[nts]) (vm ?_);simp only[wq.1,seval,Tryz.results156];refine ag.ev h (by simp only[aL,aE,ax,zre]) ?_;simp only[wq.1,seval];exact aC.eq rfl (congrArg V.bool (Vo c s))
theorem Vp[MO](s:S)(n:Nat):Ev TE 153 [.str s,.ip (vi n)] (.bool (!mQ n s)):=by have ht:=DF s [48,49,45] (by decide) (by decide);rw[<-J9];refine ai Tryz.func153 rfl (by simp[nts]) (vm ?_);simp only[wq.1,seval,Tryz.results153];refine ET.ev (q:=154) (vs:=[.str s,.str [48,49,45]]) (by simp only[wq.1,seval]) (by simp only[wq.1,seval]) rfl (λ_=>ht) (λ_=>rfl) ?_;simp only[wq.1,seval];refine aC.eq rfl ?_;cases h1:((aa s:Int)==(n:Int))<;>cases h2:(Lib.trimS s [48,49,45]==[])<;>simp_all [bne]
theorem Rw(rows:List S)(r:S):bM (rows++[r])=if(bM rows).contains r=ab then bM rows else bM rows++[r]:=by unfold bM;rw[List.foldl_append];rfl
theorem Rx[MO](rows:List S)(n:Nat)(hn:n<=8)(hrl:aa rows<=128)(hr:∀r∈rows,mQ n r=ab):Ev TE 90 [aJ rows,vi n] (.tup [oJ (Qz (bM rows)),vi 0]):=by
 have hM:=mLx;have hul:∀i,aa (bM (rows.take i))<=i:=λi=>by have:=Ej (rows.take i) [];rw[zrl]at this;simp only[List.length_nil]at this;unfold bM;omega
 have hm:∀r∈bM rows,aa r=n:=λr hr2=>by
  rcases lZ rows [] r hr2 with h|h
  ·cases h
  ·have:=hr r h;unfold mQ at this;simp only[zqf,beq_iff_eq]at this;exact this.1
 have hct:=DK rows 153 [.ip (vi n)] (λr=> !mQ n r) (by simp[ens]) rfl λr _=>Vp r n;have hany:rows.any (λr=> !mQ n r)=ac:=by rw[List.any_eq_false];intro r h;rw[hr r h];decide
 rw[hany]at hct;have e1:ar ((n:Int)<0)=ac:=by rw[zqd];omega
 have e2:ar ((8:Int)<(n:Int))=ac:=by rw[zqd];omega
 have e3:ar ((128:Int)<(aa rows:Int))=ac:=by rw[zqd];omega
 refine ai Tryz.func90 rfl (by simp[nts]) ?_;refine vn ?_;simp only[wq.1,Nat.reduceLT,Tryz.results90];refine vn ?_;simp only[wq.1,seval];refine ak ?_;refine vn ?_;simp only[wq.1,seval,e1,e2,e3];refine ag.lend hct (au.cons (aC.dat (by simp only[aE,ax])) (au.cons (aC.fn au.nil (au.cons (aC.lp rfl (au.dat rfl) rfl rfl (by simp[V.vc]) rfl) au.nil)) au.nil)) rfl ?_;simp only[wq.1,seval];refine vm ?_;simp only[wq.1,↓reduceIte];show awp _ _ _ _ _ _ _;refine vn ?_;simp only[wq.1,Nat.reduceLT];refine iF 7 1 (by simp only[wq.1,↓reduceIte]) ?_;refine vn ?_;simp only[wq.1,seval];refine aF (λm f h=>∃i,m+i=aa rows/\h[1]? =al (am ((bM (rows.take i)).map V.str))/\f.t 7= .ls 1 1 0 (aa (bM (rows.take i))) (aa (bM (rows.take i)))/\f.t 27=aJ rows/\f.t 28=vi (aa rows)/\f.t 29=vi i/\f.d=[]) (aa rows) ⟨0,by omega,rfl,by simp only[wq.1,seval];rfl,by simp only[wq.1,seval],by simp only[wq.1,seval],by rfl,by simp only[wq.1]⟩ ?_;rintro m f h ⟨i,hm2,h1,t7,t27,t28,t29,hd⟩;have hw:=aA (show i<maxLen by omega);have l1:=(zqe h1).1;refine vn ?_;simp only[wq.1,Nat.reduceLT,t28,t29];refine vn ?_;simp only[wq.1,↓reduceIte];refine vcB.mk (λhlt=> ?_) (λhlt=> ?_)
 ·have hlt:i<aa rows:=by have:=zqs hlt;omega
  obtain⟨r,er⟩:∃r,r=rows[i]:=⟨_,rfl⟩;have hg:=Bz hlt .any;rw[<-er]at hg;have hus:bM (rows.take (i+1))=if(bM (rows.take i)).contains r=ab then bM (rows.take i)else bM (rows.take i)++[r]:=by rw[List.take_succ_eq_append_getElem hlt,<-er,Rw]
  have hul':=hul i;obtain⟨U,eU⟩:∃U,U=bM (rows.take i):=⟨_,rfl⟩;rw[<-eU]at hus h1 t7 hul';have hcs:=Ep U r;have dU:∀p,ap p (U.map V.str)=U.map V.str:=λp=>aN;simp only[wq.1];refine vm ?_;simp only[wq.1,seval,t7,t27,t29,hg];refine⟨⟨by omega,by omega⟩,ag.lend hcs (au.cons (aX h1 rfl) (au.cons (aC.dat rfl) au.nil)) rfl ?_⟩;cases hc:U.contains r with
  |true=>rw[hc,if_pos rfl]at hus;simp only[wq.1,seval,t29,hw];exact .inl ⟨m-1,by omega,i+1,by omega,by rw[hus];exact h1,by simp only[wq.1,seval,t7,hus],by simp only[wq.1,seval,t27],by simp only[wq.1,seval,t28],by simp only[wq.1,↓reduceIte],by simp only[wq.1,hd]⟩
  |false =>
   rw[hc,if_neg (by decide)]at hus;have hln:aa (U++[r])=aa U+1:=by simp
   simp only[wq.1,↓reduceIte,Nat.reduceEqDiff,Nat.reduceLT,reduceCtorEq,Nat.reduceMul,t7,t29,hd,hw,h1];refine⟨⟨rfl,by decide⟩,⟨by omega,by omega⟩,.inl ⟨m-1,by omega,i+1,by omega,?_,by simp only[wq.1,↓reduceIte,Nat.reduceEqDiff,Nat.reduceLT,Nat.reduceLeDiff,Nat.reduceAdd,Nat.reduceSub,Int.reduceToNat,Nat.reduceDiv,Int.reduceLT,Int.reduceLE,Int.reduceNeg,Int.reduceBEq,Int.reduceBNe,Int.reduceAdd,Int.reduceSub,Nat.reduceBEq,reduceCtorEq,Nat.reduceMul,ay,Tryz.results90,hus,hln],by simp only[wq.1,↓reduceIte,Nat.reduceEqDiff,Nat.reduceLT,Nat.reduceLeDiff,Nat.reduceAdd,Nat.reduceSub,Int.reduceToNat,Nat.reduceDiv,Int.reduceLT,Int.reduceLE,Int.reduceNeg,Int.reduceBEq,Int.reduceBNe,Int.reduceAdd,Int.reduceSub,Nat.reduceBEq,reduceCtorEq,Nat.reduceMul,ay,Tryz.results90,t27],by simp only[wq.1,↓reduceIte,Nat.reduceEqDiff,Nat.reduceLT,Nat.reduceLeDiff,Nat.reduceAdd,Nat.reduceSub,Int.reduceToNat,Nat.reduceDiv,Int.reduceLT,Int.reduceLE,Int.reduceNeg,Int.reduceBEq,Int.reduceBNe,Int.reduceAdd,Int.reduceSub,Nat.reduceBEq,reduceCtorEq,Nat.reduceMul,ay,Tryz.results90,t28],by simp only[wq.1,↓reduceIte,Nat.reduceEqDiff,Nat.reduceLT,Nat.reduceLeDiff,Nat.reduceAdd,Nat.reduceSub,Int.reduceToNat,Nat.reduceDiv,Int.reduceLT,Int.reduceLE,Int.reduceNeg,Int.reduceBEq,Int.reduceBNe,Int.reduceAdd,Int.reduceSub,Nat.reduceBEq,reduceCtorEq,Nat.reduceMul,ay,Tryz.results90],by simp only[wq.1,↓reduceIte,Nat.reduceEqDiff,Nat.reduceLT,Nat.reduceLeDiff,Nat.reduceAdd,Nat.reduceSub,Int.reduceToNat,Nat.reduceDiv,Int.reduceLT,Int.reduceLE,Int.reduceNeg,Int.reduceBEq,Int.reduceBNe,Int.reduceAdd,Int.reduceSub,Nat.reduceBEq,reduceCtorEq,Nat.reduceMul,ay,Tryz.results90,hd]⟩⟩;rw[zqt (by simpa using l1),hus,zql];rfl
 ·have hi:i=aa rows:=by have:=of_decide_eq_false hlt;omega
  rw[hi,zrx]at h1 t7;have hul':=hul (aa rows);rw[zrx]at hul';have hfac:=Ha hn (bK (bM rows)+1) (bM rows) hm (by omega) (by omega);simp only[wq.1];refine vm ?_;simp only[wq.1,seval,t7];refine sJ (λj=>j==1) hfac rfl (au.cons (aX (l:=bM rows) ?_ rfl) au.nil) ?_
  ·rw[fV,h1];show al (am (ap _ _))=_;rw[aN]
  ·simp only[wq.1,seval,bC,hd];exact aC.tup (au.cons (aC.dat (by show aE (oJ (wF _ _))=ab;simp only[aE,lG])) (au.cons (aC.dat rfl) au.nil))
theorem Ry[MO](s:S):Ev TE 159 [.str s] (.fn (.func 222) [] [.ip (.str s)]):=by refine ai Tryz.func159 rfl (by simp[nts]) (vm ?_);simp only[wq.1,seval,Tryz.results159];exact aC.fn au.nil (au.cons (aC.lp rfl (au.dat rfl) rfl rfl (by simp[V.vc]) rfl) au.nil)
theorem Rz(k:Nat):[110]++Lib.itoa (k:Int)=ja k:=by unfold Lib.itoa ja;rw[if_neg (by omega),zsg];rfl
theorem He[MO](n:Nat)(hn:n<=1000000000)(id:Nat)(h:H)(I:Nat->H->(Nat->Bool)->Prop)(S:H->(Nat->Bool)->Prop)(h0:I 0 h (λ_=>ac))
 (step:∀i h' k,i<n->k id=ac->I i h' k->YC TE id [.str (ja (i+1))] h' λj h'' p=>j=aq/\I (i+1) h'' (λq=>k q||p q))
 (stop:∀h' k,k id=ac->I n h' k->YC TE id [.str (ja (n+1))] h' λj h'' p=>j.isNone=ac/\S h'' (λq=>k q||p q)) :
 ag TE 222 ([]++[.yd id]++[.ip (.str [110])]) h λae h' p=>p id=ac/\match ae with
  | .ret _=>S h' p
  | .pan _=>False:=by
 have hM:=mLx;refine aj Tryz.func222 rfl (by simp[nts]) ?_;refine vn ?_;simp only[wq.1,Nat.reduceLT,Tryz.results222];refine aB ?_;refine aF (λm f h=>∃i,m+i=n/\f.t 0= .yd id/\f.t 1= .ip (.str [110])/\f.t 3=vi (i+1:Nat)/\f.d=[]/\f.k id=ac/\I i h f.k) n ⟨0,by omega,rfl,rfl,rfl,rfl,rfl,h0⟩ ?_;rintro m f h ⟨i,hm,t0,t1,t3,hd,hk,hI⟩;have hw:=aA (show i+1<maxLen by omega);have hit:=Xj ((i+1:Nat):Int) (by omega) (by omega);refine ak (ak (lT mixed (by decide +kernel) ?_));simp only[nts,List.size_toArray,zrt,List.length_nil,Nat.reduceAdd,Nat.reduceSub,List.take_succ_cons,List.take_zero];simp only[wq.1,seval,bJ,bT,t0,t1,t3];refine uh.mk hit rfl rfl ?_;simp only[wq.1,seval];have hst:(110:UInt8)::Lib.itoa ((i+1:Nat):Int)=ja (i+1):=Rz (i+1);have hil:=J3 ((i+1:Nat):Int) (by omega) (by omega);rw[hst];refine⟨by omega,?_⟩;by_cases hin:i<n
 ·obtain⟨t,n',ps,asg,body,pend,hL,hsz,hps,hw2⟩:=step i h f.k hin hk hI;rw[hL];refine⟨⟨by simpa using hsz,hps⟩,pJ hw2 ?_⟩;rintro j h' p hp ⟨rfl,hS⟩;refine⟨by simp[ui,hd],?_⟩;simp only[wq.1,Option.isNone_none];refine vm ?_;simp only[wq.1,↓reduceIte];refine vm ?_;simp only[wq.1,seval,t3,hw];exact .inl ⟨m-1,by omega,i+1,by omega,by simp only[wq.1,seval,t0,hp],by simp only[wq.1,seval,t1],by simp only[wq.1,↓reduceIte],by simp only[wq.1,hd],by simp only[wq.1,hk,hp],hS⟩
 ·have hie:i=n:=by omega
  subst hie;obtain⟨t,n',ps,asg,body,pend,hL,hsz,hps,hw2⟩:=stop h f.k hk hI;rw[hL];refine⟨⟨by simpa using hsz,hps⟩,pJ hw2 ?_⟩;rintro j h' p hp ⟨hj,hS⟩;refine⟨by simp[ui,hd],?_⟩;simp only[wq.1,hj];refine vm ?_;simp only[wq.1,↓reduceIte,hd,hp,hk];exact hS
theorem Ym(used:List S):∃n,n<=aa used/\oV used=ja (n+1)/\(∀i,i<n->ja (i+1)∈used)/\ja (n+1)∉used:=by
 obtain⟨hnm,j,hj,hjs⟩:=KD used;obtain⟨j',h1,h2,h3,h4,_⟩:=DZ (aa used) 1 used;refine⟨j'-1,by omega,?_,λi hi=>h4 (i+1) (by omega) (by omega),?_⟩
 ·show Gw _ _ _=_;rw[h3];congr 1;omega
 ·have:oV used=ja j':=h3;rw[this]at hnm
  rwa [show j'-1+1=j' by omega]
theorem Vq[MO](used:List S)(hu:aa used<=1000000000):Ev TE 93 [aJ used,.str [110]] (.str (oV used)):=by
 have hM := mLx;obtain ⟨n,hn,hfr,hin,hnot⟩ := Ym used;rw [hfr];refine ai Tryz.func93 rfl (by simp [nts]) ?_;refine vn ?_;simp only [wq.1,seval,Tryz.results93];refine vn ?_;simp only [wq.1,seval];refine vn ?_;simp only [wq.1,seval];refine ag.ev (Ry [110]) rfl ?_;simp only [wq.1];refine jr (n := 17) (q := 222) (first := []) (captured := [.ip (.str [110])]) (by simp only [wq.1,↓reduceIte]) (by simp only [wq.1,↓reduceIte]) rfl (by decide) ?_;intro L hLd gets;refine ag.mono (He n (by omega) 3 _
  (λj h k=>(∀i<4,k i=ac)/\∃t X,t 2= .lp 0 0/\t 5= .lp 1 0/\h=[am [aJ used],am [.str [110]],.misc .dfd,L t .ready aq]++X)
  (λh k=>(∀i<4,k i=ac)/\∃t X,h=[am [aJ used],am [.str (ja (n+1))],.misc .dfd,L t .done (al (.exit 0))]++X) ?_ ?_ ?_) ?_
 ·exact⟨λi _=>rfl,_,[],rfl,rfl,by rw[zqp];rfl⟩
 ·rintro i h k hi hk ⟨h4,t,X,t2,t5,rfl⟩;have hc:=Ep used (ja (i+1));rw[List.contains_iff_mem.2 (hin i hi)]at hc;refine gets _ _ _ t rfl rfl (λlb=> ?_);refine vm ?_;simp only[wq.1,seval,uq];refine⟨t,rfl,?_⟩;refine aB ?_;refine vn ?_;simp only[wq.1,seval,t2];refine ag.ev hc (by simp only[aL,aE,ax,zre]) ?_;simp only[wq.1,seval];refine vm ?_;simp only[wq.1,↓reduceIte,oQ,XE.jump];exact⟨t,_,rfl,h4,t,X,t2,t5,rfl⟩
 ·rintro h k hk ⟨h4,t,X,t2,t5,rfl⟩;have hc:=Ep used (ja (n+1));have hcf:used.contains (ja (n+1))=ac:=by
   cases hb:used.contains (ja (n+1))with
   |false=>rfl
   |true=>exact absurd (List.contains_iff_mem.1 hb) hnot
  rw[hcf]at hc;refine gets _ _ _ t rfl rfl (λlb=> ?_);refine vm ?_;simp only[wq.1,seval,uq];refine⟨t,rfl,?_⟩;refine aB ?_;refine vn ?_;simp only[wq.1,seval,t2];refine ag.ev hc (by simp only[aL,aE,ax,zre]) ?_;simp only[wq.1,seval];refine vm ?_;simp only[wq.1,seval,t5,oQ,XE.jump];exact⟨t,_,rfl,rfl,h4,t,X,rfl⟩
 ·rintro ae h' p ⟨hp,hr⟩;cases ae with
  |pan v=>exact hr.elim
  |ret v =>
   obtain⟨h4,t,X,rfl⟩:=hr;have k0:=h4 0 (by decide);have k1:=h4 1 (by decide);have k2:=h4 2 (by decide);have k3:=h4 3 (by decide);refine⟨λi hi=> ?_,hp,t,_,al (.exit 0),(by decide),rfl,?_⟩
   ·have hi:i=2:=by simpa [ui,uj]using hi
    subst hi;exact k2
   ·simp only[wq.1,Nat.reduceAdd,AC];refine vm ?_;simp only[wq.1,seval,k1];exact aC.dat rfl
end Go.Proofs.YthaijohbpdabfaaGreatDoor
