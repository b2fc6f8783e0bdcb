/- Lemmas for this claim, part A1: each holds under what it names. -/
import Derived.WalkKit
import Derived.RangeFuncLeaves
import Derived.OrdersIn
import Derived.TacticsInMore
import Derived.ShutString
import Derived.WalkLawsBesides
import Derived.WalkSpells
import Derived.MapKept
set_option linter.all false
namespace Go.Abs
open List renaming length → aa, replicate → ao
open Bool renaming true → ab, false → ac
open Option renaming some → al, none → aq
open Decidable renaming decide → ar
open Go.IntKind renaming wrap → aD
open Go.Result renaming andThen → aM
theorem mLx:maxLen=9223372036854775807:=rfl
theorem zqa{α:Type _}{as bs:List α}:aa (as++bs)=aa as+aa bs:=List.length_append
theorem zqb{p:Prop}[Decidable p]:(decide p=ab)=p:=decide_eq_true_eq
theorem zqc{α:Type _}:∀(as bs cs:List α),as++bs++cs=as++(bs++cs):=List.append_assoc
theorem zqd{p:Prop}{_:Decidable p}:decide p=ac↔¬p:=decide_eq_false_iff_not
theorem zqe{α:Type _}{i:Nat}{a:α}{l:List α}:l[i]? =al a->∃h:i<aa l,l[i]=a:=List.getElem?_eq_some_iff.1
theorem zqf:∀(a b:Bool),((a&&b)=ab)=(a=ab/\b=ab):=Bool.and_eq_true
theorem zqg{α:Type _}{l:List α}{i:Nat}{a:α}:l.getD i a=l[i]?.getD a:=List.getD_eq_getElem?_getD
theorem zqh{α:Type _}{i:Nat}{l:List α}:aa l<=i->l.take i=l:=List.take_of_length_le
theorem zqi{n m:Nat}:(n:Int)<m↔n<m:=Int.ofNat_lt
theorem zqj{α:Type _}{l m:List α}{i:Nat}:i<aa l->(l++m)[i]? =l[i]? :=List.getElem?_append_left
theorem zqk{α:Type _}{l:List α}{i:Nat}:∀(h:i<aa l),l[i]? =al l[i]:=List.getElem?_eq_getElem
theorem zql{α:Type _}{β:Type _}{f:α->β}{l m:List α}:(l++m).map f=l.map f++m.map f:=List.map_append
theorem zqn{α:Type _}{l:List α}{i j:Nat}:i≠j->∀ {a:α},(l.set i a)[j]? =l[j]? :=List.getElem?_set_ne
theorem zqo{α:Type _}{β:Type _}{f:α->β}{l:List α}{i:Nat}:(l.map f)[i]? =l[i]?.map f:=List.getElem?_map
theorem zqp{α:Type _}:∀(as:List α),as++[]=as:=List.append_nil
theorem zqt{α:Type _}{l:List α}{i:Nat}{a:α}:i<aa l->(l.set i a)[i]? =al a:=List.getElem?_set_self
theorem zqu{α:Type _}{l:List α}{n:Nat}:∀(h:n<aa l),l[n]∈l:=List.getElem_mem
theorem zqs{p:Prop}[Decidable p]:decide p=ab->p:=of_decide_eq_true
theorem zra{α:Type _}{β:Type _}{as:List α}:∀(f:α->β),aa (as.map f)=aa as:=List.length_map
theorem zrb:∀(n:Nat),n<=n:=Nat.le_refl
theorem zrd{α:Type _}{β:Type _}{f:α->β}{a:α}{l:List α}:(a::l).map f=f a::l.map f:=List.map_cons
theorem zre:∀(b:Bool),(b&&b)=b:=Bool.and_self
theorem zrg{α:Type _}{l:List α}{i:Nat}:l.take (i+1)=l.take i++l[i]?.toList:=List.take_add_one
theorem zrj{α:Type _}{b:α}{l:List α}{a:α}:a∈b::l↔a=b\/a∈l:=List.mem_cons
theorem zrk{α:Type _}{a:α}:[a].length=1:=List.length_singleton
theorem zrl{α:Type _}{i:Nat}{l:List α}:aa (l.take i)=min i (aa l):=List.length_take
theorem zrm:(ac=ab)=False:=Bool.false_eq_true
theorem zrn{α:Type _}{as:List α}{i:Nat}{a:α}:aa (as.set i a)=aa as:=List.length_set
theorem zrp{α:Type _}{a:α}:¬a∈[]:=List.not_mem_nil
theorem zrf{α:Type _}{a:α}{s t:List α}:a∈s++t↔a∈s\/a∈t:=List.mem_append
theorem zrh{α:Type _}{β:Type _}{b:β}{f:α->β}{l:List α}:b∈l.map f↔∃a,a∈l/\f a=b:=List.mem_map
theorem zrc{α:Type _}{a b:α}:a∈[b]↔a=b:=List.mem_singleton
theorem zrs{α:Type _}{p:α->Bool}{l:List α}:l.all p=ab↔∀x,x∈l->p x=ab:=List.all_eq_true
theorem zrt{α:Type _}{a:α}{as:List α}:aa (a::as)=aa as+1:=List.length_cons
theorem zrx{α:Type _}{l:List α}:l.take (aa l)=l:=List.take_length
theorem zsa{a b:Prop}:a->b->a/\b:=And.intro
theorem zsb{α:Type _}{l₁ l₂:List α}{i:Nat}:aa l₁<=i->(l₁++l₂)[i]? =l₂[i-aa l₁]? :=List.getElem?_append_right
theorem zsc{α:Type _}{n:Nat}{a:α}:aa (ao n a)=n:=List.length_replicate
theorem zsd{α:Type _}{β:Type _}{l:List α}{f g:α->β}:(∀a,a∈l->f a=g a)->l.map f=l.map g:=List.map_congr_left
theorem zse{α:Type _}{l:List α}:aa l=0->l=[]:=List.length_eq_zero_iff.1
theorem zsf{x y:Bool}:(x||y)=ac↔x=ac/\y=ac:=Bool.or_eq_false_iff
theorem zsg:∀(n:Nat),((n:Int)).toNat=n:=Int.toNat_natCast
theorem zsh{α:Type _}{i:Nat}{a:α}{l:List α}:a∈l.take i->a∈l:=List.mem_of_mem_take
theorem zsj{α:Type _}{l:List α}{i:Nat}:aa l<=i->l[i]? =aq:=List.getElem?_eq_none
theorem zrw{α:Type _}{β:Type _}:∀(a:α)(f:α->β),Option.map f (al a)=al (f a):=Option.map_some
inductive V where
 |any
 |bool (b:Bool)
 |int (k:IntKind) (n:Int)
 |str (s:List UInt8)
 |nilp
 |lp (id off:Nat)
 |ip (e:V)
 |nils
 |ls (id k off len cap:Nat)
 |is (x:Bool) (k:Nat) (es:List V)
 |nilm
 |lm (id:Nat)
 |im (ks vs:List V)
 |fn (f:Fn) (first captured:List V)
 |yd (id:Nat)
 |nilf
 |iface (t:TypeId) (e:V)
 |nili
 |agg (vs:List V)
 |tup (vs:List V)
 |grd (g:Bool) (e:V)
 |row (k:Nat) (es:List V)
instance:Inhabited V:=⟨.any⟩
structure C where
 w:World
 ok:Nat->Prop
 pl:Nat->Option Nat
def C.data(c:C):C:={c with pl:=λ_=>aq}
def rq(c:C)(b off:Nat)(ev:Value):Prop :=
 ∀j,j<ev.cells.size->c.ok b/\c.w.cell? ⟨b,off+j,aq⟩=ev.cells[j]?
def yz(es:Array MapEntry)(clk:Nat):Prop:=(∀x∈es.toList,x.born<clk)/\(es.toList.map (·.born)).Nodup
mutual
def VRel:C->V->Value->Prop
 |_,.any,_=>True
 |_,.bool b,x=>x= .bool b
 |_,.int k n,x=>x= .int k n
 |_,.str l,x=>∃s:ByteArray,x= .string s/\s.data.toList=l/\aa l<=maxLen
 |_,.nilp,x=>x= .pointer aq
 |c,.lp id off,x=>∃b,c.pl id=al b/\x= .pointer (al ⟨b,off,aq⟩)
 |c,.ip e,x=>∃b off ev,x= .pointer (al ⟨b,off,aq⟩)/\rq c b off ev/\0<ev.cells.size/\VRel c.data e ev
 |_,.nils,x=>x= .slice aq 0 0
 |c,.ls id k off len cap,x=>∃a cp,x= .slice a len cp/\cap<=cp/\len<=cp/\cp<=maxLen /\
  (cp=0\/∃b arr el fz,c.pl id=al b/\a=al ⟨b,off,aq⟩/\c.w.heap[b]? =al (.cells arr el fz)/\off+cp*k<=arr.size)
 |c,.is ex k es,x=>∃a cp,x= .slice a (aa es) cp/\aa es<=cp/\cp<=maxLen/\(ex=ab->cp=aa es) /\
  (es=[]\/∃b off,a=al ⟨b,off,aq⟩/\VElems c.data k es b off)
 |_,.nilm,x=>x= .map aq
 |c,.lm id,x=>∃b,c.pl id=al b/\x= .map (al b)
 |c,.im ks vs,x=>∃r es clk,x= .map (al r)/\c.ok r/\c.w.heap[r]? =al (.map es clk) /\
  VList c.data ks (es.toList.map (·.key))/\VList c.data vs (es.toList.map (·.val))/\yz es clk
 |c,.fn f first captured,x=>∃fs cs,x= .func f fs cs/\VList c first fs.toList/\VList c captured cs.toList
 |c,.yd id,x=>∃b,c.pl id=al b/\x= .func (.yield b) #[] #[]
 |_,.nilf,x=>x= .nilFunc
 |c,.iface t e,x=>∃ev,x= .iface t ev/\VRel c e ev
 |_,.nili,x=>x= .nilIface
 |c,.agg vs,x=>∃cs,x= .agg cs/\VList c vs cs.toList
 |c,.tup vs,x=>∃cs,x= .tuple cs/\VList c vs cs.toList
 |c,.grd g e,x=>(g=ab->VRel c e x)/\(g=ac->x=undef)
 |c,.row k es,x=>∃b,x= .slice (al ⟨b,0,aq⟩) (aa es) (aa es)/\aa es<=maxLen/\VElems c k es b 0
def VList:C->List V->List Value->Prop
 |_,[],xs=>xs=[]
 |c,v::vs,xs=>∃y ys,xs=y::ys/\VRel c v y/\VList c vs ys
def VElems:C->Nat->List V->Nat->Nat->Prop
 |_,_,[],_,_=>True
 |c,k,e::es,b,off=>(∃ev,ev.cells.size=k/\rq c b off ev/\VRel c e ev)/\VElems c k es b (off+k)
end
mutual
def V.drop(p:Nat->Bool):V->V
 | .lp id off=>if p id then .any else .lp id off
 | .ls id k off len cap=>if p id then .any else .ls id k off len cap
 | .lm id=>if p id then .any else .lm id
 | .yd id=>if p id then .any else .yd id
 | .fn f first captured=> .fn f (V.drops p first) (V.drops p captured)
 | .iface t e=> .iface t (e.drop p)
 | .agg vs=> .agg (V.drops p vs)
 | .tup vs=> .tup (V.drops p vs)
 | .grd g e=> .grd g (e.drop p)
 | .row k es=> .row k (V.drops p es)
 |v=>v
def V.drops(p:Nat->Bool):List V->List V
 |[]=>[]
 |v::vs=>v.drop p::V.drops p vs
end
@[simp] theorem V.drop_none : ∀ v : V, v.drop (λ_ => ac) = v
  | .any | .bool _ | .int _ _ | .str _ | .nilp | .lp _ _ | .ip _ | .nils | .ls _ _ _ _ _ | .is _ _ _ | .nilm | .lm _ | .im _ _ | .yd _ | .nilf | .nili=>by simp[V.drop]
  | .fn f a b=>by rw[V.drop,V.drops_none a,V.drops_none b]
  | .iface t e=>by rw[V.drop,V.drop_none e]
  | .agg vs=>by rw[V.drop,V.drops_none vs]
  | .tup vs=>by rw[V.drop,V.drops_none vs]
  | .grd g e=>by rw[V.drop,V.drop_none e]
  | .row k es=>by rw[V.drop,V.drops_none es]
where V.drops_none : ∀ vs : List V,V.drops (λ_ => ac) vs = vs
 |[]=>by rw[V.drops]
 |v::vs=>by rw[V.drops,V.drop_none v,V.drops_none vs]
structure CExt(p:Nat->Bool)(c c':C):Prop where
 dat:∀b,b<c.w.heap.size->c.ok b->c'.ok b/\c'.w.heap[b]? =c.w.heap[b]?
 pl:∀i b,p i=ac->c.pl i=al b->c'.pl i=al b
 row:∀(b:Nat) arr el fz,c.w.heap[b]? =al (.cells arr el fz)->∃arr' fz',c'.w.heap[b]? =al (.cells arr' el fz')/\arr'.size=arr.size
theorem CExt.data{p:Nat->Bool}{c c':C}(h:CExt p c c'):CExt (λ_=>ac) c.data c'.data :=
 ⟨h.dat,λ_ _ _ h=>by simp[C.data]at h,h.row⟩
theorem aW{w:World}{b:Nat}{o:Obj}(h:w.heap[b]? =al o):b<w.heap.size:=by
 by_cases hb:b<w.heap.size
 ·exact hb
 ·rw[Array.getElem?_eq_none (by omega)]at h;cases h
theorem LP{w:World}{a:Addr}{v:Value}(h:w.cell? a=al v):a.block<w.heap.size:=by
 unfold World.cell? at h;by_cases hb:a.block<w.heap.size
 ·exact hb
 ·rw[Array.getElem?_eq_none (by omega)]at h;cases h
theorem rq.mono{p:Nat->Bool}{c c':C}(h:CExt p c c'){b off:Nat}{ev:Value}(hr:rq c b off ev):rq c' b off ev:=by
 intro j hj;obtain⟨h1,h2⟩:=hr j hj;have h3:c.w.cell? ⟨b,off+j,aq⟩=al ev.cells[j]:=by rw[h2];simp[hj]
 have hb:=LP h3;obtain⟨h4,h5⟩:=h.dat b hb h1;exact⟨h4,by rw[World.cell?_of_block (a:=⟨b,off+j,aq⟩) h5];exact h2⟩
mutual
theorem VRel.mono{c c':C}(h:CExt (λ_=>ac) c c'):∀(v:V)(x:Value),VRel c v x->VRel c' v x
 | .any,_,_=>by simp[VRel]
 | .bool _,_,hv | .int _ _,_,hv | .str _,_,hv | .nilp,_,hv | .nils,_,hv | .nilm,_,hv | .nilf,_,hv | .nili,_,hv=>by simpa only[VRel]using hv
 | .lp id off,x,hv=>by simp only[VRel]at hv ⊢;obtain⟨b,h1,h2⟩:=hv;exact⟨b,h.pl _ _ rfl h1,h2⟩
 | .ip e,x,hv=>by simp only[VRel]at hv ⊢;obtain⟨b,off,ev,h1,h2,h3,h4⟩:=hv;exact⟨b,off,ev,h1,h2.mono h,h3,VRel.mono h.data e ev h4⟩
 | .ls id k off len cap,x,hv=>by
  simp only[VRel]at hv ⊢;obtain⟨a,cp,h1,h2,h3,h4,h5⟩:=hv;refine⟨a,cp,h1,h2,h3,h4,?_⟩;rcases h5 with h5|⟨b,arr,el,fz,h5,h6,h7,h8⟩
  ·exact .inl h5
  ·obtain⟨arr',fz',h9,h10⟩:=h.row _ _ _ _ h7;exact .inr ⟨b,arr',el,fz',h.pl _ _ rfl h5,h6,h9,by omega⟩
 | .is ex k es,x,hv=>by
  simp only[VRel]at hv ⊢;obtain⟨a,cp,h1,h2,h3,h4,h5⟩:=hv;refine⟨a,cp,h1,h2,h3,h4,?_⟩;rcases h5 with h5|⟨b,off,h5,h6⟩
  ·exact .inl h5
  ·exact .inr ⟨b,off,h5,VElems.mono h.data k es b off h6⟩
 | .lm id,x,hv=>by simp only[VRel]at hv ⊢;obtain⟨b,h1,h2⟩:=hv;exact⟨b,h.pl _ _ rfl h1,h2⟩
 | .im ks vs,x,hv=>by simp only[VRel]at hv ⊢;obtain⟨r,es,clk,h1,h2,h3,h4,h5⟩:=hv;obtain⟨h6,h7⟩:=h.dat r (aW h3) h2;exact⟨r,es,clk,h1,h6,h7.trans h3,VList.mono h.data ks _ h4,VList.mono h.data vs _ h5.1,h5.2⟩
 | .fn f first captured,x,hv=>by simp only[VRel]at hv ⊢;obtain⟨fs,cs,h1,h2,h3⟩:=hv;exact⟨fs,cs,h1,VList.mono h first _ h2,VList.mono h captured _ h3⟩
 | .yd id,x,hv=>by simp only[VRel]at hv ⊢;obtain⟨b,h1,h2⟩:=hv;exact⟨b,h.pl _ _ rfl h1,h2⟩
 | .iface t e,x,hv=>by simp only[VRel]at hv ⊢;obtain⟨ev,h1,h2⟩:=hv;exact⟨ev,h1,VRel.mono h e _ h2⟩
 | .agg vs,x,hv=>by simp only[VRel]at hv ⊢;obtain⟨cs,h1,h2⟩:=hv;exact⟨cs,h1,VList.mono h vs _ h2⟩
 | .tup vs,x,hv=>by simp only[VRel]at hv ⊢;obtain⟨cs,h1,h2⟩:=hv;exact⟨cs,h1,VList.mono h vs _ h2⟩
 | .grd g e,x,hv=>by simp only[VRel]at hv ⊢;exact⟨λhg=>VRel.mono h e _ (hv.1 hg),hv.2⟩
 | .row k es,x,hv=>by simp only[VRel]at hv ⊢;obtain⟨b,h1,h2,h3⟩:=hv;exact⟨b,h1,h2,VElems.mono h k es b 0 h3⟩
theorem VList.mono{c c':C}(h:CExt (λ_=>ac) c c'):∀(vs:List V)(xs:List Value),VList c vs xs->VList c' vs xs
 |[],xs,hv=>by simpa only[VList]using hv
 |v::vs,xs,hv=>by simp only[VList]at hv ⊢;obtain⟨y,ys,h1,h2,h3⟩:=hv;exact⟨y,ys,h1,VRel.mono h v _ h2,VList.mono h vs _ h3⟩
theorem VElems.mono{c c':C}(h:CExt (λ_=>ac) c c'):∀(k:Nat)(es:List V)(b off:Nat),VElems c k es b off->VElems c' k es b off
 |k,[],b,off,hv=>by simp only[VElems]
 |k,e::es,b,off,hv=>by simp only[VElems]at hv ⊢;obtain⟨⟨ev,h1,h2,h3⟩,h4⟩:=hv;exact⟨⟨ev,h1,h2.mono h,VRel.mono h e _ h3⟩,VElems.mono h k es b (off+k) h4⟩
end
mutual
theorem VRel.mdrop{p:Nat->Bool}{c c':C}(h:CExt p c c'):∀(v:V)(x:Value),VRel c v x->VRel c' (v.drop p) x
 | .any,_,_=>by simp[VRel,V.drop]
 | .bool _,_,hv | .int _ _,_,hv | .str _,_,hv | .nilp,_,hv | .nils,_,hv | .nilm,_,hv | .nilf,_,hv | .nili,_,hv=>by simpa only[VRel,V.drop]using hv
 | .lp id off,x,hv=>by
  rw[V.drop];split
  ·simp[VRel]
  ·rename_i hp;simp only[VRel]at hv ⊢;obtain⟨b,h1,h2⟩:=hv;exact⟨b,h.pl _ _ (by simpa using hp) h1,h2⟩
 | .ip e,x,hv=>by simp only[VRel,V.drop]at hv ⊢;obtain⟨b,off,ev,h1,h2,h3,h4⟩:=hv;exact⟨b,off,ev,h1,h2.mono h,h3,VRel.mono h.data e ev h4⟩
 | .ls id k off len cap,x,hv=>by
  rw[V.drop];split
  ·simp[VRel]
  ·rename_i hp;simp only[VRel]at hv ⊢;obtain⟨a,cp,h1,h2,h3,h4,h5⟩:=hv;refine⟨a,cp,h1,h2,h3,h4,?_⟩;rcases h5 with h5|⟨b,arr,el,fz,h5,h6,h7,h8⟩
   ·exact .inl h5
   ·obtain⟨arr',fz',h9,h10⟩:=h.row _ _ _ _ h7;exact .inr ⟨b,arr',el,fz',h.pl _ _ (by simpa using hp) h5,h6,h9,by omega⟩
 | .is ex k es,x,hv=>by
  simp only[VRel,V.drop]at hv ⊢;obtain⟨a,cp,h1,h2,h3,h4,h5⟩:=hv;refine⟨a,cp,h1,h2,h3,h4,?_⟩;rcases h5 with h5|⟨b,off,h5,h6⟩
  ·exact .inl h5
  ·exact .inr ⟨b,off,h5,VElems.mono h.data k es b off h6⟩
 | .lm id,x,hv=>by
  rw[V.drop];split
  ·simp[VRel]
  ·rename_i hp;simp only[VRel]at hv ⊢;obtain⟨b,h1,h2⟩:=hv;exact⟨b,h.pl _ _ (by simpa using hp) h1,h2⟩
 | .im ks vs,x,hv=>by simp only[VRel,V.drop]at hv ⊢;obtain⟨r,es,clk,h1,h2,h3,h4,h5⟩:=hv;obtain⟨h6,h7⟩:=h.dat r (aW h3) h2;exact⟨r,es,clk,h1,h6,h7.trans h3,VList.mono h.data ks _ h4,VList.mono h.data vs _ h5.1,h5.2⟩
 | .fn f first captured,x,hv=>by simp only[VRel,V.drop]at hv ⊢;obtain⟨fs,cs,h1,h2,h3⟩:=hv;exact⟨fs,cs,h1,VList.mdrop h first _ h2,VList.mdrop h captured _ h3⟩
 | .yd id,x,hv=>by
  rw[V.drop];split
  ·simp[VRel]
  ·rename_i hp;simp only[VRel]at hv ⊢;obtain⟨b,h1,h2⟩:=hv;exact⟨b,h.pl _ _ (by simpa using hp) h1,h2⟩
 | .iface t e,x,hv=>by simp only[VRel,V.drop]at hv ⊢;obtain⟨ev,h1,h2⟩:=hv;exact⟨ev,h1,VRel.mdrop h e _ h2⟩
 | .agg vs,x,hv=>by simp only[VRel,V.drop]at hv ⊢;obtain⟨cs,h1,h2⟩:=hv;exact⟨cs,h1,VList.mdrop h vs _ h2⟩
 | .tup vs,x,hv=>by simp only[VRel,V.drop]at hv ⊢;obtain⟨cs,h1,h2⟩:=hv;exact⟨cs,h1,VList.mdrop h vs _ h2⟩
 | .grd g e,x,hv=>by simp only[VRel,V.drop]at hv ⊢;exact⟨λhg=>VRel.mdrop h e _ (hv.1 hg),hv.2⟩
 | .row k es,x,hv=>by
  simp only[VRel,V.drop]at hv ⊢;obtain⟨b,h1,h2,h3⟩:=hv;have hl:∀vs:List V,aa (V.drops p vs)=aa vs:=λvs=>by
   induction vs with
   |nil=>rfl
   |cons v vs ih=>simp only[V.drops,zrt,ih]
  rw[hl];exact⟨b,h1,h2,VElems.mdrop h k es b 0 h3⟩
theorem VList.mdrop{p:Nat->Bool}{c c':C}(h:CExt p c c'):∀(vs:List V)(xs:List Value),VList c vs xs->VList c' (V.drops p vs) xs
 |[],xs,hv=>by simpa only[VList,V.drops]using hv
 |v::vs,xs,hv=>by simp only[VList,V.drops]at hv ⊢;obtain⟨y,ys,h1,h2,h3⟩:=hv;exact⟨y,ys,h1,VRel.mdrop h v _ h2,VList.mdrop h vs _ h3⟩
theorem VElems.mdrop{p:Nat->Bool}{c c':C}(h:CExt p c c'):∀(k:Nat)(es:List V)(b off:Nat),VElems c k es b off->VElems c' k (V.drops p es) b off
 |k,[],b,off,hv=>by simp only[VElems,V.drops]
 |k,e::es,b,off,hv=>by simp only[VElems,V.drops]at hv ⊢;obtain⟨⟨ev,h1,h2,h3⟩,h4⟩:=hv;exact⟨⟨ev,h1,h2.mono h,VRel.mdrop h e _ h3⟩,VElems.mdrop h k es b (off+k) h4⟩
end
theorem VList.length{c:C}:∀ {vs:List V} {xs:List Value},VList c vs xs->aa xs=aa vs
 |[],_,h=>by simp only[VList]at h;simp[h]
 |_::_,_,h=>by simp only[VList]at h;obtain⟨y,ys,rfl,_,h2⟩:=h;simp[VList.length h2]
theorem VList.get{c:C}:∀ {vs:List V} {xs:List Value} (i:Nat) (v:V),VList c vs xs->vs[i]? =al v->∃x,xs[i]? =al x/\VRel c v x
 |[],_,i,v,_,h=>by simp at h
 |u::us,_,i,v,h,hi=>by
  simp only[VList]at h;obtain⟨y,ys,rfl,h1,h2⟩:=h;cases i with
  |zero=>simp at hi;subst hi;exact⟨y,rfl,h1⟩
  |succ i=>simpa using VList.get i v h2 (by simpa using hi)
theorem o9{c:C}:∀ {vs:List V} {xs:List Value},aa xs=aa vs->(∀(i:Nat)(v:V)(x:Value),vs[i]? =al v->xs[i]? =al x->VRel c v x)->VList c vs xs
 |[],xs,hl,_=>by simp only[VList];exact zse (by simpa using hl)
 |u::us,[],hl,_=>by simp at hl
 |u::us,y::ys,hl,h=>by simp only[VList];exact⟨y,ys,rfl,h 0 u y rfl rfl,o9 (by simpa using hl) λi v x hv hx=>h (i+1) v x (by simpa using hv) (by simpa using hx)⟩
theorem VList.append{c:C}:∀ {us vs:List V} {xs ys:List Value},VList c us xs->VList c vs ys->VList c (us++vs) (xs++ys)
 |[],_,_,_,h1,h2=>by simp only[VList]at h1;subst h1;simpa using h2
 |u::us,vs,_,ys,h1,h2=>by simp only[VList]at h1;obtain⟨y,zs,rfl,h3,h4⟩:=h1;simp only[List.cons_append,VList];exact⟨y,zs++ys,rfl,h3,h4.append h2⟩
theorem VList.take{c:C}:∀ {vs:List V} {xs:List Value} (n:Nat),VList c vs xs->VList c (vs.take n) (xs.take n)
 |[],_,n,h=>by simp only[VList]at h;subst h;simp[VList]
 |u::us,_,n,h=>by
  simp only[VList]at h;obtain⟨y,ys,rfl,h1,h2⟩:=h;cases n with
  |zero=>simp[VList]
  |succ n=>simp only[List.take_succ_cons,VList];exact⟨y,_,rfl,h1,h2.take n⟩
theorem VList.dropN{c:C}:∀ {vs:List V} {xs:List Value} (n:Nat),VList c vs xs->VList c (vs.drop n) (xs.drop n)
 |[],_,n,h=>by simp only[VList]at h;subst h;simp[VList]
 |u::us,_,n,h=>by
  cases n with
  |zero=>simpa using h
  |succ n=>simp only[VList]at h;obtain⟨y,ys,rfl,h1,h2⟩:=h;simpa using h2.dropN n
theorem VList.set{c:C}:∀ {vs:List V} {xs:List Value} (i:Nat) {v:V} {x:Value},VList c vs xs->VRel c v x->VList c (vs.set i v) (xs.set i x)
 |[],_,i,v,x,h,_=>by simp only[VList]at h;subst h;simp[VList]
 |u::us,_,i,v,x,h,hv=>by
  simp only[VList]at h;obtain⟨y,ys,rfl,h1,h2⟩:=h;cases i with
  |zero=>simp only[List.set_cons_zero,VList];exact⟨x,ys,rfl,hv,h2⟩
  |succ i=>simp only[List.set_cons_succ,VList];exact⟨y,_,rfl,h1,h2.set i hv⟩
inductive Misc where
 |dfd
 |shut
 |siter (s:List UInt8) (pos:Nat)
 |miter (ks vs:List V) (cur:Option (V×V))
inductive O where
 |dead
 |cells (cs:List V)
 |map (ks vs:List V)
 |loop (t:Nat->V) (n:Nat) (ps:Array Tmp) (asg body:Code) (st:LoopState) (pend:Option Code)
 |misc (m:Misc)
 |typed (T:TypeId) (cs:List V)
abbrev O.dfd:O:= .misc .dfd
abbrev O.siter(s:List UInt8)(pos:Nat):O:= .misc (.siter s pos)
abbrev H:=List O
def O.drop(p:Nat->Bool):O->O
 | .cells cs=> .cells (V.drops p cs)
 | .typed T cs=> .typed T (V.drops p cs)
 | .map ks vs=> .map (V.drops p ks) (V.drops p vs)
 | .loop t n ps asg body st pend=> .loop (λi=>(t i).drop p) n ps asg body st pend
 |o=>o
def OAt(c:C)(b:Nat):O->Prop
 | .dead=>False
 | .cells cs=>∃arr el fz,c.w.heap[b]? =al (.cells arr el fz)/\(∀j,j<arr.size->¬(fz.1<=j/\j<fz.2))/\aa cs<=arr.size/\VList c cs (arr.toList.take (aa cs))
 | .typed T cs=>∃arr fz,c.w.heap[b]? =al (.cells arr T fz)/\(∀j,j<arr.size->¬(fz.1<=j/\j<fz.2))/\aa cs<=arr.size/\VList c cs (arr.toList.take (aa cs))
 | .map ks vs=>∃es clk,c.w.heap[b]? =al (.map es clk)/\VList c ks (es.toList.map (·.key))/\VList c vs (es.toList.map (·.val))/\yz es clk
 | .loop t n ps asg body st pend=>∃r:Loop,c.w.heap[b]? =al (.loop r)/\r.state=st/\r.pending=pend/\r.params=ps/\r.assign=asg/\r.body=body/\r.tmps.size=n/\∀i,VRel c (t i) (r.tmps.getD i undef)
 | .misc .dfd=>c.w.heap[b]? =al (.deferred (al []))
 | .misc .shut=>c.w.heap[b]? =al (.deferred aq)
 | .misc (.siter l pos)=>∃s:ByteArray,s.data.toList=l/\aa l<=maxLen/\c.w.heap[b]? =al (.stringIter s pos)
 | .misc (.miter ks vs cur)=>∃m seen es clk,c.w.heap[b]? =al (.mapIter (al m) clk seen clk)/\c.ok m/\c.w.heap[m]? =al (.map es clk)/\yz es clk /\
  VList c.data ks ((es.toList.filter λx=> !seen.contains x.born).map (·.key))/\VList c.data vs ((es.toList.filter λx=> !seen.contains x.born).map (·.val)) /\
  ∀k v,cur=al (k,v)->∃x∈es.toList,seen.back? =al x.born/\VRel c.data k x.key/\VRel c.data v x.val
def cx(ok:Nat->Prop)(pl:Nat->Option Nat)(w:World):C:={w,ok:=λb=>ok b/\∀i,pl i≠al b,pl}
structure E where
 P:Program
 gl:Nat->Option V:=λ_=>aq
 gx:Nat->Option (Array Value->Prop):=λ_=>aq
 tl:List Deferred:=[]
def YF(c:C)(g:Nat)(p:Array Value->Prop):Prop:=c.ok g/\∃cs ty fz,c.w.heap[g]? =al (.cells cs ty fz)/\p cs
structure HSim(e:E)(ok:Nat->Prop)(pl:Nat->Option Nat)(h:H)(w:World):Prop where
 fresh:∀b,w.heap.size<=b->ok b
 lt:∀i b,pl i=al b->b<w.heap.size
 okl:∀i b,pl i=al b->ok b
 inj:∀i j b,pl i=al b->pl j=al b->i=j
 obj:∀i b,pl i=al b->∃o,h[i]? =al o/\OAt (cx ok pl w) b o
 bare:∀i o,h[i]? =al o->pl i=aq->o= .dead\/o= .cells []
 glob:∀g v,e.gl g=al v->VRel (cx ok pl w) (.ip v) (.pointer (al ⟨g,0,aq⟩))
 exa:∀g cs,e.gx g=al cs->YF (cx ok pl w) g cs
structure Keeps(p:Nat->Bool)(pl:Nat->Option Nat)(w:World)(pl':Nat->Option Nat)(w':World):Prop where
 os:w'.os=w.os
 tape:w'.tape=w.tape
 output:w'.output=w.output
 size:w.heap.size<=w'.heap.size
 same:∀b,b<w.heap.size->(∀i,pl i≠al b)->w'.heap[b]? =w.heap[b]?
 loc:∀i b,pl' i=al b->(∃j,pl j=al b)\/w.heap.size<=b
 keep:∀i b,p i=ac->pl i=al b->pl' i=al b
 row:∀(b:Nat) arr el fz,w.heap[b]? =al (.cells arr el fz)->∃arr' fz',w'.heap[b]? =al (.cells arr' el fz')/\arr'.size=arr.size
theorem Keeps.refl(pl:Nat->Option Nat)(w:World):Keeps (λ_=>ac) pl w pl w :=
 ⟨rfl,rfl,rfl,zrb _,λ_ _ _=>rfl,λi b h=> .inl ⟨i,h⟩,λ_ _ _ h=>h,λ_ arr _ fz h=>⟨arr,fz,h,rfl⟩⟩
theorem Keeps.trans{p q:Nat->Bool}{pl pl' pl'':Nat->Option Nat}{w w' w'':World}(h:Keeps p pl w pl' w')(k:Keeps q pl' w' pl'' w'') :
 Keeps (λi=>p i||q i) pl w pl'' w'' where
 os:=k.os.trans h.os
 tape:=k.tape.trans h.tape
 output:=k.output.trans h.output
 size:=Nat.le_trans h.size k.size
 same b hb hn:=by
  refine(k.same b (Nat.lt_of_lt_of_le hb h.size) λi hi=> ?_).trans (h.same b hb hn);rcases h.loc i b hi with⟨j,hj⟩|hlt
  ·exact hn j hj
  ·omega
 loc i b hi:=by
  rcases k.loc i b hi with⟨j,hj⟩|hlt
  ·exact h.loc j b hj
  ·exact .inr (Nat.le_trans h.size hlt)
 keep i b hp hi:=by
  simp only[zsf]at hp;exact k.keep i b hp.2 (h.keep i b hp.1 hi)
 row b arr el fz hb:=by
  obtain⟨arr',fz',h1,h2⟩:=h.row b arr el fz hb;obtain⟨arr'',fz'',h3,h4⟩:=k.row b arr' el fz' h1;exact⟨arr'',fz'',h3,h4.trans h2⟩
theorem Keeps.weaken{p q:Nat->Bool}{pl pl':Nat->Option Nat}{w w':World}(h:Keeps p pl w pl' w')(hq:∀i,p i=ab->q i=ab):Keeps q pl w pl' w' :=
 {h with keep:=λi b hi=>h.keep i b (by cases hp:p i with|false=>rfl|true=>rw[hq i hp]at hi;cases hi)}
theorem Keeps.cext{p:Nat->Bool}{ok:Nat->Prop}{pl pl':Nat->Option Nat}{w w':World}(h:Keeps p pl w pl' w'):CExt p (cx ok pl w) (cx ok pl' w') where
 dat b hb hok:=by
  obtain⟨h1,h2⟩:=hok;refine⟨⟨h1,λi hi=> ?_⟩,h.same b hb h2⟩;rcases h.loc i b hi with⟨j,hj⟩|hlt
  ·exact h2 j hj
  ·simp only[cx]at hb;omega
 pl:=h.keep
 row:=h.row
theorem tZ{p:Nat->Bool}{c c':C}(h:CExt p c c'){b:Nat}(hb:c'.w.heap[b]? =c.w.heap[b]?):∀ {o:O},OAt c b o->OAt c' b (o.drop p)
 | .dead,ho=>ho
 | .cells cs,ho=>by
  obtain⟨arr,el,fz,h1,h2,h3,h4⟩:=ho;have hl:aa (V.drops p cs)=aa cs:=by have:=h4.length;have h5:=(VList.mdrop h cs _ h4).length;omega
  refine⟨arr,el,fz,hb.trans h1,h2,by omega,?_⟩;rw[hl];exact VList.mdrop h cs _ h4
 | .typed T cs,ho=>by
  obtain⟨arr,fz,h1,h2,h3,h4⟩:=ho;have hl:aa (V.drops p cs)=aa cs:=by have:=h4.length;have h5:=(VList.mdrop h cs _ h4).length;omega
  refine⟨arr,fz,hb.trans h1,h2,by omega,?_⟩;rw[hl];exact VList.mdrop h cs _ h4
 | .map ks vs,ho=>by obtain⟨es,clk,h1,h2,h3⟩:=ho;exact⟨es,clk,hb.trans h1,VList.mdrop h ks _ h2,VList.mdrop h vs _ h3.1,h3.2⟩
 | .loop t n ps asg body st pend,ho=>by obtain⟨r,h1,h2,h3,h4,h5,h6,h7,h8⟩:=ho;exact⟨r,hb.trans h1,h2,h3,h4,h5,h6,h7,λi=>VRel.mdrop h _ _ (h8 i)⟩
 | .misc .dfd,ho=>hb.trans ho
 | .misc .shut,ho=>hb.trans ho
 | .misc (.siter l pos),ho=>by obtain⟨s,h1,h2,h3⟩:=ho;exact⟨s,h1,h2,hb.trans h3⟩
 | .misc (.miter ks vs cur),ho=>by
  obtain⟨m,seen,es,clk,h1,h2,h3,h4,h5,h6,h7⟩:=ho;obtain⟨h8,h9⟩:=h.dat m (aW h3) h2;exact⟨m,seen,es,clk,hb.trans h1,h8,h9.trans h3,h4,VList.mono h.data ks _ h5,VList.mono h.data vs _ h6,λk v hc=>by
   obtain⟨x,g1,g2,g3,g4⟩:=h7 k v hc;exact⟨x,g1,g2,VRel.mono h.data _ _ g3,VRel.mono h.data _ _ g4⟩⟩
theorem kF(o:O):o.drop (λ_=>ac)=o:=by cases o<;>simp[O.drop,V.drop_none.V.drops_none]
theorem OAt.mono{c c':C}(h:CExt (λ_=>ac) c c'){b:Nat}(hb:c'.w.heap[b]? =c.w.heap[b]?){o:O}(ho:OAt c b o):OAt c' b o:=by
 have:=tZ h hb ho
 rwa [kF]at this
structure Fr where
 t:Nat->V
 d:List Nat:=[]
 k:Nat->Bool:=λ_=>ac
def Il(c:C)(tl:List Deferred):List Nat->List Deferred->Prop
 |[],l=>l=tl
 |i::is,l=>∃b rest,l={target:= .collected b,args:=#[]}::rest/\c.pl i=al b/\Il c tl is rest
theorem Il.mono{c c':C}{tl:List Deferred}(h:∀i b,c.pl i=al b->c'.pl i=al b):∀ {is:List Nat} {l:List Deferred},Il c tl is l->Il c' tl is l
 |[],_,hd=>hd
 |_::_,_,⟨b,rest,h1,h2,h3⟩=>⟨b,rest,h1,h _ _ h2,h3.mono h⟩
structure SSim(e:E)(n:Nat)(ok:Nat->Prop)(pl0:Nat->Option Nat)(w0:World)(f:Fr)(h:H)(pl:Nat->Option Nat)(w:World)(a:Act):Prop where
 hs:HSim e ok pl h w
 kp:Keeps f.k pl0 w0 pl w
 size:a.tmps.size=n
 val:∀i,VRel (cx ok pl w) (f.t i) (a.tmps.getD i undef)
 dfr:Il (cx ok pl w) e.tl f.d a.defers
def Fr.put(f:Fr)(d:Option Tmp)(v:V):Fr :=
 match d with
 |some i=>{f with t:=λj=>if j=i then v else f.t j}
 |none=>f
def Fr.drop(f:Fr)(p:Nat->Bool):Fr:={f with t:=λi=>(f.t i).drop p,k:=λi=>f.k i||p i}
def EH:Value->V
 | .bool b=> .bool b
 | .int k n=> .int k n
 | .string s=>if aa s.data.toList<=1000000 then .str s.data.toList else .any
 | .pointer aq=> .nilp
 | .slice aq 0 0=> .nils
 | .map aq=> .nilm
 | .nilFunc=> .nilf
 | .nilIface=> .nili
 |_=> .any
theorem yA(c:C)(v:Value):VRel c (EH v) v:=by
 unfold EH;split<;>try(simp[VRel];done)
 split
 ·rename_i s h;simp only[VRel];exact⟨s,rfl,rfl,Nat.le_trans h (by decide)⟩
 ·simp[VRel]
def glv(e:E)(g:Nat):V:=match e.gl g with|some v=> .ip v|none=> .any
def Fr.ev(e:E)(f:Fr):Operand->V
 | .tmp t=>f.t t
 | .const v=>EH v
 | .global g=>glv e g
 | .func g=> .fn (.func g) [] []
section
variable{e:E}{n:Nat}{ok:Nat->Prop}{pl0:Nat->Option Nat}{w0:World}{f:Fr}{h:H}{pl:Nat->Option Nat}{w:World}{a:Act}
theorem SSim.ev(s:SSim e n ok pl0 w0 f h pl w a)(x:Operand):VRel (cx ok pl w) (f.ev e x) (a.eval x):=by
 cases x with
 |tmp t=>exact s.val t
 |const v=>exact yA _ v
 |global g =>
  simp only[Fr.ev,Act.eval,glv];split
  ·rename_i v hv;exact s.hs.glob g v hv
  ·simp[VRel]
 |func g=>simp only[Fr.ev,Act.eval,VRel];exact⟨#[],#[],rfl,rfl,rfl⟩
def jF(n:Nat)(d:Option Tmp):Bool:=match d with|some i=>ar (i<n)|none=>ab
theorem SSim.put(s:SSim e n ok pl0 w0 f h pl w a){d:Option Tmp}{v:V}{x:Value}(hd:jF n d=ab)(hv:VRel (cx ok pl w) v x) :
 SSim e n ok pl0 w0 (f.put d v) h pl w (a.put d x):=by
 cases d with
 |none=>exact s
 |some i =>
  have hi:i<n:=by simpa [jF]using hd
  refine⟨s.hs,s.kp,by simp[Act.put,s.size],λj=> ?_,s.dfr⟩;simp only[Fr.put,Act.put];by_cases hj:j=i
  ·subst hj;have:(a.tmps.setIfInBounds j x).getD j undef=x:=by
    simp[Array.getD_eq_getD_getElem?,s.size,hi]
   rw[if_pos rfl,this];exact hv
  ·have:(a.tmps.setIfInBounds i x).getD j undef=a.tmps.getD j undef:=by simp[Array.getD_eq_getD_getElem?,Ne.symm hj]
   rw[if_neg hj,this];exact s.val j
theorem SSim.next(s:SSim e n ok pl0 w0 f h pl w a){p:Nat->Bool}{h':H}{pl':Nat->Option Nat}{w':World}
 (hs':HSim e ok pl' h' w') (k:Keeps p pl w pl' w') (hd:∀i∈f.d,p i=ac):SSim e n ok pl0 w0 (f.drop p) h' pl' w' a:=by
 refine⟨hs',(s.kp.trans k),s.size,λi=>VRel.mdrop k.cext _ _ (s.val i),?_⟩;have:∀(is:List Nat)(l:List Deferred),(∀i∈is,p i=ac)->Il (cx ok pl w) e.tl is l->Il (cx ok pl' w') e.tl is l:=by
  intro is
  induction is with
  |nil=>intro l _ hd;exact hd
  |cons i is ih=>rintro l hp ⟨b,rest,h1,h2,h3⟩;exact⟨b,rest,h1,k.keep i b (hp i (by simp)) h2,ih rest (λj hj=>hp j (by simp[hj])) h3⟩
 exact this f.d a.defers hd s.dfr
@[simp] theorem Fr.drop_none (f:Fr):f.drop (λ_=>ac)=f:=by
  simp[Fr.drop]
theorem SSim.next0(s:SSim e n ok pl0 w0 f h pl w a){h':H}{pl':Nat->Option Nat}{w':World}
 (hs':HSim e ok pl' h' w') (k:Keeps (λ_=>ac) pl w pl' w'):SSim e n ok pl0 w0 f h' pl' w' a:=by
 have:=s.next hs' k (λ_ _=>rfl)
 rwa [Fr.drop_none]at this
theorem VRel.glob_next{p:Nat->Bool}{c c':C}(k:CExt p c c'){v:V}{x:Value}(h:VRel c (.ip v) x):VRel c' (.ip v) x:=by have:=VRel.mdrop k _ _ h;simpa only[V.drop]using this
theorem YF.next{p:Nat->Bool}{c c':C}(k:CExt p c c'){g:Nat}{q:Array Value->Prop}(h:YF c g q):YF c' g q:=by obtain⟨h1,cs,ty,fz,h2,h5⟩:=h;obtain⟨h3,h4⟩:=k.dat g (aW h2) h1;exact⟨h3,cs,ty,fz,h4.trans h2,h5⟩
theorem HSim.next(hs:HSim e ok pl h w){p:Nat->Bool}{h':H}{pl':Nat->Option Nat}{w':World}(k:Keeps p pl w pl' w')
 (lt:∀i b,pl' i=al b->b<w'.heap.size) (inj:∀i j b,pl' i=al b->pl' j=al b->i=j)
 (obj:∀i b,pl' i=al b->(pl i=al b/\w'.heap[b]? =w.heap[b]? /\h'[i]? =(h[i]?).map (O.drop p))\/∃o,h'[i]? =al o/\OAt (cx ok pl' w') b o)
 (bare:∀i o,h'[i]? =al o->pl' i=aq->o= .dead\/o= .cells []):HSim e ok pl' h' w' where
 fresh b hb:=hs.fresh b (Nat.le_trans k.size hb)
 okl i b hi:=(k.loc i b hi).elim (λ⟨j,hj⟩=>hs.okl j b hj) (hs.fresh b)
 lt:=lt
 inj:=inj
 obj i b hi:=by
  rcases obj i b hi with⟨h1,h2,h3⟩|ho
  ·obtain⟨o,h4,h5⟩:=hs.obj i b h1;exact⟨o.drop p,by rw[h3,h4];rfl,tZ k.cext h2 h5⟩
  ·exact ho
 bare:=bare
 glob g v hg:=(hs.glob g v hg).glob_next k.cext
 exa g cs hg:=(hs.exa g cs hg).next k.cext
structure WExt(w w':World):Prop where
 os:w'.os=w.os
 tape:w'.tape=w.tape
 output:w'.output=w.output
 size:w.heap.size<=w'.heap.size
 same:∀b,b<w.heap.size->w'.heap[b]? =w.heap[b]?
theorem WExt.refl(w:World):WExt w w:=⟨rfl,rfl,rfl,zrb _,λ_ _=>rfl⟩
theorem WExt.drew(w:World):WExt w w.drew:=⟨rfl,rfl,rfl,zrb _,λ_ _=>rfl⟩
theorem WExt.alloc(w:World)(o:Obj):WExt w (w.alloc o) :=
 ⟨rfl,rfl,rfl,by simp,λb hb=>RowKit.Below.heap_alloc w o b hb⟩
theorem WExt.trans{a b c:World}(h:WExt a b)(k:WExt b c):WExt a c :=
 ⟨k.os.trans h.os,k.tape.trans h.tape,k.output.trans h.output,Nat.le_trans h.size k.size,λi hi=>(k.same i (Nat.lt_of_lt_of_le hi h.size)).trans (h.same i hi)⟩
theorem WExt.keeps{w':World}(x:WExt w w')(hs:HSim e ok pl h w):Keeps (λ_=>ac) pl w pl w' :=
 ⟨x.os,x.tape,x.output,x.size,λb hb _=>x.same b hb,λi b hi=> .inl ⟨i,hi⟩,λ_ _ _ hi=>hi,λb arr el fz hb=>⟨arr,fz,(x.same b (aW hb)).trans hb,rfl⟩⟩
theorem HSim.wext{w':World}(hs:HSim e ok pl h w)(x:WExt w w'):HSim e ok pl h w' :=
 hs.next (x.keeps hs) (λi b hi => Nat.lt_of_lt_of_le (hs.lt i b hi) x.size) hs.inj
  (λi b hi=> .inl ⟨hi,x.same b (hs.lt i b hi),by cases h[i]? <;>simp[kF]⟩) hs.bare
theorem HSim.pl_lt(hs:HSim e ok pl h w){i b:Nat}(hi:pl i=al b):i<aa h:=by obtain⟨o,ho,_⟩:=hs.obj i b hi;exact(zqe ho).1
def bz(pl:Nat->Option Nat)(id b:Nat):Nat->Option Nat:=λi=>if i=id then al b else pl i
theorem HSim.new(hs:HSim e ok pl h w){w':World}(x:WExt w w')(ob:Obj)(o:O){b:Nat}(hb1:w.heap.size<=b)(hb2:b<w'.heap.size)
 (ho:OAt (cx ok (bz pl (aa h) b) w') b o) :
 HSim e ok (bz pl (aa h) b) (h++[o]) w'/\Keeps (λ_=>ac) pl w (bz pl (aa h) b) w':=by
 have k:Keeps (λ_=>ac) pl w (bz pl (aa h) b) w':=by
  refine⟨x.os,x.tape,x.output,x.size,λb hb _=>x.same b hb,λi b' hi=> ?_,λi b' _ hi=> ?_,λb arr el fz hb=>⟨arr,fz,(x.same b (aW hb)).trans hb,rfl⟩⟩
  ·simp only[bz]at hi;split at hi
   ·cases hi;exact .inr hb1
   ·exact .inl ⟨i,hi⟩
  ·have:=hs.pl_lt hi;simp only[bz];rw[if_neg (by omega)];exact hi
 refine⟨hs.next k ?_ ?_ ?_ ?_,k⟩
 ·intro i b' hi;simp only[bz]at hi;split at hi
  ·cases hi;exact hb2
  ·exact Nat.lt_of_lt_of_le (hs.lt i b' hi) x.size
 ·intro i j b' hi hj;simp only[bz]at hi hj;split at hi<;>split at hj
  ·omega
  ·cases hi;have:=hs.lt j _ hj;omega
  ·cases hj;have:=hs.lt i _ hi;omega
  ·exact hs.inj i j b' hi hj
 ·intro i b' hi;by_cases hil:i=aa h
  ·subst hil;have:b'=b:=by simpa [bz]using hi.symm
   subst this;exact .inr ⟨o,by simp,ho⟩
  ·have hi':pl i=al b':=by simpa [bz,hil]using hi
   have hlt:=hs.pl_lt hi';exact .inl ⟨hi',x.same _ (hs.lt i b' hi'),by rw[zqj hlt];cases h[i]? <;>simp[kF]⟩
 ·intro i o' ho' hi;simp only[bz]at hi;split at hi
  ·cases hi
  ·rename_i hil;have hlt:i<aa h:=by
    have:=(zqe ho').1;simp at this;omega
   rw[zqj hlt]at ho';exact hs.bare i o' ho' hi
theorem HSim.upd(hs:HSim e ok pl h w){w':World}{id b:Nat}(hid:pl id=al b)(o:O)
 (os:w'.os=w.os) (tape:w'.tape=w.tape) (output:w'.output=w.output) (size:w'.heap.size=w.heap.size)
 (same:∀i,i≠b->w'.heap[i]? =w.heap[i]?)
 (row:∀arr el fz,w.heap[b]? =al (.cells arr el fz)->∃arr' fz',w'.heap[b]? =al (.cells arr' el fz')/\arr'.size=arr.size)
 (ho:CExt (λ_=>ac) (cx ok pl w) (cx ok pl w')->OAt (cx ok pl w') b o) :
 HSim e ok pl (h.set id o) w'/\Keeps (λ_=>ac) pl w pl w':=by
 have k:Keeps (λ_=>ac) pl w pl w':=by
  refine⟨os,tape,output,by omega,λb' hb hn=>same b' (λhe=>hn id (he▸hid)),λi b' hi=> .inl ⟨i,hi⟩,λ_ _ _ hi=>hi,λb' arr el fz hb=> ?_⟩;by_cases he:b'=b
  ·subst he;exact row arr el fz hb
  ·exact⟨arr,fz,(same b' he).trans hb,rfl⟩
 refine⟨hs.next k (λi b' hi=>by have:=hs.lt i b' hi;omega) hs.inj ?_ ?_,k⟩
 ·intro i b' hi;by_cases hii:i=id
  ·subst hii;have:b'=b:=by rw[hid]at hi;exact(Option.some.inj hi).symm
   subst this;exact .inr ⟨o,by simp[hs.pl_lt hid],ho k.cext⟩
  ·have hbb:b'≠b:=λhe=>hii (hs.inj i id b' hi (he▸hid));refine .inl ⟨hi,same b' hbb,?_⟩;rw[zqn (Ne.symm hii)];cases h[i]? <;>simp[kF]
 ·intro i o' ho' hi;have hii:i≠id:=λhe=>by rw[he,hid]at hi;cases hi
  rw[zqn (Ne.symm hii)]at ho';exact hs.bare i o' ho' hi
end
inductive K where
 |bool|int (k:IntKind)|str|ptr (e:Nat)|slice (e:Nat)|arr (n e:Nat) (q:Option IntKind)|map (k e:Nat)
 |struct (fs:List (Nat×Nat))
 |func|iface|other
 deriving DecidableEq
structure TI where
 kind:K
 size:Nat
 bytes:Nat
 zero:V
def zad(P:Program)(t:TypeId):Bool:=match P.underlying t with|some (.struct _)|some (.array _ _)=>ab|_=>ac
def JC:Value->V
 | .agg cs=> .agg (cs.toList.map EH)
 |v=>EH v
def YG(P:Program)(e:TypeId):Option IntKind :=
 match P.underlying e,P.info? e with
 |some (.int k),al _=>if P.cellsOf e==1 then al k else aq
 |_,_=>aq
def mY(P:Program):TypeDesc->K
 | .bool=> .bool
 | .int k=> .int k
 | .string=> .str
 | .pointer e=> .ptr e
 | .slice e=> .slice e
 | .array n e=> .arr n e (YG P e)
 | .map k e=> .map k e
 | .struct fs=> .struct (fs.toList.map λf=>(f.offset,f.type))
 | .func ..=> .func
 | .interface _=> .iface
 |_=> .other
def ti(P:Program)(t:TypeId):Option TI :=
 match P.info? t,P.underlying t with
 |some i,al d=>match i.zero with
  |some z=>al ⟨mY P d,i.size,i.bytes,JC z⟩
  |none=>aq
 |_,_=>aq
theorem dA(c:C)(v:Value):VRel c (JC v) v:=by
 unfold JC;split
 ·rename_i cs;simp only[VRel];refine⟨cs,rfl,o9 (by simp) λi v x hv hx=> ?_⟩;rw[zqo]at hv;rw[hx]at hv;have:EH x=v:=by simpa using hv
  subst this;exact yA c x
 ·exact yA c _
structure TIs(P:Program)(t:TypeId)(r:TI)(i:TypeInfo)(d:TypeDesc)(z:Value):Prop where
 info:P.info? t=al i
 und:P.underlying t=al d
 zero:i.zero=al z
 kind:r.kind=mY P d
 size:r.size=i.size
 bytes:r.bytes=i.bytes
 zv:r.zero=JC z
theorem aG{P:Program}{t:TypeId}{r:TI}(h:ti P t=al r):∃i d z,TIs P t r i d z:=by
 unfold ti at h;split at h
 ·rename_i i d hi hd;split at h
  ·rename_i z hz;cases h;exact⟨i,d,z,hi,hd,hz,rfl,rfl,rfl,rfl⟩
  ·cases h
 ·cases h
theorem TIs.slice{P:Program}{t:TypeId}{r:TI}{i:TypeInfo}{d:TypeDesc}{z:Value}(h:TIs P t r i d z){e:Nat}(hk:r.kind= .slice e):d= .slice e:=by have:=h.kind.symm.trans hk;cases d<;>simp_all [mY]
theorem TIs.int{P:Program}{t:TypeId}{r:TI}{i:TypeInfo}{d:TypeDesc}{z:Value}(h:TIs P t r i d z){k:IntKind}(hk:r.kind= .int k):d= .int k:=by have:=h.kind.symm.trans hk;cases d<;>simp_all [mY]
theorem TIs.str{P:Program}{t:TypeId}{r:TI}{i:TypeInfo}{d:TypeDesc}{z:Value}(h:TIs P t r i d z)(hk:r.kind= .str):d= .string:=by have:=h.kind.symm.trans hk;cases d<;>simp_all [mY]
theorem TIs.map{P:Program}{t:TypeId}{r:TI}{i:TypeInfo}{d:TypeDesc}{z:Value}(h:TIs P t r i d z){k e:Nat}(hk:r.kind= .map k e):d= .map k e:=by have:=h.kind.symm.trans hk;cases d<;>simp_all [mY]
theorem TIs.arr{P:Program}{t:TypeId}{r:TI}{i:TypeInfo}{d:TypeDesc}{z:Value}(h:TIs P t r i d z){k e:Nat}{q:Option IntKind}(hk:r.kind= .arr k e q):d= .array k e:=by have:=h.kind.symm.trans hk;cases d<;>simp_all [mY]
theorem TIs.arrQ{P:Program}{t:TypeId}{r:TI}{i:TypeInfo}{d:TypeDesc}{z:Value}(h:TIs P t r i d z){k e:Nat}{q:IntKind}(hk:r.kind= .arr k e (al q)) :
 d= .array k e/\P.underlying e=al (.int q)/\∃i',P.info? e=al i'/\P.cellsOf e=1:=by
 have hd:=h.arr hk;subst hd;have:=h.kind.symm.trans hk;simp only[mY,K.arr.injEq,true_and]at this;unfold YG at this;split at this
 ·rename_i k' i' h1 h2;split at this
  ·rename_i hc;cases this;exact⟨rfl,h1,i',h2,by simpa using hc⟩
  ·cases this
 ·cases this
theorem TIs.struct{P:Program}{t:TypeId}{r:TI}{i:TypeInfo}{d:TypeDesc}{z:Value}(h:TIs P t r i d z){fs:List (Nat×Nat)}(hk:r.kind= .struct fs) :
 ∃gs,d= .struct gs/\fs=gs.toList.map λf=>(f.offset,f.type):=by
 have:=h.kind.symm.trans hk;cases d<;>simp_all [mY]
def TI.agg(r:TI):Bool:=match r.kind with | .struct _ | .arr _ _ _=>ab|_=>ac
theorem TIs.agg{P:Program}{t:TypeId}{r:TI}{i:TypeInfo}{d:TypeDesc}{z:Value}(h:TIs P t r i d z)(w:World):(isAgg t).run P w= .ok r.agg w:=by
 have:r.agg=zad P t:=by unfold TI.agg zad;rw[h.kind,h.und];cases d<;>rfl
 rw[this];unfold isAgg underlying zad;simp only[Sem.run_bind,run_program,aM,h.und,Sem.run_pure];cases d<;>simp
theorem TIs.run_size{P:Program}{t:TypeId}{r:TI}{i:TypeInfo}{d:TypeDesc}{z:Value}(h:TIs P t r i d z)(w:World):(sizeOf t).run P w= .ok r.size w:=by unfold sizeOf typeInfo;simp[h.info,h.size]
theorem TIs.run_und{P:Program}{t:TypeId}{r:TI}{i:TypeInfo}{d:TypeDesc}{z:Value}(h:TIs P t r i d z)(w:World):(underlying t).run P w= .ok d w:=by unfold underlying;simp[h.und]
theorem TIs.run_zero{P:Program}{t:TypeId}{r:TI}{i:TypeInfo}{d:TypeDesc}{z:Value}(h:TIs P t r i d z)(w:World):(zeroValue t).run P w= .ok z w:=by unfold zeroValue typeInfo;simp[h.info,h.zero]
def lL(P:Program)(S:Value->World->Prop):Result Next->Prop
 | .ok (.value x) w=>S x w
 | .ok .skip w=>S undef w
 | .ok (.enter g args) w=>Calls P g args w λe w'=>∃x,e= .returned x/\S x w'
 |_=>False
def AQ(e:E)(o:Oper)(ρ:Operand->V)(h:H)(v:V):Prop :=
 ∀ok pl w (ev:Operand->Value),HSim e ok pl h w->(∀x∈o.op.operands,VRel (cx ok pl w) (ρ x) (ev x)) ->
  lL e.P (λx w'=>WExt w w'/\VRel (cx ok pl w') v x) ((execOp ev o).run e.P w)
theorem iV{e:E}{o:Oper}{ρ:Operand->V}{h:H}{v:V}
 (hh:∀ok pl w (ev:Operand->Value),HSim e ok pl h w->(∀x∈o.op.operands,VRel (cx ok pl w) (ρ x) (ev x)) ->
  ∃x,(execOp ev o).run e.P w= .ok (.value x) w/\VRel (cx ok pl w) v x):AQ e o ρ h v:=by
 intro ok pl w ev hs hr;obtain⟨x,h1,h2⟩:=hh ok pl w ev hs hr;rw[h1];exact⟨WExt.refl w,h2⟩
theorem gJ{P:Program}{w:World}{s:Sem Value}{x:Value}{w':World}(h:s.run P w= .ok x w') :
 (do pure (Next.value (<-s)):Sem Next).run P w= .ok (.value x) w':=by
 simp[h,aM]
def V.sv:V->V
 | .grd _ v=>v.sv
 |v=>v
def V.sc:V->Prop
 | .grd g v=>g=ab/\v.sc
 |_=>True
theorem VRel.sv{c:C}:∀ {v:V} {x:Value},VRel c v x->v.sc->VRel c v.sv x
 | .grd g v,x,h,hc=>by simp only[V.sc]at hc;simp only[VRel]at h;simp only[V.sv];exact VRel.sv (h.1 hc.1) hc.2
 | .any,x,h,hc | .bool _,x,h,hc | .int _ _,x,h,hc | .str _,x,h,hc | .nilp,x,h,hc | .lp _ _,x,h,hc | .ip _,x,h,hc | .nils,x,h,hc
 | .ls _ _ _ _ _,x,h,hc | .is _ _ _,x,h,hc | .nilm,x,h,hc | .lm _,x,h,hc | .im _ _,x,h,hc | .fn _ _ _,x,h,hc | .yd _,x,h,hc | .nilf,x,h,hc
 | .iface _ _,x,h,hc | .nili,x,h,hc | .agg _,x,h,hc | .tup _,x,h,hc | .row _ _,x,h,hc=>by simpa only[V.sv]using h
def V.one:V->Bool
 | .any | .agg _ | .tup _ | .grd _ _=>ac
 |_=>ab
theorem VRel.one{c:C}{v:V}{x:Value}(h:VRel c v x)(ho:v.one=ab):x.cells=#[x]:=by
 cases v<;>simp only[V.one,zrm]at ho<;>simp only[VRel]at h
 case bool=>subst h;rfl
 case int=>subst h;rfl
 case str=>obtain⟨s,rfl,_⟩:=h;rfl
 case nilp=>subst h;rfl
 case lp=>obtain⟨b,_,rfl⟩:=h;rfl
 case ip=>obtain⟨b,off,ev,rfl,_⟩:=h;rfl
 case nils=>subst h;rfl
 case ls=>obtain⟨a,cp,rfl,_⟩:=h;rfl
 case is=>obtain⟨a,cp,rfl,_⟩:=h;rfl
 case nilm=>subst h;rfl
 case lm=>obtain⟨b,_,rfl⟩:=h;rfl
 case im=>obtain⟨r,es,clk,rfl,_⟩:=h;rfl
 case fn=>obtain⟨fs,cs,rfl,_⟩:=h;rfl
 case yd=>obtain⟨b,_,rfl⟩:=h;rfl
 case nilf=>subst h;rfl
 case iface=>obtain⟨ev,rfl,_⟩:=h;rfl
 case nili=>subst h;rfl
 case row=>obtain⟨b,rfl,_⟩:=h;rfl
mutual
def V.dat:V->Bool
 | .lp _ _ | .ls _ _ _ _ _ | .lm _ | .yd _ | .row _ _=>ac
 | .fn _ a b=>V.dats a&&V.dats b
 | .iface _ e=>e.dat
 | .agg vs=>V.dats vs
 | .tup vs=>V.dats vs
 | .grd _ e=>e.dat
 |_=>ab
def V.dats:List V->Bool
 |[]=>ab
 |v::vs=>v.dat&&V.dats vs
end
mutual
theorem VRel.todata{c:C}:∀(v:V)(x:Value),v.dat=ab->VRel c v x->VRel c.data v x
 | .any,_,_,h=>by simp only[VRel]
 | .bool _,_,_,h | .int _ _,_,_,h | .str _,_,_,h | .nilp,_,_,h | .nils,_,_,h | .nilm,_,_,h | .nilf,_,_,h | .nili,_,_,h=>by simpa only[VRel]using h
 | .ip _,_,_,h | .is _ _ _,_,_,h | .im _ _,_,_,h=>by simp only[VRel]at h ⊢;exact h
 | .lp _ _,_,hd,_ | .ls _ _ _ _ _,_,hd,_ | .lm _,_,hd,_ | .yd _,_,hd,_ | .row _ _,_,hd,_=>by simp[V.dat]at hd
 | .fn f a b,x,hd,h=>by simp only[V.dat,zqf]at hd;simp only[VRel]at h ⊢;obtain⟨fs,cs,h1,h2,h3⟩:=h;exact⟨fs,cs,h1,VList.todata a _ hd.1 h2,VList.todata b _ hd.2 h3⟩
 | .iface t e,x,hd,h=>by simp only[V.dat]at hd;simp only[VRel]at h ⊢;obtain⟨ev,h1,h2⟩:=h;exact⟨ev,h1,VRel.todata e _ hd h2⟩
 | .agg vs,x,hd,h=>by simp only[V.dat]at hd;simp only[VRel]at h ⊢;obtain⟨cs,h1,h2⟩:=h;exact⟨cs,h1,VList.todata vs _ hd h2⟩
 | .tup vs,x,hd,h=>by simp only[V.dat]at hd;simp only[VRel]at h ⊢;obtain⟨cs,h1,h2⟩:=h;exact⟨cs,h1,VList.todata vs _ hd h2⟩
 | .grd g e,x,hd,h=>by simp only[V.dat]at hd;simp only[VRel]at h ⊢;exact⟨λhg=>VRel.todata e _ hd (h.1 hg),h.2⟩
theorem VList.todata{c:C}:∀(vs:List V)(xs:List Value),V.dats vs=ab->VList c vs xs->VList c.data vs xs
 |[],xs,_,h=>by simpa only[VList]using h
 |v::vs,xs,hd,h=>by simp only[V.dats,zqf]at hd;simp only[VList]at h ⊢;obtain⟨y,ys,h1,h2,h3⟩:=h;exact⟨y,ys,h1,VRel.todata v _ hd.1 h2,VList.todata vs _ hd.2 h3⟩
end
mutual
/-- Data is read anywhere as it is read in the data's own reading. -/
theorem VRel.ofdata{c:C}:∀(v:V)(x:Value),VRel c.data v x->VRel c v x
 | .any,_,h=>by simp only[VRel]
 | .bool _,_,h | .int _ _,_,h | .str _,_,h | .nilp,_,h | .nils,_,h | .nilm,_,h | .nilf,_,h | .nili,_,h=>by simpa only[VRel]using h
 | .ip _,_,h | .is _ _ _,_,h | .im _ _,_,h=>by simp only[VRel]at h ⊢;exact h
 | .lp _ _,_,h | .lm _,_,h | .yd _,_,h=>by simp[VRel,C.data]at h
 | .ls _ _ _ _ _,x,h=>by
  simp only[VRel]at h ⊢;obtain⟨a,cp,h1,h2,h3,h4,h5⟩:=h;refine⟨a,cp,h1,h2,h3,h4,.inl ?_⟩;rcases h5 with h5|⟨b,_,_,_,h5,_⟩
  ·exact h5
  ·simp[C.data]at h5
 | .fn f a b,x,h=>by simp only[VRel]at h ⊢;obtain⟨fs,cs,h1,h2,h3⟩:=h;exact⟨fs,cs,h1,VList.ofdata a _ h2,VList.ofdata b _ h3⟩
 | .iface t e,x,h=>by simp only[VRel]at h ⊢;obtain⟨ev,h1,h2⟩:=h;exact⟨ev,h1,VRel.ofdata e _ h2⟩
 | .agg vs,x,h=>by simp only[VRel]at h ⊢;obtain⟨cs,h1,h2⟩:=h;exact⟨cs,h1,VList.ofdata vs _ h2⟩
 | .tup vs,x,h=>by simp only[VRel]at h ⊢;obtain⟨cs,h1,h2⟩:=h;exact⟨cs,h1,VList.ofdata vs _ h2⟩
 | .grd g e,x,h=>by simp only[VRel]at h ⊢;exact⟨λhg=>VRel.ofdata e _ (h.1 hg),h.2⟩
 | .row k es,x,h=>by simp only[VRel]at h ⊢;obtain⟨b,h1,h2,h3⟩:=h;exact⟨b,h1,h2,VElems.ofdata k es b 0 h3⟩
theorem VList.ofdata{c:C}:∀(vs:List V)(xs:List Value),VList c.data vs xs->VList c vs xs
 |[],xs,h=>by simpa only[VList]using h
 |v::vs,xs,h=>by simp only[VList]at h ⊢;obtain⟨y,ys,h1,h2,h3⟩:=h;exact⟨y,ys,h1,VRel.ofdata v _ h2,VList.ofdata vs _ h3⟩
theorem VElems.ofdata{c:C}:∀(k:Nat)(es:List V)(b off:Nat),VElems c.data k es b off->VElems c k es b off
 |k,[],b,off,h=>by simp only[VElems]
 |k,e::es,b,off,h=>by simp only[VElems]at h ⊢;obtain⟨⟨ev,h1,h2,h3⟩,h4⟩:=h;exact⟨⟨ev,h1,h2,VRel.ofdata e _ h3⟩,VElems.ofdata k es b (off+k) h4⟩
end
theorem VElems.get{c:C}{k:Nat}:∀ {es:List V} {b off:Nat} (i:Nat) {v:V},VElems c k es b off->es[i]? =al v ->
 ∃ev,ev.cells.size=k/\rq c b (off+i*k) ev/\VRel c v ev
 |[],b,off,i,v,_,h=>by simp at h
 |u::us,b,off,i,v,h,hi=>by
  simp only[VElems]at h;obtain⟨⟨ev,h1,h2,h3⟩,h4⟩:=h;cases i with
  |zero=>simp at hi;subst hi;exact⟨ev,h1,by simpa using h2,h3⟩
  |succ i =>
   obtain⟨ev',h5,h6,h7⟩:=VElems.get i h4 (by simpa using hi);refine⟨ev',h5,?_,h7⟩;have:off+k+i*k=off+(i+1)*k:=by rw[Nat.succ_mul];omega
   rwa [this]at h6
theorem jf{c:C}{k:Nat}:∀ {es:List V} {b off:Nat},(∀(i:Nat)(v:V),es[i]? =al v->∃ev,ev.cells.size=k/\rq c b (off+i*k) ev/\VRel c v ev)->VElems c k es b off
 |[],b,off,_=>by simp only[VElems]
 |u::us,b,off,h=>by
  simp only[VElems];refine⟨by simpa using h 0 u rfl,jf λi v hi=> ?_⟩;obtain⟨ev,h1,h2,h3⟩:=h (i+1) v (by simpa using hi);refine⟨ev,h1,?_,h3⟩;have:off+k+i*k=off+(i+1)*k:=by rw[Nat.succ_mul];omega
  rwa [this]
theorem VElems.sub{c:C}{k:Nat}{es:List V}{b off:Nat}(h:VElems c k es b off)(lo n:Nat):VElems c k ((es.drop lo).take n) b (off+lo*k) :=
 jf λi v hi=>by
  have hi':es[lo+i]? =al v:=by
   rw[List.getElem?_take]at hi;split at hi
   ·rwa [List.getElem?_drop]at hi
   ·cases hi
  obtain⟨ev,h1,h2,h3⟩:=h.get (lo+i) hi';refine⟨ev,h1,?_,h3⟩;have:off+(lo+i)*k=off+lo*k+i*k:=by rw[Nat.add_mul];omega
  rwa [this]at h2
def V.sub(vs:List V)(off size:Nat)(agg:Bool):V:=bif agg then .agg ((vs.drop off).take size)else vs.getD off .any
theorem rq.cell{c:C}{b off:Nat}{ev:Value}(h:rq c b off ev){j:Nat}(hj:j<ev.cells.size):c.w.cell? ⟨b,off+j,aq⟩=al ev.cells[j]:=by rw[(h j hj).2];simp[hj]
theorem dI(b off j:Nat):(⟨b,off,aq⟩:Addr).add j=⟨b,off+j,aq⟩:=by
 unfold Addr.add;split
 ·rename_i h;subst h;rfl
 ·rfl
open Go.RowKit
abbrev PV:=Prop×V
abbrev fJ:PV:=(False,.any)
def aH(P:Program)(c:C)(s:Sem Value)(r:PV):Prop:=r.1->∃x,s.run P c.w= .ok x c.w/\VRel c r.2 x
theorem aH.no{P:Program}{c:C}{s:Sem Value}:aH P c s fJ:=λh=>h.elim
def ZY:UnOp->V->PV
 | .not,.bool b=>(True,.bool (!b))
 | .neg,.int k n=>(True,.int k (k.wrap (0-n)))
 |_,_=>fJ
theorem WH{P:Program}{c:C}(op:UnOp){v:V}{x:Value}(h:VRel c v x):aH P c (Op.unary op x) (ZY op v):=by
 unfold ZY;split
 ·simp only[VRel]at h;subst h;exact λ_=>⟨_,rfl,by simp only[VRel]⟩
 ·simp only[VRel]at h;subst h;exact λ_=>⟨_,rfl,by simp only[VRel]⟩
 ·exact aH.no
def Tm(op:BinOp)(k:IntKind)(a:Int)(k':IntKind)(b:Int):PV :=
 match op with
 | .add=>(k=k',.int k (k.wrap (a+b)))
 | .sub=>(k=k',.int k (k.wrap (a-b)))
 | .mul=>(k=k',.int k (k.wrap (a*b)))
 | .quo=>(k=k'/\b≠0,.int k (k.wrap (a.tdiv b)))
 | .rem=>(k=k'/\b≠0,.int k (a.tmod b))
 | .and=>(k=k',.int k (k.wrap (BitVec.ofInt k.bits a &&& BitVec.ofInt k.bits b).toNat))
 | .or=>(k=k',.int k (k.wrap (BitVec.ofInt k.bits a ||| BitVec.ofInt k.bits b).toNat))
 | .xor=>(k=k',.int k (k.wrap (BitVec.ofInt k.bits a ^^^ BitVec.ofInt k.bits b).toNat))
 | .andNot=>(k=k',.int k (k.wrap (BitVec.ofInt k.bits a &&& ~~~ BitVec.ofInt k.bits b).toNat))
 | .shl=>(0<=b,.int k (k.wrap (a*2^(min b.toNat k.bits))))
 | .shr=>(0<=b,.int k (a.fdiv (2^(min b.toNat k.bits))))
 | .eql=>(k=k',.bool (a==b))
 | .neq=>(k=k',.bool (a != b))
 | .lss=>(k=k',.bool (ar (a<b)))
 | .leq=>(k=k',.bool (ar (a<=b)))
 | .gtr=>(k=k',.bool (ar (b<a)))
 | .geq=>(k=k',.bool (ar (b<=a)))
theorem aH.int{P:Program}{c:C}{s:Sem Value}{p:Prop}{k:IntKind}{n:Int}(h:p->s.run P c.w= .ok (.int k n) c.w):aH P c s (p,.int k n) :=
 λhp=>⟨_,h hp,by simp only[VRel]⟩
theorem aH.bool{P:Program}{c:C}{s:Sem Value}{p:Prop}{b:Bool}(h:p->s.run P c.w= .ok (.bool b) c.w):aH P c s (p,.bool b) :=
 λhp=>⟨_,h hp,by simp only[VRel]⟩
theorem Tn{P:Program}{c:C}(op:BinOp)(t:TypeId)(k k':IntKind)(a b:Int):aH P c (binOp op t (.int k a) (.int k' b)) (Tm op k a k' b):=by
 unfold Tm;cases op<;>dsimp only
 case shl =>
  refine aH.int λhc=> ?_;simp only[binOp,Op.shift];rw[if_neg (by omega)];rfl
 case shr =>
  refine aH.int λhc=> ?_;simp only[binOp,Op.shift];rw[if_neg (by omega)];rfl
 case quo =>
  refine aH.int λ⟨hk,hb⟩=> ?_;subst hk;simp[binOp,Op.intDiv,hb]
 case rem =>
  refine aH.int λ⟨hk,hb⟩=> ?_;subst hk;simp[binOp,Op.intDiv,hb]
 all_goals
  first
   |refine aH.int λhk=> ?_
   |refine aH.bool λhk=> ?_
  subst hk;simp[binOp,Op.intArith,Op.intBits,Op.intCmp]
def Tq(op:BinOp)(a b:List UInt8):PV :=
 match op with
 | .add=>(aa a+aa b<=maxLen,.str (a++b))
 | .eql=>(True,.bool (a==b))
 | .neq=>(True,.bool (!(a==b)))
 | .lss=>(True,.bool (Op.bytesLess a b))
 | .leq=>(True,.bool (Op.bytesLess a b||a==b))
 | .gtr=>(True,.bool (!(Op.bytesLess a b||a==b)))
 | .geq=>(True,.bool (!(Op.bytesLess a b)))
 |_=>fJ
theorem iL(s:ByteArray):s.size=aa s.data.toList:=(Array.length_toList).symm
theorem Tt{P:Program}{c:C}(op:BinOp)(t:TypeId){a b:List UInt8}{x y:Value}(ha:VRel c (.str a) x)(hb:VRel c (.str b) y) :
 aH P c (binOp op t x y) (Tq op a b):=by
 simp only[VRel]at ha hb;obtain⟨s,rfl,rfl,hs⟩:=ha;obtain⟨u,rfl,rfl,hu⟩:=hb;unfold Tq;cases op<;>dsimp only<;>try exact aH.no
 case add =>
  intro hc;refine⟨.string (s++u),?_,?_⟩
  ·have:¬((s.size+u.size:Nat):Int)>IntKind.i64.max:=by have h1:IntKind.i64.max=9223372036854775807:=rfl;rw[iL s,iL u];simp only[maxLen]at hc;omega
   simp only[binOp,Op.stringOp];rw[if_neg this];rfl
  ·simp only[VRel];exact⟨_,rfl,by simp,by rw[zqa];exact hc⟩
 all_goals
  refine aH.bool λ_=> ?_;simp[binOp,Op.stringOp,ByteArray.toList_eq]
def V.nil? :V->Option Bool
 | .nilp | .nilm | .nilf | .nili | .nils=>al ab
 | .lp _ _ | .ip _ | .lm _ | .im _ _ | .fn _ _ _ | .yd _ | .iface _ _=>al ac
 |_=>aq
def K.nilOf:K->V->Bool
 | .ptr _,.nilp=>ab
 | .map _ _,.nilm=>ab
 | .func,.nilf=>ab
 | .slice _,.nils=>ab
 |_,_=>ac
def K.has:K->V->Bool
 | .ptr _,.nilp | .ptr _,.lp _ _ | .ptr _,.ip _=>ab
 | .map _ _,.nilm | .map _ _,.lm _ | .map _ _,.im _ _=>ab
 | .func,.nilf | .func,.fn _ _ _ | .func,.yd _=>ab
 | .slice _,.nils=>ab
 |_,_=>ac
def CG(P:Program)(op:BinOp)(t:TypeId)(x y:V):PV :=
 match x,y with
 | .int k a,.int k' b=>Tm op k a k' b
 | .str a,.str b=>Tq op a b
 | .bool a,.bool b =>
  match ti P t with
  |some r=>match op with
   | .eql=>(r.kind= .bool,.bool (a==b))
   | .neq=>(r.kind= .bool,.bool (!(a==b)))
   |_=>fJ
  |none=>fJ
 |x,y =>
  match ti P t,x.nil?,y with
  |some r,al b,.nilp|some r,al b,.nilm|some r,al b,.nilf|some r,al b,.nils=>match op with
   | .eql=>(r.kind.nilOf y=ab/\r.kind.has x=ab,.bool b)
   | .neq=>(r.kind.nilOf y=ab/\r.kind.has x=ab,.bool (!b))
   |_=>fJ
  |some r,al b,.nili=>match op,x with
   | .eql,.iface _ _=>(r.kind= .iface,.bool ac)
   | .neq,.iface _ _=>(r.kind= .iface,.bool ab)
   |_,_=>fJ
  |_,_,_=>fJ
theorem TIs.bool{P:Program}{t:TypeId}{r:TI}{i:TypeInfo}{d:TypeDesc}{z:Value}(h:TIs P t r i d z)(hk:r.kind= .bool):d= .bool:=by have:=h.kind.symm.trans hk;cases d<;>simp_all [mY]
theorem TIs.ptr{P:Program}{t:TypeId}{r:TI}{i:TypeInfo}{d:TypeDesc}{z:Value}(h:TIs P t r i d z){e:Nat}(hk:r.kind= .ptr e):d= .pointer e:=by have:=h.kind.symm.trans hk;cases d<;>simp_all [mY]
theorem TIs.iface{P:Program}{t:TypeId}{r:TI}{i:TypeInfo}{d:TypeDesc}{z:Value}(h:TIs P t r i d z)(hk:r.kind= .iface):∃ms,d= .interface ms:=by have:=h.kind.symm.trans hk;cases d<;>simp_all [mY]
theorem TIs.func{P:Program}{t:TypeId}{r:TI}{i:TypeInfo}{d:TypeDesc}{z:Value}(h:TIs P t r i d z)(hk:r.kind= .func):∃a b c,d= .func a b c:=by have:=h.kind.symm.trans hk;cases d<;>simp_all [mY]
theorem uf{P:Program}{c:C}{t:TypeId}{r:TI}{i:TypeInfo}{d:TypeDesc}{z:Value}(h:TIs P t r i d z){x y:V}{xv yv:Value}{b:Bool}
 (hx:VRel c x xv) (hy:VRel c y yv) (hb:x.nil? =al b) (h1:r.kind.nilOf y=ab) (h2:r.kind.has x=ab) (w:World) :
 (Op.equal t xv yv).run P w= .ok b w:=by
 unfold Op.equal Op.maxDepth Op.equalIn;simp only[Sem.run_bind,h.run_und,aM];cases hk:r.kind<;>rw[hk]at h1 h2<;>cases y<;>simp only[K.nilOf,zrm]at h1<;>cases x<;>simp only[K.has,zrm]at h2<;>simp only[V.nil?,Option.some.injEq]at hb<;>subst hb<;>simp only[VRel]at hx hy<;>subst hy
 case ptr.nilp.nilp=>rw[h.ptr hk];subst hx;rfl
 case ptr.nilp.lp=>rw[h.ptr hk];obtain⟨_,_,rfl⟩:=hx;rfl
 case ptr.nilp.ip=>rw[h.ptr hk];obtain⟨_,_,_,rfl,_⟩:=hx;rfl
 case slice.nils.nils=>rw[h.slice hk];subst hx;rfl
 case map.nilm.nilm=>rw[h.map hk];subst hx;rfl
 case map.nilm.lm=>rw[h.map hk];obtain⟨_,_,rfl⟩:=hx;rfl
 case map.nilm.im=>rw[h.map hk];obtain⟨_,_,_,rfl,_⟩:=hx;rfl
 case func.nilf.nilf=>obtain⟨_,_,_,hd⟩:=h.func hk;rw[hd];subst hx;rfl
 case func.nilf.fn=>obtain⟨_,_,_,hd⟩:=h.func hk;rw[hd];obtain⟨_,_,rfl,_⟩:=hx;rfl
 case func.nilf.yd=>obtain⟨_,_,_,hd⟩:=h.func hk;rw[hd];obtain⟨_,_,rfl⟩:=hx;rfl
theorem Tu{P:Program}{c:C}(op:BinOp)(t:TypeId){x y:V}{xv yv:Value}(hx:VRel c x xv)(hy:VRel c y yv) :
 aH P c (binOp op t xv yv) (CG P op t x y):=by
 unfold CG;split
 ·simp only[VRel]at hx hy;subst hx;subst hy;exact Tn (P:=P) (c:=c) op t _ _ _ _
 ·exact Tt _ _ hx hy
 ·simp only[VRel]at hx hy;subst hx;subst hy;split
  ·rename_i r hr;obtain⟨i,d,z,hT⟩:=aG hr;split
   ·refine aH.bool λhk=> ?_;have:=hT.und;rw[hT.bool hk]at this;exact run_eql_bool _ _ _ _ this
   ·refine aH.bool λhk=> ?_;have:=hT.und;rw[hT.bool hk]at this;exact run_neq_bool _ _ _ _ this
   ·exact aH.no
  ·exact aH.no
 ·have key:∀r b,ti P t=al r->x.nil? =al b->(y= .nilp\/y= .nilm\/y= .nilf\/y= .nils) ->
   aH P c (binOp op t xv yv) (match op with
    | .eql=>(r.kind.nilOf y=ab/\r.kind.has x=ab,.bool b)
    | .neq=>(r.kind.nilOf y=ab/\r.kind.has x=ab,.bool (!b))
    |_=>fJ):=by
   intro r b hr hb hyn;obtain⟨i,d,z,hT⟩:=aG hr;have hbin:∀op',(op'= .eql\/op'= .neq)->(r.kind.nilOf y=ab/\r.kind.has x=ab)->binOp op' t xv yv=(if op'= .eql then(do pure (.bool (<-Op.equal t xv yv)))else(do pure (.bool (!(<-Op.equal t xv yv))))):=by
    rintro op' hop ⟨h1,h2⟩;rcases hyn with rfl | rfl | rfl | rfl <;> cases hk : r.kind <;> rw [hk] at h1 h2 <;> simp only [K.nilOf,zrm] at h1 <;> cases x <;> simp only [K.has,zrm] at h2 <;>
     simp only[VRel]at hx hy<;>subst hy <;>
     first
      |(subst hx;rcases hop with rfl|rfl<;>rfl)
      |(obtain⟨_,_,rfl⟩:=hx;rcases hop with rfl|rfl<;>rfl)
      |(obtain⟨_,_,_,rfl,_⟩:=hx;rcases hop with rfl|rfl<;>rfl)
      |(obtain⟨_,_,rfl,_⟩:=hx;rcases hop with rfl|rfl<;>rfl)
   split
   ·refine aH.bool λhp=> ?_;rw[hbin _ (.inl rfl) hp,if_pos rfl];simp[uf hT hx hy hb hp.1 hp.2,aM]
   ·refine aH.bool λhp=> ?_;rw[hbin _ (.inr rfl) hp,if_neg (by decide)];simp[uf hT hx hy hb hp.1 hp.2,aM]
   ·exact aH.no
  split
  ·exact key _ _ (by assumption) (by assumption) (.inl rfl)
  ·exact key _ _ (by assumption) (by assumption) (.inr (.inl rfl))
  ·exact key _ _ (by assumption) (by assumption) (.inr (.inr (.inl rfl)))
  ·exact key _ _ (by assumption) (by assumption) (.inr (.inr (.inr rfl)))
  ·rename ti P t=al _=>hr
   rename TI=>r
   obtain⟨i,d,z,hT⟩:=aG hr;have hq:∀u ev,r.kind= .iface->(Op.equal t (.iface u ev) .nilIface).run P c.w= .ok ac c.w:=by intro u ev hk;obtain⟨ms,rfl⟩:=hT.iface hk;unfold Op.equal Op.maxDepth Op.equalIn;simp only[Sem.run_bind,hT.run_und,aM];rfl
   split
   ·simp only[VRel]at hx hy;obtain⟨ev,rfl,_⟩:=hx;subst hy;refine aH.bool λhk=> ?_;show(do pure (Value.bool (<-Op.equal t _ _)):Sem Value).run P c.w=_;simp[hq _ _ hk,aM]
   ·simp only[VRel]at hx hy;obtain⟨ev,rfl,_⟩:=hx;subst hy;refine aH.bool λhk=> ?_;show(do pure (Value.bool (!(<-Op.equal t _ _))):Sem Value).run P c.w=_;simp[hq _ _ hk,aM]
   ·exact aH.no
  ·exact aH.no
def ay(P:Program)(op:BinOp)(t:TypeId)(x:V):PV :=
 match ti P t,op,x with
 |some r,.eql,.iface _ _=>(r.kind= .iface,.bool ac)
 |some r,.neq,.iface _ _=>(r.kind= .iface,.bool ab)
 |some r,.eql,.nili=>(r.kind= .iface,.bool ab)
 |some r,.neq,.nili=>(r.kind= .iface,.bool ac)
 |_,_,_=>fJ
theorem lQ{P:Program}{op:BinOp}{t:TypeId}{a:Operand}{xv:Value}(w:World)(h:xv= .nilIface\/∃u ev,xv= .iface u ev):(eqGuard op t a (.const .nilIface) xv .nilIface).run P w= .ok () w:=by unfold eqGuard;rcases h with rfl|⟨u,ev,rfl⟩<;>cases op<;>simp
theorem N9{P:Program}{c:C}(op:BinOp)(t:TypeId)(a:Operand){x:V}{xv:Value}(hx:VRel c x xv) :
 aH P c (do eqGuard op t a (.const .nilIface) xv .nilIface;binOp op t xv .nilIface) (ay P op t x):=by
 have hq:∀(r:TI)(v:Value)(b:Bool),ti P t=al r->r.kind= .iface->((v= .nilIface/\b=ab)\/((∃u ev,v= .iface u ev)/\b=ac))->(Op.equal t v .nilIface).run P c.w= .ok b c.w:=by intro r v b hr hk hv;obtain⟨i,d,z,hT⟩:=aG hr;obtain⟨ms,rfl⟩:=hT.iface hk;unfold Op.equal Op.maxDepth Op.equalIn;simp only[Sem.run_bind,hT.run_und,aM];rcases hv with⟨rfl,rfl⟩|⟨⟨u,ev,rfl⟩,rfl⟩<;>rfl
 unfold ay;split
 ·rename_i r u e hr;simp only[VRel]at hx;obtain⟨ev,rfl,_⟩:=hx;refine aH.bool λhk=> ?_;simp only[Sem.run_bind,lQ c.w (.inr ⟨u,ev,rfl⟩),aM];show(do pure (Value.bool (<-Op.equal t _ _)):Sem Value).run P c.w=_;simp[hq r _ ac hr hk (.inr ⟨⟨u,ev,rfl⟩,rfl⟩),aM]
 ·rename_i r u e hr;simp only[VRel]at hx;obtain⟨ev,rfl,_⟩:=hx;refine aH.bool λhk=> ?_;simp only[Sem.run_bind,lQ c.w (.inr ⟨u,ev,rfl⟩),aM];show(do pure (Value.bool (!(<-Op.equal t _ _))):Sem Value).run P c.w=_;simp[hq r _ ac hr hk (.inr ⟨⟨u,ev,rfl⟩,rfl⟩),aM]
 ·rename_i r hr;simp only[VRel]at hx;subst hx;refine aH.bool λhk=> ?_;simp only[Sem.run_bind,lQ c.w (.inl rfl),aM];show(do pure (Value.bool (<-Op.equal t _ _)):Sem Value).run P c.w=_;simp[hq r _ ab hr hk (.inl ⟨rfl,rfl⟩),aM]
 ·rename_i r hr;simp only[VRel]at hx;subst hx;refine aH.bool λhk=> ?_;simp only[Sem.run_bind,lQ c.w (.inl rfl),aM];show(do pure (Value.bool (!(<-Op.equal t _ _))):Sem Value).run P c.w=_;simp[hq r _ ab hr hk (.inl ⟨rfl,rfl⟩),aM]
 ·exact aH.no
end Go.Abs
