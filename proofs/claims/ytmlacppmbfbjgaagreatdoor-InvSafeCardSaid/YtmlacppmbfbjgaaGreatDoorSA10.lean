/- Lemmas for this claim, part A10: each holds under what it names. -/
import Derived.Test.YtmlacppmbfbjgaaGreatDoorSA9
set_option linter.unusedVariables false
set_option linter.unusedSimpArgs false
namespace Go.Abs
open Go Go.RowKit
def Vb (e:E) (n:Nat) (ops:Array Oper) (Q:XE→Fr→H→Prop) (i:Nat) (Kn:Fr→H→Prop) (f:Fr) (h:H):Prop :=
 ∃o,ops[i]? =some o∧o.guard=none∧jA n o.dst=true∧∀r,Eff e n r o f h Kn Q
theorem FQ {e : E} {n : Nat} {ops : Array Oper} {Q : XE → Fr → H → Prop} {i : Nat} {Kn : Fr → H → Prop} {f : Fr} {h : H} {d : Nat} {o' : Oper} (ho : ops[i]? = some o') (hg : o'.guard = none) (hd : o'.dst = some d) (hk : jA n (some d) = true)
 (hE:∀r o,o=o'→o.dst=some d→Eff e n r o f h Kn Q):Vb e n ops Q i Kn f h:=⟨o',ho,hg,by rw[hd];exact hk,fun r=>hE r o' rfl hd⟩
def IA (e:E) (n:Nat) (ops:Array Oper) (Q:XE→Fr→H→Prop) (s i:Nat) (Ks Kn:Fr→H→Prop) (f:Fr) (h:H):Prop :=
 if i=s then Vb e n ops Q i Ks f h else DR e n ops i Kn Q f h
def mX (e : E) (n : Nat) (ops : Array Oper) (Q : XE → Fr → H → Prop) (K : Plan → Fr → H → Prop) (s : Nat) : Plan → Fr → H → Prop
 | .fin,f,h=>Q .normal f h
 | .take i p,f,h=>DR e n ops i (mX e n ops Q K s p) Q f h
 | .one i p,f,h=>IA e n ops Q s i (K p) (mX e n ops Q K s p) f h
 | .alt i p q,f,h=>IA e n ops Q s i (K p) (mX e n ops Q K s p) f h∧mX e n ops Q K s q f h
section
variable {e:E} {n:Nat} {r:Option Nat} {ops:Array Oper} {Q:XE→Fr→H→Prop} {ok:Nat→Prop} {pl0:Nat→Option Nat} {w0:World}
theorem uw {s0 i : Nat} {Ks Kn : Fr → H → Prop} {f : Fr} {h : H} (hv : IA e n ops Q s0 i Ks Kn f h) {K' : Act → World → Prop}
 (hks:∀f h pl w a,SSim e n ok pl0 w0 f h pl w a→Ks f h→K' a w) (hk:∀f h pl w a,SSim e n ok pl0 w0 f h pl w a→Kn f h→K' a w) {pl:Nat→Option Nat} {w:World} {a:Act} (s:SSim e n ok pl0 w0 f h pl w a) :
 wpOpIn (RF r) 0 e.P ops (gW e n ok pl0 w0 Q) i K' a w:=by
 unfold IA at hv;split at hv
 ·obtain ⟨o,ho,hg,hd,hv⟩ := hv;have hgd : gd ops f o = some true := by unfold gd;rw [hg]
  have hw:=rO s.val hgd;unfold wpOpIn;simp only[ho];rw[if_pos hw];exact Oper.wpIn_mono (fun a' w' ⟨pl',f',h',s',hk'⟩=>hks _ _ _ _ _ s' hk') (hv r ok pl0 w0 pl w a s hd)
 ·exact rQ hv hk s
theorem iI {s0:Nat} (hQ:∀v f h,¬Q (.pan v) f h) (hpl:jH ops=true):∀(p:Plan),
 (∀(fuel:Nat) (listed:Array Bool) (f:Fr) (h:H),bJ e.P ops p fuel listed=true→mX e n ops Q (gQ e n ops Q) s0 p f h→∀pl w a,SSim e n ok pl0 w0 f h pl w a→wpAnyIn (RF r) 0 e.P .any ops (gW e n ok pl0 w0 Q) fuel listed a w) ∧
 (∀(fuel:Nat) (listed:Array Bool) (f:Fr) (h:H),bJ.planAlts e.P ops p fuel listed=true→mX e n ops Q (gQ e n ops Q) s0 p f h→∀pl w a,SSim e n ok pl0 w0 f h pl w a →
  ∀i∈p.heads,wpOpIn (RF r) 0 e.P ops (gW e n ok pl0 w0 Q) i (wpAnyIn (RF r) 0 e.P .any ops (gW e n ok pl0 w0 Q) fuel (listed.setIfInBounds i true)) a w)
 | .fin=>by refine⟨fun fuel listed f h hp hv pl w a s=> ?_,fun fuel listed f h hp hv pl w a s i hi=>(by simp[Plan.heads]at hi)⟩;simp only[bJ,List.isEmpty_iff]at hp;exact wpAnyIn_done hp ⟨pl,f,h,.normal,s,trivial,hv⟩ fuel
 | .take i p=>by
  refine⟨fun fuel listed f h hp hv pl w a s=> ?_,fun fuel listed f h hp hv pl w a s i hi=>(by simp[Plan.heads]at hi)⟩;simp only[bJ]at hp;split at hp
  ·rename_i fuel o ho;simp only[zqf]at hp;obtain⟨⟨⟨h1,h2⟩,h3⟩,h4⟩:=hp;obtain⟨x,f',hy,s',hk⟩:=pM ho h1 hv s;refine kZ h1 ho hpl ?_ fuel listed a w (Region.free_spec ho h3) (by simpa using h2) hy ((iI hQ hpl p).1 fuel _ f' h h4 hk pl w _ s');rintro c a w ⟨pl',f',h',xe,_,hx,hq⟩;cases xe<;>first | exact hx.elim | exact(hQ _ _ _ hq).elim
  ·cases hp
 | .one i p=>by
  refine⟨fun fuel listed f h hp hv pl w a s=> ?_,fun fuel listed f h hp hv pl w a s j hj=> ?_⟩
  ·simp only [bJ] at hp;split at hp
   ·rename_i fuel;simp only[zqf,beq_iff_eq]at hp;refine⟨fun h0=>(by rw[hp.1]at h0;cases h0),fun j hj=> ?_⟩;rw[hp.1]at hj;simp only[zrc]at hj;subst hj;exact uw hv (fun f h pl w a s hk=>(fG hQ hpl p).1 fuel _ f h hp.2 hk pl w a s) (fun f h pl w a s hk=>(iI hQ hpl p).1 fuel _ f h hp.2 hk pl w a s) s
   ·cases hp
  ·simp only[bJ.planAlts]at hp;simp only[Plan.heads,zrc]at hj;subst hj;exact uw hv (fun f h pl w a s hk=>(fG hQ hpl p).1 fuel _ f h hp hk pl w a s) (fun f h pl w a s hk=>(iI hQ hpl p).1 fuel _ f h hp hk pl w a s) s
 | .alt i p q=>by
  refine⟨fun fuel listed f h hp hv pl w a s=> ?_,fun fuel listed f h hp hv pl w a s j hj=> ?_⟩
  ·simp only [bJ] at hp;split at hp
   ·rename_i fuel;simp only [zqf,beq_iff_eq] at hp;obtain ⟨⟨h1,h2⟩,h3⟩ := hp;refine ⟨fun h0 => (by rw [h1] at h0;cases h0),fun j hj => ?_⟩;rw [h1] at hj;rcases zrj.1 hj with rfl | hj
    ·exact uw hv.1 (fun f h pl w a s hk=>(fG hQ hpl p).1 fuel _ f h h2 hk pl w a s) (fun f h pl w a s hk=>(iI hQ hpl p).1 fuel _ f h h2 hk pl w a s) s
    ·exact(iI hQ hpl q).2 fuel listed f h h3 hv.2 pl w a s j hj
   ·cases hp
  ·simp only [bJ.planAlts,zqf] at hp;rcases zrj.1 hj with rfl | hj
   ·exact uw hv.1 (fun f h pl w a s hk=>(fG hQ hpl p).1 fuel _ f h hp.1 hk pl w a s) (fun f h pl w a s hk=>(iI hQ hpl p).1 fuel _ f h hp.1 hk pl w a s) s
   ·exact(iI hQ hpl q).2 fuel listed f h hp.2 hv.2 pl w a s j hj
theorem BB (hm : e.P.follows .mixedOrders = true) {id : Nat} (s0 : Nat) (p : Plan) (R : Fr → H → Prop) {f : Fr} {h : H} (hp : bJ e.P ops p ops.size (Array.replicate ops.size false) = true) (hpl : jH ops = true)
 (hv:∀K:Plan→Fr→H→Prop,(∀p f h,gQ e n ops (vC R) p f h→K p f h)→mX e n ops (vC R) K s0 p f h) (hk:∀f h,R f h→Q .normal f h):awp e n r (.region id ops true) Q f h:=by
 intro ok pl0 w0 pl w a s;have hv := hv _ fun p f h hh => hh;have x : WExt w { w with drawn := w.drawn + 1 } := WExt.drew w;have := (iI (e := e) (n := n) (r := r) (ops := ops) (Q := vC R) (ok := ok) (pl0 := pl0) (w0 := w0) (fun v f h hh => hh) hpl p).1 ops.size _ f h hp hv pl _ a (s.next0 (s.hs.wext x) (x.keeps s.hs));refine wpIn_mono (wpIn_region_any hm this) ?_;rintro ex a' w' ⟨pl',f',h',xe,s',hx,hq⟩;cases xe <;> first
  | exact⟨pl',f',h',_,s',hx,hk _ _ hq⟩
  | exact hq.elim
end
section
variable {e:E} {n:Nat} {r:Option Nat} {o:Oper} {f:Fr} {h:H} {Kn:Fr→H→Prop} {Q:XE→Fr→H→Prop}
def jZ (e:E) (h:H) (k:Nat) (s:V) (m n':Nat) (cs:List V):Prop :=
 ∀ok pl w xv,HSim e ok pl h w→VRel (cx ok pl w) s xv→(Builtin.lenOf xv).run e.P w= .ok m w∧∃news:Array Value,(Builtin.firstCells k n' xv).run e.P w= .ok news w∧VList (cx ok pl w) cs news.toList∧cs.length=n'*k
theorem jZ.all {k m:Nat} {s:V} {cs:List V} (he:iQ h k s=some (m,cs)) (hf:nI k s=true):jZ e h k s m m cs:=fun ok pl w xv hs hv=>by obtain⟨news,h1,h2,h3,h4⟩:=jC (e:=e) hs hv he hf;exact⟨h1 w,news,h2 w (fun _=>rfl),h3,h4⟩
theorem IB {P:Program} {k:Nat} {a:Option Addr} {len cp:Nat} {w:World}:(Builtin.firstCells k 0 (.slice a len cp)).run P w= .ok #[] w:=by
 cases a with
 | none=>rfl
 | some a=>simp only[Builtin.firstCells,Nat.zero_mul];rfl
theorem jZ.none {k:Nat} {es:List V} {ex:Bool}:jZ e h k (.is ex k es) es.length 0 []:=fun ok pl w xv hs hv=>by simp only[VRel]at hv;obtain⟨a,cp,rfl,h1,h2,h3,h4⟩:=hv;exact⟨rfl,#[],IB,by simp[VList],by simp⟩
theorem jZ.part {k id off len cap n':Nat} {cs:List V} (hn:n'≤len) (he:iQ h k (.ls id k off n' cap)=some (n',cs)):jZ e h k (.ls id k off len cap) len n' cs:=fun ok pl w xv hs hv=>by
 simp only[VRel]at hv;obtain⟨a,cp,rfl,h1,h2,h3,h4⟩:=hv;have hv':VRel (cx ok pl w) (.ls id k off n' cap) (.slice a n' cp):=by
  simp only[VRel];exact⟨a,cp,rfl,h1,by omega,h3,h4⟩
 obtain⟨news,g1,g2,g3,g4⟩:=jC (e:=e) hs hv' he rfl;refine⟨rfl,news,?_,g3,g4⟩;have:Builtin.firstCells k n' (.slice a len cp)=Builtin.firstCells k n' (.slice a n' cp):=by cases a<;>rfl
 rw[this];exact g2 w (fun _=>rfl)
theorem FT {x y : Operand} {ts : Array TypeId} {t el : TypeId} {q re : TI} (hop : o.op = .call { callee := .builtin .copy,args := #[x,y],argTypes := ts }) (ht : ts[0]? = some t) (hti : Abs.ti e.P t = some q) (hkind : q.kind = .slice el) (htie : Abs.ti e.P el = some re)
 (hxc:(f.ev e x).sc) (hyc:(f.ev e y).sc) {id off len cap:Nat} (hx:(f.ev e x).sv= .ls id re.size off len cap) {cs0:List V} (hc:h[id]? =some (.cells cs0)) (hl:off+len*re.size≤cs0.length)
 {m n':Nat} {cs:List V} (hsrc:jZ e h re.size (f.ev e y).sv m n' cs) (hmin:n'=min m len) (h1:bC cs=true)
 (hk:Kn (f.put o.dst (.int .i64 n')) (h.set id (.cells (bP cs0 off cs)))):Eff e n r o f h Kn Q:=by
 refine aN ?_ (fun c=>by rw[hop];exact fun h=>by cases h);intro ok pl w ev hs hr;obtain⟨i,d,z,hT⟩:=aH hti;have hd:=hT.slice hkind;subst hd;obtain⟨ie,de,ze,hE⟩:=aH htie;have hxv:=(hr x (by simp[hop,Op.operands,Call.operands])).sv hxc;have hyv:=(hr y (by simp[hop,Op.operands,Call.operands])).sv hyc;rw[hx]at hxv;simp only[VRel]at hxv;obtain⟨a,cp,hxb,hcap,hlen,hmax,hpl⟩:=hxv;obtain⟨hlm,news,hfc,hvl,hcl⟩:=hsrc ok pl w (ev y) hs hyv;have hmn:Nat.min m len=n':=hmin.symm;have hn':n'≤len:=by omega
 have hnk:n'*re.size≤len*re.size:=Nat.mul_le_mul_right _ hn';have hnl:=hvl.length;have hex:∀w',((a=none∧w'=w)∨∃b,a=some b∧(storeCells b news.toList).run e.P w= .ok () w')→(execOp ev o).run e.P w= .ok (.value (.int .i64 n')) w':=by
  intro w' hw';have hh : execOp ev o = (do
   let d ←resolve ev {callee:= .builtin .copy,args:=#[x,y],argTypes:=ts} o.type
   invoke d.target d.args):=by simp[execOp,hop]
  rw[hh];have hb:(Builtin.copy_ ts o.type #[ev x,ev y]).run e.P w= .ok (.int .i64 n') w':=by
   unfold Builtin.copy_;simp only[ht,List.getElem?_toArray,List.getElem?_cons_zero,List.getElem?_cons_succ,Sem.run_bind,hT.run_und,Result.andThen,hxb,hlm,hE.run_size,hmn,hfc];rcases hw' with⟨rfl,rfl⟩ | ⟨b,rfl,hst⟩
   ·rfl
   ·simp[hst,Result.andThen,goInt]
  simp[resolve,invoke,builtin,hb,Result.andThen]
 rcases hpl with hcp | ⟨b,arr,el',fz,hb,hbs,harr,hsz⟩
 ·have hn0 : n' = 0 := by omega
  subst hn0;have hcs:cs=[]:=List.length_eq_zero_iff.1 (by omega);subst hcs;have hnews:news.toList=[]:=List.length_eq_zero_iff.1 (hnl.trans rfl);have hset:h.set id (.cells (bP cs0 off []))=h:=by
   have:bP cs0 off []=cs0:=by unfold bP;simp
   rw[this];apply List.ext_getElem?;intro j;by_cases hj:id=j
   ·subst hj;rw[zqt (zqe hc).1,hc]
   ·rw[zqn hj]
  rw[hset]at hk;refine⟨fun _=>false,.int .i64 (0:Nat),h,pl,w,.int .i64 (0:Nat),.inl (hex w ?_),hs,Keeps.refl _ _,by simp only[VRel],fun _ _=>rfl,by simpa using hk⟩;cases a with
  | none=>exact .inl ⟨rfl,rfl⟩
  | some a=>exact .inr ⟨a,rfl,by rw[hnews];rfl⟩
 ·subst hbs;have hb':pl id=some b:=hb;obtain⟨w',hrun,hs',k⟩:=pF (off:=off) hs hb' hvl h1 hc (by omega);exact⟨fun _=>false,.int .i64 n',h.set id (.cells (bP cs0 off cs)),pl,w',.int .i64 n',.inl (hex w' (.inr ⟨_,rfl,hrun⟩)),hs',k,by simp only[VRel],fun _ _=>rfl,by simpa using hk⟩
end
def GA (f:Fr) (l:List (Nat×V)):Prop:=∀q∈l,f.t q.1=q.2
theorem GA.put {f:Fr} {l:List (Nat×V)} {d:Nat} {v:V} (h:GA f l) (hd:(l.all fun q=>q.1 != d)=true):GA (f.put (some d) v) l:=fun q hq=>by
 have h1:=zrs.1 hd q hq;have h2:q.1≠d:=by simpa using h1
 have:=h q hq;simpa [Fr.put,h2]using this
theorem FA.put' {L:Array Bool} {f:Fr} {l:List (Nat×Nat×V)} {i d:Nat} {v:V} (hf:FA L f l) (h1:(l.all fun q=>q.1 != i&&q.2.1 != d)=true):FA (L.setIfInBounds i true) (f.put (some d) v) l :=
 hf.put (fun q hq hqi=>by have:=zrs.1 h1 q hq;simp[hqi]at this) (fun q hq hqd=>by have:=zrs.1 h1 q hq;simp[hqd]at this)
def HN (L:Array Bool) (B:H) (ia is:Nat) (zc uc:List V):H:=if L.getD ia false=true then B++[.cells (if L.getD is false=true then uc else zc)]else B
theorem HN.get {L:Array Bool} {B:H} {ia is:Nat} {zc uc:List V} {k:Nat} {o:O} (h:B[k]? =some o):(HN L B ia is zc uc)[k]? =some o:=by
 unfold HN;split
 ·rw[zqj (zqe h).1];exact h
 ·exact h
theorem HN.none {m:Nat} {B:H} {ia is:Nat} {zc uc:List V}:HN (Array.replicate m false) B ia is zc uc=B:=by
 unfold HN;rw[if_neg];intro h;rcases Nat.lt_or_ge ia m with h2 | h2
 ·simp[h2]at h
 ·simp[Array.getD,Nat.not_lt.2 h2]at h
theorem HN.skip {L:Array Bool} {B:H} {ia is i:Nat} {zc uc:List V} (h1:i≠ia) (h2:i≠is):HN (L.setIfInBounds i true) B ia is zc uc=HN L B ia is zc uc:=by unfold HN;rw[getD_set_ne false h1,getD_set_ne false h2]
theorem HN.old {L:Array Bool} {B:H} {ia is:Nat} {zc uc:List V} (h:L.getD ia false=false):HN L B ia is zc uc=B:=by unfold HN;rw[if_neg (by rw[h];decide)]
theorem mY {L:Array Bool} {i:Nat} (h:i<L.size):(L.setIfInBounds i true).getD i false=true:=by simp[Array.getD,h]
theorem HN.new {L:Array Bool} {B:H} {ia is:Nat} {zc uc:List V} (hs:ia<L.size) (hne:ia≠is) (h:L.getD is false=false):HN (L.setIfInBounds ia true) B ia is zc uc=B++[.cells zc]:=by unfold HN;rw[mY hs,getD_set_ne false hne,h];rfl
theorem HN.at {L:Array Bool} {B:H} {ia is:Nat} {zc uc:List V} (h:L.getD ia false=true) (h2:L.getD is false=false):HN L B ia is zc uc=B++[.cells zc]:=by unfold HN;rw[h,h2];rfl
theorem HN.fill {L:Array Bool} {B:H} {ia is:Nat} {zc uc:List V} (h:L.getD ia false=true) (hs:is<L.size) (hne:is≠ia):HN (L.setIfInBounds is true) B ia is zc uc=B++[.cells uc]:=by unfold HN;rw[mY hs,getD_set_ne false hne,h];rfl
theorem HN.done {L:Array Bool} {B:H} {ia is:Nat} {zc uc:List V} (h:L.getD ia false=true) (h2:L.getD is false=true):HN L B ia is zc uc=B++[.cells uc]:=by unfold HN;rw[h,h2];rfl
theorem KZ {ops:Array Oper} {L:Array Bool} (hc:Ey ops L) {i:Nat} (hi:L.getD i false=true) {l:List Nat} (hl:U9 ops i l=true):∀j∈l,L.getD j false=true:=by
 intro j hj;unfold U9 at hl;split at hl
 ·rename_i o ho;have h1:=zrs.1 hl j hj;rw[Array.any_eq_true]at h1;obtain⟨q,hq,h3⟩:=h1;rw[zqf,beq_iff_eq]at h3;rw[←h3.2];exact hc i o ho hi _ (Array.getElem_mem hq) h3.1
 ·cases hl
theorem iT {ops:Array Oper} {L:Array Bool} (hc:Ey ops L) {i j:Nat} (hj:L.getD j false=false) (hl:U9 ops i [j]=true):L.getD i false=false:=by
 cases h:L.getD i false with
 | false=>rfl
 | true=>rw[KZ hc h hl j (by simp)]at hj;cases hj
theorem qL {B:H} {o o':O}:(B++[o]).set B.length o'=B++[o']:=by rw[List.set_append_right _ _ (zrb _),Nat.sub_self];rfl
theorem jJ {B:H} {o:O}:(B++[o])[B.length]? =some o:=by simp
theorem qM {p : Nat → Bool} : ∀ v : V,v.dat = true → v.drop p = v
 | .any,_ | .bool _,_ | .int _ _,_ | .str _,_ | .nilp,_ | .ip _,_ | .nils,_ | .is _ _ _,_ | .nilm,_ | .im _ _,_ | .nilf,_ | .nili,_=>by simp[V.drop]
 | .lp _ _,h | .ls _ _ _ _ _,h | .lm _,h | .yd _,h | .row _ _,h=>by simp[V.dat]at h
 | .fn f a b,h=>by simp only[V.dat,zqf]at h;rw[V.drop,dats_drops a h.1,dats_drops b h.2]
 | .iface t e,h=>by rw[V.drop,qM e (by simpa [V.dat]using h)]
 | .agg vs,h=>by rw[V.drop,dats_drops vs (by simpa [V.dat]using h)]
 | .tup vs,h=>by rw[V.drop,dats_drops vs (by simpa [V.dat]using h)]
 | .grd g e,h=>by rw[V.drop,qM e (by simpa [V.dat]using h)]
where dats_drops : ∀ vs : List V,V.dats vs = true → V.drops p vs = vs
 | [],_=>by rw[V.drops]
 | v::vs,h=>by simp only[V.dats,zqf]at h;rw[V.drops,qM v h.1,dats_drops vs h.2]
theorem FA.drop {L:Array Bool} {f:Fr} {l:List (Nat×Nat×V)} {p:Nat→Bool} (h:FA L f l) (hd:∀q∈l,q.2.2.drop p=q.2.2):FA L (f.drop p) l:=fun q hq hl=>by show(f.t q.2.1).drop p=q.2.2;rw[h q hq hl,hd q hq]
theorem GA.drop {f:Fr} {l:List (Nat×V)} {p:Nat→Bool} (h:GA f l) (hd:∀q∈l,q.2.drop p=q.2):GA (f.drop p) l:=fun q hq=>by show(f.t q.1).drop p=q.2;rw[h q hq,hd q hq]
end Go.Abs
