import Derived.Deep.Slices
import Derived.ProofKit
import Derived.OpenShut
import Derived.Test.YtpfmbblnhjpclaaGreatDoorJ13
import Derived.Below
import Derived.ChangeOld
set_option linter.unusedVariables false
set_option linter.unusedSimpArgs false
namespace Go.an
open Go.RowKit Go.ChangeShapes Go.WideShapes
def Oq(rd:TypeId->List AV->Prop):List Field->List AV->Prop
 |[],us=>us=[]
 |f::fs,us=>∃p q,us=p++q/\rd f.type p/\Oq rd fs q
def RdN(rd:List AV->Prop):Nat->List AV->Prop
 |0,us=>us=[]
 |n+1,us=>∃p q,us=p++q/\rd p/\RdN rd n q
def Rd(P:Program):Nat->TypeId->List AV->Prop
 |0,_,_=>False
 |d+1,t,us=>match P.underlying t with
  |some .bool=>∃b,us=[.bool b]
  |some (.int k)=>∃n,us=[.int k n] /\(Lit.int k n).wf=true
  |some .string=>∃s:ByteArray,us=[.str s] /\s.size<=maxLen
  |some (.slice e)=>∃aa:List (List AV),us=[.aL (P.cellsOf e) aa.length aa] /\aa.length<=maxLen/\∀row∈aa,Rd P d e row
  |some (.struct fs)=>Oq (Rd P d) fs.toList us
  |some (.array n e)=>RdN (Rd P d e) n us
  |_=>False
def Es(C:TypeId->Nat):Nat->List Field->Nat->Bool
 |o,[],n=>Nat.beq o n
 |o,f::fs,n=>Nat.beq f.offset o&&Es C (o+C f.type) fs n
def mW(P:Program):Nat->TypeId->Bool
 |0,_=>false
 |d+1,t=>match P.underlying t with
  |some .bool=>true
  |some (.int _)=>true
  |some .string=>true
  |some (.slice e)=>Nat.blt 0 (P.cellsOf e)&&mW P d e
  |some (.struct fs)=>Es P.cellsOf 0 fs.toList (P.cellsOf t)&&fs.toList.all λf=>mW P d f.type
  |some (.array n e)=>Nat.beq (P.cellsOf t) (n*P.cellsOf e)&&mW P d e
  |_=>false
def Az(w:World)(us:List AV)(cs:List Value):Prop:=
 us.length=cs.length/\(∀c∈cs,c.oneCell'=true)/\∀(j:Nat) u c,us[j]?=some u->cs[j]?=some c->VR w (λ_=>False) K0 u c
theorem Az.nil(w:World):Az w [] []:=⟨rfl,by simp,by simp⟩
theorem Az.append{w:World}{us dj:List AV}{cs JU:List Value}(h:Az w us cs)(h':Az w dj JU):Az w (us++dj) (cs++JU):=by
 refine⟨by simp[h.1,h'.1],λc hc=>?_,λj u c hu hc=>?_⟩
 .rcases cE.1 hc with hc|hc
  .exact h.2.1 c hc
  .exact h'.2.1 c hc
 .by_cases hj:j<us.length
  .rw[bM hj]at hu
   rw[bM (by rw[<-h.1];exact hj)]at hc;exact h.2.2 j u c hu hc
  .rw[cm (by omega)]at hu
   rw[cm (by rw[<-h.1];omega),<-h.1]at hc;exact h'.2.2 _ u c hu hc
theorem Az.one{w:World}{u:AV}{c:Value}(h1:c.oneCell'=true)(h:VR w (λ_=>False) K0 u c):Az w [u] [c]:=by
 refine⟨rfl,by simpa using h1,λj u' c' hu hc=>?_⟩
 cases j with
 |zero=>simp at hu hc;subst hu hc;exact h
 |succ j=>simp at hu
section
variable{H:Type} {pY:TypeId×Value->H} {P:Program} {w:World} {base:Nat} {spare:Nat->Bool} {held:Bool}
theorem Kb{C:TypeId->Nat}{rd:TypeId->List AV->Prop}{cs:List Value}:∀{fs:List Field}{o:Nat},Es C o fs cs.length=true->
  (∀f∈fs,∃us,rd f.type us/\Az w us ((cs.drop f.offset).take (C f.type)))->∃us,Oq rd fs us/\Az w us (cs.drop o)
 |[],o,ht,_=>by
  have:o=cs.length:=beq_true ht;subst this;exact⟨[],rfl,by simpa using Az.nil w⟩
 |f::fs,o,ht,h=>by
  simp only[Es,aA]at ht;have ho:f.offset=o:=beq_true ht.1;obtain⟨p,hp1,hp2⟩:=h f (by simp);obtain⟨q,Vg,hq2⟩:=Kb ht.2 λf' tT=>h f' (by simp[tT])
  refine⟨p++q,⟨p,q,rfl,hp1,Vg⟩,?_⟩;have e:cs.drop o=(cs.drop o).take (C f.type)++cs.drop (o+C f.type):=by
   rw[<-List.drop_drop,rR]
  rw[e];rw[ho]at hp2;exact hp2.append hq2
theorem Ot{C:Nat}{rd:List AV->Prop}{cs:List Value}(hl:∀n,cs.length=n*C->True):∀{n i:Nat},cs.length=(i+n)*C->
  (∀j,i<=j->j<i+n->∃us,rd us/\Az w us ((cs.drop (j*C)).take C))->∃us,RdN rd n us/\Az w us (cs.drop (i*C))
 |0,i,hn,_=>by
  refine⟨[],rfl,?_⟩;rw[zo (by rw[hn];simp)];exact Az.nil w
 |n+1,i,hn,h=>by
  obtain⟨p,hp1,hp2⟩:=h i (bG _) (by omega);obtain⟨q,Vg,hq2⟩:=Ot (i:=i+1) (n:=n) hl (by rw[hn];congr 1;omega) λj h1 h2=>h j (by omega) (by omega)
  refine⟨p++q,⟨p,q,rfl,hp1,Vg⟩,?_⟩;have e:cs.drop (i*C)=(cs.drop (i*C)).take C++cs.drop ((i+1)*C):=by
   rw[Nat.succ_mul,<-List.drop_drop,rR]
  rw[e];exact hp2.append hq2
theorem Kc{C:Nat}{rd:List AV->Prop}{a:Addr}:∀{n:Nat},(∀i,i<n->∃us cs,rd us/\Az w us cs/\w.cells? base (a.add (i*C)) C=some cs)->
  ∃(aa:List (List AV))(cs:List Value),aa.length=n/\(∀row∈aa,row.length=C/\rd row)/\Az w aa.flatten cs/\cs.length=n*C/\∀(j:Nat) c,cs[j]?=some c->w.cell? (a.add j)=some c
 |0,_=>⟨[],[],rfl,by simp,Az.nil w,by simp,by simp⟩
 |n+1,h=>by
  obtain⟨aa,cs,h1,h2,h3,h4,h5⟩:=Kc (n:=n) λi hi=>h i (by omega)
  obtain⟨us,JU,k1,k2,k3⟩:=h n (by omega);obtain⟨_,kl,kc⟩:=World.cells?_some k3;refine⟨aa++[us],cs++JU,by simp[h1],λrow hr=>?_,?_,by simp[h4,kl,Nat.succ_mul],λj c hc=>?_⟩
  .rcases cE.1 hr with hr|hr
   .exact h2 row hr
   .rw[iw]at hr;subst hr;exact⟨k2.1.trans kl,k1⟩
  .rw[lA]
   simpa using h3.append k2
  .by_cases hj:j<cs.length
   .rw[bM hj]at hc
    exact h5 j c hc
   .rw[cm (by omega)]at hc
    have aC:j-cs.length<C:=by rw[<-kl];exact(aE.1 hc).1
    have:=kc _ aC;rw[hc,Go.Deep.add_add,show n*C+(j-cs.length)=j by rw[<-h4];omega]at this;exact this
theorem yS:∀(d:Nat)(t:TypeId)(fuel:Nat)(cs:List Value)(x:DataW H×List MemPlace),mW P d t=true->DataW.trod pY P w base spare held fuel t cs=some x->
  ∃us,Rd P d t us/\Az w us cs
 |0,t,fuel,cs,x,hp,h=>by simp[mW]at hp
 |d+1,t,fuel,cs,x,hp,h=>by
  unfold mW at hp
  split at hp
  .rename_i ht
   obtain⟨b,rfl,_⟩:=DataW.trod_bool ht h;exact⟨[.bool b],by simp[Rd,ht],Az.one rfl .bool⟩
  .rename_i k ht
   obtain⟨n,rfl,_,hw⟩:=DataW.trod_int ht h;exact⟨[.int k n],by simp[Rd,ht,hw],Az.one rfl .int⟩
  .rename_i ht
   obtain⟨s,rfl,_,hw⟩:=DataW.trod_string ht h;exact⟨[.str s],by simp[Rd,ht,hw],Az.one rfl .str⟩
  .rename_i e ht
   rw[aA]at hp;have hC:0<P.cellsOf e:=dn hp.1
   rcases Go.Deep.open_slice ht h with⟨rfl,_⟩|⟨a,len,cap,m,n,D,Pl,rfl,hb,hl,aa4,hm,_,hi⟩
   .refine⟨[.aL (P.cellsOf e) 0 []],?_,Az.one rfl (.aL (cs:=[]) rfl (by simp) (bG _) (λ_=>rfl) rfl (by simp) (λh=>absurd rfl h) (by simp))⟩
    simp only[Rd,ht];exact⟨[],rfl,by simp,by simp⟩
   .have Ip:len<=m:=by rw[hm];split<;>omega
    obtain⟨aa,cs,h1,h2,h3,h4,h5⟩:=Kc (w:=w) (base:=base) (C:=P.cellsOf e) (rd:=Rd P d e) (a:=a) (n:=len) λi ou=>by
     obtain⟨JU,hc,ht'⟩:=hi i (by omega);obtain⟨us,hu,hv⟩:=yS d e n JU _ hp.2 ht';exact⟨us,JU,hu,hv,hc⟩
    subst h1;refine⟨[.aL (P.cellsOf e) aa.length aa],?_,Az.one rfl ?_⟩
    .simp only[Rd,ht]
     exact⟨aa,rfl,by omega,λrow hr=>(h2 row hr).2⟩
    .refine .aL rfl (λrow hr=>(h2 row hr).1) hl (λh=>by cases h) h3.1.symm h3.2.1 (λdW=>?_) h3.2.2
     have gW:0<cs.length:=by
      rw[h4];exact Nat.mul_pos (List.length_pos_iff.2 dW) hC
     have h0:=h5 0 _ (aW gW);obtain⟨g,o,sp⟩:=a;have Cw:sp=none:=by simpa[Addr.add]using World.cell?_spot h0
     subst Cw;refine⟨g,o,rfl,?_,λh=>h,λj c hj=>?_⟩
     .have:w.cell? ⟨g,o,none⟩=some cs[0]:=by simpa[Addr.add]using h0
      unfold World.cell? at this
      cases hg:w.heap[g]? with
      |none=>simp[hg]at this
      |some ob=>exact(bd.1 hg).1
     .have:=h5 j c hj
      rwa[fK]at this
  .rename_i fs ht
   rw[aA]at hp;obtain⟨xs,n,_,_,cz,Nj,hf⟩:=DataW.trod_struct ht h;obtain⟨us,hu,hv⟩:=Kb (w:=w) (C:=P.cellsOf) (rd:=Rd P d) (cs:=cs) (fs:=fs.toList) (o:=0) (by rw[cz];exact hp.1) λf tT=>by
    obtain⟨i,hi⟩:=fQ tT;have ou:fs[i]?=some f:=by simpa using hi
    have og:i<xs.length:=by rw[Nj];exact(bd.1 ou).1
    have:=hf i f ou;rw[aW og]at this;exact yS d f.type n _ _ (iT.1 hp.2 f tT) this
   exact⟨us,by simp only[Rd,ht];exact hu,by simpa using hv⟩
  .rename_i n e ht
   rw[aA]at hp;obtain⟨xs,m,_,_,cz,Nj,hf⟩:=DataW.trod_array ht h;obtain⟨us,hu,hv⟩:=Ot (w:=w) (C:=P.cellsOf e) (rd:=Rd P d e) (cs:=cs) (n:=n) (i:=0) (λ_ _=>trivial) (by rw[cz,beq_true hp.1];simp) λj _ hj=>by
    have FY:j<n:=by omega
    have:=hf j FY;rw[aW (by omega)]at this;exact yS d e m _ _ hp.2 this
   exact⟨us,by simp only[Rd,ht];exact hu,by simpa using hv⟩
  .cases hp
def Nq(P:Program)(d:Nat)(t:TypeId)(u:AV):Prop:=
 match P.underlying t with
 |some (.struct _)=>∃us,u=.agg us/\Rd P d t us
 |some (.array _ _)=>∃us,u=.agg us/\Rd P d t us
 |_=>Rd P d t [u]
theorem XQ{r:Reach}{b0 d:Nat}{t:TypeId}{v:Value}{dd:DataW H}{p:List MemPlace}(hp:mW P d t=true)(hv:Value.okWide P w r b0 t v)(h:DataW.Trod pY P w base spare held t v dd p):
  ∃u,Nq P d t u/\VR w (λ_=>False) K0 u v:=by
 obtain⟨fuel,hf⟩:=h;obtain⟨us,hu,n9⟩:=yS d t fuel _ _ hp hf;have agg:∀cs,v=.agg cs->VR w (λ_=>False) K0 (.agg us) v:=by
  rintro cs rfl;have e:(Value.agg cs).cells.toList=cs.toList:=rfl;rw[e]at n9;refine .agg (by simpa using n9.1) (λj c hc=>n9.2.1 c (by simpa using rO hc)) λj u c hu hc=>n9.2.2 j u c hu (by simpa using hc)
 have single:∀c,v.cells.toList=[c] ->c=v->∃u,us=[u] /\VR w (λ_=>False) K0 u v:=by
  rintro c hc rfl;rw[hc]at n9
  match us,n9.1 with
  |[u],_=>exact⟨u,rfl,n9.2.2 0 u c rfl rfl⟩
 unfold Nq
 split
 .rename_i fs ht
  unfold Value.okWide at hv;rw[ht]at hv;obtain⟨cs,rfl,_⟩:=hv;exact⟨.agg us,⟨us,rfl,hu⟩,agg cs rfl⟩
 .rename_i n e ht
  unfold Value.okWide at hv;rw[ht]at hv;obtain⟨cs,rfl,_⟩:=hv;exact⟨.agg us,⟨us,rfl,hu⟩,agg cs rfl⟩
 .rename_i h1 h2
  cases d with
  |zero=>simp[mW]at hp
  |succ d=>
   unfold mW at hp
   split at hp
   .rename_i ht
    obtain⟨b,rfl⟩:=okWide_bool ht hv;obtain⟨u,rfl,iG⟩:=single _ rfl rfl;exact⟨u,hu,iG⟩
   .rename_i k ht
    obtain⟨b,rfl⟩:=okWide_int ht hv;obtain⟨u,rfl,iG⟩:=single _ rfl rfl;exact⟨u,hu,iG⟩
   .rename_i ht
    obtain⟨b,rfl⟩:=okWide_string ht hv;obtain⟨u,rfl,iG⟩:=single _ rfl rfl;exact⟨u,hu,iG⟩
   .rename_i e ht
    obtain⟨a,l,c,rfl⟩:=okWide_slice ht hv;obtain⟨u,rfl,iG⟩:=single _ rfl rfl;exact⟨u,hu,iG⟩
   .rename_i fs ht;exact absurd ht (h1 fs)
   .rename_i n e ht;exact absurd ht (h2 n e)
   .cases hp
end
end Go.an
namespace Go.an
open Go.RowKit Go.ChangeShapes Go.WideShapes Go.ChangeAt
def Ma(P:Program)(d:Nat):List TypeId->List AV->Prop
 |[],[]=>True
 |t::ts,u::us=>Nq P d t u/\Ma P d ts us
 |_,_=>False
section
variable{H:Type} {pY:TypeId×Value->H} {P:Program} {w:World} {base:Nat} {spare:Nat->Bool} {held:Bool}
theorem Ke{d b0:Nat}:∀{ts:List TypeId}{vs:List Value}{ds:List (DataW H)}{p:List MemPlace},(ts.all λt=>mW P d t)=true->
  (∀(j:Nat) t v,ts[j]?=some t->vs[j]?=some v->Value.okWide P w .any b0 t v)->DataW.TrodAll pY P w base spare held ts vs ds p->
  ∃us,Ma P d ts us/\us.length=vs.length/\∀(j:Nat) u c,us[j]?=some u->vs[j]?=some c->VR w (λ_=>False) K0 u c
 |[],vs,ds,p,_,_,h=>by
  obtain⟨rfl,_,_⟩:=trodAll_nil h;exact⟨[],trivial,rfl,by simp⟩
 |t::ts,vs,ds,p,hp,hv,h=>by
  obtain⟨v,RD,d',ds',p',q,rfl,rfl,rfl,h1,h2⟩:=trodAll_cons h;simp only[rX,aA]at hp;obtain⟨u,hu,hr⟩:=XQ hp.1 (hv 0 t v rfl rfl) h1;obtain⟨us,zP,hl,H4⟩:=Ke hp.2 (λj t' v' ht nv=>hv (j+1) t' v' (by simpa using ht) (by simpa using nv)) h2;refine⟨u::us,⟨hu,zP⟩,by simp[hl],λj u' c iG hc=>?_⟩
  cases j with
  |zero=>simp at iG hc;subst iG hc;exact hr
  |succ j=>exact H4 j u' c (by simpa using iG) (by simpa using hc)
theorem th{W W':World}(hl:laidOutB P=true)(hb:Below W.heap.size W W'):∀{ts:List TypeId}{vs:List Value}{ds:List (DataW H)}{p:List MemPlace},(ts.all λt=>P.readableRec t&&decide (t<P.types.size))=true->
  DataW.TrodAll pY P W 0 (λ_=>true) true ts vs ds p->DataW.TrodAll pY P W' 0 (λb=>decide (b<W.heap.size)) true ts vs ds p
 |[],vs,ds,p,_,h=>by
  obtain⟨rfl,rfl,rfl⟩:=trodAll_nil h;exact trodAll_mk0
 |t::ts,vs,ds,p,hp,h=>by
  obtain⟨v,RD,d',ds',p',q,rfl,rfl,rfl,h1,h2⟩:=trodAll_cons h;simp only[rX,aA,zp]at hp;have lt:∀x∈p',x.block<W.heap.size:=by
   obtain⟨m,hm⟩:=h1;exact DataW.trod_lt m _ _ _ hm
  exact trodAll_cons_mk (Below.trod hl hp.1.1 hp.1.2 h1 hb lt) (th hl hb (by simpa using hp.2) h2)
theorem xQ:∀{ts:List TypeId}{vs:List Value}{ds:List (DataW H)}{p:List MemPlace},DataW.TrodAll pY P w base spare held ts vs ds p->ds.length=ts.length/\vs.length=ts.length
 |[],vs,ds,p,h=>by obtain⟨rfl,rfl,_⟩:=trodAll_nil h;exact⟨rfl,rfl⟩
 |t::ts,vs,ds,p,h=>by
  obtain⟨v,RD,d',ds',p',q,rfl,rfl,rfl,h1,h2⟩:=trodAll_cons h;have:=xQ h2;simp[this]
end
end Go.an
namespace Go.an
theorem vA{us:List AV}(h:gV [] us=true):us=[]:=by cases us<;>simp[gV]at h⊢
theorem kp{k:IntKind}{cs:List CK}{us:List AV}(h:gV (.i k::cs) us=true):∃n dj,us=.int k n::dj/\gV cs dj=true:=by
 cases us with
 |nil=>simp[gV]at h
 |cons u us=>
  simp only[gV,aA]at h;obtain⟨h1,h2⟩:=h
  cases u<;>simp[CK.fits]at h1
  have:=pr h1;subst this;exact⟨_,_,rfl,h2⟩
theorem Ou{cs:List CK}{us:List AV}(h:gV (.s::cs) us=true):∃n dj,us=.str n::dj/\gV cs dj=true:=by
 cases us with
 |nil=>simp[gV]at h
 |cons u us=>
  simp only[gV,aA]at h;obtain⟨h1,h2⟩:=h
  cases u<;>simp[CK.fits]at h1
  exact⟨_,_,rfl,h2⟩
end Go.an
namespace Go.an
open Go.RowKit
theorem eu{P:Program}{f:FuncId}{sz:Nat}{us:List AV}{r:AV}(h1:Fn P f (.ai::us) r)(h2:Fn P f (.nU::us) r):Fn P f (.aL sz 0 []::us) r:=by
 refine⟨h1.1,λX w vs hw hl hv=>?_⟩;have h0:0<vs.size:=by rw[<-hl];simp
 have F4:vs[0]?=some vs[0]:=by simp[h0]
 obtain⟨A,cap,e1,hn,_,_,hA,_⟩:=VR.pq (hv 0 _ _ rfl F4)
 cases A with
 |none=>
  have:=hA rfl;subst this;refine h1.2 X w vs hw (by simpa using hl) λj u c hu hc=>?_
  cases j with
  |zero=>simp at hu;subst hu;rw[F4]at hc;injection hc with hc;subst hc;rw[e1];exact .ai
  |succ j=>exact hv (j+1) u c (by simpa using hu) hc
 |some A=>
  refine h2.2 X w vs hw (by simpa using hl) λj u c hu hc=>?_
  cases j with
  |zero=>simp at hu;subst hu;rw[F4]at hc;injection hc with hc;subst hc;rw[e1];exact .nU
  |succ j=>exact hv (j+1) u c (by simpa using hu) hc
theorem ah{x:Int}(h1: -9223372036854775808<=x:=by omega)(h2:x<=9223372036854775807:=by omega):IntKind.i64.wrap x=x:=by
 rw[IntKind.wrap_i64];omega
theorem Wk.nil{c:aM}(t b:Nat)(ae:ak)(ht:lk c.fr t=.ai)(hf:eP b c=true)(hr:ae.aa=[]):Wk c ⟨(t,.bn b ae.sz 0)::c.fr,di b ae c.O⟩:=by
 rintro E a w ⟨K,h⟩;obtain⟨h1,h2,h3⟩:=jq hf;have h':=h.oI (ae:=ae) (fD hf) h2 (λi x hi _ hk=>h3 i x hi hk) hr;refine⟨_,h'.size,h'.defers,h'.ext,λs=>?_,h'.aa,h'.own,h'.inj,h'.fI,h'.gK⟩;rw[gC]
 split
 .rename_i e
  subst e;have hv:=h.fr t;rw[ht]at hv;have:a.tmps.getD t undef=.slice none 0 0:=VR.fC hv;rw[this];exact VR.fE (dF _ _ _)
 .exact h'.fr s
theorem Wk.vB{c:aM}(t b:Nat)(ae:ak)(ks ids:List Nat)(ht:lk c.fr t=.ai)(hf:eP b c=true)(hr:ae.aa=[]):Wk c (aM.only ⟨(t,.bn b ae.sz 0)::c.fr,di b ae c.O⟩ ks ids):=
 (Wk.nil t b ae ht hf hr).trans (Wk.ad ks ids)
theorem aq{α:Type}{l:List α}{i:Nat}(h:i<l.length):∃a,l[i]?=some a/\l.drop i=a::l.drop (i+1)/\l.take (i+1)=l.take i++[a]:=
 ⟨l[i],by simp[h],List.drop_eq_getElem_cons h,by simp⟩
theorem get_map{α β:Type}{f:α->β}{l:List α}{i:Nat}{a:α}(h:l[i]?=some a):(l.map f)[i]?=some (f a):=by simp[h]
theorem get_map'{α β:Type}{f:α->β}{l:List α}{i:Nat}{j:Int}{a:α}(h:l[i]?=some a)(hj:j=i):(l.map f)[j.toNat]?=some (f a):=by subst hj;simp[h]
def aQ{α:Type}(p:α->Bool):Nat->List α->Int
 |_,[]=> -1
 |k,a::r=>if p a=true then k else aQ p (k+1) r
theorem dH{α:Type}(p:α->Bool):∀(l:List α)(k:Nat),(aQ p k l= -1/\∀a∈l,p a=false)∨∃(i:Nat)(a:α),l[i]?=some a/\p a=true/\aQ p k l=(k+i:Nat)/\∀(j:Nat) b,j<i->l[j]?=some b->p b=false
 |[],k=>.inl ⟨rfl,by simp⟩
 |a::r,k=>by
  simp only[aQ]
  split
  .rename_i h
   exact .inr ⟨0,a,by simp,h,by simp,by omega⟩
  .rename_i h
   rcases dH p r (k+1)with⟨h1,h2⟩|⟨i,b,h1,h2,h3,h4⟩
   .exact .inl ⟨h1,by simpa using⟨by simpa using h,h2⟩⟩
   .refine .inr ⟨i+1,b,by simpa using h1,h2,by rw[h3];congr 1;omega,λj c hj hc=>?_⟩
    cases j with
    |zero=>simp at hc;subst hc;simpa using h
    |succ j=>exact h4 j c (by omega) (by simpa using hc)
theorem fj{α:Type}(p:α->Bool)(l:List α):decide (aQ p 0 l>=0)=l.any p:=by
 rw[zq]
 rcases dH p l 0 with⟨h1,h2⟩|⟨i,a,h1,h2,h3,_⟩
 .rw[h1]
  simp only[zp,zm]
  constructor
  .intro h;omega
  .rintro⟨a,ha,hp⟩
   rw[h2 a ha]at hp;cases hp
 .rw[h3]
  simp only[zp,zm]
  constructor
  .intro _;exact⟨a,ay h1,h2⟩
  .intro _;omega
theorem AA{α:Type}{n:Nat}(xs ys:List α)(h:xs.length=n):xs.take n++ys=xs++ys:=by rw[ph (by omega)]
theorem Et{α β:Type}(f:α->β)(l:List α):(l.map f).take l.length=l.map f:=ph (by simp)
def i64(n:Int):Prop:= -9223372036854775808<=n/\n<=9223372036854775807
def XR(c:aM)(u r:AV):Prop:=
 match u with
 |.bn b sz n=>∃ae,aK c.O b=some ae/\ae.sz=sz/\n<=ae.aa.length/\ae.kd=.pure/\r=.dh true ae.e sz n (ae.aa.take n)
 |_=>False
def aa6(t:Nat)(r:AV):Ex->aM->Prop
 |.exit _,_=>False
 |_,c=>XR c (lk c.fr t) r
section
variable{P:Program} {N:Nat}
theorem IN{T:dD}{f:FuncId}{fn:Func}{code:Code}{e sz:Nat}{aa:List (List AV)}{args:List AV}{r:AV}{ks:List Nat}(t:Nat)(hT:br P T)(h1:bW T=true)(hm:P.follows .mixedOrders=true)
  (hf:P.funcs[f]?=some fn)(hb:fn.body=some code)(ek:(fn.name== "runtime.NumGoroutine")=false)(hd:cr code=true)(hn:Nat.ble (args.length+1) fn.ntmps=true)(hN:fn.ntmps=N)
  (hr:fn.results.toList=[.tmp t])(h:ev P T N ks code ⟨idx 0 (.bn 1 sz aa.length::args),[(1,⟨e,sz,.pure,aa,[]⟩)]⟩ (aa6 t r)):FnM P f e sz aa args r:=by
 refine⟨⟨fn,hf,ek,by rw[hb];rfl⟩,λX w v vs gz kS cz fU=>?_⟩;refine calls_of_wp hf hb ?_;have RC:=dn hn;subst hN;refine ko (E:=zI (λg=>kY v=some g) X w fn.ntmps (λw' hx=>kS w' ⟨hx.os,hx.tape,hx.output,hx.size,hx.block,hx.shape⟩)) hT h1 rfl hm code _ _ _ _ _ hd h (λex c a w' hq hs=>?_) ?_
 .obtain⟨K,hs⟩:=hs
  have key:XR c (lk c.fr t) r->a.defers=[] /\∃v1,(results fn a.tmps).run P w'=.ok v1 w'/\∃v',Ending.returned v1=.returned v'/\(∃p e' yJ n' gO,r=.dh p e' yJ n' gO/\n'=gO.length/\(∀row∈gO,row.length=yJ)/\((gO=[] /\v'=.slice none 0 0)∨
   ∃(g cap:Nat)(aJ:Array Value),v'=.slice (some ⟨g,0,none⟩) n' cap/\n'<=cap/\(w.heap.size<=g∨kY v=some g)/\w'.heap[g]?=some (.cells aJ e' (0,0))/\cap<=maxLen/\cap*yJ=aJ.size/\
    ∀(j:Nat) u,gO.flatten[j]?=some u->∃c,aJ[j]?=some c/\c.oneCell'=true/\VR w' (λ_=>True) K0 u c))/\NI (λg=>kY v=some g) w w':=by
   intro hq;unfold XR at hq
   split at hq
   .rename_i b yJ n' hu
    obtain⟨ae,Gc,qk,ny,fZ,rfl⟩:=hq;have Vc:=hs.fr t;rw[hu]at Vc;have cP:=hs.aa b ae Gc;have Cx:(ae.aa.take n').length=n':=by rw[aO];omega
    refine⟨hs.defers,a.tmps.getD t undef,?_,_,rfl,⟨true,ae.e,yJ,n',ae.aa.take n',rfl,Cx.symm,λrow jV=>by rw[<-qk];exact cP row (my jV),?_⟩,⟨hs.ext.os,hs.ext.tape,hs.ext.output,hs.ext.size,hs.ext.block,hs.ext.shape⟩⟩
    .exact gh hr _ _ (vs:=[a.tmps.getD t undef]) rfl λj x v2 hx Ay=>by
      cases j with
      |zero=>simp at hx Ay;subst hx Ay;simp[lr]
      |succ j=>simp at hx
    .rcases VR.c9 Vc with⟨hK,hz,e1⟩|⟨g,cap,aJ,e0,m,hK,nu,e1,hc,l4,LD,dL⟩
     .subst hz
      exact .inl ⟨by simp,e1⟩
     .rcases hs.own b ae Gc with⟨k1,_⟩|⟨g',k1,dw,fw,iG⟩
      .rw[hK]at k1;cases k1
      .have Fz:=hK
       rw[hK]at k1;injection k1 with k1;injection k1 with k1 k2;injection k1 with k1;subst k1
       replace fw:=fw.nX hc;rw[hc]at fw;injection fw with fw;injection fw with od yN;subst od yN
       refine .inr ⟨g,cap,aJ,e1,l4,?_,hc,LD,dL,λj u hj=>?_⟩
       .rcases hs.fI b g (by simp[Gc]) (aU Fz)with h|h
        .exact .inr h
        .exact .inl h
       .have tU:ae.aa.flatten[j]?=some u:=by
         have:ae.aa=ae.aa.take n'++ae.aa.drop n':=(rR _ _).symm;rw[this,lA,bM (aE.1 hj).1];exact hj
        obtain⟨y,hy,wJ,pV⟩:=iG j u tU;rw[fZ]at pV;exact⟨y,hy,wJ,pV⟩
   .exact hq.elim
  cases ex with
  |normal=>exact key hq
  |exit=>exact hq.elim
  |ret=>exact key hq
 .obtain⟨aD,Aa⟩:=gz
  obtain⟨K,hK0,hv,hX,gx⟩:∃K:KM,(∀b,b≠1->K b=none)/\(∀X',VR w X' K (.bn 1 sz aa.length) v)/\(∀g,aG K 1=some g->X g/\kY v=some g)/\
    ((K 1=some (none,0)/\aa=[])∨∃g,K 1=some (some g,aa.length)/\∀X',l8 w X' K g ⟨e,sz,.pure,aa,[]⟩):=by
   rcases Aa with⟨rfl,rfl⟩|⟨g,cap,aJ,rfl,l4,LD,dL,hc,hXg,lq⟩
   .refine⟨pU K0 1 (none,0),λb hb=>by rw[eQ _ _ hb];rfl,λ_=>.fE (dF _ _ _),λg hg=>?_,.inl ⟨dF _ _ _,rfl⟩⟩
    rw[lM]at hg;cases hg
   .refine⟨pU K0 1 (some g,aa.length),λb hb=>by rw[eQ _ _ hb];rfl,λ_=>.bn (dF _ _ _) (bG _) hc l4 LD dL,λg' hg=>?_,.inr ⟨g,dF _ _ _,λ_=>⟨aJ,hc,λj u hj=>lq j u hj⟩⟩⟩
    rw[iz]at hg;injection hg with hg;subst hg
    exact⟨hXg,rfl⟩
  have Nr:∀(hE:∀w',Ext (λg=>kY v=some g) w w'->WI w') g,XX (zI (λg=>kY v=some g) X w fn.ntmps hE) K [(1,⟨e,sz,.pure,aa,[]⟩)] g->X g:=by
   rintro hE g (⟨b,hb,hk⟩|hx)
   .have yw:b=1:=by
     rw[aZ]at hb
     by_cases e:1=b
     .exact e.symm
     .rw[if_neg e]at hb;simp[aK]at hb
    subst yw;exact(hX g hk).1
   .exact hx.1.1
  have dC:∀{b:Nat}{y:ak},aK [(1,(⟨e,sz,.pure,aa,[]⟩:ak))] b=some y->b=1/\y=⟨e,sz,.pure,aa,[]⟩:=by
   intro b y hb;rw[aZ]at hb
   by_cases e:1=b
   .rw[if_pos e]at hb;injection hb with hb;exact⟨e.symm,hb.symm⟩
   .rw[if_neg e]at hb;simp[aK]at hb
  have dB:∀{b:Nat},(aK [(1,(⟨e,sz,.pure,aa,[]⟩:ak))] b).isSome=true->b=1:=by
   intro b hb;obtain⟨y,hy⟩:=bF.1 hb;exact(dC hy).1
  refine⟨K,by simp;omega,rfl,⟨rfl,rfl,rfl,bG _,λ_ _ _=>rfl,λ_ aJ _ h=>⟨aJ,h,rfl⟩⟩,λs=>?_,λb y hb=>?_,λb y hb=>?_,λb b' g h1 h2 _ _=>by rw[dB h1,dB h2],λb g h1 h2=>?_,λb x hx=>by cases hx⟩
  .simp only[uc,cF,yH,lz]
   cases s with
   |zero=>
    have e0:((#[v]++vs)++Array.replicate (fn.ntmps-(#[v]++vs).size) undef).getD 0 undef=v:=by
     rw[dI,D1 (by simp;omega),D1 (by simp)];rfl
    rw[e0];exact FV.of (hv _)
   |succ s=>
    simp only[List.getD_cons_succ]
    cases hu:args[s]? with
    |none=>rw[lJ,hu];exact FV.top
    |some u=>
     rw[lJ,hu];have hs:s<vs.size:=by rw[<-cz];exact(aE.1 hu).1
     have n9:vs[s]?=some vs[s]:=by simp[hs]
     have:=fU s u _ hu n9;rw[show((#[v]++vs)++Array.replicate (fn.ntmps-(#[v]++vs).size) undef).getD (s+1) undef=vs[s]by
      rw[dI,D1 (by simp;omega),lC (by simp)];simp[hs]]
     exact FV.of ((this.sub λg _ hg=>Nr _ g hg).any K)
  .obtain⟨rfl,rfl⟩:=dC hb
   exact aD
  .obtain⟨rfl,rfl⟩:=dC hb
   rcases gx with⟨k1,k2⟩|⟨g,k1,k2⟩
   .exact .inl ⟨k1,k2⟩
   .exact .inr ⟨g,k1,k2 _⟩
  .have:=dB h1
   subst this;exact .inl (hX g h2).2
set_option maxHeartbeats 400000 in
end
theorem yT:∀(V Tl:List (Nat×ak))(b:Nat),aK (V++Tl) b=(aK V b).or (aK Tl b)
 |[],Tl,b=>by simp[aK]
 |(i,x)::V,Tl,b=>by
  rw[nB,aZ,aZ,yT V Tl b]
  split<;>simp
theorem mI{V Tl:List (Nat×ak)}{b:Nat}{x:ak}(h:aK V b=some x):aK (V++Tl) b=some x:=by rw[yT,h];rfl
theorem Mb{V Tl:List (Nat×ak)}{b:Nat}(h:aK V b=none):aK (V++Tl) b=aK Tl b:=by rw[yT,h];simp
theorem lU{V Tl:List (Nat×ak)}{b:Nat}{x:ak}(h:aK (V++Tl) b=some x):aK V b=some x∨(aK V b=none/\aK Tl b=some x):=by
 rw[yT]at h
 cases hV:aK V b with
 |some y=>rw[hV]at h;left;simpa using h
 |none=>rw[hV]at h;right;exact⟨rfl,by simpa using h⟩
def aa7(V Tl:List (Nat×ak)):Prop:=∀b x,aK Tl b=some x->aK V b=none
theorem aa7.nil(V:List (Nat×ak)):aa7 V []:=λb x h=>by simp[aK]at h
structure Left(K:KM)(V:List (Nat×ak))(w:World)(K':KM)(w':World):Prop where
 size:w.heap.size<=w'.heap.size
 block:∀g,g<w.heap.size->¬bH K V g->w'.heap[g]?=w.heap[g]?
 gK:∀b x,Nat.ble 2 (b %16)=true->K b=some x->K' b=some x
 shape:∀(g:Nat)(aJ:Array Value)(e:TypeId),w.heap[g]?=some (Obj.cells aJ e (0,0))->∃dw:Array Value,w'.heap[g]?=some (Obj.cells dw e (0,0))/\dw.size=aJ.size
section
variable{P:Program} {T:dD} {E:Env} {N:Nat} {ks:List Nat} {K:KM} {fr:List (Nat×AV)} {V Tl:List (Nat×ak)} {a:Act} {w:World}
theorem pH{aB:Array Oper}{dr:Bool}{dm:List (Nat×Bool)}(hT:br P T)(h1:bW T=true)(hN:E.N=N){Kk:aM->Prop}{Q:Exit->Act->World->Prop}{is:List Nat}(hQ:∀c a w,Kk c->SR E c a w->wpOps P aB Q is a w):
  ∀(l:List Oper)(A:Acc)(i:Nat)(c:aM)(a:Act)(w:World),(∀j,j<l.length->l[j]?=aB[i+j]?)->cZ dr P T N dm aB A i l c Kk->SR E c a w->wpOps P aB Q (List.range' i l.length++is) a w
 |[],A,i,c,a,w,_,h,hs=>hQ c a w h hs
 |o::rest,A,i,c,a,w,hl,h,hs=>by
  obtain⟨r,cY,_,oQ⟩:=mS h;have ho:aB[i]?=some o:=by have:=hl 0 (by simp);simpa using this.symm
  rw[bB,rY,nB,wpOps_cons];refine wpOp_mono (λa' w' eh=>?_) (pG hT h1 hN ho cY hs);exact pH hT h1 hN hQ rest _ (i+1) _ a' w' (λj hj=>by have:=hl (j+1) (by simp;omega);rw[rP]at this;rw[this];congr 1;omega) oQ eh
end
section
variable{P:Program} {T:dD} {E:Env} {N:Nat} {K:KM} {c:aM} {a:Act} {w:World} {aB:Array Oper} {o:Oper} {Q:Exit->Act->World->Prop} {K':Act->World->Prop}
theorem jG{i:Nat}{v:Value}{w':World}(ho:aB[i]?=some o)(hw:Region.wanted o (yielded aB a.tmps)=true)(Ck:(execOp a.eval o).run P w=.ok (.value v) w')(hk:K' (a.put o.dst v) w'):wpOp P aB Q i K' a w:=by
 unfold wpOp;rw[ho];simp only;rw[if_pos hw]
 left
 unfold Oper.wp;rw[Ck];exact hk
theorem Mc{i:Nat}{w':World}(ho:aB[i]?=some o)(hw:Region.wanted o (yielded aB a.tmps)=true)(Ck:(execOp a.eval o).run P w=.ok .skip w')(hk:K' (a.put o.dst undef) w'):wpOp P aB Q i K' a w:=by
 unfold wpOp;rw[ho];simp only;rw[if_pos hw]
 left
 unfold Oper.wp;rw[Ck];exact hk
end
section
variable{P:Program} {T:dD} {N:Nat} {ks:List Nat}
end
theorem bC.freeze{E:Env}{K:KM}{c:aM}{a:Act}{w:World}(hs:bC E K c a w){b n:Nat}{ae:ak}{v:Value}(hb:aK c.O b=some ae)(fZ:ae.kd=.pure)(hv:VR w (XX E K c.O) K (.bn b ae.sz n) v):
  VR w (XX E K (iC b c.O)) K0 (.aL ae.sz n (ae.aa.take n)) v:=by
 have iZ:dA (aK c.O) ae.sz (.bn b ae.sz n)=some (n,ae.aa.take n,ae.kd):=by
  simp only[dA,hb];rw[show Nat.beq ae.sz ae.sz=true from dz _]
 obtain⟨hl,hu,A,cp,cg,e0,ny,cH,dC,CG⟩:=ig hs iZ hv;have dM:cg.length=(ae.aa.take n).flatten.length:=by rw[ny,bD hu,<-hl]
 have ann:∀(j:Nat) u x,(ae.aa.take n).flatten[j]?=some u->cg[j]?=some x->VR w (XX E K (iC b c.O)) K0 u x:=by
  intro j u x hj hx;have:=CG j u x hj hx;rw[fZ]at this;exact this.sub λ_ _ _=>trivial
 rcases VR.c9 hv with⟨hK,hz,e1⟩|⟨g,cap,aJ,e',mm,hK,nu,e1,hc,l4,hm,dL⟩
 .subst hz e1
  exact .aL (cs:=[]) (by simp) (by simp) (bG _) (λ_=>rfl) (by simp) (by simp) (by simp) (by simp)
 .rw[e1]at e0
  injection e0 with e2 e3 e4
  subst e1;refine .aL hl hu l4 (λh=>by cases h) dM dC (λdW=>?_) ann;have gW:0<n:=by
   rcases mq n with h|h
   .subst h;simp at dW
   .exact h
  obtain⟨g',o',e5,fw⟩:=cH gW;rw[<-e2]at e5;injection e5 with e5;injection e5 with e5 e6;subst e5 e6
  refine⟨g,0,rfl,(bd.1 hc).1,?_,fw⟩;rintro(⟨i,hi,hk⟩|⟨Oa,N3⟩)
  .have dW:b≠i:=by
    rintro rfl;rw[kf,if_pos rfl]at hi;cases hi
   rw[kf,if_neg dW]at hi;exact dW (hs.inj b i g (by simp[hb]) hi (aU hK) hk)
  .rcases hs.fI b g (by simp[hb]) (aU hK)with h|h
   .exact E.Fw g Oa h
   .omega
theorem bC.del{E:Env}{K:KM}{c:aM}{a:Act}{w:World}(hs:bC E K c a w)(b:Nat):bC E K ⟨c.fr,iC b c.O⟩ a w:=
 hs.uS (λt=>.inl rfl) λi x hi=>by
  simp only[kf]at hi
  split at hi
  .cases hi
  .exact hi
theorem Wk.freeze{c:aM}(t b n:Nat)(ae:ak)(ht:lk c.fr t=.bn b ae.sz n)(hb:aK c.O b=some ae)(hk:ae.kd=.pure):Wk c ⟨(t,.aL ae.sz n (ae.aa.take n))::c.fr,iC b c.O⟩:=by
 rintro E a w ⟨K,h⟩;have h':=h.del b;refine⟨K,h'.size,h'.defers,h'.ext,λs=>?_,h'.aa,h'.own,h'.inj,h'.fI,h'.gK⟩
 show FV w _ K _ (lk ((t,_)::c.fr) s) _
 rw[gC]
 split
 .rename_i e
  subst e;have hv:=h.fr t;rw[ht]at hv;exact(h.freeze hb hk hv).any K
 .exact h'.fr s
def RE(j:Nat):Nat:=16*j+15
section
variable{E:Env} {K:KM} {c:aM} {a:Act} {w:World} {fr:List (Nat×AV)} {V:List (Nat×ak)}
end
section
variable{P:Program} {N:Nat}
def Ov(T:dD)(rv:List ResultVar)(r:AV)(E:Env):Exit->Act->World->Prop:=λe a w=>(e=.normal∨e=.ret)/\∃K c,bC E K c a w/\IM T c rv r
theorem wT{T:dD}{f:FuncId}{fn:Func}{code:Code}{args:List AV}{r:AV}(rv:List ResultVar)(hT:br P T)
  (hf:P.funcs[f]?=some fn)(hb:fn.body=some code)(ek:(fn.name== "runtime.NumGoroutine")=false)(hn:Nat.ble args.length fn.ntmps=true)(hN:fn.ntmps=N)
  (hr:fn.results.toList=rv)(h:∀(E:Env)(K:KM)(a:Act)(w:World),E.N=N->(∀b,E.gK b=none)->bC E K ⟨idx 0 args,[]⟩ a w->code.wp P (Ov T rv r E) a w):Fn P f args r:=by
 refine⟨⟨fn,hf,ek,by rw[hb];rfl⟩,λX w vs kS cz fU=>?_⟩;refine calls_of_wp hf hb ?_;have RC:=dn hn;subst hN;refine wp_mono (h (zI (λ_=>False) X w fn.ntmps (λw' hx=>kS.mono hx.size λg hg=>hx.block g hg id)) K0 _ _ rfl (λ_=>rfl) ?_) ?_
 .refine⟨by simp;omega,rfl,⟨rfl,rfl,rfl,bG _,λ_ _ _=>rfl,λ_ aJ _ h=>⟨aJ,h,rfl⟩⟩,λt=>?_,λb ae hb=>by simp[aK]at hb,λb ae hb=>by simp[aK]at hb,λb b' g hb=>by simp[aK]at hb,λb g hb=>by simp[aK]at hb,λb x hx=>by cases hx⟩
  simp only[uc,cF,yH,lz]
  cases hu:args[t]? with
  |none=>rw[lJ,hu];exact FV.top
  |some u=>
   rw[lJ,hu];have ht:t<vs.size:=by rw[<-cz];exact(aE.1 hu).1
   have hv:vs[t]?=some vs[t]:=by simp[ht]
   have:=fU t u _ hu hv;rw[show(vs++Array.replicate (fn.ntmps-vs.size) undef).getD t undef=vs[t]by
    rw[dI,D1 ht,hv];rfl]
   refine FV.of (this.sub λg hg hX=>?_)
   rcases hX with⟨b,hb,_⟩|hX
   .simp[aK]at hb
   .exact hX.1.1
 .rintro e a w' ⟨he,K,c,hs,hq⟩
  have key:a.defers=[] /\∃v,(results fn a.tmps).run P w'=.ok v w'/\∃v',Ending.returned v=.returned v'/\RR w' w.heap.size (λg=>X g/\g<w.heap.size) r v'/\Below w.heap.size w w':=by
   obtain⟨vs,hl,ht,hR⟩:=ud hT hs hq;refine⟨hs.defers,_,gh hr _ _ hl ht,_,rfl,hR,?_⟩;exact⟨hs.ext.os,hs.ext.tape,hs.ext.output,hs.ext.size,λk hk=>hs.ext.block k hk (λh=>h)⟩
  rcases he with rfl|rfl
  .exact key
  .exact key
end
theorem bC.only{E:Env}{K:KM}{c:aM}{a:Act}{w:World}(h:bC E K c a w)(ks ids:List Nat):bC E K (c.only ks ids) a w:=
 h.uS (λt=>yK c.fr ks t) λb x hb=>qM c.O ids b x hb
end Go.an
namespace Go.an
open Go.RowKit
def nf(b:Nat):Bool:= !(Nat.beq (b %16) 15)
mutual
def AV.noF:AV->Bool
 |.bn b _ _=>nf b
 |.dP b _ _ _=>nf b
 |.dq b _ _ _=>nf b
 |.af b _=>nf b
 |.dX b=>nf b
 |.agg xs=>AV.Md xs
 |.bY xs=>AV.Md xs
 |.func _ xs=>AV.Md xs
 |.opt _ _ v=>AV.noF v
 |_=>true
def AV.Md:List AV->Bool
 |[]=>true
 |u::us=>AV.noF u&&AV.Md us
end
theorem AD{b j:Nat}(h:nf b=true):(b==RE j)=false:=by
 simp only[nf,zr]at h;have:=beq_false h;simp only[beq_eq_false_iff_ne];rintro rfl;exact this (by unfold RE;omega)
mutual
theorem Kg(j:Nat):∀u:AV,u.noF=true->u.has (RE j)=false
 |.bn b _ _,h=>AD h
 |.dP b _ _ _,h=>AD h
 |.dq b _ _ _,h=>AD h
 |.af b _,h=>AD h
 |.dX b,h=>AD h
 |.agg xs,h=>vC j xs h
 |.bY xs,h=>vC j xs h
 |.func _ xs,h=>vC j xs h
 |.opt _ _ v,h=>Kg j v h
 |.top,_=>rfl
 |.bool _,_=>rfl
 |.int _ _,_=>rfl
 |.str _,_=>rfl
 |.ai,_=>rfl
 |.fc,_=>rfl
 |.nU,_=>rfl
 |.o9,_=>rfl
 |.lit _,_=>rfl
 |.aL _ _ _,_=>rfl
 |.aw _ _,_=>rfl
 |.iB _ _ _ _,_=>rfl
 |.xx,_=>rfl
 |.dh _ _ _ _ _,_=>rfl
theorem vC(j:Nat):∀xs:List AV,AV.Md xs=true->AV.cN (RE j) xs=false
 |[],_=>rfl
 |x::xs,h=>by
  simp only[AV.Md,aA]at h;simp only[AV.cN,Kg j x h.1,vC j xs h.2,Bool.or_self]
end
end Go.an
namespace Go.an
end Go.an
namespace Go.an
open Go.RowKit
section
variable{E:Env} {K:KM} {a:Act} {w:World} {fr:List (Nat×AV)} {V:List (Nat×ak)} {e sz eo o:Nat} {us:List Value} {T:List (List (List AV))}
end
end Go.an
namespace Go.an
end Go.an
namespace Go.an
end Go.an
namespace Go.an
open Go.RowKit
section
variable{E:Env} {K:KM} {c:aM} {a:Act} {w:World} {fr:List (Nat×AV)} {V:List (Nat×ak)} {e sz eo o:Nat} {us:List Value} {T:List (List (List AV))}
end
end Go.an
namespace Go.an
open Go.RowKit
section
variable{E:Env} {K:KM} {c:aM} {a:Act} {w:World} {fr:List (Nat×AV)} {V:List (Nat×ak)}
theorem bC.SL{b:Nat}{ae BW:ak}(h:bC E K c a w)(hb:aK c.O b=some BW)(hr:ae.aa=BW.aa)(bJ:ae.sz=BW.sz)
  (gx:∀g,l8 w (XX E K c.O) K g BW->l8 w (XX E K c.O) K g ae):bC E K ⟨c.fr,di b ae c.O⟩ a w:=by
 have dB:∀i,(aK (di b ae c.O) i).isSome=true->(aK c.O i).isSome=true:=by
  intro i hi;rw[ba]at hi
  split at hi
  .rename_i e;subst e;rw[hb];rfl
  .exact hi
 have hX:∀r,XX E K (di b ae c.O) r->XX E K c.O r:=by
  rintro r (⟨i,hi,hk⟩|hx)
  .exact .inl ⟨i,dB i hi,hk⟩
  .exact .inr hx
 refine⟨h.size,h.defers,h.ext,λt=>(h.fr t).sub (λg _=>hX g),λi x hi=>?_,λi x hi=>?_,λi i' r h1 h2=>h.inj i i' r (dB i h1) (dB i' h2),λi r h1=>h.fI i r (dB i h1),h.gK⟩
 .simp only[ba]at hi
  split at hi
  .injection hi with hi;subst hi
   rw[hr,bJ];exact h.aa b BW hb
  .exact h.aa i x hi
 .simp only[ba]at hi
  split at hi
  .rename_i e;subst e
   injection hi with hi;subst hi
   rcases h.own b BW hb with⟨h1,h2⟩|⟨g,h1,h2⟩
   .exact .inl ⟨h1,by rw[hr];exact h2⟩
   .exact .inr ⟨g,by rw[hr];exact h1,(gx g h2).ad rfl (dv.refl _ _) (λg _=>hX g) (λ_ _ _ _ _ _=>rfl)⟩
  .rcases h.own i x hi with h1|⟨g,h1,h2⟩
   .exact .inl h1
   .exact .inr ⟨g,h1,h2.ad rfl (dv.refl _ _) (λg _=>hX g) (λ_ _ _ _ _ _=>rfl)⟩
end
end Go.an
namespace Go.an
end Go.an
