import Derived.Test.YtpfmbblnhjpclaaGreatDoorJ14
set_option linter.unusedVariables false
set_option linter.unusedSimpArgs false
namespace Go.an
open Go.RowKit
section
variable{P:Program} {N:Nat}
theorem bC.aa8{E:Env}{K K':KM}{fr:List (Nat×AV)}{O O':List (Nat×ak)}{a:Act}{w w':World}{pins:List Nat}(h:bC E K ⟨fr,O⟩ a w)
  (hK:∀b,bm b pins=true->K' b=K b)(gz:yq w' (λg=>bH K' O' g∨(E.XF g/\g<E.w0.heap.size)) K' O')(hl:∀g,bH K' O' g->bH K O g∨w.heap.size<=g)(hx:Ext (bH K O) w w')
  (jF:∀t b,(lk fr t).has b=true->bm b pins=true)(yv:∀b,bm b pins=false->E.gK b=none):bC E K' ⟨fr,O'⟩ a w':=by
 have Vh:∀g,bH K O g->E.X0 g∨E.w0.heap.size<=g:=λg ⟨b,hb,hk⟩=>h.fI b g hb hk
 have hX:∀g,g<w.heap.size->XX E K' O' g->XX E K O g:=by
  rintro g hg (hL|hL)
  .rcases hl g hL with h1|h1
   .exact .inl h1
   .omega
  .exact .inr hL
 have dR:dv (XX E K O) w w':=⟨hx.size,λg hg hn=>hx.block g hg λhL=>hn (.inl hL),hx.shape⟩;refine⟨h.size,h.defers,⟨hx.os.trans h.ext.os,hx.tape.trans h.ext.tape,hx.output.trans h.ext.output,du h.ext.size hx.size,λg hg hX=>?_,λg aJ e hc=>?_⟩,λt=>(h.fr t).ad dR hX λb hb=>hK b (jF t b hb),gz.aa,gz.own,gz.inj,λb g h1 k1=>?_,λb x hb=>?_⟩
 .rw[hx.block g (ew hg h.ext.size) λhL=>?_]
  .exact h.ext.block g hg hX
  .rcases Vh g hL with h1|h1
   .exact hX h1
   .omega
 .obtain⟨c1,h1,s1⟩:=h.ext.shape g aJ e hc
  obtain⟨c2,h2,s2⟩:=hx.shape g c1 e h1;exact⟨c2,h2,s2.trans s1⟩
 .rcases hl g ⟨b,h1,k1⟩with h2|h2
  .exact Vh g h2
  .exact .inr (du h.ext.size h2)
 .have hm:bm b pins=true:=by
   cases hq:bm b pins with
   |true=>rfl
   |false=>rw[yv b hq]at hb;cases hb
  rw[hK b hm];exact h.gK b x hb
end
end Go.an
namespace Go.an
mutual
def AV.inP(ps:List Nat):AV->Bool
 |.bn b _ _=>bm b ps
 |.dP b _ _ _=>bm b ps
 |.dq b _ _ _=>bm b ps
 |.af b _=>bm b ps
 |.dX b=>bm b ps
 |.agg xs=>AV.GF ps xs
 |.bY xs=>AV.GF ps xs
 |.func _ xs=>AV.GF ps xs
 |.opt _ _ v=>AV.inP ps v
 |_=>true
def AV.GF(ps:List Nat):List AV->Bool
 |[]=>true
 |u::us=>AV.inP ps u&&AV.GF ps us
end
mutual
theorem Eu{ps:List Nat}{b:Nat}:∀u:AV,u.inP ps=true->u.has b=true->bm b ps=true
 |.bn b' _ _,h,hb=>by simp only[AV.has,lK]at hb;subst hb;exact h
 |.dP b' _ _ _,h,hb=>by simp only[AV.has,lK]at hb;subst hb;exact h
 |.dq b' _ _ _,h,hb=>by simp only[AV.has,lK]at hb;subst hb;exact h
 |.af b' _,h,hb=>by simp only[AV.has,lK]at hb;subst hb;exact h
 |.dX b',h,hb=>by simp only[AV.has,lK]at hb;subst hb;exact h
 |.agg xs,h,hb=>oV xs h hb
 |.bY xs,h,hb=>oV xs h hb
 |.func _ xs,h,hb=>oV xs h hb
 |.opt _ _ v,h,hb=>Eu v h hb
 |.top,_,hb=>by cases hb
 |.bool _,_,hb=>by cases hb
 |.int _ _,_,hb=>by cases hb
 |.str _,_,hb=>by cases hb
 |.ai,_,hb=>by cases hb
 |.fc,_,hb=>by cases hb
 |.nU,_,hb=>by cases hb
 |.o9,_,hb=>by cases hb
 |.lit _,_,hb=>by cases hb
 |.aL _ _ _,_,hb=>by cases hb
 |.aw _ _,_,hb=>by cases hb
 |.iB _ _ _ _,_,hb=>by cases hb
 |.xx,_,hb=>by cases hb
 |.dh _ _ _ _ _,_,hb=>by cases hb
theorem oV{ps:List Nat}{b:Nat}:∀xs:List AV,AV.GF ps xs=true->AV.cN b xs=true->bm b ps=true
 |[],_,hb=>by cases hb
 |x::xs,h,hb=>by
  simp only[AV.GF,aA]at h;simp only[AV.cN,pj]at hb
  rcases hb with hb|hb
  .exact Eu x h.1 hb
  .exact oV xs h.2 hb
end
def IP(ps:List Nat):List (Nat×AV)->Bool
 |[]=>true
 |(_,v)::r=>v.inP ps&&IP ps r
theorem Ew{ps:List Nat}:∀{fr:List (Nat×AV)},IP ps fr=true->∀t b,(lk fr t).has b=true->bm b ps=true
 |[],_,t,b,h=>by simp[lk,AV.has]at h
 |(s,v)::r,hf,t,b,h=>by
  simp only[IP,aA]at hf;rw[gC]at h
  split at h
  .exact Eu v hf.1 h
  .exact Ew hf.2 t b h
def pI:List AV->Bool
 |[]=>true
 |u::us=>ir u&&pI us
theorem mX:∀{us:List AV},pI us=true->∀u∈us,∀d bf u',u≠.opt d bf u'
 |x::xs,h,u,hu,d,bf,u',e=>by
  simp only[pI,aA]at h
  rcases bK.1 hu with rfl|hu
  .subst e;cases h.1
  .exact mX h.2 u hu d bf u' e
end Go.an
namespace Go.an
theorem dS{aB:Array Oper}{o:Oper}{tm:Array Value}(hg:o.guard=none):Region.wanted o (yielded aB tm)=true:=by
 simp[Region.wanted,hg]
end Go.an
namespace Go.an
end Go.an
namespace Go.an
open Go.RowKit
section
variable{P:Program} {T:dD} {E:Env} {c c':aM} {a:Act} {w:World} {o:Oper} {r:iS} {aB:Array Oper} {dm:List (Nat×Bool)} {N:Nat} {dr:Bool}
theorem AE{o:Oper}{a:Act}{w:World}{K:Act->World->Prop}{Q Q':Exit->Act->World->Prop}(h:∀e a w,e≠.normal->Q' e a w->Q e a w)
  (hh:o.wp P a w K Q'):o.wp P a w K Q:=by
 unfold Oper.wp at*;generalize(execOp a.eval o).run P w=r at*;have hl:LetsOut Q'->LetsOut Q:=λ⟨a,w,q⟩=>⟨a,w,h _ _ _ (by simp) q⟩
 cases r with
 |ok n w'=>
  cases n<;>simp only[Oper.upon]at hh⊢<;>
   first
    |exact hh
    |exact Calls.mono hh (λe w'' he=>by cases e<;>first|exact he|exact h _ _ _ (by simp) he|exact hl he)
 |halt x w'=>cases x<;>simp only[Oper.upon]at hh⊢<;>first|exact hh|exact h _ _ _ (by simp) hh|exact hl hh
def rb(aB:Array Oper)(n:Nat):Bool:=wN aB.toList (pn aB.toList)&&CO aB.toList&&(List.range n).all (λk=>FQ (pn aB.toList) k n)
def lV(aB:Array Oper):Bool:=aB.toList.all λo=>o.guard.isNone
theorem mem_ready{aB:Array Oper}{listed:Array Bool}(bJ:listed.size=aB.size)(i:Nat):i∈Region.ready .any aB listed↔i<aB.size/\listed.getD i false=false/\∀o,aB.toList[i]?=some o->∀e∈o.after,Region.binds .any e=true->listed.getD e.on false=true:=by
 unfold Region.ready;rw[eZ,iV]
 constructor
 .rintro⟨hi,hb⟩
  rw[aA]at hb;have ou:i<listed.size:=by omega
  refine⟨hi,by have:=hb.1;simp[Array.getD,ou]at this⊢;exact this,λo ho e he qv=>?_⟩;have tV:aB[i]?=some o:=by simpa using ho
  have h2:=hb.2;rw[tV]at h2;simp only[iU,qy,mM]at h2;have:=h2 e he;simpa[qv]using this
 .rintro⟨hi,hl,hb⟩
  refine⟨hi,?_⟩;rw[aA];have ou:i<listed.size:=by omega
  refine⟨by simp[Array.getD,ou]at hl⊢;exact hl,?_⟩;have tV:aB[i]?=some aB[i]:=by simp[hi]
  rw[tV];simp only[iU,qy,mM];intro e he
  cases qv:Region.binds .any e
  .rfl
  .simpa using hb aB[i] (by simp[hi]) e he qv
theorem ij(l:Array Bool)(i:Nat):(l.push false).getD i false=l.getD i false:=by
 simp only[dI,mr]
 split
 .rename_i h;subst h;simp
 .rfl
theorem SM{bI:Array Oper}{o:Oper}{Q Q':Exit->Act->World->Prop}(hQ:∀e a w,e≠.normal->Q' e a w->Q e a w)(hg:lV bI=true){i:Nat}(hi:i<bI.size){K K':Act->World->Prop}(hK:∀a w,K a w->K' a w)(h:wpOp P bI Q' i K a w):wpOp P (bI.push o) Q i K' a w:=by
 have ho:bI[i]?=some bI[i]:=by simp[hi]
 have hg1:bI[i].guard=none:=by
  have:=iT.1 hg bI[i] (by simp);simpa using this
 have hw:∀y,Region.wanted bI[i] y=true:=λy=>by unfold Region.wanted;rw[hg1]
 unfold wpOp at h⊢;rw[ho]at h;rw[show(bI.push o)[i]?=some bI[i]by rw[mr,if_neg (by omega)];exact ho];simp only[hw,yH]at h⊢
 rcases h with h|⟨h1,h2⟩
 .exact .inl (Oper.wp_mono hK (AE hQ h))
 .obtain⟨a',w',h2⟩:=h2
  exact .inr ⟨h1,a',w',hQ _ _ _ (by simp) h2⟩
theorem uf{bI:Array Oper}{o:Oper}{Q Q':Exit->Act->World->Prop}(hQ:∀e a w,e≠.normal->Q' e a w->Q e a w)(kM:rb (bI.push o) bI.size=true)(hg:lV bI=true)(tj:∀a w,Q' .normal a w->wpOp P (bI.push o) Q bI.size (λa w=>Q .normal a w) a w):
  ∀(fuel:Nat)(listed:Array Bool)(a:Act)(w:World),listed.size=bI.size->listed.toList.count false=fuel->(∀(j:Nat) o,bI.toList[j]?=some o->listed.getD j false=true->∀e∈o.after,Region.binds .any e=true->listed.getD e.on false=true)->
   wpAny P .any bI Q' fuel listed a w->wpAny P .any (bI.push o) Q (fuel+1) (listed.push false) a w:=by
 simp only[rb,aA]at kM;obtain⟨⟨hju,hed⟩,tX⟩:=kM;have Il:(bI.push o).size=bI.size+1:=by simp
 have cq:∀{j:Nat},j<bI.size->(bI.push o).toList[j]?=bI.toList[j]?:=by
  intro j hj;simp only[mu];rw[mr,if_neg (by omega)]
 have XT:(bI.push o).toList[bI.size]?=some o:=by simp
 intro fuel
 induction fuel with
 |zero=>
  intro listed a w bJ aa9 mR h;have hl:∀k,k<bI.size->listed.getD k false=true:=by
   intro k hk;have nI:k<listed.size:=by omega
   have:false∉listed.toList:=List.count_eq_zero.1 aa9
   cases hb:listed[k]with
   |true=>simp[Array.getD,nI,hb]
   |false=>exact absurd (rN.2 (by rw[<-hb];exact Array.getElem_mem nI)) this
  obtain⟨_,hn⟩:=h;have hr:bI.size∈Region.ready .any (bI.push o) (listed.push false):=by
   refine(mem_ready (by simp[bJ]) _).2 ⟨by simp,by rw[ij];simp[Array.getD,bJ],λo' tV e he qv=>?_⟩;have h2:=iT.1 hed bI.size (iV.2 (by simp));rw[XT]at h2 tV;injection tV with tV;subst tV
   have h3:=iT.1 h2 e (by simpa using he);rw[qv]at h3;simp only[mL,cX]at h3;rw[ij];exact hl _ (dn h3)
  refine⟨λh0=>(by rw[h0]at hr;cases hr),λi hi=>?_⟩;obtain⟨h1,h2,h3⟩:=(mem_ready (by simp[bJ]) i).1 hi;have wq:i=bI.size:=by
   by_cases aC:i<bI.size
   .rw[ij,hl i aC]at h2;cases h2
   .omega
  subst wq;refine wpOp_mono (λa w q=>⟨?_,q⟩) (tj a w hn);rw[List.eq_nil_iff_forall_not_mem];intro k hk;obtain⟨k1,k2,_⟩:=(mem_ready (by simp[bJ]) k).1 hk;have:((listed.push false).setIfInBounds bI.size true).getD k false=true:=by
   simp only[dI,FE]
   by_cases hkn:bI.size=k
   .rw[if_pos hkn,if_pos (by simp[bJ])];rfl
   .rw[if_neg hkn]
    have:=hl k (by simp at k1;omega);rw[<-ij,dI]at this;exact this
  rw[this]at k2;cases k2
 |succ fuel ih=>
  intro listed a w bJ aa9 mR h;have hex:∃k,k<bI.size/\listed.getD k false=false:=by
   have:false∈listed.toList:=List.count_pos_iff.1 (by omega);obtain⟨k,hk,he⟩:=List.mem_iff_getElem.1 this;have nI:k<listed.size:=by simpa using hk
   exact⟨k,by omega,by simp[Array.getD,nI];simpa using he⟩
  obtain⟨k,N8,SN,SO⟩:∃k,k<bI.size/\listed.getD k false=false/\∀m,m<k->listed.getD m false=true:=by
   obtain⟨k,hk⟩:=hex
   induction k using Nat.strongRecOn with
   |_ k ihk=>
    by_cases Gf:∃m,m<k/\listed.getD m false=false
    .obtain⟨m,hm1,hm2⟩:=Gf
     exact ihk m hm1 ⟨by omega,hm2⟩
    .exact⟨k,hk.1,hk.2,λm hm1=>by
      cases hb:listed.getD m false
      .exact absurd ⟨m,hm1,hb⟩ Gf
      .rfl⟩
  have hrk:k∈Region.ready .any (bI.push o) (listed.push false):=by
   refine(mem_ready (by simp[bJ]) _).2 ⟨by simp;omega,by rw[ij];exact SN,λo' tV e he qv=>?_⟩;have h2:=iT.1 hed k (iV.2 (by simp;omega));rw[tV]at h2;have h3:=iT.1 h2 e (by simpa using he);rw[qv]at h3;simp only[mL,cX]at h3;rw[ij];exact SO e.on (dn h3)
  refine⟨λh0=>(by rw[h0]at hrk;cases hrk),λi hi=>?_⟩;obtain⟨h1,h2,h3⟩:=(mem_ready (by simp[bJ]) i).1 hi;rw[ij]at h2
  by_cases wq:i=bI.size
  .exfalso
   subst wq;have hk:listed.getD k false=true:=by
    refine XP hju (L:=λj=>listed.getD j false) (λj o' tV hl e he qv=>?_) bI.size o XT (λe he qv=>?_) k (by simp;omega) (iT.1 tX k (iV.2 N8))
    .by_cases hj:j<bI.size
     .rw[cq hj]at tV
      exact mR j o' tV hl e he qv
     .have:listed.getD j false=false:=by simp[Array.getD,bJ,hj]
      rw[show listed.getD j false=true from hl]at this;cases this
    .have:=h3 o XT e he qv
     rwa[ij]at this
   rw[SN]at hk;cases hk
  .have og:i<bI.size:=by simp at h1;omega
   have hiA:i∈Region.ready .any bI listed:=(mem_ready bJ i).2 ⟨og,h2,λo' tV e he qv=>by
    have:=h3 o' (by rw[cq og];exact tV) e he qv;rwa[ij]at this⟩
   have SP:i<listed.size:=by omega
   have hL:∀k,(listed.setIfInBounds i true).getD k false=if k=i then true else listed.getD k false:=by
    intro k;simp only[dI,FE]
    by_cases hk:i=k
    .subst hk;simp[SP]
    .rw[if_neg hk,if_neg (λe=>hk e.symm)]
   have aba:(listed.push false).setIfInBounds i true=(listed.setIfInBounds i true).push false:=by
    apply Array.ext'
    rw[zn,yF,yF,zn,List.set_append_left _ _ (by simpa using SP)]
   rw[aba];refine SM hQ hg og (λa' w' q=>ih (listed.setIfInBounds i true) a' w' (by simp[bJ]) ?_ ?_ q) (h.2 i hiA)
   .have hli:listed.toList[i]?=some false:=by
     have:=h2;simp[Array.getD,SP]at this;simp[SP,this]
    have:=count_set hli;rw[zn];omega
   .intro j o' tV hl e he qv
    rw[hL]at hl⊢
    split
    .rfl
    .split at hl
     .rename_i SQ;subst SQ
      have:=h3 o' (by rw[cq og];exact tV) e he qv;rwa[ij]at this
     .exact mR j o' tV hl e he qv
theorem AF(hT:br P T)(h1:bW T=true)(hN:E.N=N)(hm:P.follows .mixedOrders=true){bI:Array Oper}{o:Oper}(cY:wP bI=true)(kM:rb (bI.push o) bI.size=true)(hg:lV bI=true){Kk:aM->Prop}{Q:Exit->Act->World->Prop}{id:Nat}
  (h:cZ true P T N dm bI ⟨c,[],[]⟩ 0 bI.toList c Kk)(hs:SR E c a w)(hk:∀c a w,Kk c->SR E c a w->wpOp P (bI.push o) Q bI.size (λa w=>Q .normal a w) a w):(Code.region id (bI.push o) true).wp P Q a w:=by
 have:=As (Q:=λe a w=>e=.normal/\wpOp P (bI.push o) Q bI.size (λa w=>Q .normal a w) a w) hT h1 hN cY (λc a w q s=>⟨rfl,hk c a w q s⟩) h hs;have SU:∀k,(Array.replicate bI.size false).getD k false=false:=by
  intro k;rw[dI];rw[oz]
  split<;>rfl
 have h2:=uf (Q:=Q) (λe a w ne q=>absurd q.1 ne) kM hg (λa w q=>q.2) bI.size (Array.replicate bI.size false) a _ (by simp) (by simp) (λj o ho hl=>by rw[SU]at hl;cases hl) this;refine wp_region_any hm ?_;rw[show(bI.push o).size=bI.size+1 by simp,show Array.replicate (bI.size+1) false=(Array.replicate bI.size false).push false by rw[Array.replicate_succ]];exact h2
end
end Go.an
namespace Go.an
open Go.RowKit
def FnF(P:Program)(f:FuncId)(args:List AV)(ahJ:World->KM->List (Nat×ak)->AV->Prop):Prop:=
 Head P f/\∀(XF:Nat->Prop)(w:World)(vs:Array Value),(∀w',Ext (λ_=>False) w w'->WI w')->(∀g,XF g->g<w.heap.size)->args.length=vs.size->
  (∀(j:Nat) u c,args[j]?=some u->vs[j]?=some c->VR w XF K0 u c)->
  Calls P f vs w λe w'=>∃v K' O' r,e=.returned v/\ahJ w' K' O' r/\VR w' (λg=>bH K' O' g∨XF g) K' r v/\yq w' (λg=>bH K' O' g∨XF g) K' O'/\(∀g,bH K' O' g->w.heap.size<=g)/\Ext (λ_=>False) w w'
section
variable{P:Program} {N:Nat}
theorem Ow{K:KM}{g:Nat}:¬bH K [] g:=by
 rintro⟨b,h,_⟩;simp[aK]at h
end
end Go.an
namespace Go.an
section
variable{P:Program} {E:Env} {K:KM} {a:Act} {w:World} {fr:List (Nat×AV)} {V:List (Nat×ak)} {e sz o eo:Nat}
end
end Go.an
namespace Go.an
open Go.RowKit
def fS(P:Program)(f:FuncId)(args:List AV)(O:List (Nat×ak))(pins:List Nat)(O':List (Nat×ak))(r:AV):Prop:=
 Head P f/\∀(XF:Nat->Prop)(w:World)(K:KM)(vs:Array Value),(∀w',Ext (bH K O) w w'->WI w')->(∀g,XF g->¬bH K O g/\g<w.heap.size)->yq w (λg=>bH K O g∨XF g) K O->args.length=vs.size->
  (∀(j:Nat) u c,args[j]?=some u->vs[j]?=some c->VR w (λg=>bH K O g∨XF g) K u c)->
  Calls P f vs w λe w'=>∃v K',e=.returned v/\VR w' (λg=>bH K' O' g∨XF g) K' r v/\(∀b,bm b pins=true->K' b=K b)/\yq w' (λg=>bH K' O' g∨XF g) K' O'/\(∀g,bH K' O' g->bH K O g∨w.heap.size<=g)/\Ext (bH K O) w w'
section
variable{P:Program} {N:Nat}
def Ox(T:dD)(c:aM):List ResultVar->AV->Prop
 |[x],r=>vt T c x=some r/\ir r=true
 |[],r=>r=.bY []
 |rv,r=>∃us,r=.bY us/\us.length=rv.length/\∀(j:Nat) x u,rv[j]?=some x->us[j]?=some u->vt T c x=some u/\ir u=true
def ahK(T:dD)(rv:List ResultVar)(r:AV)(O':List (Nat×ak))(E:Env):Exit->Act->World->Prop:=λe a w=>(e=.normal∨e=.ret)/\∃K c,bC E K c a w/\oH c.O (fe O')=O'/\Ox T c rv r
theorem IQ{T:dD}(hT:br P T){E:Env}{K:KM}{c:aM}{a:Act}{w:World}{rv:List ResultVar}{r:AV}{fn:Func}(hr:fn.results.toList=rv)(hs:bC E K c a w)(h:Ox T c rv r):
  ∃v,(results fn a.tmps).run P w=.ok v w/\VR w (XX E K c.O) K r v:=by
 have one:∀{x u},vt T c x=some u->ir u=true->∃v,(lr a.tmps x).run P w=.ok v w/\VR w (XX E K c.O) K u v:=by
  intro x u hx hn;obtain⟨v,h1,h2⟩:=mV hT hs hx;exact⟨v,h1,h2.vr (by rintro d bf u' rfl;cases hn)⟩
 cases rv with
 |nil=>
  have h:r=.bY []:=h;subst h;exact⟨.tuple #[],gh hr _ _ (vs:=[]) rfl (λj y z hy hz=>by simp at hy),.bY rfl λj u c hu=>by simp at hu⟩
 |cons x rv=>
 cases rv with
 |nil=>
  obtain⟨v,h1,h2⟩:=one h.1 h.2;refine⟨v,gh hr _ _ (vs:=[v]) rfl (λj y z hy hz=>?_),h2⟩
  cases j with
  |zero=>simp at hy hz;subst hy hz;exact h1
  |succ j=>simp at hy
 |cons y rv=>
  obtain⟨us,rfl,hl,hu⟩:=h;have all:∀(rv:List ResultVar)(us:List AV),us.length=rv.length->(∀(j:Nat) x u,rv[j]?=some x->us[j]?=some u->vt T c x=some u/\ir u=true)->∃vs:List Value,vs.length=rv.length/\(∀(j:Nat) x v,rv[j]?=some x->vs[j]?=some v->(lr a.tmps x).run P w=.ok v w)/\∀(j:Nat) u v,us[j]?=some u->vs[j]?=some v->VR w (XX E K c.O) K u v:=by
   intro rv
   induction rv with
   |nil=>intro us hl _;exact⟨[],rfl,λj x v h=>by simp at h,λj u v _ h=>by simp at h⟩
   |cons x rv ih=>
    intro us hl h
    cases us with
    |nil=>simp at hl
    |cons u us=>
     obtain⟨h1,h2⟩:=h 0 x u rfl rfl;obtain⟨v,k1,k2⟩:=one h1 h2;obtain⟨vs,q1,q2,q3⟩:=ih us (by simpa using hl) λj y z hy hz=>h (j+1) y z (by simpa using hy) (by simpa using hz)
     refine⟨v::vs,by simp[q1],λj y z hy hz=>?_,λj y z hy hz=>?_⟩
     .cases j with
      |zero=>simp at hy hz;subst hy hz;exact k1
      |succ j=>exact q2 j y z (by simpa using hy) (by simpa using hz)
     .cases j with
      |zero=>simp at hy hz;subst hy hz;exact k2
      |succ j=>exact q3 j y z (by simpa using hy) (by simpa using hz)
  obtain⟨vs,q1,q2,q3⟩:=all _ us hl hu;refine⟨_,gh hr _ _ q1 q2,?_⟩
  match vs,q1,q3 with
  |v::v'::vs,q1,q3=>exact .bY (by simp at q1 hl⊢;omega) λj u c hu hc=>q3 j u c hu (by simpa using hc)
theorem Oy{T:dD}(hT:br P T){f:FuncId}{fn:Func}{code:Code}{args:List AV}{O O':List (Nat×ak)}{pins:List Nat}{r:AV}(rv:List ResultVar)
  (hf:P.funcs[f]?=some fn)(hb:fn.body=some code)(ek:(fn.name== "runtime.NumGoroutine")=false)(hn:Nat.ble args.length fn.ntmps=true)(hN:fn.ntmps=N)
  (hr:fn.results.toList=rv)(CQ:∀b,bm b pins=true->Nat.ble 2 (b %16)=true/\(aK O b).isSome=true)
  (h:∀(E:Env)(K:KM)(a:Act)(w:World),E.N=N->(∀b,bm b pins=false->E.gK b=none)->bC E K ⟨idx 0 args,O⟩ a w->code.wp P (ahK T rv r O' E) a w):fS P f args O pins O' r:=by
 refine⟨⟨fn,hf,ek,by rw[hb];rfl⟩,λXF w K vs kS Fw gz cz fU=>?_⟩;refine calls_of_wp hf hb ?_;have RC:=dn hn;subst hN
 let E:Env:=⟨bH K O,XF,w,fn.ntmps,kS,λb=>if bm b pins=true then K b else none,λb x hx=>by
  by_cases hm:bm b pins=true
  .exact(CQ b hm).1
  .rw[if_neg hm]at hx;exact(by cases hx),λg hg=>(Fw g hg).1⟩
 have Nr:∀g,XX E K O g->bH K O g∨XF g:=by
  rintro g (h|h)
  .exact .inl h
  .exact .inr h.1
 refine wp_mono (h E K _ _ rfl (λb hb=>by simp only[E];rw[if_neg (by rw[hb];simp)]) ?_) ?_
 .refine⟨by simp[E];omega,rfl,⟨rfl,rfl,rfl,bG _,λ_ _ _=>rfl,λ_ aJ _ h=>⟨aJ,h,rfl⟩⟩,λs=>?_,gz.aa,λb y hb=>?_,gz.inj,λb g h1 h2=>.inl ⟨b,h1,h2⟩,λb x hx=>?_⟩
  .simp only[uc,cF,yH,lz]
   cases hu:args[s]? with
   |none=>rw[lJ,hu];exact FV.top
   |some u=>
    rw[lJ,hu];have hs:s<vs.size:=by rw[<-cz];exact(aE.1 hu).1
    have n9:vs[s]?=some vs[s]:=by simp[hs]
    have:=fU s u _ hu n9;rw[show(vs++Array.replicate (fn.ntmps-vs.size) undef).getD s undef=vs[s]by
     rw[dI,D1 hs];simp[hs]]
    exact FV.of (this.sub λg _ hg=>Nr g hg)
  .rcases gz.own b y hb with h1|⟨g,h1,h2⟩
   .exact .inl h1
   .exact .inr ⟨g,h1,h2.ad rfl (dv.refl _ _) (λg _ hg=>Nr g hg) (λ_ _ _ _ _ _=>rfl)⟩
  .simp only[E]at hx
   by_cases hm:bm b pins=true
   .rw[if_pos hm]at hx;exact hx
   .rw[if_neg hm]at hx;cases hx
 .rintro e a w' ⟨he,K',c,SX,hkp,ahL⟩
  obtain⟨v,Ck,F4⟩:=IQ hT hr SX ahL;have hs:bC E K' ⟨c.fr,O'⟩ a w':=SX.uS (λt=>.inl rfl) λb x hb=>qM c.O (fe O') b x (by rw[hkp];exact hb)
  have hv:VR w' (XX E K' O') K' r v:=F4.sub λg _ hg=>XX.sub (λb x hb=>⟨x,qM c.O (fe O') b x (by rw[hkp];exact hb)⟩) g hg
  have hKK:∀b,bm b pins=true->K' b=K b:=by
   intro b hb
   rcases hK:K b with _|x
   .obtain⟨y,hy⟩:=bF.1 (CQ b hb).2
    rcases gz.own b y hy with⟨h1,_⟩|⟨g,h1,_⟩
    .rw[hK]at h1;cases h1
    .rw[hK]at h1;cases h1
   .exact hs.gK b x (by simp only[E];rw[if_pos hb];exact hK)
  have Oz:∀g,bH K' O' g∨XF g->XX E K' O' g:=by
   rintro g (h|h)
   .exact .inl h
   .exact .inr ⟨h,(Fw g h).2⟩
  have key:a.defers=[] /\∃v1,(results fn a.tmps).run P w'=.ok v1 w'/\∃v K'',Ending.returned v1=.returned v/\VR w' (λg=>bH K'' O' g∨XF g) K'' r v/\(∀b,bm b pins=true->K'' b=K b)/\yq w' (λg=>bH K'' O' g∨XF g) K'' O'/\(∀g,bH K'' O' g->bH K O g∨w.heap.size<=g)/\Ext (bH K O) w w':=by
   refine⟨hs.defers,v,Ck,v,K',rfl,hv.sub λg _ hg=>Oz g hg,hKK,⟨hs.aa,λb ae hb=>?_,hs.inj⟩,λg ⟨b,h1,h2⟩=>hs.fI b g h1 h2,hs.ext⟩
   rcases hs.own b ae hb with h1|⟨g,h1,h2⟩
   .exact .inl h1
   .exact .inr ⟨g,h1,h2.ad rfl (dv.refl _ _) (λg _ hg=>Oz g hg) (λ_ _ _ _ _ _=>rfl)⟩
  rcases he with rfl|rfl
  .exact key
  .exact key
theorem IS{E:Env}{K:KM}{fr:List (Nat×AV)}{O O':List (Nat×ak)}{r:AV}{a:Act}{w:World}{pins:List Nat}{aB:Array Oper}{o:Oper}{Q:Exit->Act->World->Prop}{Kk:Act->World->Prop}{i g:Nat}{f:Operand}{args:Array Operand}{ts:Array TypeId}{dt us:List AV}
  (ho:aB[i]?=some o)(cq:o.op=.call {callee:=.value f,args:=args,argTypes:=ts})(hw:Region.wanted o (yielded aB a.tmps)=true)(hs:bC E K ⟨fr,O⟩ a w)(FB:fS P g us O pins O' r)
  (hf:j8 ⟨fr,O⟩ f=.func g dt)(zP:args.toList.map (j8 ⟨fr,O⟩)++dt=us)(sv:pI us=true)(hro:ir r=true)
  (jF:IP pins fr=true)(yv:∀b,bm b pins=false->E.gK b=none)(hd:fg E.N ⟨fr,O⟩ o.dst=true)
  (hk:∀K' v w',bC E K' ⟨qi o.dst r fr,O'⟩ (a.put o.dst v) w'->Kk (a.put o.dst v) w'):wpOp P aB Q i Kk a w:=by
 obtain⟨⟨fn,OB,ek,mj⟩,Ab⟩:=FB;have az:=fh (c:=⟨fr,O⟩) hs;obtain⟨cv,ef,cl,Sq⟩:=VR.fJ (az.at hf);obtain⟨ml,mv⟩:=mP az args;unfold wpOp;rw[ho];simp only;rw[if_pos hw]
 left
 unfold Oper.wp;have Ck:(execOp a.eval o).run P w=.ok (.enter g (args.map a.eval++cv)) w:=by
  simp only[execOp,cq,resolve,ef,Deferred.ofValue,Sem.run_bind,Sem.run_pure,Result.andThen_ok,invoke,callFunc,run_program];simp[OB,ek,mj]
 rw[Ck,Oper.upon_enter];have mQ:us.length=(args.map a.eval++cv).size:=by
  rw[<-zP];simp[cl]
 have fU:∀(j:Nat) u v,us[j]?=some u->(args.map a.eval++cv)[j]?=some v->VR w (λg=>bH K O g∨(E.XF g/\g<E.w0.heap.size)) K u v:=by
  intro j u v hu hv;have XI:=mX sv u (ay hu);rw[<-zP]at hu;have Ac:(args.toList.map (j8 ⟨fr,O⟩)).length=(args.map a.eval).size:=by simp
  rcases eJ j (args.toList.map (j8 ⟨fr,O⟩)).length with aC|kT
  .rw[bM aC]at hu
   rw[D1 (by omega)]at hv;exact FV.vr (mv j u v hu (by simpa using hv)) XI
  .rw[cm kT]at hu
   rw[lC (by omega)]at hv;rw[Ac]at hu;exact Sq _ u v hu hv
 have kS:∀w',Ext (bH K O) w w'->WI w':=by
  intro w' hx;refine E.kS _ ⟨hx.os.trans hs.ext.os,hx.tape.trans hs.ext.tape,hx.output.trans hs.ext.output,du hs.ext.size hx.size,λg hg hX=>?_,λg aJ e hc=>?_⟩
  .rw[hx.block g (ew hg hs.ext.size) λ⟨b,hb,hk⟩=>?_]
   .exact hs.ext.block g hg hX
   .rcases hs.fI b g hb hk with h|h
    .exact hX h
    .omega
  .obtain⟨c1,h1,s1⟩:=hs.ext.shape g aJ e hc
   obtain⟨c2,h2,s2⟩:=hx.shape g c1 e h1;exact⟨c2,h2,s2.trans s1⟩
 refine(Ab (λg=>E.XF g/\g<E.w0.heap.size) w K _ kS (λg hg=>⟨λ⟨b,hb,hk⟩=>?_,ew hg.2 hs.ext.size⟩) ⟨hs.aa,hs.own,hs.inj⟩ mQ fU).mono ?_
 .rcases hs.fI b g hb hk with h|h
  .exact E.Fw g hg.1 h
  .have:=hg.2;omega
 .rintro e w1 ⟨v,K',rfl,hrv,hKK,gz,hl,hx⟩
  have lS:=hs.aa8 hKK gz hl hx (Ew jF) yv;refine hk K' v w1 (lS.put (dst:=o.dst) (u:=r) (v:=v) ?_ λd _=>?_)
  .exact hd
  .exact FV.of hrv
end
mutual
def AV.H5(ρ:Nat->Nat):AV->AV
 |.bn b s n=>.bn (ρ b) s n
 |.dq b s l n=>.dq (ρ b) s l n
 |.af b o=>.af (ρ b) o
 |.dP b s i o=>.dP (ρ b) s i o
 |.dX b=>.dX (ρ b)
 |.agg xs=>.agg (AV.ql ρ xs)
 |.bY xs=>.bY (AV.ql ρ xs)
 |.func f xs=>.func f (AV.ql ρ xs)
 |.opt d w v=>.opt d w (AV.H5 ρ v)
 |v=>v
def AV.ql(ρ:Nat->Nat):List AV->List AV
 |[]=>[]
 |x::xs=>AV.H5 ρ x::AV.ql ρ xs
end
theorem re(ρ:Nat->Nat):∀xs,(AV.ql ρ xs).length=xs.length
 |[]=>rfl
 |x::xs=>by simp[AV.ql,re ρ xs]
theorem rf{ρ:Nat->Nat}:∀{xs:List AV}{j:Nat}{u:AV},(AV.ql ρ xs)[j]?=some u->∃u',xs[j]?=some u'/\u=u'.H5 ρ
 |[],_,_,h=>by simp[AV.ql]at h
 |x::xs,0,u,h=>by simp[AV.ql]at h;exact⟨x,rfl,h.symm⟩
 |x::xs,j+1,u,h=>by simp[AV.ql]at h;simpa using rf h
theorem wU{K K':KM}{b b':Nat}(h:K' b'=K b):aG K' b'=aG K b:=by simp[aG,h]
theorem VR.H5{w:World}{X:Nat->Prop}{K:KM}{u:AV}{v:Value}(h:VR w X K u v):∀(K':KM)(ρ:Nat->Nat),(∀b,u.has b=true->K' (ρ b)=K b)->VR w X K' (u.H5 ρ) v:=by
 induction h with
 |top=>intros;exact .top
 |bool=>intros;exact .bool
 |int=>intros;exact .int
 |str=>intros;exact .str
 |ai=>intros;exact .ai
 |fc=>intros;exact .fc
 |nU=>intros;exact .nU
 |o9=>intros;exact .o9
 |lit=>intros;exact .lit
 |agg hl h1 hv ih=>
  intro K' ρ hK;refine .agg (by rw[re];exact hl) h1 λj u c hu hc=>?_
  obtain⟨u',iG,rfl⟩:=rf hu;exact ih j u' c iG hc K' ρ λb hb=>hK b (AV.mA iG hb)
 |bY hl hv ih=>
  intro K' ρ hK;refine .bY (by rw[re];exact hl) λj u c hu hc=>?_
  obtain⟨u',iG,rfl⟩:=rf hu;exact ih j u' c iG hc K' ρ λb hb=>hK b (AV.mA iG hb)
 |func hl hv ih=>
  intro K' ρ hK;refine .func (by rw[re];exact hl) λj u c hu hc=>?_
  obtain⟨u',iG,rfl⟩:=rf hu;exact ih j u' c iG hc K' ρ λb hb=>hK b (AV.mA iG hb)
 |aL hn bJ iW hA dM h1 cH hv ih=>intro K' ρ hK;exact .aL hn bJ iW hA dM h1 cH hv
 |aw dM h1 hg hx hc hv ih=>intro K' ρ hK;exact .aw dM h1 hg hx hc hv
 |bn iF nu hc hn hm iW=>intro K' ρ hK;exact .bn ((hK _ (by simp[AV.has])).trans iF) nu hc hn hm iW
 |fE iF=>intro K' ρ hK;exact .fE ((hK _ (by simp[AV.has])).trans iF)
 |dq hn hc=>intro K' ρ hK;exact .dq (λh=>(by obtain⟨g,m,h1,h2⟩:=hn h;exact⟨g,m,(hK _ (by simp[AV.has])).trans h1,h2⟩)) hc
 |af iF=>intro K' ρ hK;exact .af ((wU (hK _ (by simp[AV.has]))).trans iF)
 |dP iF=>intro K' ρ hK;exact .dP ((wU (hK _ (by simp[AV.has]))).trans iF)
 |dX iF=>intro K' ρ hK;exact .dX ((wU (hK _ (by simp[AV.has]))).trans iF)
 |iB hm hg hx bJ hl h1 hv ih=>intro K' ρ hK;exact .iB hm hg hx bJ hl h1 hv
 |xx h1 h2 h3 h4 h5 h6=>intro K' ρ hK;exact .xx h1 h2 h3 h4 h5 h6
theorem FV.H5{w:World}{X:Nat->Prop}{K:KM}{tm:Array Value}{u:AV}{v:Value}(h:FV w X K tm u v){K':KM}{ρ:Nat->Nat}(hK:∀b,u.has b=true->K' (ρ b)=K b):FV w X K' tm (u.H5 ρ) v:=by
 cases u with
 |opt d bf u'=>
  simp only[FV]at h;simp only[AV.H5,FV];exact h.imp (λ⟨h1,h2⟩=>⟨h1,h2.H5 _ _ hK⟩) id
 |_=>exact VR.H5 h _ _ hK
def Me(ρ:Nat->Nat):List (Nat×AV)->List (Nat×AV)
 |[]=>[]
 |(t,v)::r=>(t,v.H5 ρ)::Me ρ r
def vD(ρ:Nat->Nat)(ae:ak):ak:=
 match ae.kd with
 |.any=>{ae with aa:=ae.aa.map (AV.ql ρ)}
 |_=>ae
def AG(ρ:Nat->Nat):List (Nat×ak)->List (Nat×ak)
 |[]=>[]
 |(b,x)::r=>(ρ b,vD ρ x)::AG ρ r
theorem OE(ρ:Nat->Nat):∀(fr:List (Nat×AV))(t:Nat),lk (Me ρ fr) t=(lk fr t).H5 ρ
 |[],t=>rfl
 |(s,v)::r,t=>by
  simp only[Me,gC,OE ρ r]
  split<;>rfl
theorem CT(ρ:Nat->Nat)(ae:ak):(vD ρ ae).kd=ae.kd/\(vD ρ ae).e=ae.e/\(vD ρ ae).sz=ae.sz/\(vD ρ ae).fF=ae.fF/\(vD ρ ae).aa.length=ae.aa.length:=by
 unfold vD
 cases hk:ae.kd<;>simp[hk]
def B2(ps:List Nat):List (Nat×ak)->Bool
 |[]=>true
 |(b,x)::r=>bm b ps&&(match x.kd with|.any=>x.aa.all (AV.GF ps)|_=>true)&&B2 ps r
theorem AH{ps:List Nat}:∀{O:List (Nat×ak)},B2 ps O=true->∀b x,aK O b=some x->bm b ps=true/\(x.kd=.any->∀row∈x.aa,AV.GF ps row=true)
 |[],_,b,x,h=>by simp[aK]at h
 |(i,y)::r,h,b,x,hb=>by
  simp only[B2,aA]at h;rw[aZ]at hb
  split at hb
  .rename_i e;subst e
   injection hb with hb;subst hb
   refine⟨h.1.1,λhk=>?_⟩;have:=h.1.2;rw[hk]at this;exact iT.1 this
  .exact AH h.2 b x hb
def AI(ρ:Nat->Nat)(b:Nat):List Nat->Option Nat
 |[]=>none
 |i::r=>match Nat.beq (ρ i) b with|true=>some i|false=>AI ρ b r
theorem AJ{ρ:Nat->Nat}{b i:Nat}:∀{ps:List Nat},AI ρ b ps=some i->ρ i=b/\bm i ps=true
 |[],h=>by cases h
 |j::r,h=>by
  unfold AI at h
  split at h
  .rename_i e
   injection h with h;subst h
   exact⟨beq_true e,by simp only[bm];rw[show Nat.beq j j=true from dz j]⟩
  .obtain⟨h1,h2⟩:=AJ h
   refine⟨h1,?_⟩;simp only[bm]
   split
   .rfl
   .exact h2
def Ey(ρ:Nat->Nat)(ps:List Nat):Bool:=ps.all λi=>decide (AI ρ (ρ i) ps=some i)
theorem ug{ρ:Nat->Nat}{ps:List Nat}(h:Ey ρ ps=true){i:Nat}(hi:bm i ps=true):AI ρ (ρ i) ps=some i:=by
 have:=iT.1 h i (fL.1 hi);simpa using this
theorem Kh{ρ:Nat->Nat}{ps:List Nat}(hi:Ey ρ ps=true):∀{O:List (Nat×ak)},B2 ps O=true->∀{b:Nat},bm b ps=true->aK (AG ρ O) (ρ b)=(aK O b).map (vD ρ)
 |[],_,b,_=>rfl
 |(i,x)::r,h,b,hb=>by
  simp only[B2,aA]at h;simp only[AG,aZ]
  by_cases e:i=b
  .subst e;simp
  .rw[if_neg e,if_neg λe'=>e ?_]
   .exact Kh hi h.2 hb
   .have h1:=ug hi h.1.1
    have h2:=ug hi hb;rw[e']at h1;rw[h1]at h2;injection h2
theorem xR{ρ:Nat->Nat}{ps:List Nat}:∀{O:List (Nat×ak)},B2 ps O=true->∀{b:Nat}{y:ak},aK (AG ρ O) b=some y->∃i,bm i ps=true/\ρ i=b
 |[],_,b,y,h=>by simp[AG,aK]at h
 |(i,x)::r,h,b,y,hb=>by
  simp only[B2,aA]at h;simp only[AG,aZ]at hb
  split at hb
  .rename_i e;exact⟨i,h.1.1,e⟩
  .exact xR h.2 hb
theorem bC.H5{E:Env}{K:KM}{fr:List (Nat×AV)}{O:List (Nat×ak)}{a:Act}{w:World}(h:bC E K ⟨fr,O⟩ a w)(ρ:Nat->Nat)(ps:List Nat)(hf:IP ps fr=true)(hO:B2 ps O=true)(hi:Ey ρ ps=true)(hp:∀b,bm b ps=true->ρ b=b∨E.gK (ρ b)=none):
  ∃K',bC E K' ⟨Me ρ fr,AG ρ O⟩ a w:=by
 let K':KM:=λb=>match AI ρ b ps with|some i=>K i|none=>K b
 have hK:∀b,bm b ps=true->K' (ρ b)=K b:=by
  intro b hb;simp only[K',ug hi hb]
 have uB:∀b,bm b ps=true->aG K' (ρ b)=aG K b:=λb hb=>by simp[aG,hK b hb]
 have gy:∀b y,aK (AG ρ O) b=some y->∃i x,bm i ps=true/\ρ i=b/\aK O i=some x/\y=vD ρ x:=by
  intro b y hb;obtain⟨i,h1,h2⟩:=xR hO hb;subst h2;rw[Kh hi hO h1]at hb
  cases hx:aK O i with
  |none=>rw[hx]at hb;cases hb
  |some x=>rw[hx]at hb;injection hb with hb;exact⟨i,x,h1,rfl,hx,hb.symm⟩
 have dB:∀b,(aK (AG ρ O) b).isSome=true->∃i,bm i ps=true/\ρ i=b/\(aK O i).isSome=true:=by
  intro b hb;obtain⟨y,hy⟩:=bF.1 hb;obtain⟨i,x,h1,h2,h3,_⟩:=gy b y hy;exact⟨i,h1,h2,by simp[h3]⟩
 have hX:∀g,XX E K' (AG ρ O) g->XX E K O g:=by
  rintro g (⟨b,hb,hk⟩|hg)
  .obtain⟨i,h1,rfl,h3⟩:=dB b hb
   exact .inl ⟨i,h3,by rw[<-uB i h1];exact hk⟩
  .exact .inr hg
 refine⟨K',h.size,h.defers,h.ext,λt=>?_,λb y hb=>?_,λb y hb=>?_,λb b' g h1 h2 k1 k2=>?_,λb g h1 k1=>?_,λb x hx=>?_⟩
 .show FV w _ K' _ (lk (Me ρ fr) t) _
  rw[OE];exact FV.H5 ((h.fr t).sub λg _=>hX g) λb hb=>hK b (Ew hf t b hb)
 .obtain⟨i,x,h1,rfl,h3,rfl⟩:=gy b y hb
  intro row aD;obtain⟨_,_,e3,_,_⟩:=CT ρ x;rw[e3];unfold vD at aD
  split at aD
  .obtain⟨tK,jV,rfl⟩:=cK.1 aD
   rw[re];exact h.aa i x h3 tK jV
  .exact h.aa i x h3 row aD
 .obtain⟨i,x,h1,rfl,h3,rfl⟩:=gy b y hb
  obtain⟨e1,e2,e3,e4,e5⟩:=CT ρ x;rw[hK i h1,e5]
  rcases h.own i x h3 with⟨k1,k2⟩|⟨g,k1,aJ,hc,hu⟩
  .refine .inl ⟨k1,?_⟩
   exact bE (by rw[e5,k2];rfl)
  .refine .inr ⟨g,k1,aJ,?_,λj u hj=>?_⟩
   .have fw:=hc.ad rfl (dv.refl _ _) (λg _=>hX g)
    unfold aV at fw⊢;rw[e1,e2,e3,e4]
    cases hk:x.kd<;>rw[hk]at fw
    .exact fw
    .exact fw
    .exact fw
    .obtain⟨q1,q2,q3⟩:=fw
     exact⟨q1,bE (by rw[e5,q2];rfl),q3⟩
   .cases hk:x.kd with
    |any=>
     have JZ:(vD ρ x).aa=x.aa.map (AV.ql ρ):=by unfold vD;rw[hk]
     rw[JZ]at hj;have nt:(x.aa.map (AV.ql ρ)).flatten=AV.ql ρ x.aa.flatten:=by
      have app:∀(xs ys:List AV),AV.ql ρ (xs++ys)=AV.ql ρ xs++AV.ql ρ ys:=by
       intro xs ys
       induction xs with
       |nil=>rfl
       |cons z zs ih=>simp[AV.ql,ih]
      generalize x.aa=aa
      induction aa with
      |nil=>rfl
      |cons r rs ih=>simp[app,ih]
     rw[nt]at hj;obtain⟨u',iG,rfl⟩:=rf hj;obtain⟨c,c1,c2,c3⟩:=hu j u' iG;refine⟨c,c1,c2,?_⟩;rw[hk]at c3;rw[e1,hk];refine VR.H5 (K:=K) (VR.sub c3 λg _ hg=>hX g hg) _ _ λb hb=>hK b ?_
     obtain⟨row,hr,XG⟩:=nC.1 (ay iG);have:=(AH hO i x h3).2 hk row hr;exact oV row this (mT XG hb)
    |_=>
     have JZ:vD ρ x=x:=by unfold vD;rw[hk]
     rw[JZ]at hj⊢;obtain⟨c,c1,c2,c3⟩:=hu j u hj;refine⟨c,c1,c2,?_⟩;rw[hk]at c3⊢;exact VR.sub c3 (nJ λg _=>hX g)
 .obtain⟨i,i1,rfl,i3⟩:=dB b h1
  obtain⟨i',j1,rfl,j3⟩:=dB b' h2;rw[uB i i1]at k1;rw[uB i' j1]at k2;rw[h.inj i i' g i3 j3 k1 k2]
 .obtain⟨i,i1,rfl,i3⟩:=dB b h1
  rw[uB i i1]at k1;exact h.fI i g i3 k1
 .simp only[K']
  cases hu:AI ρ b ps with
  |none=>exact h.gK b x hx
  |some i=>
   obtain⟨h1,h2⟩:=AJ hu
   rcases hp i h2 with h3|this
   .show K i=some x
    rw[<-h3,h1];exact h.gK b x hx
   .rw[h1,hx]at this;cases this
section
variable{P:Program} {E:Env} {K:KM} {c:aM} {a:Act} {w:World}
theorem bC.Ez{fr pJ:List (Nat×AV)}{O:List (Nat×ak)}(hs:bC E K ⟨fr,O⟩ a w)(hf:∀t,lk pJ t=.top∨gM (aK O) (lk fr t)=some (lk pJ t)):bC E K ⟨pJ,[]⟩ a w:=by
 have sv:∀t,lk pJ t≠.top->∀d bf u,lk fr t≠.opt d bf u:=by
  intro t ht d bf u he
  rcases hf t with h|h
  .exact ht h
  .rw[he]at h;simp[gM,dQ]at h
 refine⟨hs.size,hs.defers,hs.ext,λt=>?_,λb x hb=>by simp[aK]at hb,λb x hb=>by simp[aK]at hb,λb b' g hb=>by simp[aK]at hb,λb g hb=>by simp[aK]at hb,hs.gK⟩
 show FV w _ K _ (lk pJ t) _
 rcases hf t with h|h
 .rw[h];exact FV.top
 .by_cases ht:lk pJ t=.top
  .rw[ht];exact FV.top
  .have hv:=(hs.fr t).vr (sv t ht)
   have hY:∀g,XX E K [] g->E.XF g/\g<E.w0.heap.size:=by
    rintro g (⟨b,hb,_⟩|hg)
    .simp[aK]at hb
    .exact hg
   exact FV.of ((ja (Y:=XX E K []) hY hs h hv).any K)
end
def Vi(T:dD)(rv:List ResultVar)(r:AV)(O':List (Nat×ak)):Ex->aM->Prop
 |.exit _,_=>False
 |_,c=>oH c.O (fe O')=O'/\Ox T c rv r
theorem XU{P:Program}{N:Nat}{T:dD}{ks:List Nat}(hT:br P T)(h1:bW T=true)(hm:P.follows .mixedOrders=true){f:FuncId}{fn:Func}{code:Code}{args:List AV}{O O':List (Nat×ak)}{pins:List Nat}{r:AV}(rv:List ResultVar)
  (hf:P.funcs[f]?=some fn)(hb:fn.body=some code)(ek:(fn.name== "runtime.NumGoroutine")=false)(hn:Nat.ble args.length fn.ntmps=true)(hN:fn.ntmps=N)
  (hr:fn.results.toList=rv)(CQ:∀b,bm b pins=true->Nat.ble 2 (b %16)=true/\(aK O b).isSome=true)(hd:cr code=true)
  (h:ev P T N ks code ⟨idx 0 args,O⟩ (Vi T rv r O')):fS P f args O pins O' r:=
 Oy hT rv hf hb ek hn hN hr CQ λE K a w SZ _ hs=>
  ko hT h1 SZ hm code _ (Vi T rv r O') _ a w hd h (λe c' a' w' hq eh=>by
   obtain⟨K',eh⟩:=eh
   cases e with
   |exit id=>exact hq.elim
   |normal=>exact⟨.inl rfl,K',c',eh,hq.1,hq.2⟩
   |ret=>exact⟨.inr rfl,K',c',eh,hq.1,hq.2⟩) ⟨K,hs⟩
end Go.an
