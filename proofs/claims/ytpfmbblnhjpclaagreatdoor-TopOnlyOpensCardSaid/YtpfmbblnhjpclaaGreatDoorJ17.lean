import Derived.Test.YtpfmbblnhjpclaaGreatDoorJ16
import Derived.Test.YtpfmbblnhjpclaaGreatDoorJ14
import Derived.RangeFuncRecord
import Derived.RangeFuncSeq
import Derived.Sort.LoopGhostIn
import Derived.OrdersIn
import Derived.RangeFuncCalls
set_option linter.unusedVariables false
set_option linter.unusedSimpArgs false
namespace Go.an
open Go.RowKit
mutual
def vF(b:Nat)(ae:ak):AV->AV
 |.bn b' sz n=>match Nat.beq b' b with
  |true=>match Nat.beq sz ae.sz with|true=>.aL sz n (ae.aa.take n)|false=>.top
  |false=>.bn b' sz n
 |.dq b' sz lo n=>match Nat.beq b' b with|true=>.top|false=>.dq b' sz lo n
 |.af b' o=>match Nat.beq b' b with|true=>.top|false=>.af b' o
 |.dP b' sz i o=>match Nat.beq b' b with|true=>.top|false=>.dP b' sz i o
 |.dX b'=>match Nat.beq b' b with|true=>.top|false=>.dX b'
 |.agg xs=>.agg (qn b ae xs)
 |.bY xs=>.bY (qn b ae xs)
 |.func f xs=>.func f (qn b ae xs)
 |.opt d w v=>match AV.has b v with|true=>.top|false=>.opt d w v
 |v=>v
def qn(b:Nat)(ae:ak):List AV->List AV
 |[]=>[]
 |x::xs=>vF b ae x::qn b ae xs
end
theorem ri(b:Nat)(ae:ak):∀xs,(qn b ae xs).length=xs.length
 |[]=>rfl
 |x::xs=>by simp[qn,ri b ae xs]
theorem rj{b:Nat}{ae:ak}:∀{xs:List AV}{j:Nat}{u:AV},(qn b ae xs)[j]?=some u->∃u',xs[j]?=some u'/\u=vF b ae u'
 |[],_,_,h=>by simp[qn]at h
 |x::xs,0,u,h=>by simp[qn]at h;exact⟨x,rfl,h.symm⟩
 |x::xs,j+1,u,h=>by simp[qn]at h;simpa using rj h
theorem GI(b:Nat)(ae:ak):∀xs ys,qn b ae (xs++ys)=qn b ae xs++qn b ae ys
 |[],ys=>rfl
 |x::xs,ys=>by simp[qn,GI b ae xs ys]
theorem CX(b:Nat)(ae:ak):∀aa:List (List AV),(aa.map (qn b ae)).flatten=qn b ae aa.flatten
 |[]=>rfl
 |r::rs=>by simp[GI,CX b ae rs]
def IW(b:Nat)(ae:ak):List (Nat×AV)->List (Nat×AV)
 |[]=>[]
 |(t,v)::r=>(t,vF b ae v)::IW b ae r
def wX(b:Nat)(ae:ak)(x:ak):ak:=
 match x.kd with
 |.any=>{x with aa:=x.aa.map (qn b ae)}
 |_=>x
def yB(b:Nat)(ae:ak):List (Nat×ak)->List (Nat×ak)
 |[]=>[]
 |(i,x)::r=>match Nat.beq i b with
  |true=>yB b ae r
  |false=>(i,wX b ae x)::yB b ae r
theorem OS(b:Nat)(ae:ak):∀(fr:List (Nat×AV))(t:Nat),lk (IW b ae fr) t=vF b ae (lk fr t)
 |[],t=>rfl
 |(s,v)::r,t=>by
  simp only[IW,gC,OS b ae r]
  split<;>rfl
theorem nM{b:Nat}{ae:ak}:∀{O:List (Nat×ak)}{i:Nat}{y:ak},aK (yB b ae O) i=some y->i≠b/\∃x,aK O i=some x/\y=wX b ae x
 |[],i,y,h=>by simp[yB,aK]at h
 |(k,x)::r,i,y,h=>by
  simp only[yB]at h
  split at h
  .rename_i e
   have e:=beq_true e;subst e;obtain⟨h1,z,h2,h3⟩:=nM h;exact⟨h1,z,by rw[aZ,if_neg (λe=>h1 e.symm)];exact h2,h3⟩
  .rename_i e
   have e:=beq_false e;rw[aZ]at h
   split at h
   .rename_i e'
    subst e';injection h with h
    exact⟨e,x,by rw[aZ,if_pos rfl],h.symm⟩
   .rename_i e'
    obtain⟨h1,z,h2,h3⟩:=nM h;exact⟨h1,z,by rw[aZ,if_neg e'];exact h2,h3⟩
theorem CY(b:Nat)(ae x:ak):(wX b ae x).kd=x.kd/\(wX b ae x).e=x.e/\(wX b ae x).sz=x.sz/\(wX b ae x).fF=x.fF/\(wX b ae x).aa.length=x.aa.length:=by
 unfold wX
 cases hk:x.kd<;>simp[hk]
section
variable{E:Env} {K:KM} {fr:List (Nat×AV)} {O:List (Nat×ak)} {a:Act} {w:World} {b:Nat} {ae:ak}
theorem bC.OT(h:bC E K ⟨fr,O⟩ a w)(hb:aK O b=some ae):∀g,XX E K (yB b ae O) g->XX E K O g/\aG K b≠some g:=by
 rintro g (⟨i,hi,hk⟩|hg)
 .obtain⟨y,hy⟩:=bF.1 hi
  obtain⟨h1,x,h2,_⟩:=nM hy;refine⟨.inl ⟨i,by simp[h2],hk⟩,λe=>h1 ?_⟩;exact h.inj i b g (by simp[h2]) (by simp[hb]) hk e
 .refine⟨.inr hg,λe=>?_⟩
  rcases h.fI b g (by simp[hb]) e with q|q
  .exact E.Fw g hg.1 q
  .have:=hg.2;omega
theorem OU(h:bC E K ⟨fr,O⟩ a w)(hb:aK O b=some ae)(hk:ae.kd=.pure∨ae.kd=.flat){u:AV}{v:Value}(hv:VR w (XX E K O) K u v):VR w (XX E K (yB b ae O)) K (vF b ae u) v:=by
 have hX:=h.OT hb;have B3:∀{u:AV}{v:Value}{K':KM},VR w (XX E K O) K' u v->VR w (XX E K (yB b ae O)) K' u v:=λhv=>hv.sub λg _ hg=>(hX g hg).1
 suffices∀{X:Nat->Prop}{K':KM}{u:AV}{v:Value},VR w X K' u v->X=XX E K O->K'=K->VR w (XX E K (yB b ae O)) K (vF b ae u) v from this hv rfl rfl
 intro X K' u v hv
 induction hv with
 |top=>intros;exact .top
 |bool=>intros;exact .bool
 |int=>intros;exact .int
 |str=>intros;exact .str
 |ai=>intros;exact .ai
 |fc=>intros;exact .fc
 |nU=>intros;exact .nU
 |o9=>intros;exact .o9
 |lit=>intros;exact .lit
 |agg hl h1 hv ih=>
  intro e1 e2;refine .agg (by rw[ri];exact hl) h1 λj u c hu hc=>?_
  obtain⟨u',iG,rfl⟩:=rj hu;exact ih j u' c iG hc e1 e2
 |bY hl hv ih=>
  intro e1 e2;refine .bY (by rw[ri];exact hl) λj u c hu hc=>?_
  obtain⟨u',iG,rfl⟩:=rj hu;exact ih j u' c iG hc e1 e2
 |func hl hv ih=>
  intro e1 e2;refine .func (by rw[ri];exact hl) λj u c hu hc=>?_
  obtain⟨u',iG,rfl⟩:=rj hu;exact ih j u' c iG hc e1 e2
 |aL hn bJ iW hA dM h1 cH hv ih=>intro e1 e2;subst e1 e2;exact B3 (.aL hn bJ iW hA dM h1 cH hv)
 |aw dM h1 hg hx hc hv ih=>intro e1 e2;subst e1 e2;exact B3 (.aw dM h1 hg hx hc hv)
 |iB hm hg hx bJ hl h1 hv ih=>intro e1 e2;subst e1 e2;exact B3 (.iB hm hg hx bJ hl h1 hv)
 |xx h1 h2 h3 h4 h5 h6=>intro e1 e2;subst e1 e2;exact B3 (.xx h1 h2 h3 h4 h5 h6)
 |dq hn hc=>
  intro e1 e2;subst e2;simp only[vF]
  split
  .exact .top
  .exact .dq hn hc
 |af iF=>
  intro e1 e2;subst e2;simp only[vF]
  split
  .exact .top
  .exact .af iF
 |dP iF=>
  intro e1 e2;subst e2;simp only[vF]
  split
  .exact .top
  .exact .dP iF
 |dX iF=>
  intro e1 e2;subst e2;simp only[vF]
  split
  .exact .top
  .exact .dX iF
 | @fE K' b' sz iF=>
  intro e1 e2;subst e2;simp only[vF]
  split
  .split
   .exact .aL (cs:=[]) (by simp) (by simp) (bG _) (λ_=>rfl) (by simp) (by simp) (by simp) (by simp)
   .exact .top
  .exact .fE iF
 | @bn K' b' sz n g m cap aJ e iF nu hc hn hm iW=>
  intro e1 e2;subst e1 e2;simp only[vF]
  split
  .rename_i yz
   have yz:=beq_true yz;subst yz
   split
   .rename_i bJ
    have bJ:=beq_true bJ;subst bJ;have lp:=h.aa b' ae hb;have iZ:dA (aK O) ae.sz (.bn b' ae.sz n)=some (n,ae.aa.take n,ae.kd):=by
     simp only[dA,hb];rw[show Nat.beq ae.sz ae.sz=true from dz ae.sz]
    obtain⟨hl,hu,A,cp,cg,e0,ny,cH,dC,CG⟩:=ig h iZ (VR.bn iF nu hc hn hm iW);injection e0 with e2 e3 e4
    refine .aL (cs:=cg) hl hu hn (λh=>by cases h) (by rw[ny,bD hu,<-hl]) dC (λdW=>?_) (λj u x iG hx=>?_)
    .have gW:0<n:=by
      rcases mq n with h0|h0
      .subst h0;simp at dW
      .exact h0
     obtain⟨g',o',e5,fw⟩:=cH gW;rw[<-e2]at e5;injection e5 with e5;injection e5 with e5 e6;subst e5 e6
     exact⟨g,0,rfl,(bd.1 hc).1,λhg=>(hX g hg).2 (aU iF),fw⟩
    .have:=CG j u x iG hx
     rcases hk with hk|hk
     .rw[hk]at this
      exact VR.sub this λg _ hg=>trivial
     .rw[hk]at this
      exact VR.sub this λg _ hg=>(hX g hg).1
   .exact .top
  .exact .bn iF nu hc hn hm iW
theorem bC.OV(h:bC E K ⟨fr,O⟩ a w)(hb:aK O b=some ae)(hk:ae.kd=.pure∨ae.kd=.flat):bC E K ⟨IW b ae fr,yB b ae O⟩ a w:=by
 have hX:=h.OT hb;refine⟨h.size,h.defers,h.ext,λt=>?_,λi y hi=>?_,λi y hi=>?_,λi i' g h1 h2=>?_,λi g h1=>?_,h.gK⟩
 .show FV w _ K _ (lk (IW b ae fr) t) _
  rw[OS];have hf:=h.fr t
  show FV w _ K _ (vF b ae (lk fr t)) _
  generalize hu:lk fr t=u at hf⊢
  cases u with
  |opt d bf v=>
   simp only[vF]
   split
   .exact FV.top
   .exact hf.imp (λq=>⟨q.1,q.2.sub λg _ hg=>(hX g hg).1⟩) id
  |_=>exact FV.of (OU h hb hk (FV.vr hf (by rintro d bf v ⟨⟩)))
 .obtain⟨h1,x,h2,rfl⟩:=nM hi
  intro row aD;obtain⟨_,_,e3,_,_⟩:=CY b ae x;rw[e3];unfold wX at aD
  split at aD
  .obtain⟨tK,jV,rfl⟩:=cK.1 aD
   rw[ri];exact h.aa i x h2 tK jV
  .exact h.aa i x h2 row aD
 .obtain⟨h1,x,h2,rfl⟩:=nM hi
  obtain⟨e1,e2,e3,e4,e5⟩:=CY b ae x;rw[e5]
  rcases h.own i x h2 with⟨q1,q2⟩|⟨g,q1,aJ,q2,q3⟩
  .exact .inl ⟨q1,bE (by rw[e5,q2];rfl)⟩
  .refine .inr ⟨g,q1,aJ,?_,λj u hj=>?_⟩
   .have fw:=q2.ad rfl (dv.refl _ _) (λg _ hg=>(hX g hg).1)
    unfold aV at fw⊢;rw[e1,e2,e3,e4]
    cases fZ:x.kd<;>rw[fZ]at fw
    .exact fw
    .exact fw
    .exact fw
    .obtain⟨p1,p2,p3⟩:=fw
     exact⟨p1,bE (by rw[e5,p2];rfl),p3⟩
   .cases fZ:x.kd with
    |any=>
     have JZ:(wX b ae x).aa=x.aa.map (qn b ae):=by unfold wX;rw[fZ]
     rw[JZ,CX]at hj;obtain⟨u',iG,rfl⟩:=rj hj;obtain⟨c,c1,c2,c3⟩:=q3 j u' iG;refine⟨c,c1,c2,?_⟩;rw[fZ]at c3;rw[e1,fZ];exact OU h hb hk c3
    |_=>
     have JZ:wX b ae x=x:=by unfold wX;rw[fZ]
     rw[JZ]at hj⊢;obtain⟨c,c1,c2,c3⟩:=q3 j u hj;refine⟨c,c1,c2,?_⟩;rw[fZ]at c3⊢;exact VR.sub c3 (nJ λg _ hg=>(hX g hg).1)
 .obtain⟨y,hy⟩:=bF.1 h1
  obtain⟨y',J1⟩:=bF.1 h2;obtain⟨_,x,q1,_⟩:=nM hy;obtain⟨_,x',q2,_⟩:=nM J1;exact h.inj i i' g (by simp[q1]) (by simp[q2])
 .obtain⟨y,hy⟩:=bF.1 h1
  obtain⟨_,x,q1,_⟩:=nM hy;exact h.fI i g (by simp[q1])
end
def Mg:Kd->Bool
 |.pure=>true
 |.flat=>true
 |_=>false
theorem aj.OV{ps:List Nat}{c:aM}(b:Nat)(ae:ak)(hb:aK c.O b=some ae)(hk:Mg ae.kd=true):aj ps c ⟨IW b ae c.fr,yB b ae c.O⟩:=by
 rintro E a w _ ⟨K,h⟩;obtain⟨fr,O⟩:=c;refine⟨K,h.OV hb ?_⟩
 cases fZ:ae.kd<;>rw[fZ]at hk<;>first|exact .inl rfl|exact .inr rfl|cases hk
theorem aj.flat{ps:List Nat}{c:aM}(b:Nat)(ae:ak)(hb:aK c.O b=some ae)(hk:ae.kd=.pure):aj ps c ⟨c.fr,di b {ae with kd:=.flat} c.O⟩:=by
 rintro E a w _ ⟨K,h⟩;refine⟨K,h.SL hb rfl rfl λg hB=>?_⟩;obtain⟨aJ,hc,hu⟩:=hB;refine⟨aJ,by unfold aV at hc⊢;rw[hk]at hc;exact hc,λj u hj=>?_⟩;obtain⟨x,hx,h1,hv⟩:=hu j u hj;refine⟨x,hx,h1,?_⟩;rw[hk]at hv;exact VR.sub hv λ_ _ _=>trivial
theorem aj.slot{ps:List Nat}{c:aM}(t:Nat){u:AV}(u':AV)(hu:lk c.fr t=u)(hn:ir u=true)(hi:pK u u'):aj ps c ⟨(t,u')::c.fr,c.O⟩:=by
 rintro E a w _ ⟨K,h⟩;refine⟨K,h.size,h.defers,h.ext,λs=>?_,h.aa,h.own,h.inj,h.fI,h.gK⟩
 show FV w _ K _ (lk ((t,u')::c.fr) s) _
 rw[gC]
 split
 .rename_i e
  subst e;have hf:=h.fr t;rw[hu]at hf;exact FV.of (hi _ _ _ _ (FV.vr hf (by rintro d bf v rfl;cases hn)))
 .exact h.fr s
theorem pK.dq(b sz n:Nat):pK (.bn b sz n) (.dq b sz 0 n):=by
 intro w X K v h
 rcases VR.c9 h with⟨h1,h2,rfl⟩|⟨g,cap,aJ,e,m,h1,h2,rfl,h4,h5,h6,h7⟩
 .subst h2;exact .dq (λh=>by omega) (λh=>by omega)
 .exact .dq (λ_=>⟨g,m,h1,by omega,by simp⟩) (λ_=>⟨h5,h6,g,0,aJ,e,rfl,h4,by omega⟩)
abbrev xT(r:Option Nat):Fence:={Fence.wide with round:=r}
def Kj(o:Oper):Bool:=match o.op with|.defer _=>false|_=>true
def wd(ds:List Deferred)(a:Act):Act:={a with defers:=a.defers++ds}
theorem EC(ds:List Deferred)(a:Act):(wd ds a).eval=a.eval:=rfl
theorem IX(ds:List Deferred)(a:Act)(d:Option Tmp)(v:Value):wd ds (a.put d v)=(wd ds a).put d v:=by cases d<;>rfl
def Sm(ws:List Nat)(a a':Act):Prop:=∀t,bm t ws=false->a'.tmps.getD t undef=a.tmps.getD t undef
theorem Sm.refl(ws:List Nat)(a:Act):Sm ws a a:=λ_ _=>rfl
theorem Sm.put{ws:List Nat}{a a':Act}(h:Sm ws a a'){d:Option Nat}(hd:∀t,d=some t->bm t ws=true)(v:Value):Sm ws a (a'.put d v):=by
 cases d with
 |none=>exact h
 |some d=>
  intro t ht;have dW:d≠t:=by intro e;subst e;rw[hd d rfl]at ht;cases ht
  rw[<-h t ht]
  show(a'.tmps.setIfInBounds d v).getD t undef=a'.tmps.getD t undef
  rw[dI,dI,hU dW]
section
variable{P:Program} {aB:Array Oper} {Q Q':Exit->Act->World->Prop} {r:Option Nat} {n:Nat} {ds:List Deferred} {ws:List Nat}
theorem OX{f:FuncId}{args:Array Value}{w:World}{R:Ending->World->Prop}(h:Calls P f args w R):CallsIn (xT r) n P f args w R:=by
 have:=callsIn_wide (n:=n).2 h;exact this
theorem S3{row:String}{args:Array Value}{w:World}{R:Value->World->Prop}(h:Rows P row args w R):RowsIn (xT r) n P row args w R:=by
 intro c cs _;obtain⟨v,w',r1,s⟩:=h c cs;exact⟨v,w',r1,stepsIn_wide.2 s⟩
theorem S4{o:Oper}{a:Act}{K K':Act->World->Prop}{res:Result Next}(h:o.upon P a K Q res)(hK:∀d v w,K ({a with defers:=d++a.defers}.put o.dst v) w->K' (wd ds ({a with defers:=d++a.defers}.put o.dst v)) w)
  (hQ:∀ch w,Q (.panic ch) a w->Q' (.panic ch) (wd ds a) w)(kL:LetsOut Q->LetsOut Q'):o.uponIn (xT r) n P (wd ds a) K' Q' res:=by
 have hK0:∀v w,K (a.put o.dst v) w->K' ((wd ds a).put o.dst v) w:=λv w h=>by rw[<-IX];exact hK [] v w h
 cases res with
 |ok x w'=>
  cases x with
  |value v=>exact hK0 _ _ h
  |skip=>exact hK0 _ _ h
  |defer d=>
   have:=hK [d] undef w' h;rw[IX]at this;exact this
  |enter f args=>
   refine⟨λh=>(by cases h),OX (h.mono λe w' he=>?_)⟩
   cases e with
   |returned v=>exact hK0 _ _ he
   |panicked ch=>exact hQ _ _ he
   |outgrown=>exact kL he
  |row row args=>exact⟨λh=>(by cases h),S3 (h.mono λv w' he=>hK0 _ _ he)⟩
  |_=>exact h.elim
 |halt x w'=>
  cases x<;>first|exact hQ _ _ h|exact h.elim
theorem abf{o:Oper}{a:Act}{w:World}{K K':Act->World->Prop}(hnd:Kj o=true)(h:o.wp P a w K Q)(hK:∀d v w,K ({a with defers:=d++a.defers}.put o.dst v) w->K' (wd ds ({a with defers:=d++a.defers}.put o.dst v)) w)
  (hQ:∀ch w,Q (.panic ch) a w->Q' (.panic ch) (wd ds a) w)(kL:LetsOut Q->LetsOut Q'):o.wpIn (xT r) n P (wd ds a) w K' Q':=by
 refine⟨λ_ _=>trivial,?_⟩;rw[Oper.semAt_eq _ _ _ (λc e=>by unfold Kj at hnd;rw[e]at hnd;cases hnd),EC];exact S4 h hK hQ kL
def oh(ws:List Nat):List Oper->Bool
 |[]=>true
 |o::r=>(match o.dst with|some d=>bm d ws|none=>true)&&Kj o&&oh ws r
theorem AP:∀{l:List Oper},oh ws l=true->∀o∈l,(∀t,o.dst=some t->bm t ws=true)/\Kj o=true
 |[],_,o,h=>by cases h
 |x::r,hd,o,h=>by
  simp only[oh,aA]at hd
  rcases bK.1 h with rfl|h
  .refine⟨λt ht=>?_,hd.1.2⟩
   have:=hd.1.1;rw[ht]at this;exact this
  .exact AP hd.2 o h
theorem Kl{i:Nat}{a0 a:Act}{w:World}{K K':Act->World->Prop}(hd:oh ws aB.toList=true)(hs:Sm ws a0 a)(kL:¬LetsOut Q)(h:wpOp P aB Q i K a w)(hK:∀a w,Sm ws a0 a->K a w->K' (wd ds a) w)
  (hQ:∀e a w,Sm ws a0 a->Q e a w->Q' e (wd ds a) w):wpOpIn (xT r) n P aB Q' i K' (wd ds a) w:=by
 unfold wpOp at h;unfold wpOpIn
 cases ho:aB[i]? with
 |none=>rw[ho]at h;exact hK _ _ hs h
 |some o=>
  rw[ho]at h;simp only at h⊢;have hm:o∈aB.toList:=ay (by rw[mu];exact ho);obtain⟨h1,h2⟩:=AP hd o hm
  show if Region.wanted o (yielded aB a.tmps)=true then _ else _
  split
  .rename_i hw
   rw[if_pos hw]at h
   rcases h with h|h
   .exact abf h2 h (λd v w hk=>hK _ _ ((show Sm ws a0 {a with defers:=d++a.defers}from hs).put h1 v) hk) (λch w hq=>hQ _ _ _ hs hq) (λhl=>absurd hl kL)
   .exact absurd h.2 kL
  .rename_i hw
   rw[if_neg hw]at h;refine⟨λ_ _=>trivial,?_⟩;have:=hK _ _ (hs.put h1 undef) h;rw[IX]at this;exact this
theorem AQ{a0:Act}(hd:oh ws aB.toList=true)(kL:¬LetsOut Q)(hQ:∀e a w,Sm ws a0 a->Q e a w->Q' e (wd ds a) w):∀(l:List Nat)(a:Act)(w:World),Sm ws a0 a->wpOps P aB Q l a w->wpOpsIn (xT r) n P aB Q' l (wd ds a) w
 |[],a,w,hs,h=>hQ _ _ _ hs h
 |i::l,a,w,hs,h=>by
  rw[wpOps_cons]at h;rw[wpOpsIn_cons];exact Kl hd hs kL h (λa w hs hk=>AQ hd kL hQ l a w hs hk) hQ
theorem GJ{a0:Act}{md:Region.Mode}(hd:oh ws aB.toList=true)(kL:¬LetsOut Q)(hQ:∀e a w,Sm ws a0 a->Q e a w->Q' e (wd ds a) w):∀(fuel:Nat)(li:Array Bool)(a:Act)(w:World),Sm ws a0 a->wpAny P md aB Q fuel li a w->wpAnyIn (xT r) n P md aB Q' fuel li (wd ds a) w
 |0,li,a,w,hs,h=>⟨h.1,hQ _ _ _ hs h.2⟩
 |fuel+1,li,a,w,hs,h=>⟨λe=>hQ _ _ _ hs (h.1 e),λi hi=>Kl hd hs kL (h.2 i hi) (λa w hs hk=>GJ hd kL hQ fuel _ a w hs hk) hQ⟩
end
def rk(gs:List (Nat×List Nat))(ws:List Nat):Code->Bool
 |.region id aB dr=>oh ws aB.toList&&(match dr,OI gs id with|false,_=>true|true,[]=>true|true,_=>false)
 |.seq x y=>rk gs ws x&&rk gs ws y
 |.cond _ x y=>rk gs ws x&&rk gs ws y
 |.block _ b=>rk gs ws b
 |.loop b=>rk gs ws b
 |_=>true
section
variable{P:Program} {T:dD} {E:Env} {N:Nat} {ks wk ps:List Nat} {gs:List (Nat×List Nat)} {r:Option Nat} {m:Nat} {ds:List Deferred} {ws:List Nat}
theorem tl(hT:br P T)(h1:bW T=true)(hN:E.N=N)(hm:P.follows .mixedOrders=true)(hp:∀b,bm b ps=false->E.gK b=none){id:Nat}{l:List Nat}{aB:Array Oper}{dr:Bool}{c:aM}{a a0:Act}{w:World}{Kk:aM->Prop}{Q':Exit->Act->World->Prop}(hd:cr (.region id aB dr)=true)
  (RF:oh ws aB.toList=true)(hl:dr=true->l=[])(h:AL P T N ks l ps aB dr c Kk)(hQ:∀c a w,Kk c->SR E c a w->Sm ws a0 a->Q' .normal (wd ds a) w)(hs:SR E c a w)(ku:Sm ws a0 a):(Code.region id aB dr).wpIn (xT r) m P Q' (wd ds a) w:=by
 have kL:¬LetsOut (λe a w=>e=Exit.normal/\∃c,Kk c/\SR E c a w):=by rintro⟨a,w,h,_⟩;cases h
 have hq:∀e a w,Sm ws a0 a->(e=Exit.normal/\∃c,Kk c/\SR E c a w)->Q' e (wd ds a) w:=by
  rintro e a w ku ⟨rfl,c,hk,hs⟩;exact hQ c a w hk hs ku
 cases dr with
 |false=>
  have h':∃dm,wV P T N dm ks ps aB l c Kk:=by
   unfold AL at h;simp only at h
   split at h
   .exact⟨[],h⟩
   .exact h
  obtain⟨dm,h'⟩:=h';have:=vE (Q:=λe a w=>e=Exit.normal/\∃c,Kk c/\SR E c a w) hT h1 hN hp (λc a w hk hs=>⟨rfl,c,hk,hs⟩) h' hs;exact wpIn_region (AQ RF kL hq _ _ _ ku this)
 |true=>
  obtain rfl:=hl rfl;have h':∃dm,cZ true P T N dm aB ⟨c,[],[]⟩ 0 aB.toList c λc'=>lf ks c' Kk:=by
   unfold AL at h;simp only at h
   split at h
   .exact⟨[],h⟩
   .exact h
  obtain⟨dm,h'⟩:=h';have:=As (Q:=λe a w=>e=Exit.normal/\∃c,Kk c/\SR E c a w) hT h1 hN hd (λc a w hk hs=>⟨rfl,_,uQ.1 hk,hs.lf⟩) h' hs;exact wpIn_region_any hm (GJ RF kL hq _ _ _ _ ku this)
theorem fB(hT:br P T)(h1:bW T=true)(hN:E.N=N)(hm:P.follows .mixedOrders=true)(hp:∀b,bm b ps=false->E.gK b=none){a0:Act}:
  ∀(code:Code)(c:aM)(Q:Ex->aM->Prop)(Q':Exit->Act->World->Prop)(a:Act)(w:World),cr code=true->rk gs ws code=true->mY P T N ks gs wk ps code c Q->
   (∀e c a w,Q e c->SR E c a w->Sm ws a0 a->Q' e.jj (wd ds a) w)->SR E c a w->Sm ws a0 a->code.wpIn (xT r) m P Q' (wd ds a) w
 |.skip,c,Q,Q',a,w,hd,hr,h,hQ,hs,ku=>wpIn_skip (hQ .normal c a w h hs ku)
 |.region id aB dr,c,Q,Q',a,w,hd,hr,h,hQ,hs,ku=>by
  simp only[rk,aA]at hr;have hl:dr=true->OI gs id=[]:=by
   rintro rfl;have:=hr.2
   split at this
   .rename_i h;cases h
   .assumption
   .cases this
  simp only[mY]at h
  split at h
  .obtain⟨c',hw,h⟩:=h
   exact tl hT h1 hN hm hp hd hr.1 hl h (λc a w hk hs ku=>hQ .normal c a w hk hs ku) (hw E a w hp hs) ku
  .exact tl hT h1 hN hm hp hd hr.1 hl h (λc a w hk hs ku=>hQ .normal c a w hk hs ku) hs ku
 |.seq x y,c,Q,Q',a,w,hd,hr,h,hQ,hs,ku=>by
  simp only[cr,aA]at hd;simp only[rk,aA]at hr;refine wpIn_seq (fB hT h1 hN hm hp x c _ _ a w hd.1 hr.1 h (λe c a w hq hs ku=>?_) hs ku)
  cases e with
  |normal=>exact fB hT h1 hN hm hp y c Q Q' a w hd.2 hr.2 hq hQ hs ku
  |exit id=>exact hQ _ c a w hq hs ku
  |ret=>exact hQ _ c a w hq hs ku
 |.cond x t e,c,Q,Q',a,w,hd,hr,h,hQ,hs,ku=>by
  simp only[cr,aA]at hd;simp only[rk,aA]at hr;simp only[mY]at h
  split at h
  .rename_i b hb
   exact wpIn_cond_split (a:=wd ds a) (by rw[EC];exact Au hs hb) (λht=>fB hT h1 hN hm hp t c Q Q' a w hd.1 hr.1 (h.1 ht) hQ hs ku) (λht=>fB hT h1 hN hm hp e c Q Q' a w hd.2 hr.2 (h.2 ht) hQ hs ku)
  .exact h.elim
 |.block id b,c,Q,Q',a,w,hd,hr,h,hQ,hs,ku=>by
  refine wpIn_block (fB hT h1 hN hm hp b c _ _ a w hd hr h (λe c a w hq hs ku=>?_) hs ku)
  cases e with
  |normal=>exact hQ _ c a w hq hs ku
  |exit HZ=>
   simp only[Ex.jj,Exit.inBlock];simp only at hq
   split at hq
   .rename_i he
    rw[if_pos (beq_true he)];exact hQ .normal c a w hq hs ku
   .rename_i he
    rw[if_neg (beq_false he)];exact hQ (.exit HZ) c a w hq hs ku
  |ret=>exact hQ _ c a w hq hs ku
 |.exit id,c,Q,Q',a,w,hd,hr,h,hQ,hs,ku=>wpIn_exit (hQ (.exit id) c a w h hs ku)
 |.ret,c,Q,Q',a,w,hd,hr,h,hQ,hs,ku=>wpIn_ret (hQ .ret c a w h hs ku)
 |.loop b,c,Q,Q',a,w,hd,hr,h,hQ,hs,ku=>by
  obtain⟨I,⟨n,c',hw,hI⟩,xL⟩:=h;refine wpIn_loop_ghost (λn a' w=>∃a,a'=wd ds a/\Sm ws a0 a/\∃c,I n c/\SR E c a w) n ⟨a,rfl,ku,c',hI,hw E a w hp hs⟩ ?_;rintro n a' w ⟨a,rfl,ku,c,hI,hs⟩;refine fB hT h1 hN hm hp b c _ _ a w hd hr (xL n c hI) (λe c a w hq hs ku=>?_) hs ku
  cases e with
  |normal=>
   obtain⟨m,wD,hw,aC,yR⟩:=hq;exact⟨m,aC,a,rfl,ku,wD,yR,hw E a w hp hs⟩
  |exit id=>exact hQ _ c a w hq hs ku
  |ret=>exact hQ _ c a w hq hs ku
 |.rangeFunc _ _ _ _,c,Q,Q',a,w,hd,hr,h,hQ,hs,ku=>h.elim
 |.scope _,c,Q,Q',a,w,hd,hr,h,hQ,hs,ku=>h.elim
 |.label _,c,Q,Q',a,w,hd,hr,h,hQ,hs,ku=>h.elim
 |.goto _,c,Q,Q',a,w,hd,hr,h,hQ,hs,ku=>h.elim
 |.refuse _,c,Q,Q',a,w,hd,hr,h,hQ,hs,ku=>h.elim
end
def AR:Obj->Bool
 |.loop _=>true
 |.deferred _=>true
 |.mapIter _ since _ _=> !Nat.beq since 0
 |_=>false
structure qo(B:Nat)(w w':World):Prop where
 os:w'.os=w.os
 tape:w'.tape=w.tape
 output:w'.output=w.output
 size:w.heap.size<=w'.heap.size
 data:∀(g:Nat) o,w.heap[g]?=some o->AR o=false->w'.heap[g]?=some o
 low:∀g,g<B->w'.heap[g]?=w.heap[g]?
theorem qo.refl(B:Nat)(w:World):qo B w w:=⟨rfl,rfl,rfl,bG _,λ_ _ h _=>h,λ_ _=>rfl⟩
theorem qo.trans{B:Nat}{w w' w'':World}(h:qo B w w')(k:qo B w' w''):qo B w w'':=
 ⟨k.os.trans h.os,k.tape.trans h.tape,k.output.trans h.output,du h.size k.size,λg o h1 h2=>k.data g o (h.data g o h1 h2) h2,λg hg=>(k.low g hg).trans (h.low g hg)⟩
theorem qo.putObj{B:Nat}{w:World}{l:Nat}{o:Obj}(o':Obj)(hl:w.heap[l]?=some o)(ho:AR o=true)(hB:B<=l):qo B w (w.putObj l o'):=
 ⟨rfl,rfl,rfl,by simp,λg x h1 h2=>by
  have dW:g≠l:=by rintro rfl;rw[hl]at h1;cases h1;rw[ho]at h2;cases h2
  exact(World.putObj_heap_other dW).trans h1,λg hg=>World.putObj_heap_other (by omega)⟩
theorem qo.alloc{B:Nat}(w:World)(o:Obj)(hB:B<=w.heap.size):qo B w (w.alloc o):=
 ⟨rfl,rfl,rfl,by simp,λg x h1 h2=>(Below.heap_alloc w o g (bd.1 h1).1).trans h1,λg hg=>Below.heap_alloc w o g (by omega)⟩
theorem GK{B:Nat}{w w':World}(h:qo B w w'){p:Addr}{v:Value}(hc:w.cell? p=some v):w'.cell? p=some v:=by
 unfold World.cell? at hc⊢
 split at hc
 .rename_i c e z hh
  rw[h.data _ _ hh rfl];exact hc
 .cases hc
theorem VR.vG{B:Nat}{w w':World}{X:Nat->Prop}{K:KM}{u:AV}{v:Value}(hv:VR w X K u v)(h:qo B w w'):VR w' X K u v:=by
 induction hv with
 |top=>exact .top
 |bool=>exact .bool
 |int=>exact .int
 |str=>exact .str
 |ai=>exact .ai
 |fc=>exact .fc
 |nU=>exact .nU
 |o9=>exact .o9
 |lit=>exact .lit
 |agg hl h1 hv ih=>exact .agg hl h1 λj u c hu hc=>ih j u c hu hc
 |bY hl hv ih=>exact .bY hl λj u c hu hc=>ih j u c hu hc
 |func hl hv ih=>exact .func hl λj u c hu hc=>ih j u c hu hc
 |aL hn bJ iW hA dM h1 cH hv ih=>
  refine .aL hn bJ iW hA dM h1 (λdW=>?_) (λj u c hu hc=>ih j u c hu hc);obtain⟨g,o,e,hg,hx,hc⟩:=cH dW;exact⟨g,o,e,ew hg h.size,hx,λj c hj=>GK h (hc j c hj)⟩
 |aw dM h1 hg hx hc hv ih=>exact .aw dM h1 (ew hg h.size) hx (λj c hj=>GK h (hc j c hj)) (λj u c hu hc=>ih j u c hu hc)
 |bn iF nu hc hn hm iW=>exact .bn iF nu (h.data _ _ hc rfl) hn hm iW
 |fE iF=>exact .fE iF
 |dq hn hc=>exact .dq hn (λh0=>(by
   obtain⟨h1,h2,g,o,aJ,e,h3,h4,h5⟩:=hc h0;exact⟨h1,h2,g,o,aJ,e,h3,h.data _ _ h4 rfl,h5⟩))
 |af iF=>exact .af iF
 |dP iF=>exact .dP iF
 |dX iF=>exact .dX iF
 |iB hm hg hx bJ hl h1 hv ih=>
  obtain⟨es,m1,m2⟩:=hm;exact .iB ⟨es,h.data _ _ m1 rfl,m2⟩ (ew hg h.size) hx bJ hl h1 (λj u c hu hc=>ih j u c hu hc)
 |xx h1 h2 h3 h4 h5 h6=>exact .xx (h.data _ _ h1 rfl) (h.data _ _ h2 rfl) (ew h3 h.size) (ew h4 h.size) h5 h6
theorem FV.vG{B:Nat}{w w':World}{X:Nat->Prop}{K:KM}{tm:Array Value}{u:AV}{v:Value}(hv:FV w X K tm u v)(h:qo B w w'):FV w' X K tm u v:=by
 cases u with
 |opt d bf u'=>
  rcases hv with⟨h1,h2⟩|h1
  .exact .inl ⟨h1,h2.vG h⟩
  .exact .inr h1
 |_=>exact VR.vG hv h
theorem nW.vG{B:Nat}{w w':World}{X:Nat->Prop}{g sz:Nat}{ag st:Bool}{aa:List (List AV)}{es:Array MapEntry}(hm:nW w X g ag st sz aa es)(h:qo B w w'):nW w' X g ag st sz aa es:=
 ⟨h.data _ _ hm.obj rfl,hm.born,hm.agg,hm.key,hm.size,λi row e h1 h2=>by
  obtain⟨a,b,c,d,f⟩:=hm.FO i row e h1 h2;exact⟨a,b,c,d,λj u c hu hc=>(f j u c hu hc).vG h⟩⟩
theorem aV.vG{B:Nat}{w w':World}{X:Nat->Prop}{g:Nat}{ae:ak}{aJ:Array Value}(hh:aV w X g ae aJ)(h:qo B w w'):aV w' X g ae aJ:=by
 unfold aV at hh⊢
 split at hh
 .obtain⟨a,b,es,hm⟩:=hh
  exact⟨a,b,es,hm.vG h⟩
 .exact h.data _ _ hh rfl
theorem l8.vG{B:Nat}{w w':World}{X:Nat->Prop}{K:KM}{g:Nat}{ae:ak}(hb:l8 w X K g ae)(h:qo B w w'):l8 w' X K g ae:=by
 obtain⟨aJ,h1,h2⟩:=hb;exact⟨aJ,h1.vG h,λj u hu=>let⟨c,a,b,d⟩:=h2 j u hu;⟨c,a,b,d.vG h⟩⟩
section
variable{E:Env} {K:KM} {c:aM} {a:Act} {w:World}
theorem Ext.vG{X0:Nat->Prop}{w0 w w':World}(hx:Ext X0 w0 w)(h:qo w0.heap.size w w'):Ext X0 w0 w':=
 ⟨h.os.trans hx.os,h.tape.trans hx.tape,h.output.trans hx.output,du hx.size h.size,λg hg hX=>(h.low g hg).trans (hx.block g hg hX),λg aJ e hc=>by
  obtain⟨dw,h1,h2⟩:=hx.shape g aJ e hc;exact⟨dw,h.data _ _ h1 rfl,h2⟩⟩
theorem bC.vG{w':World}(hs:bC E K c a w)(h:qo E.w0.heap.size w w'):bC E K c a w':=
 ⟨hs.size,hs.defers,hs.ext.vG h,λt=>(hs.fr t).vG h,hs.aa,λb ae hb=>by
  rcases hs.own b ae hb with h1|⟨g,h1,h2⟩
  .exact .inl h1
  .exact .inr ⟨g,h1,h2.vG h⟩,hs.inj,hs.fI,hs.gK⟩
theorem Ext.comp{X0:Nat->Prop}{w0 w w':World}{O:List (Nat×ak)}(hx:Ext X0 w0 w)(hm:∀b g,(aK O b).isSome=true->aG K b=some g->X0 g∨w0.heap.size<=g)(h:Ext (bH K O) w w'):Ext X0 w0 w':=
 ⟨h.os.trans hx.os,h.tape.trans hx.tape,h.output.trans hx.output,du hx.size h.size,λg hg hX=>by
  rw[h.block g (ew hg hx.size) λ⟨b,hb,hk⟩=>?_]
  .exact hx.block g hg hX
  .rcases hm b g hb hk with h|h
   .exact hX h
   .omega,λg aJ e hc=>by
  obtain⟨c1,h1,s1⟩:=hx.shape g aJ e hc;obtain⟨c2,h2,s2⟩:=h.shape g c1 e h1;exact⟨c2,h2,s2.trans s1⟩⟩
def Env.at(E:Env)(K:KM)(O:List (Nat×ak))(w:World)(hx:Ext E.X0 E.w0 w)(hm:∀b g,(aK O b).isSome=true->aG K b=some g->E.X0 g∨E.w0.heap.size<=g):Env where
 X0:=bH K O
 XF:=λg=>E.XF g/\g<E.w0.heap.size
 w0:=w
 N:=E.N
 kS:=λw' h=>E.kS w' (hx.comp hm h)
 gK:=E.gK
 yv:=E.yv
 Fw:=λg hg ⟨b,hb,hk⟩=>by
  rcases hm b g hb hk with h|h
  .exact E.Fw g hg.1 h
  .have:=hg.2;omega
theorem Km{O:List (Nat×ak)}{hx:Ext E.X0 E.w0 w}{hm}{K':KM}{O':List (Nat×ak)}:∀g,XX (E.at K O w hx hm) K' O' g↔XX E K' O' g:=λg=>
 ⟨λh=>by
  rcases h with h|h
  .exact .inl h
  .exact .inr h.1,λh=>by
  rcases h with h|h
  .exact .inl h
  .exact .inr ⟨h,ew h.2 hx.size⟩⟩
theorem bC.CZ{O:List (Nat×ak)}{hx:Ext E.X0 E.w0 w}{hm}{K':KM}{c':aM}{a':Act}{w':World}(h:bC (E.at K O w hx hm) K' c' a' w'):bC E K' c' a' w':=
 ⟨h.size,h.defers,hx.comp hm h.ext,λt=>(h.fr t).sub λg _ hg=>(Km g).2 hg,h.aa,λb ae hb=>by
  rcases h.own b ae hb with h1|⟨g,h1,h2⟩
  .exact .inl h1
  .exact .inr ⟨g,h1,h2.ad rfl (dv.refl _ _) (λg _ hg=>(Km g).2 hg) (λ_ _ _ _ _ _=>rfl)⟩,h.inj,λb g hb hk=>by
  rcases h.fI b g hb hk with⟨b',jS,nI⟩|h'
  .exact hm b' g jS nI
  .exact .inr (du hx.size h'),h.gK⟩
theorem bC.Vl{O:List (Nat×ak)}{hx:Ext E.X0 E.w0 w}{hm}{K':KM}{c':aM}{a':Act}{w':World}(h:bC E K' c' a' w')(sU:Ext (bH K O) w w')(Gf:∀b g,(aK c'.O b).isSome=true->aG K' b=some g->bH K O g∨w.heap.size<=g):bC (E.at K O w hx hm) K' c' a' w':=
 ⟨h.size,h.defers,sU,λt=>(h.fr t).sub λg _ hg=>(Km g).1 hg,h.aa,λb ae hb=>by
  rcases h.own b ae hb with h1|⟨g,h1,h2⟩
  .exact .inl h1
  .exact .inr ⟨g,h1,h2.ad rfl (dv.refl _ _) (λg _ hg=>(Km g).1 hg) (λ_ _ _ _ _ _=>rfl)⟩,h.inj,Gf,h.gK⟩
theorem Ext.refl(X:Nat->Prop)(w:World):Ext X w w:=⟨rfl,rfl,rfl,bG _,λ_ _ _=>rfl,λ_ aJ _ h=>⟨aJ,h,rfl⟩⟩
theorem bC.start(h:bC E K c a w):bC (E.at K c.O w h.ext h.fI) K c a w:=
 h.Vl (Ext.refl _ _) λb g hb hk=>.inl ⟨b,hb,hk⟩
theorem aV.data{X:Nat->Prop}{g:Nat}{ae:ak}{aJ:Array Value}(h:aV w X g ae aJ):∃o,w.heap[g]?=some o/\AR o=false:=by
 unfold aV at h
 split at h
 .obtain⟨_,_,es,hm⟩:=h;exact⟨_,hm.obj,rfl⟩
 .exact⟨_,h,rfl⟩
theorem bC.oW(h:bC E K c a w){g:Nat}{o:Obj}(hg:w.heap[g]?=some o)(ho:AR o=true):¬bH K c.O g:=by
 rintro⟨b,hb,hk⟩;obtain⟨x,hx⟩:=bF.1 hb
 rcases h.own b x hx with⟨h1,_⟩|⟨g',h1,aJ,hc,_⟩
 .rw[show aG K b=none from by simp[aG,h1]]at hk;cases hk
 .rw[aU h1]at hk;injection hk with hk;subst hk
  obtain⟨o',h2,h3⟩:=hc.data;rw[hg]at h2;cases h2;rw[ho]at h3;cases h3
structure Marks(B:Nat)(ds:List Deferred)(w:World):Prop where
 all:∀d∈ds,∃D,d={target:=.collected D,args:=#[]}/\B<=D/\w.heap[D]?=some (.deferred (some []))
 nd:ds.Pairwise λd d'=>∀D D',d.target=.collected D->d'.target=.collected D'->D≠D'
theorem Marks.nil(B:Nat)(w:World):Marks B [] w:=⟨λd h=>(by cases h),.nil⟩
theorem Marks.ext{B:Nat}{ds:List Deferred}{w':World}{c:aM}(h:Marks B ds w)(hs:bC E K c a w)(hx:Ext (bH K c.O) w w'):Marks B ds w':=
 ⟨λd hd=>by
  obtain⟨D,h1,h2,h3⟩:=h.all d hd;exact⟨D,h1,h2,(hx.block D (bd.1 h3).1 (hs.oW h3 rfl)).trans h3⟩,h.nd⟩
end
section
variable{P:Program} {T:dD} {E:Env} {N:Nat} {ks wk ps:List Nat} {gs:List (Nat×List Nat)} {m:Nat} {ds:List Deferred} {ws:List Nat}
theorem Mh(hT:br P T)(h1:bW T=true)(hN:E.N=N)(hm:P.follows .mixedOrders=true)(hp:∀b,bm b ps=false->E.gK b=none){B:Nat}{code:Code}{K:KM}{c:aM}{Q:Ex->aM->Prop}{Q':Exit->Act->World->Prop}{a:Act}{w:World}
  (hd:cr code=true)(hr:rk gs ws code=true)(h:mY P T N ks gs wk ps code c Q)(hs:bC E K c a w)(hM:Marks B ds w)
  (hQ:∀e c a' w',Q e c->SR E c a' w'->Marks B ds w'->Sm ws a a'->Q' e.jj (wd ds a') w'):code.wpIn (xT none) m P Q' (wd ds a) w:=by
 refine fB (E:=E.at K c.O w hs.ext hs.fI) (a0:=a) hT h1 hN hm hp code c Q Q' a w hd hr h (λe c' a' w' hq ⟨K',eh⟩ ku=>?_) ⟨K,hs.start⟩ (Sm.refl _ _);exact hQ e c' a' w' hq ⟨K',eh.CZ⟩ (hM.ext hs eh.ext) ku
end
section
variable{P:Program} {N:Nat}
theorem vH{fn:Func}{tmps:Array Value}{R:Ending->World->Prop}{B n:Nat}:∀(ds:List Deferred)(w:World),Marks B ds w->(∀w',qo B w w'->LeavesIn Fence.wide n P fn tmps R [] .returning w')->LeavesInM Fence.wide n P fn tmps R ds .returning w
 |[],w,_,h=>h w (qo.refl _ _)
 |d::ds,w,hM,h=>by
  obtain⟨D,rfl,hB,hD⟩:=hM.all d (by simp);have ho:qo B w (w.putObj D (.deferred none)):=qo.putObj _ hD rfl hB;refine⟨λe=>(by cases e),.inl ⟨D,_,rfl,run_takeDeferred hD,vH ds _ ⟨λd hd=>?_,(gF.1 hM.nd).2⟩ λw' hw=>h w' (ho.trans hw)⟩⟩;obtain⟨D',rfl,hB',No⟩:=hM.all d (by simp[hd]);have dW:D≠D':=(gF.1 hM.nd).1 _ hd D D' rfl rfl;exact⟨D',rfl,hB',(World.putObj_heap_other (Ne.symm dW)).trans No⟩
def abg(T:dD)(rv:List ResultVar)(r:AV)(E:Env):Exit->Act->World->Prop:=λe a w=>(e=.normal∨e=.ret)/\∃ds a0,a=wd ds a0/\Marks E.w0.heap.size ds w/\∃K c,bC E K c a0 w/\IM T c rv r
theorem XY{T:dD}{f:FuncId}{fn:Func}{code:Code}{args:List AV}{r:AV}(rv:List ResultVar)(hT:br P T)
  (hf:P.funcs[f]?=some fn)(hb:fn.body=some code)(ek:(fn.name== "runtime.NumGoroutine")=false)(hn:Nat.ble args.length fn.ntmps=true)(hN:fn.ntmps=N)
  (hr:fn.results.toList=rv)(h:∀(E:Env)(K:KM)(a:Act)(w:World),E.N=N->(∀b,E.gK b=none)->bC E K ⟨idx 0 args,[]⟩ a w->code.wpIn (xT none) 0 P (abg T rv r E) a w):Fn P f args r:=by
 refine⟨⟨fn,hf,ek,by rw[hb];rfl⟩,λX w vs kS cz fU=>?_⟩;refine(callsIn_wide (n:=0)).1 (callsIn_of_wp_marks hf hb trivial ?_ rfl);have RC:=dn hn;subst hN;refine wpIn_mono (h (zI (λ_=>False) X w fn.ntmps (λw' hx=>kS.mono hx.size λg hg=>hx.block g hg id)) K0 _ _ rfl (λ_=>rfl) ?_) ?_
 .refine⟨by simp;omega,rfl,⟨rfl,rfl,rfl,bG _,λ_ _ _=>rfl,λ_ aJ _ h=>⟨aJ,h,rfl⟩⟩,λt=>?_,λb ae hb=>by simp[aK]at hb,λb ae hb=>by simp[aK]at hb,λb b' g hb=>by simp[aK]at hb,λb g hb=>by simp[aK]at hb,λb x hx=>by cases hx⟩
  simp only[uc,cF,yH,lz]
  cases hu:args[t]? with
  |none=>rw[lJ,hu];exact FV.top
  |some u=>
   rw[lJ,hu];have ht:t<vs.size:=by rw[<-cz];exact(aE.1 hu).1
   have hv:vs[t]?=some vs[t]:=by simp[ht]
   have:=fU t u _ hu hv;rw[show(vs++Array.replicate (fn.ntmps-vs.size) undef).getD t undef=vs[t]by
    rw[dI,D1 ht,hv];rfl]
   refine FV.of (this.sub λg hg hX=>?_)
   rcases hX with⟨b,hb,_⟩|hX
   .simp[aK]at hb
   .exact hX.1.1
 .rintro e a w' ⟨he,ds,a0,rfl,hM,K,c,hs,hq⟩
  have key:LeavesInM Fence.wide 0 P fn (wd ds a0).tmps (λe w'=>∃v,e=.returned v/\RR w' w.heap.size (λg=>X g/\g<w.heap.size) r v/\Below w.heap.size w w') (wd ds a0).defers .returning w':=by
   have Mi:(wd ds a0).defers=ds:=by show a0.defers++ds=ds;rw[hs.defers];rfl
   rw[Mi];refine vH ds w' hM λw2 ho=>?_
   have uz:bC _ K c a0 w2:=hs.vG ho;obtain⟨vs,hl,ht,hR⟩:=ud hT uz hq;exact⟨_,gh hr _ _ hl ht,_,rfl,hR,uz.ext.os,uz.ext.tape,uz.ext.output,uz.ext.size,λk hk=>uz.ext.block k hk (λh=>h)⟩
  rcases he with rfl|rfl
  .exact key
  .exact key
end
def uh:AV->Bool
 |.agg xs=>AV.kW xs
 |u=>u.fp
theorem ui{w w':World}{X X':Nat->Prop}{K K':KM}{u:AV}{v:Value}(hu:u.fp=true)(h:VR w X K u v):VR w' X' K' u v:=by
 cases h<;>first|(cases hu;done)|exact .bool|exact .int|exact .str|exact .ai|exact .fc
theorem C0:∀{xs:List AV},AV.kW xs=true->∀(j:Nat) u,xs[j]?=some u->u.fp=true
 |[],_,j,u,h=>by simp at h
 |x::xs,hx,0,u,h=>by
  simp only[AV.kW,aA]at hx;simp at h;subst h;exact hx.1
 |x::xs,hx,j+1,u,h=>by
  simp only[AV.kW,aA]at hx;exact C0 hx.2 j u (by simpa using h)
theorem AS{w w':World}{X X':Nat->Prop}{K K':KM}{u:AV}{v:Value}(hu:uh u=true)(h:VR w X K u v):VR w' X' K' u v:=by
 cases u with
 |agg xs=>
  cases h with
  |agg hl h1 hv=>exact .agg hl h1 λj u c iG hc=>ui (C0 hu j u iG) (hv j u c iG hc)
 |_=>exact ui hu h
def S5(P:Program)(f:FuncId)(us:List AV)(xs:Nat->Option AV):Prop:=
 Head P f/\∀(X:Nat->Prop)(w:World)(vs:Array Value),WI w->us.length=vs.size->(∀(j:Nat) u c,us[j]?=some u->vs[j]?=some c->VR w X K0 u c)->
  ∀(l m N:Nat)(J:Nat->World->Prop)(Jx:World->Prop),(∀i W,J i W->i<N)->
   (∀i W W',J i W->Below W.heap.size W W'->J i W')->(∀W W',Jx W->Below W.heap.size W W'->Jx W')->(∀i W,J i W->dv X w W/\WI W)->(∀W,Jx W->WI W)->
   (∀i x W v,J i W->xs i=some x->VR W X K0 x v->YieldAt Fence.wide m P l #[v] W λe W'=>(e=.returned (.bool true)/\J (i+1) W')∨(e=.returned (.bool false)/\Jx W'))->
   J 0 w->CallsIn Fence.wide (m+1) P f (#[.func (.yield l) #[] #[]]++vs) w λe W'=>(∃v,e=.returned v)/\((∃i,xs i=none/\J i W')∨Jx W')
def xU(ws:List Nat):List (Nat×AV)->Bool
 |[]=>true
 |(t,v)::r=> !bm t ws&&ir v&&xU ws r
theorem C1{ws:List Nat}:∀{fr:List (Nat×AV)},xU ws fr=true->∀t,lk fr t=.top∨(bm t ws=false/\ir (lk fr t)=true)
 |[],_,t=>.inl rfl
 |(s,v)::r,h,t=>by
  simp only[xU,aA,zr]at h;rw[gC]
  by_cases e:s=t
  .subst e;rw[if_pos rfl];exact .inr h.1
  .rw[if_neg e];exact C1 h.2 t
section
variable{E:Env} {K:KM} {a a':Act} {w:World} {fr:List (Nat×AV)} {O:List (Nat×ak)} {ws:List Nat}
theorem bC.back(h:bC E K ⟨fr,O⟩ a' w)(hf:xU ws fr=true)(ku:Sm ws a a')(bJ:a.tmps.size=a'.tmps.size)(hd:a.defers=[]):bC E K ⟨fr,O⟩ a w:=
 ⟨bJ.trans h.size,hd,h.ext,λt=>by
  have:=h.fr t
  rcases C1 hf t with e|⟨e1,e2⟩
  .rw[show lk (aM.mk fr O).fr t=.top from e];exact FV.top
  .rw[ku t e1]at this
   show FV w _ K a.tmps (lk fr t) _
   replace this:FV w (XX E K O) K a'.tmps (lk fr t) (a.tmps.getD t undef):=this
   cases hl:lk fr t with
   |opt=>rw[hl]at e2;cases e2
   |_=>rw[hl]at this;exact this,h.aa,h.own,h.inj,h.fI,h.gK⟩
end
def Kn:Ex->Code
 |.normal=>.skip
 |.exit id=>.exit id
 |.ret=>.ret
end Go.an
