import Derived.Laws.CopyRow
import Derived.Test.YtpfmbblnhjpclaaGreatDoorAbs15
set_option linter.unusedVariables false
set_option linter.unusedSimpArgs false
namespace Go.an
open Go.RowKit
section
variable{P:Program} {T:dD} {E:Env} {K:KM} {c:aM} {a:Act} {w:World} {o:Oper} {r:iS} {val:Operand->AV} {X:Nat->Prop}
theorem Step.NZ{w w':World}(h:Below w.heap.size w w'):Step (λ_=>False) w w':=
 ⟨⟨h.size,λg hg _=>h.block g hg,λg aJ e hc=>⟨aJ,by rw[h.block g (bd.1 hc).1];exact hc,rfl⟩⟩,h.os,h.tape,h.output⟩
theorem CH{x:AV}{v:Value}(hx:x.kX=true)(hn:∀p e sz n aa,x≠.dh p e sz n aa)(h:VR w X K x v):∀X' K',VR w X' K' x v:=by
 intro X' K'
 cases x with
 |agg xs=>
  simp only[AV.kX]at hx;obtain⟨vs,rfl,l1,h1,v1⟩:=VR.mC h;exact .agg l1 h1 λj u y hu hy=>by
   rcases zY hx hu with rfl|hsc
   .exact .top
   .exact da hsc (v1 j u y hu hy) _ _
 |dh p e sz n aa=>exact absurd rfl (hn p e sz n aa)
 |_=>simp only[AV.kX]at hx;exact da hx h _ _
theorem vi(hs:bC E K c a w){id:Nat}{x:AV}{v:Value}{w1:World}(cY:Step (λ_=>False) w w1)(ox:Nh w1 w.heap.size X x v)
  (hX:(∀g,XX E K c.O g->X g)∨x.kX=true)(hf:(eR id x).2=[]∨eP id c=true):
  ∃K',bC E K' ⟨c.fr,im (eR id x).2 c.O⟩ a w1/\VR w1 (XX E K' (im (eR id x).2 c.O)) K' (eR id x).1 v/\((eR id x).2=[] ->K'=K):=by
 have plain:(∀p e sz n aa,x≠.dh p e sz n aa)->(eR id x)=(x,[])->VR w1 X K0 x v->∃K',bC E K' ⟨c.fr,im (eR id x).2 c.O⟩ a w1/\VR w1 (XX E K' (im (eR id x).2 c.O)) K' (eR id x).1 v/\((eR id x).2=[] ->K'=K):=by
  intro hn e hv;rw[e];refine⟨K,hs.move cY,?_,λ_=>rfl⟩
  rcases hX with hX|hX
  .exact(hv.sub λg _ h=>hX g h).any K
  .exact CH hX hn hv _ _
 cases x with
 |dh p e sz n aa=>
  simp only[eR,im]at hf⊢;have hf:eP id c=true:=hf.resolve_left (by simp);obtain⟨f1,f2,f3⟩:=jq hf;obtain⟨hn,lp,Aa⟩:=ox
  rcases Aa with⟨LC,rfl⟩|⟨g,cap,aJ,rfl,l4,hBg,hc,CF,dL,hu⟩
  .subst LC
   have wH:aa=[]:=bE hn.symm;exact⟨_,(hs.move cY).oI (fD hf) (ae:={e:=e,sz:=sz,kd:=kdP p,aa:=aa}) f2 (λi x hi _ hk=>f3 i x hi hk) wH,.fE (dF _ _ _),λh=>by cases h⟩
  .refine⟨_,oM (ae:={e:=e,sz:=sz,kd:=kdP p,aa:=aa}) hs hf cY hBg lp (aV.mk (by intro ag st;cases p<;>simp[kdP]) hc) λj u hj=>?_,(.bn (dF _ _ _) (D0 hn) hc l4 CF dL),λh=>by cases h⟩
   obtain⟨y,hy,h1,hv⟩:=hu j u hj;refine⟨(by intro hk;cases p<;>cases hk),y,hy,h1,?_⟩
   cases p
   .refine hv.sub λh _ hX'=>.inr ?_
    rcases hX' with hX'|hX'
    .rcases hX with hX|hX
     .exact .inl (hX h hX')
     .simp[AV.kX]at hX
    .exact .inr hX'
   .exact hv.sub λh _ _=>.inl rfl
 |_=>exact plain (by intros;simp) rfl ox
theorem yy(hs:bC E K c a w){d:Option Nat}{x:AV}{v:Value}{w1:World}(cY:Step (λ_=>False) w w1)(ox:RR w1 w.heap.size X x v)
  (hX:(∀g,XX E K c.O g->X g)∨x.uL=true)(kM:FH x=true)(hf:fq c (gN false d x).nw (gN false d x).D=true):
  ∃K',bC E K' (c.BJ (gN false d x)) a w1/\VR w1 (XX E K' (c.BJ (gN false d x)).O) K' (gN false d x).v v:=by
 have one:∀y,gN false d x={v:=(eR (cI d 0) y).1,D:=(eR (cI d 0) y).2,nw:=true}->Nh w1 w.heap.size X y v->((∀g,XX E K c.O g->X g)∨y.kX=true)->∃K',bC E K' (c.BJ (gN false d x)) a w1/\VR w1 (XX E K' (c.BJ (gN false d x)).O) K' (gN false d x).v v:=by
  intro y e ox hX;rw[e]at hf⊢
  suffices h:_∨_ by
   obtain⟨K',h1,h2,_⟩:=vi hs cY ox hX h;exact⟨K',h1,h2⟩
  cases hD:(eR (cI d 0) y).2 with
  |nil=>exact .inl rfl
  |cons p ps=>
   right
   cases y<;>simp only[eR]at hD<;>first|(cases hD;done)|skip
   simp only[eR]at hf;exact gr hf
 cases x with
 |bY xs=>
  cases xs with
  |nil=>
   obtain⟨vs,rfl,l1,v1⟩:=VR.yL (show VR w1 X K0 (.bY []) v from ox);exact⟨K,hs.move cY,.bY l1 (by simp)⟩
  |cons x xs=>
   obtain⟨vs,rfl,BM,⟨c0,JW,wH⟩,oQ⟩:=ox;have hX1:(∀g,XX E K c.O g->X g)∨x.kX=true:=by
    rcases hX with hX|hX
    .exact .inl hX
    .simp only[AV.uL,aA]at hX;exact .inr hX.1
   have jF:(eR (cI d 0) x).2=[]∨eP (cI d 0) c=true:=by
    cases hD:(eR (cI d 0) x).2 with
    |nil=>exact .inl rfl
    |cons p ps=>
     right
     cases x<;>simp only[eR]at hD<;>first|(cases hD;done)|skip
     simp only[gN,eR]at hf;exact gr hf
   obtain⟨K',eh,nv,hKK⟩:=vi hs cY wH hX1 jF;refine⟨K',eh,.bY (by simp[BM]) λj u y hu hy=>?_⟩
   cases j with
   |zero=>
    simp only[List.getElem?_cons_zero,Option.some.injEq]at hu;rw[JW]at hy;injection hy with hy
    subst hy hu;exact nv
   |succ j=>
    simp only[rP]at hu;have hv:=oQ j u y hu hy
    by_cases aaR:∃p e sz n aa,x=.dh p e sz n aa
    .obtain⟨p,e,sz,n,aa,rfl⟩:=aaR
     simp only[FH]at kM;exact da (pB kM hu) hv _ _
    .have hD:(eR (cI d 0) x)=(x,[]):=by
      cases x<;>first|rfl|exact absurd ⟨_,_,_,_,_,rfl⟩ aaR
     have hO:(c.BJ (gN false d (.bY (x::xs)))).O=c.O:=by simp[aM.BJ,gN,hD,im]
     rw[hO]
     rcases hX with hX|hX
     .rw[hKK (by rw[hD])]
      exact(hv.sub λg _ h=>hX g h).any K
     .simp only[AV.uL,aA]at hX
      exact da (pB hX.2 hu) hv _ _
 |_=>exact one _ rfl ox hX
theorem xJ(hs:bC E K c a w){x:AV}{v:Value}{w1:World}(cY:Step (λ_=>False) w w1)(ox:Nh w1 w.heap.size X x v)
  (hX:(∀g,XX E K c.O g->X g)∨x.kX=true):VR w1 (XX E K c.O) K (zB x) v:=by
 have oS:∀g,XX E K c.O g->g<w.heap.size:=by
  rintro g (⟨b,hb,hk⟩|⟨_,hg⟩)
  .exact hs.fu hb hk
  .exact ew hg hs.ext.size
 have plain:(∀p e sz n aa,x≠.dh p e sz n aa)->zB x=x->VR w1 X K0 x v->VR w1 (XX E K c.O) K (zB x) v:=by
  intro hn e hv;rw[e]
  rcases hX with hX|hX
  .exact(hv.sub λg _ h=>hX g h).any K
  .exact CH hX hn hv _ _
 cases x with
 |dh p e sz n aa=>
  obtain⟨hn,lp,Aa⟩:=ox;simp only[zB]
  rcases Aa with⟨LC,rfl⟩|⟨g,cap,aJ,rfl,l4,hBg,hc,CF,dL,hu⟩
  .subst LC
   have wH:aa=[]:=bE hn.symm;subst wH;exact .aL (cs:=[]) (by simp) (by simp) (bG _) (λ_=>rfl) (by simp) (by simp) (by simp) (by simp)
  .have nt:=bD lp
   have bJ:aa.flatten.length<=aJ.size:=by rw[nt,<-hn,<-dL];exact gR _ l4
   have gy:∀(j:Nat) y,(aJ.toList.take aa.flatten.length)[j]?=some y->j<aa.flatten.length/\aJ[j]?=some y:=by
    intro j y hy;rw[bQ]at hy
    split at hy
    .rename_i h;exact⟨h,by simpa using hy⟩
    .cases hy
   refine .aL (cs:=aJ.toList.take aa.flatten.length) hn lp l4 (λh=>by cases h) (by rw[aO,gf];exact rS bJ) (λy hy=>?_) (λ_=>⟨g,0,rfl,(bd.1 hc).1,λh=>by have:=oS g h;omega,λj y hy=>?_⟩) (λj u y iG hy=>?_)
   .obtain⟨j,hj⟩:=fQ hy
    obtain⟨aC,Nk⟩:=gy j y hj;obtain⟨z,hz,h1,_⟩:=hu j _ (aW aC);rw[Nk]at hz;injection hz with hz;subst hz;exact h1
   .simp only[World.cell?,hc,dp]
    simpa using(gy j y hy).2
   .obtain⟨z,hz,_,hv⟩:=hu j u iG
    rw[(gy j y hy).2]at hz;injection hz with hz;subst hz
    refine hv.sub λh _ hx=>?_
    rcases hX with hX|hX
    .exact .inr (.inl (hX h hx))
    .simp only[AV.kX]at hX;exact .inl hX
 |_=>exact plain (by intros;simp) rfl ox
theorem Gd(hs:bC E K c a w){dr:Bool}{d:Option Nat}{x:AV}{v:Value}{w1:World}(cY:Step (λ_=>False) w w1)(ox:RR w1 w.heap.size X x v)
  (hX:(∀g,XX E K c.O g->X g)∨x.uL=true)(kM:FH x=true)(hf:fq c (gN dr d x).nw (gN dr d x).D=true):
  ∃K',bC E K' (c.BJ (gN dr d x)) a w1/\VR w1 (XX E K' (c.BJ (gN dr d x)).O) K' (gN dr d x).v v:=by
 cases dr
 .exact yy hs cY ox hX kM hf
 .have one:∀y,gN true d x={v:=zB y}->Nh w1 w.heap.size X y v->((∀g,XX E K c.O g->X g)∨y.kX=true)->∃K',bC E K' (c.BJ (gN true d x)) a w1/\VR w1 (XX E K' (c.BJ (gN true d x)).O) K' (gN true d x).v v:=by
   intro y e ox hX;rw[e];exact⟨K,hs.move cY,xJ hs cY ox hX⟩
  cases x with
  |bY xs=>
   cases xs with
   |nil=>
    obtain⟨vs,rfl,l1,v1⟩:=VR.yL (show VR w1 X K0 (.bY []) v from ox);exact⟨K,hs.move cY,.bY l1 (by simp)⟩
   |cons x xs=>
    obtain⟨vs,rfl,BM,⟨c0,JW,wH⟩,oQ⟩:=ox;have hX1:(∀g,XX E K c.O g->X g)∨x.kX=true:=by
     rcases hX with hX|hX
     .exact .inl hX
     .simp only[AV.uL,aA]at hX;exact .inr hX.1
    refine⟨K,hs.move cY,.bY (by simp[BM]) λj u y hu hy=>?_⟩
    cases j with
    |zero=>
     simp only[List.getElem?_cons_zero,Option.some.injEq]at hu;rw[JW]at hy;injection hy with hy
     subst hy hu;exact xJ hs cY wH hX1
    |succ j=>
     simp only[rP]at hu;have hv:=oQ j u y hu hy
     rcases hX with hX|hX
     .exact(hv.sub λg _ h=>hX g h).any K
     .simp only[AV.uL,aA]at hX
      exact da (pB hX.2 hu) hv _ _
  |_=>exact one _ rfl ox hX
theorem s_call{dr:Bool}(hs:bC E K c a w)(az:ey E K c a w val){f:Operand}{args:Array Operand}{ts:Array TypeId}(ho:o.op=.call {callee:=.value f,args:=args,argTypes:=ts})(hf:fq c r.nw r.D=true)
  (h:jh.holds P (match view (aK c.O) (val f),nF (aK c.O) (args.toList.map val)with
  |some (.func g dt),some as=>.call g (as++dt) λr=>match(val f).bq&&AV.cW (args.toList.map val)||r.uL,FH r with
   |true,true=>match drs dr,isF r with
    |true,true=>.exB λp=>.ret (gN p o.dst r)
    |dr,_=>.ret (gN dr o.dst r)
   |_,_=>.no
  |_,_=>.no) (· =r)):o.wp P a w (bA E c r a o.dst) kK:=by
 split at h
 .rename_i g dt as Sp n9
  obtain⟨x,⟨⟨fn,FB,ek,mj⟩,Ab⟩,h⟩:=h;simp only at h
  split at h
  .rename_i Fw kM
   obtain⟨dr',hr⟩:∃dr',gN dr' o.dst x=r:=by
    split at h
    .obtain⟨p,h⟩:=h;exact⟨p,h⟩
    .exact⟨_,h⟩
   have hnf:∀d bf u,val f≠.opt d bf u:=by rintro d bf u e;rw[e]at Sp;simp[view,gM,dQ]at Sp
   have Vc:=zZ hs Sp ((az f).vr hnf);obtain⟨cv,ef,cl,Sq⟩:=VR.fJ Vc;obtain⟨ml,mv⟩:=mP az args;obtain⟨al,av⟩:=xH hs n9;have aaS:∀(j:Nat) u,(args.toList.map val)[j]?=some u->∀d bf u',u≠.opt d bf u':=by
    have aux:∀{us dj:List AV},nF (aK c.O) us=some dj->∀(j:Nat) u,us[j]?=some u->∀d bf u',u≠.opt d bf u':=by
     intro us
     induction us with
     |nil=>intro dj _ j u hu;simp at hu
     |cons y ys ih=>
      intro dj h j u hu d bf u' e;simp only[nF]at h
      split at h
      .rename_i z zs hz Cv
       cases j with
       |zero=>simp at hu;subst hu;rw[e]at hz;simp[view,gM,dQ]at hz
       |succ j=>exact ih Cv j u (by simpa using hu) d bf u' e
      .cases h
    exact aux n9
   have mQ:(as++dt).length=(args.map a.eval++cv).size:=by
    simp only[be,lB,Array.size_map,al,gB,gf,cl]
   have Xz:∀(j:Nat) u v,(as++dt)[j]?=some u->(args.map a.eval++cv)[j]?=some v->VR w (λ_=>False) K0 u v:=by
    intro j u v hu hv;have Ac:as.length=(args.map a.eval).size:=by simp[al]
    rcases eJ j as.length with aC|kT
    .rw[bM aC]at hu
     rw[D1 (by omega)]at hv;refine av j u v hu λu0 sq=>FV.vr (mv j u0 v sq (by simpa using hv)) (aaS j u0 sq)
    .rw[cm kT]at hu
     rw[lC (by omega)]at hv;rw[Ac]at hu;exact Sq _ u v hu hv
   obtain⟨X,XA,hX⟩:∃X:Nat->Prop,(∀(j:Nat) u v,(as++dt)[j]?=some u->(args.map a.eval++cv)[j]?=some v->VR w X K0 u v)/\((∀g,XX E K c.O g->X g/\g<w.heap.size)∨x.uL=true):=by
    rw[pj,aA]at Fw
    rcases Fw with⟨hi1,hi2⟩|Fw
    .refine⟨XX E K c.O,λj u v hu hv=>?_,.inl λg hg=>⟨hg,?_⟩⟩
     .have e1:=xI Sp hi1
      have e2:=vh n9 hi2;have aaT:=(az f).vr hnf;rw[<-e1]at aaT;obtain⟨cv',ef',Ni,ahA⟩:=VR.fJ aaT;rw[ef]at ef';injection ef' with _ _ ec
      subst ec;have Ac:as.length=(args.map a.eval).size:=by simp[al]
      rcases eJ j as.length with aC|kT
      .rw[bM aC]at hu
       rw[D1 (by omega)]at hv;rw[e2]at hu;exact eE (FV.vr (mv j u v hu (by simpa using hv)) (aaS j u hu)) (eK hi2 hu) K0
      .rw[cm kT]at hu
       rw[lC (by omega)]at hv;rw[Ac]at hu;rw[<-e1]at hi1;exact eE (ahA _ u v hu hv) (eK (by simpa[AV.bq]using hi1) hu) K0
     .rcases hg with⟨b,hb,hk⟩|⟨_,hg⟩
      .exact hs.fu hb hk
      .exact ew hg hs.ext.size
    .exact⟨λ_=>False,Xz,.inr Fw⟩
   unfold Oper.wp;have Ck:(execOp a.eval o).run P w=.ok (.enter g (args.map a.eval++cv)) w:=by
    simp only[execOp,ho,resolve,ef,Deferred.ofValue,Sem.run_bind,Sem.run_pure,Result.andThen_ok,invoke,callFunc,run_program];simp[FB,ek,mj]
   rw[Ck,Oper.upon_enter];refine(Ab X w _ (E.kS _ hs.ext) mQ XA).mono ?_;rintro e w1 ⟨v,rfl,ox,hb⟩;have cY:=Step.NZ hb;rw[<-hr]at hf;obtain⟨K',eh,nv⟩:=Gd hs cY ox hX kM hf;rw[hr]at eh nv;exact⟨K',v,rfl,eh,nv⟩
  .exact h.elim
 .exact h.elim
theorem Sr(hT:br P T)(dC:∀t i,T.get t=some i->fH i.zero=true/\i.zero.cells.size=i.size)(hs:bC E K c a w)(az:ey E K c a w val)
  {t:TypeId}{x:Operand}(ho:o.op=.call {callee:=.builtin .clear,args:=#[x],argTypes:=#[t]})
  (h:(wz T (aK c.O) t (val x)).holds P (· =r)):o.wp P a w (bA E c r a o.dst) kK:=by
 unfold wz at h
 split at h
 .rename_i ti nY
  split at h
  .rename_i e hk
   obtain⟨⟨d,hd,eM⟩,_⟩:=hT.get nY;rw[hk]at eM;have:=of_slice eM;subst this
   split at h
   .rename_i ei lg
    obtain⟨_,⟨je,kb,BK,mi,Rx⟩,_⟩:=hT.get lg;obtain⟨ho1,Cv⟩:=dC e ei lg
    split at h
    .rename_i b sz lo n hx
     split at h
     .rename_i ae hb
      split at h
      .rename_i z bJ Ek hz
       have bJ:=beq_true bJ;have Ek:=beq_true Ek
       split at h
       .rename_i wo gW iE
        have wo:=beq_true wo;have gW:=dn gW;obtain⟨eY,h⟩:=h;have hr:_=r:=h;obtain⟨A,cap,e1,hA⟩:=VR.qO (az.at hx);have cP:=hs.aa b ae hb;have Ge:∀w',((match(some (TypeDesc.slice e)),(Value.slice A n cap)with
          |_,_=>(Builtin.clear_ #[t] o.type #[.slice A n cap])).run P w=.ok (.tuple #[]) w')->(execOp a.eval o).run P w=.ok (.value (.tuple #[])) w':=by
         intro w' hw;simp only[execOp,ho,resolve,invoke,builtin,gS,cU,dO,e1,Sem.run_bind,Sem.run_pure,Result.andThen_ok];simp only at hw;rw[hw];rfl
        have qQ:∀row∈ae.aa.take lo++List.replicate n z++ae.aa.drop (lo+n),row.length=ae.sz:=by
         intro row aD;rw[cE,cE]at aD
         rcases aD with(aD|aD)|aD
         .exact cP row (my aD)
         .rw[(mz.1 aD).2,wo,bJ]
         .exact cP row (uE aD)
        have cz:(ae.aa.take lo++List.replicate n z++ae.aa.drop (lo+n)).length=ae.aa.length:=by
         simp only[be,aO,List.length_replicate,jY];omega
        by_cases hn:n=0
        .subst hn
         have xK:ae.aa.take lo++List.replicate 0 z++ae.aa.drop (lo+0)=ae.aa:=by simp
         subst hr;have Ck:(execOp a.eval o).run P w=.ok (.value (.tuple #[])) w:=by
          refine Ge w ?_
          cases A<;>simp[Builtin.clear_,run_underlying hd]
         unfold Oper.wp;rw[Ck];refine⟨K,_,rfl,?_,.top⟩;rw[xK];refine hs.uS (λt=>.inl rfl) λi y hi=>?_
         simp only[aM.BJ,im,ba]at hi
         by_cases e:b=i
         .subst e;rw[if_pos rfl]at hi;injection hi with hi;subst hi;exact hb
         .rw[if_neg e]at hi;exact hi
        .obtain⟨g,m,hK,hm,rfl⟩:=hA (by omega)
         rcases hs.own b ae hb with⟨k1,_⟩|⟨g',k1,aJ,hc,hu⟩
         .rw[hK]at k1;cases k1
         .have Fz:=hK
          rw[hK]at k1;injection k1 with k1;injection k1 with k1 k2;injection k1 with k1;subst k1 k2
          have sY:∀ag st,ae.kd≠.map ag st:=by
           intro ag st hk;rw[hk]at iE
           cases hzz:z with
           |nil=>rw[hzz]at wo;simp at wo;omega
           |cons y ys=>rw[hzz]at iE;simp[fX,Kd.fits]at iE
          replace hc:=hc.cells sY
          have XB:=gP w (XX E K c.O) K ei.zero ho1;obtain⟨q1,q2,q3⟩:=eF hz XB;have sZ:=bD cP;have dL:ae.aa.flatten.length<=aJ.size:=by
           by_cases h0:ae.aa.flatten.length=0
           .omega
           .obtain⟨y,hy,_⟩:=hu (ae.aa.flatten.length-1) _ (aW (by omega))
            have:=(bd.1 hy).1;omega
          have hzc:(Builtin.zeroCells ei.zero.cells n).toList.length=n*ae.sz:=by
           simp[Builtin.zeroCells,Cv,<-Ek,bJ]
          have Vd:∀(j:Nat),j<n*ae.sz->∃y,(Builtin.zeroCells ei.zero.cells n).toList[j]?=some y/\ei.zero.cells[j %ae.sz]?=some y:=by
           intro j hj;have Gf:j %ae.sz<ei.zero.cells.size:=by rw[Cv,<-Ek,bJ];exact Nat.mod_lt _ (by omega)
           refine⟨ei.zero.cells[j %ae.sz],?_,by simp[Gf]⟩;have ahB:ei.zero.cells.size=ae.sz:=by rw[Cv,<-Ek,bJ]
           simp[Builtin.zeroCells,ahB,hj];exact bL ei.zero.cells (j %ae.sz) Gf
          have Xo:lo*ae.sz+n*ae.sz<=aJ.size:=by
           refine du ?_ dL;rw[sZ,<-bh];exact gR _ eY
          have aaU:∀y∈(Builtin.zeroCells ei.zero.cells n).toList,y.oneCell'=true:=by
           intro y hy;obtain⟨j,hj⟩:=fQ hy;have so:j<n*ae.sz:=by rw[<-hzc];exact(aE.1 hj).1
           obtain⟨y',od,yN⟩:=Vd j so;rw[hj]at od;injection od with od;subst od
           exact q2 _ _ yN
          have J0:=run_storeCells_at P g (lo*ae.sz) ae.e (Builtin.zeroCells ei.zero.cells n).toList 0 aJ w hc (by rw[hzc];simpa using Xo) aaU;simp only[ed]at J0;generalize td:(aJ.toList.take (lo*ae.sz)++(Builtin.zeroCells ei.zero.cells n).toList++aJ.toList.drop (lo*ae.sz+(Builtin.zeroCells ei.zero.cells n).toList.length)).toArray=new at J0;have JX:new.size=aJ.size:=by
           rw[<-td];simp only[cL,be,aO,jY,gf,hzc];omega
          have cY:Step (λr=>r=g) w (w.setRow g new):=Step.setRow hc JX;have dR:dv (XX E K c.O) w (w.setRow g new):=cY.ad.mono λr _ jV=>.inl ⟨b,by simp[hb],by rw[jV];exact aU Fz⟩
          have Ck:(execOp a.eval o).run P w=.ok (.value (.tuple #[])) (w.setRow g new):=by
           refine Ge _ ?_;rw[<-bJ]at J0;have hz1:∀w:World,(zeroValue e).run P w=.ok ei.zero w:=λw=>by simp[zeroValue,typeInfo,kb,BK]
           have:∀k,n=k+1->(Builtin.clear_ #[t] o.type #[.slice (some ⟨g,lo*sz,none⟩) n cap]).run P w=.ok (.tuple #[]) (w.setRow g new):=by
            rintro k rfl;simp only[Builtin.clear_];simp[run_underlying hd,hz1,J0]
           exact this (n-1) (by omega)
          subst hr;unfold Oper.wp;rw[Ck];refine⟨K,_,rfl,?_,.top⟩;refine hs.write (ae:={ae with aa:=ae.aa.take lo++List.replicate n z++ae.aa.drop (lo+n)}) hb (aU Fz) cz cY qQ ?_;refine⟨new,aV.mk sY (setRow_heap w g aJ _ ae.e (0,0) hc),λp u' hp=>?_⟩;have LG:(ae.aa.take lo).flatten.length=lo*ae.sz:=by
           rw[bD (sz:=ae.sz) λrow hr=>cP row (my hr),aO];congr 1;omega
          have hrp:(List.replicate n z).flatten.length=n*ae.sz:=by
           rw[bD (sz:=ae.sz) λrow hr=>by rw[(mz.1 hr).2,wo,bJ],List.length_replicate]
          have XC:ae.aa.flatten=(ae.aa.take lo).flatten++(ae.aa.drop lo).flatten:=by rw[<-lA,rR]
          have Ss:ae.aa.flatten=(ae.aa.take (lo+n)).flatten++(ae.aa.drop (lo+n)).flatten:=by rw[<-lA,rR]
          have ahC:(ae.aa.take (lo+n)).flatten.length=(lo+n)*ae.sz:=by
           rw[bD (sz:=ae.sz) λrow hr=>cP row (my hr),aO];congr 1;omega
          have ahD:(lo+n)*ae.sz=lo*ae.sz+n*ae.sz:=bh ..;have NO:(aJ.toList.take (lo*ae.sz)).length=lo*ae.sz:=by simp only[aO,gf];omega
          have hl2:(aJ.toList.take (lo*ae.sz)++(Builtin.zeroCells ei.zero.cells n).toList).length=lo*ae.sz+n*ae.sz:=by rw[be,NO,hzc]
          simp only[lA]at hp;have ow:ae.aa.flatten[p]?=some u'->(p<lo*ae.sz∨lo*ae.sz+n*ae.sz<=p)->∃x,new[p]?=some x/\x.oneCell'=true/\VR (w.setRow g new) (uN ae.kd (XX E K c.O)) (zD ae.kd K) u' x:=by
           intro ji Ik;obtain⟨y,hy,wJ,pV⟩:=hu p u' ji;refine⟨y,?_,wJ,pV.ad (ka dR) (λ_ _ h=>h) (λ_ _=>rfl)⟩;have J1:aJ.toList[p]?=some y:=by simpa using hy
           rw[<-td];simp only[eD]
           rcases Ik with aC|kT
           .rw[cM,bM (by omega),bQ,if_pos aC];exact J1
           .rw[cm (by omega),hl2,cV,hzc]
            rw[<-J1];congr 1;omega
          by_cases c1:p<lo*ae.sz
          .rw[cM,bM (by omega)]at hp
           exact ow (by rw[XC,bM (by omega)];exact hp) (.inl c1)
          .by_cases c2:p<lo*ae.sz+n*ae.sz
           .rw[cM,cm (by omega),bM (by omega),LG,yM z n _ (by rw[wo,bJ];omega),wo,bJ]at hp
            obtain⟨y,hy1,hy2⟩:=Vd (p-lo*ae.sz) (by omega);refine⟨y,?_,q2 _ _ hy2,?_⟩
            .rw[<-td]
             simp only[eD];rw[cM,cm (by omega),NO,bM (by omega)];exact hy1
            .have R8:=se (gp iE hp) (q3 _ _ _ hp hy2)
             exact R8.ad (ka dR) (λ_ _ h=>h) (λ_ _=>rfl)
           .rw[cm (by rw[be];omega),be,LG,hrp]at hp
            refine ow ?_ (.inr (by omega));rw[Ss,cm (by omega),ahC,ahD];exact hp
       .exact h.elim
      .exact h.elim
     .exact h.elim
    .exact h.elim
   .exact h.elim
  .exact h.elim
 .exact h.elim
theorem Gg{α:Type}(L:List α)(a b k p:Nat)(h1:a<=b)(h2:b+k<=L.length):(L.take a++(L.drop b).take k++L.drop (a+k))[p]?=L[if p<a then p else if p<a+k then b+(p-a)else p]?:=by
 have l1:(L.take a).length=a:=by rw[aO];omega
 have l2:((L.drop b).take k).length=k:=by rw[aO,jY];omega
 by_cases c1:p<a
 .rw[if_pos c1,cM,bM (by omega),bQ,if_pos c1]
 .rw[if_neg c1]
  by_cases c2:p<a+k
  .rw[if_pos c2,cM,cm (by omega),bM (by omega),l1,bQ,if_pos (by omega),cV]
  .rw[if_neg c2,cm (by rw[be];omega),be,l1,l2,cV]
   congr 1;omega
theorem oT{aa:List (List AV)}{sz:Nat}(hr:∀row∈aa,row.length=sz){k:Nat}(hk:k<=aa.length):(aa.take k).flatten=aa.flatten.take (k*sz):=by
 have hl:(aa.take k).flatten.length=k*sz:=by
  rw[bD (sz:=sz) λrow h=>hr row (my h),aO,rS hk]
 have:aa.flatten=(aa.take k).flatten++(aa.drop k).flatten:=by rw[<-lA,rR]
 rw[this,rT hl]
theorem sr{aa:List (List AV)}{sz:Nat}(hr:∀row∈aa,row.length=sz){k:Nat}(hk:k<=aa.length):(aa.drop k).flatten=aa.flatten.drop (k*sz):=by
 have hl:(aa.take k).flatten.length=k*sz:=by
  rw[bD (sz:=sz) λrow h=>hr row (my h),aO,rS hk]
 have:aa.flatten=(aa.take k).flatten++(aa.drop k).flatten:=by rw[<-lA,rR]
 rw[this,List.drop_left' hl]
theorem LI(hT:br P T)(hs:bC E K c a w)(az:ey E K c a w val)
  {t:TypeId}{s x:Operand}(ho:o.op=.call {callee:=.builtin .append,args:=#[s,x],argTypes:=#[t,t]})
  (h:(oG T (aK c.O) t (val s) (val x)).holds P (· =r)):o.wp P a w (bA E c r a o.dst) kK:=by
 unfold oG at h
 split at h
 .rename_i ti nY
  split at h
  .rename_i e hk
   obtain⟨⟨d,hd,eM⟩,_⟩:=hT.get nY;rw[hk]at eM;have:=of_slice eM;subst this
   split at h
   .rename_i ei lg
    obtain⟨_,⟨je,kb,BK,mi,Rx⟩,_⟩:=hT.get lg
    split at h
    .rename_i b sz n b' yJ lo m Ry hx
     split at h
     .rename_i ae hb
      split at h
      .rename_i yz hss bJ
       have yz:=beq_true yz;have hss:=beq_true hss;have bJ:=beq_true bJ;subst yz hss
       split at h
       .rename_i Ek qv gW
        have Ek:=beq_true Ek;have qv:=beq_true qv;have gW:=dn gW;obtain⟨⟨ahE,eY⟩,h⟩:=h;have hr:_=r:=h;obtain⟨A,cp,e2,hA⟩:=VR.qO (az.at hx);have cP:=hs.aa b ae hb;have qQ:∀row∈ae.aa.take n++(ae.aa.drop lo).take m++ae.aa.drop (n+m),row.length=ae.sz:=by
         intro row aD;rw[cE,cE]at aD
         rcases aD with(aD|aD)|aD
         .exact cP row (my aD)
         .exact cP row (uE (my aD))
         .exact cP row (uE aD)
        have cz:(ae.aa.take n++(ae.aa.drop lo).take m++ae.aa.drop (n+m)).length=ae.aa.length:=by
         simp only[be,aO,jY];omega
        by_cases hm:m=0
        .subst hm
         have xK:ae.aa.take n++(ae.aa.drop lo).take 0++ae.aa.drop (n+0)=ae.aa:=by simp
         subst hr;have Ck:(Builtin.append_ #[t,t] o.type #[a.eval s,a.eval x]).run P w=.ok (a.eval s) w:=by
          rw[e2]
          rcases VR.c9 (az.at Ry)with⟨hK,hz,e1⟩|⟨g,cap,aJ,e',mm,hK,nu,e1,hc,l4,LD,dL⟩
          .rw[e1]
           cases A<;>simp[Builtin.append_,run_underlying hd,sizeOf,typeInfo,kb,Builtin.lenOf,Builtin.firstCells,loadCells,loadCellsFrom]
          .rw[e1]
           cases A<;>simp[Builtin.append_,run_underlying hd,sizeOf,typeInfo,kb,Builtin.lenOf,Builtin.firstCells,l4,storeCells,loadCells,loadCellsFrom]
         unfold Oper.wp;rw[gu ho Ck];refine⟨K,_,rfl,?_,?_⟩
         .rw[xK]
          refine hs.uS (λt=>.inl rfl) λi y hi=>?_
          simp only[aM.BJ,im,ba]at hi
          by_cases e:b=i
          .subst e;rw[if_pos rfl]at hi;injection hi with hi;subst hi;exact hb
          .rw[if_neg e]at hi;exact hi
         .rcases VR.c9 (az.at Ry)with⟨hK,hz,e1⟩|⟨g,cap,aJ,e',mm,hK,nu,e1,hc,l4,LD,dL⟩
          .subst hz;rw[e1];exact .fE hK
          .rw[e1];exact .bn hK nu hc l4 LD dL
        .obtain⟨g,mm,hK,RA,rfl⟩:=hA (by omega)
         rcases hs.own b ae hb with⟨k1,_⟩|⟨g',k1,aJ,hc,hu⟩
         .rw[hK]at k1;cases k1
         .have Fz:=hK
          rw[hK]at k1;injection k1 with k1;injection k1 with k1 k2;injection k1 with k1;subst k1 k2
          rcases VR.c9 (az.at Ry)with⟨zO,hz,e1⟩|⟨g',cap,dw,e',mm,zO,nu,e1,fw,l4,LD,dL⟩
          .rw[Fz]at zO;cases zO
          .rw[Fz]at zO;injection zO with zO;injection zO with k3 k4;injection k3 with k3;subst k3 k4
           have sY:=hc.UZ fw;replace hc:=hc.cells sY;rw[hc]at fw;injection fw with fw;injection fw with od yN;subst od
           have nt:=Ef (g:=g) cP hu;have sZ:=bD cP;have hB:ae.aa.length*ae.sz=ae.aa.length*sz:=by rw[<-bJ]
           have hN:n*sz<=lo*sz:=gR _ ahE;have hL:lo*sz+m*sz<=ae.aa.length*sz:=by rw[<-bh];exact gR _ eY
           have dM:lo*sz+m*sz<=aJ.size:=by omega
           have kT:n+m<=cap:=by
            have:(n+m)*sz<=cap*sz:=by rw[dL,bh];omega
            exact Nat.le_of_mul_le_mul_right this (by omega)
           have Su:je.size=sz:=by rw[mi,Ek]
           generalize vd:(aJ.toList.drop (lo*sz)).take (m*sz)=cg;have hl:cg.length=m*je.size:=by
            rw[<-vd,Su,aO,jY,gf];omega
           have gy:∀(j:Nat) u,cg[j]?=some u->j<m*sz/\aJ[lo*sz+j]?=some u:=by
            intro j u hj;rw[<-vd,bQ]at hj
            split at hj
            .rename_i aC
             rw[cV]at hj;exact⟨aC,by simpa using hj⟩
            .cases hj
           have cH:∀(j:Nat) u,cg[j]?=some u->w.cell? ((⟨g,lo*sz,none⟩:Addr).add j)=some u:=by
            intro j u hj;rw[show(⟨g,lo*sz,none⟩:Addr).add j=⟨g,lo*sz+j,none⟩from by unfold Addr.add;split<;>simp_all];simp only[World.cell?,hc];exact(gy j u hj).2
           have dC:∀u∈cg,u.oneCell'=true:=by
            intro u BX;obtain⟨j,hj⟩:=fQ BX;obtain⟨q1,q2⟩:=gy j u hj;obtain⟨y,hy,wJ,_⟩:=hu (lo*sz+j) _ (aW (by omega));rw[q2]at hy;injection hy with hy;subst hy
            exact wJ
           have JW:w.heap[g]?=some (.cells aJ e (0,0)):=by rw[<-qv];exact hc
           have Ck:=run_append_room (P:=P) w t o.type e je hd kb g n cap aJ JW ⟨g,lo*sz,none⟩ m cp cg hl cH dC kT (by rw[hl,Su];omega);rw[Su]at hl;rw[hl,Su]at Ck;generalize td:(aJ.toList.take (n*sz)++cg++aJ.toList.drop (n*sz+m*sz)).toArray=new at Ck;have JX:new.size=aJ.size:=by
            rw[<-td];simp only[cL,be,aO,jY,gf,hl];omega
           have cY:Step (λr=>r=g) w (w.setRow g new):=Step.setRow hc JX;have dR:dv (XX E K c.O) w (w.setRow g new):=cY.ad.mono λr _ jV=>.inl ⟨b,by simp[hb],by rw[jV];exact aU Fz⟩
           subst hr;unfold Oper.wp;rw[gu ho (by rw[e1,e2];exact Ck)];have J2:=setRow_heap w g aJ new ae.e (0,0) hc;refine⟨K,_,rfl,?_,.bn Fz (by omega) J2 kT LD (by rw[JX];exact dL)⟩;refine hs.write (ae:={ae with aa:=ae.aa.take n++(ae.aa.drop lo).take m++ae.aa.drop (n+m)}) hb (aU Fz) cz cY qQ ?_;refine⟨new,aV.mk sY J2,λp u' hp=>?_⟩;have xL:∀row∈ae.aa.drop lo,row.length=ae.sz:=λrow h=>cP row (uE h)
           simp only[lA]at hp;rw[oT cP (by omega),oT xL (by rw[jY];omega),sr cP (by omega),sr cP (by omega),<-bJ,bh,Gg _ _ _ _ _ hN (by omega)]at hp;obtain⟨y,hy,wJ,pV⟩:=hu _ u' hp;refine⟨y,?_,wJ,pV.ad (ka dR) (λ_ _ h=>h) (λ_ _=>rfl)⟩;rw[<-td,<-vd];simp only[eD];rw[Gg _ _ _ _ _ hN (by rw[gf];omega)];simpa using hy
       .exact h.elim
      .exact h.elim
     .exact h.elim
    .exact h.elim
   .exact h.elim
  .exact h.elim
 .exact h.elim
theorem vj(hs:bC E K c a w){b:Nat}{u u':AV}{v:Value}(hb:(aK c.O b).isSome=true)(h:qI (aK c.O) b u=some u')(hv:VR w (XX E K c.O) K u v):VR w (λg=>aG K b=some g) K0 u' v:=by
 unfold qI at h
 split at h
 .rename_i b' off
  split at h
  .cases h
  .rename_i dW
   have dW:=beq_false dW
   split at h
   .rename_i ae jS
    split at h
    .rename_i row fZ aD
     split at h
     .rename_i iE
      injection h with h
      subst h;obtain⟨g,hK,rfl⟩:=VR.jo hv
      rcases hs.own b' ae jS with⟨k1,k2⟩|⟨g',k1,gx⟩
      .rw[show aG K b'=none from by simp[aG,k1]]at hK;cases hK
      .have aC:=hs.fu (by simp[jS]) hK
       have zO:=hK;rw[aU k1]at hK;injection hK with hK;subst hK
       have ox:=gx.row (by rw[fZ];simp) (hs.aa b' ae jS) (i:=0) (row:=row) (by rw[aD];rfl);simp only[ly]at ox;obtain⟨cs,c1,c2,c3,c4⟩:=ox.list;have hng:¬aG K b=some g':=λhg=>dW (hs.inj b b' g' hb (by simp[jS]) hg zO)
       have:=VR.aw (w:=w) (X:=λg=>aG K b=some g) (K:=K0) (xs:=row) (off:=off) (g:=g') (o:=0) (cs:=cs) c1 c3 aC hng c2
        (λj u x hu hx=>da (gp iE hu) (c4 j u x hu hx) _ _)
       simpa using this
     .cases h
    .cases h
   .cases h
 .split at h
  .rename_i hi
   injection h with h
   subst h;exact(eE hv hi K0).sub λg _ hg=>.inl ⟨b,hb,hg⟩
  .cases h
theorem te(hs:bC E K c a w){b:Nat}(hb:(aK c.O b).isSome=true):∀{us dj:List AV},nH (aK c.O) b us=some dj->dj.length=us.length/\∀(j:Nat) u' v,dj[j]?=some u'->(∀u,us[j]?=some u->VR w (XX E K c.O) K u v)->VR w (λg=>aG K b=some g) K0 u' v
 |[],dj,h=>by simp[nH]at h;subst h;simp
 |x::xs,dj,h=>by
  simp only[nH]at h
  split at h
  .rename_i y ys hy mD
   injection h with h
   subst h;obtain⟨h1,h2⟩:=te hs hb mD;refine⟨by simp[h1],λj u' v hj hv=>?_⟩
   cases j with
   |zero=>simp at hj;subst hj;exact vj hs hb hy (hv x (by simp))
   |succ j=>exact h2 j u' v (by simpa using hj) λu hu=>hv u (by simpa using hu)
  .cases h
theorem Gi(hs:bC E K c a w){b:Nat}{u u':AV}{v:Value}(hb:(aK c.O b).isSome=true)(h:xy (aK c.O) b u=some u')(hv:VR w (XX E K c.O) K u v):VR w (λg=>aG K b=some g) K0 u' v:=by
 unfold xy at h
 split at h
 .rename_i f dt
  split at h
  .rename_i cs dM
   injection h with h
   subst h;obtain⟨vs,rfl,l1,v1⟩:=VR.fJ hv;obtain⟨h1,h2⟩:=te hs hb dM;exact .func (by rw[h1,l1]) λj u c' hu hc=>h2 j u c' hu λu0 sq=>v1 j u0 c' sq hc
  .cases h
 .exact vj hs hb h hv
theorem vk(hs:bC E K c a w){b:Nat}(hb:(aK c.O b).isSome=true):∀{us dj:List AV},nV (aK c.O) b us=some dj->dj.length=us.length/\(∀(j:Nat) u,us[j]?=some u->∀d bf u',u≠.opt d bf u')/\∀(j:Nat) u' v,dj[j]?=some u'->(∀u,us[j]?=some u->VR w (XX E K c.O) K u v)->VR w (λg=>aG K b=some g) K0 u' v
 |[],dj,h=>by simp[nV]at h;subst h;simp
 |x::xs,dj,h=>by
  simp only[nV]at h
  split at h
  .rename_i y ys hy mD
   injection h with h
   subst h;obtain⟨h1,h0,h2⟩:=vk hs hb mD;refine⟨by simp[h1],λj u hu d bf u' e=>?_,λj u' v hj hv=>?_⟩
   .cases j with
    |zero=>simp at hu;subst hu;rw[e]at hy;simp[xy,qI,AV.bq]at hy
    |succ j=>exact h0 j u (by simpa using hu) d bf u' e
   .cases j with
    |zero=>simp at hj;subst hj;exact Gi hs hb hy (hv x (by simp))
    |succ j=>exact h2 j u' v (by simpa using hj) λu hu=>hv u (by simpa using hu)
  .cases h
theorem Sv(hs:bC E K c a w)(az:ey E K c a w val){f:Operand}{args:Array Operand}{ts:Array TypeId}(ho:o.op=.call {callee:=.value f,args:=args,argTypes:=ts})(hf:fq c r.nw r.D=true)
  (h:(qJ (aK c.O) o.dst (val f) (args.toList.map val)).holds P (· =r)):o.wp P a w (bA E c r a o.dst) kK:=by
 unfold qJ at h
 split at h
 .rename_i g b sz n rest Vc fU
  split at h
  .rename_i ae hb
   split at h
   .rename_i us bJ fZ zP
    have bJ:=beq_true bJ;obtain⟨hn,x,⟨⟨fn,FB,ek,mj⟩,Ab⟩,h⟩:=h;dsimp only at h
    split at h
    .rename_i e' yJ n' gO
     have hr:_=r:=h;have tT:=hf;rw[<-hr]at tT;have jF:=gr tT;obtain⟨f1,f2,f3⟩:=jq jF;have H2:(aK c.O b).isSome=true:=by simp[hb]
     obtain⟨K1,LH,iF,lS⟩:=hs.rename (fD jF) hb f1 f2 f3;obtain⟨x0,xs,xM,hx0,Xv⟩:∃x0 xs,args.toList=x0::xs/\val x0=.bn b sz n/\xs.map val=rest:=by
      cases hl:args.toList with
      |nil=>rw[hl]at fU;cases fU
      |cons x0 xs=>rw[hl]at fU;injection fU with h1 h2;exact⟨x0,xs,rfl,h1,h2⟩
     obtain⟨v1,v2,v3⟩:=vk hs H2 zP;have e0:=VR.c9 (az.at hx0);have hae:args.map a.eval=#[a.eval x0]++(xs.map a.eval).toArray:=by
      have:args=(x0::xs).toArray:=by rw[<-xM]
      rw[this];simp
     have N2:=hs.aa b ae hb;have gz:aay w (λg=>aG K b=some g) ae.e ae.sz ae.aa (a.eval x0)/\(∀g,kY (a.eval x0)=some g↔aG K b=some g):=by
      rcases e0 with⟨hK,hz,e1⟩|⟨g0,cap,aJ,e0',m,hK,nu,e1,hc,l4,hm,dL⟩
      .have wH:ae.aa=[]:=bE (by omega)
       refine⟨⟨N2,.inl ⟨wH,e1⟩⟩,λg=>?_⟩;rw[e1,show aG K b=none from by simp[aG,hK]];simp[kY]
      .rcases hs.own b ae hb with⟨k1,_⟩|⟨g',k1,dw,fw,hu⟩
       .rw[hK]at k1;cases k1
       .have Fz:=hK
        rw[hK]at k1;injection k1 with k1;injection k1 with k1 k2;injection k1 with k1;subst k1
        replace fw:=fw.nX hc;rw[hc]at fw;injection fw with fw;injection fw with h1 h2;subst h1 h2
        refine⟨⟨N2,.inr ⟨g0,cap,aJ,by rw[e1,hn],by omega,hm,by rw[<-bJ];exact dL,hc,aU Fz,λj u hj=>?_⟩⟩,λg=>?_⟩
        .obtain⟨y,hy,wJ,pV⟩:=hu j u hj
         rw[fZ]at pV;exact⟨y,hy,wJ,pV⟩
        .rw[e1,aU Fz];simp[kY]
     have n9:∀(j:Nat) u c',us[j]?=some u->(xs.map a.eval).toArray[j]?=some c'->VR w (λg=>aG K b=some g) K0 u c':=by
      intro j u c' hu hc;refine v3 j u c' hu λu0 sq=>?_
      rw[<-Xv,aS]at sq;simp only[eD,aS]at hc
      cases hxj:xs[j]? with
      |none=>rw[hxj]at hc;cases hc
      |some y=>
       rw[hxj]at sq hc;injection sq with sq
       injection hc with hc
       subst sq hc;exact(az y).vr (v2 j _ (by rw[<-Xv,aS,hxj];rfl))
     have ef:a.eval f=.func (.func g) #[] #[]:=by
      obtain⟨cv,e1,l1,_⟩:=VR.fJ (az.at Vc);have:cv=#[]:=yG (by simpa using l1.symm);rw[e1,this]
     unfold Oper.wp;have Ck:(execOp a.eval o).run P w=.ok (.enter g (#[a.eval x0]++(xs.map a.eval).toArray)) w:=by
      simp only[execOp,ho,resolve,ef,Deferred.ofValue,Sem.run_bind,Sem.run_pure,Result.andThen_ok,invoke,callFunc,run_program];simp[FB,ek,mj,hae]
     rw[Ck,Oper.upon_enter];have kS:∀w',NI (λg=>kY (a.eval x0)=some g) w w'->WI w':=by
      intro w' hx;refine E.kS _ ⟨hx.os.trans hs.ext.os,hx.tape.trans hs.ext.tape,hx.output.trans hs.ext.output,du hs.ext.size hx.size,λg hg hX=>?_,λg aJ e hc=>?_⟩
      .rw[hx.block g (ew hg hs.ext.size) λho=>?_]
       .exact hs.ext.block g hg hX
       .rcases hs.fI b g H2 ((gz.2 g).1 ho)with h|h
        .exact hX h
        .omega
      .obtain⟨c1,h1,s1⟩:=hs.ext.shape g aJ e hc
       obtain⟨c2,h2,s2⟩:=hx.shape g c1 e h1;exact⟨c2,h2,s2.trans s1⟩
     refine(Ab _ w _ _ gz.1 kS (by simp[v1,<-Xv]) n9).mono ?_;rintro en w1 ⟨v,rfl,⟨p,e2,sz2,n2,amW,N3,hn2,It,Aa⟩,oe⟩;injection N3 with q1 q2 q3 q4 q5
     subst q2 q3 q4 q5;have Gj:aG K1 (cI o.dst 0)=aG K b:=by unfold aG;rw[iF]
     have dB:(aK (di (cI o.dst 0) ae (iC b c.O)) (cI o.dst 0)).isSome=true:=by rw[ba,if_pos rfl];rfl
     have cY:Step (λr=>(aK (di (cI o.dst 0) ae (iC b c.O)) (cI o.dst 0)).isSome=true/\aG K1 (cI o.dst 0)=some r) w w1:=
      ⟨⟨oe.size,λg' tZ XE=>oe.block g' tZ λtV=>XE ⟨dB,by rw[Gj];exact(gz.2 g').1 tV⟩,oe.shape⟩,oe.os,oe.tape,oe.output⟩
     have hO1:∀i y,aK (di (cI o.dst 0) ae (iC b c.O)) i=some y->i≠cI o.dst 0->y.kd=.any->cw (cI o.dst 0) y.aa=false:=by
      intro i y hi ou hk;rw[ba,kf,if_neg (λe=>ou e.symm)]at hi
      by_cases e2:b=i
      .rw[if_pos e2]at hi;cases hi
      .rw[if_neg e2]at hi;exact f3 i y hi hk
     have tY:∀(y:ak) i x,aK (di (cI o.dst 0) y (iC b c.O)) i=some x->aK (di (cI o.dst 0) y (di (cI o.dst 0) ae (iC b c.O))) i=some x:=by
      intro y i x hi;rw[ba]at hi⊢
      by_cases e:cI o.dst 0=i
      .rw[if_pos e]at hi⊢;exact hi
      .rw[if_neg e]at hi⊢;rw[ba,if_neg e];exact hi
     subst hr
     rcases Aa with⟨wH,rfl⟩|⟨g',cap,aJ,rfl,l4,tZ,fw,CF,dM,lq⟩
     .subst wH
      have LC:n'=0:=by simpa using hn2
      subst LC
      cases Gc:aG K b with
      |none=>
       have ahF:Step (λ_=>False) w w1:=cY.mono λg' _ hx=>by
        have:=hx.2;rw[Gj,Gc]at this;cases this
       have uz:=(lS.move ahF).oI (fD jF) (b:=cI o.dst 0) (ae:={e:=e',sz:=yJ,kd:=.pure,aa:=[]}) f2 hO1 rfl;exact⟨_,_,rfl,uz.uS (λt=>.inl rfl) (tY _),.fE (dF _ _ _)⟩
      |some g0=>
       rcases hs.own b ae hb with⟨k1,_⟩|⟨g1,k1,Ad,hc1,_⟩
       .rw[show aG K b=none from by simp[aG,k1]]at Gc;cases Gc
       .obtain⟨aaV,Sw,_⟩:=oe.shape g1 Ad ae.e (hc1.cells (by rw[fZ];simp))
        have uz:=lS.rebind (fD jF) (b:=cI o.dst 0) (g:=g1) (ae:={e:=ae.e,sz:=yJ,kd:=.pure,aa:=[]}) cY f2 hO1 (.inr ⟨dB,by rw[Gj];exact aU k1⟩) (by simp) ⟨aaV,Sw,by simp⟩;have uA:=uz.oI (fD jF) (b:=cI o.dst 0) (ae:={e:=e',sz:=yJ,kd:=.pure,aa:=[]}) f2 (λi y hi ou hk=>by
         simp only[ba]at hi;rw[if_neg (λe=>ou e.symm)]at hi;exact hO1 i y (by rw[ba];exact hi) ou hk) rfl
        refine⟨_,_,rfl,uA.uS (λt=>.inl rfl) (λi x hi=>?_),.fE (dF _ _ _)⟩;simp only[aM.BJ,im]at hi;rw[ba]at hi⊢
        by_cases e:cI o.dst 0=i
        .rw[if_pos e]at hi⊢;exact hi
        .rw[if_neg e]at hi⊢;rw[ba,if_neg e,ba,if_neg e];exact hi
     .have N4:w.heap.size<=g'∨((aK (di (cI o.dst 0) ae (iC b c.O)) (cI o.dst 0)).isSome=true/\aG K1 (cI o.dst 0)=some g'):=by
       rcases tZ with tZ|tZ
       .exact .inl tZ
       .exact .inr ⟨dB,by rw[Gj];exact(gz.2 g').1 tZ⟩
      have uz:=lS.rebind (fD jF) (b:=cI o.dst 0) (g:=g') (ae:={e:=e',sz:=yJ,kd:=.pure,aa:=gO}) cY f2 hO1 N4 It ⟨aJ,fw,λj u hj=>lq j u hj⟩;refine⟨_,_,rfl,uz.uS (λt=>.inl rfl) (tY _),.bn (dF _ _ _) (by rw[hn2];exact bG _) fw l4 CF dM⟩
    .exact h.elim
   .exact h.elim
  .exact h.elim
 .exact h.elim
theorem Gk:∀(l m:List (Nat×ak))(b:Nat),aK (l++m) b=match aK l b with|some x=>some x|none=>aK m b
 |[],m,b=>by simp[aK]
 |(i,x)::r,m,b=>by
  rw[nB,aZ,aZ,Gk r m b]
  by_cases h:i=b<;>simp[h]
theorem su:∀(D O:List (Nat×ak))(b:Nat),aK (im D O) b=match aK D b with|some x=>some x|none=>aK O b
 |[],O,b=>by simp[im,aK]
 |(i,x)::r,O,b=>by
  rw[im,ba,aZ,su r O b]
  by_cases h:i=b<;>simp[h]
theorem fL{n:Nat}:∀{l:List Nat},bm n l=true↔n∈l
 |[]=>by simp[bm]
 |m::r=>by
  unfold bm
  cases h:Nat.beq n m
  .have:=beq_false h
   simp only[fL (l:=r),bK,this,false_or]
  .have:=beq_true h
   simp[this]
theorem J3{b:Nat}:∀{O:List (Nat×ak)},b∈fe O↔(aK O b).isSome=true
 |[]=>by simp[fe,aK]
 |(i,x)::r=>by
  rw[fe,aZ,bK,J3 (O:=r)]
  by_cases h:i=b
  .simp[h]
  .rw[if_neg h]
   constructor
   .rintro(e|e)
    .exact absurd e.symm h
    .exact e
   .exact .inr
theorem lE{own:Nat->Option ak}:∀{row:List AV}{l:List (Nat×ak)},fY own row=some l->∀b x,aK l b=some x->own b=some x
 |[],l,h,b,x,hb=>by simp[fY]at h;subst h;simp[aK]at hb
 |u::r,l,h,b,x,hb=>by
  unfold fY at h
  split at h
  .cases h;simp[aK]at hb
  .rename_i b' sz n r' e
   injection e with e1 e2;subst e1 e2
   split at h
   .rename_i ae l' h1 h2
    injection h with h;subst h
    rw[aZ]at hb
    by_cases e:b'=b
    .rw[if_pos e]at hb;subst e;rw[h1];exact hb
    .rw[if_neg e]at hb;exact lE h2 b x hb
   .cases h
  .rename_i b' r' e
   injection e with e1 e2;subst e1 e2
   split at h
   .rename_i ae l' h1 h2
    injection h with h;subst h
    rw[aZ]at hb
    by_cases e:b'=b
    .rw[if_pos e]at hb;subst e;rw[h1];exact hb
    .rw[if_neg e]at hb;exact lE h2 b x hb
   .cases h
  .rename_i v r' _ _ e
   injection e with e1 e2;subst e1 e2
   split at h
   .exact lE h b x hb
   .cases h
theorem Gl{own:Nat->Option ak}{u:AV}{l:List (Nat×ak)}(h:jz own u=some l):∀b x,aK l b=some x->own b=some x:=by
 intro b x hb
 cases u with
 |af b' off=>
  simp only[jz]at h
  split at h
  .rename_i ae h1
   split at h
   .split at h
    .rename_i l' h2
     injection h with h;subst h
     rw[aZ]at hb
     by_cases e:b'=b
     .rw[if_pos e]at hb;subst e;rw[h1];exact hb
     .rw[if_neg e]at hb;exact lE h2 b x hb
    .cases h
   .cases h
  .cases h
 |bn b' sz n=>
  simp only[jz]at h
  split at h
  .rename_i ae h1
   injection h with h;subst h
   rw[aZ]at hb
   by_cases e:b'=b
   .rw[if_pos e]at hb;subst e;rw[h1];exact hb
   .rw[if_neg e]at hb;simp[aK]at hb
  .cases h
 |dX b'=>
  simp only[jz]at h
  split at h
  .rename_i ae h1
   injection h with h;subst h
   rw[aZ]at hb
   by_cases e:b'=b
   .rw[if_pos e]at hb;subst e;rw[h1];exact hb
   .rw[if_neg e]at hb;simp[aK]at hb
  .cases h
 |_=>simp[jz]at h
theorem qT{own:Nat->Option ak}{ps:List Nat}:∀{us:List AV}{i:Nat}{O:List (Nat×ak)},iY own ps i us=some O->∀b x,aK O b=some x->own b=some x
 |[],i,O,h,b,x,hb=>by simp[iY]at h;subst h;simp[aK]at hb
 |u::us,i,O,h,b,x,hb=>by
  simp only[iY]at h
  split at h
  .split at h
   .rename_i l m h1 h2
    injection h with h;subst h
    rw[Gk]at hb
    cases hl:aK l b with
    |some y=>rw[hl]at hb;injection hb with hb;subst hb;exact Gl h1 b y hl
    |none=>rw[hl]at hb;exact qT h2 b x hb
   .cases h
  .exact qT h b x hb
theorem Gm{own:Nat->Option ak}{d:Nat}{bf:Bool}{u':AV}:jz own (.opt d bf u')=none:=rfl
theorem Gn(hs:bC E K c a w){O:List (Nat×ak)}(hO:∀b x,aK O b=some x->aK c.O b=some x){u u':AV}{v:Value}(h:xz (aK c.O) (fe O) u=some u')(hv:VR w (XX E K c.O) K u v):VR w (bH K O) K u' v:=by
 have oS:∀g,bH K O g->XX E K c.O g:=by
  rintro g ⟨b,hb,hk⟩;obtain⟨x,hx⟩:=bF.1 hb;exact .inl ⟨b,by simp[hO b x hx],hk⟩
 have ny:∀{b g:Nat},bm b (fe O)=false->(aK c.O b).isSome=true->aG K b=some g->¬bH K O g:=by
  rintro b g hm hb hk ⟨b',jS,nI⟩;obtain⟨x,hx⟩:=bF.1 jS;have:=hs.inj b b' g hb (by simp[hO b' x hx]) hk nI;subst this;rw[fL.2 (J3.2 jS)]at hm;cases hm
 unfold xz at h
 split at h
 .rename_i b sz n
  split at h
  .rename_i ae hm hb
   split at h
   .rename_i h1 fZ
    injection h with h;subst h
    have bJ:=beq_true h1;have lp:=hs.aa b ae hb;have iZ:dA (aK c.O) sz (.bn b sz n)=some (n,ae.aa.take n,ae.kd):=by
     simp only[dA,hb];rw[show Nat.beq sz sz=true from dz sz,show Nat.beq ae.sz sz=true from by rw[<-bJ];exact dz sz]
    obtain⟨hl,hu,A,cp,cg,e0,ahG,cH,dC,CG⟩:=ig hs iZ hv;have dM:cg.length=(ae.aa.take n).flatten.length:=by rw[ahG,bD hu,<-hl]
    rcases VR.c9 hv with⟨hK,hz,e1⟩|⟨g,cap,aJ,e',mm,hK,nu,e1,hc,l4,Gf,dL⟩
    .subst hz e1
     exact .aL (cs:=[]) (by simp) (by simp) (bG _) (λ_=>rfl) (by simp) (by simp) (by simp) (by simp)
    .rw[e1]at e0
     injection e0 with e2 e3 e4
     subst e1;refine .aL hl hu l4 (λh=>by cases h) dM dC (λdW=>?_) (λj u x hu hx=>?_)
     .have gW:0<n:=by
       rcases mq n with h|h
       .subst h;simp at dW
       .exact h
      obtain⟨g',o',e5,fw⟩:=cH gW;rw[<-e2]at e5;injection e5 with e5;injection e5 with e5 e6;subst e5 e6
      exact⟨g,0,rfl,(bd.1 hc).1,ny hm (by simp[hb]) (aU hK),fw⟩
     .have:=CG j u x hu hx
      rw[fZ]at this;exact VR.sub this λ_ _ _=>trivial
   .cases h
  .cases h
 .rename_i b off
  split at h
  .rename_i ae hm hb
   split at h
   .rename_i row fZ aD
    split at h
    .rename_i iE
     injection h with h;subst h
     obtain⟨g,hK,rfl⟩:=VR.jo hv
     rcases hs.own b ae hb with⟨k1,k2⟩|⟨g',k1,gx⟩
     .rw[show aG K b=none from by simp[aG,k1]]at hK;cases hK
     .have aC:=hs.fu (by simp[hb]) hK
      have hng:=ny hm (by simp[hb]) hK;rw[aU k1]at hK;injection hK with hK;subst hK
      have ox:=gx.row (by rw[fZ];simp) (hs.aa b ae hb) (i:=0) (row:=row) (by rw[aD];rfl);simp only[ly]at ox;obtain⟨cs,c1,c2,c3,c4⟩:=ox.list;have:=VR.aw (w:=w) (X:=bH K O) (K:=K) (xs:=row) (off:=off) (g:=g') (o:=0) (cs:=cs) c1 c3 aC hng c2
       (λj u x hu hx=>da (gp iE hu) (c4 j u x hu hx) _ _)
      simpa using this
    .cases h
   .cases h
  .cases h
 .split at h
  .injection h with h;subst h
   exact hv.sub λg _ hg=>oS g hg
  .cases h
theorem pD(hs:bC E K c a w){O:List (Nat×ak)}(hO:∀b x,aK O b=some x->aK c.O b=some x){ps:List Nat}:∀{us dj:List AV}{i:Nat},l7 (aK c.O) ps (fe O) i us=some dj->dj.length=us.length/\∀(j:Nat) u' v,dj[j]?=some u'->(∀u,us[j]?=some u->VR w (XX E K c.O) K u v)->VR w (bH K O) K u' v
 |[],dj,i,h=>by simp[l7]at h;subst h;simp
 |x::xs,dj,i,h=>by
  have oS:∀g,bH K O g->XX E K c.O g:=by
   rintro g ⟨b,hb,hk⟩;obtain⟨x,hx⟩:=bF.1 hb;exact .inl ⟨b,by simp[hO b x hx],hk⟩
  simp only[l7]at h
  split at h
  .rename_i ys hm mD
   injection h with h;subst h
   obtain⟨h1,h2⟩:=pD hs hO mD;refine⟨by simp[h1],λj u' v hj hv=>?_⟩
   cases j with
   |zero=>simp at hj;subst hj;exact(hv x (by simp)).sub λg _ hg=>oS g hg
   |succ j=>exact h2 j u' v (by simpa using hj) λu hu=>hv u (by simpa using hu)
  .rename_i ys hm mD
   split at h
   .rename_i y hy
    injection h with h;subst h
    obtain⟨h1,h2⟩:=pD hs hO mD;refine⟨by simp[h1],λj u' v hj hv=>?_⟩
    cases j with
    |zero=>simp at hj;subst hj;exact Gn hs hO hy (hv x (by simp))
    |succ j=>exact h2 j u' v (by simpa using hj) λu hu=>hv u (by simpa using hu)
   .cases h
  .cases h
theorem pE{own:Nat->Option ak}{ps bs:List Nat}:∀{us dj:List AV}{i:Nat}{O:List (Nat×ak)},iY own ps i us=some O->l7 own ps bs i us=some dj->∀(j:Nat) u,us[j]?=some u->∀d bf u',u≠.opt d bf u'
 |[],dj,i,O,_,h,j,u,hu=>by simp at hu
 |x::xs,dj,i,O,hA,h,j,u,hu=>by
  intro d bf u' e;simp only[l7]at h;simp only[iY]at hA
  split at h
  .rename_i ys hm mD
   rw[hm]at hA;simp only at hA
   split at hA
   .rename_i l m h1 h2
    cases j with
    |zero=>simp at hu;subst hu e;rw[Gm]at h1;cases h1
    |succ j=>exact pE h2 mD j u (by simpa using hu) d bf u' e
   .cases hA
  .rename_i ys hm mD
   rw[hm]at hA;simp only at hA
   split at h
   .rename_i y hy
    cases j with
    |zero=>simp at hu;subst hu e;simp[xz,AV.bq]at hy
    |succ j=>exact pE hA mD j u (by simpa using hu) d bf u' e
   .cases h
  .cases h
theorem Ae:∀{O O':List (Nat×ak)},JO O O'=true->∀b,(aK O' b).isSome=true↔(aK O b).isSome=true
 |[],[],_,b=>pd
 |(i,x)::r,(i',y)::r',h,b=>by
  simp only[JO,aA]at h;have e:=beq_true h.1.1;subst e;rw[aZ,aZ]
  by_cases hb:i=b
  .simp[hb]
  .simp only[if_neg hb];exact Ae h.2 b
theorem J4:∀{O:List (Nat×ak)},okO O=true->∀b x,aK O b=some x->FM x=true
 |(i,x)::r,h,b,y,hb=>by
  simp only[okO,aA]at h;rw[aZ]at hb
  by_cases e:i=b
  .rw[if_pos e]at hb;injection hb with hb;subst hb;exact h.1
  .rw[if_neg e]at hb;exact J4 h.2 b y hb
theorem Iu{u:AV}{v:Value}{X X':Nat->Prop}(hu:Ig u=true)(h:VR w X K u v):VR w X' K u v:=by
 cases h with
 |bn h1 h2 h3 h4 h5 h6=>exact .bn h1 h2 h3 h4 h5 h6
 |fE h1=>exact .fE h1
 |af h1=>exact .af h1
 |dX h1=>exact .dX h1
 |bool=>exact .bool
 |int=>exact .int
 |str=>exact .str
 |ai=>exact .ai
 |fc=>exact .fc
 |_=>simp[Ig,AV.fp]at hu
theorem aV.ahH{g:Nat}{ae:ak}{aJ:Array Value}{X X':Nat->Prop}(h:aV w X g ae aJ)(hk:∀ag st,ae.kd=.map ag st->ae.fF.all (·.all AV.fp)=true):aV w X' g ae aJ:=by
 cases fZ:ae.kd with
 |map ag st=>
  have hk:=hk ag st fZ;unfold aV at h⊢;rw[fZ]at h⊢;obtain⟨h1,h0,es,hm⟩:=h;refine⟨h1,h0,es,hm.obj,hm.born,hm.agg,hm.key,hm.size,λi row e hi he=>?_⟩;obtain⟨q1,q2,q3,q4,q5⟩:=hm.FO i row e hi he;exact⟨q1,q2,q3,q4,λj u c iG fw=>da (iT.1 (iT.1 hk row (ay hi)) u (ay iG)) (q5 j u c iG fw) _ _⟩
 |_=>exact aV.mk (by rw[fZ];simp) (h.cells (by rw[fZ];simp))
theorem LJ{g:Nat}{ae:ak}{X X':Nat->Prop}(hk:FM ae=true)(h:l8 w X K g ae):l8 w X' K g ae:=by
 obtain⟨aJ,hc,hu⟩:=h;unfold FM at hk;refine⟨aJ,hc.ahH λag st h=>?_,λj u hj=>?_⟩
 .rw[h]at hk;exact hk
 obtain⟨y,hy,h1,hv⟩:=hu j u hj;refine⟨y,hy,h1,?_⟩
 cases fZ:ae.kd with
 |pure=>rw[fZ]at hv;exact hv
 |flat=>rw[fZ]at hk;cases hk
 |any=>
  rw[fZ]at hk hv;have BX:=ay hj;obtain⟨row,hr,XG⟩:=nC.1 BX;have:=iT.1 (iT.1 hk row hr) u XG;exact Iu this hv
 |map ag st=>
  exfalso
  unfold aV at hc;rw[fZ]at hc;rw[hc.2.1]at hj;simp at hj
theorem bC.XH{w':World}{O O':List (Nat×ak)}(h:bC E K c a w)(hO:∀b x,aK O b=some x->aK c.O b=some x)(xK:∀b,(aK O' b).isSome=true↔(aK O b).isSome=true)
  (cY:Step (bH K O) w w')(gz:yq w' (bH K O) K O')(kM:∀b x,aK O' b=some x->FM x=true):bC E K ⟨c.fr,im O' c.O⟩ a w':=by
 have oS:∀g,bH K O g->∃b,(aK c.O b).isSome=true/\aG K b=some g:=by
  rintro g ⟨b,hb,hk⟩;obtain⟨x,hx⟩:=bF.1 hb;exact⟨b,by simp[hO b x hx],hk⟩
 have dB:∀i,(aK (im O' c.O) i).isSome=true->(aK c.O i).isSome=true:=by
  intro i hi;rw[su]at hi
  cases h1:aK O' i with
  |none=>rw[h1]at hi;exact hi
  |some x=>
   obtain⟨y,hy⟩:=bF.1 ((xK i).1 (by simp[h1]));simp[hO i y hy]
 have hX:∀r,XX E K (im O' c.O) r->XX E K c.O r:=by
  rintro r (⟨i,hi,hk⟩|hx)
  .exact .inl ⟨i,dB i hi,hk⟩
  .exact .inr hx
 have dR:dv (XX E K c.O) w w':=cY.ad.mono λr _ hr=>.inl (oS r hr)
 refine⟨h.size,h.defers,h.ext.step cY (λr hr=>by obtain⟨b,hb,hk⟩:=oS r hr;exact h.fI b r hb hk),λt=>(h.fr t).ad dR (λr _=>hX r) λi hi=>rfl,λi x hi=>?_,λi x hi=>?_,
  λi i' r h1 h2 k1 k2=>h.inj i i' r (dB i h1) (dB i' h2) k1 k2,λi r h1 k1=>h.fI i r (dB i h1) k1,h.gK⟩
 .simp only[su]at hi
  cases h1:aK O' i with
  |none=>rw[h1]at hi;exact h.aa i x hi
  |some y=>rw[h1]at hi;injection hi with hi;subst hi;exact gz.aa i y h1
 .simp only[su]at hi
  cases h1:aK O' i with
  |none=>
   rw[h1]at hi
   rcases h.own i x hi with h2|⟨r,h2,h3⟩
   .exact .inl h2
   .refine .inr ⟨r,h2,h3.ad (cY.ad.block r (h.fu (by simp[hi]) (aU h2)) λhr=>?_) dR (λr _=>hX r) (λ_ _ _ _ _ _=>rfl)⟩
    obtain⟨b,hb,hk⟩:=hr;obtain⟨y,hy⟩:=bF.1 hb;have:=h.inj b i r (by simp[hO b y hy]) (by simp[hi]) hk (aU h2);subst this;have:=(xK b).2 hb;rw[h1]at this;cases this
  |some y=>
   rw[h1]at hi;injection hi with hi;subst hi
   rcases gz.own i y h1 with h2|⟨r,h2,h3⟩
   .exact .inl h2
   .exact .inr ⟨r,h2,LJ (kM i y h1) h3⟩
theorem LL{u:AV}{v:Value}{X X':Nat->Prop}{K':KM}(hu:FN u=true)(h:VR w X K u v):VR w X' K' u v:=by
 unfold FN at hu
 split at hu
 .rename_i xs
  obtain⟨vs,rfl,hl,hv⟩:=VR.yL h;refine .bY hl λj u c iG hc=>?_
  have hx:∀{xs:List AV}{j:Nat}{u:AV},AV.kW xs=true->xs[j]?=some u->u.fp=true:=by
   intro xs
   induction xs with
   |nil=>intro j u _ hj;simp at hj
   |cons y ys ih=>
    intro j u hx hj;simp only[AV.kW,aA]at hx
    cases j with
    |zero=>simp at hj;subst hj;exact hx.1
    |succ j=>exact ih hx.2 (by simpa using hj)
  exact da (hx hu iG) (hv j u c iG hc) _ _
 .exact da hu h _ _
theorem Sx(hs:bC E K c a w)(az:ey E K c a w val){f:Operand}{args:Array Operand}{ts:Array TypeId}(ho:o.op=.call {callee:=.value f,args:=args,argTypes:=ts})
  (h:(qK (aK c.O) (val f) (args.toList.map val)).holds P (· =r)):o.wp P a w (bA E c r a o.dst) kK:=by
 unfold qK at h
 split at h
 .rename_i g dt Sp
  split at h
  .rename_i O hA
   split at h
   .rename_i us hV
    obtain⟨O',x,⟨⟨fn,FB,ek,mj⟩,Ab⟩,h⟩:=h;dsimp only at h
    split at h
    .rename_i kM
     simp only[aA]at kM;have hr:_=r:=h;have hO:=qT hA;obtain⟨cv,ef,cl,Sq⟩:=VR.fJ (az.at Sp);obtain⟨ml,mv⟩:=mP az args;obtain⟨v1,v2⟩:=pD hs hO hV;have sv:=pE hA hV;have tX:∀(j:Nat) u v,(args.toList.map val++dt)[j]?=some u->(args.map a.eval++cv)[j]?=some v->VR w (XX E K c.O) K u v:=by
      intro j u v hu hv;have XI:=sv j u hu;have Ac:(args.toList.map val).length=(args.map a.eval).size:=by simp
      rcases eJ j (args.toList.map val).length with aC|kT
      .rw[bM aC]at hu
       rw[D1 (by omega)]at hv;exact FV.vr (mv j u v hu (by simpa using hv)) XI
      .rw[cm kT]at hu
       rw[lC (by omega)]at hv;rw[Ac]at hu;exact Sq _ u v hu hv
     have mQ:us.length=(args.map a.eval++cv).size:=by
      rw[v1];simp[cl]
     have fU:∀(j:Nat) u v,us[j]?=some u->(args.map a.eval++cv)[j]?=some v->VR w (bH K O) K u v:=λj u v hu hv=>v2 j u v hu λu0 sq=>tX j u0 v sq hv
     have oS:∀g,bH K O g->∃b,(aK c.O b).isSome=true/\aG K b=some g:=by
      rintro g ⟨b,hb,hk⟩;obtain⟨x,hx⟩:=bF.1 hb;exact⟨b,by simp[hO b x hx],hk⟩
     have aaW:yq w (bH K O) K O:=by
      refine⟨λb ae hb=>hs.aa b ae (hO b ae hb),λb ae hb=>?_,λb b' g h1 h2 k1 k2=>?_⟩
      .rcases hs.own b ae (hO b ae hb)with h2|⟨g',h2,h3⟩
       .exact .inl h2
       .exact .inr ⟨g',h2,h3.ad rfl (dv.refl _ _) (λg _ hg=>.inl (oS g hg)) (λ_ _ _ _ _ _=>rfl)⟩
      .obtain⟨y,hy⟩:=bF.1 h1
       obtain⟨y',J1⟩:=bF.1 h2;exact hs.inj b b' g (by simp[hO b y hy]) (by simp[hO b' y' J1]) k1 k2
     have kS:∀w',Ext (bH K O) w w'->WI w':=by
      intro w' hx;refine E.kS _ ⟨hx.os.trans hs.ext.os,hx.tape.trans hs.ext.tape,hx.output.trans hs.ext.output,du hs.ext.size hx.size,λg hg hX=>?_,λg aJ e hc=>?_⟩
      .rw[hx.block g (ew hg hs.ext.size) λho=>?_]
       .exact hs.ext.block g hg hX
       .obtain⟨b,hb,hk⟩:=oS g ho
        rcases hs.fI b g hb hk with h|h
        .exact hX h
        .omega
      .obtain⟨c1,h1,s1⟩:=hs.ext.shape g aJ e hc
       obtain⟨c2,h2,s2⟩:=hx.shape g c1 e h1;exact⟨c2,h2,s2.trans s1⟩
     unfold Oper.wp;have Ck:(execOp a.eval o).run P w=.ok (.enter g (args.map a.eval++cv)) w:=by
      simp only[execOp,ho,resolve,ef,Deferred.ofValue,Sem.run_bind,Sem.run_pure,Result.andThen_ok,invoke,callFunc,run_program];simp[FB,ek,mj]
     rw[Ck,Oper.upon_enter];refine(Ab w K _ kS aaW mQ fU).mono ?_;rintro e w1 ⟨v,rfl,ox,aaX,oe⟩;have cY:Step (bH K O) w w1:=⟨⟨oe.size,oe.block,oe.shape⟩,oe.os,oe.tape,oe.output⟩;have uz:=hs.XH hO (Ae kM.1.1) cY aaX (J4 kM.1.2);subst hr;exact⟨K,v,rfl,uz,LL kM.2 ox⟩
    .exact h.elim
   .exact h.elim
  .exact h.elim
 .exact h.elim
end
end Go.an
