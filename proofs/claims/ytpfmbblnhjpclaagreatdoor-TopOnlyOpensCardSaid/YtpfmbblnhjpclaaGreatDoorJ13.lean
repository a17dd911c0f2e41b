import Derived.Test.YtpfmbblnhjpclaaGreatDoorAbs20
import Derived.Deep.LoopGhost
set_option linter.unusedVariables false
set_option linter.unusedSimpArgs false
namespace Go.an
open Go.RowKit
section
variable{P:Program} {T:dD} {E:Env} {c c':aM} {a:Act} {w:World} {o:Oper} {r:iS} {aB:Array Oper} {dm:List (Nat×Bool)} {N:Nat} {dr:Bool}
theorem IK(tY:∀t∈o.looksAt aB,lk c'.fr t=lk c.fr t):∀x∈o.op.operands,j8 c x=j8 c' x:=by
 intro x hx
 cases x with
 |tmp t=>
  simp only[j8];exact(tY t (by
   unfold Oper.looksAt;exact List.mem_append_left _ (List.mem_filterMap.2 ⟨.tmp t,by simpa using hx,rfl⟩))).symm
 |const v=>rfl
 |global g=>rfl
 |func f=>rfl
theorem vq(tY:∀t∈o.looksAt aB,lk c'.fr t=lk c.fr t){j d:Nat}{bf:Bool}(hg:o.guard=some (j,bf))(qw:sW aB j=some d):lk c'.fr d=lk c.fr d:=by
 refine tY d ?_;unfold Oper.looksAt;refine List.mem_append_right _ ?_;rw[hg];unfold sW at qw;simp only[qw];simp
theorem L7{d:Nat}{bf:Bool}{b:Nat}(h:gw (aK c.O) (o.op.operands.toList.map (NK c d bf)) b):gw (aK c.O) (o.op.operands.toList.map (j8 c)) b:=by
 refine h.sub λb hb=>?_
 generalize o.op.operands.toList=xs at hb
 induction xs with
 |nil=>exact hb
 |cons x xs ih=>
  simp only[cU,AV.cN,pj]at hb⊢
  rcases hb with hb|hb
  .left
   cases hv:(j8 c x).has b with
   |true=>rfl
   |false=>
    have:(NK c d bf x).has b=false:=by
     unfold NK
     split
     .exact mH (mH hv)
     .exact mH hv
    rw[this]at hb;cases hb
  .exact .inr (ih hb)
theorem L8(h:Cp o=false)(val:Operand->AV)(own cy:Nat->Option ak):cQ dr T val own o=cQ dr T val cy o:=by
 unfold Cp at h
 split at h
 .rename_i x cq
  unfold cQ;rw[cq]
 .rename_i x cq
  unfold cQ;rw[cq]
 .rename_i t x f cq
  unfold cQ;rw[cq]
 .cases h
theorem kh.aar(h:kh dr P T N aB o c r)(tY:∀t∈o.looksAt aB,lk c'.fr t=lk c.fr t)(hR:∀b,Cp o=true->gw (aK c.O) (o.op.operands.toList.map (j8 c)) b->aK c'.O b=aK c.O b)(BL:fg N c' o.dst=true)
  (hfd:fq c r.nw r.D=true->fq c' r.nw r.D=true):kh dr P T N aB o c' r:=by
 have own:∀val:Operand->AV,(∀b,gw (aK c.O) (o.op.operands.toList.map val) b->gw (aK c.O) (o.op.operands.toList.map (j8 c)) b)->cQ dr T val (aK c'.O) o=cQ dr T val (aK c.O) o:=by
  intro val hv
  cases hm:Cp o with
  |false=>exact L8 hm _ _ _
  |true=>exact Oh λb hb=>hR b hm (hv b hb)
 cases h with
 |run hg hd hh hf sv=>exact .run hg BL (by rw[<-ub (IK tY),own _ λ_ hb=>hb];exact hh) (hfd hf) sv
 |yes hg qw hl hd hh hf sv=>exact .yes hg qw (by rw[vq tY hg qw];exact hl) BL (by rw[<-ub (IK tY),own _ λ_ hb=>hb];exact hh) (hfd hf) sv
 |skip hg qw hl dW hd=>exact .skip hg qw (by rw[vq tY hg qw];exact hl) dW BL
 |dead hg qw hl hd=>exact .dead hg qw (by rw[vq tY hg qw];exact hl) BL
 |spec hg qw hb dW hd hh No Gt=>
  rename_i j d bf r';have aa1:=vq tY hg qw;refine .spec hg qw (by rw[aa1];exact hb) dW BL ?_ No Gt;rw[ub (sO:=NK c d bf) (λx hx=>?_),own _ λ_ hb=>L7 hb]
  .exact hh
  .unfold NK
   rw[aa1,IK tY x hx]
theorem kh.tag(h:kh dr P T N aB o c r){d:Nat}{bf:Bool}{v:AV}(hv:r.v=.opt d bf v):d∈o.looksAt aB:=by
 cases h with
 |run hg hd hh hf sv=>rw[hv]at sv;cases sv
 |yes hg qw hl hd hh hf sv=>rw[hv]at sv;cases sv
 |skip=>cases hv
 |dead=>cases hv
 |spec hg qw hb dW hd hh No Gt=>
  rename_i j d' amY r';simp only at hv;have:d'=d:=by
   unfold pk at hv
   split at hv
   .cases hv
   .injection hv
  subst this;unfold Oper.looksAt;refine List.mem_append_right _ ?_;rw[hg];unfold sW at qw;simp only[qw];simp
theorem SR.same(h:SR E c a w)(tY:∀t,lk c'.fr t=lk c.fr t)(hO:∀b,aK c'.O b=aK c.O b):SR E c' a w:=by
 obtain⟨K,h⟩:=h;exact⟨K,h.uS (λt=>.inl (tY t)) (λb x hb=>by rw[hO]at hb;exact hb)⟩
theorem aa2{s:Rec}{b:Nat}(h:tM s b=false):¬gw (aK s.O) s.yt b:=by
 unfold tM at h
 cases h1:AV.cN b s.yt with
 |true=>rw[h1]at h;cases h
 |false=>
  rw[h1]at h;rintro(h2|⟨i,x,h2,h3,h4,h5⟩)
  .rw[h1]at h2;cases h2
  .have hm:=yQ h2
   simp only at h;generalize s.O=O at h hm
   induction O with
   |nil=>cases hm
   |cons p O ih=>
    obtain⟨j,y⟩:=p;unfold zF at h
    rcases bK.1 hm with e|hm
    .injection e with e1 e2;subst e1 e2
     rw[h3]at h;simp only[h4,h5]at h
     cases h
    .refine ih ?_ hm
     split at h
     .split at h
      .split at h
       .cases h
       .exact h
      .exact h
     .exact h
theorem IL{nw:Bool}:∀{D:List (Nat×ak)},fq c nw D=true↔∀b x,(b,x)∈D->(nw=true->eP b c=true)/\(nw=false->(aK c.O b).isSome=true)
 |[]=>by simp[fq]
 |(i,y)::D=>by
  have ih:=IL (nw:=nw) (D:=D);unfold fq
  cases nw with
  |true=>
   dsimp only
   cases h1:eP i c with
   |true=>
    dsimp only;rw[ih]
    constructor
    .intro h b x hb
     rcases bK.1 hb with e|hb
     .injection e with e _;subst e;exact⟨λ_=>h1,λh=>by cases h⟩
     .exact h b x hb
    .intro h b x hb;exact h b x (rM _ hb)
   |false=>
    refine⟨λh=>(by cases h),λh=>?_⟩;have:=(h i y (by simp)).1 rfl;rw[h1]at this;cases this
  |false=>
   dsimp only
   cases h1:aK c.O i with
   |some z=>
    dsimp only;rw[ih]
    constructor
    .intro h b x hb
     rcases bK.1 hb with e|hb
     .injection e with e _;subst e;exact⟨λh=>(by cases h),λ_=>by rw[h1];rfl⟩
     .exact h b x hb
    .intro h b x hb;exact h b x (rM _ hb)
   |none=>
    refine⟨λh=>(by cases h),λh=>?_⟩;have:=(h i y (by simp)).2 rfl;rw[h1]at this;cases this
theorem count_set:∀{l:List Bool}{i:Nat},l[i]?=some false->(l.set i true).count false+1=l.count false
 |[],_,h=>by simp at h
 |b::l,0,h=>by simp at h;subst h;simp
 |b::l,i+1,h=>by
  have:=count_set (l:=l) (i:=i) (by simpa using h);simp only[DY,List.count_cons];omega
set_option maxHeartbeats 1000000 in
theorem As(hT:br P T)(h1:bW T=true)(hN:E.N=N)(cY:wP aB=true){Kk:aM->Prop}{Q:Exit->Act->World->Prop}
  (hQ:∀c a w,Kk c->SR E c a w->Q .normal a w)(h:cZ true P T N dm aB ⟨c,[],[]⟩ 0 aB.toList c Kk)(hs:SR E c a w):wpAny P .any aB Q aB.size (Array.replicate aB.size false) a {w with drawn:=w.drawn+1}:=by
 simp only[wP,aA]at cY;obtain⟨⟨hju,hed⟩,hpa⟩:=cY;obtain⟨rs,cz,anj,alX⟩:=II h;have uo:CP ⟨c,[],[]⟩:=by intro q hq;cases hq
 have hj:∀(j:Nat) o r,aB.toList[j]?=some o->rs[j]?=some r->kh true P T N aB o (ep (λk=>decide (k<j)) 0 aB.toList rs c) r/\NoP r/\
   (∀(k:Nat) o' r',k<j->aB.toList[k]?=some o'->rs[k]?=some r'->FQ (pn aB.toList) k j=true∨Er (lL o' (ep (λm=>decide (m<k)) 0 aB.toList rs c) r'.D r'.pg r'.v) (lL o (ep (λm=>decide (m<j)) 0 aB.toList rs c) r.D r.pg r.v))/\
   (r.nw=true->∀b x,(b,x)∈r.D->eP b c=true/\∀(k:Nat) o' r',k<j->aB.toList[k]?=some o'->rs[k]?=some r'->zG (lL o' (ep (λm=>decide (m<k)) 0 aB.toList rs c) r'.D r'.pg r'.v) b=false):=by
  intro j o r ho hr;obtain⟨B,b1,b2,_,b4,b5,b6⟩:=Oj anj uo ho hr;simp only[dp]at b4 b5 b6;obtain⟨d1,d2,d3⟩:=amX b1 b5;refine⟨b4,d1,λk o' r' hk tV jV=>d2 _ (b6 k o' r' hk tV jV),λhnw b x hb=>?_⟩;obtain⟨f1,f2⟩:=d3 hnw b x hb;rw[b2]at f1;exact⟨f1,λk o' r' hk tV jV=>f2 _ (b6 k o' r' hk tV jV)⟩
 simp only[dp]at alX;have hn:aB.toList.length=aB.size:=by simp
 have gy:∀j,j<aB.size->∃o r,aB.toList[j]?=some o/\rs[j]?=some r:=λj FY=>⟨_,_,aW (by simpa using FY),aW (by rw[cz];simpa using FY)⟩
 have Gt:∀r∈rs,NoP r:=by
  intro r hr;obtain⟨j,hjr⟩:=fQ hr;have so:j<aB.size:=by have:=(aE.1 hjr).1;rw[cz]at this;simpa using this
  obtain⟨o,r',ho,jV⟩:=gy j so;rw[hjr]at jV;injection jV with jV;subst jV
  exact(hj j o r ho hjr).2.1
 have XS:∀(i j:Nat)(x y:Oper),i<j->aB.toList[i]?=some x->aB.toList[j]?=some y->FQ (pn aB.toList) i j=false->x.apart aB y=true:=by
  intro i j x y hij hx hy ho;have so:j<aB.size:=by have:=(aE.1 hy).1;simpa using this
  have h2:=iT.1 (iT.1 hpa j (iV.2 so)) i (iV.2 hij);rw[ho,cX]at h2;simp only[mu]at hx hy;rw[hx,hy]at h2;exact h2
 have key:∀(fuel:Nat)(listed:Array Bool)(a:Act)(w:World),listed.size=aB.size->listed.toList.count false=fuel->
   (∀(j:Nat) o,aB.toList[j]?=some o->listed.getD j false=true->∀e∈o.after,Region.binds .any e=true->listed.getD e.on false=true)->
   SR E (ep (λk=>listed.getD k false) 0 aB.toList rs c) a w->wpAny P .any aB Q fuel listed a w:=by
  intro fuel
  induction fuel with
  |zero=>
   intro listed a w bJ aa9 mR hs;have tX:∀k,k<aB.size->listed.getD k false=true:=by
    intro k hk;have nI:k<listed.size:=by omega
    have:false∉listed.toList:=List.count_eq_zero.1 aa9
    cases hb:listed[k]with
    |true=>simp[Array.getD,nI,hb]
    |false=>exact absurd (rN.2 (by rw[<-hb];exact Array.getElem_mem nI)) this
   refine⟨?_,hQ _ a w alX ?_⟩
   .unfold Region.ready
    rw[List.filter_eq_nil_iff];intro k hk;have nI:k<aB.size:=iV.1 hk;have:=tX k nI;have anm:k<listed.size:=by omega
    simp[Array.getD,anm]at this⊢;simp[this]
   .have e:ep (λk=>decide (k<aB.toList.length)) 0 aB.toList rs c=ep (λk=>listed.getD k false) 0 aB.toList rs c:=ID λk hk=>by
     simp only[dp];rw[tX k (by simpa using hk)];simpa using hk
    rw[e];exact hs
  |succ fuel ih=>
   intro listed a w bJ aa9 mR hs;have BX:∀i,i∈Region.ready .any aB listed↔i<aB.size/\listed.getD i false=false/\∀o,aB.toList[i]?=some o->∀e∈o.after,Region.binds .any e=true->listed.getD e.on false=true:=by
    intro i;unfold Region.ready;rw[eZ,iV]
    constructor
    .rintro⟨hi,hb⟩
     rw[aA]at hb;have ou:i<listed.size:=by omega
     refine⟨hi,by have:=hb.1;simp[Array.getD,ou]at this⊢;exact this,λo ho e he qv=>?_⟩;have tV:aB[i]?=some o:=by simpa using ho
     have h2:=hb.2;rw[tV]at h2;simp only[iU,qy,mM]at h2;have:=h2 e he;simpa[qv]using this
    .rintro⟨hi,hl,hb⟩
     refine⟨hi,?_⟩;rw[aA];have ou:i<listed.size:=by omega
     refine⟨by simp[Array.getD,ou]at hl⊢;exact hl,?_⟩;have tV:aB[i]?=some aB[i]:=by simp[hi]
     rw[tV];simp only[iU,qy,mM];intro e he
     cases qv:Region.binds .any e
     .rfl
     .simpa using hb aB[i] (by simp[hi]) e he qv
   refine⟨λLB=>?_,λi hi=>?_⟩
   ·
    exfalso
    have hex:∃k,k<aB.size/\listed.getD k false=false:=by
     have:false∈listed.toList:=List.count_pos_iff.1 (by omega);obtain⟨k,hk,he⟩:=List.mem_iff_getElem.1 this;have nI:k<listed.size:=by simpa using hk
     exact⟨k,by omega,by simp[Array.getD,nI];simpa using he⟩
    obtain⟨k,N8,SN,SO⟩:∃k,k<aB.size/\listed.getD k false=false/\∀m,m<k->listed.getD m false=true:=by
     obtain⟨k,hk⟩:=hex
     induction k using Nat.strongRecOn with
     |_ k ihk=>
      by_cases Gf:∃m,m<k/\listed.getD m false=false
      .obtain⟨m,hm1,hm2⟩:=Gf
       exact ihk m hm1 ⟨by omega,hm2⟩
      .exact⟨k,hk.1,hk.2,λm hm1=>by
        cases hb:listed.getD m false
        .exact absurd ⟨m,hm1,hb⟩ Gf
        .rfl⟩
    have:k∈Region.ready .any aB listed:=(BX k).2 ⟨N8,SN,λo ho e he qv=>by
     have h2:=iT.1 hed k (iV.2 (by simpa using N8));rw[ho]at h2;have h3:=iT.1 h2 e (by simpa using he);rw[qv]at h3;simp only[mL,cX]at h3;exact SO e.on (dn h3)⟩
    rw[LB]at this
    cases this
   .obtain⟨og,hiu,hir⟩:=(BX i).1 hi
    obtain⟨o,r,ho,hr⟩:=gy i og;have vW:=(hj i o r ho hr).1;have SP:i<listed.size:=by omega
    have before:∀k,k<i->listed.getD k false=false->FQ (pn aB.toList) k i=false:=by
     intro k hk hl
     cases hb:FQ (pn aB.toList) k i
     .rfl
     .have:=XP hju mR i o ho (hir o ho) k (by simp;omega) hb
      rw[hl]at this;cases this
    have behind:∀k,i<k->k<aB.size->listed.getD k false=true->FQ (pn aB.toList) i k=false:=by
     intro k hk SH hl
     cases hb:FQ (pn aB.toList) i k
     .rfl
     .obtain⟨o',r',tV,_⟩:=gy k SH
      have:=XP hju mR k o' tV (mR k o' tV hl) i (by simp;omega) hb;rw[hiu]at this;cases this
    have ank:∀(k:Nat) x t,aB.toList[k]?=some x->x.dst=some t->t∈o.looksAt aB->listed.getD k false=decide (k<i):=by
     intro k x t hx hxt hto;have SH:k<aB.size:=by have:=(aE.1 hx).1;simpa using this
     rcases jZ k i with aC|heq|tp
     .cases hl:listed.getD k false
      .have:=XS k i x o aC hx ho (before k aC hl)
       exact absurd hto ((Oper.apart_spec this).1 t hxt)
      .simp[aC]
     .subst heq;rw[hiu];simp
     .cases hl:listed.getD k false
      .simp;omega
      .have:=XS i k o x tp ho hx (behind k tp SH hl)
       exact absurd hto ((Oper.apart_spec this).2.2 t hxt)
    have anh:∀(b k:Nat) r',k<aB.size->rs[k]?=some r'->b∈iD r'.D r'.pg->k≠i->(b∈iD r.D r.pg∨(Cp o=true/\gw (aK (ep (λm=>decide (m<i)) 0 aB.toList rs c).O) (o.op.operands.toList.map (j8 (ep (λm=>decide (m<i)) 0 aB.toList rs c))) b))->listed.getD k false=decide (k<i):=by
     intro b k r' SH jV hb hki hor;obtain⟨o',r'',tV,IF⟩:=gy k SH;rw[jV]at IF;injection IF with IF;subst IF
     have no:tM (lL o (ep (λm=>decide (m<i)) 0 aB.toList rs c) r.D r.pg r.v) b=false/\b∉iD r.D r.pg->False:=by
      rintro⟨n1,n2⟩
      rcases hor with hor|hor
      .exact n2 hor
      .have e:lL o (ep (λm=>decide (m<i)) 0 aB.toList rs c) r.D r.pg r.v=⟨o.op.operands.toList.map (j8 (ep (λm=>decide (m<i)) 0 aB.toList rs c)),(ep (λm=>decide (m<i)) 0 aB.toList rs c).O,r.v,r.D,r.pg⟩:=by
        unfold lL;rw[hor.1]
       rw[e]at n1;exact aa2 n1 hor.2
     rcases eJ k i with aC|kT
     .cases hl:listed.getD k false
      .rcases(hj i o r ho hr).2.2.1 k o' r' aC tV jV with h2|h2
       .rw[before k aC hl]at h2;cases h2
       .exact(no ⟨(h2.1 b hb).1,(h2.1 b hb).2.1⟩).elim
      .simp[aC]
     .have tp:i<k:=by omega
      cases hl:listed.getD k false
      .simp;omega
      .rcases(hj k o' r' tV jV).2.2.1 i o r tp ho hr with h2|h2
       .rw[behind k tp SH hl]at h2;cases h2
       .exact(no ⟨(h2.2 b hb).1,(h2.2 b hb).2.1⟩).elim
    have ani:kh true P T N aB o (ep (λk=>listed.getD k false) 0 aB.toList rs c) r:=by
     have anl:∀b,(b∈iD r.D r.pg∨(Cp o=true/\gw (aK (ep (λm=>decide (m<i)) 0 aB.toList rs c).O) (o.op.operands.toList.map (j8 (ep (λm=>decide (m<i)) 0 aB.toList rs c))) b))->
       aK (ep (λk=>listed.getD k false) 0 aB.toList rs c).O b=aK (ep (λm=>decide (m<i)) 0 aB.toList rs c).O b:=by
      intro b hor;refine Gy Gt (λk r' hk jV hb=>?_) rfl;simp only[dp]
      by_cases hki:k=i
      .subst hki;rw[hiu];simp
      .exact anh b k r' (by simpa using hk) jV hb hki hor
     refine vW.aar (λt ht=>?_) (λb hm hb=>anl b (.inr ⟨hm,hb⟩)) ?_ λhfd=>?_
     .exact J9 Gt (λk x hx hxt=>by simp only[dp];exact ank k x t hx hxt ht) rfl
     .have U3:fg N (ep (λk=>decide (k<i)) 0 aB.toList rs c) o.dst=true:=by cases vW<;>assumption
      cases N1:o.dst with
      |none=>rfl
      |some d=>
       rw[N1]at U3;simp only[fg,aA]at U3⊢;refine⟨U3.1,?_⟩;obtain⟨n1,n2⟩:=IH Gt U3.2;refine IG Gt n1 λk x r' hx jV amZ hxd w' v' hv=>?_
       simp only[dp]at amZ n2;have SH:k<aB.size:=by have:=(aE.1 hx).1;simpa using this
       rcases jZ k i with aC|heq|tp
       .exact n2 k x r' hx jV (by simpa using aC) hxd w' v' hv
       .subst heq;rw[hiu]at amZ;cases amZ
       .have hap:=XS i k o x tp ho hx (behind k tp SH amZ)
        exact(Oper.apart_spec hap).1 d N1 ((hj k x r' hx jV).1.tag hv)
     .rw[IL]at hfd⊢
      intro b x hb;obtain⟨od,yN⟩:=hfd b x hb;refine⟨λhnw=>?_,λhnw=>by rw[anl b (.inl (SG hb))];exact yN hnw⟩;obtain⟨g1,g2⟩:=(hj i o r ho hr).2.2.2 hnw b x hb;refine IJ Gt g1 λk o' r' tV jV amZ=>?_
      simp only[dp]at amZ;have SH:k<aB.size:=by have:=(aE.1 tV).1;simpa using this
      rcases jZ k i with aC|heq|tp
      .have:=Ol (g2 k o' r' aC tV jV)
       exact⟨this.1,this.2.1⟩
      .subst heq;rw[hiu]at amZ;cases amZ
      .rcases(hj k o' r' tV jV).2.2.1 i o r tp ho hr with h2|h2
       .rw[behind k tp SH amZ]at h2;cases h2
       .rcases(h2.1 b (SG hb)).2.2 with q|q
        .exfalso
         have hf:=(jq (od hnw)).1;have dB:=q.2;unfold lL at dB;simp only at dB
         split at dB
         .simp[aK]at dB
         .rw[hf]at dB;cases dB
        .have:=Ol q
         exact⟨this.1,this.2.1⟩
    refine wpOp_mono (λa' w' eh=>?_) (pG hT h1 hN (by simpa using ho) ani hs);have hL:∀k,(listed.setIfInBounds i true).getD k false=if k=i then true else listed.getD k false:=by
     intro k;simp only[dI,FE]
     by_cases hk:i=k
     .subst hk;simp[SP]
     .rw[if_neg hk,if_neg (λe=>hk e.symm)]
    refine ih (listed.setIfInBounds i true) a' w' (by simp[bJ]) ?_ ?_ ?_
    .have hli:listed.toList[i]?=some false:=by
      have:=hiu;simp[Array.getD,SP]at this;simp[SP,this]
     have:=count_set hli;rw[zn];omega
    .intro j o' tV hl e he qv
     rw[hL]at hl⊢
     split
     .rfl
     .split at hl
      .rename_i SQ;subst SQ
       exact hir o' tV e he qv
      .exact mR j o' tV hl e he qv
    .refine eh.same (λt=>?_) ?_
     .rw[Ap (Gt r (ay hr))]
      by_cases hdt:o.dst=some t
      .rw[if_pos hdt]
       refine L0 Gt ho hr hdt (by simp[hL]) λk x hik hx hxt=>?_
       simp only[dp,hL];rw[if_neg (by omega)]
       cases hl:listed.getD k false
       .rfl
       .have SH:k<aB.size:=by have:=(aE.1 hx).1;simpa using this
        have hap:=XS i k o x hik ho hx (behind k hik SH hl);exact absurd hxt ((Oper.apart_spec hap).2.1 t hdt)
      .rw[if_neg hdt]
       refine J9 Gt (λk x hx hxt=>?_) rfl;simp only[dp,hL];rw[if_neg];rintro rfl;rw[ho]at hx;injection hx with hx;subst hx;exact hdt hxt
     .intro b
      by_cases hb:b∈iD r.D r.pg
      .refine B0 Gt ho hr hb (by simp[hL]) λk r' hik jV jS=>?_
       simp only[dp,hL];rw[if_neg (by omega)];have SH:k<aB.size:=by have:=(aE.1 jV).1;rw[cz]at this;simpa using this
       rw[anh b k r' SH jV jS (by omega) (.inl hb)];simp;omega
      .rw[Gx (Gt r (ay hr)) hb]
       refine Gy Gt (λk r' hk jV jS=>?_) rfl;simp only[dp,hL];rw[if_neg];rintro rfl;rw[hr]at jV;injection jV with jV;subst jV;exact hb jS
 have SU:∀k,(Array.replicate aB.size false).getD k false=false:=by
  intro k;rw[dI];rw[oz]
  split<;>rfl
 refine key aB.size (Array.replicate aB.size false) a _ (by simp) (by simp) (λj o ho hl=>?_) ?_
 .rw[SU]at hl;cases hl
 .obtain⟨K,hs⟩:=hs
  rw[wQ _ _ _ _ _ (λk _=>SU k)];exact⟨K,hs.move (Step.drawn _ w (w.drawn+1))⟩
theorem Ar(hT:br P T)(h1:bW T=true)(hN:E.N=N)(hm:P.follows .mixedOrders=true)(cY:wP aB=true){Kk:aM->Prop}{Q:Exit->Act->World->Prop}{id:Nat}
  (hQ:∀c a w,Kk c->SR E c a w->Q .normal a w)(h:cZ true P T N dm aB ⟨c,[],[]⟩ 0 aB.toList c Kk)(hs:SR E c a w):(Code.region id aB true).wp P Q a w:=
 wp_region_any hm (As hT h1 hN cY hQ h hs)
end
def cr:Code->Bool
 |.skip=>true
 |.region _ aB dr=>match dr with|true=>wP aB|false=>true
 |.seq x y=>cr x&&cr y
 |.cond _ x y=>cr x&&cr y
 |.block _ b=>cr b
 |.exit _=>true
 |.ret=>true
 |.loop b=>cr b
 |_=>true
def Ex.jj:Ex->Exit
 |.normal=>.normal
 |.exit id=>.exit id
 |.ret=>.ret
section
variable{P:Program} {T:dD} {E:Env} {N:Nat} {ks:List Nat}
theorem SR.lf{c:aM}{a:Act}{w:World}(h:SR E c a w):SR E ⟨gH c.fr ks,c.O⟩ a w:=by
 obtain⟨K,h⟩:=h;exact⟨K,h.uS (λt=>yK c.fr ks t) λb x hb=>hb⟩
theorem Au{c:aM}{a:Act}{w:World}(h:SR E c a w){x:Operand}{b:Bool}(hx:j8 c x=.bool b):a.eval x=.bool b:=by
 obtain⟨K,h⟩:=h
 cases x with
 |tmp t=>
  have:=h.fr t;simp only[j8]at hx;rw[hx]at this;exact VR.jn this
 |const v=>
  simp only[j8]at hx
  split at hx
  .unfold AV.jJ at hx
   split at hx
   .cases hx
   .unfold AV.qF at hx
    split at hx<;>first|(injection hx with hx;subst hx;rfl)|cases hx
  .cases hx
 |global g=>simp[j8]at hx
 |func f=>simp[j8]at hx
theorem ko(hT:br P T)(h1:bW T=true)(hN:E.N=N)(hm:P.follows .mixedOrders=true):
  ∀(code:Code)(c:aM)(Q:Ex->aM->Prop)(Q':Exit->Act->World->Prop)(a:Act)(w:World),cr code=true->ev P T N ks code c Q->
   (∀e c a w,Q e c->SR E c a w->Q' e.jj a w)->SR E c a w->code.wp P Q' a w
 |.skip,c,Q,Q',a,w,hd,h,hQ,hs=>wp_skip (hQ .normal c a w h hs)
 |.region id aB dr,c,Q,Q',a,w,hd,h,hQ,hs=>by
  have h':∃dm,cZ dr P T N dm aB ⟨c,[],[]⟩ 0 aB.toList c λc'=>lf ks c' (Q .normal):=by
   simp only[ev]at h
   split at h
   .exact⟨[],h⟩
   .exact h
  obtain⟨dm,h'⟩:=h';have RB:∀c a w,lf ks c (Q .normal)->SR E c a w->Q' .normal a w:=λc a w hk hs=>hQ .normal _ a w (uQ.1 hk) hs.lf
  cases dr with
  |false=>
   refine wp_region ?_;have:=qW hT h1 hN RB aB.toList _ 0 c a w (λj=>by simp) h' hs;rw[show aB.toList.length=aB.size by simp,<-lI]at this;exact this
  |true=>exact Ar hT h1 hN hm hd RB h' hs
 |.seq x y,c,Q,Q',a,w,hd,h,hQ,hs=>by
  simp only[cr,aA]at hd;refine wp_seq (ko hT h1 hN hm x c _ _ a w hd.1 h (λe c a w hq hs=>?_) hs)
  cases e with
  |normal=>exact ko hT h1 hN hm y c Q Q' a w hd.2 hq hQ hs
  |exit id=>exact hQ _ c a w hq hs
  |ret=>exact hQ _ c a w hq hs
 |.cond x t e,c,Q,Q',a,w,hd,h,hQ,hs=>by
  simp only[cr,aA]at hd;simp only[ev]at h
  split at h
  .rename_i b hb
   exact wp_cond_split (Au hs hb) (λht=>ko hT h1 hN hm t c Q Q' a w hd.1 (h.1 ht) hQ hs) (λht=>ko hT h1 hN hm e c Q Q' a w hd.2 (h.2 ht) hQ hs)
  .exact h.elim
 |.block id b,c,Q,Q',a,w,hd,h,hQ,hs=>by
  refine wp_block (ko hT h1 hN hm b c _ _ a w hd h (λe c a w hq hs=>?_) hs)
  cases e with
  |normal=>exact hQ _ c a w hq hs
  |exit HZ=>
   simp only[Ex.jj,Exit.inBlock];simp only at hq
   split at hq
   .rename_i he
    rw[if_pos (beq_true he)];exact hQ .normal c a w hq hs
   .rename_i he
    rw[if_neg (beq_false he)];exact hQ (.exit HZ) c a w hq hs
  |ret=>exact hQ _ c a w hq hs
 |.exit id,c,Q,Q',a,w,hd,h,hQ,hs=>wp_exit (hQ (.exit id) c a w h hs)
 |.ret,c,Q,Q',a,w,hd,h,hQ,hs=>wp_ret (hQ .ret c a w h hs)
 |.loop b,c,Q,Q',a,w,hd,h,hQ,hs=>by
  obtain⟨I,⟨n,c',hw,hI⟩,hr⟩:=h;refine wp_loop_ghost (λn a w=>∃c,I n c/\SR E c a w) n ⟨c',hI,hw E a w hs⟩ ?_;rintro n a w ⟨c,hI,hs⟩;refine ko hT h1 hN hm b c _ _ a w hd (hr n c hI) (λe c a w hq hs=>?_) hs
  cases e with
  |normal=>
   obtain⟨m,wD,hw,aC,yR⟩:=hq;exact⟨m,aC,wD,yR,hw E a w hs⟩
  |exit id=>exact hQ _ c a w hq hs
  |ret=>exact hQ _ c a w hq hs
 |.rangeFunc _ _ _ _,c,Q,Q',a,w,hd,h,hQ,hs=>h.elim
 |.scope _,c,Q,Q',a,w,hd,h,hQ,hs=>h.elim
 |.label _,c,Q,Q',a,w,hd,h,hQ,hs=>h.elim
 |.goto _,c,Q,Q',a,w,hd,h,hQ,hs=>h.elim
 |.refuse _,c,Q,Q',a,w,hd,h,hQ,hs=>h.elim
theorem Wk.refl(c:aM):Wk c c:=λ_ _ _ h=>h
theorem Wk.trans{c c' wD:aM}(h:Wk c c')(k:Wk c' wD):Wk c wD:=λE a w s=>k E a w (h E a w s)
theorem Wk.ad{c:aM}(ks ids:List Nat):Wk c (c.only ks ids):=by
 rintro E a w ⟨K,h⟩;exact⟨K,h.uS (λt=>yK c.fr ks t) λb x hb=>qM c.O ids b x hb⟩
def SK(c:aM)(u r:AV):Prop:=
 match u with
 |.bn b sz n=>∃ae,aK c.O b=some ae/\ae.sz=sz/\n=ae.aa.length/\((ae.kd=.pure/\r=.dh true ae.e sz n ae.aa)∨(ae.kd=.flat/\r=.dh false ae.e sz n ae.aa))
 |.ai=>r=.ai∨∃p e sz,r=.dh p e sz 0 []
 |u=>u.bq=true/\r=u
def vt(T:dD)(c:aM):ResultVar->Option AV
 |.tmp t=>some (lk c.fr t)
 |.cell t ty=>match lk c.fr t with
  |.af b off=>match T.get ty,aK c.O b with
   |some i,some ae=>match ae.aa with
    |[row]=>mN i row off
    |_=>none
   |_,_=>none
  |.aw row off=>match T.get ty with
   |some i=>mN i row off
   |none=>none
  |_=>none
def L9(T:dD)(c:aM):List ResultVar->List AV->Prop
 |[],[]=>True
 |x::rv,r::rs=>match vt T c x with
  |some u=>u.bq=true/\r=u/\L9 T c rv rs
  |none=>False
 |_,_=>False
def On:AV->Bool
 |.bY _=>false
 |_=>true
def IM(T:dD)(c:aM):List ResultVar->AV->Prop
 |[x],r=>match vt T c x with
  |some u=>On r=true/\SK c u r
  |none=>False
 |[],r=>r=.bY []
 |x::y::rv,r=>match vt T c x with
  |some u=>∃r0 rs,r=.bY (r0::rs)/\SK c u r0/\L9 T c (y::rv) rs
  |none=>False
def aa3(T:dD)(rv:List ResultVar)(r:AV):Ex->aM->Prop
 |.exit _,_=>False
 |_,c=>IM T c rv r
theorem mU{w:World}{X:Nat->Prop}{K K':KM}{u:AV}{v:Value}(hi:u.bq=true)(h:VR w X K u v):VR w X K' u v:=
 h.ad (dv.refl X w) (λ_ _ h=>h) λb hb=>by rw[lj b u hi]at hb;cases hb
theorem vu{u:AV}(h:u.bq=true):∀d bf u',u≠.opt d bf u':=by
 rintro d bf u' rfl;simp[AV.bq]at h
theorem Av{K:KM}{c:aM}{a:Act}{w w0:World}{X:Nat->Prop}{u r:AV}{vv:Value}{kS:∀w,Ext (λ_=>False) w0 w->WI w}(hs:bC (zI (λ_=>False) X w0 N kS) K c a w)(hf:FV w (XX (zI (λ_=>False) X w0 N kS) K c.O) K a.tmps u vv)(h:SK c u r):
  Nh w w0.heap.size (λg=>X g/\g<w0.heap.size) r vv:=by
 unfold SK at h
 split at h
 .rename_i b sz n
  obtain⟨ae,hb,bJ,hn,hk⟩:=h;have hv:VR w (XX (zI (λ_=>False) X w0 N kS) K c.O) K (.bn b sz n) vv:=hf;have aD:=hs.aa b ae hb;have key:∀p,(p=true->ae.kd=.pure)->(p=false->ae.kd=.flat)->Nh w w0.heap.size (λg=>X g/\g<w0.heap.size) (.dh p ae.e sz n ae.aa) vv:=by
   intro p hp1 hp2;refine⟨hn,λrow hr=>(aD row hr).trans bJ,?_⟩
   cases hv with
   |fE hK=>exact .inl ⟨rfl,rfl⟩
   |bn hK nu hc iW aa4 mQ=>
    rename_i g m cap aJ e
    right
    rcases hs.own b ae hb with⟨h1,h2⟩|⟨g',h1,dw,dL,lq⟩
    .rw[h1]at hK;cases hK
    .rw[h1]at hK
     injection hK with hK
     injection hK with LH hK2
     injection LH with LH
     subst LH
     replace dL:=dL.nX hc
     rw[dL]at hc;injection hc with hc
     injection hc with hc1 Sw
     subst hc1;refine⟨g',cap,dw,rfl,iW,?_,dL,aa4,mQ,λj u hj=>?_⟩
     .rcases hs.fI b g' (by rw[hb];rfl) (aU h1)with h|h
      .exact h.elim
      .exact h
     .obtain⟨x,Oa,N3,hx3⟩:=lq j u hj
      refine⟨x,Oa,N3,?_⟩
      cases p with
      |true=>
       rw[hp1 rfl]at hx3;exact hx3.sub λ_ _ _=>trivial
      |false=>
       rw[hp2 rfl]at hx3;refine hx3.sub λg hg hX=>?_
       rcases hX with hX|hX|hX
       .cases hX
       .exact .inr ⟨⟨hX.1,id⟩,hX.2⟩
       .subst hX
        exact .inl ⟨b,by rw[hb];rfl,aU h1⟩
  rcases hk with⟨h1,rfl⟩|⟨h1,rfl⟩
  .exact key true (λ_=>h1) (λh=>by cases h)
  .exact key false (λh=>by cases h) (λ_=>h1)
 .have hv:vv=.slice none 0 0:=VR.fC hf
  subst hv
  rcases h with rfl|⟨p,e,sz,rfl⟩
  .exact VR.ai
  .exact⟨rfl,by simp,.inl ⟨rfl,rfl⟩⟩
 .rename_i u _ _
  obtain⟨hi,rfl⟩:=h;have hv:VR w (λg=>X g/\g<w0.heap.size) K0 r vv:=mU hi ((hf.vr (vu hi)).sub λg _ h=>.inr ⟨⟨h.1,id⟩,h.2⟩);clear hf
  cases r<;>first|exact hv|(simp[AV.bq]at hi;done)
end
def idx:Nat->List AV->List (Nat×AV)
 |_,[]=>[]
 |i,u::us=>(i,u)::idx (i+1) us
theorem uc:∀(us:List AV)(i t:Nat),lk (idx i us) t=if i<=t then us.getD (t-i) .top else .top
 |[],i,t=>by simp[idx,lk]
 |u::us,i,t=>by
  rw[idx,gC,uc us (i+1) t]
  by_cases h:i=t
  .subst h;simp
  .rw[if_neg h]
   by_cases h1:i<=t
   .rw[if_pos (by omega),if_pos h1,show t-i=(t-(i+1))+1 by omega];simp
   .rw[if_neg (by omega),if_neg h1]
def lr(tmps:Array Value):ResultVar->Sem Value
 |.tmp t=>pure (tmps.getD t undef)
 |.cell a t=>do loadVar t (<-asAddr (tmps.getD a undef))
def Oo:List Value->Value
 |[v]=>v
 |vs=>.tuple vs.toArray
section
variable{P:Program} {N:Nat}
theorem GC{w:World}{f:ResultVar->Sem Value}:∀{rv:List ResultVar}{vs:List Value},vs.length=rv.length->(∀(j:Nat) x v,rv[j]?=some x->vs[j]?=some v->(f x).run P w=.ok v w)->
  (rv.mapM f).run P w=.ok vs w
 |[],vs,hl,_=>by cases vs<;>simp at hl;simp
 |x::rv,vs,hl,h=>by
  cases vs with
  |nil=>simp at hl
  |cons v vs=>
   have h0:=h 0 x v rfl rfl;have ih:=GC (rv:=rv) (vs:=vs) (by simpa using hl) λj x v hx hv=>h (j+1) x v (by simpa using hx) (by simpa using hv)
   simp only[List.mapM_cons,Sem.run_bind,h0,Result.andThen_ok,ih,Sem.run_pure]
theorem gh{fn:Func}{rv:List ResultVar}(hr:fn.results.toList=rv)(tmps:Array Value)(w:World){vs:List Value}(hl:vs.length=rv.length)
  (h:∀(j:Nat) x v,rv[j]?=some x->vs[j]?=some v->(lr tmps x).run P w=.ok v w):(results fn tmps).run P w=.ok (Oo vs) w:=by
 have jV:fn.results=rv.toArray:=by rw[<-hr]
 have:=GC hl h;unfold results;rw[jV];have e:(rv.toArray.mapM (lr tmps)).run P w=.ok vs.toArray w:=by
  rw[List.mapM_toArray];simp only[map_eq_pure_bind,Sem.run_bind,this,Result.andThen_ok,Sem.run_pure]
 have hg:∀f:ResultVar->Sem Value,(∀x,f x=lr tmps x)->(rv.toArray.mapM f).run P w=.ok vs.toArray w:=λf hf=>by rw[show f=lr tmps from funext hf];exact e
 simp only[Sem.run_bind];rw[hg _ (λx=>by cases x<;>rfl)]
 match vs with
 |[]=>simp[Oo]
 |[v]=>simp[Oo]
 |v::v'::vs=>simp[Oo]
theorem mV{T:dD}(hT:br P T){E:Env}{K:KM}{c:aM}{a:Act}{w:World}(hs:bC E K c a w){x:ResultVar}{u:AV}(h:vt T c x=some u):
  ∃v,(lr a.tmps x).run P w=.ok v w/\FV w (XX E K c.O) K a.tmps u v:=by
 cases x with
 |tmp t=>
  simp only[vt,Option.some.injEq]at h;subst h;exact⟨_,by simp only[lr,Sem.run_pure],hs.fr t⟩
 |cell t ty=>
  simp only[vt]at h
  split at h
  .rename_i b off hx
   split at h
   .rename_i i ae hi hb
    split at h
    .rename_i row aD
     have hf:=hs.fr t;rw[hx]at hf;obtain⟨g,hK,e1⟩:=VR.jo hf
     rcases hs.own b ae hb with⟨h1,_⟩|⟨g',h1,h2⟩
     .rw[show aG K b=none from by simp[aG,h1]]at hK;cases hK
     .rw[aU h1]at hK;injection hK with hK;subst hK
      have:=h2.row (h2.Xm (by rw[aD];simp)) (hs.aa b ae hb) (i:=0) (row:=row) (by rw[aD];rfl);simp only[ly]at this;obtain⟨vv,Ck,hv,_⟩:=tR (P:=P) hT hi this h;refine⟨vv,?_,FV.of hv⟩;simp only[lr,e1];simpa[Instr.loadAt,Instr.sureAddr,asAddr,Sem.run_bind]using Ck
    .cases h
   .cases h
  .rename_i row off hx
   split at h
   .rename_i i hi
    have hf:=hs.fr t;rw[hx]at hf;obtain⟨g,b,e1,h1,h2,cs,h3,h4,h5,h6⟩:=VR.uT hf;obtain⟨vv,Ck,hv,_⟩:=tR (P:=P) hT hi (qj.JV h3 h4 h5 h6).any h;refine⟨vv,?_,FV.of hv⟩;simp only[lr,e1];simpa[Instr.loadAt,Instr.sureAddr,asAddr,Sem.run_bind]using Ck
   .cases h
  .cases h
theorem Ax{T:dD}(hT:br P T){K:KM}{c:aM}{a:Act}{w w0:World}{X:Nat->Prop}{kS:∀w,Ext (λ_=>False) w0 w->WI w}(hs:bC (zI (λ_=>False) X w0 N kS) K c a w):∀{rv:List ResultVar}{rs:List AV},L9 T c rv rs->
  ∃vs:List Value,vs.length=rv.length/\rs.length=rv.length/\(∀(j:Nat) x v,rv[j]?=some x->vs[j]?=some v->(lr a.tmps x).run P w=.ok v w)/\
   ∀(j:Nat) u v,rs[j]?=some u->vs[j]?=some v->VR w (λg=>X g/\g<w0.heap.size) K0 u v
 |[],[],h=>⟨[],rfl,rfl,λj u t h=>by simp at h,λj u t h=>by simp at h⟩
 |[],_::_,h=>by simp[L9]at h
 |x::rv,[],h=>by simp[L9]at h
 |x::rv,r::rs,h=>by
  simp only[L9]at h
  split at h
  .rename_i u hu
   obtain⟨hi,rfl,h⟩:=h;obtain⟨v,Np,Ay⟩:=mV hT hs hu;obtain⟨vs,h1,h2,h3,h4⟩:=Ax hT hs h;refine⟨v::vs,by simp[h1],by simp[h2],λj x' v' hx nv=>?_,λj u' v' iG nv=>?_⟩
   .cases j with
    |zero=>simp at hx nv;subst hx nv;exact Np
    |succ j=>exact h3 j x' v' (by simpa using hx) (by simpa using nv)
   .cases j with
    |zero=>
     simp at iG nv;subst iG nv;exact mU hi ((Ay.vr (vu hi)).sub λg _ h=>.inr ⟨⟨h.1,id⟩,h.2⟩)
    |succ j=>exact h4 j u' v' (by simpa using iG) (by simpa using nv)
  .exact h.elim
theorem ud{T:dD}(hT:br P T){K:KM}{c:aM}{a:Act}{w w0:World}{X:Nat->Prop}{kS:∀w,Ext (λ_=>False) w0 w->WI w}(hs:bC (zI (λ_=>False) X w0 N kS) K c a w){rv:List ResultVar}{r:AV}(h:IM T c rv r):
  ∃vs:List Value,vs.length=rv.length/\(∀(j:Nat) x v,rv[j]?=some x->vs[j]?=some v->(lr a.tmps x).run P w=.ok v w)/\RR w w0.heap.size (λg=>X g/\g<w0.heap.size) r (Oo vs):=by
 unfold IM at h
 split at h
 .rename_i x
  split at h
  .rename_i u hu
   obtain⟨hn,h⟩:=h;obtain⟨v,Np,Ay⟩:=mV hT hs hu;refine⟨[v],rfl,λj x' v' hx nv=>?_,?_⟩
   .cases j with
    |zero=>simp at hx nv;subst hx nv;exact Np
    |succ j=>simp at hx
   .have:=Av hs Ay h
    unfold RR
    split
    .simp[On]at hn
    .exact this
  .exact h.elim
 .subst h
  exact⟨[],rfl,λj x v h=>by simp at h,VR.bY (by simp) λj u c h=>by simp at h⟩
 .rename_i x y rv
  split at h
  .rename_i u hu
   obtain⟨r0,rs,rfl,h0,hl⟩:=h;obtain⟨v,Np,Ay⟩:=mV hT hs hu;obtain⟨vs,h1,h2,h3,h4⟩:=Ax hT hs hl;refine⟨v::vs,by simp[h1],λj x' v' hx nv=>?_,?_⟩
   .cases j with
    |zero=>simp at hx nv;subst hx nv;exact Np
    |succ j=>exact h3 j x' v' (by simpa using hx) (by simpa using nv)
   .cases vs with
    |nil=>simp at h1
    |cons v' vs=>
     refine⟨_,rfl,by simp at h1 h2⊢;omega,⟨v,by simp,Av hs Ay h0⟩,λj u' c' iG hc=>?_⟩;exact h4 j u' c' iG (by simpa using hc)
  .exact h.elim
theorem aa5{T:dD}{f:FuncId}{fn:Func}{code:Code}{args:List AV}{r:AV}{ks:List Nat}(rv:List ResultVar)(hT:br P T)(h1:bW T=true)(hm:P.follows .mixedOrders=true)
  (hf:P.funcs[f]?=some fn)(hb:fn.body=some code)(ek:(fn.name== "runtime.NumGoroutine")=false)(hd:cr code=true)(hn:Nat.ble args.length fn.ntmps=true)(hN:fn.ntmps=N)
  (hr:fn.results.toList=rv)(h:ev P T N ks code ⟨idx 0 args,[]⟩ (aa3 T rv r)):Fn P f args r:=by
 refine⟨⟨fn,hf,ek,by rw[hb];rfl⟩,λX w vs kS cz fU=>?_⟩;refine calls_of_wp hf hb ?_;have RC:=dn hn;subst hN;refine ko (E:=zI (λ_=>False) X w fn.ntmps (λw' hx=>kS.mono hx.size λg hg=>hx.block g hg id)) hT h1 rfl hm code _ _ _ _ _ hd h (λe c a w' hq hs=>?_) ⟨K0,?_⟩
 .obtain⟨K,hs⟩:=hs
  have key:IM T c rv r->a.defers=[] /\∃v,(results fn a.tmps).run P w'=.ok v w'/\∃v',Ending.returned v=.returned v'/\RR w' w.heap.size (λg=>X g/\g<w.heap.size) r v'/\Below w.heap.size w w':=by
   intro hq;obtain⟨vs,hl,ht,hR⟩:=ud hT hs hq;refine⟨hs.defers,_,gh hr _ _ hl ht,_,rfl,hR,?_⟩;exact⟨hs.ext.os,hs.ext.tape,hs.ext.output,hs.ext.size,λk hk=>hs.ext.block k hk (λh=>h)⟩
  cases e with
  |normal=>exact key hq
  |exit=>exact hq.elim
  |ret=>exact key hq
 .refine⟨by simp;omega,rfl,⟨rfl,rfl,rfl,bG _,λ_ _ _=>rfl,λ_ aJ _ h=>⟨aJ,h,rfl⟩⟩,λt=>?_,λb ae hb=>by simp[aK]at hb,λb ae hb=>by simp[aK]at hb,λb b' g hb=>by simp[aK]at hb,λb g hb=>by simp[aK]at hb,λb x hx=>by cases hx⟩
  simp only[uc,cF,yH,lz]
  cases hu:args[t]? with
  |none=>rw[lJ,hu];exact FV.top
  |some u=>
   rw[lJ,hu];have ht:t<vs.size:=by rw[<-cz];exact(aE.1 hu).1
   have hv:vs[t]?=some vs[t]:=by simp[ht]
   have:=fU t u _ hu hv;rw[show(vs++Array.replicate (fn.ntmps-vs.size) undef).getD t undef=vs[t]by
    rw[dI,D1 ht,hv];rfl]
   refine FV.of (this.sub λg hg hX=>?_)
   rcases hX with⟨b,hb,_⟩|hX
   .simp[aK]at hb
   .exact hX.1.1
end
end Go.an
