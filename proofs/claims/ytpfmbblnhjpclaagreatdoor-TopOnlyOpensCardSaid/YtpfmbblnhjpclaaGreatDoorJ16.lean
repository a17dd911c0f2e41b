import Derived.Test.YtpfmbblnhjpclaaGreatDoorJ15
set_option linter.unusedVariables false
set_option linter.unusedSimpArgs false
namespace Go.an
open Go.RowKit
def aj(ps:List Nat)(c c':aM):Prop:=∀E a w,(∀b,bm b ps=false->E.gK b=none)->SR E c a w->SR E c' a w
theorem aj.refl(ps:List Nat)(c:aM):aj ps c c:=λ_ _ _ _ h=>h
theorem aj.trans{ps:List Nat}{c c' wD:aM}(h:aj ps c c')(k:aj ps c' wD):aj ps c wD:=λE a w p s=>k E a w p (h E a w p s)
theorem Wk.p{ps:List Nat}{c c':aM}(h:Wk c c'):aj ps c c':=λE a w _ s=>h E a w s
def OI:List (Nat×List Nat)->Nat->List Nat
 |[],_=>[]
 |(i,l)::r,id=>match Nat.beq i id with|true=>l|false=>OI r id
def S0:List Nat->List Nat->Bool
 |[],_=>true
 |b::r,ps=>bm b ps&&S0 r ps
theorem GG:∀{ps qs:List Nat},S0 ps qs=true->∀b,bm b ps=true->bm b qs=true
 |[],_,_,b,h=>by cases h
 |p::r,qs,h,b,hb=>by
  simp only[S0,aA]at h;simp only[bm]at hb
  split at hb
  .rename_i e;rw[beq_true e];exact h.1
  .exact GG h.2 b hb
def AK(P:Program)(N:Nat)(ps:List Nat)(o:Oper)(c2:aM)(K:aM->Prop):Prop:=
 match o.op with
 |.call cl=>match cl.callee with
  |.value f=>match j8 c2 f with
   |.func g dt=>∃(O':List (Nat×ak))(r:AV)(pins:List Nat),fS P g (cl.args.toList.map (j8 c2)++dt) c2.O pins O' r/\
     (pI (cl.args.toList.map (j8 c2)++dt)&&ir r&&IP pins c2.fr&&S0 ps pins&&fg N c2 o.dst)=true/\K ⟨qi o.dst r c2.fr,O'⟩
   |_=>False
  |_=>False
 |_=>False
def gX(o:Oper):Bool:=match o.guard with|none=>true|some _=>false
def OJ(P:Program)(T:dD)(N:Nat)(dm:List (Nat×Bool))(ks ps:List Nat)(aB:Array Oper)(p:Nat)(c:aM)(K:aM->Prop):Prop:=
 match aB[p]? with
 |none=>False
 |some o=>match gX o with
  |false=>False
  |true=>cZ false P T N dm aB ⟨c,[],[]⟩ 0 (aB.toList.take p) c λc1=>∃c2,aj ps c1 c2/\AK P N ps o c2 λc3=>
    cZ false P T N dm aB ⟨c3,[],[]⟩ (p+1) (aB.toList.drop (p+1)) c3 λc'=>lf ks c' K
def OK(P:Program)(T:dD)(N:Nat)(dm:List (Nat×Bool))(ks ps:List Nat)(aB:Array Oper)(p q:Nat)(c:aM)(K:aM->Prop):Prop:=
 match aB[p]?,aB[q]? with
 |some o,some o'=>match gX o&&gX o'&&Nat.blt p q with
  |false=>False
  |true=>cZ false P T N dm aB ⟨c,[],[]⟩ 0 (aB.toList.take p) c λc1=>∃c2,aj ps c1 c2/\AK P N ps o c2 λc3=>
    cZ false P T N dm aB ⟨c3,[],[]⟩ (p+1) ((aB.toList.drop (p+1)).take (q-(p+1))) c3 λc4=>∃c5,aj ps c4 c5/\AK P N ps o' c5 λc6=>
     cZ false P T N dm aB ⟨c6,[],[]⟩ (q+1) (aB.toList.drop (q+1)) c6 λc'=>lf ks c' K
 |_,_=>False
def ON(P:Program)(T:dD)(N:Nat)(dm:List (Nat×Bool))(ks ps:List Nat)(aB:Array Oper)(p:Nat)(c:aM)(K:aM->Prop):Prop:=
 Nat.ble p aB.size=true/\cZ false P T N dm aB ⟨c,[],[]⟩ 0 (aB.toList.take p) c λc1=>∃c2,aj ps c1 c2/\cZ false P T N dm aB ⟨c2,[],[]⟩ p (aB.toList.drop p) c2 λc'=>lf ks c' K
def BN(P:Program)(N:Nat)(ps:List Nat)(aB:Array Oper)(p:Nat)(c:aM)(R:aM->Prop):Prop:=
 ∀(E:Env)(a:Act)(w:World)(Q:Exit->Act->World->Prop),E.N=N->(∀b,bm b ps=false->E.gK b=none)->SR E c a w->wpOp P aB Q p (λa' w'=>∃c',R c'/\SR E c' a' w') a w
def OO(P:Program)(T:dD)(N:Nat)(dm:List (Nat×Bool))(ks ps:List Nat)(aB:Array Oper)(p:Nat)(c:aM)(K:aM->Prop):Prop:=
 Nat.blt p aB.size=true/\cZ false P T N dm aB ⟨c,[],[]⟩ 0 (aB.toList.take p) c λc1=>∃c2,aj ps c1 c2/\∃R,BN P N ps aB p c2 R/\∀c3,R c3->
  cZ false P T N dm aB ⟨c3,[],[]⟩ (p+1) (aB.toList.drop (p+1)) c3 λc'=>lf ks c' K
def wV(P:Program)(T:dD)(N:Nat)(dm:List (Nat×Bool))(ks ps:List Nat)(aB:Array Oper)(l:List Nat)(c:aM)(K:aM->Prop):Prop:=
 match l with
 |[]=>cZ false P T N dm aB ⟨c,[],[]⟩ 0 aB.toList c λc'=>lf ks c' K
 |[p]=>OJ P T N dm ks ps aB p c K
 |[p,q]=>match Nat.beq p q with
  |true=>ON P T N dm ks ps aB p c K
  |false=>OK P T N dm ks ps aB p q c K
 |[p,_,_]=>OO P T N dm ks ps aB p c K
 |_=>False
def EA(P:Program)(T:dD)(N:Nat)(ks ps:List Nat)(aB:Array Oper)(g:Bool)(c:aM)(K:aM->Prop):Prop:=
 match aB.back? with
 |none=>False
 |some o=>(wP aB.pop&&rb aB aB.pop.size&&lV aB.pop&&gX o)=true/\cZ true P T N [] aB.pop ⟨c,[],[]⟩ 0 aB.pop.toList c λc1=>∃c2,aj ps c1 c2/\match g with
  |true=>AK P N ps o c2 λc'=>lf ks c' K
  |false=>cZ false P T N [] aB ⟨c2,[],[]⟩ aB.pop.size [o] c2 λc'=>lf ks c' K
def yU(P:Program)(T:dD)(N:Nat)(ks ps:List Nat)(aB:Array Oper)(x:Bool)(c:aM)(K:aM->Prop):Prop:=
 match aB.back?,aB.pop.back? with
 |some o2,some o1=>(wP aB.pop.pop&&rb aB.pop aB.pop.pop.size&&rb aB aB.pop.size&&lV aB.pop.pop&&lV aB.pop&&gX o1)=true/\
   cZ true P T N [] aB.pop.pop ⟨c,[],[]⟩ 0 aB.pop.pop.toList c λc1=>∃c2,aj ps c1 c2/\match x with
    |false=>AK P N ps o1 c2 λc3=>cZ false P T N [] aB ⟨c3,[],[]⟩ aB.pop.size [o2] c3 λc'=>lf ks c' K
    |true=>∃R,BN P N ps aB.pop aB.pop.pop.size c2 R/\∀c3,R c3->cZ false P T N [] aB ⟨c3,[],[]⟩ aB.pop.size [o2] c3 λc'=>lf ks c' K
 |_,_=>False
def AL(P:Program)(T:dD)(N:Nat)(ks:List Nat)(l ps:List Nat)(aB:Array Oper)(dr:Bool)(c:aM)(K:aM->Prop):Prop:=
 match dr with
 |true=>match l with
  |[]=>match uP aB.toList with
   |false=>cZ true P T N [] aB ⟨c,[],[]⟩ 0 aB.toList c λc'=>lf ks c' K
   |true=>∃dm,cZ true P T N dm aB ⟨c,[],[]⟩ 0 aB.toList c λc'=>lf ks c' K
  |[_]=>EA P T N ks ps aB true c K
  |[_,_,_]=>yU P T N ks ps aB false c K
  |[_,_,_,_]=>yU P T N ks ps aB true c K
  |_=>EA P T N ks ps aB false c K
 |false=>match uP aB.toList with
  |false=>wV P T N [] ks ps aB l c K
  |true=>∃dm,wV P T N dm ks ps aB l c K
def mY(P:Program)(T:dD)(N:Nat)(ks:List Nat)(gs:List (Nat×List Nat))(wk ps:List Nat):Code->aM->(Ex->aM->Prop)->Prop
 |.skip,c,Q=>Q .normal c
 |.region id aB dr,c,Q=>match bm id wk with
  |true=>∃c',aj ps c c'/\AL P T N ks (OI gs id) ps aB dr c' (Q .normal)
  |false=>AL P T N ks (OI gs id) ps aB dr c (Q .normal)
 |.seq x y,c,Q=>mY P T N ks gs wk ps x c λe c'=>match e with
  |.normal=>mY P T N ks gs wk ps y c' Q
  |e=>Q e c'
 |.cond x thn els,c,Q=>match j8 c x with
  |.bool b=>(b=true->mY P T N ks gs wk ps thn c Q)/\(b=false->mY P T N ks gs wk ps els c Q)
  |_=>False
 |.block id b,c,Q=>mY P T N ks gs wk ps b c λe c'=>match e with
  |.exit HZ=>match Nat.beq HZ id with|true=>Q .normal c'|false=>Q (.exit HZ) c'
  |e=>Q e c'
 |.exit id,c,Q=>Q (.exit id) c
 |.ret,c,Q=>Q .ret c
 |.loop b,c,Q=>∃(I:Nat->aM->Prop),(∃n c',aj ps c c'/\I n c')/\∀n c,I n c->mY P T N ks gs wk ps b c λe c'=>match e with
  |.normal=>∃m wD,aj ps c' wD/\m<n/\I m wD
  |e=>Q e c'
 |_,_,_=>False
section
variable{P:Program} {T:dD} {E:Env} {N:Nat} {ks wk ps:List Nat} {gs:List (Nat×List Nat)}
theorem lW(hN:E.N=N)(hp:∀b,bm b ps=false->E.gK b=none){aB:Array Oper}{o:Oper}{Kk:aM->Prop}{K2:Act->World->Prop}{Q:Exit->Act->World->Prop}{p:Nat}{c2:aM}{a:Act}{w:World}
  (ho:aB[p]?=some o)(hg:gX o=true)(h:AK P N ps o c2 Kk)(hs:SR E c2 a w)(hk:∀c a w,Kk c->SR E c a w->K2 a w):wpOp P aB Q p K2 a w:=by
 obtain⟨K,uz⟩:=hs;have tZ:o.guard=none:=by unfold gX at hg;split at hg<;>first|assumption|cases hg
 unfold AK at h
 split at h
 .rename_i cl cq
  split at h
  .rename_i f GH
   split at h
   .rename_i g dt hf
    obtain⟨O',r,pins,FB,yA,nI⟩:=h;simp only[aA]at yA;obtain⟨⟨⟨⟨k1,k2⟩,k3⟩,k4⟩,k5⟩:=yA;obtain⟨fr2,O2⟩:=c2;obtain⟨callee,args,ts⟩:=cl;simp only at GH;subst GH;refine IS (pins:=pins) (O':=O') (r:=r) ho cq (dS tZ) uz FB hf rfl k1 k2 k3 (λb hb=>hp b ?_) (by rw[hN];exact k5) ?_
    .cases hq:bm b ps with
     |false=>rfl
     |true=>rw[GG k4 b hq]at hb;cases hb
    .intro K' v w' eh
     exact hk _ _ w' nI ⟨K',eh⟩
   .exact h.elim
  .exact h.elim
 .exact h.elim
theorem gd(hT:br P T)(h1:bW T=true)(hN:E.N=N){aB:Array Oper}{dm:List (Nat×Bool)}{A:Acc}{i n:Nat}{l:List Oper}{c:aM}{a:Act}{w:World}{Kk:aM->Prop}{Q:Exit->Act->World->Prop}{is:List Nat}
  (hl:∀j,j<l.length->l[j]?=aB[i+j]?)(hn:l.length=n)(h:cZ false P T N dm aB A i l c Kk)(hQ:∀c a w,Kk c->SR E c a w->wpOps P aB Q is a w)(hs:SR E c a w):wpOps P aB Q (List.range' i n++is) a w:=by
 have:=pH (is:=is) (Q:=Q) hT h1 hN hQ l A i c a w hl h hs;rw[hn]at this;exact this
theorem vE(hT:br P T)(h1:bW T=true)(hN:E.N=N)(hp:∀b,bm b ps=false->E.gK b=none){aB:Array Oper}{dm:List (Nat×Bool)}{Kk:aM->Prop}{Q:Exit->Act->World->Prop}(hQ:∀c a w,Kk c->SR E c a w->Q .normal a w)
  {l:List Nat}{c:aM}{a:Act}{w:World}(h:wV P T N dm ks ps aB l c Kk)(hs:SR E c a w):wpOps P aB Q (List.range aB.size) a w:=by
 have RB:∀c a w,lf ks c Kk->SR E c a w->Q .normal a w:=λc a w hk hs=>hQ _ a w (uQ.1 hk) hs.lf
 have wW:∀(c:aM)(a:Act)(w:World),lf ks c Kk->SR E c a w->wpOps P aB Q [] a w:=λc a w hk hs=>RB c a w hk hs
 unfold wV at h
 split at h
 .have:=qW hT h1 hN RB aB.toList _ 0 c a w (λj=>by simp) h hs
  rw[show aB.toList.length=aB.size by simp,<-lI]at this;exact this
 .rename_i p
  unfold OJ at h
  split at h
  .exact h.elim
  .rename_i o ho
   have Il:p<aB.size:=(bd.1 ho).1
   split at h
   .exact h.elim
   .rename_i hg
    rw[lI,show List.range' 0 aB.size=List.range' 0 p++(p::List.range' (p+1) (aB.size-(p+1)))from by
     rw[show(p::List.range' (p+1) (aB.size-(p+1)))=List.range' p (aB.size-p)from by
      rw[show aB.size-p=(aB.size-(p+1))+1 by omega,rY]]
     rw[show List.range' p (aB.size-p)=List.range' (0+1*p) (aB.size-p)from by simp,aI]
     congr 1;omega]
    refine gd hT h1 hN (λj hj=>?_) (by simp;omega) h (λc1 a1 w1 hk lS=>?_) hs
    .rw[FF (by simp at hj;omega)];simp
    .obtain⟨c2,hw,hc⟩:=hk
     rw[wpOps_cons];refine lW hN hp ho hg hc (hw E a1 w1 hp lS) λc3 a3 w3 SO uA=>?_
     have:=gd (is:=[]) (n:=aB.size-(p+1)) hT h1 hN (λj hj=>by rw[cV];simp) (by simp) SO wW uA;rw[dN]at this;exact this
 .rename_i p q
  split at h
  .unfold ON at h
   obtain⟨eY,h⟩:=h;have eY:=dn eY;rw[lI,show List.range' 0 aB.size=List.range' 0 p++List.range' p (aB.size-p)from by
    rw[show List.range' p (aB.size-p)=List.range' (0+1*p) (aB.size-p)from by simp,aI]
    congr 1;omega]
   refine gd hT h1 hN (λj hj=>?_) (by simp;omega) h (λc1 a1 w1 hk lS=>?_) hs
   .rw[FF (by simp at hj;omega)];simp
   .obtain⟨c2,hw,SN⟩:=hk
    have:=gd (is:=[]) (n:=aB.size-p) hT h1 hN (λj hj=>by rw[cV];simp) (by simp) SN wW (hw E a1 w1 hp lS);rw[dN]at this;exact this
  unfold OK at h
  split at h
  .rename_i o o' ho tV
   have hqs:q<aB.size:=(bd.1 tV).1
   split at h
   .exact h.elim
   .rename_i hg
    simp only[aA]at hg;obtain⟨⟨hg1,N4⟩,hg3⟩:=hg;have XV:p<q:=by simpa[Nat.blt_eq]using hg3
    rw[lI,show List.range' 0 aB.size=List.range' 0 p++(p::(List.range' (p+1) (q-(p+1))++(q::List.range' (q+1) (aB.size-(q+1)))))from by
     rw[show(q::List.range' (q+1) (aB.size-(q+1)))=List.range' q (aB.size-q)from by
      rw[show aB.size-q=(aB.size-(q+1))+1 by omega,rY]]
     rw[show List.range' (p+1) (q-(p+1))++List.range' q (aB.size-q)=List.range' (p+1) (aB.size-(p+1))from by
      rw[show List.range' q (aB.size-q)=List.range' ((p+1)+1*(q-(p+1))) (aB.size-q)from by congr 1;omega,aI]
      congr 1;omega]
     rw[show(p::List.range' (p+1) (aB.size-(p+1)))=List.range' p (aB.size-p)from by
      rw[show aB.size-p=(aB.size-(p+1))+1 by omega,rY]]
     rw[show List.range' p (aB.size-p)=List.range' (0+1*p) (aB.size-p)from by simp,aI]
     congr 1;omega]
    refine gd hT h1 hN (λj hj=>?_) (by simp;omega) h (λc1 a1 w1 hk lS=>?_) hs
    .rw[FF (by simp at hj;omega)];simp
    .obtain⟨c2,hw,hc⟩:=hk
     rw[wpOps_cons];refine lW hN hp ho hg1 hc (hw E a1 w1 hp lS) λc3 a3 w3 SO uA=>?_
     refine gd hT h1 hN (λj hj=>?_) (by simp;omega) SO (λc4 a4 w4 hk4 hs4=>?_) uA
     .rw[FF (by simp at hj;omega),cV];simp
     .obtain⟨c5,hw5,hc5⟩:=hk4
      rw[wpOps_cons];refine lW hN hp tV N4 hc5 (hw5 E a4 w4 hp hs4) λc6 a6 w6 hk6 hs6=>?_
      have:=gd (is:=[]) (n:=aB.size-(q+1)) hT h1 hN (λj hj=>by rw[cV];simp) (by simp) hk6 wW hs6;rw[dN]at this;exact this
  .exact h.elim
 .rename_i p _ _
  unfold OO at h;obtain⟨Il,h⟩:=h;have Il:p<aB.size:=by simpa[Nat.blt_eq]using Il
  rw[lI,show List.range' 0 aB.size=List.range' 0 p++(p::List.range' (p+1) (aB.size-(p+1)))from by
   rw[show(p::List.range' (p+1) (aB.size-(p+1)))=List.range' p (aB.size-p)from by
    rw[show aB.size-p=(aB.size-(p+1))+1 by omega,rY]]
   rw[show List.range' p (aB.size-p)=List.range' (0+1*p) (aB.size-p)from by simp,aI]
   congr 1;omega]
  refine gd hT h1 hN (λj hj=>?_) (by simp;omega) h (λc1 a1 w1 hk lS=>?_) hs
  .rw[FF (by simp at hj;omega)];simp
  .obtain⟨c2,hw,R,hX,hc⟩:=hk
   rw[wpOps_cons];refine wpOp_mono (λa3 w3 h3=>?_) (hX E a1 w1 Q hN hp (hw E a1 w1 hp lS));obtain⟨c3,hR,uA⟩:=h3;have:=gd (is:=[]) (n:=aB.size-(p+1)) hT h1 hN (λj hj=>by rw[cV];simp) (by simp) (hc c3 hR) wW uA;rw[dN]at this;exact this
 .exact h.elim
theorem pZ(hT:br P T)(h1:bW T=true)(hN:E.N=N)(hm:P.follows .mixedOrders=true){bI:Array Oper}{o1 o2:Oper}(cY:wP bI=true)(ahM:rb (bI.push o1) bI.size=true)
  (ahN:rb ((bI.push o1).push o2) (bI.push o1).size=true)(hg:lV bI=true)(N4:lV (bI.push o1)=true){dm:List (Nat×Bool)}{Kk:aM->Prop}{Q:Exit->Act->World->Prop}{id:Nat}{c:aM}{a:Act}{w:World}
  (h:cZ true P T N dm bI ⟨c,[],[]⟩ 0 bI.toList c Kk)(hs:SR E c a w)
  (hk:∀c a w,Kk c->SR E c a w->wpOp P (bI.push o1) (λe a w=>e=.normal/\wpOp P ((bI.push o1).push o2) Q (bI.push o1).size (λa w=>Q .normal a w) a w) bI.size (λa w=>wpOp P ((bI.push o1).push o2) Q (bI.push o1).size (λa w=>Q .normal a w) a w) a w):
  (Code.region id ((bI.push o1).push o2) true).wp P Q a w:=by
 have hw:∀c a w,Kk c->SR E c a w->wpOp P (bI.push o1) (λe a w=>e=.normal/\wpOp P ((bI.push o1).push o2) Q (bI.push o1).size (λa w=>Q .normal a w) a w) bI.size (λa w=>(Exit.normal=.normal)/\wpOp P ((bI.push o1).push o2) Q (bI.push o1).size (λa w=>Q .normal a w) a w) a w:=
  λc a w q s=>wpOp_mono (λ_ _ h=>⟨rfl,h⟩) (hk c a w q s)
 have:=As (Q:=λe a w=>e=.normal/\wpOp P (bI.push o1) (λe a w=>e=.normal/\wpOp P ((bI.push o1).push o2) Q (bI.push o1).size (λa w=>Q .normal a w) a w) bI.size (λa w=>(Exit.normal=.normal)/\wpOp P ((bI.push o1).push o2) Q (bI.push o1).size (λa w=>Q .normal a w) a w) a w)
  hT h1 hN cY (λc a w q s=>⟨rfl,hw c a w q s⟩) h hs
 have SU:∀(n k:Nat),(Array.replicate n false).getD k false=false:=by
  intro n k;rw[dI,oz]
  split<;>rfl
 have hr:∀n,Array.replicate (n+1) false=(Array.replicate n false).push false:=λn=>by rw[Array.replicate_succ]
 have h2:=uf (Q:=λe a w=>e=.normal/\wpOp P ((bI.push o1).push o2) Q (bI.push o1).size (λa w=>Q .normal a w) a w) (λe a w ne q=>absurd q.1 ne) ahM hg (λa w q=>q.2) bI.size (Array.replicate bI.size false) a _ (by simp) (by simp) (λj o ho hl=>by rw[SU]at hl;cases hl) this;rw[<-hr,show bI.size+1=(bI.push o1).size by simp]at h2;have h3:=uf (Q:=Q) (λe a w ne q=>absurd q.1 ne) ahN N4 (λa w q=>q.2) (bI.push o1).size (Array.replicate (bI.push o1).size false) a _ (by simp) (by simp) (λj o ho hl=>by rw[SU]at hl;cases hl) h2;refine wp_region_any hm ?_;rw[<-hr]at h3;rw[show((bI.push o1).push o2).size=(bI.push o1).size+1 by simp];exact h3
theorem xS(hT:br P T)(h1:bW T=true)(hN:E.N=N)(hm:P.follows .mixedOrders=true)(hp:∀b,bm b ps=false->E.gK b=none){id:Nat}{l:List Nat}{aB:Array Oper}{dr:Bool}{c:aM}{a:Act}{w:World}{Kk:aM->Prop}{Q:Exit->Act->World->Prop}(hd:cr (.region id aB dr)=true)
  (h:AL P T N ks l ps aB dr c Kk)(hQ:∀c a w,Kk c->SR E c a w->Q .normal a w)(hs:SR E c a w):(Code.region id aB dr).wp P Q a w:=by
 have RB:∀c a w,lf ks c Kk->SR E c a w->Q .normal a w:=λc a w hk hs=>hQ _ a w (uQ.1 hk) hs.lf
 unfold AL at h
 cases dr with
 |true=>
  have key:∀g,EA P T N ks ps aB g c Kk->(Code.region id aB true).wp P Q a w:=by
   intro g h;unfold EA at h
   split at h
   .exact h.elim
   .rename_i o hb
    obtain⟨yA,h⟩:=h;simp only[aA]at yA;obtain⟨⟨⟨k1,k2⟩,k3⟩,k4⟩:=yA;have jS:aB[aB.size-1]?=some o:=by rw[<-Array.back?_eq_getElem?];exact hb
    have dW:aB.size-1<aB.size:=(bd.1 jS).1;have tj:aB[aB.pop.size]?=some o:=by rw[gg];exact jS
    have e:aB=aB.pop.push o:=by
     refine Array.ext (by rw[Array.size_push,gg];omega) λi h1 h2=>?_
     by_cases hi:i<aB.size-1
     .rw[Array.getElem_push_lt (by rw[gg];exact hi),Array.getElem_pop]
     .have ou:i=aB.pop.size:=by rw[gg];omega
      subst ou;rw[Array.getElem_push_eq];have:=tj;rw[nD h1]at this;injection this
    have:=AF (id:=id) (o:=o) (Q:=Q) hT h1 hN hm k1 (by rw[<-e];exact k2) k3 h hs λc1 a1 w1 hk lS=>?_
    .rwa[<-e]at this
    .rw[<-e]
     obtain⟨c2,hw,hk⟩:=hk
     cases g with
     |true=>exact lW hN hp tj k4 hk (hw E a1 w1 hp lS) λc3 a3 w3 SO uA=>RB c3 a3 w3 SO uA
     |false=>
      obtain⟨r,cY,_,oQ⟩:=mS hk;exact wpOp_mono (λa' w' eh=>RB _ a' w' oQ eh) (pG hT h1 hN tj cY (hw E a1 w1 hp lS))
  have abb:∀x,yU P T N ks ps aB x c Kk->(Code.region id aB true).wp P Q a w:=by
   intro x h;unfold yU at h
   split at h
   .rename_i o2 o1 Fx yw
    obtain⟨yA,h⟩:=h;simp only[aA]at yA;obtain⟨⟨⟨⟨⟨k1,k2⟩,k3⟩,k4⟩,k5⟩,k6⟩:=yA;have pp:∀(A:Array Oper)(o:Oper),A.back?=some o->A=A.pop.push o/\A[A.pop.size]?=some o:=by
     intro A o hb;have jS:A[A.size-1]?=some o:=by rw[<-Array.back?_eq_getElem?];exact hb
     have dW:A.size-1<A.size:=(bd.1 jS).1;have tj:A[A.pop.size]?=some o:=by rw[gg];exact jS
     refine⟨Array.ext (by rw[Array.size_push,gg];omega) λi h1 h2=>?_,tj⟩
     by_cases hi:i<A.size-1
     .rw[Array.getElem_push_lt (by rw[gg];exact hi),Array.getElem_pop]
     .have ou:i=A.pop.size:=by rw[gg];omega
      subst ou;rw[Array.getElem_push_eq];have:=tj;rw[nD h1]at this;injection this
    obtain⟨e2,l2⟩:=pp _ _ Fx;obtain⟨e1,l1⟩:=pp _ _ yw;have:=pZ (id:=id) (o1:=o1) (o2:=o2) (bI:=aB.pop.pop) (Q:=Q) hT h1 hN hm k1 (by rw[<-e1];exact k2) (by rw[<-e1,<-e2];exact k3) k4 (by rw[<-e1];exact k5) h hs λc1 a1 w1 hk lS=>?_
    .rwa[<-e1,<-e2]at this
    .rw[<-e1,<-e2]
     obtain⟨c2,hw,hk⟩:=hk;have fin:∀c3 a3 w3,cZ false P T N [] aB ⟨c3,[],[]⟩ aB.pop.size [o2] c3 (λc'=>lf ks c' Kk)->SR E c3 a3 w3->wpOp P aB Q aB.pop.size (λa w=>Q .normal a w) a3 w3:=λc3 a3 w3 SO uA=>by
      obtain⟨r,cY,_,oQ⟩:=mS SO;exact wpOp_mono (λa' w' eh=>RB _ a' w' oQ eh) (pG hT h1 hN l2 cY uA)
     cases x with
     |false=>exact lW hN hp l1 k6 hk (hw E a1 w1 hp lS) fin
     |true=>
      obtain⟨R,hX,hc⟩:=hk;exact wpOp_mono (λa3 w3 ⟨c3,hR,uA⟩=>fin c3 a3 w3 (hc c3 hR) uA) (hX E a1 w1 _ hN hp (hw E a1 w1 hp lS))
   .exact h.elim
  simp only at h
  split at h
  .have h':∃dm,cZ true P T N dm aB ⟨c,[],[]⟩ 0 aB.toList c λc'=>lf ks c' Kk:=by
    split at h
    .exact⟨[],h⟩
    .exact h
   obtain⟨dm,h'⟩:=h';exact Ar hT h1 hN hm hd RB h' hs
  .exact key _ h
  .exact abb _ h
  .exact abb _ h
  .exact key _ h
 |false=>
  have h':∃dm,wV P T N dm ks ps aB l c Kk:=by
   simp only at h
   split at h
   .exact⟨[],h⟩
   .exact h
  obtain⟨dm,h'⟩:=h';exact wp_region (vE hT h1 hN hp hQ h' hs)
theorem cD(hT:br P T)(h1:bW T=true)(hN:E.N=N)(hm:P.follows .mixedOrders=true)(hp:∀b,bm b ps=false->E.gK b=none):
  ∀(code:Code)(c:aM)(Q:Ex->aM->Prop)(Q':Exit->Act->World->Prop)(a:Act)(w:World),cr code=true->mY P T N ks gs wk ps code c Q->
   (∀e c a w,Q e c->SR E c a w->Q' e.jj a w)->SR E c a w->code.wp P Q' a w
 |.skip,c,Q,Q',a,w,hd,h,hQ,hs=>wp_skip (hQ .normal c a w h hs)
 |.region id aB dr,c,Q,Q',a,w,hd,h,hQ,hs=>by
  simp only[mY]at h
  split at h
  .obtain⟨c',hw,h⟩:=h
   exact xS hT h1 hN hm hp hd h (λc a w hk hs=>hQ .normal c a w hk hs) (hw E a w hp hs)
  .exact xS hT h1 hN hm hp hd h (λc a w hk hs=>hQ .normal c a w hk hs) hs
 |.seq x y,c,Q,Q',a,w,hd,h,hQ,hs=>by
  simp only[cr,aA]at hd;refine wp_seq (cD hT h1 hN hm hp x c _ _ a w hd.1 h (λe c a w hq hs=>?_) hs)
  cases e with
  |normal=>exact cD hT h1 hN hm hp y c Q Q' a w hd.2 hq hQ hs
  |exit id=>exact hQ _ c a w hq hs
  |ret=>exact hQ _ c a w hq hs
 |.cond x t e,c,Q,Q',a,w,hd,h,hQ,hs=>by
  simp only[cr,aA]at hd;simp only[mY]at h
  split at h
  .rename_i b hb
   exact wp_cond_split (Au hs hb) (λht=>cD hT h1 hN hm hp t c Q Q' a w hd.1 (h.1 ht) hQ hs) (λht=>cD hT h1 hN hm hp e c Q Q' a w hd.2 (h.2 ht) hQ hs)
  .exact h.elim
 |.block id b,c,Q,Q',a,w,hd,h,hQ,hs=>by
  refine wp_block (cD hT h1 hN hm hp b c _ _ a w hd h (λe c a w hq hs=>?_) hs)
  cases e with
  |normal=>exact hQ _ c a w hq hs
  |exit HZ=>
   simp only[Ex.jj,Exit.inBlock];simp only at hq
   split at hq
   .rename_i he
    rw[if_pos (beq_true he)];exact hQ .normal c a w hq hs
   .rename_i he
    rw[if_neg (beq_false he)];exact hQ (.exit HZ) c a w hq hs
  |ret=>exact hQ _ c a w hq hs
 |.exit id,c,Q,Q',a,w,hd,h,hQ,hs=>wp_exit (hQ (.exit id) c a w h hs)
 |.ret,c,Q,Q',a,w,hd,h,hQ,hs=>wp_ret (hQ .ret c a w h hs)
 |.loop b,c,Q,Q',a,w,hd,h,hQ,hs=>by
  obtain⟨I,⟨n,c',hw,hI⟩,hr⟩:=h;refine wp_loop_ghost (λn a w=>∃c,I n c/\SR E c a w) n ⟨c',hI,hw E a w hp hs⟩ ?_;rintro n a w ⟨c,hI,hs⟩;refine cD hT h1 hN hm hp b c _ _ a w hd (hr n c hI) (λe c a w hq hs=>?_) hs
  cases e with
  |normal=>
   obtain⟨m,wD,hw,aC,yR⟩:=hq;exact⟨m,aC,wD,yR,hw E a w hp hs⟩
  |exit id=>exact hQ _ c a w hq hs
  |ret=>exact hQ _ c a w hq hs
 |.rangeFunc _ _ _ _,c,Q,Q',a,w,hd,h,hQ,hs=>h.elim
 |.scope _,c,Q,Q',a,w,hd,h,hQ,hs=>h.elim
 |.label _,c,Q,Q',a,w,hd,h,hQ,hs=>h.elim
 |.goto _,c,Q,Q',a,w,hd,h,hQ,hs=>h.elim
 |.refuse _,c,Q,Q',a,w,hd,h,hQ,hs=>h.elim
end
def kq(T:dD)(rv:List ResultVar)(r:AV):Ex->aM->Prop
 |.exit _,_=>False
 |_,c=>∃c',aj [] c c'/\IM T c' rv r
def rh(T:dD)(ps:List Nat)(rv:List ResultVar)(r:AV)(O':List (Nat×ak)):Ex->aM->Prop
 |.exit _,_=>False
 |_,c=>∃c',aj ps c c'/\oH c'.O (fe O')=O'/\Ox T c' rv r
theorem XW{P:Program}{N:Nat}{T:dD}{ks wk:List Nat}{gs:List (Nat×List Nat)}(rv:List ResultVar)(hT:br P T)(h1:bW T=true)(hm:P.follows .mixedOrders=true){f:FuncId}{fn:Func}{code:Code}{args:List AV}{r:AV}
  (hf:P.funcs[f]?=some fn)(hb:fn.body=some code)(ek:(fn.name== "runtime.NumGoroutine")=false)(hd:cr code=true)(hn:Nat.ble args.length fn.ntmps=true)(hN:fn.ntmps=N)(hr:fn.results.toList=rv)
  (h:mY P T N ks gs wk [] code ⟨idx 0 args,[]⟩ (kq T rv r)):Fn P f args r:=
 wT rv hT hf hb ek hn hN hr λE K a w SZ hp hs=>
  cD hT h1 SZ hm (λb _=>hp b) code _ (kq T rv r) _ a w hd h (λe c' a' w' hq eh=>by
   cases e with
   |exit id=>exact hq.elim
   |normal=>obtain⟨c2,h1,h2⟩:=hq;obtain⟨K2,h3⟩:=h1 E a' w' (λb _=>hp b) eh;exact⟨.inl rfl,K2,c2,h3,h2⟩
   |ret=>obtain⟨c2,h1,h2⟩:=hq;obtain⟨K2,h3⟩:=h1 E a' w' (λb _=>hp b) eh;exact⟨.inr rfl,K2,c2,h3,h2⟩) ⟨K,hs⟩
theorem S1{P:Program}{N:Nat}{T:dD}{ks wk:List Nat}{gs:List (Nat×List Nat)}(rv:List ResultVar)(hT:br P T)(h1:bW T=true)(hm:P.follows .mixedOrders=true){f:FuncId}{fn:Func}{code:Code}{args:List AV}{O O':List (Nat×ak)}{pins:List Nat}{r:AV}
  (hf:P.funcs[f]?=some fn)(hb:fn.body=some code)(ek:(fn.name== "runtime.NumGoroutine")=false)(hd:cr code=true)(hn:Nat.ble args.length fn.ntmps=true)(hN:fn.ntmps=N)
  (hr:fn.results.toList=rv)(CQ:∀b,bm b pins=true->Nat.ble 2 (b %16)=true/\(aK O b).isSome=true)
  (h:mY P T N ks gs wk pins code ⟨idx 0 args,O⟩ (rh T pins rv r O')):fS P f args O pins O' r:=
 Oy hT rv hf hb ek hn hN hr CQ λE K a w SZ hp hs=>
  cD hT h1 SZ hm hp code _ (rh T pins rv r O') _ a w hd h (λe c' a' w' hq eh=>by
   cases e with
   |exit id=>exact hq.elim
   |normal=>obtain⟨c2,h1,h2,h3⟩:=hq;obtain⟨K2,h4⟩:=h1 E a' w' hp eh;exact⟨.inl rfl,K2,c2,h4,h2,h3⟩
   |ret=>obtain⟨c2,h1,h2,h3⟩:=hq;obtain⟨K2,h4⟩:=h1 E a' w' hp eh;exact⟨.inr rfl,K2,c2,h4,h2,h3⟩) ⟨K,hs⟩
def IT:List (Nat×Nat)->Nat->Nat
 |[],b=>b
 |(x,y)::r,b=>match Nat.beq x b with|true=>y|false=>IT r b
def abc(ps:List Nat)(m:List (Nat×Nat))(ids:List Nat):Bool:=ids.all λb=>Nat.beq (IT m b) b|| !bm (IT m b) ps
theorem aj.kr{ps:List Nat}{c:aM}(ks ids:List Nat)(m:List (Nat×Nat))(hf:IP ids (gH c.fr ks)=true)(hO:B2 ids (oH c.O ids)=true)(hi:Ey (IT m) ids=true)(hr:abc ps m ids=true):
  aj ps c ⟨Me (IT m) (gH c.fr ks),AG (IT m) (oH c.O ids)⟩:=by
 intro E a w hp hs;obtain⟨K,h⟩:=Wk.ad ks ids E a w hs;refine bC.H5 h (IT m) ids hf hO hi λb hb=>?_
 have:=iT.1 hr b (fL.1 hb);rw[pj]at this
 rcases this with h1|h1
 .exact .inl (beq_true h1)
 .exact .inr (hp _ (by simpa using h1))
theorem aj.ad{ps:List Nat}{c:aM}(ks ids:List Nat):aj ps c (c.only ks ids):=(Wk.ad ks ids).p
theorem aj.Ez{ps:List Nat}{c:aM}{pJ:List (Nat×AV)}(hf:∀t,lk pJ t=.top∨gM (aK c.O) (lk c.fr t)=some (lk pJ t)):aj ps c ⟨pJ,[]⟩:=by
 rintro E a w _ ⟨K,h⟩;obtain⟨fr,O⟩:=c;exact⟨K,h.Ez hf⟩
def AM(O:List (Nat×ak))(fr:List (Nat×AV)):List Nat->Option (List (Nat×AV))
 |[]=>some []
 |t::ts=>match gM (aK O) (lk fr t),AM O fr ts with
  |some v,some r=>some ((t,v)::r)
  |_,_=>none
theorem CV{O:List (Nat×ak)}{fr:List (Nat×AV)}:∀{ts:List Nat}{pJ:List (Nat×AV)},AM O fr ts=some pJ->∀t,lk pJ t=.top∨gM (aK O) (lk fr t)=some (lk pJ t)
 |[],pJ,h,t=>by simp[AM]at h;subst h;exact .inl rfl
 |s::ts,pJ,h,t=>by
  simp only[AM]at h
  split at h
  .rename_i v r hv hr
   injection h with h;subst h
   simp only[gC]
   split
   .rename_i e;subst e;exact .inr hv
   .exact CV hr t
  .cases h
theorem aj.S2{ps:List Nat}{c:aM}(ts:List Nat){pJ:List (Nat×AV)}(h:AM c.O c.fr ts=some pJ):aj ps c ⟨pJ,[]⟩:=aj.Ez (CV h)
def IU(O R:List (Nat×ak)):Bool:=R.all λx=> !bm x.1 (fe O)
theorem yV:∀{O:List (Nat×ak)}{b:Nat}{x:ak},aK O b=some x->bm b (fe O)=true
 |[],b,x,h=>by simp[aK]at h
 |(i,y)::r,b,x,h=>by
  rw[aZ]at h;simp only[fe,bm]
  split at h
  .rename_i e;subst e;rw[show Nat.beq i i=true from dz i]
  .split
   .rfl
   .exact yV h
theorem AN{O R:List (Nat×ak)}(h:IU O R=true):aa7 O R:=by
 intro b x hb;have:=iT.1 h _ (yQ hb)
 cases hO:aK O b with
 |none=>rfl
 |some y=>rw[yV hO]at this;simp at this
def Ki(bs:List Nat)(us:List AV):Bool:=bs.all λb=> !AV.cN b us
theorem CW{bs:List Nat}{us:List AV}(h:Ki bs us=true){b:Nat}(hb:bm b bs=true):AV.cN b us=false:=by
 have:=iT.1 h b (fL.1 hb);simpa using this
def Vj(bs:List Nat)(O:List (Nat×ak)):Bool:=O.all λx=>match x.2.kd with|.any=>x.2.aa.all (Ki bs)|_=>true
theorem Mf{bs:List Nat}{O:List (Nat×ak)}(h:Vj bs O=true){b:Nat}{x:ak}(hb:aK O b=some x)(hk:x.kd=.any):∀row∈x.aa,Ki bs row=true:=by
 have:=iT.1 h _ (yQ hb);simp only[hk]at this;exact iT.1 this
theorem fS.frame{P:Program}{f:FuncId}{us:List AV}{O O' R:List (Nat×ak)}{pins:List Nat}{r:AV}(h:fS P f us O pins O' r)(h1:IU O R=true)(h2:IU O' R=true)(h3:B2 (pins++fe R) R=true)(h4:Vj (fe R) O'=true)(h5:Ki (fe R) [r]=true):fS P f us (O++R) (pins++fe R) (O'++R) r:=by
 refine⟨h.1,λXF w K vs kS Fw gz cz fU=>?_⟩;have ap:=AN h1;have ap':=AN h2;have lO:∀g,bH K O g->bH K (O++R) g:=by
  rintro g ⟨b,hb,hk⟩;obtain⟨x,hx⟩:=bF.1 hb;exact⟨b,by simp[mI hx],hk⟩
 have oR:∀b x,aK R b=some x->aK (O++R) b=some x:=λb x hb=>by rw[Mb (ap b x hb)];exact hb
 have lR:∀g,bH K R g->bH K (O++R) g:=by
  rintro g ⟨b,hb,hk⟩;obtain⟨x,hx⟩:=bF.1 hb;exact⟨b,by simp[oR b x hx],hk⟩
 have nOR:∀g,bH K R g->¬bH K O g:=by
  rintro g ⟨b,hb,hk⟩ ⟨b',jS,nI⟩;obtain⟨x,hx⟩:=bF.1 hb;obtain⟨y,hy⟩:=bF.1 jS;have:=gz.inj b b' g (by simp[oR b x hx]) (by simp[mI hy]) hk nI;subst this;rw[ap b x hx]at hy;cases hy
 have ltR:∀g,bH K R g->g<w.heap.size:=by
  rintro g ⟨b,hb,hk⟩;obtain⟨x,hx⟩:=bF.1 hb
  rcases gz.own b x (oR b x hx)with⟨q1,_⟩|⟨g',q1,aJ,q2,_⟩
  .rw[show aG K b=none from by simp[aG,q1]]at hk;cases hk
  .rw[aU q1]at hk;injection hk with hk;subst hk;exact q2.lt
 have sub:∀g,g<w.heap.size->(bH K O g∨(XF g∨bH K R g))->(bH K (O++R) g∨XF g):=by
  rintro g _ (q|q|q)
  .exact .inl (lO g q)
  .exact .inr q
  .exact .inl (lR g q)
 have ext:∀w',Ext (bH K O) w w'->Ext (bH K (O++R)) w w':=λw' hx=>⟨hx.os,hx.tape,hx.output,hx.size,λg hg hn=>hx.block g hg λq=>hn (lO g q),hx.shape⟩
 refine(h.2 (λg=>XF g∨bH K R g) w K vs (λw' hx=>kS w' (ext w' hx)) ?_ ⟨λb x hb=>gz.aa b x (mI hb),λb x hb=>?_,λb b' g q1 q2=>?_⟩ cz (λj u c hu hc=>(fU j u c hu hc).sub λg hg q=>sub g hg q)).mono ?_
 .rintro g (q|q)
  .exact⟨λq'=>(Fw g q).1 (lO g q'),(Fw g q).2⟩
  .exact⟨nOR g q,ltR g q⟩
 .rcases gz.own b x (mI hb)with q|⟨g,q1,q2⟩
  .exact .inl q
  .exact .inr ⟨g,q1,q2.ad rfl (dv.refl _ _) sub (λ_ _ _ _ _ _=>rfl)⟩
 .obtain⟨x,hx⟩:=bF.1 q1
  obtain⟨y,hy⟩:=bF.1 q2;exact gz.inj b b' g (by simp[mI hx]) (by simp[mI hy])
 rintro e w' ⟨v,K',rfl,hv,hK,ho,hl,hx⟩
 let K2:KM:=λb=>if bm b (fe R)=true then K b else K' b
 have kR:∀b,bm b (fe R)=true->K2 b=K b:=λb hb=>by simp only[K2,if_pos hb]
 have kO:∀b,bm b (fe R)=false->K2 b=K' b:=λb hb=>by simp only[K2,hb];simp
 have noO:∀b x,aK O' b=some x->bm b (fe R)=false:=by
  intro b x hb
  cases hq:bm b (fe R)with
  |false=>rfl
  |true=>
   have:∀(R:List (Nat×ak)),bm b (fe R)=true->∃z,aK R b=some z:=by
    intro R
    induction R with
    |nil=>intro q;cases q
    |cons p R ih=>
     obtain⟨i,z⟩:=p;intro q;simp only[fe,bm]at q;rw[aZ]
     split at q
     .rename_i e;have:=beq_true e;subst this;exact⟨z,by simp⟩
     .rename_i e
      by_cases e':i=b
      .exact⟨z,by simp[e']⟩
      .rw[if_neg e'];exact ih q
   obtain⟨z,hz⟩:=this R hq;rw[ap' b z hz]at hb;cases hb
 have bO:∀b x,aK O' b=some x->aG K2 b=aG K' b:=λb x hb=>by simp only[aG,kO b (noO b x hb)]
 have bR:∀b x,aK R b=some x->aG K2 b=aG K b:=λb x hb=>by simp only[aG,kR b (yV hb)]
 have OR:∀g,bH K2 (O'++R) g->bH K' O' g∨bH K R g:=by
  rintro g ⟨b,hb,hk⟩;obtain⟨x,hx⟩:=bF.1 hb
  rcases lU hx with q|⟨_,q⟩
  .exact .inl ⟨b,by simp[q],by rw[<-bO b x q];exact hk⟩
  .exact .inr ⟨b,by simp[q],by rw[<-bR b x q];exact hk⟩
 have abd:∀g,g<w'.heap.size->(bH K2 (O'++R) g∨XF g)->(bH K' O' g∨(XF g∨bH K R g)):=by
  rintro g _ (q|q)
  .rcases OR g q with q|q
   .exact .inl q
   .exact .inr (.inr q)
  .exact .inr (.inl q)
 have abe:∀g,bH K R g->w'.heap[g]?=w.heap[g]?:=λg hg=>hx.block g (ltR g hg) (nOR g hg)
 refine⟨v,K2,rfl,(hv.ad (dv.refl _ _) abd λb hb=>kO b ?_),λb hb=>?_,⟨λb x hb=>?_,λb x hb=>?_,λb b' g q1 q2 k1 k2=>?_⟩,λg hg=>?_,ext w' hx⟩
 .cases hq:bm b (fe R)with
  |false=>rfl
  |true=>
   have:=CW h5 hq;simp only[AV.cN,hb,Bool.true_or]at this
   cases this
 .by_cases hq:bm b (fe R)=true
  .exact kR b hq
  .have jB:bm b (fe R)=false:=by simpa using hq
   rw[kO b jB];refine hK b ?_;have hm:=fL.1 hb
   rcases cE.1 hm with q|q
   .exact fL.2 q
   .exact absurd (fL.2 q) hq
 .rcases lU hb with q|⟨_,q⟩
  .exact ho.aa b x q
  .exact gz.aa b x (oR b x q)
 .rcases lU hb with q|⟨_,q⟩
  .rw[kO b (noO b x q)]
   rcases ho.own b x q with q1|⟨g,q1,q2⟩
   .exact .inl q1
   .refine .inr ⟨g,q1,q2.ad rfl (dv.refl _ _) abd λhk j u b' hu jS=>kO b' ?_⟩
    cases hq:bm b' (fe R)with
    |false=>rfl
    |true=>
     obtain⟨row,aD,XG⟩:=nC.1 (ay hu);have hL:=mT XG jS;rw[CW (Mf h4 q hk row aD) hq]at hL;cases hL
  .rw[kR b (yV q)]
   rcases gz.own b x (oR b x q)with q1|⟨g,q1,q2⟩
   .exact .inl q1
   .have hlv:bH K R g:=⟨b,by simp[q],aU q1⟩
    have dR:dv (λg=>bH K (O++R) g∨XF g) w w':=⟨hx.size,λg hg hn=>hx.block g hg λhL=>hn (.inl (lO g hL)),hx.shape⟩;refine .inr ⟨g,q1,q2.ad (abe g hlv) dR (λg hg q=>?_) λhk j u b' hu jS=>?_⟩
    .rcases q with q|q
     .rcases OR g q with q|q
      .rcases hl g q with q|q
       .exact .inl (lO g q)
       .omega
      .exact .inl (lR g q)
     .exact .inr q
    .obtain⟨row,aD,XG⟩:=nC.1 (ay hu)
     have hp:=(AH h3 b x q).2 hk row aD;have hm:=oV row hp (mT XG jS)
     by_cases hq:bm b' (fe R)=true
     .exact kR b' hq
     .have jB:bm b' (fe R)=false:=by simpa using hq
      rw[kO b' jB];refine hK b' ?_
      rcases cE.1 (fL.1 hm)with q|q
      .exact fL.2 q
      .exact absurd (fL.2 q) hq
 .obtain⟨x,Oa⟩:=bF.1 q1
  obtain⟨y,hy1⟩:=bF.1 q2;have Vk:∀b b' x y,aK O' b=some x->aK R b'=some y->aG K2 b=some g->aG K2 b'=some g->False:=by
   intro b b' x y q q' k k';rw[bO b x q]at k;rw[bR b' y q']at k';have l1:bH K R g:=⟨b',by simp[q'],k'⟩
   rcases hl g ⟨b,by simp[q],k⟩with l2|l2
   .exact nOR g l1 l2
   .have:=ltR g l1;omega
  rcases lU Oa with q|⟨_,q⟩<;>rcases lU hy1 with q'|⟨_,q'⟩
  .rw[bO b x q]at k1;rw[bO b' y q']at k2
   exact ho.inj b b' g (by simp[q]) (by simp[q']) k1 k2
  .exact(Vk b b' x y q q' k1 k2).elim
  .exact(Vk b' b y x q' q k2 k1).elim
  .rw[bR b x q]at k1;rw[bR b' y q']at k2
   exact gz.inj b b' g (by simp[oR b x q]) (by simp[oR b' y q']) k1 k2
 .rcases OR g hg with q|q
  .rcases hl g q with q|q
   .exact .inl (lO g q)
   .exact .inr q
  .exact .inl (lR g q)
def pK(u' u:AV):Prop:=∀w X K v,VR w X K u' v->VR w X K u v
theorem pK.nil(sz:Nat):pK .ai (.aL sz 0 []):=by
 intro w X K v h;have:=VR.fC h;subst this;exact .aL (cs:=[]) (by simp) (by simp) (bG _) (λ_=>rfl) (by simp) (by simp) (by simp) (by simp)
theorem pK.refl(u:AV):pK u u:=λ_ _ _ _ h=>h
theorem pK.agg{xs ys:List AV}(hl:xs.length=ys.length)(h:∀(j:Nat) x y,xs[j]?=some x->ys[j]?=some y->pK x y):pK (.agg xs) (.agg ys):=by
 intro w X K v hv;obtain⟨vs,rfl,l1,h1,v1⟩:=VR.mC hv;refine .agg (by rw[<-hl,l1]) h1 λj u c hu hc=>?_
 have hj:j<xs.length:=by rw[hl];exact(aE.1 hu).1
 exact h j _ u (aW hj) hu w X K c (v1 j _ c (aW hj) hc)
def AO:List AV->List AV->Prop
 |[],[]=>True
 |x::xs,y::ys=>pK x y/\AO xs ys
 |_,_=>False
theorem AO.len:∀{xs ys:List AV},AO xs ys->xs.length=ys.length
 |[],[],_=>rfl
 |x::xs,y::ys,h=>by simp[AO.len h.2]
 |[],_::_,h=>h.elim
 |_::_,[],h=>h.elim
theorem AO.get:∀{xs ys:List AV},AO xs ys->∀(j:Nat) x y,xs[j]?=some x->ys[j]?=some y->pK x y
 |[],[],_,j,x,y,hx,_=>by simp at hx
 |x::xs,y::ys,h,0,a,b,ha,hb=>by simp at ha hb;subst ha hb;exact h.1
 |x::xs,y::ys,h,j+1,a,b,ha,hb=>by simp at ha hb;exact AO.get h.2 j a b ha hb
 |[],_::_,h,_,_,_,_,_=>h.elim
 |_::_,[],h,_,_,_,_,_=>h.elim
theorem pK.EB{xs ys:List AV}(h:AO xs ys):pK (.agg xs) (.agg ys):=.agg h.len h.get
theorem Fn.gI{P:Program}{f:FuncId}{us dj:List AV}{r:AV}(h:Fn P f us r)(hi:AO dj us):Fn P f dj r:=by
 refine⟨h.1,λX w vs hw hl ha=>h.2 X w vs hw (by rw[<-hi.len];exact hl) λj u c hu hc=>?_⟩;have hj:j<dj.length:=by rw[hi.len];exact(aE.1 hu).1
 exact hi.get j _ u (aW hj) hu _ _ _ _ (ha j _ c (aW hj) hc)
def IV:AV->Bool
 |.dh _ _ _ _ _=>false
 |.bY _=>false
 |_=>true
theorem Nh.vr{w:World}{B:Nat}{X:Nat->Prop}{r:AV}{v:Value}(hn:IV r=true):Nh w B X r v↔VR w X K0 r v:=by
 cases r<;>first|rfl|(cases hn)
theorem Fn.gi{P:Program}{f:FuncId}{us:List AV}{r r':AV}{xs:List AV}(h:Fn P f us (.bY (r::xs)))(h1:IV r=true)(h2:IV r'=true)(hi:pK r r'):Fn P f us (.bY (r'::xs)):=by
 refine⟨h.1,λX w vs hw hl ha=>(h.2 X w vs hw hl ha).mono ?_⟩;rintro e w' ⟨v,rfl,⟨ws,rfl,k1,⟨c,k2,k3⟩,k4⟩,hb⟩;exact⟨_,rfl,⟨ws,rfl,k1,⟨c,k2,(Nh.vr h2).2 (hi _ _ _ _ ((Nh.vr h1).1 k3))⟩,k4⟩,hb⟩
end Go.an
