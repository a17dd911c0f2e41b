import Derived.Test.YtpfmbblnhjpclaaGreatDoorJ7
set_option linter.unusedVariables false
set_option linter.unusedSimpArgs false
namespace Go.an
open Go.RowKit
section
variable{P:Program} {T:dD} {E:Env} {K:KM} {c:aM} {a:Act} {w:World} {o:Oper} {r:iS} {val:Operand->AV} {X:Nat->Prop}
theorem Src.sub{X X':Nat->Prop}{sz m:Nat}{aa:List (List AV)}{kd:Kd}{v:Value}(h:Src w X K sz m aa kd v)(hX:∀g,g<w.heap.size->X' g->X g):Src w X' K sz m aa kd v:=by
 obtain⟨h1,h2,A,cp,cg,h3,h4,h5,h6,h7⟩:=h;exact⟨h1,h2,A,cp,cg,h3,h4,h5,h6,λj u x hu hx=>(h7 j u x hu hx).sub (nJ hX)⟩
theorem gu{s x:Operand}{t:TypeId}(ho:o.op=.call {callee:=.builtin .append,args:=#[s,x],argTypes:=#[t,t]}){v':Value}{w':World}
  (h:(Builtin.append_ #[t,t] o.type #[a.eval s,a.eval x]).run P w=.ok v' w'):(execOp a.eval o).run P w=.ok (.value v') w':=by
 simp only[execOp,ho,resolve,invoke,builtin,gS,cU,dO,Sem.run_bind,Sem.run_pure,Result.andThen_ok,h]
theorem kf(b:Nat):∀(O:List (Nat×ak))(s:Nat),aK (iC b O) s=if b=s then none else aK O s
 |[],s=>by simp[iC,aK]
 |(i,x)::r,s=>by
  unfold iC
  cases hb:Nat.beq i b with
  |true=>
   have:=beq_true hb;subst this;rw[kf i r s,aZ]
   by_cases e:i=s
   .rw[if_pos e,if_pos e]
   .rw[if_neg e,if_neg e,if_neg e]
  |false=>
   have:=beq_false hb;rw[aZ,aZ,kf b r s]
   by_cases e:i=s
   .subst e;rw[if_pos rfl,if_neg (λe=>this e.symm),if_pos rfl]
   .rw[if_neg e,if_neg e]
theorem bC.rename(h:bC E K c a w){b b':Nat}{ae:ak}(H0:Nat.ble (b' %16) 1=true)(hb:aK c.O b=some ae)(h1:aK c.O b'=none)(h2:∀t,(lk c.fr t).has b'=false)(h3:∀i x,aK c.O i=some x->x.kd=.any->cw b' x.aa=false):
  ∃K',(∀i,i≠b'->K' i=K i)/\K' b'=K b/\bC E K' ⟨c.fr,di b' ae (iC b c.O)⟩ a w:=by
 have dW:b≠b':=by rintro rfl;rw[hb]at h1;cases h1
 have tY:∀i,aK (di b' ae (iC b c.O)) i=if b'=i then some ae else if b=i then none else aK c.O i:=λi=>by rw[ba,kf]
 obtain⟨x,hx⟩:∃x,K b=some x:=by
  rcases h.own b ae hb with⟨k,_⟩|⟨g,k,_⟩
  .exact⟨_,k⟩
  .exact⟨_,k⟩
 have hK:∀i,i≠b'->pU K b' x i=K i:=λi hi=>eQ _ _ hi
 have iF:pU K b' x b'=K b:=by rw[dF,hx]
 have gx:∀i g,(aK (di b' ae (iC b c.O)) i).isSome=true->aG (pU K b' x) i=some g->∃i',(aK c.O i').isSome=true/\aG K i'=some g/\((i=b'/\i'=b)∨(i≠b'/\i≠b/\i'=i)):=by
  intro i g hi hg;rw[tY]at hi
  by_cases e:b'=i
  .subst e
   refine⟨b,by rw[hb];rfl,?_,.inl ⟨rfl,rfl⟩⟩;have:aG (pU K b' x) b'=aG K b:=by unfold aG;rw[iF]
   rw[<-this];exact hg
  .rw[if_neg e]at hi
   by_cases e2:b=i
   .rw[if_pos e2]at hi;cases hi
   .rw[if_neg e2]at hi
    exact⟨i,hi,by rw[<-bU K x (λe'=>e e'.symm)];exact hg,.inr ⟨λe'=>e e'.symm,λe'=>e2 e'.symm,rfl⟩⟩
 have hX:∀g,g<w.heap.size->XX E (pU K b' x) (di b' ae (iC b c.O)) g->XX E K c.O g:=by
  rintro g hg (⟨i,hi,hk⟩|hX)
  .obtain⟨i',k1,k2,_⟩:=gx i g hi hk
   exact .inl ⟨i',k1,k2⟩
  .exact .inr hX
 refine⟨pU K b' x,hK,iF,h.size,h.defers,h.ext,λt=>(h.fr t).ad (dv.refl _ _) hX λi hi=>hK i (by rintro rfl;rw[h2 t]at hi;cases hi),λi y hi=>?_,λi y hi=>?_,λi i' g k1 k2 l1 l2=>?_,λi g k1 l1=>?_,D7 h.gK H0⟩
 .simp only[tY]at hi
  by_cases e:b'=i
  .rw[if_pos e]at hi;injection hi with hi;subst hi;exact h.aa b ae hb
  .rw[if_neg e]at hi
   by_cases e2:b=i
   .rw[if_pos e2]at hi;cases hi
   .rw[if_neg e2]at hi;exact h.aa i y hi
 .simp only[tY]at hi
  have Vb:∀{i y g},aK c.O i=some y->l8 w (XX E K c.O) K g y->l8 w (XX E (pU K b' x) (di b' ae (iC b c.O))) (pU K b' x) g y:=by
   intro i y g hy hB;refine hB.ad rfl (dv.refl _ _) hX λhk j u i' hj hu=>hK i' ?_
   rintro rfl;rw[iM (h3 i y hy hk) hj]at hu;cases hu
  by_cases e:b'=i
  .rw[if_pos e]at hi;injection hi with hi;subst hi;subst e
   rcases h.own b ae hb with⟨k1,k2⟩|⟨g,k1,k2⟩
   .exact .inl ⟨iF.trans k1,k2⟩
   .exact .inr ⟨g,iF.trans k1,Vb hb k2⟩
  .rw[if_neg e]at hi
   by_cases e2:b=i
   .rw[if_pos e2]at hi;cases hi
   .rw[if_neg e2]at hi
    rcases h.own i y hi with⟨k1,k2⟩|⟨g,k1,k2⟩
    .exact .inl ⟨(hK i λe'=>e e'.symm).trans k1,k2⟩
    .exact .inr ⟨g,(hK i λe'=>e e'.symm).trans k1,Vb hi k2⟩
 .obtain⟨j,m1,m2,m3⟩:=gx i g k1 l1
  obtain⟨j',n1,n2,n3⟩:=gx i' g k2 l2;have:=h.inj j j' g m1 n1 m2 n2
  rcases m3 with⟨rfl,rfl⟩|⟨m4,m5,rfl⟩<;>rcases n3 with⟨rfl,rfl⟩|⟨n4,n5,rfl⟩
  .rfl
  .exact absurd this.symm n5
  .exact absurd this m5
  .exact this
 .obtain⟨j,m1,m2,_⟩:=gx i g k1 l1
  exact h.fI j g m1 m2
theorem Src.other{K':KM}{sz m:Nat}{aa:List (List AV)}{kd:Kd}{v:Value}(h:Src w X K sz m aa kd v)(hk:kd=.any->∀(j:Nat) u i,aa.flatten[j]?=some u->u.has i=true->K' i=K i):Src w X K' sz m aa kd v:=by
 obtain⟨h1,h2,A,cp,cg,h3,h4,h5,h6,h7⟩:=h;refine⟨h1,h2,A,cp,cg,h3,h4,h5,h6,λj u x hu hx=>?_⟩;have:=h7 j u x hu hx
 cases kd
 .exact this
 .exact this
 .exact VR.ad this (dv.refl _ _) (λ_ _ h=>h) λi hi=>hk rfl j u i hu hi
 .exact this
theorem NY{dr:Bool}(hT:br P T)(dC:∀t i,T.get t=some i->fH i.zero=true/\i.zero.cells.size=i.size)(hs:bC E K c a w)(az:ey E K c a w val)
  {t:TypeId}{s x:Operand}(ho:o.op=.call {callee:=.builtin .append,args:=#[s,x],argTypes:=#[t,t]})(hf:fq c r.nw r.D=true)
  (h:(rZ dr T (aK c.O) o.dst t (val s) (val x)).holds P (· =r)):o.wp P a w (bA E c r a o.dst) kK:=by
 unfold rZ at h
 split at h
 .rename_i ti nY
  split at h
  .rename_i e hk
   obtain⟨⟨d,hd,eM⟩,_⟩:=hT.get nY;rw[hk]at eM;have:=of_slice eM;subst this
   split at h
   .rename_i ei lg
    obtain⟨_,⟨je,kb,BK,mi,Rx⟩,_⟩:=hT.get lg;obtain⟨ho1,Cv⟩:=dC e ei lg
    split at h
    .rename_i m aa Sl iZ gW
     have gW:=dn gW;have Gb:VR w (XX E K c.O) K (val x) (a.eval x):=(az x).vr (by rintro d bf u e';rw[e']at iZ;cases iZ);have src:=ig hs iZ Gb
     split at h
     .rename_i Ry
      have esv:=VR.fC (az.at Ry);obtain⟨⟨hby,Ip⟩,p,h⟩:=h;have fin:∀kd:Kd,kd≠.any->(nG kd Sl aa (.ret {v:=.bn (cI o.dst 0) ei.size m,D:=[(cI o.dst 0,{e:=e,sz:=ei.size,kd:=kd,aa:=aa})],nw:=true})).holds P (· =r)->o.wp P a w (bA E c r a o.dst) kK:=by
       intro kd fZ h;obtain⟨hr,_,LG⟩:=wK h;have hr:_=r:=hr;have tT:=hf;rw[<-hr]at tT;have jF:=gr tT;obtain⟨f1,f2,f3⟩:=jq jF;obtain⟨v',w',K',Ck,eh,nv⟩:=qS (P:=P) (ti:=je) (ty:=o.type) (H0:=fD jF) (sY:=zV h) hs hd kb BK mi Cv gW (ow:=[]) (n:=0) (λe=>absurd e fZ) f2 (λi x hi _ hk=>f3 i x hi hk) (.inl ⟨rfl,rfl,esv⟩) rfl (by simp) src LG (by unfold maxLen;omega) (by rw[Rx];simpa using hby);simp only[bk,dp]at eh nv;exact nZ (gu ho Ck) hr eh nv
      cases p
      .exact fin _ (by simp) h
      .exact fin _ (by simp) h
     .rename_i b sz n Ry
      split at h
      .rename_i ae hb
       split at h
       .rename_i bJ qk qv
        rw[aA,aA]at bJ;have hbp:=bJ.1.2;have hao:=bJ.2
        replace bJ:=beq_true bJ.1.1
        have qk:=beq_true qk;have qv:=beq_true qv;obtain⟨⟨hby,Ip⟩,h⟩:=h;obtain⟨hr,fZ,LG⟩:=wK h;have hr:_=r:=hr
        cases dr with
        |true=>
        simp only at hr;have tT:=hf;rw[<-hr]at tT;have jF:=gr tT;obtain⟨f1,f2,f3⟩:=jq jF;obtain⟨K1,LH,iF,lS⟩:=hs.rename (fD jF) hb f1 f2 f3;have JZ:ae.kd=.any->cw (cI o.dst 0) aa=false:=by
         intro nI;obtain⟨b',ahz,n',q1,q2,q3⟩:=Ga iZ (fZ.1 nI);rw[q3];exact xF (f3 b' ahz q1 q2) n'
        have hX1:∀g,g<w.heap.size->XX E K1 (di (cI o.dst 0) ae (iC b c.O)) g->XX E K c.O g:=by
         rintro g hg (⟨i,hi,hk⟩|hX)
         .rw[ba,kf]at hi
          by_cases e:cI o.dst 0=i
          .subst e
           exact .inl ⟨b,by rw[hb];rfl,by rw[<-hk];unfold aG;rw[iF]⟩
          .rw[if_neg e]at hi
           by_cases e2:b=i
           .rw[if_pos e2]at hi;cases hi
           .rw[if_neg e2]at hi
            exact .inl ⟨i,hi,by rw[<-hk];exact(uK (LH i λe'=>e e'.symm)).symm⟩
         .exact .inr hX
        have lp:=hs.aa b ae hb;have Xx:n<=ae.aa.length/\((ae.aa.take n=[] /\n=0/\a.eval s=.slice none 0 0)∨∃(g cap:Nat)(aJ:Array Value),(aK (di (cI o.dst 0) ae (iC b c.O)) (cI o.dst 0)).isSome=true/\aG K1 (cI o.dst 0)=some g/\a.eval s=.slice (some ⟨g,0,none⟩) n cap/\n<=cap/\cap<=maxLen/\cap*ei.size=aJ.size/\w.heap[g]?=some (.cells aJ e (0,0))/\
          ∀(j:Nat) u,(ae.aa.take n).flatten[j]?=some u->∃y,aJ[j]?=some y/\y.oneCell'=true/\VR w (uN ae.kd (XX E K1 (di (cI o.dst 0) ae (iC b c.O)))) (zD ae.kd K1) u y):=by
         rcases VR.c9 (az.at Ry)with⟨hK,hz,e1⟩|⟨g,cap,aJ,e',mm,hK,nu,e1,hc,l4,hm,dL⟩
         .subst hz;exact⟨cF _,.inl ⟨by simp,rfl,e1⟩⟩
         .rcases hs.own b ae hb with⟨k1,_⟩|⟨g',k1,dw,fw,hu⟩
          .rw[hK]at k1;cases k1
          .rw[hK]at k1;injection k1 with k1;injection k1 with k1 k2;injection k1 with k1;subst k1 k2
           replace fw:=fw.nX hc;rw[hc]at fw;injection fw with fw;injection fw with h1 h2;subst h1
           refine⟨nu,.inr ⟨g,cap,aJ,by rw[ba,if_pos rfl];rfl,by rw[<-aU hK];unfold aG;rw[iF],e1,l4,hm,by rw[<-bJ];exact dL,by rw[<-qv,<-h2];exact hc,λj u hj=>?_⟩⟩;have tU:ae.aa.flatten[j]?=some u:=by
            have:ae.aa=ae.aa.take n++ae.aa.drop n:=(rR _ _).symm;rw[this,lA,bM (aE.1 hj).1];exact hj
           obtain⟨y,hy,wJ,pV⟩:=hu j u tU;refine⟨y,hy,wJ,?_⟩;have pV:=VR.sub pV (nJ hX1);revert pV
           cases Gc:ae.kd with
           |pure=>exactλh=>h
           |flat=>exactλh=>h
           |map ag st=>exactλh=>h
           |any=>
            intro h;refine VR.ad h (dv.refl _ _) (λ_ _ h=>h) λi hi=>LH i λe=>?_
            rw[e,iM (f3 b ae hb Gc) tU]at hi
            cases hi
        obtain⟨v',w',K',Ck,eh,nv⟩:=qS (P:=P) (c:=⟨c.fr,di (cI o.dst 0) ae (iC b c.O)⟩) (ti:=je) (ty:=o.type) (b:=cI o.dst 0) (H0:=fD jF) (sY:=zV h) lS hd kb BK mi Cv gW (ow:=ae.aa.take n) (n:=n) (λnI=>by rw[tW,xF (f3 b ae hb nI) n,JZ nI];rfl) f2
         (λi y hi ou hk=>by
          rw[ba,kf,if_neg (λe=>ou e.symm)]at hi
          by_cases e2:b=i
          .rw[if_pos e2]at hi;cases hi
          .rw[if_neg e2]at hi;exact f3 i y hi hk) Xx.2
         (by rw[aO];omega) (λrow jV=>by rw[<-qk];exact lp row (my jV)) ((src.sub hX1).other λnI j u i hj hi=>LH i λe=>(by
          rw[e,iM (JZ (fZ.2 nI)) hj]at hi;cases hi)) LG (by unfold maxLen;omega) (by rw[Rx];exact hby)
        subst hr;unfold Oper.wp;rw[gu ho Ck];have gx:({e:=e,sz:=ei.size,kd:=ae.kd,aa:=ae.aa.take n++aa}:ak)={ae with aa:=ae.aa.take n++aa,fF:=[]}:=by rw[<-qv,<-qk]
        rw[gx]at eh nv;rw[<-bJ]at nv;have tY:∀(y:ak) i x,aK (di (cI o.dst 0) y (iC b c.O)) i=some x->aK (di (cI o.dst 0) y (di (cI o.dst 0) ae (iC b c.O))) i=some x:=by
         intro y i x hi;rw[ba]at hi⊢
         by_cases e:cI o.dst 0=i
         .rw[if_pos e]at hi⊢;exact hi
         .rw[if_neg e]at hi⊢;rw[ba,if_neg e];exact hi
        exact⟨K',v',rfl,eh.uS (λt=>.inl rfl) (tY _),VR.sub nv λg _ hg=>XX.sub (λi x hi=>⟨x,tY _ i x hi⟩) g hg⟩
        |false=>
        have hX:∀g,g<w.heap.size->XX E K (eS b c.O) g->XX E K c.O g:=λg _ hg=>XX.sub (λi x hi=>by
         rw[jL]at hi
         cases hy:aK c.O i with
         |none=>rw[hy]at hi;cases hi
         |some y=>exact⟨y,rfl⟩) g hg
        have Rz:(aK (eS b c.O) b).isSome=true:=by rw[jL,hb];rfl
        have jF:∀t,(lk (iq b c.fr) t).has b=false:=by
         intro t;rw[uR]
         split
         .rfl
         .rename_i h';simpa using h'
        have hO:∀i x,aK (eS b c.O) i=some x->i≠b->x.kd=.any->cw b x.aa=false:=by
         intro i x hi _ hk;rw[jL]at hi
         cases hy:aK c.O i with
         |none=>rw[hy]at hi;cases hi
         |some y=>
          rw[hy]at hi;injection hi with hi
          cases Sn:y.kd<;>simp only[Sn]at hi
          .rw[<-hi,Sn]at hk;cases hk
          .rw[<-hi,Sn]at hk;cases hk
          .rw[<-hi];exact pA b y.aa
          .rw[<-hi,Sn]at hk;cases hk
        have lp:=hs.aa b ae hb;have Xx:n<=ae.aa.length/\((ae.aa.take n=[] /\n=0/\a.eval s=.slice none 0 0)∨∃(g cap:Nat)(aJ:Array Value),(aK (eS b c.O) b).isSome=true/\aG K b=some g/\a.eval s=.slice (some ⟨g,0,none⟩) n cap/\n<=cap/\cap<=maxLen/\cap*ei.size=aJ.size/\w.heap[g]?=some (.cells aJ e (0,0))/\
          ∀(j:Nat) u,(ae.aa.take n).flatten[j]?=some u->∃y,aJ[j]?=some y/\y.oneCell'=true/\VR w (uN ae.kd (XX E K (eS b c.O))) (zD ae.kd K) u y):=by
         rcases VR.c9 (az.at Ry)with⟨hK,hz,e1⟩|⟨g,cap,aJ,e',mm,hK,nu,e1,hc,l4,hm,dL⟩
         .subst hz;exact⟨cF _,.inl ⟨by simp,rfl,e1⟩⟩
         .rcases hs.own b ae hb with⟨k1,_⟩|⟨g',k1,dw,fw,hu⟩
          .rw[hK]at k1;cases k1
          .rw[hK]at k1;injection k1 with k1;injection k1 with k1 k2;injection k1 with k1;subst k1 k2
           replace fw:=fw.nX hc;rw[hc]at fw;injection fw with fw;injection fw with h1 h2;subst h1
           refine⟨nu,.inr ⟨g,cap,aJ,Rz,aU hK,e1,l4,hm,by rw[<-bJ];exact dL,by rw[<-qv,<-h2];exact hc,λj u hj=>?_⟩⟩;have tU:ae.aa.flatten[j]?=some u:=by
            have:ae.aa=ae.aa.take n++ae.aa.drop n:=(rR _ _).symm;rw[this,lA,bM (aE.1 hj).1];exact hj
           obtain⟨y,hy,wJ,pV⟩:=hu j u tU;exact⟨y,hy,wJ,pV.sub (nJ hX)⟩
        obtain⟨v',w',K',Ck,eh,nv⟩:=qS (P:=P) (c:=⟨iq b c.fr,eS b c.O⟩) (ti:=je) (ty:=o.type) (b:=b) (H0:=hbp) (sY:=zV h) (hs.U1 b) hd kb BK mi Cv gW (ow:=ae.aa.take n) (n:=n) (λe=>by rw[e]at hao;cases hao) jF hO Xx.2
         (by rw[aO];omega) (λrow jV=>by rw[<-qk];exact lp row (my jV)) (src.sub hX) LG (by unfold maxLen;omega) (by rw[Rx];exact hby)
        subst hr;unfold Oper.wp;rw[gu ho Ck];have gx:({e:=e,sz:=ei.size,kd:=ae.kd,aa:=ae.aa.take n++aa}:ak)={ae with aa:=ae.aa.take n++aa,fF:=[]}:=by rw[<-qv,<-qk]
        rw[gx]at eh nv;rw[<-bJ]at nv;exact⟨K',v',rfl,eh,nv⟩
       .exact h.elim
      .exact h.elim
     .exact h.elim
    .exact h.elim
   .exact h.elim
  .exact h.elim
 .exact h.elim
theorem zY:∀{xs:List AV}{j:Nat}{u:AV},AV.tH xs=true->xs[j]?=some u->u=.top∨u.fp=true
 |[],_,_,_,hj=>by simp at hj
 |x::xs,0,u,h,hj=>by
  simp at hj;subst hj
  cases x<;>first|exact .inl rfl|(right;simp only[AV.tH,aA]at h;exact h.1)
 |x::xs,j+1,u,h,hj=>by
  simp at hj;have:AV.tH xs=true:=by
   cases x<;>first|exact h|(simp only[AV.tH,aA]at h;exact h.2)
  exact zY this hj
theorem pB:∀{xs:List AV}{j:Nat}{u:AV},AV.kW xs=true->xs[j]?=some u->u.fp=true
 |[],_,_,_,h=>by simp at h
 |x::xs,0,u,h,hj=>by simp at hj;subst hj;simp[AV.kW]at h;exact h.1
 |x::xs,j+1,u,h,hj=>by simp at hj;simp[AV.kW]at h;exact pB h.2 hj
theorem bC.OF{Y:Nat->Prop}(hY:∀g,Y g->E.XF g/\g<E.w0.heap.size)(hs:bC E K c a w){b g:Nat}(hb:(aK c.O b).isSome=true)(hK:aG K b=some g):¬Y g:=by
 intro h;obtain⟨h1,h2⟩:=hY g h
 rcases hs.fI b g hb hK with h3|h3
 .exact E.Fw g h1 h3
 .omega
theorem SY{Y:Nat->Prop}(hY:∀g,Y g->E.XF g/\g<E.w0.heap.size){kd:Kd}(fZ:kd≠.any){u:AV}{v:Value}(h:VR w (uN kd (XX E K c.O)) (zD kd K) u v):VR w Y K0 u v:=by
 cases kd
 .exact VR.sub h λ_ _ _=>trivial
 .exact VR.sub h λg _ h=>.inr (hY g h)
 .exact absurd rfl fZ
 .exact VR.sub h λg _ h=>.inr (hY g h)
theorem ia{Y:Nat->Prop}(hY:∀g,Y g->E.XF g/\g<E.w0.heap.size)(hs:bC E K c a w){u u':AV}{v:Value}(h:dQ (aK c.O) u=some u')(hv:VR w (XX E K c.O) K u v):VR w Y K0 u' v:=by
 have idl:∀{u},VR w (XX E K c.O) K u v->u.bq=true->VR w Y K0 u v:=λhv hi=>(eE hv hi K0).sub λg _ h=>.inr (hY g h)
 unfold dQ at h
 split at h
 .rename_i b sz n
  split at h
  .rename_i ae hb
   have fin:Nat.beq sz ae.sz=true->ae.kd≠.any->VR w Y K0 (.aL sz n (ae.aa.take n)) v:=by
    intro bJ fZ;have bJ:=beq_true bJ;have lp:=hs.aa b ae hb;have iZ:dA (aK c.O) sz (.bn b sz n)=some (n,ae.aa.take n,ae.kd):=by
     simp only[dA,hb];rw[show Nat.beq sz sz=true from dz sz,show Nat.beq ae.sz sz=true from by rw[<-bJ];exact dz sz]
    obtain⟨hl,hu,A,cp,cg,e0,ny,cH,dC,CG⟩:=ig hs iZ hv;have dM:cg.length=(ae.aa.take n).flatten.length:=by rw[ny,bD hu,<-hl]
    rcases VR.c9 hv with⟨hK,hz,e1⟩|⟨g,cap,aJ,e',mm,hK,nu,e1,hc,l4,hm,dL⟩
    .subst hz e1
     exact .aL (cs:=[]) (by simp) (by simp) (bG _) (λ_=>rfl) (by simp) (by simp) (by simp) (by simp)
    .rw[e1]at e0
     injection e0 with e2 e3 e4
     subst e1;refine .aL hl hu l4 (λh=>by cases h) dM dC (λdW=>?_) (λj u x hu hx=>SY hY fZ (CG j u x hu hx));have gW:0<n:=by
      rcases mq n with h|h
      .subst h;simp at dW
      .exact h
     obtain⟨g',o',e5,fw⟩:=cH gW;rw[<-e2]at e5;injection e5 with e5;injection e5 with e5 e6;subst e5 e6
     exact⟨g,0,rfl,(bd.1 hc).1,hs.OF hY (by simp[hb]) (aU hK),fw⟩
   split at h
   .rename_i h1 h2;injection h with h;subst h;exact fin h1 (by rw[h2];simp)
   .rename_i h1 h2;injection h with h;subst h;exact fin h1 (by rw[h2];simp)
   .cases h
  .cases h
 .rename_i b
  split at h
  .rename_i ae hb
   split at h
   .rename_i ag st fZ
    injection h with h;subst h
    obtain⟨g,hK,rfl⟩:=VR.oJ hv
    rcases hs.own b ae hb with⟨k1,_⟩|⟨g',k1,aJ,hc,hu⟩
    .rw[show aG K b=none from by simp[aG,k1]]at hK;cases hK
    .rw[aU k1]at hK;injection hK with hK;subst hK
     have aC:=hc.lt;unfold aV at hc;rw[fZ]at hc;obtain⟨_,_,es,hm⟩:=hc;obtain⟨cs,q1,q2,q3,q4,q5⟩:=hm.back;refine .iB q1 aC (hs.OF hY (by simp[hb]) (aU k1)) q2 q3 q4 λj u x hj hx=>?_
     obtain⟨y,hy,_,pV⟩:=q5 j u hj;rw[hx]at hy;injection hy with hy;subst hy
     exact VR.sub pV λg _ h=>.inr (hY g h)
   .cases h
  .cases h
 .cases h
 .cases h
 .cases h
 .cases h
 .split at h
  .rename_i hi;injection h with h;subst h;exact idl hv hi
  .cases h
theorem lu{Y:Nat->Prop}(hY:∀g,Y g->E.XF g/\g<E.w0.heap.size)(hs:bC E K c a w):∀{us dj:List AV}{f:Nat->Option Value},cT (aK c.O) us=some dj->dj.length=us.length/\∀(j:Nat) u' v,dj[j]?=some u'->(∀u,us[j]?=some u->VR w (XX E K c.O) K u v)->VR w Y K0 u' v
 |[],dj,f,h=>by simp[cT]at h;subst h;simp
 |x::xs,dj,f,h=>by
  simp only[cT]at h
  split at h
  .rename_i y ys hy mD
   injection h with h
   subst h;obtain⟨h1,h2⟩:=lu hY hs (f:=f) mD;refine⟨by simp[h1],λj u' v hj hv=>?_⟩
   cases j with
   |zero=>simp at hj;subst hj;exact ia hY hs hy (hv x (by simp))
   |succ j=>simp at hj;exact h2 j u' v hj (λu hu=>hv u (by simpa using hu))
  .cases h
theorem pC{own:Nat->Option ak}:∀{us dj:List (List AV)},iJ own us=some dj->dj.length=us.length/\∀(j:Nat) r',dj[j]?=some r'->∃r,us[j]?=some r/\cT own r=some r'
 |[],dj,h=>by simp[iJ]at h;subst h;simp
 |x::xs,dj,h=>by
  simp only[iJ]at h
  split at h
  .rename_i y ys hy mD
   injection h with h
   subst h;obtain⟨h1,h2⟩:=pC mD;refine⟨by simp[h1],λj r' hj=>?_⟩
   cases j with
   |zero=>simp at hj;subst hj;exact⟨x,by simp,hy⟩
   |succ j=>simp at hj;obtain⟨r,h3,h4⟩:=h2 j r' hj;exact⟨r,by simpa using h3,h4⟩
  .cases h
theorem lD{own:Nat->Option ak}:∀{us dj:List AV},cT own us=some dj->dj.length=us.length/\∀(j:Nat) u',dj[j]?=some u'->∃u,us[j]?=some u/\dQ own u=some u'
 |[],dj,h=>by simp[cT]at h;subst h;simp
 |x::xs,dj,h=>by
  simp only[cT]at h
  split at h
  .rename_i y ys hy mD
   injection h with h
   subst h;obtain⟨h1,h2⟩:=lD mD;refine⟨by simp[h1],λj r' hj=>?_⟩
   cases j with
   |zero=>simp at hj;subst hj;exact⟨x,by simp,hy⟩
   |succ j=>simp at hj;obtain⟨r,h3,h4⟩:=h2 j r' hj;exact⟨r,by simpa using h3,h4⟩
  .cases h
theorem oc{own:Nat->Option ak}:∀{us dj:List (List AV)},iJ own us=some dj->dj.flatten.length=us.flatten.length/\∀(j:Nat) u',dj.flatten[j]?=some u'->∃u,us.flatten[j]?=some u/\dQ own u=some u'
 |[],dj,h=>by simp[iJ]at h;subst h;simp
 |x::xs,dj,h=>by
  simp only[iJ]at h
  split at h
  .rename_i y ys hy mD
   injection h with h
   subst h;obtain⟨h1,h2⟩:=oc mD;obtain⟨c1,c2⟩:=lD hy;refine⟨by simp[h1,c1],λj u' hj=>?_⟩;rw[iH]at hj⊢
   by_cases aC:j<y.length
   .rw[bM aC]at hj
    obtain⟨u,h3,h4⟩:=c2 j u' hj;exact⟨u,by rw[bM (by rw[<-c1];exact aC)];exact h3,h4⟩
   .rw[cm (by omega)]at hj
    obtain⟨u,h3,h4⟩:=h2 _ u' hj;exact⟨u,by rw[cm (by omega),<-c1];exact h3,h4⟩
  .cases h
theorem ja{Y:Nat->Prop}(hY:∀g,Y g->E.XF g/\g<E.w0.heap.size)(hs:bC E K c a w){u u':AV}{v:Value}(h:gM (aK c.O) u=some u')(hv:VR w (XX E K c.O) K u v):VR w Y K0 u' v:=by
 unfold gM at h
 split at h
 .rename_i b sz n
  split at h
  .rename_i ae hb
   split at h
   .rename_i fZ
    split at h
    .rename_i rs bJ H4
     injection h with h
     subst h;have bJ:=beq_true bJ;have lp:=hs.aa b ae hb;have iZ:dA (aK c.O) sz (.bn b sz n)=some (n,ae.aa.take n,ae.kd):=by
      simp only[dA,hb];rw[show Nat.beq sz sz=true from dz sz,show Nat.beq ae.sz sz=true from by rw[<-bJ];exact dz sz]
     obtain⟨hl,hu,A,cp,cg,e0,ny,cH,dC,CG⟩:=ig hs iZ hv;obtain⟨f1,f2⟩:=oc H4;obtain⟨g1,g2⟩:=pC H4;have dM:cg.length=rs.flatten.length:=by rw[f1,ny,bD hu,<-hl]
     have iG:∀r∈rs,r.length=sz:=by
      intro r hr;obtain⟨j,hj,kb⟩:=List.getElem_of_mem hr;obtain⟨r0,h5,h6⟩:=g2 j r (by rw[aW hj,kb]);rw[(lD h6).1];exact hu r0 (ay h5)
     rcases VR.c9 hv with⟨hK,hz,e1⟩|⟨g,cap,aJ,e',mm,hK,nu,e1,hc,l4,hm,dL⟩
     .subst hz e1
      have Ir:rs=[]:=by simpa using g1
      subst Ir;exact .aL (cs:=[]) (by simp) (by simp) (bG _) (λ_=>rfl) (by simp) (by simp) (by simp) (by simp)
     .rw[e1]at e0
      injection e0 with e2 e3 e4
      subst e1;refine .aL (by rw[g1];exact hl) iG l4 (λh=>by cases h) dM dC (λdW=>?_) (λj u x sq hx=>?_)
      .have gW:0<n:=by
        rcases mq n with h|h
        .have Ir:rs=[]:=by subst h;simpa using g1
         rw[Ir]at dW;simp at dW
        .exact h
       obtain⟨g',o',e5,fw⟩:=cH gW;rw[<-e2]at e5;injection e5 with e5;injection e5 with e5 e6;subst e5 e6
       exact⟨g,0,rfl,(bd.1 hc).1,hs.OF hY (by simp[hb]) (aU hK),fw⟩
      .obtain⟨u0,h7,h8⟩:=f2 j u sq
       refine ia hY hs h8 ?_;have:=CG j u0 x h7 hx;rw[fZ]at this;exact this
    .cases h
   .exact ia hY hs h hv
  .cases h
 .rename_i b off
  split at h
  .rename_i ae hb
   split at h
   .rename_i row fZ aD
    split at h
    .rename_i r' jV
     injection h with h
     subst h;obtain⟨g,hK,rfl⟩:=VR.jo hv
     rcases hs.own b ae hb with⟨k1,k2⟩|⟨g',k1,gx⟩
     .rw[show aG K b=none from by simp[aG,k1]]at hK;cases hK
     .have aC:=hs.fu (by simp[hb]) hK
      rw[aU k1]at hK;injection hK with hK;subst hK
      have ox:=gx.row (by rw[fZ];simp) (hs.aa b ae hb) (i:=0) (row:=row) (by rw[aD];rfl);simp only[ly]at ox;obtain⟨cs,c1,c2,c3,c4⟩:=ox.list;obtain⟨v1,v2⟩:=lu hY hs (f:=λ_=>none) jV;have:=VR.aw (w:=w) (X:=Y) (K:=K0) (xs:=r') (off:=off) (g:=g') (o:=0) (cs:=cs) (by rw[c1,v1]) c3 aC (hs.OF hY (by simp[hb]) (aU k1)) c2
       (λj u x hu hx=>v2 j u x hu λu0 sq=>c4 j u0 x sq hx)
      simpa using this
    .cases h
   .cases h
  .cases h
 .rename_i xs
  split at h
  .rename_i ys mD
   injection h with h
   subst h;obtain⟨vs,rfl,l1,h1,v1⟩:=VR.mC hv;obtain⟨w1,w2⟩:=lu hY hs (f:=λ_=>none) mD;exact .agg (by rw[w1,l1]) h1 λj u x hu hx=>w2 j u x hu λu0 sq=>v1 j u0 x sq hx
  .cases h
 .exact ia hY hs h hv
theorem xG(hs:bC E K c a w){u u':AV}{v:Value}(h:gM (aK c.O) u=some u')(hv:VR w (XX E K c.O) K u v):VR w (λ_=>False) K0 u' v:=ja (λ_ h=>h.elim) hs h hv
theorem vf(hs:bC E K c a w):∀{us dj:List AV},j7 (aK c.O) us=some dj->dj.length=us.length/\∀(j:Nat) u' v,dj[j]?=some u'->(∀u,us[j]?=some u->VR w (XX E K c.O) K u v)->VR w (λ_=>False) K0 u' v
 |[],dj,h=>by simp[j7]at h;subst h;simp
 |x::xs,dj,h=>by
  simp only[j7]at h
  split at h
  .rename_i y ys hy mD
   injection h with h
   subst h;obtain⟨h1,h2⟩:=vf hs mD;refine⟨by simp[h1],λj u' v hj hv=>?_⟩
   cases j with
   |zero=>simp at hj;subst hj;exact xG hs hy (hv x (by simp))
   |succ j=>simp at hj;exact h2 j u' v hj (λu hu=>hv u (by simpa using hu))
  .cases h
theorem zZ(hs:bC E K c a w){u u':AV}{v:Value}(h:view (aK c.O) u=some u')(hv:VR w (XX E K c.O) K u v):VR w (λ_=>False) K0 u' v:=by
 unfold view at h
 split at h
 .split at h
  .rename_i cs dM
   injection h with h
   subst h;obtain⟨vs,rfl,l1,v1⟩:=VR.fJ hv;obtain⟨w1,w2⟩:=vf hs dM;exact .func (by rw[w1,l1]) λj u x hu hx=>w2 j u x hu λu0 sq=>v1 j u0 x sq hx
  .cases h
 .exact xG hs h hv
theorem xH(hs:bC E K c a w):∀{us dj:List AV},nF (aK c.O) us=some dj->dj.length=us.length/\∀(j:Nat) u' v,dj[j]?=some u'->(∀u,us[j]?=some u->VR w (XX E K c.O) K u v)->VR w (λ_=>False) K0 u' v
 |[],dj,h=>by simp[nF]at h;subst h;simp
 |x::xs,dj,h=>by
  simp only[nF]at h
  split at h
  .rename_i y ys hy mD
   injection h with h
   subst h;obtain⟨h1,h2⟩:=xH hs mD;refine⟨by simp[h1],λj u' v hj hv=>?_⟩
   cases j with
   |zero=>simp at hj;subst hj;exact zZ hs hy (hv x (by simp))
   |succ j=>simp at hj;exact h2 j u' v hj (λu hu=>hv u (by simpa using hu))
  .cases h
theorem pX{own:Nat->Option ak}{u u':AV}(h:dQ own u=some u')(hi:u.bq=true):u'=u:=by
 unfold dQ at h
 split at h
 .simp[AV.bq]at hi
 .simp[AV.bq]at hi
 .cases h
 .cases h
 .cases h
 .cases h
 .rw[hi]at h;injection h with h;exact h.symm
theorem oP{own:Nat->Option ak}:∀{us dj:List AV},cT own us=some dj->AV.cW us=true->dj=us
 |[],dj,h,_=>by simp[cT]at h;exact h
 |x::xs,dj,h,hi=>by
  simp only[cT]at h;simp only[AV.cW,aA]at hi
  split at h
  .rename_i y ys hy mD
   injection h with h
   subst h;rw[pX hy hi.1,oP mD hi.2]
  .cases h
theorem vg{own:Nat->Option ak}{u u':AV}(h:gM own u=some u')(hi:u.bq=true):u'=u:=by
 unfold gM at h
 split at h
 .simp[AV.bq]at hi
 .simp[AV.bq]at hi
 .split at h
  .rename_i ys mD
   injection h with h
   subst h;rw[oP mD (by simpa[AV.bq]using hi)]
  .cases h
 .exact pX h hi
theorem tc{own:Nat->Option ak}:∀{us dj:List AV},j7 own us=some dj->AV.cW us=true->dj=us
 |[],dj,h,_=>by simp[j7]at h;exact h
 |x::xs,dj,h,hi=>by
  simp only[j7]at h;simp only[AV.cW,aA]at hi
  split at h
  .rename_i y ys hy mD
   injection h with h
   subst h;rw[vg hy hi.1,tc mD hi.2]
  .cases h
theorem xI{own:Nat->Option ak}{u u':AV}(h:view own u=some u')(hi:u.bq=true):u'=u:=by
 unfold view at h
 split at h
 .split at h
  .rename_i cs dM
   injection h with h
   subst h;rw[tc dM (by simpa[AV.bq]using hi)]
  .cases h
 .exact vg h hi
theorem vh{own:Nat->Option ak}:∀{us dj:List AV},nF own us=some dj->AV.cW us=true->dj=us
 |[],dj,h,_=>by simp[nF]at h;exact h
 |x::xs,dj,h,hi=>by
  simp only[nF]at h;simp only[AV.cW,aA]at hi
  split at h
  .rename_i y ys hy mD
   injection h with h
   subst h;rw[xI hy hi.1,vh mD hi.2]
  .cases h
end
end Go.an
