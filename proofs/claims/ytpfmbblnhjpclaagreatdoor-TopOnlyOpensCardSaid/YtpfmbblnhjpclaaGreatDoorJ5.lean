import Derived.Test.YtpfmbblnhjpclaaGreatDoorJ4
set_option linter.unusedVariables false
set_option linter.unusedSimpArgs false
namespace Go.an
open Go.RowKit
section
variable{P:Program} {T:dD} {E:Env} {K:KM} {c:aM} {a:Act} {w:World} {o:Oper} {r:iS} {val:Operand->AV} {X:Nat->Prop}
theorem da{u:AV}{v:Value}(hu:u.fp=true)(h:VR w X K u v):∀X' K',VR w X' K' u v:=by
 intro X' K'
 cases u<;>simp[AV.fp]at hu
 .rw[VR.jn h];exact .bool
 .rw[VR.jA h];exact .int
 .rw[VR.gD h];exact .str
 .rw[VR.fC h];exact .ai
 .cases h;exact .fc
theorem eK:∀{xs:List AV}{j:Nat}{u:AV},AV.cW xs=true->xs[j]?=some u->u.bq=true
 |[],_,_,_,h=>by simp at h
 |x::xs,0,u,h,hj=>by simp at hj;subst hj;simp[AV.cW]at h;exact h.1
 |x::xs,j+1,u,h,hj=>by simp at hj;simp[AV.cW]at h;exact eK h.2 hj
theorem eE{u:AV}{v:Value}(h:VR w X K u v):u.bq=true->∀K',VR w X K' u v:=by
 induction h with
 |top=>intros;exact .top
 |bool=>intros;exact .bool
 |int=>intros;exact .int
 |str=>intros;exact .str
 |ai=>intros;exact .ai
 |fc=>intros;exact .fc
 |nU=>intros;exact .nU
 |o9=>intros;exact .o9
 |lit=>intros;exact .lit
 |agg hl h1 hv ih=>intro e K;exact .agg hl h1 λj u c hu hc=>ih j u c hu hc (eK (by simpa[AV.bq]using e) hu) K
 |bY hl hv ih=>intro e K;exact .bY hl λj u c hu hc=>ih j u c hu hc (eK (by simpa[AV.bq]using e) hu) K
 |func hl hv ih=>intro e K;exact .func hl λj u c hu hc=>ih j u c hu hc (eK (by simpa[AV.bq]using e) hu) K
 |aL hn bJ iW hA dM h1 cH hv ih=>intro e K;exact .aL hn bJ iW hA dM h1 cH hv
 |aw dM h1 hg hx hc hv ih=>intro e K;exact .aw dM h1 hg hx hc hv
 |bn iF nu hc hn hm iW=>intro e;simp[AV.bq]at e
 |fE iF=>intro e;simp[AV.bq]at e
 |dq hn hc=>intro e;simp[AV.bq]at e
 |af iF=>intro e;simp[AV.bq]at e
 |dP iF=>intro e;simp[AV.bq]at e
 |dX iF=>intro e;simp[AV.bq]at e
 |iB hm hg hx bJ hl h1 hv ih=>intro e K;exact .iB hm hg hx bJ hl h1 hv
 |xx h1 h2 h3 h4 h5 h6=>intro e K;exact .xx h1 h2 h3 h4 h5 h6
theorem se{kd:Kd}{u:AV}{v:Value}(hf:kd.fits u=true)(h:VR w X K u v):VR w (uN kd X) (zD kd K) u v:=by
 cases kd
 .exact da hf h _ _
 .exact eE h hf _
 .exact h
 .cases hf
theorem gp{kd:Kd}:∀{xs:List AV}{j:Nat}{u:AV},fX kd xs=true->xs[j]?=some u->kd.fits u=true
 |[],_,_,_,h=>by simp at h
 |x::xs,0,u,h,hj=>by simp at hj;subst hj;simp[fX]at h;exact h.1
 |x::xs,j+1,u,h,hj=>by simp at hj;simp[fX]at h;exact gp h.2 hj
theorem eF{u:AV}{cs:List AV}{v:Value}(hc:u.cellsOf=some cs)(h:VR w X K u v):v.cells.size=cs.length/\(∀(j:Nat) x,v.cells[j]?=some x->x.oneCell'=true)/\∀(j:Nat) x y,cs[j]?=some x->v.cells[j]?=some y->VR w X K x y:=by
 have one:∀(hv:v.cells=#[v])(h1:v.oneCell'=true),some [u]=some cs->v.cells.size=cs.length/\(∀(j:Nat) x,v.cells[j]?=some x->x.oneCell'=true)/\∀(j:Nat) x y,cs[j]?=some x->v.cells[j]?=some y->VR w X K x y:=by
  intro hv h1 e;injection e with e
  subst e;rw[hv];refine⟨rfl,λj x hx=>?_,λj x y hx hy=>?_⟩
  .cases j with
   |zero=>simp at hx;subst hx;exact h1
   |succ j=>simp at hx
  .cases j with
   |zero=>simp at hx hy;subst hx hy;exact h
   |succ j=>simp at hx
 cases u<;>simp only[AV.cellsOf]at hc
 case agg xs=>
  injection hc with hc
  subst hc;obtain⟨vs,rfl,h1,h2,h3⟩:=VR.mC h;exact⟨h1.symm,h2,h3⟩
 case top=>cases hc
 case o9=>cases hc
 case lit=>obtain⟨rfl,rfl⟩:=wv hc;cases h;exact one rfl rfl rfl
 case dq=>cases hc
 case bY=>cases hc
 case opt=>cases hc
 case dh=>cases hc
 all_goals(cases h<;>exact one rfl rfl hc)
theorem Step.setRow{g:Nat}{aJ new:Array Value}{e:Nat}(hc:w.heap[g]?=some (.cells aJ e (0,0)))(hl:new.size=aJ.size):Step (λr=>r=g) w (w.setRow g new):=by
 have gx:∀r,r≠g->(w.setRow g new).heap[r]?=w.heap[r]?:=by
  intro r hr;simp only[World.setRow,jX];rw[if_neg (λe=>hr e.symm)]
 refine⟨⟨by simp[World.setRow],λr _ hr=>gx r hr,λr dw e' h=>?_⟩,rfl,rfl,rfl⟩
 by_cases hr:r=g
 .subst hr
  rw[hc]at h;injection h with h
  injection h with h1 h2
  subst h1 h2;exact⟨new,setRow_heap w r aJ new e (0,0) hc,hl⟩
 .exact⟨dw,by rw[gx r hr];exact h,rfl⟩
theorem F2(hT:br P T)(hs:bC E K c a w){t:Nat}{ti:JM}(ht:T.get t=some ti){b g i off:Nat}{ae:ak}{row Sa cs:List AV}{u:AV}{v:Value}
  (hb:aK c.O b=some ae)(sY:∀ag st,ae.kd≠.map ag st)(hK:aG K b=some g)(aD:ae.aa[i]?=some row)(dM:u.cellsOf=some cs)(cz:cs.length=ti.size)(iE:fX ae.kd cs=true)
  (Cw:eO off cs row=some Sa)(hv:VR w (XX E K c.O) K u v):
  ∃w',(Instr.storeAt t (.pointer (some ⟨g,i*ae.sz+off,none⟩)) v).run P w=.ok () w'/\bC E K ⟨c.fr,di b {ae with aa:=ae.aa.set i Sa} c.O⟩ a w':=by
 obtain⟨_,⟨j,hj,_,mi,_⟩,_⟩:=hT.get ht;obtain⟨h1,h2,h3⟩:=eF dM hv;have hr:=hs.aa b ae hb;have Ec:row.length=ae.sz:=hr row (ay aD);obtain⟨Cx,gy⟩:=lQ Cw;have aaH:i<ae.aa.length:=(aE.1 aD).1
 rcases hs.own b ae hb with⟨k1,_⟩|⟨g',k1,gx⟩
 .rw[show aG K b=none from by simp[aG,k1]]at hK;cases hK
 .have zO:=hK
  obtain rfl:g=g':=by rw[aU k1]at zO;injection zO with zO;exact zO.symm
  obtain⟨aJ,JW,hu⟩:=gx;have hc:=JW.cells sY;have sZ:=bD hr;have dL:∀p,p<ae.aa.flatten.length->p<aJ.size:=by
   intro p hp;obtain⟨x,hx,_⟩:=hu p _ (aW hp);exact(bd.1 hx).1
  have Xo:off+cs.length<=row.length∨cs=[]:=by
   rcases px Cw with h|⟨h,_⟩
   .exact .inl h
   .exact .inr h
  have hmul:i*ae.sz+ae.sz<=ae.aa.flatten.length:=by
   rw[sZ]
   calc i*ae.sz+ae.sz=(i+1)*ae.sz:=by rw[bh];omega
    _<=ae.aa.length*ae.sz:=gR _ aaH
  by_cases LB:cs=[]
  ·
   subst LB;have hrw:Sa=row:=by simp[eO]at Cw;exact Cw.symm
   have lh:ae.aa.set i Sa=ae.aa:=by
    rw[hrw];obtain⟨_,e⟩:=aE.1 aD;rw[<-e];simp
   have hvc:v.cells.toList=[]:=bE (by simpa using h1);refine⟨w,?_,?_⟩
   .simp[Instr.storeAt,Instr.sureAddr,storeVar,bS hj,mi,h1,cz,hvc,storeCells]
   .have:bC E K ⟨c.fr,di b ae c.O⟩ a w:=hs.write hb hK rfl (Step.refl _ _) hr ⟨aJ,JW,hu⟩
    rw[lh];exact this
  .have Fx:off+cs.length<=row.length:=Xo.resolve_right LB
   have gW:0<cs.length:=by cases cs<;>simp at LB⊢
   have bJ:i*ae.sz+off+v.cells.toList.length<=aJ.size:=by
    have:i*ae.sz+off+cs.length-1<aJ.size:=dL _ (by omega);simp only[gf,h1];omega
   have dC:∀x∈v.cells.toList,x.oneCell'=true:=by
    intro x hx;obtain⟨k,hk⟩:=fQ hx;exact h2 k x (by simpa using hk)
   have Ck:=run_storeCells_at P g (i*ae.sz+off) ae.e v.cells.toList 0 aJ w hc (by simpa using bJ) dC;simp only[ed]at Ck;obtain⟨new,qQ⟩:∃new:Array Value,new=(aJ.toList.take (i*ae.sz+off)++v.cells.toList++aJ.toList.drop (i*ae.sz+off+v.cells.toList.length)).toArray:=⟨_,rfl⟩;rw[<-qQ]at Ck;have JX:new.size=aJ.size:=by
    rw[qQ];simp only[cL,be,aO,jY,gf]at bJ⊢;omega
   have cY:Step (λr=>r=g) w (w.setRow g new):=Step.setRow hc JX;have dR:dv (XX E K c.O) w (w.setRow g new):=cY.ad.mono λr _ jV=>.inl ⟨b,by simp[hb],by rw[jV];exact hK⟩
   refine⟨w.setRow g new,?_,hs.write (ae:={ae with aa:=ae.aa.set i Sa}) hb hK (by simp) cY (R9 hr (by rw[Cx,Ec])) ?_⟩
   rotate_left
   .refine⟨new,aV.mk sY (setRow_heap w g aJ _ ae.e (0,0) hc),λp u' hp=>?_⟩
    simp only at hp;rw[F1 hr (by rw[Cx,Ec]) aaH]at hp;have ow:∀u'',ae.aa.flatten[p]?=some u''->u''=u'->(p<i*ae.sz+off∨i*ae.sz+off+cs.length<=p)->∃x,new[p]?=some x/\x.oneCell'=true/\VR (w.setRow g new) (uN ae.kd (XX E K c.O)) (zD ae.kd K) u' x:=by
     intro u'' ji e Ik;subst e;obtain⟨x,hx,h1x,R8⟩:=hu p u'' ji;refine⟨x,?_,h1x,R8.ad (ka dR) (λ_ _ h=>h) (λ_ _=>rfl)⟩;have sU:aJ.toList[p]?=some x:=by simpa using hx
     rw[qQ];simp only[eD];have NO:(aJ.toList.take (i*ae.sz+off)).length=i*ae.sz+off:=by simp only[aO,gf]at bJ⊢;omega
     rcases Ik with aC|kT
     .rw[cM,bM (by omega),bQ,if_pos aC];exact sU
     .rw[cm (by rw[be,NO];simp only[gf,h1];omega),cV,be,NO]
      rw[<-sU];congr 1;simp only[gf,h1];omega
    by_cases e1:i*ae.sz<=p/\p<i*ae.sz+ae.sz
    .rw[if_pos e1,gy]at hp
     by_cases e2:off<=p-i*ae.sz/\p-i*ae.sz<off+cs.length
     .rw[if_pos e2]at hp
      have hk:p-i*ae.sz-off<v.cells.size:=by rw[h1];omega
      have hy:v.cells[p-i*ae.sz-off]?=some v.cells[p-i*ae.sz-off]:=by simp[hk]
      refine⟨v.cells[p-i*ae.sz-off],?_,h2 _ _ hy,?_⟩
      .rw[qQ]
       simp only[eD];have NO:(aJ.toList.take (i*ae.sz+off)).length=i*ae.sz+off:=by simp only[aO,gf]at bJ⊢;omega
       rw[cM,cm (by omega),NO,bM (by simp only[gf];omega)];rw[<-hy];simp only[mu];congr 1;omega
      .have R8:=se (gp iE hp) (h3 _ _ _ hp hy)
       exact R8.ad (ka dR) (λ_ _ h=>h) (λ_ _=>rfl)
     .rw[if_neg e2]at hp
      have:ae.aa.flatten[p]?=some u':=by
       have:=uY hr aD (p-i*ae.sz) (by omega);rw[hp]at this;rw[<-this];congr 1;omega
      exact ow u' this rfl (by omega)
    .rw[if_neg e1]at hp
     exact ow u' hp rfl (by omega)
   .simp only[Instr.storeAt,Instr.sureAddr,storeVar,Sem.run_bind,Sem.run_pure,Result.andThen_ok,bS hj,mi]
    rw[if_neg (by rw[h1,cz];simp)];exact Ck
theorem wp_skip_{w':World}{D:List (Nat×ak)}(Ck:(execOp a.eval o).run P w=.ok .skip w')(hr:{v:=.top,D:=D}=r)(eh:bC E K ⟨c.fr,im D c.O⟩ a w'):
  o.wp P a w (bA E c r a o.dst) kK:=by
 subst hr;unfold Oper.wp;rw[Ck];exact⟨K,undef,rfl,eh,.top⟩
theorem Sb(hT:br P T)(hs:bC E K c a w)(az:ey E K c a w val){t:TypeId}{x y:Operand}(ho:o.op=.store t x y)
  (h:jh.holds P (match T.get t with
  |some i=>wy i (iX (aK c.O)) (val x) (val y)
  |none=>.no) (· =r)):o.wp P a w (bA E c r a o.dst) kK:=by
 split at h
 .rename_i ti nY
  unfold wy at h
  split at h
  .exact h.elim
  .rename_i cs dM
   have pV:VR w (XX E K c.O) K (val y) (a.eval y):=(az y).vr (by rintro d bf u e;rw[e]at dM;cases dM)
   split at h
   .exact h.elim
   .rename_i cz
    have cz:=beq_true cz;have fin:∀{b g i off:Nat}{ae:ak}{row Sa:List AV},a.eval x=.pointer (some ⟨g,i*ae.sz+off,none⟩)->aK c.O b=some ae->(∀ag st,ae.kd≠.map ag st)->aG K b=some g->ae.aa[i]?=some row->fX ae.kd cs=true->
      eO off cs row=some Sa->{v:=.top,D:=[(b,{ae with aa:=ae.aa.set i Sa})]}=r->o.wp P a w (bA E c r a o.dst) kK:=by
     intro b g i off ae row Sa e1 hb sY hK aD iE Cw hr;obtain⟨w',Ck,eh⟩:=F2 (P:=P) hT hs nY hb sY hK aD dM cz iE Cw pV;refine wp_skip_ (w':=w') ?_ hr (by simpa[im]using eh);simp only[execOp,ho,e1,Sem.run_bind,Ck,Result.andThen_ok,Sem.run_pure]
    split at h
    .rename_i b off hx
     split at h
     .rename_i ae hb
      obtain⟨hb,sY⟩:=j9 hb
      split at h
      .rename_i row aD iE
       split at h
       .rename_i r' Cw
        obtain⟨g,hK,e1⟩:=VR.jo (az.at hx);refine fin (i:=0) (off:=off) (row:=row) (by simpa using e1) hb sY hK (by rw[aD];rfl) iE Cw ?_;rw[aD];exact h
       .exact h.elim
      .exact h.elim
     .exact h.elim
    .rename_i b sz k off hx
     split at h
     .rename_i ae hb
      obtain⟨hb,sY⟩:=j9 hb
      split at h
      .rename_i bJ iE
       have:=beq_true bJ;subst this;obtain⟨row,aD,h⟩:=h
       split at h
       .rename_i r' Cw
        obtain⟨g,hK,e1⟩:=VR.uU (az.at hx);exact fin e1 hb sY hK aD iE Cw h
       .exact h.elim
      .exact h.elim
     .exact h.elim
    .exact h.elim
 .exact h.elim
end
mutual
theorem lj(b:Nat):∀u:AV,u.bq=true->u.has b=false
 |.top,_=>rfl
 |.bool _,_=>rfl
 |.int _ _,_=>rfl
 |.str _,_=>rfl
 |.ai,_=>rfl
 |.fc,_=>rfl
 |.nU,_=>rfl
 |.o9,_=>rfl
 |.lit _,_=>rfl
 |.aL _ _ _,_=>rfl
 |.aw _ _,_=>rfl
 |.iB _ _ _ _,_=>rfl
 |.xx,_=>rfl
 |.dX _,h=>by simp[AV.bq]at h
 |.bn _ _ _,h=>by simp[AV.bq]at h
 |.dq _ _ _ _,h=>by simp[AV.bq]at h
 |.af _ _,h=>by simp[AV.bq]at h
 |.dP _ _ _ _,h=>by simp[AV.bq]at h
 |.dh _ _ _ _ _,h=>by simp[AV.bq]at h
 |.agg xs,h=>by simp only[AV.bq]at h;simp only[AV.has];exact nK b xs h
 |.bY xs,h=>by simp only[AV.bq]at h;simp only[AV.has];exact nK b xs h
 |.func _ xs,h=>by simp only[AV.bq]at h;simp only[AV.has];exact nK b xs h
 |.opt _ _ _,h=>by simp[AV.bq]at h
theorem nK(b:Nat):∀xs:List AV,AV.cW xs=true->AV.cN b xs=false
 |[],_=>rfl
 |x::xs,h=>by
  simp only[AV.cW,aA]at h;simp only[AV.cN,tD];exact⟨lj b x h.1,nK b xs h.2⟩
end
theorem BY{u:AV}(h:u.fp=true):u.bq=true:=by cases u<;>simp[AV.fp]at h<;>simp[AV.bq]
theorem NP{b:Nat}{xs:List AV}{j:Nat}{u:AV}(h:AV.cN b xs=false)(hj:xs[j]?=some u):u.has b=false:=by
 cases hu:u.has b
 .rfl
 .exact absurd (AV.mA hj hu) (by rw[h];simp)
theorem nL{b:Nat}{u:AV}{cs:List AV}(hc:u.cellsOf=some cs)(h:u.has b=false){j:Nat}{x:AV}(hj:cs[j]?=some x):x.has b=false:=by
 have one:some [u]=some cs->x.has b=false:=by
  intro e;injection e with e;subst e
  cases j with
  |zero=>simp at hj;subst hj;exact h
  |succ j=>simp at hj
 cases u<;>simp only[AV.cellsOf]at hc
 case agg xs=>injection hc with hc;subst hc;simp only[AV.has]at h;exact NP h hj
 case top=>cases hc
 case o9=>cases hc
 case lit=>obtain⟨rfl,rfl⟩:=wv hc;exact one rfl
 case dq=>cases hc
 case bY=>cases hc
 case opt=>cases hc
 case dh=>cases hc
 all_goals exact one hc
theorem uZ(w:World)(X:Nat->Prop)(K:KM)(v:Value):VR w X K (AV.qF v) v:=by
 unfold AV.qF
 split
 .exact .bool
 .exact .int
 .exact .str
 .exact .ai
 .exact .fc
 .exact .lit
 .exact .top
theorem ta(v:Value):(AV.qF v).bq=true:=by
 unfold AV.qF
 split<;>rfl
theorem gP(w:World)(X:Nat->Prop)(K:KM)(v:Value)(h:fH v=true):VR w X K (AV.jJ v) v:=by
 unfold AV.jJ
 split
 .rename_i cs
  refine .agg (by simp) (λj c hc=>?_) (λj u c hu hc=>?_)
  .simp only[fH,iT]at h
   exact h c (rN.2 (rO hc))
  .simp only[aS,mu,hc,iU,Option.some.injEq]at hu
   subst hu;exact uZ w X K c
 .exact uZ w X K v
theorem F3(cs:List Value):AV.cW (cs.map AV.qF)=true:=by
 induction cs with
 |nil=>rfl
 |cons x xs ih=>simp only[cU,AV.cW,ta,ih,Bool.and_true]
theorem py(v:Value):(AV.jJ v).bq=true:=by
 unfold AV.jJ
 split
 .simp only[AV.bq];exact F3 _
 .exact ta v
section
variable{P:Program} {T:dD} {E:Env} {K:KM} {c:aM} {a:Act} {w:World} {o:Oper} {r:iS} {val:Operand->AV} {X:Nat->Prop}
theorem jq{b:Nat}(h:eP b c=true):aK c.O b=none/\(∀t,(lk c.fr t).has b=false)/\∀i x,aK c.O i=some x->x.kd=.any->cw b x.aa=false:=by
 simp only[eP,aA]at h
 replace h:=h.1
 refine⟨?_,λt=>Cr t h.1,λi x hi hk=>(tN h.2 hi).2 hk⟩
 cases hb:aK c.O b with
 |none=>rfl
 |some x=>exact absurd rfl (tN h.2 hb).1
theorem fD{b:Nat}(h:eP b c=true):Nat.ble (b %16) 1=true:=by
 simp only[eP,aA]at h;exact h.2
theorem gr{b:Nat}{ae:ak}(h:fq c true [(b,ae)]=true):eP b c=true:=by
 unfold fq at h;simp only at h
 split at h
 .assumption
 .cases h
theorem oM(hs:bC E K c a w){b:Nat}{ae:ak}(hf:eP b c=true){w1:World}(cY:Step (λ_=>False) w w1){g:Nat}(hg:w.heap.size<=g)
  (cP:∀row∈ae.aa,row.length=ae.sz){aJ:Array Value}(hc:aV w1 (λh=>XX E K c.O h∨h=g) g ae aJ)
  (hu:∀(j:Nat) u,ae.aa.flatten[j]?=some u->(ae.kd=.any->u.has b=false)/\∃x,aJ[j]?=some x/\x.oneCell'=true/\VR w1 (uN ae.kd λh=>XX E K c.O h∨h=g) (zD ae.kd K) u x):
  bC E (pU K b (some g,ae.aa.length)) ⟨c.fr,di b ae c.O⟩ a w1:=by
 obtain⟨h1,h2,h3⟩:=jq hf;have hXn:∀r,r<w1.heap.size->XX E (pU K b (some g,ae.aa.length)) (di b ae c.O) r->XX E K c.O r∨r=g:=by
  intro r hr hX
  rcases hX with⟨i,hi,hk⟩|hX
  .by_cases e:i=b
   .subst e;rw[iz]at hk;injection hk with hk;exact .inr hk.symm
   .rw[bU _ _ e]at hk
    rw[ba,if_neg (λe'=>e e'.symm)]at hi;exact .inl (.inl ⟨i,hi,hk⟩)
  .exact .inl (.inr hX)
 refine hs.rebind (fD hf) (cY.mono λ_ _ h=>h.elim) h2 (λi x hi _ hk=>h3 i x hi hk) (.inl hg) cP ⟨aJ,hc.ad rfl (dv.refl _ _) hXn,λj u hj=>?_⟩;obtain⟨hb,x,hx,h1x,hv⟩:=hu j u hj;refine⟨x,hx,h1x,hv.ad (dv.refl _ _) ?_ λi hi=>?_⟩
 .refine nJ λr hr hX=>?_
  rcases hX with⟨i,hi,hk⟩|hX
  .by_cases e:i=b
   .subst e;rw[iz]at hk;injection hk with hk;exact .inr hk.symm
   .rw[bU _ _ e]at hk
    rw[ba,if_neg (λe'=>e e'.symm)]at hi;exact .inl (.inl ⟨i,hi,hk⟩)
  .exact .inl (.inr hX)
 .cases hk:ae.kd
  .rfl
  .rfl
  .exact eQ _ _ (by rintro rfl;rw[hb hk]at hi;cases hi)
  .rfl
theorem nZ{w':World}{K':KM}{v:AV}{vv:Value}{D:List (Nat×ak)}{nw:Bool}(Ck:(execOp a.eval o).run P w=.ok (.value vv) w')(hr:{v:=v,D:=D,nw:=nw}=r)(eh:bC E K' ⟨c.fr,im D c.O⟩ a w')
  (hv:VR w' (XX E K' (im D c.O)) K' v vv):o.wp P a w (bA E c r a o.dst) kK:=by
 subst hr;unfold Oper.wp;rw[Ck];exact⟨K',vv,rfl,eh,hv⟩
theorem iN(w:World)(o:Obj):(w.alloc o).heap[w.heap.size]?=some o:=by
 show(w.heap.push o)[w.heap.size]?=some o
 simp
theorem JY(hs:bC E K c a w){b t sz:Nat}{cs:List AV}{v:Value}(hf:eP b c=true)(hl:cs.length=sz)(h1:v.cells.size=cs.length)(h2:∀(j:Nat) x,v.cells[j]?=some x->x.oneCell'=true)
  (h3:∀(j:Nat) x y,cs[j]?=some x->v.cells[j]?=some y->VR w (XX E K c.O) K x y)(h4:∀(j:Nat) x,cs[j]?=some x->x.has b=false):
  bC E (pU K b (some w.heap.size,1)) ⟨c.fr,di b {e:=t,sz:=sz,kd:=.any,aa:=[cs]} c.O⟩ a (w.alloc (.cells v.cells t)):=by
 have cY:=Step.alloc (λ_=>False) w (.cells v.cells t);refine oM (ae:={e:=t,sz:=sz,kd:=.any,aa:=[cs]}) hs hf cY (bG _) (by simpa using hl) (iN w _) λj u hj=>?_
 simp only[iH,List.flatten_nil,dN]at hj;have aC:j<v.cells.size:=by have:=(aE.1 hj).1;omega
 have hy:v.cells[j]?=some v.cells[j]:=by simp[aC]
 refine⟨λ_=>h4 j u hj,v.cells[j],hy,h2 j _ hy,?_⟩;refine VR.ad (h3 j u _ hj hy) (cY.ad.mono λ_ _ h=>h.elim) (λg hg hX=>?_) (λ_ _=>rfl)
 rcases hX with hX|rfl
 .exact hX
 .omega
theorem Sc(hT:br P T)(hs:bC E K c a w){t:TypeId}(ho:o.op=.alloc t)(dC:∀i,T.get t=some i->fH i.zero=true)(hf:fq c r.nw r.D=true)
  (h:jh.holds P (match T.get t with
  |some i=>match(AV.jJ i.zero).cellsOf with
   |some cs=>match Nat.beq cs.length i.size with
    |true=>.ret {v:=.af (cI o.dst 0) 0,D:=[(cI o.dst 0,{e:=t,sz:=i.size,kd:=.any,aa:=[cs]})],nw:=true}
    |false=>.no
   |none=>.no
  |none=>.no) (· =r)):o.wp P a w (bA E c r a o.dst) kK:=by
 split at h
 .rename_i i hi
  split at h
  .rename_i cs dM
   split at h
   .rename_i hl
    have hl:=beq_true hl;have hr:_=r:=h;have tT:=hf;rw[<-hr]at tT;have jF:=gr tT;obtain⟨_,⟨j,hj,BK,mi,_⟩,_⟩:=hT.get hi;have F4:=gP w (XX E K c.O) K i.zero (dC i hi);obtain⟨h1,h2,h3⟩:=eF dM F4;refine nZ (vv:=.pointer (some ⟨w.heap.size,0,none⟩)) (w':=w.alloc (.cells i.zero.cells t)) ?_ hr (JY hs jF hl h1 h2 h3 λj x hx=>nL dM (lj _ _ (py _)) hx) (.af (iz _ _ _ _));simp only[execOp,ho];simp[Instr.alloc,zeroValue,typeInfo,hj,BK,newVar,newRow]
   .exact h.elim
  .exact h.elim
 .exact h.elim
theorem aaI(hT:br P T)(hs:bC E K c a w)(az:ey E K c a w val)(Ed:∀x b,eP b c=true->(val x).has b=false){t:TypeId}{x:Operand}(ho:o.op=.box t x)(hf:fq c r.nw r.D=true)
  (h:jh.holds P (match T.get t,(val x).cellsOf with
  |some i,some cs=>match Nat.beq cs.length i.size,fX .any cs with
   |true,true=>.ret {v:=.af (cI o.dst 0) 0,D:=[(cI o.dst 0,{e:=t,sz:=i.size,kd:=.any,aa:=[cs]})],nw:=true}
   |_,_=>.no
  |_,_=>.no) (· =r)):o.wp P a w (bA E c r a o.dst) kK:=by
 split at h
 .rename_i i cs hi dM
  split at h
  .rename_i hl _
   have hl:=beq_true hl;have hr:_=r:=h;have tT:=hf;rw[<-hr]at tT;have jF:=gr tT;have F4:VR w (XX E K c.O) K (val x) (a.eval x):=(az x).vr (by rintro d bf u e;rw[e]at dM;cases dM);obtain⟨h1,h2,h3⟩:=eF dM F4;refine nZ (vv:=.pointer (some ⟨w.heap.size,0,none⟩)) (w':=w.alloc (.cells (a.eval x).cells t)) ?_ hr (JY hs jF hl h1 h2 h3 λj y hy=>nL dM (Ed x _ jF) hy) (.af (iz _ _ _ _));simp only[execOp,ho];simp[Instr.box,newVar,newRow]
  .exact h.elim
 .exact h.elim
theorem F5(hT:br P T)(hs:bC E K c a w)(az:ey E K c a w val){t:TypeId}{x ix:Operand}(ho:o.op=.indexAddr t x ix)
  (h:jh.holds P (match T.get t,val ix with
  |some i,.int _ j=>match i.k with
   |.slice e=>match T.get e,val x with
    |some ei,.aL sz n aa=>match Nat.beq sz ei.size with
     |true=>.eg (0<=j/\j<n) (.RV λrow=>.eg (aa[j.toNat]?=some row) (bu (.aw row 0)))
     |false=>.no
    |some ei,.bn b sz n=>match Nat.beq sz ei.size with
     |true=>.eg (0<=j/\j<n) (bu (.dP b sz j.toNat 0))
     |false=>.no
    |some ei,.dq b sz lo n=>match Nat.beq sz ei.size with
     |true=>.eg (0<=j/\j<n) (bu (.dP b sz (lo+j.toNat) 0))
     |false=>.no
    |_,_=>.no
   |.array n e=>match T.get e with
    |some ei=>match JN ix with
     |true=>match decide (0<=j/\j<n)with
      |true=>match mO (val x) (j.toNat*ei.size)with|some p=>bu p|none=>.no
      |false=>.no
     |false=>.eg (0<=j/\j<n) (match mO (val x) (j.toNat*ei.size)with|some p=>bu p|none=>.no)
    |none=>.no
   |_=>.no
  |_,_=>.no) (· =r)):o.wp P a w (bA E c r a o.dst) kK:=by
 split at h
 .rename_i i k j hi U4
  obtain⟨⟨d,hd,eM⟩,_⟩:=hT.get hi;have eix:=az.int U4
  split at h
  .rename_i e hk
   rw[hk]at eM;have:=of_slice eM;subst this
   split at h
   .rename_i ei sz n aa lg hx
    obtain⟨_,⟨je,kb,_,mi,_⟩,_⟩:=hT.get lg
    split at h
    .rename_i bJ
     have bJ:=beq_true bJ;obtain⟨hj,row,aD,h⟩:=h;obtain⟨A,cap,e1,hn,hr,iW,_,cs,dM,dC,hA,hv⟩:=VR.pq (az.at hx);have aC:j.toNat<aa.length:=(aE.1 aD).1;obtain⟨g,b,rfl,hg,hX,cH⟩:=hA (by rintro rfl;simp at aC);have Ec:row.length=sz:=hr row (ay aD);have nt:=bD hr;have hmul:j.toNat*sz+sz<=cs.length:=by
      rw[dM,nt]
      calc j.toNat*sz+sz=(j.toNat+1)*sz:=by rw[bh];omega
       _<=aa.length*sz:=gR _ aC
     refine aT hs (vv:=.pointer (some ⟨g,b+j.toNat*sz+0,none⟩)) ?_ (aN h) (.aw (cs:=(cs.drop (j.toNat*sz)).take sz) ?_ ?_ hg hX ?_ ?_)
     .simp only[execOp,ho,e1,eix]
      simp[Instr.indexAt,asIntOf,run_underlying hd,bS kb,mi,hj,<-bJ,fK]
     .simp only[aO,jY];omega
     .intro x hx;exact dC x (uE (my hx))
     .intro p x hp
      rw[bQ]at hp
      split at hp
      .rw[cV]at hp
       rw[pf];exact cH _ x hp
      .cases hp
     .intro p u x hu hp
      rw[bQ]at hp
      split at hp
      .rename_i Il
       rw[cV]at hp;rw[<-uY hr aD p Il]at hu;exact hv _ u x hu hp
      .cases hp
    .exact h.elim
   .rename_i ei b sz n lg hx
    obtain⟨_,⟨je,kb,_,mi,_⟩,_⟩:=hT.get lg
    split at h
    .rename_i bJ
     have bJ:=beq_true bJ;obtain⟨hj,h⟩:=h
     rcases VR.c9 (az.at hx)with⟨_,hz,_⟩|⟨g,cap,aJ,e',m,hK,_,e1,hc,l4,_,_⟩
     .omega
     .refine aT hs (vv:=.pointer (some ⟨g,j.toNat*sz+0,none⟩)) ?_ (aN h) (.dP (aU hK))
      simp only[execOp,ho,e1,eix];simp[Instr.indexAt,asIntOf,run_underlying hd,bS kb,mi,hj,<-bJ,fK]
    .exact h.elim
   .rename_i ei b sz lo n lg hx
    obtain⟨_,⟨je,kb,_,mi,_⟩,_⟩:=hT.get lg
    split at h
    .rename_i bJ
     have bJ:=beq_true bJ;obtain⟨hj,h⟩:=h;obtain⟨A,cap,e1,hA⟩:=VR.qO (az.at hx);obtain⟨g,m,hK,_,rfl⟩:=hA (by omega);refine aT hs (vv:=.pointer (some ⟨g,(lo+j.toNat)*sz+0,none⟩)) ?_ (aN h) (.dP (aU hK));simp only[execOp,ho,e1,eix];simp[Instr.indexAt,asIntOf,run_underlying hd,bS kb,mi,hj,<-bJ,fK,bh]
    .exact h.elim
   .exact h.elim
  .rename_i n e hk
   rw[hk]at eM;have:=of_array eM;subst this
   split at h
   .rename_i ei lg
    obtain⟨_,⟨je,kb,_,mi,_⟩,_⟩:=hT.get lg;have fin:(0<=j/\j<n)->jh.holds P (match mO (val x) (j.toNat*ei.size)with|some p=>bu p|none=>.no) (· =r)->o.wp P a w (bA E c r a o.dst) kK:=by
     intro hj h
     split at h
     .rename_i p NN
      obtain⟨g,oo,ev,nv⟩:=uW NN ((az x).vr (uX NN));refine aT hs (vv:=.pointer (some ⟨g,oo+j.toNat*ei.size,none⟩)) ?_ (aN h) nv;simp only[execOp,ho,ev,eix];simp[Instr.indexAt,asIntOf,run_underlying hd,Instr.sureAddr,bS kb,mi,hj,fK]
     .exact h.elim
    split at h
    .split at h
     .rename_i BL;exact fin (aP BL) h
     .exact h.elim
    .exact fin h.1 h.2
   .exact h.elim
  .exact h.elim
 .exact h.elim
end
end Go.an
