import Derived.Test.YtpfmbblnhjpclaaGreatDoorJ2
set_option linter.unusedVariables false
set_option linter.unusedSimpArgs false
namespace Go.an
open Go.RowKit
structure Step(Y:Nat->Prop)(w w':World):Prop where
 ad:dv Y w w'
 os:w'.os=w.os
 tape:w'.tape=w.tape
 output:w'.output=w.output
theorem Step.refl(Y:Nat->Prop)(w:World):Step Y w w:=⟨dv.refl _ _,rfl,rfl,rfl⟩
theorem dv.mono{Y X:Nat->Prop}{w w':World}(h:dv Y w w')(hY:∀g,g<w.heap.size->Y g->X g):dv X w w':=
 ⟨h.size,λg hg hx=>h.block g hg (λhy=>hx (hY g hg hy)),h.shape⟩
theorem Step.mono{Y X:Nat->Prop}{w w':World}(h:Step Y w w')(hY:∀g,g<w.heap.size->Y g->X g):Step X w w':=
 ⟨h.ad.mono hY,h.os,h.tape,h.output⟩
theorem Step.trans{Y:Nat->Prop}{a b c:World}(h:Step Y a b)(k:Step Y b c):Step Y a c:=
 ⟨h.ad.trans k.ad (λ_ _ h=>h),k.os.trans h.os,k.tape.trans h.tape,k.output.trans h.output⟩
theorem Ext.step{X0 Y:Nat->Prop}{w0 w w':World}(h:Ext X0 w0 w)(s:Step Y w w')(hY:∀g,Y g->X0 g∨w0.heap.size<=g):Ext X0 w0 w':=
  ⟨s.os.trans h.os,s.tape.trans h.tape,s.output.trans h.output,du h.size s.ad.size,λg hg hx=>
    (s.ad.block g (ew hg h.size) (λhy=>(hY g hy).elim hx (λh=>by omega))).trans (h.block g hg hx),
   λg aJ e hc=>by
    obtain⟨c1,h1,s1⟩:=h.shape g aJ e hc;obtain⟨c2,h2,s2⟩:=s.ad.shape g c1 e h1;exact⟨c2,h2,s2.trans s1⟩⟩
theorem Step.alloc(Y:Nat->Prop)(w:World)(o:Obj):Step Y w (w.alloc o):=
 ⟨⟨by simp,λg hg _=>Below.heap_alloc w o g hg,λg aJ e h=>⟨aJ,by
  have hg:g<w.heap.size:=(bd.1 h).1;rw[Below.heap_alloc w o g hg];exact h,rfl⟩⟩,rfl,rfl,rfl⟩
theorem Step.setCell(w:World)(p:Addr)(u:Value):Step (λg=>g=p.block) w (w.setCell p u):=by
 refine⟨⟨by simp[World.setCell],λg hg hx=>Below.heap_setCell w p u g hx,λg aJ e h=>?_⟩,rfl,rfl,rfl⟩
 by_cases hg:g=p.block
 .subst hg
  refine⟨if p.spot.isSome then aJ else aJ.setIfInBounds p.off u,?_,by split<;>simp⟩;simp[World.setCell,jX,h]
 .exact⟨aJ,by rw[Below.heap_setCell w p u g hg];exact h,rfl⟩
theorem Step.drawn(Y:Nat->Prop)(w:World)(n:Nat):Step Y w {w with drawn:=n}:=⟨⟨bG _,λ_ _ _=>rfl,λ_ aJ _ h=>⟨aJ,h,rfl⟩⟩,rfl,rfl,rfl⟩
theorem FV.ad{X X':Nat->Prop}{w w':World}{K K':KM}{tm:Array Value}{u:AV}{v:Value}(h:FV w X K tm u v)
  (hk:dv X w w')(hX:∀g,g<w.heap.size->X' g->X g)(hK:∀b,u.has b=true->K' b=K b):FV w' X' K' tm u v:=by
 cases u with
 |opt d bf u'=>
  simp only[FV]at h⊢
  rcases h with⟨h1,h2⟩|h
  .exact .inl ⟨h1,h2.ad hk hX hK⟩
  .exact .inr h
 |_=>exact VR.ad h hk hX hK
theorem FV.sub{X X':Nat->Prop}{w:World}{K:KM}{tm:Array Value}{u:AV}{v:Value}(h:FV w X K tm u v)(hX:∀g,g<w.heap.size->X' g->X g):FV w X' K tm u v:=
 h.ad (dv.refl _ _) hX (λ_ _=>rfl)
theorem FV.top{X:Nat->Prop}{w:World}{K:KM}{tm:Array Value}{v:Value}:FV w X K tm .top v:=VR.top
theorem FV.vr{X:Nat->Prop}{w:World}{K:KM}{tm:Array Value}{u:AV}{v:Value}(h:FV w X K tm u v)(hu:∀d bf u',u≠.opt d bf u'):VR w X K u v:=by
 cases u with
 |opt d bf u'=>exact absurd rfl (hu d bf u')
 |_=>exact h
theorem FV.of{X:Nat->Prop}{w:World}{K:KM}{tm:Array Value}{u:AV}{v:Value}(h:VR w X K u v):FV w X K tm u v:=by
 cases u with
 |opt d bf u'=>cases h
 |_=>exact h
theorem FV.oF{X:Nat->Prop}{w:World}{K:KM}{tm:Array Value}{u:AV}{v:Value}(h:FV w X K tm u v):VR w X K u.oF v:=by
 cases u with
 |opt d bf u'=>exact .top
 |_=>exact h
theorem nW.ad{w w':World}{X X':Nat->Prop}{g sz:Nat}{ag st:Bool}{aa:List (List AV)}{es:Array MapEntry}(h:nW w X g ag st sz aa es)(e:w'.heap[g]?=w.heap[g]?)(hk:dv X w w')(hX:∀g,g<w.heap.size->X' g->X g):nW w' X' g ag st sz aa es:=
 ⟨e.trans h.obj,h.born,h.agg,h.key,h.size,λi row en hi he=>by
  obtain⟨h1,h2,h3,h4,h5⟩:=h.FO i row en hi he;exact⟨h1,h2,h3,h4,λj u c hu hc=>(h5 j u c hu hc).ad hk hX λ_ _=>rfl⟩⟩
theorem aV.ad{w w':World}{X X':Nat->Prop}{g:Nat}{ae:ak}{aJ:Array Value}(h:aV w X g ae aJ)(e:w'.heap[g]?=w.heap[g]?)(hk:dv X w w')(hX:∀g,g<w.heap.size->X' g->X g):aV w' X' g ae aJ:=by
 unfold aV at h⊢
 cases nI:ae.kd<;>rw[nI]at h<;>simp only at h⊢
 .exact e.trans h
 .exact e.trans h
 .exact e.trans h
 .obtain⟨h1,h0,es,h2⟩:=h
  exact⟨h1,h0,es,h2.ad e hk hX⟩
theorem aV.cells{w:World}{X:Nat->Prop}{g:Nat}{ae:ak}{aJ:Array Value}(h:aV w X g ae aJ)(hk:∀ag st,ae.kd≠.map ag st):w.heap[g]?=some (.cells aJ ae.e (0,0)):=by
 unfold aV at h
 cases fZ:ae.kd<;>rw[fZ]at h
 .exact h
 .exact h
 .exact h
 .exact absurd fZ (hk _ _)
theorem aV.mk{w:World}{X:Nat->Prop}{g:Nat}{ae:ak}{aJ:Array Value}(hk:∀ag st,ae.kd≠.map ag st)(h:w.heap[g]?=some (.cells aJ ae.e (0,0))):aV w X g ae aJ:=by
 unfold aV
 cases fZ:ae.kd
 .exact h
 .exact h
 .exact h
 .exact absurd fZ (hk _ _)
theorem aV.lt{w:World}{X:Nat->Prop}{g:Nat}{ae:ak}{aJ:Array Value}(h:aV w X g ae aJ):g<w.heap.size:=by
 unfold aV at h
 cases fZ:ae.kd<;>rw[fZ]at h
 .exact(bd.1 h).1
 .exact(bd.1 h).1
 .exact(bd.1 h).1
 .obtain⟨_,_,es,h1⟩:=h
  exact(bd.1 h1.obj).1
theorem aV.UZ{w:World}{X:Nat->Prop}{g:Nat}{ae:ak}{aJ dw:Array Value}{e:TypeId}{z:Nat×Nat}(h:aV w X g ae aJ)(hc:w.heap[g]?=some (.cells dw e z)):∀ag st,ae.kd≠.map ag st:=by
 intro ag st hk;unfold aV at h;rw[hk]at h;obtain⟨_,_,es,h1⟩:=h;have:=h1.obj;rw[this]at hc;cases hc
theorem aV.nX{w:World}{X:Nat->Prop}{g:Nat}{ae:ak}{aJ dw:Array Value}{e:TypeId}{z:Nat×Nat}(h:aV w X g ae aJ)(hc:w.heap[g]?=some (.cells dw e z)):w.heap[g]?=some (.cells aJ ae.e (0,0)):=
 h.cells (h.UZ hc)
theorem j9{own:Nat->Option ak}{b:Nat}{ae:ak}(h:iX own b=some ae):own b=some ae/\∀ag st,ae.kd≠.map ag st:=by
 unfold iX at h
 split at h
 .rename_i x hx
  split at h
  .cases h
  .rename_i hk
   injection h with h
   subst h;exact⟨hx,λag st e=>hk ag st e⟩
 .cases h
theorem nJ{kd:Kd}{X X':Nat->Prop}{w:World}(hX:∀g,g<w.heap.size->X' g->X g):∀g,g<w.heap.size->uN kd X' g->uN kd X g:=by
 intro g hg h
 cases kd
 .trivial
 .exact hX g hg h
 .exact hX g hg h
 .exact hX g hg h
theorem ka{kd:Kd}{X:Nat->Prop}{w w':World}(h:dv X w w'):dv (uN kd X) w w':=
 h.mono λg _ hx=>by
  cases kd
  .trivial
  .exact hx
  .exact hx
  .exact hx
theorem l8.ad{X X':Nat->Prop}{w w':World}{K K':KM}{g:Nat}{ae:ak}(h:l8 w X K g ae)(hb:w'.heap[g]?=w.heap[g]?)
  (hk:dv X w w')(hX:∀g,g<w.heap.size->X' g->X g)(hK:ae.kd=.any->∀(j:Nat) u b,ae.aa.flatten[j]?=some u->u.has b=true->K' b=K b):l8 w' X' K' g ae:=by
 obtain⟨aJ,hc,hu⟩:=h;refine⟨aJ,hc.ad hb hk hX,λj u hj=>?_⟩;obtain⟨x,hx,h1,hv⟩:=hu j u hj;refine⟨x,hx,h1,hv.ad (ka hk) (nJ hX) λb U0=>?_⟩
 cases fZ:ae.kd
 .rfl
 .rfl
 .exact hK fZ j u b hj U0
 .rfl
theorem XX.sub{E:Env}{K:KM}{O O':List (Nat×ak)}(h:∀b x,aK O' b=some x->∃y,aK O b=some y):∀g,XX E K O' g->XX E K O g:=by
 rintro g (⟨b,hb,hg⟩|hg)
 .obtain⟨x,hx⟩:=bF.1 hb
  obtain⟨y,hy⟩:=h b x hx;exact .inl ⟨b,by simp[hy],hg⟩
 .exact .inr hg
theorem bC.fu{E:Env}{K:KM}{c:aM}{a:Act}{w:World}(h:bC E K c a w){b g:Nat}(hb:(aK c.O b).isSome=true)(hK:aG K b=some g):g<w.heap.size:=by
 obtain⟨x,hx⟩:=bF.1 hb
 rcases h.own b x hx with⟨h1,_⟩|⟨g',h1,aJ,hc,_⟩
 .rw[show aG K b=none from by simp[aG,h1]]at hK;cases hK
 .rw[aU h1]at hK;injection hK with hK;subst hK
  exact hc.lt
theorem bC.uS{E:Env}{K:KM}{c c':aM}{a:Act}{w:World}(h:bC E K c a w)(hf:∀t,lk c'.fr t=lk c.fr t∨lk c'.fr t=.top)
  (hO:∀b x,aK c'.O b=some x->aK c.O b=some x):bC E K c' a w:=by
 have hX:∀g,g<w.heap.size->XX E K c'.O g->XX E K c.O g:=λg _ hg=>XX.sub (λb x hb=>⟨x,hO b x hb⟩) g hg
 have hs:∀b,(aK c'.O b).isSome=true->(aK c.O b).isSome=true:=by
  intro b hb;obtain⟨x,hx⟩:=bF.1 hb;simp[hO b x hx]
 refine⟨h.size,h.defers,h.ext,λt=>?_,λb x hb=>h.aa b x (hO b x hb),λb x hb=>?_,λb b' g h1 h2=>h.inj b b' g (hs b h1) (hs b' h2),λb g h1=>h.fI b g (hs b h1),h.gK⟩
 .rcases hf t with e|e<;>rw[e]
  .exact(h.fr t).sub hX
  .exact FV.top
 .rcases h.own b x (hO b x hb)with h1|⟨g,h1,h2⟩
  .exact .inl h1
  .exact .inr ⟨g,h1,h2.ad rfl (dv.refl _ _) hX (λ_ _ _ _ _ _=>rfl)⟩
theorem bC.U1{E:Env}{K:KM}{c:aM}{a:Act}{w:World}(h:bC E K c a w)(b:Nat):bC E K ⟨iq b c.fr,eS b c.O⟩ a w:=by
 have he:∀i x,aK (eS b c.O) i=some x->∃y,aK c.O i=some y/\x=(match y.kd with|.any=>{y with aa:=kZ b y.aa}|_=>y):=by
  intro i x hx;rw[jL]at hx
  cases hy:aK c.O i with
  |none=>rw[hy]at hx;cases hx
  |some y=>rw[hy]at hx;injection hx with hx;exact⟨y,rfl,hx.symm⟩
 have hX:∀g,g<w.heap.size->XX E K (eS b c.O) g->XX E K c.O g:=λg _ hg=>XX.sub (λi x hi=>let⟨y,hy,_⟩:=he i x hi;⟨y,hy⟩) g hg
 have hs:∀i,(aK (eS b c.O) i).isSome=true->(aK c.O i).isSome=true:=by
  intro i hi;obtain⟨x,hx⟩:=bF.1 hi;obtain⟨y,hy,_⟩:=he i x hx;simp[hy]
 refine⟨h.size,h.defers,h.ext,λt=>?_,λi x hi=>?_,λi x hi=>?_,λb b' g h1 h2=>h.inj b b' g (hs b h1) (hs b' h2),λb g h1=>h.fI b g (hs b h1),h.gK⟩
 .show FV w (XX E K (eS b c.O)) K a.tmps (lk (iq b c.fr) t) _
  rw[uR]
  split
  .exact FV.top
  .exact(h.fr t).sub hX
 .obtain⟨y,hy,rfl⟩:=he i x hi
  have hr:=h.aa i y hy
  cases hk:y.kd<;>simp only
  .exact hr
  .exact hr
  .exact zK hr
  .exact hr
 .obtain⟨y,hy,rfl⟩:=he i x hi
  rcases h.own i y hy with⟨h1,h2⟩|⟨g,h1,h2⟩
  .left
   cases hk:y.kd<;>simp only
   .exact⟨h1,h2⟩
   .exact⟨h1,h2⟩
   .refine⟨h1,?_⟩;rw[h2];rfl
   .exact⟨h1,h2⟩
  .right
   have cz:∀aa:List (List AV),(kZ b aa).length=aa.length:=by
    intro aa
    induction aa with
    |nil=>rfl
    |cons r rs ih=>simp[kZ,ih]
   refine⟨g,by cases hk:y.kd<;>simp only[cz] <;>exact h1,?_⟩;have h3:l8 w (XX E K (eS b c.O)) K g y:=h2.ad rfl (dv.refl _ _) hX (λ_ _ _ _ _ _=>rfl)
   cases hk:y.kd<;>simp only
   .exact h3
   .exact h3
   rotate_left
   .exact h3
   .obtain⟨aJ,hc,hu⟩:=h3
    refine⟨aJ,aV.mk (λ_ _ e=>by cases e) (hc.cells λ_ _ e=>by rw[hk]at e;cases e),λj u hj=>?_⟩;simp only[qN]at hj;obtain⟨u',iG,e⟩:=zJ hj;obtain⟨x,hx,h1,hv⟩:=hu j u' iG;refine⟨x,hx,h1,?_⟩;rw[e]
    split
    .exact .top
    .rw[hk]at hv;exact hv
def pU(K:KM)(b:Nat)(x:Option Nat×Nat):KM:=λi=>if i=b then some x else K i
theorem dF(K:KM)(b:Nat)(x:Option Nat×Nat):pU K b x b=some x:=by simp[pU]
theorem iz(K:KM)(b g m:Nat):aG (pU K b (some g,m)) b=some g:=by simp[aG,pU]
theorem lM(K:KM)(b m:Nat):aG (pU K b (none,m)) b=none:=by simp[aG,pU]
theorem bU(K:KM){b i:Nat}(x:Option Nat×Nat)(h:i≠b):aG (pU K b x) i=aG K i:=by simp[aG,pU,h]
theorem eQ(K:KM){b i:Nat}(x:Option Nat×Nat)(h:i≠b):pU K b x i=K i:=by simp[pU,h]
theorem D7{E:Env}{K:KM}(h:∀b x,E.gK b=some x->K b=some x){b:Nat}{x:Option Nat×Nat}(hb:Nat.ble (b %16) 1=true):∀i y,E.gK i=some y->pU K b x i=some y:=by
 intro i y hy;have h1:=dn (E.yv i y hy);have h2:=dn hb;rw[eQ _ _ (by rintro rfl;omega)];exact h i y hy
theorem bC.rebind{E:Env}{K:KM}{c:aM}{a:Act}{w w':World}{b g:Nat}{ae:ak}(h:bC E K c a w)(H0:Nat.ble (b %16) 1=true)
  (hs:Step (λr=>(aK c.O b).isSome=true/\aG K b=some r) w w')
  (jF:∀t,(lk c.fr t).has b=false)(hO:∀i x,aK c.O i=some x->i≠b->x.kd=.any->cw b x.aa=false)
  (hg:w.heap.size<=g∨((aK c.O b).isSome=true/\aG K b=some g))(cP:∀row∈ae.aa,row.length=ae.sz)
  (gx:l8 w' (XX E (pU K b (some g,ae.aa.length)) (di b ae c.O)) (pU K b (some g,ae.aa.length)) g ae):bC E (pU K b (some g,ae.aa.length)) ⟨c.fr,di b ae c.O⟩ a w':=by
 have hX:∀r,r<w.heap.size->XX E (pU K b (some g,ae.aa.length)) (di b ae c.O) r->XX E K c.O r:=by
  rintro r hr (⟨i,hi,hk⟩|hx)
  .by_cases e:i=b
   .subst e
    rw[iz]at hk;injection hk with hk;subst hk
    rcases hg with hg|⟨h1,h2⟩
    .omega
    .exact .inl ⟨i,h1,h2⟩
   .rw[bU _ _ e]at hk
    rw[ba,if_neg (λe'=>e e'.symm)]at hi;exact .inl ⟨i,hi,hk⟩
  .exact .inr hx
 have dR:dv (XX E K c.O) w w':=hs.ad.mono λr _ ⟨h1,h2⟩=>.inl ⟨b,h1,h2⟩
 refine⟨h.size,h.defers,h.ext.step hs (λr ⟨h1,h2⟩=>h.fI b r h1 h2),λt=>(h.fr t).ad dR hX λi hi=>?_,λi x hi=>?_,λi x hi=>?_,λi i' r h1 h2 k1 k2=>?_,λi r h1 k1=>?_,D7 h.gK H0⟩
 .by_cases e:i=b
  .subst e;rw[jF t]at hi;cases hi
  .exact eQ _ _ e
 .simp only[ba]at hi
  by_cases e:b=i
  .rw[if_pos e]at hi;injection hi with hi;subst hi;exact cP
  .rw[if_neg e]at hi;exact h.aa i x hi
 .simp only[ba]at hi
  by_cases e:b=i
  .rw[if_pos e]at hi;injection hi with hi;subst hi;subst e
   exact .inr ⟨g,dF _ _ _,gx⟩
  .rw[if_neg e]at hi
   have hib:(aK c.O i).isSome=true:=by simp[hi]
   rcases h.own i x hi with⟨h1,h2⟩|⟨r,h1,h2⟩
   .exact .inl ⟨by rw[eQ _ _ (λe'=>e e'.symm)];exact h1,h2⟩
   .refine .inr ⟨r,by rw[eQ _ _ (λe'=>e e'.symm)];exact h1,h2.ad ?_ dR hX λhk j u b' hj hu=>?_⟩
    .exact hs.ad.block r (h.fu hib (aU h1)) λ⟨k1,k2⟩=>e (h.inj b i r k1 hib k2 (aU h1))
    .by_cases e':b'=b
     .subst e'
      rw[iM (hO i x hi (λBV=>e BV.symm) hk) hj]at hu;cases hu
     .exact eQ _ _ e'
 .simp only[ba]at h1 h2
  by_cases e:i=b<;>by_cases e':i'=b
  .rw[e,e']
  .subst e
   rw[iz]at k1;injection k1 with k1;subst k1
   rw[bU _ _ e']at k2;rw[if_neg (λBV=>e' BV.symm)]at h2
   rcases hg with hg|⟨j1,j2⟩
   .have:=h.fu h2 k2;omega
   .exact h.inj i i' g j1 h2 j2 k2
  .subst e'
   rw[iz]at k2;injection k2 with k2;subst k2
   rw[bU _ _ e]at k1;rw[if_neg (λBV=>e BV.symm)]at h1
   rcases hg with hg|⟨j1,j2⟩
   .have:=h.fu h1 k1;omega
   .exact h.inj i i' g h1 j1 k1 j2
  .rw[bU _ _ e]at k1
   rw[bU _ _ e']at k2;rw[if_neg (λBV=>e BV.symm)]at h1;rw[if_neg (λBV=>e' BV.symm)]at h2;exact h.inj i i' r h1 h2 k1 k2
 .simp only[ba]at h1
  by_cases e:i=b
  .subst e
   rw[iz]at k1;injection k1 with k1;subst k1
   rcases hg with hg|⟨j1,j2⟩
   .exact .inr (du h.ext.size hg)
   .exact h.fI i g j1 j2
  .rw[bU _ _ e]at k1
   rw[if_neg (λBV=>e BV.symm)]at h1;exact h.fI i r h1 k1
theorem bC.oI{E:Env}{K:KM}{c:aM}{a:Act}{w:World}{b:Nat}{ae:ak}(h:bC E K c a w)(H0:Nat.ble (b %16) 1=true)
  (jF:∀t,(lk c.fr t).has b=false)(hO:∀i x,aK c.O i=some x->i≠b->x.kd=.any->cw b x.aa=false)
  (cP:ae.aa=[]):bC E (pU K b (none,0)) ⟨c.fr,di b ae c.O⟩ a w:=by
 have hX:∀r,r<w.heap.size->XX E (pU K b (none,0)) (di b ae c.O) r->XX E K c.O r:=by
  rintro r hr (⟨i,hi,hk⟩|hx)
  .by_cases e:i=b
   .subst e;rw[lM]at hk;cases hk
   .rw[bU _ _ e]at hk
    rw[ba,if_neg (λe'=>e e'.symm)]at hi;exact .inl ⟨i,hi,hk⟩
  .exact .inr hx
 refine⟨h.size,h.defers,h.ext,λt=>(h.fr t).ad (dv.refl _ _) hX λi hi=>?_,λi x hi=>?_,λi x hi=>?_,λi i' r h1 h2 k1 k2=>?_,λi r h1 k1=>?_,D7 h.gK H0⟩
 .by_cases e:i=b
  .subst e;rw[jF t]at hi;cases hi
  .exact eQ _ _ e
 .simp only[ba]at hi
  by_cases e:b=i
  .rw[if_pos e]at hi;injection hi with hi;subst hi;rw[cP];simp
  .rw[if_neg e]at hi;exact h.aa i x hi
 .simp only[ba]at hi
  by_cases e:b=i
  .rw[if_pos e]at hi;injection hi with hi;subst hi;subst e
   exact .inl ⟨dF _ _ _,cP⟩
  .rw[if_neg e]at hi
   rcases h.own i x hi with⟨h1,h2⟩|⟨r,h1,h2⟩
   .exact .inl ⟨by rw[eQ _ _ (λe'=>e e'.symm)];exact h1,h2⟩
   .refine .inr ⟨r,by rw[eQ _ _ (λe'=>e e'.symm)];exact h1,h2.ad rfl (dv.refl _ _) hX λhk j u b' hj hu=>?_⟩
    by_cases e':b'=b
    .subst e'
     rw[iM (hO i x hi (λBV=>e BV.symm) hk) hj]at hu;cases hu
    .exact eQ _ _ e'
 .simp only[ba]at h1 h2
  have e:i≠b:=by rintro rfl;rw[lM]at k1;cases k1
  have e':i'≠b:=by rintro rfl;rw[lM]at k2;cases k2
  rw[bU _ _ e]at k1;rw[bU _ _ e']at k2;rw[if_neg (λBV=>e BV.symm)]at h1;rw[if_neg (λBV=>e' BV.symm)]at h2;exact h.inj i i' r h1 h2 k1 k2
 .simp only[ba]at h1
  have e:i≠b:=by rintro rfl;rw[lM]at k1;cases k1
  rw[bU _ _ e]at k1;rw[if_neg (λBV=>e BV.symm)]at h1;exact h.fI i r h1 k1
theorem bC.write{E:Env}{K:KM}{c:aM}{a:Act}{w w':World}{b g:Nat}{ae BW:ak}(h:bC E K c a w)(hb:aK c.O b=some BW)(hK:aG K b=some g)(cz:ae.aa.length=BW.aa.length)
  (hs:Step (λr=>r=g) w w')(cP:∀row∈ae.aa,row.length=ae.sz)
  (gx:l8 w' (XX E K c.O) K g ae):bC E K ⟨c.fr,di b ae c.O⟩ a w':=by
 have H2:(aK c.O b).isSome=true:=by simp[hb]
 have hX:∀r,XX E K (di b ae c.O) r->XX E K c.O r:=by
  rintro r (⟨i,hi,hk⟩|hx)
  .by_cases e:i=b
   .subst e;exact .inl ⟨i,H2,hk⟩
   .rw[ba,if_neg (λe'=>e e'.symm)]at hi
    exact .inl ⟨i,hi,hk⟩
  .exact .inr hx
 have dR:dv (XX E K c.O) w w':=hs.ad.mono λr _ hr=>.inl ⟨b,H2,by rw[hr];exact hK⟩
 have dB:∀i,(aK (di b ae c.O) i).isSome=true->(aK c.O i).isSome=true:=by
  intro i hi;rw[ba]at hi
  by_cases e:b=i
  .subst e;exact H2
  .rw[if_neg e]at hi;exact hi
 refine⟨h.size,h.defers,h.ext.step hs (λr hr=>by subst hr;exact h.fI b r H2 hK),λt=>(h.fr t).ad dR (λr _=>hX r) λi hi=>rfl,λi x hi=>?_,λi x hi=>?_,
  λi i' r h1 h2 k1 k2=>h.inj i i' r (dB i h1) (dB i' h2) k1 k2,λi r h1 k1=>h.fI i r (dB i h1) k1,h.gK⟩
 .simp only[ba]at hi
  by_cases e:b=i
  .rw[if_pos e]at hi;injection hi with hi;subst hi;exact cP
  .rw[if_neg e]at hi;exact h.aa i x hi
 .simp only[ba]at hi
  by_cases e:b=i
  .rw[if_pos e]at hi;injection hi with hi;subst hi;subst e
   have hKr:K b=some (some g,ae.aa.length):=by
    rcases h.own b BW hb with⟨h1,_⟩|⟨g',h1,_⟩
    .rw[show aG K b=none from by simp[aG,h1]]at hK;cases hK
    .rw[aU h1]at hK;injection hK with hK;subst hK;rw[cz];exact h1
   exact .inr ⟨g,hKr,gx.ad rfl (dv.refl _ _) (λr _=>hX r) (λ_ _ _ _ _ _=>rfl)⟩
  .rw[if_neg e]at hi
   rcases h.own i x hi with h1|⟨r,h1,h2⟩
   .exact .inl h1
   .exact .inr ⟨r,h1,h2.ad (hs.ad.block r (h.fu (by simp[hi]) (aU h1)) λhr=>e (h.inj b i g H2 (by simp[hi]) hK (by rw[<-hr];exact aU h1))) dR (λr _=>hX r) (λ_ _ _ _ _ _=>rfl)⟩
theorem bC.move{E:Env}{K:KM}{c:aM}{a:Act}{w w':World}(h:bC E K c a w)(hs:Step (λ_=>False) w w'):bC E K c a w':=by
 have dR:dv (XX E K c.O) w w':=hs.ad.mono λ_ _ hr=>hr.elim
 refine⟨h.size,h.defers,h.ext.step hs (λr hr=>hr.elim),λt=>(h.fr t).ad dR (λ_ _ h=>h) λ_ _=>rfl,h.aa,λi x hi=>?_,h.inj,h.fI,h.gK⟩
 rcases h.own i x hi with h1|⟨r,h1,h2⟩
 .exact .inl h1
 .exact .inr ⟨r,h1,h2.ad (hs.ad.block r (h.fu (by simp[hi]) (aU h1)) (λh=>h)) dR (λ_ _ h=>h) (λ_ _ _ _ _ _=>rfl)⟩
theorem FX{d:Nat}:∀{fr:List (Nat×AV)}{t d':Nat}{bf:Bool}{v:AV},iL d fr=true->lk fr t=.opt d' bf v->d'≠d
 |[],t,d',bf,v,_,h=>by simp[lk]at h
 |(i,u)::r,t,d',bf,v,h,hl=>by
  rw[gC]at hl;unfold iL at h
  by_cases e:i=t
  .rw[if_pos e]at hl
   subst hl;simp only at h
   split at h
   .cases h
   .rename_i hb;exactλe'=>beq_false hb e'.symm
  .rw[if_neg e]at hl
   refine FX ?_ hl
   cases u<;>simp only at h<;>first|exact h|skip
   split at h
   .cases h
   .exact h
theorem bC.put{E:Env}{K:KM}{c:aM}{a:Act}{w:World}(h:bC E K c a w){dst:Option Nat}(hd:fg E.N c dst=true){u:AV}{v:Value}
  (hu:∀d,dst=some d->FV w (XX E K c.O) K (a.put dst v).tmps u v):bC E K ⟨qi dst u c.fr,c.O⟩ (a.put dst v) w:=by
 cases dst with
 |none=>exact h
 |some d=>
  simp only[fg,aA]at hd;have aC:d<a.tmps.size:=by rw[h.size];exact dn hd.1
  have hu:=hu d rfl;refine⟨by simp[Act.put,h.size],h.defers,h.ext,λt=>?_,h.aa,h.own,h.inj,h.fI,h.gK⟩
  show FV w (XX E K c.O) K (a.tmps.setIfInBounds d v) (lk ((d,u)::c.fr) t) ((a.tmps.setIfInBounds d v).getD t undef)
  rw[gC]
  by_cases e:d=t
  .subst e
   rw[if_pos rfl];have:(a.tmps.setIfInBounds d v).getD d undef=v:=by simp[Array.getD,aC]
   rw[this];exact hu
  .rw[if_neg e]
   have gy:∀s,s≠d->(a.tmps.setIfInBounds d v).getD s undef=a.tmps.getD s undef:=by
    intro s hs;simp[dI,Ne.symm hs]
   rw[gy t (λe'=>e e'.symm)];have hf:=h.fr t
   cases hl:lk c.fr t with
   |opt d' bf u'=>
    have dW:=FX hd.2 hl;rw[hl]at hf;simp only[FV]at hf⊢;rw[gy d' dW];exact hf
   |_=>rw[hl]at hf;exact hf
def AV.toV:AV->Value
 |.int k n=>.int k n
 |.bool b=>.bool b
 |.str s=>.string s
 |_=>undef
def D8(P:Program)(t:Nat)(UW:List CK):Prop:=
 P.eqGuardType P.depth t=false/\∀(w:World)(us vs:List AV),gV UW us=true->gV UW vs=true->
  (Op.equalIn 10000 t (.agg (us.map AV.toV).toArray) (.agg (vs.map AV.toV).toArray)).run P w=.ok (HY us vs) w
def br(P:Program):dD->Prop
 |[]=>True
 |(t,i)::r=>((P.underlying t).map tG.of=some i.k/\(P.info? t).map (λj=>(j.zero,j.size,j.bytes))=some (some i.zero,i.size,i.bytes)/\(i.eq≠ [] ->D8 P t i.eq))/\br P r
theorem br.get{P:Program}:∀{T:dD}{t:Nat}{i:JM},br P T->T.get t=some i->
  (∃d,P.underlying t=some d/\tG.of d=i.k)/\(∃j,P.info? t=some j/\j.zero=some i.zero/\j.size=i.size/\j.bytes=i.bytes)/\(i.eq≠ [] ->D8 P t i.eq)
 |[],_,_,_,h=>by simp[dD.get]at h
 |(s,x)::r,t,i,⟨⟨h1,h2,h3⟩,hr⟩,h=>by
  unfold dD.get at h
  split at h
  .rename_i e
   have:=beq_true e;subst this;injection h with h
   subst h;refine⟨?_,?_,h3⟩
   .cases hu:P.underlying s with
    |none=>rw[hu]at h1;cases h1
    |some d=>rw[hu]at h1;injection h1 with h1;exact⟨d,rfl,h1⟩
   .cases hu:P.info? s with
    |none=>rw[hu]at h2;cases h2
    |some d=>rw[hu]at h2;simp at h2;exact⟨d,rfl,h2⟩
  .exact br.get hr h
def aM.BJ(c:aM)(r:iS):aM:=
 match r.pg,r.nw with
 |none,_=>⟨c.fr,im r.D c.O⟩
 |some b,false=>⟨iq b c.fr,im r.D (eS b c.O)⟩
 |some b,true=>⟨c.fr,im r.D (iC b c.O)⟩
theorem aM.Xj(c:aM)(dst:Option Nat)(r:iS):c.app dst r=⟨qi dst r.v (c.BJ r).fr,(c.BJ r).O⟩:=by
 unfold aM.app aM.BJ
 cases r.pg<;>cases r.nw<;>rfl
def bA(E:Env)(c:aM)(r:iS)(a:Act)(dst:Option Nat)(a':Act)(w':World):Prop:=
 ∃K' vv,a'=a.put dst vv/\bC E K' (c.BJ r) a w'/\VR w' (XX E K' (c.BJ r).O) K' r.v vv
def kK:Exit->Act->World->Prop:=λ_ _ _=>False
section
variable{w:World} {X:Nat->Prop} {K:KM} {v:Value}
theorem VR.jA{k:IntKind}{n:Int}(h:VR w X K (.int k n) v):v=.int k n:=by cases h;rfl
theorem VR.jn{b:Bool}(h:VR w X K (.bool b) v):v=.bool b:=by cases h;rfl
theorem VR.gD{s:ByteArray}(h:VR w X K (.str s) v):v=.string s:=by cases h;rfl
theorem VR.R7(h:VR w X K .o9 v):v=undef:=by cases h;rfl
theorem VR.D9(h:VR w X K .nU v):∃A cap,v=.slice (some A) 0 cap:=by cases h;exact⟨_,_,rfl⟩
theorem VR.fC(h:VR w X K .ai v):v=.slice none 0 0:=by cases h;rfl
theorem VR.mC{xs:List AV}(h:VR w X K (.agg xs) v):∃vs:Array Value,v=.agg vs/\xs.length=vs.size/\(∀(j:Nat) c,vs[j]?=some c->c.oneCell'=true)/\∀(j:Nat) u c,xs[j]?=some u->vs[j]?=some c->VR w X K u c:=by
 cases h with|agg h1 h2 h3=>exact⟨_,rfl,h1,h2,h3⟩
theorem VR.yL{xs:List AV}(h:VR w X K (.bY xs) v):∃vs:Array Value,v=.tuple vs/\xs.length=vs.size/\∀(j:Nat) u c,xs[j]?=some u->vs[j]?=some c->VR w X K u c:=by
 cases h with|bY h1 h2=>exact⟨_,rfl,h1,h2⟩
theorem VR.fJ{f:FuncId}{xs:List AV}(h:VR w X K (.func f xs) v):∃vs:Array Value,v=.func (.func f) #[] vs/\xs.length=vs.size/\∀(j:Nat) u c,xs[j]?=some u->vs[j]?=some c->VR w X K u c:=by
 cases h with|func h1 h2=>exact⟨_,rfl,h1,h2⟩
theorem VR.pq{sz n:Nat}{aa:List (List AV)}(h:VR w X K (.aL sz n aa) v):∃A cap,v=.slice A n cap/\n=aa.length/\(∀row∈aa,row.length=sz)/\n<=cap/\(A=none->cap=0)/\
  ∃cs:List Value,cs.length=aa.flatten.length/\(∀c∈cs,c.oneCell'=true)/\(aa≠ [] ->∃g o,A=some ⟨g,o,none⟩/\g<w.heap.size/\¬X g/\∀(j:Nat) c,cs[j]?=some c->w.cell? ⟨g,o+j,none⟩=some c)/\
   (∀(j:Nat) u c,aa.flatten[j]?=some u->cs[j]?=some c->VR w X K0 u c):=by
 cases h with|aL h1 h2 h3 h4 h5 h6 h7 h8=>exact⟨_,_,rfl,h1,h2,h3,h4,_,h5,h6,h7,h8⟩
theorem VR.uT{xs:List AV}{off:Nat}(h:VR w X K (.aw xs off) v):∃g o,v=.pointer (some ⟨g,o+off,none⟩)/\g<w.heap.size/\¬X g/\
  ∃cs:List Value,cs.length=xs.length/\(∀c∈cs,c.oneCell'=true)/\(∀(j:Nat) c,cs[j]?=some c->w.cell? ⟨g,o+j,none⟩=some c)/\(∀(j:Nat) u c,xs[j]?=some u->cs[j]?=some c->VR w X K0 u c):=by
 cases h with|aw h1 h2 h3 h4 h5 h6=>exact⟨_,_,rfl,h3,h4,_,h1,h2,h5,h6⟩
theorem VR.c9{b sz n:Nat}(h:VR w X K (.bn b sz n) v):(K b=some (none,0)/\n=0/\v=.slice none 0 0)∨
  ∃(g cap:Nat)(aJ:Array Value)(e m:Nat),K b=some (some g,m)/\n<=m/\v=.slice (some ⟨g,0,none⟩) n cap/\w.heap[g]?=some (.cells aJ e (0,0))/\n<=cap/\cap<=maxLen/\cap*sz=aJ.size:=by
 cases h with
 |bn h1 h0 h2 h3 h4 h5=>exact .inr ⟨_,_,_,_,_,h1,h0,rfl,h2,h3,h4,h5⟩
 |fE h1=>exact .inl ⟨h1,rfl,rfl⟩
theorem VR.qO{b sz lo n:Nat}(h:VR w X K (.dq b sz lo n) v):∃A cap,v=.slice A n cap/\(0<n->∃g m,K b=some (some g,m)/\lo+n<=m/\A=some ⟨g,lo*sz,none⟩):=by
 cases h with|dq h1 _=>exact⟨_,_,rfl,h1⟩
theorem VR.Cs{b sz lo n:Nat}(h:VR w X K (.dq b sz lo n) v):∃A cap,v=.slice A n cap/\(0<n->∃g m,K b=some (some g,m)/\lo+n<=m/\A=some ⟨g,lo*sz,none⟩)/\
  (0<n->n<=cap/\cap<=maxLen/\∃g o aJ e,A=some ⟨g,o,none⟩/\w.heap[g]?=some (.cells aJ e (0,0))/\o+cap*sz=aJ.size):=by
 cases h with|dq h1 h2=>exact⟨_,_,rfl,h1,h2⟩
theorem VR.jo{b off:Nat}(h:VR w X K (.af b off) v):∃g,aG K b=some g/\v=.pointer (some ⟨g,off,none⟩):=by
 cases h with|af h1=>exact⟨_,h1,rfl⟩
theorem VR.uU{b sz i off:Nat}(h:VR w X K (.dP b sz i off) v):∃g,aG K b=some g/\v=.pointer (some ⟨g,i*sz+off,none⟩):=by
 cases h with|dP h1=>exact⟨_,h1,rfl⟩
theorem VR.oJ{b:Nat}(h:VR w X K (.dX b) v):∃g,aG K b=some g/\v=.map (some g):=by
 cases h with|dX h1=>exact⟨_,h1,rfl⟩
theorem VR.zL{ag st:Bool}{sz:Nat}{aa:List (List AV)}(h:VR w X K (.iB ag st sz aa) v):∃g,v=.map (some g)/\g<w.heap.size/\¬X g/\(∀row∈aa,row.length=sz/\tE st row=true)/\∃cs,tF w g ag st sz cs/\cs.length=aa.flatten.length/\(∀c∈cs,c.oneCell'=true)/\∀(j:Nat) u c,aa.flatten[j]?=some u->cs[j]?=some c->VR w X K0 u c:=by
 cases h with|iB h1 h2 h3 h4 h5 h6 h7=>exact⟨_,rfl,h2,h3,h4,_,h1,h5,h6,h7⟩
end
section
variable{P:Program} {T:dD} {E:Env} {K:KM} {c:aM} {a:Act} {w:World} {o:Oper} {r:iS} {val:Operand->AV}
theorem aT(hs:bC E K c a w){vv:Value}{v:AV}(Ck:(execOp a.eval o).run P w=.ok (.value vv) w)(hr:{v:=v}=r)(hv:VR w (XX E K c.O) K v vv):
  o.wp P a w (bA E c r a o.dst) kK:=by
 subst hr;unfold Oper.wp;rw[Ck];exact⟨K,vv,rfl,hs,hv⟩
theorem aN{v:AV}{r:iS}(h:(bu v).holds P (· =r)):{v:=v}=r:=h
theorem lN{k:IntKind}{n:Int}{f:Int->AV}{r:iS}(h:(qG k n λm=>bu (f m)).holds P (· =r)):{v:=f (k.wrap n)}=r:=by
 obtain⟨m,rfl,h⟩:=h;exact h
def ey(E:Env)(K:KM)(c:aM)(a:Act)(w:World)(val:Operand->AV):Prop:=∀x,FV w (XX E K c.O) K a.tmps (val x) (a.eval x)
theorem ey.at(az:ey E K c a w val){x:Operand}{u:AV}(h:val x=u):FV w (XX E K c.O) K a.tmps u (a.eval x):=by rw[<-h];exact az x
theorem ey.int(az:ey E K c a w val){x:Operand}{k:IntKind}{n:Int}(h:val x=.int k n):a.eval x=.int k n:=VR.jA (az.at h)
theorem ey.bool(az:ey E K c a w val){x:Operand}{b:Bool}(h:val x=.bool b):a.eval x=.bool b:=VR.jn (az.at h)
theorem xC(az:ey E K c a w val){d:Nat}{bf:Bool}{x:Operand}(hd:a.tmps.getD d undef=.bool bf):FV w (XX E K c.O) K a.tmps ((val x).strip d bf) (a.eval x):=by
 cases hx:val x with
 |opt d' w' v=>
  have h:=az.at hx;unfold AV.strip;simp only
  split
  .rename_i h1
   have:=beq_true h1;subst this
   rcases h with⟨_,h⟩|⟨h,_⟩
   .exact FV.of h
   .exact absurd hd h
  .rename_i h1
   have:=beq_true h1;subst this
   rcases h with⟨_,h⟩|⟨h,_⟩
   .exact FV.of h
   .exact absurd hd h
  .exact h
 |_=>exact az.at hx
theorem NL(hs:bC E K c a w)(az:ey E K c a w val){x:Operand}(ho:o.op=.move x∨o.op=.assign x)(h:(bu (val x).oF).holds P (· =r)):o.wp P a w (bA E c r a o.dst) kK:=
 aT hs (vv:=a.eval x) (by rcases ho with ho|ho<;>simp[execOp,ho]) (aN h) (az x).oF
theorem aaz(hs:bC E K c a w)(az:ey E K c a w val){d:Nat}{x:Operand}(ho:o.op=.pick (.tmp d) x (.const (.bool false)))
  (h:jh.holds P (match val (.tmp d),(val x).strip d true with
   |.bool t,.bool x=>bu (.bool (t&&x))
   |.bool false,_=>bu (.bool false)
   |_,_=>.no) (· =r)):o.wp P a w (bA E c r a o.dst) kK:=by
 split at h
 .rename_i t xb h1 h2
  have e1:=az.bool h1;refine aT hs (vv:=.bool (t&&xb)) ?_ (aN h) .bool
  cases t
  .simp only[execOp,ho,e1];simp[asBool,Act.eval]
  .have:=xC az (x:=x) (d:=d) (bf:=true) e1
   rw[h2]at this;have e2:=VR.jn this;simp only[execOp,ho,e1,e2];simp[asBool]
 .rename_i h1 h2
  have e1:=az.bool h1;refine aT hs (vv:=.bool false) ?_ (aN h) .bool;simp only[execOp,ho,e1];simp[asBool,Act.eval]
 .exact h.elim
theorem ahv(hs:bC E K c a w)(az:ey E K c a w val){d:Nat}{x:Operand}(ho:o.op=.pick (.tmp d) (.const (.bool true)) x)
  (h:jh.holds P (match val (.tmp d),(val x).strip d false with
   |.bool t,.bool x=>bu (.bool (t||x))
   |.bool true,_=>bu (.bool true)
   |_,_=>.no) (· =r)):o.wp P a w (bA E c r a o.dst) kK:=by
 split at h
 .rename_i t xb h1 h2
  have e1:=az.bool h1;refine aT hs (vv:=.bool (t||xb)) ?_ (aN h) .bool
  cases t
  .have:=xC az (x:=x) (d:=d) (bf:=false) e1
   rw[h2]at this;have e2:=VR.jn this;simp only[execOp,ho,e1,e2];simp[asBool]
  .simp only[execOp,ho,e1];simp[asBool,Act.eval]
 .rename_i h1 h2
  have e1:=az.bool h1;refine aT hs (vv:=.bool true) ?_ (aN h) .bool;simp only[execOp,ho,e1];simp[asBool,Act.eval]
 .exact h.elim
theorem aaA(hs:bC E K c a w)(az:ey E K c a w val){t:TypeId}{x:Operand}(ho:o.op=.unOp .not t x)(h:jh.holds P (match val x with|.bool b=>bu (.bool !b)|_=>.no) (· =r)):o.wp P a w (bA E c r a o.dst) kK:=by
 split at h
 .rename_i b h1
  have e1:=az.bool h1;exact aT hs (vv:=.bool !b) (by simp only[execOp,ho,e1];simp[Op.unary]) (aN h) .bool
 .exact h.elim
theorem aaB(hs:bC E K c a w)(az:ey E K c a w val){t:TypeId}{x:Operand}(ho:o.op=.unOp .neg t x)(h:jh.holds P (match val x with|.int k n=>qG k (0-n) λm=>bu (.int k m)|_=>.no) (· =r)):o.wp P a w (bA E c r a o.dst) kK:=by
 split at h
 .rename_i k n h1
  have e1:=az.int h1;exact aT hs (vv:=.int k (k.wrap (0-n))) (by simp only[execOp,ho,e1];simp[Op.unary,Op.intArith]) (lN (f:=λm=>.int k m) h) .int
 .exact h.elim
theorem aaC(hs:bC E K c a w)(az:ey E K c a w val){t:TypeId}{x:Operand}(ho:o.op=.unOp .xor t x)(h:jh.holds P (match val x with|.int k n=>.Rr λm=>.eg (bits .xor k (if k.signed then-1 else k.max) n=m) (bu (.int k m))|_=>.no) (· =r)):o.wp P a w (bA E c r a o.dst) kK:=by
 split at h
 .rename_i k n h1
  obtain⟨m,rfl,h⟩:=h;have e1:=az.int h1;exact aT hs (vv:=.int k (bits .xor k (if k.signed then-1 else k.max) n)) (by simp only[execOp,ho,e1];simp[Op.unary,intBits_xor]) (aN h) .int
 .exact h.elim
theorem Ea(hs:bC E K c a w){op:BinOp}{t t':TypeId}{x y:Operand}(ho:o.op=.binOp op t x y t'){k:IntKind}{m n:Int}(h1:a.eval x=.int k m)(h2:a.eval y=.int k n)
  (h:(H9 op k m n).holds P (· =r)):o.wp P a w (bA E c r a o.dst) kK:=by
 have key:∀(vv:Value),(binOp op t (.int k m) (.int k n)).run P w=.ok vv w->(execOp a.eval o).run P w=.ok (.value vv) w:=by
  intro vv hb;have hg:(eqGuard op t x y (.int k m) (.int k n)).run P w=.ok () w:=by
   unfold eqGuard
   split<;>rfl
  simp only[execOp,ho,h1,h2,Sem.run_bind,hg,hb,Result.andThen_ok,Sem.run_pure]
 cases op<;>simp only[H9]at h
 case add=>exact aT hs (vv:=.int k (k.wrap (m+n))) (key _ (by simp[binOp,Op.intArith])) (lN (f:=λm=>.int k m) h) .int
 case sub=>exact aT hs (vv:=.int k (k.wrap (m-n))) (key _ (by simp[binOp,Op.intArith])) (lN (f:=λm=>.int k m) h) .int
 case mul=>exact aT hs (vv:=.int k (k.wrap (m*n))) (key _ (by simp[binOp,Op.intArith])) (lN (f:=λm=>.int k m) h) .int
 case quo=>
  obtain⟨h0,h⟩:=h;exact aT hs (vv:=.int k (k.wrap (m.tdiv n))) (key _ (by simp[binOp,Op.intDiv,h0])) (lN (f:=λm=>.int k m) h) .int
 case rem=>
  obtain⟨h0,h⟩:=h;exact aT hs (vv:=.int k (m.tmod n)) (key _ (by simp[binOp,Op.intDiv,h0])) (aN h) .int
 case eql=>exact aT hs (vv:=.bool (m==n)) (key _ (by simp[binOp,Op.intCmp])) (aN h) .bool
 case neq=>exact aT hs (vv:=.bool (m !=n)) (key _ (by simp[binOp,Op.intCmp])) (aN h) .bool
 case lss=>exact aT hs (vv:=.bool (decide (m<n))) (key _ (by simp[binOp,Op.intCmp])) (aN h) .bool
 case leq=>exact aT hs (vv:=.bool (decide (m<=n))) (key _ (by simp[binOp,Op.intCmp])) (aN h) .bool
 case gtr=>exact aT hs (vv:=.bool (decide (m>n))) (key _ (by simp[binOp,Op.intCmp])) (aN h) .bool
 case geq=>exact aT hs (vv:=.bool (decide (m>=n))) (key _ (by simp[binOp,Op.intCmp])) (aN h) .bool
 case shl=>
  obtain⟨⟨h0,h1⟩,h⟩:=h;exact aT hs (vv:=.int k (k.wrap (m*2^n.toNat))) (key _ (by simp only[binOp];rw[shift_shl k k m n h0 h1];rfl)) (lN (f:=λm=>.int k m) h) .int
 case shr=>
  obtain⟨⟨h0,h1⟩,h⟩:=h;exact aT hs (vv:=.int k (m/2^n.toNat)) (key _ (by simp only[binOp];rw[shift_shr k k m n h0 h1];rfl)) (aN h) .int
 case and=>
  obtain⟨x,rfl,h⟩:=h;exact aT hs (vv:=.int k (bits .and k m n)) (key _ (by simp[binOp,intBits_and])) (aN h) .int
 case or=>
  obtain⟨x,rfl,h⟩:=h;exact aT hs (vv:=.int k (bits .or k m n)) (key _ (by simp[binOp,intBits_or])) (aN h) .int
 case xor=>
  obtain⟨x,rfl,h⟩:=h;exact aT hs (vv:=.int k (bits .xor k m n)) (key _ (by simp[binOp,intBits_xor])) (aN h) .int
 case andNot=>
  obtain⟨x,rfl,h⟩:=h;exact aT hs (vv:=.int k (bits .andNot k m n)) (key _ (by simp[binOp,intBits_andNot])) (aN h) .int
theorem Eb(hs:bC E K c a w){op:BinOp}{t t':TypeId}{x y:Operand}(ho:o.op=.binOp op t x y t'){k k':IntKind}{m n:Int}(h1:a.eval x=.int k m)(h2:a.eval y=.int k' n)
  (h:(Ia op k m n).holds P (· =r)):o.wp P a w (bA E c r a o.dst) kK:=by
 have key:∀(vv:Value),(binOp op t (.int k m) (.int k' n)).run P w=.ok vv w->(execOp a.eval o).run P w=.ok (.value vv) w:=by
  intro vv hb;have hg:(eqGuard op t x y (.int k m) (.int k' n)).run P w=.ok () w:=by
   unfold eqGuard
   split<;>rfl
  simp only[execOp,ho,h1,h2,Sem.run_bind,hg,hb,Result.andThen_ok,Sem.run_pure]
 cases op<;>simp only[Ia]at h
 case shl=>
  obtain⟨⟨h0,h1⟩,h⟩:=h;exact aT hs (vv:=.int k (k.wrap (m*2^n.toNat))) (key _ (by simp only[binOp];rw[shift_shl k k' m n h0 h1];rfl)) (lN (f:=λm=>.int k m) h) .int
 case shr=>
  obtain⟨⟨h0,h1⟩,h⟩:=h;exact aT hs (vv:=.int k (m/2^n.toNat)) (key _ (by simp only[binOp];rw[shift_shr k k' m n h0 h1];rfl)) (aN h) .int
 all_goals exact h.elim
theorem zM:∀{UW:List CK}{xs:List AV}{vs:List Value},gV UW xs=true->xs.length=vs.length->(∀(j:Nat) u v,xs[j]?=some u->vs[j]?=some v->VR w (XX E K c.O) K u v)->vs=xs.map AV.toV
 |[],[],[],_,_,_=>rfl
 |ck::UW,u::us,v::vs,hf,hl,hv=>by
  simp only[gV,aA]at hf;have h0:=hv 0 u v (by simp) (by simp);have ih:=zM hf.2 (by simpa using hl) (λj u' v' h1 h2=>hv (j+1) u' v' (by simpa using h1) (by simpa using h2));rw[ih,cU]
  congr 1
  cases ck<;>cases u<;>simp[CK.fits]at hf
  .exact VR.jA h0
  .exact VR.jn h0
  .exact VR.gD h0
 |[],_::_,_,h,_,_=>by simp[gV]at h
 |_::_,[],_,h,_,_=>by simp[gV]at h
 |[],[],_::_,_,h,_=>by simp at h
 |_::_,_::_,[],_,h,_=>by simp at h
end
end Go.an
