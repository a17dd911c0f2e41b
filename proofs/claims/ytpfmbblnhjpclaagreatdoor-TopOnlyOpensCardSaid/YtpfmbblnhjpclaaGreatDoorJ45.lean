import Derived.Test.YtpfmbblnhjpclaaGreatDoorJ44
import Derived.Test.YtpfmbblnhjpclaaGreatDoorRows
import Derived.ProofKit
import Derived.LaidMore
import Derived.OpenShut
import Derived.Stop.Joined
import Derived.Stop.LaidErr
import Derived.Lib.LaidTab
import Derived.HandedShaped
import Derived.Test.YtpfmbblnhjpclaaGreatDoorJ14
import Derived.Test.YtpfmbblnhjpclaaGreatDoorTie
import Derived.Test.YtpfmbblnhjpclaaGreatDoorCards
import Derived.Test.YtpfmbblnhjpclaaGreatDoorJ24
set_option linter.unusedVariables false
set_option linter.unusedSimpArgs false
set_option maxRecDepth 100000
namespace Go.an.ax.G
open Go Go.an Go.an.Day Go.Proofs Go.RowKit
theorem DV{a:Int}(h1: -9223372036854775808<=a)(h2:a<=9223372036854775807):0<=tJ a (IntKind.i64.wrap (0-IntKind.i64.wrap (a+1))):=by
 unfold tJ
 by_cases h:a<0
 .rw[ah (x:=a+1),ah (x:=0-(a+1))]
  split<;>omega
 .split<;>omega
abbrev s0(bV:Int):St:=⟨⟨[],[],[],30,[],[]⟩,[],[],[],[],bV,[],[],[],[],0⟩
theorem amF(bV:Int)(h:eC bV 1 32=true):Fn kg 15 [I bV,I 30] (.bY [.agg (aF (s0 bV)),I 0]):=
 (c15 bV 30 h rfl).gi rfl rfl (pK.EB ⟨.nil 5,.nil 6,.nil 6,.refl _,.nil 6,.nil 6,.nil 5,.nil 4,.nil 6,.nil 7,.refl _,.nil 4,.nil 8,.nil 2,.nil 3,.refl _,trivial⟩)
theorem ahm(bV:Int):(s0 bV).sm 0:=by constructor<;>simp
structure SV(l:List Rw)(ss:List St)(es:List Vt):Prop where
 len:ss.length=es.length+1
 sm:∀(i:Nat)(u:St),ss[i]?=some u->u.sm i
 st:∀(i:Nat)(e:Vt)(u u':St),es[i]?=some e->ss[i]?=some u->ss[i+1]?=some u'->Rk i u l e u'
theorem SV.one(l:List Rw)(bV:Int):SV l [s0 bV] []:=by
 refine⟨rfl,λi u h=>?_,λi e u u' h=>by simp at h⟩
 match i with
 |0=>simp at h;subst h;exact ahm _
 |i+1=>simp at h
theorem SV.snoc{l:List Rw}{ss:List St}{es:List Vt}(h:SV l ss es){u u':St}{e:Vt}(hu:ss[es.length]?=some u)(hs:Rk es.length u l e u'):SV l (ss++[u']) (es++[e]):=by
 have hl:=h.len;refine⟨by simp[hl],λi w hw=>?_,λi x w w' hx hw Xa=>?_⟩
 .rw[List.getElem?_append]at hw
  split at hw
  .exact h.sm i w hw
  .have:i=es.length+1:=by
    have:=(aE.1 hw).1;simp at this;omega
   subst this;rw[<-hl]at hw;simp at hw;subst hw;exact hs.sm
 .rw[List.getElem?_append]at hx
  split at hx
  .rename_i hi
   rw[bM (by omega)]at hw Xa;exact h.st i x w w' hx hw Xa
  .have hi:i=es.length:=by
    have:=(aE.1 hx).1;simp at this;omega
   subst hi;simp at hx;subst hx;rw[bM (by omega),hu]at hw;rw[<-hl]at Xa;simp at hw Xa;subst hw;subst Xa;exact hs
abbrev US(l:List St):AV:=.aL 16 l.length (l.map aF)
abbrev C6(l:List Rw)(v:List Vt)(ss:List St)(es:List Vt)(j:Int):aM:=⟨[(1,WS l),(10,.bn 480 16 ss.length),(11,.bn 496 5 es.length),(32,VS v),(33,I v.length),(34,I j)],[(480,⟨50,16,.flat,ss.map aF,[]⟩),(496,⟨33,5,.flat,es.map fy,[]⟩)]⟩
abbrev C6'(l:List Rw)(v:List Vt)(ss:List St)(es:List Vt)(u:St)(e:Vt)(j:Int):aM:=⟨[(1,WS l),(10,.bn 480 16 (ss.length+1)),(11,.bn 496 5 (es.length+1)),(32,VS v),(33,I v.length),(34,I j)],[(480,⟨50,16,.flat,(ss.map aF).take ss.length++[aF u],[]⟩),(496,⟨33,5,.flat,(es.map fy).take es.length++[fy e],[]⟩)]⟩
theorem Rl{a:Int}(h1: -9223372036854775808<=a)(h2:a<=9223372036854775807):∃m,IntKind.i64.wrap (1+(tJ a (IntKind.i64.wrap (0-IntKind.i64.wrap (a+1)))).tmod 32)=m/\eC m 1 32=true:=by
 have h0:=DV h1 h2;generalize tJ a (IntKind.i64.wrap (0-IntKind.i64.wrap (a+1)))=x at h0;have g1:=Int.tmod_nonneg (32:Int) h0;have g2:=Int.tmod_lt_of_pos x (show(0:Int)<32 by omega);refine⟨_,ah,?_⟩;simp[eC];omega
instance:Inhabited St:=⟨s0 0⟩
def NxP(k:Nat)(u:St)(l:List Rw)(e:Vt)(p:St×Int):Prop:=Fn kg 24 [.agg (aF u),WS l,.agg (fy e)] (.bY [.agg (if p.2=0 then aF p.1 else zU),I p.2])/\(p.2=0->Rk k u l e p.1)
noncomputable def nx(k:Nat)(u:St)(l:List Rw)(e:Vt):St×Int:=Classical.epsilon (NxP k u l e)
noncomputable def ic(l:List Rw)(v:List Vt)(m:Int):Nat->List St×List Vt
 |0=>([s0 m],[])
 |j+1=>match v[j]? with
  |none=>ic l v m j
  |some e=>if(nx (ic l v m j).2.length ((ic l v m j).1.getD (ic l v m j).2.length default) l e).2=0 then((ic l v m j).1++[(nx (ic l v m j).2.length ((ic l v m j).1.getD (ic l v m j).2.length default) l e).1],(ic l v m j).2++[e])else ic l v m j
theorem Xb{k:Nat}{u:St}(hk:k<=900)(hu:u.sm k)(l:List Rw)(hl:l.length<=100000)(e:Vt)(he:qh e=true):NxP k u l e (nx k u l e):=by
 unfold qh at he;simp only[aA,zp,iT]at he;obtain⟨⟨he1,he2⟩,he3⟩:=he;obtain⟨u',er,h1,h2⟩:=c24 hk hu l hl e (by omega) (by omega) (λs hs=>by have:=he3 s hs;omega);exact Classical.epsilon_spec (p:=NxP k u l e) ⟨(u',er),h1,h2⟩
theorem Rm(l:List Rw)(hl:l.length<=100000)(v:List Vt)(hv:∀e∈v,qh e=true)(cz:v.length<=40)(m:Int):∀j,j<=v.length->SV l (ic l v m j).1 (ic l v m j).2/\(ic l v m j).2.length<=j
 |0,_=>⟨SV.one l m,by simp[ic]⟩
 |j+1,hj=>by
  obtain⟨h1,h2⟩:=Rm l hl v hv cz m j (by omega);have he:v[j]?=some v[j]:=by simp
  rw[ic,he];simp only
  split
  .rename_i h0
   have pW:=h1.len;have hu:(ic l v m j).1[(ic l v m j).2.length]?=some ((ic l v m j).1.getD (ic l v m j).2.length default):=by
    rw[lJ,aW (by omega)];rfl
   exact⟨h1.snoc hu ((Xb (by omega) (h1.sm _ _ hu) l hl _ (hv _ (ay he))).2 h0),by simp;omega⟩
  .exact⟨h1,by omega⟩
abbrev g6:List (Nat×List Nat):=[]
set_option maxHeartbeats 1000000 in
theorem c6(a:Int)(h1: -9223372036854775808<=a)(h2:a<=9223372036854775807)(l:List Rw)(hl:l.length<=100000)(v:List Vt)(hv:xw v=true):∃ss es,SV l ss es/\es.length<=40/\Fn kg 6 [I a,WS l,VS v] (.bY [US ss,VS es]):=by
 obtain⟨m,hm,wq⟩:=Rl h1 h2;have pb:=amF m wq;unfold xw at hv;simp only[aA,zp,iT]at hv;have cz:v.length<=40:=by omega
 have Ck:=Rm l hl v hv.1 cz m;refine⟨(ic l v m v.length).1,(ic l v m v.length).2,(Ck _ (bG _)).1,du (Ck _ (bG _)).2 cz,lX qq6 g6 [5,12] ?_⟩;refine⟨_,rfl,_,rfl,by decide,_,hm,_,pb,λh=>(by cases h),λ_=>?_⟩;refine⟨_,(aj.ad [1,2,10,11] [480,496]).trans ((aj.of (c':=⟨[(1,WS l),(2,VS v),(10,.bn 480 16 1),(11,.bn 496 5 0)],[(480,⟨50,16,.flat,[aF (s0 m)],[]⟩),(496,⟨33,5,.pure,[],[]⟩)]⟩) rfl).trans (aj.flat 496 ⟨33,5,.pure,[],[]⟩ rfl rfl)),?_⟩;refine⟨λn c=>∃j:Nat,j<=v.length/\n=v.length-j/\c=C6 l v (ic l v m j).1 (ic l v m j).2 j,⟨_,_,aj.ad [1,10,11,32,33,34] [480,496],0,by omega,rfl,rfl⟩,?_⟩;rintro n c ⟨j,hj,rfl,rfl⟩;obtain⟨hS,hej⟩:=Ck j hj;refine⟨λaC=>?_,λaC=>?_⟩
 .simp at aC
  obtain⟨e,he,_,_⟩:=aq aC;have oX:ic l v m (j+1)=if(nx (ic l v m j).2.length ((ic l v m j).1.getD (ic l v m j).2.length default) l e).2=0 then((ic l v m j).1++[(nx (ic l v m j).2.length ((ic l v m j).1.getD (ic l v m j).2.length default) l e).1],(ic l v m j).2++[e])else ic l v m j:=by
   rw[ic,he]
  generalize hss:(ic l v m j).1=ss at hS oX;generalize H3:(ic l v m j).2=es at hS hej oX;have pW:=hS.len;have aD:(v.map fy)[j]?=some (fy e):=by rw[aS,he];rfl
  have hu:ss[es.length]?=some (ss.getD es.length default):=by
   rw[lJ,aW (by omega)];rfl
  generalize ss.getD es.length default=u at hu oX;have ahn:=hS.sm _ _ hu;have a7:=c7 u (ahn.size (by omega));have om:=ahl l (by omega);obtain⟨a24,-⟩:=Xb (by omega) ahn l hl e (hv.1 e (ay he));have Lt:(ss.map aF)[es.length]?=some (aF u):=by rw[aS,hu];rfl
  have hi:((ss.length:Int)-1)=(es.length:Int):=by omega
  generalize nx es.length u l e=p at a24 oX;obtain⟨u',er⟩:=p;simp only at a24 oX
  by_cases her:er=0
  .subst her
   rw[if_pos rfl]at a24 oX;refine⟨⟨by omega,by omega⟩,fy e,aD,?_⟩;refine⟨_,au hi,⟨by omega,by omega⟩,aF u,Lt,_,a7,_,om,true,_,a24,λ_=>?_,λh=>(by cases h)⟩;refine⟨⟨by show(ss.length+1)*336<=_;omega,by omega⟩,⟨by show(es.length+1)*72<=_;omega,by omega⟩,_,ah,?_⟩;refine⟨_,_,(aj.kr [1,10,11,32,33,34] [912,976] [(912,480),(976,496)] rfl rfl rfl rfl),by omega,j+1,by omega,rfl,?_⟩;rw[oX]
   show C6' l v ss es u' e ((j+1:Nat):Int)=C6 l v (ss++[u']) (es++[e]) ((j+1:Nat):Int)
   unfold C6 C6';rw[be,be,qB,qB,ph (by simp),ph (by simp)]
   rfl
  .rw[if_neg her]at a24 oX
   refine⟨⟨by omega,by omega⟩,fy e,aD,?_⟩;refine⟨_,au hi,⟨by omega,by omega⟩,aF u,Lt,_,a7,_,om,true,_,a24,λh=>absurd h (by simp[her]),λ_=>?_⟩;refine⟨_,ah,?_⟩;refine⟨_,_,aj.ad [1,10,11,32,33,34] [480,496],by omega,j+1,by omega,rfl,?_⟩;rw[oX,hss,H3]
   rfl
 .have FY:j=v.length:=by
   have:=j0 aC;omega
  subst FY;generalize(ic l v m v.length).1=ss;generalize(ic l v m v.length).2=es;refine⟨⟨[(10,US ss),(11,VS es)],[]⟩,(aj.ad [10,11] [480,496]).trans ((aj.lx [480,496] _).trans (aj.of ?_)),_,aj.refl _ _,_,_,rfl,⟨rfl,rfl⟩,rfl,rfl,trivial⟩
  show(⟨[(10,.aL 16 ss.length ((ss.map aF).take ss.length)),(11,.aL 5 es.length ((es.map fy).take es.length))],[]⟩:aM)=_
  rw[ph (by simp),ph (by simp)]
theorem Rn{p:Po}{l:List Rw}{rd d:Int}(h1:jr l=0)(h2:sL p=0)(h3:cj rd=true)(h4:0<=d)(h5:d<=1048575):vX p l rd d=(iQ p l rd d,0):=by
 unfold vX;rw[if_neg (by simp[h1,h2]),if_neg (by simp[h3];omega)]
theorem Rk.vis{k:Nat}{u u':St}{l:List Rw}{e:Vt}(h:Rk k u l e u'){rd:Int}(hr:cj rd=true):vX u.po l rd e.aR=(iQ u.po l rd e.aR,0)/\vX u'.po l rd e.aR=(iQ u'.po l rd e.aR,0):=by
 have h0:0<=e.aR:=by
  have h1:=h.rt.pt.fin;have h2:=h.lo;simp[eC]at h1;omega
 obtain⟨f,_,_,_,hp⟩:=h.po;exact⟨Rn h.aa (h.rt.pt.es _ (by simp)) hr h0 h.hi,Rn h.aa hp.ok hr h0 h.hi⟩
noncomputable def Nf(p q:Po)(l:List Rw)(rd d:Int):Bool:= !((iQ p l rd d).any λn=> !ur (iQ q l rd d) n)
theorem UR{l:List Int}{n:Int}(h:n∈l):ur l n=true:=by
 unfold ur;exact zm.2 ⟨n,h,by simp⟩
theorem Fv{p q:Po}{l:List Rw}{rd d:Int}(h:∀u∈iQ p l rd d,u∈iQ q l rd d):Nf p q l rd d=true:=by
 unfold Nf;rw[zr,Xy];intro n hn;rw[UR (h n hn)];simp
theorem Rk.more{k:Nat}{u u':St}{l:List Rw}{e:Vt}(h:Rk k u l e u')(hk:e.kind=43∨e.kind=45)(rd d:Int):Nf u.po u'.po l rd d=true:=by
 obtain⟨f,h43,h44,h45,hp⟩:=h.po
 rcases hk with hk|hk
 .obtain⟨id,b,dd,h0,e1⟩:=hp.ahh (h43 hk)
  rw[e1];exact Fv (JJ h0 l rd d)
 .obtain⟨r,e1⟩:=hp.ahi (h45 hk)
  have kM:=hp.ok;rw[e1]at kM⊢;exact Fv (JK ((kI _).1 kM).2.2.2.1 l rd d)
theorem Rk.less{k:Nat}{u u':St}{l:List Rw}{e:Vt}(h:Rk k u l e u')(hk:e.kind=44)(rd d:Int):Nf u'.po u.po l rd d=true:=by
 obtain⟨f,h43,h44,h45,hp⟩:=h.po;obtain⟨r,e1⟩:=hp.agree (h44 hk);have kM:=hp.ok;rw[e1]at kM⊢;exact Fv (JL ((kI _).1 (h.rt.pt.es (sL u.po) (by simp))).2.2.1 ((kI _).1 kM).2.2.1 l rd d)
theorem Lu(p:Po)(l:List Rw)(rd d:Int):(iQ p l rd d).length<=l.length:=by
 unfold iQ;rw[gB];exact zx _ _
theorem Ng{a:Int}(h1: -9223372036854775808<=a)(h2:a<=9223372036854775807):∃m,IntKind.i64.wrap (1+(tJ a (IntKind.i64.wrap (0-IntKind.i64.wrap (a+1)))).tmod 1073741824)=m/\cj m=true:=by
 have h0:=DV h1 h2;generalize tJ a (IntKind.i64.wrap (0-IntKind.i64.wrap (a+1)))=x at h0;have g1:=Int.tmod_nonneg (1073741824:Int) h0;have g2:=Int.tmod_lt_of_pos x (show(0:Int)<1073741824 by omega);refine⟨_,ah,?_⟩;simp[cj];omega
abbrev C3(l:List Rw)(rd:Int)(ss:List St)(es:List Vt)(i:Int):aM:=⟨[(0,WS l),(7,I rd),(8,US ss),(48,VS es),(49,I es.length),(50,I i)],[]⟩
set_option maxHeartbeats 4000000 in
theorem c3(l:List Rw)(hl:l.length<=9223372036854775807)(v:List Vt)(hv:v.length<=9223372036854775807)(ht:∀e∈v,e.cG.length<=9223372036854775807)(a b:Int)(ha1: -9223372036854775808<=a)(Nx:a<=9223372036854775807)(yw: -9223372036854775808<=b)(Fx:b<=9223372036854775807):Fn kg 3 [WS l,VS v,.agg [I a,I b]] (B true):=by
 have a4:=Aw.c4;have a5:=c5 l hl v hv ht
 cases hf:(xw v&&decide ((l.length:Int)<=30))with
 |false=>
  rw[hf]at a5;refine lX qq3 [] [16] ⟨[(2,false)],_,a4,rfl,_,a5,?_⟩;refine⟨λ_=>⟨_,a4,?_⟩,λh=>(by cases h)⟩;exact⟨_,aj.refl _ _,rfl,rfl,rfl⟩
 |true=>
  rw[hf]at a5;simp only[aA,zp]at hf;obtain⟨hf1,hf2⟩:=hf;obtain⟨rd,xL,hid⟩:=Ng yw Fx;obtain⟨ss,es,hS,hel,a6⟩:=c6 a ha1 Nx l (by omega) v hf1;have pW:=hS.len;refine lX qq3 [] [16] ⟨[(2,false)],_,a4,rfl,_,a5,?_⟩;refine⟨λh=>(by cases h),λ_=>?_⟩;refine⟨_,rfl,_,rfl,by decide,_,xL,_,a6,λh=>absurd (eq_of_beq h) (by omega),λ_=>?_⟩;refine⟨λn c=>∃i:Nat,i<=es.length/\n=es.length-i/\c=C3 l rd ss es i,⟨_,_,aj.ad [0,7,8,48,49,50] [],0,by omega,rfl,rfl⟩,?_⟩;rintro n c ⟨i,hi,rfl,rfl⟩;refine⟨λaC=>?_,λaC=>⟨_,aj.refl _ _,rfl,rfl,rfl⟩⟩;simp at aC;obtain⟨e,he,_,_⟩:=aq aC;have aD:(es.map fy)[i]?=some (fy e):=by rw[aS,he];rfl
  obtain⟨u,hu⟩:∃u,ss[i]?=some u:=⟨_,aW (by omega)⟩;obtain⟨u',iG⟩:∃u,ss[i+1]?=some u:=⟨_,aW (by omega)⟩;have cY:=hS.st i e u u' he hu iG;have Lt:(ss.map aF)[i]?=some (aF u):=by rw[aS,hu];rfl
  have Xc:(ss.map aF)[i+1]?=some (aF u'):=by rw[aS,iG];rfl
  have z1:=(hS.sm _ _ hu).size (by omega);have z2:=cY.sm.size (by omega);have a7:=c7 u z1;obtain⟨v1,v2⟩:=cY.vis hid;have a8:=c8 l (by omega) {u with ch:=u'.ch} ⟨z1.po,z1.bs,z1.cs,z1.ls,z1.ms,z1.qs,z1.ks,z1.bt,z1.tu,z1.lk,z1.sh⟩ rd;have a8':=c8 l (by omega) u' z2 rd;rw[<-cY.ch]at v1 v2;simp only at a8;rw[v1]at a8;rw[v2]at a8';simp only at a8 a8';refine⟨⟨by omega,by omega⟩,fy e,aD,⟨by omega,by omega⟩,aF u,Lt,_,a7,_,ah,⟨by omega,by omega⟩,aF u',Xc,_,a8,_,ah,⟨by omega,by omega⟩,aF u',Xc,_,a8',?_⟩;have Np:=Lu u.po l rd u'.ch;have Ay:=Lu u'.po l rd u'.ch;have b1:=UL (iQ u.po l rd u'.ch) (by omega) _ 12 [NS (iQ u'.po l rd u'.ch)] λn _=>c12 _ (by omega) n
  have b2:=UL (iQ u'.po l rd u'.ch) (by omega) _ 14 [NS (iQ u.po l rd u'.ch)] λn _=>c14 _ (by omega) n
  refine⟨[(2,false)],rfl,λh=>(by cases h),λ_=>?_⟩;refine⟨⟨[(0,WS l),(7,I rd),(8,US ss),(11,.aw (fy e) 0),(13,.aw [NS (iQ u.po l rd u'.ch)] 0),(15,.aw [NS (iQ u'.po l rd u'.ch)] 0),(48,VS es),(49,I es.length),(50,I i)],[]⟩,aj.S2 [0,7,8,11,13,15,48,49,50] rfl,?_⟩;have m1:e.kind=43∨e.kind=45->((iQ u.po l rd u'.ch).any λn=> !ur (iQ u'.po l rd u'.ch) n)=false:=λh=>by
   have:=cY.more h rd u'.ch;unfold Nf at this;rwa[zr]at this
  have m2:e.kind=44->((iQ u'.po l rd u'.ch).any λn=> !ur (iQ u.po l rd u'.ch) n)=false:=λh=>by
   have:=cY.less h rd u'.ch;unfold Nf at this;rwa[zr]at this
  generalize((iQ u.po l rd u'.ch).any λn=> !ur (iQ u'.po l rd u'.ch) n)=x1 at b1 m1;generalize((iQ u'.po l rd u'.ch).any λn=> !ur (iQ u.po l rd u'.ch) n)=x2 at b2 m2
  by_cases k1:e.kind=43
  .rw[m1 (.inl k1)]at b1
   refine⟨_,b1,_,b2,[(3,true),(8,true),(12,false),(16,false)],by simp[k1],rfl,rfl,by simp[k1],λh=>absurd h (by simp),λ_=>?_⟩;exact⟨_,ah,_,_,aj.ad [0,7,8,48,49,50] [],by omega,i+1,by omega,rfl,rfl⟩
  .by_cases k2:e.kind=45
   .rw[m1 (.inr k2)]at b1
    refine⟨_,b1,_,b2,[(3,false),(8,true),(12,false),(16,false)],by simp[k1],by simp[k2],rfl,by simp[k2],λh=>absurd h (by simp),λ_=>?_⟩;exact⟨_,ah,_,_,aj.ad [0,7,8,48,49,50] [],by omega,i+1,by omega,rfl,rfl⟩
   .by_cases k3:e.kind=44
    .rw[m2 k3]at b2
     refine⟨_,b1,_,b2,[(3,false),(8,false),(12,false),(16,true)],by simp[k1],by simp[k2],rfl,by simp[k3],λh=>absurd h (by simp),λ_=>?_⟩;exact⟨_,ah,_,_,aj.ad [0,7,8,48,49,50] [],by omega,i+1,by omega,rfl,rfl⟩
    .refine⟨_,b1,_,b2,[(3,false),(8,false),(12,false),(16,false)],by simp[k1],by simp[k2],rfl,by simp[k3],λh=>absurd h (by simp),λ_=>?_⟩
     exact⟨_,ah,_,_,aj.ad [0,7,8,48,49,50] [],by omega,i+1,by omega,rfl,rfl⟩
theorem BH{n:Nat}(h:n<=maxLen):n<=9223372036854775807:=by
 have:maxLen<=9223372036854775807:=by unfold maxLen;omega
 omega
theorem aho{n:Int}(h:(Lit.int .i64 n).wf=true): -9223372036854775808<=n/\n<=9223372036854775807:=by
 simp[Lit.wf,IntKind.min,IntKind.max,IntKind.bits,IntKind.signed]at h;omega
theorem rowsOf{α:Type}{pY:α->List AV}{p:List AV->Prop}{q:α->Prop}(hp:∀row,p row->∃a,row=pY a/\q a):∀{aa:List (List AV)},(∀row∈aa,p row)->∃l:List α,aa=l.map pY/\∀a∈l,q a
 |[],_=>⟨[],rfl,by simp⟩
 |r::aa,h=>by
  obtain⟨a,rfl,ha⟩:=hp r (h r (by simp));obtain⟨l,rfl,hl⟩:=rowsOf hp (aa:=aa) λrow hr=>h row (by simp[hr])
  exact⟨a::l,rfl,by simpa using⟨ha,hl⟩⟩
theorem amG{row:List AV}{d:Nat}(h:Rd kg (d+2) 58 row):∃a:Rw,row=gL a/\True:=by
 simp only[Rd,Tryz.underlying58,Oq,Tryz.underlying3]at h;obtain⟨_,_,rfl,⟨n0,rfl,_⟩,_,_,rfl,⟨n1,rfl,_⟩,_,_,rfl,⟨n2,rfl,_⟩,rfl⟩:=h;exact⟨⟨n0,n1,n2⟩,rfl,trivial⟩
theorem amH{row:List AV}{d:Nat}(h:Rd kg (d+2) 30 row):∃l:List Int,row=[NS l]:=by
 simp only[Rd,Tryz.underlying30]at h;obtain⟨aa,rfl,hz,hr⟩:=h;obtain⟨l,rfl,_⟩:=rowsOf (pY:=λn:Int=>[I n]) (p:=λrow=>Rd kg (d+1) 3 row) (q:=λ_=>True) (λrow h=>by
  simp only[Rd,Tryz.underlying3]at h;obtain⟨n,rfl,_⟩:=h;exact⟨n,rfl,trivial⟩) hr
 refine⟨l,?_⟩;rw[show Tryz.prog.cellsOf 3=1 by kernel_rfl,gB]
theorem amI{row:List AV}{d:Nat}(h:Rd kg (d+2) 31 row):∃l:List (List UInt8),row=[TX l] /\l.length<=9223372036854775807:=by
 simp only[Rd,Tryz.underlying31]at h;obtain⟨aa,rfl,hz,hr⟩:=h;obtain⟨l,rfl,_⟩:=rowsOf (pY:=λs:List UInt8=>[.str (bs s)]) (p:=λrow=>Rd kg (d+1) 9 row) (q:=λ_=>True) (λrow h=>by
  simp only[Rd,Tryz.underlying9]at h;obtain⟨s,rfl,_⟩:=h;exact⟨s.data.toList,by rw[T9],trivial⟩) hr
 refine⟨l,?_,BH (by simpa using hz)⟩;rw[show Tryz.prog.cellsOf 9=1 by kernel_rfl,gB]
theorem amJ{row:List AV}{d:Nat}(h:Rd kg (d+3) 33 row):∃a:Vt,row=fy a/\a.cG.length<=9223372036854775807:=by
 unfold Rd at h;simp only[Tryz.underlying33,Oq]at h;obtain⟨_,_,rfl,h0,_,_,rfl,h1,_,_,rfl,h2,_,_,rfl,h3,_,_,rfl,h4,rfl⟩:=h;simp only[Rd,Tryz.underlying3]at h0 h1 h2;obtain⟨n0,rfl,_⟩:=h0;obtain⟨n1,rfl,_⟩:=h1;obtain⟨n2,rfl,_⟩:=h2;obtain⟨l,rfl⟩:=amH (d:=d) h3;obtain⟨t,rfl,ht⟩:=amI (d:=d) h4;exact⟨⟨n0,n1,n2,l,t⟩,rfl,ht⟩
theorem amK{u:AV}(h:Nq kg 6 22 u):∃l:List Rw,u=WS l/\l.length<=9223372036854775807:=by
 simp only[Nq,Tryz.underlying22,Rd]at h;obtain⟨aa,hu,hl,hr⟩:=h;obtain⟨l,rfl,_⟩:=rowsOf (pY:=gL) (p:=λrow=>Rd kg 5 58 row) (λrow h=>amG (d:=3) h) hr;injection hu with hu
 rw[show Tryz.prog.cellsOf 58=3 by kernel_rfl,gB]at hu;exact⟨l,hu,BH (by simpa using hl)⟩
theorem amL{u:AV}(h:Nq kg 6 23 u):∃l:List Vt,u=VS l/\l.length<=9223372036854775807/\∀e∈l,e.cG.length<=9223372036854775807:=by
 simp only[Nq,Tryz.underlying23,Rd]at h;obtain⟨aa,hu,hl,hr⟩:=h;obtain⟨l,rfl,hq⟩:=rowsOf (pY:=fy) (p:=λrow=>Rd kg 5 33 row) (λrow h=>amJ (d:=2) h) hr;injection hu with hu
 rw[show Tryz.prog.cellsOf 33=5 by kernel_rfl,gB]at hu;exact⟨l,hu,BH (by simpa using hl),hq⟩
theorem amM{u:AV}(h:Nq kg 6 24 u):∃a b:Int,u=.agg [I a,I b] /\(-9223372036854775808<=a/\a<=9223372036854775807)/\ -9223372036854775808<=b/\b<=9223372036854775807:=by
 simp only[Nq,Tryz.underlying24]at h;obtain⟨us,rfl,h⟩:=h;simp only[Rd,Tryz.underlying24,RdN,Tryz.underlying3]at h;obtain⟨_,_,rfl,⟨n0,rfl,w0⟩,_,_,rfl,⟨n1,rfl,w1⟩,rfl⟩:=h;exact⟨n0,n1,rfl,aho w0,aho w1⟩
theorem ahp{P:Program}{d t0 t1 t2:Nat}{us:List AV}(h:Ma P d [t0,t1,t2] us):∃u0 u1 u2,us=[u0,u1,u2] /\Nq P d t0 u0/\Nq P d t1 u1/\Nq P d t2 u2:=by
 match us,h with
 |[u0,u1,u2],⟨h0,h1,h2,_⟩=>exact⟨u0,u1,u2,rfl,h0,h1,h2⟩
theorem l3(us:List AV)(h:Ma kg 6 Tryz.f3.params.toList us):Fn kg 3 us (.bool true):=by
 rw[Tryz.params3]at h;obtain⟨u0,u1,u2,rfl,h0,h1,h2⟩:=ahp h;obtain⟨l,rfl,hl⟩:=amK h0;obtain⟨v,rfl,hv,ht⟩:=amL h1;obtain⟨a,b,rfl,⟨ha1,Nx⟩,yw,Fx⟩:=amM h2;exact c3 l hl v hv ht a b ha1 Nx yw Fx
end Go.an.ax.G
namespace Go.an
open Go.RowKit Go.ChangeShapes Go.WideShapes Go.ChangeAt
section
variable{H:Type} {pY:TypeId×Value->H}
theorem BI{C:Checked}{os:Os}{f:FuncId}{fn:Func}{s:ChangeSpec}{conds:List PathCond}{d tb:Nat}{L:List (String×DataW Unit)}
  (own:ownKnob C.prog.godebug=none)(started:os.Started)(aap:C.prog.inits.idxOf? f=none)(FB:C.prog.funcs[f]?=some fn)
  (witness:∃(w:World)(tape:Tape)(i:Input),w.os=os/\(w.forCall tape i).Shaped C.prog/\i.vars=[] /\Input.okWide C.prog (w.forCall tape i) .any w.heap.size f i/\
   ((s.pre pY C.prog fn conds false (w.forCall tape i).memory i.args/\laidMetH C.prog L (w.forCall tape i).memory)/\sizedMet pY C.prog fn (OpenSpec.ofChange s) false (w.forCall tape i).memory i.args)/\({}:Assume).holds C.prog (lone (Frame.enter C.prog f i.args .normal) [] (w.forCall tape i)))
  (laid:laidOutB C.prog=true)(aaq:(fn.params.toList.all λt=>mW C.prog d t)=true)(ahq:(fn.params.toList.all λt=>C.prog.readableRec t&&decide (t<C.prog.types.size))=true)
  (amN:fn.resultTypes=#[tb])(htb:C.prog.underlying tb=some .bool)(Xd:s.vars=[])
  (Ro:∀ds:List (DataW H),ds.length=fn.params.toList.length->s.fn H ds={results:=[.lit (.bool true)],args:=ds})
  (kS:∀w:World,w.ShapedOpen C.prog->laidMetH C.prog L w->WI w)(law:∀us,Ma C.prog d fn.params.toList us->Fn C.prog f us (.bool true)):
  ReturnsInHanded {} C os f .any (λw args=>(s.pre pY C.prog fn conds false w args/\laidMetH C.prog L w)/\sizedMet pY C.prog fn (OpenSpec.ofChange s) false w args) (s.post pY C.prog fn false true false false):=by
 refine returnsInHanded_of_calls own started aap witness ?_;intro w tape i _ Ms _ kM tU amO;obtain⟨_,_,_,fn',amP,_,_,_,_,az⟩:=kM;have e:fn'=fn:=Wc (amP.symm.trans FB);subst e;obtain⟨⟨⟨ds,gs,before,hw,hc⟩,hx⟩,hz⟩:=tU;have Xa:=DataW.Whole.of_heap (w':=w.forCall tape i) (by rfl) hw;have hL:laidMetH C.prog L (w.forCall tape i):=hx.of_heap (by rfl)
 suffices ahr:Calls C.prog f i.args (w.forCall tape i) λe W'=>∃v,e=.returned v/\s.post pY C.prog fn' false true false false (w.forCall tape i) i.args v W' by
  refine ahr.mono λe W' ⟨v,he,hp⟩=>?_
  subst he;exact ChangeSpec.post_blind hp
 generalize hWW:w.forCall tape i=W at*;have hW':=Xa;obtain⟨p,q,hA,hV,rfl,hfz,hnd⟩:=Xa;rw[Xd]at hV;obtain⟨rfl,rfl⟩:=trodVars_none hV;obtain⟨Tu,BM⟩:=xQ hA;obtain⟨us,zP,hl,hr⟩:=Ke (w:=W) (b0:=w.heap.size) aaq (λj t v ht hv=>az j t v (by simpa using ht) (by simpa using hv)) hA;refine((law us zP).2 (λ_=>False) W i.args (kS W Ms hL) (by rw[hl];simp) (λj u c hu hc=>hr j u c hu (by simpa using hc))).mono λe W' ⟨v,he,hR,bel⟩=>?_
 subst he;have hv:v=.bool true:=VR.jn hR;subst hv;refine⟨_,rfl,ds,[],p++[],[],p,[],hW',?_,?_,?_,bel.frame _,λh=>by cases h⟩
 .rw[Ro _ (by simpa using Tu),amN]
  exact trodAll_mk1 (shut_bool htb _)
 .rw[Ro _ (by simpa using Tu)]
  simp only[dN];exact th laid bel ahq hA
 .rw[Ro _ (by simpa using Tu),Xd]
  exact rfl
end
end Go.an
namespace Go.Proofs.YtpfmbblnhjpclaaGreatDoor
open Go Go.an Go.an.ax Go.an.ax.G Go.ChangeShapes Go.WideShapes Go.ChangeAt Go.RowKit
theorem own:ownKnob Tryz.prog.godebug=none:=by kernel_rfl
theorem laidOut:laidOutB Tryz.prog=true:=by kernel_rfl
abbrev L3:List (String×DataW Unit):=Rows.topOnlyOpensRow.laid
theorem amQ:(Rows.laid_internal_strconv_uint64pow10:DataW Unit)=Lib.tabData .u64 Lib.pow10Tab:=by kernel_rfl
theorem ahs(w:World)(hs:w.ShapedOpen Tryz.prog)(h:laidMetH Tryz.prog L3 w):WI w:=by
 refine⟨Tryz.G8.s1_3 w hs,?_⟩;rw[MakeChecks.laidMetH_plain _ _ _ (by kernel_rfl)]at h;have h2:laidMet Tryz.prog [(_,Rows.laid_internal_strconv_uint64pow10)] w:=laidMet.tail (laidMet.tail h);rw[amQ]at h2;have h3:=Lib.tabIs_of_head (g:=1) (t:=485) (e:=408) (n:=20) (by kernel_rfl) (by kernel_rfl) (by kernel_rfl) (by kernel_rfl) (by kernel_rfl) (by kernel_rfl) h2;unfold Lib.TabIs World.var? at h3;rw[show Tryz.prog.globalNamed _=some 1 from by kernel_rfl]at h3;simp only[Option.bind_some]at h3
 split at h3
 .rename_i cs t0 s0 he
  injection h3 with h3
  exact⟨t0,s0,by rw[he,h3]⟩
 .cases h3
theorem Rp(os:Os)(args:Array Value):laidMetH Tryz.prog L3 ((World.doorLaid Tryz.prog 400 os).forCall (λ_ _=>0) ⟨#[],args,[]⟩).memory:=
 laidMetH_of_parts3 (fuel:=8) (laidMet_of_run' 8 (by kernel_rfl) (by kernel_rfl)) (by kernel_rfl) (by kernel_rfl)
end Go.Proofs.YtpfmbblnhjpclaaGreatDoor
