import Derived.Test.YtpfmbblnhjpclaaGreatDoorJ18
import Derived.Test.YtpfmbblnhjpclaaGreatDoorJ20
set_option linter.unusedVariables false
set_option linter.unusedSimpArgs false
set_option maxRecDepth 20000
namespace Go.an.ax
open Go Go.an Go.Proofs
def Mo(l:List Rw)(u:Int):Int:=aQ (λr=>r.unit==u) 0 l
theorem w8(l:List Rw)(u:Int):Mo l u= -1∨∃(i:Nat)(r:Rw),Mo l u=i/\l[i]?=some r/\r.unit=u:=by
 rcases dH (λr:Rw=>r.unit==u) l 0 with⟨h,_⟩|⟨i,r,h1,h2,h3,_⟩
 .exact .inl h
 .exact .inr ⟨i,r,by unfold Mo;rw[h3];simp,h1,by simpa using h2⟩
theorem c53(r:Rw)(n:Int):Fn kg 53 [.agg (gL r),.aw [I n] 0] (B (r.unit==n)):=aH aii ⟨rfl,rfl,rfl⟩
theorem c29(l:List Rw)(hl:l.length<=9223372036854775807)(n:Int):Fn kg 29 [WS l,I n] (I (Mo l n)):=
 aH ah6 ⟨_,aje l hl _ 53 [I n] (λa _=>c53 a n),rfl,rfl,rfl⟩
def uC(l:List Rw)(u:Int):Nat->Int
 |0=>Mo l u
 |k+1=>match l[(uC l u k).toNat]? with
  |some r=>if uC l u k<0∨r.gJ=0 then-1 else Mo l r.gJ
  |none=> -1
theorem w9(l:List Rw)(u:Int)(k:Nat):uC l u k= -1∨∃(i:Nat)(r:Rw),uC l u k=i/\l[i]?=some r:=by
 cases k with
 |zero=>rcases w8 l u with h|⟨i,r,h1,h2,_⟩;exact .inl h;exact .inr ⟨i,r,h1,h2⟩
 |succ k=>
  simp only[uC]
  split
  .rename_i r hr
   split
   .exact .inl rfl
   .rcases w8 l r.gJ with h|⟨i,r,h1,h2,_⟩;exact .inl h;exact .inr ⟨i,r,h1,h2⟩
  .exact .inl rfl
theorem Px{l:List Rw}{u:Int}{k i:Nat}{r:Rw}(h:uC l u k=i)(hr:l[i]?=some r):uC l u (k+1)=if r.gJ=0 then-1 else Mo l r.gJ:=by
 simp only[uC,h,aY,hr]
 by_cases hp:r.gJ=0
 .rw[if_pos (.inr hp),if_pos hp]
 .rw[if_neg (by simp[hp]),if_neg hp]
def H6(l:List Rw)(u:Int)(k:Nat):Option Rw:=if uC l u k<0 then none else l[(uC l u k).toNat]?
def oy(l:List Rw)(u:Int)(k:Nat):Option AV:=(H6 l u k).map λr=>.agg (gL r)
theorem sC{l:List Rw}{u:Int}(i:Nat)(x:AV)(h:oy l u i=some x):uh x=true:=by
 unfold oy at h
 cases hr:H6 l u i with
 |none=>rw[hr]at h;cases h
 |some r=>rw[hr]at h;cases h;rfl
theorem c30(l:List Rw)(u:Int):Fn kg 30 [WS l,I u] (.func 54 [.aw [WS l] 0,.aw [I u] 0]):=by
 exact lX aiA [] [] ⟨_,aj.ahU [4] rfl,rfl,rfl,rfl⟩
def dU(id:Nat):Code->Array Oper
 |.region i aB _=>if i=id then aB else #[]
 |.seq x y=>dU id x++dU id y
 |.cond _ x y=>dU id x++dU id y
 |.block _ b=>dU id b
 |.loop b=>dU id b
 |_=> #[]
set_option maxHeartbeats 1000000 in
theorem s98(l:List Rw)(hl:l.length<=100000)(u:Int):S5 kg 54 [.aw [WS l] 0,.aw [I u] 0] (oy l u):=by
 refine S8 (N:=32) Tryz.func54 rfl (by kernel_rfl) rfl rfl (by show 3<=32;decide) λX w a yl Nb J Jx bJ Mi hy0 zP hJN hJ hJx hK hWx hY h0=>?_
 have yw:VR w X K0 (.aw [WS l] 0) (a.tmps.getD 1 undef):=zP 0 _ rfl;have Fx:VR w X K0 (.aw [I u] 0) (a.tmps.getD 2 undef):=zP 1 _ rfl;have f1:∀{k:Nat}{W:World}{a':Act},J k W->a'.tmps.getD 1 undef=a.tmps.getD 1 undef->VR W X K0 (.aw [WS l] 0) (a'.tmps.getD 1 undef):=by
  intro k W a' hj e;rw[e];exact yw.ad (hK k W hj).1 (λ_ _ h=>h) (λ_ _=>rfl)
 refine wpIn_seq (wZ (N:=32) (ks:=[0,1,2,4,9,31]) (gs:=[]) (wk:=[]) (ws:=[4,5,6,7]) (X:=X) cC bZ mixed (fr:=[(1,.aw [WS l] 0),(2,.aw [I u] 0)]) (Q:=λe c=>e=.normal/\lk c.fr 4=I (uC l u 0)) rfl rfl ?_ bJ Mi (hK 0 w h0).2 (.cons yw (.cons Fx .nil)) ?_)
 .exact⟨_,c29 l (by omega) u,rfl,rfl⟩
 rintro e c a1 w1 ⟨rfl,h4⟩ abh ajf uB ku hv;have hj0:J 0 w1:=hJ 0 w w1 h0 uB;have v4:=hv 4 _ h4 rfl;have e4:=VR.int_eq v4;have y1:a1.tmps.getD 0 undef=.func (.yield yl) #[] #[]:=(ku 0 rfl).trans hy0;have k1:=ku 1 rfl
 show Code.wpIn _ _ _ _ _ a1 w1
 refine wpIn_block (wpIn_loop_ghost (λn a' W=>∃k,n=Nb-k/\J k W/\a'.tmps.size=32/\a'.defers=[] /\a'.tmps.getD 0 undef=.func (.yield yl) #[] #[] /\a'.tmps.getD 1 undef=a.tmps.getD 1 undef/\a'.tmps.getD 4 undef=.int .i64 (uC l u k)) (Nb-0) ⟨0,rfl,hj0,abh,ajf,y1,k1,e4⟩ ?_);rintro n a2 w2 ⟨k,rfl,hj,Io,ajg,hy2,k2,e4⟩;have hkN:=hJN k w2 hj;refine wpIn_seq (wpIn_seq (wZ (N:=32) (ks:=[0,1,2,4,9,31]) (gs:=[]) (wk:=[]) (ws:=[8,9]) (X:=X) cC bZ mixed (fr:=[(4,I (uC l u k))]) (Q:=λe c=>e=.normal/\lk c.fr 9=B (decide (uC l u k>=0))) rfl rfl ?_ Io ajg (hK k w2 hj).2 (.cons (by rw[e4];exact .int) .nil) ?_))
 .exact⟨rfl,rfl⟩
 rintro e c a3 w3 ⟨rfl,h9⟩ aaP ad7 ajh Yo hv3;have hj3:J k w3:=hJ k w2 w3 hj ajh;have e9:=VR.ED (hv3 9 _ h9 rfl);have e43:a3.tmps.getD 4 undef=.int .i64 (uC l u k):=(Yo 4 rfl).trans e4;have y3:=(Yo 0 rfl).trans hy2;have k3:=(Yo 1 rfl).trans k2
 show Code.wpIn _ _ _ _ _ a3 w3
 refine wpIn_cond_split (t:=decide (uC l u k>=0)) e9 (λkT=>wpIn_skip ?_) (λaC=>wpIn_exit ?_)
 case _=>
  have kT:uC l u k>=0:=by simpa using kT
  obtain⟨i,r,hi,hr⟩:∃(i:Nat)(r:Rw),uC l u k=i/\l[i]?=some r:=by
   rcases w9 l u k with h|h
   .omega
   .exact h
  have og:=(aE.1 hr).1;have hx:oy l u k=some (.agg (gL r)):=by
   unfold oy H6;rw[if_neg (by omega),hi,aY,hr];rfl
  have aD:(l.map gL)[(uC l u k).toNat]?=some (gL r):=by rw[hi,aY,aS,hr];rfl
  have oX:=Px hi hr;have cY:∀(n:Nat)(aB:Array Oper) j,j< (aB.toList.take n).length->(aB.toList.take n)[j]?=aB[0+j]?:=λn aB j hj=>by rw[FF (by simp at hj;omega)];simp
  show Code.wpIn _ _ _ _ _ a3 w3
  refine wpIn_seq (wpIn_block (wpIn_seq (wpIn_region ?_)));change wpOpsIn (xT none) 0 _ _ _ (List.range' 0 5++(5::(List.range' 6 9++[]))) a3 w3;refine AU (N:=32) (ws:=[17,18,19,20,21,22,23,24,25,26,27,28,29,30,31]) (X:=X) (dm:=[]) (A:=⟨⟨[],[]⟩,[],[]⟩) (l:=(dU 3 (body Tryz.f54)).toList.take 5) (fr:=[(0,.lit (.func (.yield yl) #[] #[])),(1,.aw [WS l] 0),(4,I (uC l u k))])
   (Kk:=λc=>lk c.fr 17=.lit (.func (.yield yl) #[] #[])/\lk c.fr 21=.agg (gL r)) cC bZ ?_ rfl rfl ?_ aaP ad7 (hK k w3 hj3).2 (.cons (by rw[y3];exact .lit) (.cons (f1 hj3 k3) (.cons (by rw[e43];exact .int) .nil))) ?_
  .exact cY 5 _
  .exact⟨by omega,gL r,aD,rfl,rfl⟩
  rintro c a4 w4 ⟨Tp,h21⟩ ad8 ad9 aji Yp hv4 hl4;have hj4:J k w4:=hJ k w3 w4 hj3 aji;have e17:=hl4 17 _ Tp;rw[wpOpsIn_cons];refine O0 (f:=.tmp 17) (x:=.tmp 21) (v:=a4.tmps.getD 21 undef) rfl rfl rfl e17 rfl (hY k _ w4 _ hj4 hx (hv4 21 _ h21 rfl)) ?_;have pW:∀(n:Nat)(aB:Array Oper) j,j< (aB.toList.drop n).length->(aB.toList.drop n)[j]?=aB[n+j]?:=λn aB j _=>by rw[cV];simp
  rintro e w5 (⟨rfl,hj5⟩|⟨rfl,hx5⟩)
  .refine⟨_,rfl,?_⟩
   show wpOpsIn _ _ _ _ _ _ (a4.put (some 22) (.bool true)) w5
   have Yq:(a4.put (some 22) (.bool true)).tmps.size=32:=by show(a4.tmps.setIfInBounds 22 _).size=32;simp[ad8]
   have NN:∀t,t≠22->(a4.put (some 22) (.bool true)).tmps.getD t undef=a4.tmps.getD t undef:=λt ht=>by
    show(a4.tmps.setIfInBounds 22 _).getD t undef=_
    rw[dI,dI,hU (Ne.symm ht)]
   have h22:(a4.put (some 22) (.bool true)).tmps.getD 22 undef=.bool true:=by
    show(a4.tmps.setIfInBounds 22 _).getD 22 undef=_
    rw[dI,qz (by omega)];rfl
   have k4:=(Yp 1 rfl).trans k3;have e44:a4.tmps.getD 4 undef=.int .i64 (uC l u k):=(Yp 4 rfl).trans e43;have y4:=(Yp 0 rfl).trans y3;refine AU (N:=32) (ws:=[17,18,19,20,21,22,23,24,25,26,27,28,29,30,31]) (X:=X) (dm:=[(7,false)]) (A:=⟨⟨[],[]⟩,[],[]⟩) (l:=(dU 3 (body Tryz.f54)).toList.drop 6) (fr:=[(22,B true),(1,.aw [WS l] 0),(4,I (uC l u k))])
    (Kk:=λc=>lk c.fr 31=B (r.gJ==0)) cC bZ (pW 6 _) rfl rfl ?_ Yq ad9 (hK _ w5 hj5).2 (.cons (by rw[h22];exact .bool) (.cons (f1 hj5 ((NN 1 (by decide)).trans k4)) (.cons (by rw[NN 4 (by decide),e44];exact .int) .nil))) ?_
   .exact⟨rfl,by omega,gL r,aD,rfl⟩
   rintro c a6 w6 h31 aea Tq Yr Tr hv6 _;have hj6:J (k+1) w6:=hJ _ w5 w6 hj5 Yr;have e31:=VR.ED (hv6 31 _ h31 rfl);have k6:=(Tr 1 rfl).trans ((NN 1 (by decide)).trans k4);have y6:=(Tr 0 rfl).trans ((NN 0 (by decide)).trans y4);have e46:a6.tmps.getD 4 undef=.int .i64 (uC l u k):=(Tr 4 rfl).trans ((NN 4 (by decide)).trans e44)
   show Code.wpIn _ _ _ _ _ a6 w6
   refine wpIn_cond_split (t:=(r.gJ==0)) e31 (λh0=>wpIn_ret ?_) (λh0=>wpIn_skip ?_)
   .have h0:r.gJ=0:=by simpa using h0
    refine⟨.inr rfl,Tq,.inl ⟨k+1,?_,hj6⟩⟩;unfold oy H6;rw[oX,if_pos h0,if_pos (by decide)];rfl
   .have h0:r.gJ≠0:=by simpa using h0
    rw[if_neg h0]at oX;have am7:=hJN _ w6 hj6
    show Code.wpIn _ _ _ _ _ a6 w6
    refine wZ (N:=32) (ks:=[0,1,2,4,9,31]) (gs:=[]) (wk:=[]) (ws:=[10,11,12,13,14,15,16,4]) (X:=X) cC bZ mixed (fr:=[(1,.aw [WS l] 0),(4,I (uC l u k))]) (Q:=λe c=>e=.normal/\lk c.fr 4=I (uC l u (k+1))) rfl rfl ?_ aea Tq (hK _ w6 hj6).2 (.cons (f1 hj6 k6) (.cons (by rw[e46];exact .int) .nil)) ?_
    .rw[oX]
     exact⟨by omega,gL r,aD,_,c29 l (by omega) r.gJ,rfl,rfl⟩
    rintro e c a7 w7 ⟨rfl,h4⟩ ajj ajk ajl aeb hv7;exact⟨Nb-(k+1),by omega,k+1,rfl,hJ _ w6 w7 hj6 ajl,ajj,ajk,(aeb 0 rfl).trans y6,(aeb 1 rfl).trans k6,VR.int_eq (hv7 4 _ h4 rfl)⟩
  .refine⟨_,rfl,?_⟩
   show wpOpsIn _ _ _ _ _ _ (a4.put (some 22) (.bool false)) w5
   have Yq:(a4.put (some 22) (.bool false)).tmps.size=32:=by show(a4.tmps.setIfInBounds 22 _).size=32;simp[ad8]
   have h22:(a4.put (some 22) (.bool false)).tmps.getD 22 undef=.bool false:=by
    show(a4.tmps.setIfInBounds 22 _).getD 22 undef=_
    rw[dI,qz (by omega)];rfl
   refine AU (N:=32) (ws:=[17,18,19,20,21,22,23,24,25,26,27,28,29,30,31]) (X:=X) (dm:=[(7,true)]) (A:=⟨⟨[],[]⟩,[],[]⟩) (l:=(dU 3 (body Tryz.f54)).toList.drop 6) (fr:=[(22,B false)])
    (Kk:=λc=>lk c.fr 31=B true) cC bZ (pW 6 _) rfl rfl ⟨rfl,rfl⟩ Yq ad9 (hWx w5 hx5) (.cons (by rw[h22];exact .bool) .nil) ?_
   rintro c a6 w6 h31 aea Tq Yr Tr hv6 _;have e31:=VR.ED (hv6 31 _ h31 rfl)
   show Code.wpIn _ _ _ _ _ a6 w6
   refine wpIn_cond_split (t:=true) e31 (λh0=>wpIn_ret ?_) (λh0=>by cases h0);exact⟨.inr rfl,Tq,.inr (hJx _ _ hx5 Yr)⟩
 case _=>
  have aC:uC l u k<0:=by simpa using aC
  refine⟨.inl rfl,ad7,.inl ⟨k,?_,hj3⟩⟩;unfold oy H6;rw[if_pos aC];rfl
theorem yW{l:List Rw}{u:Int}{k:Nat}{x:AV}(h:oy l u k=some x):∃r,H6 l u k=some r/\x=.agg (gL r):=by
 unfold oy at h
 cases hr:H6 l u k with
 |none=>rw[hr]at h;cases h
 |some r=>rw[hr]at h;cases h;exact⟨r,rfl,rfl⟩
theorem Ts{l:List Rw}{u:Int}{k:Nat}(h:uC l u k<0):∀m,k<=m->uC l u m= -1:=by
 intro m hm
 induction hm with
 |refl=>rcases w9 l u k with h1|⟨i,r,h1,_⟩;exact h1;omega
 |step hm ih=>
  simp only[uC]
  split
  .rw[if_pos (.inl (by rw[ih];decide))]
  .rfl
theorem GY{l:List Rw}{u:Int}{k m:Nat}(h:oy l u k=none)(hm:k<=m):oy l u m=none:=by
 have hk:uC l u k<0:=by
  unfold oy H6 at h
  split at h
  .assumption
  .rcases w9 l u k with h1|⟨i,r,h1,h2⟩
   .rw[h1];decide
   .rw[h1,aY,h2]at h;cases h
 unfold oy H6;rw[Ts hk m hm,if_pos (by decide)];rfl
def Ys(r:Rw):Bool:= !cj r.unit||decide (r.gJ<0)||decide (r.gJ>1073741824)||decide (r.bX<0)||decide (r.bX>1073741824)
def rm(cf:Option Int):List Rw->Int
 |[]=>0
 |r::l=>if Ys r=true then 2 else if(match cf with|some p=>decide (r.unit<=p)|none=>false)=true then 5 else rm (some r.unit) l
def tn(l:List Rw)(r:Rw):Bool:=decide (r.gJ≠0)&&decide (Mo l r.gJ<0)
def Dc(l:List Rw)(r:Rw):Bool:=(oy l r.unit l.length).isSome
def jr(l:List Rw):Int:=if 256<l.length then 8 else if rm none l≠0 then rm none l else if l.any (tn l)=true then 7 else if l.any (Dc l)=true then 17 else 0
abbrev OW(l:List Rw)(e:Int):List (Nat×ak):=[(16,⟨22,1,.any,[[WS l]],[]⟩),(32,⟨54,1,.any,[[I e]],[]⟩)]
theorem c9r(l:List Rw)(hl:l.length<=100000):Fn kg 9 [WS l] (I (jr l)):=by
 refine aiI [] [] rfl ⟨rfl,rfl,λh=>?_,λh=>?_⟩
 .have h:(256:Int)<l.length:=aP h
  rw[jr,if_pos (by omega)];exact⟨rfl,_,aj.refl _ _,rfl,rfl,rfl⟩
 .have h:¬(256:Int)<l.length:=j0 h
  rw[jr,if_neg (by omega)];refine⟨rfl,?_⟩;refine⟨λn c=>∃(i:Nat)(cf:Option Int),i<=l.length/\n=l.length-i/\(∀j,i=j+1->∃s,l[j]?=some s/\cf=some s.unit)/\(i=0->cf=none)/\rm cf (l.drop i)=rm none l/\c=⟨[(1,.af 16 0),(2,.af 32 0),(13,WS l),(14,I l.length),(15,I i)],OW l 0⟩,
   ⟨_,_,aj.ad [1,2,13,14,15] [16,32],0,none,by omega,rfl,λj h=>(by omega),λ_=>rfl,by simp,rfl⟩,?_⟩
  rintro n c ⟨i,cf,hi,rfl,hp1,Py,hI,rfl⟩;refine⟨rfl,λaC=>?_,λaC=>?_⟩
  .simp at aC
   obtain⟨r,hr,hd,_⟩:=aq aC;rw[hd]at hI;simp only[rm]at hI;refine⟨rfl,by omega,gL r,by simp[hr],rfl,[],_,c28 r.unit,λhb=>?_,λhb=>?_⟩
   .have hb:Ys r=true:=hb
    rw[if_pos hb]at hI;rw[if_pos (by rw[<-hI];decide),<-hI];exact⟨rfl,_,aj.refl _ _,rfl,rfl,rfl⟩
   .have hb:Ys r=false:=hb
    rw[if_neg (by simp[hb])]at hI
    cases i with
    |zero=>
     have:=Py rfl;subst this;rw[if_neg (by simp)]at hI;refine⟨rfl,[(2,false)],rfl,λh=>(by cases h),λ_=>⟨rfl,_,ah,?_⟩⟩;exact⟨_,_,aj.ad [1,2,13,14,15] [16,32],by omega,1,some r.unit,by omega,rfl,λk h=>⟨r,by rw[show k=0 by omega];exact hr,rfl⟩,λh=>(by cases h),hI,rfl⟩
    |succ i=>
     obtain⟨q,hq,rfl⟩:=hp1 i rfl;refine⟨rfl,[(2,true)],by simp,_,au (y:=((i:Nat):Int)) (by omega),by omega,gL q,by simp[hq],λeY=>?_,λeY=>?_⟩
     .have eY:decide (r.unit<=q.unit)=true:=eY
      simp only at hI;rw[if_pos eY]at hI;rw[if_pos (by rw[<-hI];decide),<-hI];exact⟨rfl,_,aj.refl _ _,rfl,rfl,rfl⟩
     .have eY:decide (r.unit<=q.unit)=false:=eY
      simp only at hI;rw[if_neg (by rw[eY];simp)]at hI;refine⟨rfl,_,ah,?_⟩;exact⟨_,_,aj.ad [1,2,13,14,15] [16,32],by omega,i+1+1,some r.unit,by omega,rfl,λk h=>⟨r,by rw[show k=i+1 by omega];exact hr,rfl⟩,λh=>(by cases h),hI,rfl⟩
  .simp at aC
   have:i=l.length:=by omega
   subst this;simp only[j4,rm]at hI;rw[if_neg (by rw[<-hI];decide)];refine⟨rfl,?_⟩;refine⟨λn c=>∃(i:Nat),i<=l.length/\n=l.length-i/\(∀r∈l.take i,tn l r=false)/\c=⟨[(1,.af 16 0),(2,.af 32 0),(60,WS l),(61,I l.length),(62,I i)],OW l 0⟩,
    ⟨_,_,aj.ad [1,2,60,61,62] [16,32],0,by omega,rfl,by simp,rfl⟩,?_⟩
   rintro n c ⟨i,hi,rfl,hI2,rfl⟩;refine⟨rfl,λaC=>?_,λaC=>?_⟩
   .simp at aC
    obtain⟨r,hr,hd,ht⟩:=aq aC;have cY:tn l r=false->∀r∈l.take (i+1),tn l r=false:=λh x hx=>by
     rw[ht]at hx
     rcases cE.1 hx with hx|hx
     .exact hI2 x hx
     .rw[iw.1 hx];exact h
    have ajm:tn l r=true->l.any (tn l)=true:=λh=>zm.2 ⟨r,ay hr,h⟩
    refine⟨rfl,by omega,gL r,by simp[hr],rfl,?_⟩
    by_cases hp:r.gJ=0
    .have kL:tn l r=false:=by unfold tn;simp[hp]
     refine⟨[(3,false)],by simp[hp],λh=>(by cases h),λ_=>⟨rfl,_,ah,?_⟩⟩;exact⟨_,_,aj.ad [1,2,60,61,62] [16,32],by omega,i+1,by omega,rfl,cY kL,rfl⟩
    .refine⟨[(3,true)],by simp[hp],_,c29 l (by omega) r.gJ,λhb=>?_,λhb=>?_⟩
     .have hb:decide (Mo l r.gJ<0)=true:=hb
      rw[if_pos (ajm (by unfold tn;rw[hb];simp[hp]))];exact⟨rfl,_,aj.refl _ _,rfl,rfl,rfl⟩
     .have hb:decide (Mo l r.gJ<0)=false:=hb
      refine⟨rfl,_,ah,?_⟩;exact⟨_,_,aj.ad [1,2,60,61,62] [16,32],by omega,i+1,by omega,rfl,cY (by unfold tn;rw[hb];simp),rfl⟩
   .simp at aC
    have:i=l.length:=by omega
    subst this;rw[oB]at hI2;rw[if_neg (by intro h;obtain⟨r,h1,h2⟩:=zm.1 h;rw[hI2 r h1]at h2;cases h2)];refine⟨rfl,?_⟩;refine⟨λn c=>∃(i:Nat),i<=l.length/\n=l.length-i/\(∀r∈l.take i,Dc l r=false)/\c=⟨[(1,.af 16 0),(2,.af 32 0),(77,WS l),(78,I l.length),(79,I i)],OW l 0⟩,
     ⟨_,_,aj.ad [1,2,77,78,79] [16,32],0,by omega,rfl,by simp,rfl⟩,?_⟩
    rintro n c ⟨i,hi,rfl,hI3,rfl⟩;refine⟨rfl,λaC=>?_,λaC=>?_⟩
    .simp at aC
     obtain⟨r,hr,hd,ht⟩:=aq aC;refine⟨rfl,by omega,gL r,by simp[hr],rfl,rfl,_,c30 l r.unit,?_⟩;refine⟨rfl,oy l r.unit,s98 l hl r.unit,λi x h=>sC i x h,
      λk O=>k<=l.length/\O=[(16,⟨22,1,.any,[[WS l]],[]⟩),(32,⟨54,1,.any,[[I 0]],[]⟩),(128,⟨58,3,.any,[gL r],[]⟩),(144,⟨3,1,.any,[[I k]],[]⟩)],
      λe O=>e=.ret/\Dc l r=true/\O=[(16,⟨22,1,.any,[[WS l]],[]⟩),(32,⟨54,1,.any,[[I 17]],[]⟩),(128,⟨58,3,.any,[gL r],[]⟩),(144,⟨3,1,.any,[[I (l.length+1:Nat)]],[]⟩)],
      l.length+1,⟨by omega,rfl⟩,λk O h=>by have:=h.1;omega,?_,?_,?_⟩
     .rintro k x O hx ⟨hk,rfl⟩
      obtain⟨r',jV,rfl⟩:=yW hx;refine⟨rfl,((k+1:Nat):Int),au (by omega),λtp=>?_,λtp=>?_⟩
      .have tp:decide (((k+1:Nat):Int)>l.length)=true:=tp
       have:k=l.length:=by have:=aP tp;omega
       subst this;refine⟨_,aj.ad [1,2,8,9,77,78,79,80,86] [16,32,128,144],rfl,by unfold Dc oy;rw[jV];rfl,rfl⟩
      .have tp:decide (((k+1:Nat):Int)>l.length)=false:=tp
       have:=j0 tp;exact⟨_,aj.ad [1,2,8,9,77,78,79,80,86] [16,32,128,144],by omega,rfl⟩
     .rintro k O hx ⟨hk,rfl⟩
      refine⟨rfl,_,ah,?_⟩;refine⟨_,_,aj.ad [1,2,77,78,79] [16,32],by omega,i+1,by omega,rfl,λx sU=>?_,rfl⟩;rw[ht]at sU
      rcases cE.1 sU with sU|sU
      .exact hI3 x sU
      .rw[iw.1 sU]
       unfold Dc;rw[GY hx hk];rfl
     .rintro e O dW ⟨rfl,kL,rfl⟩
      rw[if_pos (zm.2 ⟨r,ay hr,kL⟩)];exact⟨_,aj.refl _ _,rfl,rfl,rfl⟩
    .simp at aC
     have:i=l.length:=by omega
     subst this;rw[oB]at hI3;rw[if_neg (by intro h;obtain⟨r,h1,h2⟩:=zm.1 h;rw[hI3 r h1]at h2;cases h2)];exact⟨rfl,_,aj.refl _ _,rfl,rfl,rfl⟩
theorem GZ(n a b:Int):Fn kg 192 [I n,I a,I b] (B (eC n a b)):=aH acj ⟨[],rfl,rfl,rfl⟩
def qp(c:Ct):Bool:=eC c.unit 1 1073741824&&eC c.jN 1 10000
theorem Yt(c:Ct):Fn kg 195 [.agg (eT c)] (B (qp c)):=aH acm ⟨[],_,GZ c.unit 1 1073741824,_,GZ c.jN 1 10000,rfl,rfl,rfl⟩
theorem ajn(c:Ct):Fn kg 194 [.agg (eT c)] (B (!qp c)):=aH ack ⟨_,Yt c,rfl,rfl,rfl⟩
def eU:List Ct->Int
 |[]=>0
 |c::r=>c.jN+eU r
theorem A1:∀{l:List Ct},(∀c∈l,qp c=true)->0<=eU l/\eU l<=10000*l.length
 |[],_=>by simp[eU]
 |c::r,h=>by
  have h1:=A1 (l:=r) λx hx=>h x (by simp[hx])
  have h2:=h c (by simp);simp only[qp,eC,aA,zp]at h2;simp only[eU,bB];omega
theorem A3:∀(l m:List Ct),eU (l++m)=eU l+eU m
 |[],m=>by simp[eU]
 |c::r,m=>by simp[eU,A3 r m];omega
theorem Yu(l:List Ct)(hl:l.length<=100000)(h:∀c∈l,qp c=true):Fn kg 196 [CS l] (I (eU l)):=by
 refine aH acn ⟨λn c=>∃i:Nat,i<=l.length/\n=l.length-i/\c=⟨[(3,I (eU (l.take i))),(6,CS l),(7,I l.length),(8,I i)],[]⟩,⟨_,_,Wk.ad [3,6,7,8] [],0,by omega,rfl,rfl⟩,?_⟩;rintro n c ⟨i,hi,rfl,rfl⟩;refine⟨λaC=>?_,λaC=>?_⟩
 .simp at aC
  obtain⟨a,ha,_,ht⟩:=aq aC;have hb:=A1 (l:=l.take i) λx hx=>h x (my hx)
  have ha':=h a (ay ha);simp only[qp,eC,aA,zp]at ha';have cz:(l.take i).length=i:=by simp;omega
  rw[cz]at hb;refine⟨by omega,eT a,by simp[ha],_,au (y:=eU (l.take (i+1))) (by rw[ht,A3];simp[eU]) (by omega) (by omega),_,ah,?_⟩;exact⟨_,_,Wk.ad [3,6,7,8] [],by omega,i+1,by omega,rfl,rfl⟩
 .simp at aC
  have:i=l.length:=by omega
  subst this;rw[oB];exact⟨rfl,rfl,rfl⟩
def cx(b:Bx):Int:=
 if eC b.id 1 1073741824=false∨eC b.bc 1 10000=false∨eC b.room 1 b.bc=false∨eC b.dZ 0 7=false∨(b.ma.any λc=> !qp c)=true then 2
 else if 32<b.ma.length then 8 else if b.room<eU b.ma then 12 else 0
theorem ajo(b:Bx)(hl:b.ma.length<=9223372036854775807):Fn kg 133 [.agg (bj b)] (I (cx b)):=by
 refine aH abW ⟨[],_,GZ b.id 1 1073741824,_,GZ b.bc 1 10000,_,GZ b.room 1 b.bc,_,GZ b.dZ 0 7,_,ad2 b.ma hl _ 194 (λa _=>ajn a),?_⟩;have xV:(!eC b.id 1 1073741824|| !eC b.bc 1 10000|| !eC b.room 1 b.bc|| !eC b.dZ 0 7||b.ma.any λc=> !qp c)=true↔(eC b.id 1 1073741824=false∨eC b.bc 1 10000=false∨eC b.room 1 b.bc=false∨eC b.dZ 0 7=false∨(b.ma.any λc=> !qp c)=true):=by
  simp[pj,ee]
 refine⟨λh1=>?_,λh1=>⟨λh2=>?_,λh2=>?_⟩⟩
 .rw[cx,if_pos (xV.1 h1)];exact⟨rfl,rfl,rfl⟩
 .have od:=λh=>no (p:=False) (xV.2 h) h1
  have h2:(32:Int)<b.ma.length:=aP h2;rw[cx,if_neg od,if_pos (by omega)];exact⟨rfl,rfl,rfl⟩
 .have od:=λh=>no (p:=False) (xV.2 h) h1
  have h2:¬(32:Int)<b.ma.length:=j0 h2;have hc:∀c∈b.ma,qp c=true:=by
   intro c hc
   cases hq:qp c with
   |true=>rfl
   |false=>exact(od (.inr (.inr (.inr (.inr (zm.2 ⟨c,hc,by simp[hq]⟩)))))).elim
  refine⟨_,Yu b.ma (by omega) hc,λh3=>?_,λh3=>?_⟩
  .have h3:b.room<eU b.ma:=aP h3
   rw[cx,if_neg od,if_neg (by omega),if_pos h3];exact⟨rfl,rfl,rfl⟩
  .have h3:¬b.room<eU b.ma:=j0 h3
   rw[cx,if_neg od,if_neg (by omega),if_neg h3];exact⟨rfl,rfl,rfl⟩
def Yv(s:Sh):Bool:= !eC s.id 1 1073741824|| !eC s.Yn 1 1073741824|| !eC s.len 1 10000|| !eC s.dZ 0 7
def Mp(cf:Option Int):List Sh->Int
 |[]=>0
 |s::r=>if Yv s=true then 2 else if(match cf with|some p=>decide (s.id<=p)|none=>false)=true then 5 else Mp (some s.id) r
def dx(l:List Sh):Int:=if 32<l.length then 8 else Mp none l
theorem c97(l:List Sh)(hl:l.length<=9223372036854775807):Fn kg 97 [SS l] (I (dx l)):=by
 refine aH aiu ⟨λh=>?_,λh=>?_⟩
 .have h:(32:Int)<l.length:=aP h
  rw[dx,if_pos (by omega)];exact⟨rfl,rfl,rfl⟩
 .have h:¬(32:Int)<l.length:=j0 h
  rw[dx,if_neg (by omega)];refine⟨λn c=>∃(i:Nat)(cf:Option Int),i<=l.length/\n=l.length-i/\c=⟨[(0,SS l),(2,I 0),(8,SS l),(9,I l.length),(10,I i)],[]⟩/\(∀j,i=j+1->∃s,l[j]?=some s/\cf=some s.id)/\(i=0->cf=none)/\Mp cf (l.drop i)=Mp none l,
   ⟨_,_,Wk.ad [0,2,8,9,10] [],0,none,by omega,rfl,rfl,λj h=>(by omega),λ_=>rfl,by simp⟩,?_⟩
  rintro n c ⟨i,cf,hi,rfl,rfl,hp1,Py,hI⟩;refine⟨λaC=>?_,λaC=>?_⟩
  .simp at aC
   obtain⟨s,hs,hd,_⟩:=aq aC;rw[hd]at hI;simp only[Mp]at hI;refine⟨by omega,eN s,by simp[hs],[],_,Th s.id 1 1073741824,_,Th s.Yn 1 1073741824,_,Th s.len 1 10000,_,Th s.dZ 0 7,λhb=>?_,λhb=>?_⟩
   .have hb:Yv s=true:=hb
    rw[if_pos hb]at hI;exact⟨rfl,rfl,by rw[<-hI];rfl⟩
   .have hb:Yv s=false:=hb
    rw[if_neg (by rw[hb];simp)]at hI
    cases i with
    |zero=>
     have:=Py rfl;subst this;rw[if_neg (by simp)]at hI;refine⟨[(2,false)],rfl,λh=>(by cases h),λ_=>?_⟩;refine⟨_,ah,?_⟩;exact⟨_,_,Wk.ad [0,2,8,9,10] [],by omega,1,some s.id,by omega,rfl,rfl,λj h=>⟨s,by rw[show j=0 by omega];exact hs,rfl⟩,λh=>(by cases h),hI⟩
    |succ j=>
     obtain⟨q,hq,rfl⟩:=hp1 j rfl;refine⟨[(2,true)],by simp,_,au (y:=((j:Nat):Int)) (by omega),by omega,eN q,by simp[hq],λeY=>?_,λeY=>?_⟩
     .have eY:decide (s.id<=q.id)=true:=eY
      simp only at hI;rw[if_pos eY]at hI;exact⟨rfl,rfl,by rw[<-hI];rfl⟩
     .have eY:decide (s.id<=q.id)=false:=eY
      simp only at hI;rw[if_neg (by rw[eY];simp)]at hI;refine⟨_,ah,?_⟩;exact⟨_,_,Wk.ad [0,2,8,9,10] [],by omega,j+1+1,some s.id,by omega,rfl,rfl,λk h=>⟨s,by rw[show k=j+1 by omega];exact hs,rfl⟩,λh=>(by cases h),hI⟩
  .simp at aC
   have:i=l.length:=by omega
   subst this;simp[Mp]at hI;exact⟨rfl,rfl,by rw[<-hI];rfl⟩
def oj(seen:List Int):List Ct->Option (List Int)
 |[]=>some seen
 |c::r=>if c.unit∈seen then none else oj (seen++[c.unit]) r
def vN(cf:Option Int)(seen:List Int):List Bx->Int
 |[]=>0
 |b::r=>if cx b≠0 then cx b else if(match cf with|some p=>decide (b.id<=p)|none=>false)=true then 5 else
   match oj seen b.ma with
   |none=>6
   |some s=>vN (some b.id) s r
def jk(l:List Bx):Int:=if 128<l.length then 8 else vN none [] l
abbrev SE(seen:List Int):List (List AV):=seen.map λu=>[I u,B true]
theorem EG(u:Int):∀seen:List Int,mB (I u) (SE seen)=if u∈seen then some [B true]else none
 |[]=>rfl
 |x::r=>by
  have ih:=EG u r;simp only[cU,mB,mh]
  by_cases h:u=x
  .subst h;simp
  .have hb:(u==x)=false:=by simpa using h
   simp only[hb,bK,h,false_or];exact ih
theorem EH(u:Int):∀seen:List Int,u∉seen->wx (I u) [B true] (SE seen)=SE (seen++[u])
 |[],_=>rfl
 |x::r,h=>by
  simp only[bK,not_or]at h;have ih:=EH u r h.2;have hb:(u==x)=false:=by simpa using h.1
  simp only[cU,wx,mh,hb,nB];exact gQ _ ih
abbrev OM(seen:List Int):List (Nat×ak):=[(192,⟨248,2,.map false false,[],SE seen⟩)]
theorem RG(l:List Bx)(hl:l.length<=9223372036854775807)(hc:∀b∈l,b.ma.length<=100000):Fn kg 96 [BS l] (I (jk l)):=by
 refine aH ait ⟨λh=>?_,λh=>?_⟩
 .have h:(128:Int)<l.length:=aP h
  rw[jk,if_pos (by omega)];exact⟨rfl,rfl,rfl⟩
 .have h:¬(128:Int)<l.length:=j0 h
  rw[jk,if_neg (by omega)];refine⟨λn c=>∃(i:Nat)(cf:Option Int)(seen:List Int),i<=l.length/\n=l.length-i/\c=⟨[(0,BS l),(2,I 0),(3,.dX 192),(13,BS l),(14,I l.length),(15,I i)],OM seen⟩/\(∀j,i=j+1->∃s,l[j]?=some s/\cf=some s.id)/\(i=0->cf=none)/\vN cf seen (l.drop i)=vN none [] l,
   ⟨_,_,Wk.ad [0,2,3,13,14,15] [192],0,none,[],by omega,rfl,rfl,λj h=>(by omega),λ_=>rfl,by simp⟩,?_⟩
  rintro n c ⟨i,cf,seen,hi,rfl,rfl,hp1,Py,hI⟩;refine⟨λaC=>?_,λaC=>?_⟩
  .simp at aC
   obtain⟨b,hb,hd,_⟩:=aq aC;have hcb:=hc b (ay hb);rw[hd]at hI;simp only[vN]at hI;refine⟨by omega,bj b,by simp[hb],_,ajo b (by omega),λhf=>?_,λhf=>?_⟩
   .have hf:cx b≠0:=by simpa using hf
    rw[if_pos hf]at hI;rw[<-hI];exact⟨rfl,rfl,rfl⟩
   .have hf:cx b=0:=by simpa using hf
    rw[if_neg (by simp[hf])]at hI
    cases i with
    |zero=>
     have:=Py rfl;subst this;rw[if_neg (by simp)]at hI;refine⟨[(2,false)],rfl,λh=>(by cases h),λ_=>?_⟩;refine⟨λn c=>∃(j:Nat)(sn:List Int),j<=b.ma.length/\n=b.ma.length-j/\c=⟨[(0,BS l),(2,I 0),(3,.dX 192),(13,BS l),(14,I l.length),(15,I ((0:Nat):Int)),(39,CS b.ma),(40,I b.ma.length),(41,I j)],OM sn⟩/\oj sn (b.ma.drop j)=oj seen b.ma,
      ⟨_,_,Wk.ad [0,2,3,13,14,15,39,40,41] [192],0,seen,by omega,rfl,rfl,by simp⟩,?_⟩
     rintro n c ⟨j,sn,hj,rfl,rfl,hJ⟩;refine⟨λaC=>?_,λaC=>?_⟩
     .simp at aC
      obtain⟨x,hx,hdx,_⟩:=aq aC;rw[hdx]at hJ;simp only[oj]at hJ;have hm:=EG x.unit sn;refine⟨by omega,eT x,by simp[hx],?_⟩
      by_cases wq:x.unit∈sn
      .rw[if_pos wq]at hm hJ
       rw[<-hJ]at hI;exact⟨true,_,hm,λ_=>⟨rfl,rfl,by rw[<-hI];rfl⟩,λh=>(by cases h)⟩
      .rw[if_neg wq]at hm hJ
       refine⟨false,hm,λh=>(by cases h),λ_=>?_⟩;refine⟨_,ah,?_⟩;refine⟨_,_,Wk.ad [0,2,3,13,14,15,39,40,41] [192],by omega,j+1,sn++[x.unit],by omega,rfl,?_,hJ⟩
       show _=(⟨_,[(192,⟨248,2,.map false false,[],SE (sn++[x.unit])⟩)]⟩:aM);rw[<-EH x.unit sn wq];rfl
     .simp at aC
      have:j=b.ma.length:=by omega
      subst this;simp only[j4,oj]at hJ;rw[<-hJ]at hI;refine⟨_,ah,?_⟩;exact⟨_,_,Wk.ad [0,2,3,13,14,15] [192],by omega,1,some b.id,sn,by omega,rfl,rfl,λk h=>⟨b,by rw[show k=0 by omega];exact hb,rfl⟩,λh=>(by cases h),hI⟩
    |succ i=>
     obtain⟨q,hq,rfl⟩:=hp1 i rfl;refine⟨[(2,true)],by simp,_,au (y:=((i:Nat):Int)) (by omega),by omega,bj q,by simp[hq],λeY=>?_,λeY=>?_⟩
     .have eY:decide (b.id<=q.id)=true:=eY
      simp only at hI;rw[if_pos eY]at hI;exact⟨rfl,rfl,by rw[<-hI];rfl⟩
     .have eY:decide (b.id<=q.id)=false:=eY
      simp only at hI;rw[if_neg (by rw[eY];simp)]at hI;refine⟨λn c=>∃(j:Nat)(sn:List Int),j<=b.ma.length/\n=b.ma.length-j/\c=⟨[(0,BS l),(2,I 0),(3,.dX 192),(13,BS l),(14,I l.length),(15,I ((i+1:Nat):Int)),(39,CS b.ma),(40,I b.ma.length),(41,I j)],OM sn⟩/\oj sn (b.ma.drop j)=oj seen b.ma,
       ⟨_,_,Wk.ad [0,2,3,13,14,15,39,40,41] [192],0,seen,by omega,rfl,rfl,by simp⟩,?_⟩
      rintro n c ⟨j,sn,hj,rfl,rfl,hJ⟩;refine⟨λaC=>?_,λaC=>?_⟩
      .simp at aC
       obtain⟨x,hx,hdx,_⟩:=aq aC;rw[hdx]at hJ;simp only[oj]at hJ;have hm:=EG x.unit sn;refine⟨by omega,eT x,by simp[hx],?_⟩
       by_cases wq:x.unit∈sn
       .rw[if_pos wq]at hm hJ
        rw[<-hJ]at hI;exact⟨true,_,hm,λ_=>⟨rfl,rfl,by rw[<-hI];rfl⟩,λh=>(by cases h)⟩
       .rw[if_neg wq]at hm hJ
        refine⟨false,hm,λh=>(by cases h),λ_=>?_⟩;refine⟨_,ah,?_⟩;refine⟨_,_,Wk.ad [0,2,3,13,14,15,39,40,41] [192],by omega,j+1,sn++[x.unit],by omega,rfl,?_,hJ⟩
        show _=(⟨_,[(192,⟨248,2,.map false false,[],SE (sn++[x.unit])⟩)]⟩:aM);rw[<-EH x.unit sn wq];rfl
      .simp at aC
       have:j=b.ma.length:=by omega
       subst this;simp only[j4,oj]at hJ;rw[<-hJ]at hI;refine⟨_,ah,?_⟩;exact⟨_,_,Wk.ad [0,2,3,13,14,15] [192],by omega,i+1+1,some b.id,sn,by omega,rfl,rfl,λk h=>⟨b,by rw[show k=i+1 by omega];exact hb,rfl⟩,λh=>(by cases h),hI⟩
  .simp at aC
   have:i=l.length:=by omega
   subst this;simp[vN]at hI;exact⟨rfl,rfl,by rw[<-hI];rfl⟩
abbrev HS(ls:List Sh)(bs:List Bx):AV:=.agg [SS ls,BS bs]
def nO(ls:List Sh)(n:Int):Int:=aQ (λs:Sh=>s.id==n) 0 ls
def BQ(bs:List Bx)(n:Int):Int:=aQ (λb:Bx=>b.id==n) 0 bs
theorem ajp(s:Sh)(n:Int):Fn kg 121 [.agg (eN s),.aw [I n] 0] (B (s.id==n)):=aH abM ⟨rfl,rfl,rfl⟩
theorem ajq(s:Bx)(n:Int):Fn kg 119 [.agg (bj s),.aw [I n] 0] (B (s.id==n)):=aH abK ⟨rfl,rfl,rfl⟩
theorem c88(ls:List Sh)(bs:List Bx)(n:Int)(hl:ls.length<=9223372036854775807):Fn kg 88 [HS ls bs,I n] (I (nO ls n)):=
 aH aiq ⟨_,KD ls hl _ 121 [I n] (λa _=>ajp a n),rfl,rfl,rfl⟩
theorem c86(ls:List Sh)(bs:List Bx)(n:Int)(hl:bs.length<=9223372036854775807):Fn kg 86 [HS ls bs,I n] (I (BQ bs n)):=
 aH aip ⟨_,GX bs hl _ 119 [I n] (λa _=>ajq a n),rfl,rfl,rfl⟩
def uk(L:Int):Nat->Int->Bool
 |0,_=>true
 |n+1,s=>if 4096<s*L then false else uk L n (s*L)
def nP(ls:List Sh)(bs:List Bx):Int:=if dx ls≠0∨jk bs≠0 then 1 else if uk ls.length bs.length 1=false then 8 else 0
def rn(ls:List Sh)(bs:List Bx):AV:=if nP ls bs=0 then HS ls bs else .agg [.ai,.ai]
theorem nQ{ls:List Sh}(h:dx ls=0):ls.length<=32:=by
 unfold dx at h
 split at h
 .cases h
 .omega
theorem yX{bs:List Bx}(h:jk bs=0):bs.length<=128:=by
 unfold jk at h
 split at h
 .cases h
 .omega
theorem c82(ls:List Sh)(bs:List Bx)(hl:ls.length<=9223372036854775807)(hb:bs.length<=9223372036854775807)(hc:∀b∈bs,b.ma.length<=100000):Fn kg 82 [.aL 4 ls.length (ls.map eN),.aL 5 bs.length (bs.map bj)] (.bY [rn ls bs,I (nP ls bs)]):=by
 have xV:∀q:Bool,q=(dx ls !=0||jk bs !=0)->(q=true↔(dx ls≠0∨jk bs≠0)):=by
  rintro q rfl;simp
 have main:(dx ls≠0∨jk bs≠0)->nP ls bs=1/\rn ls bs=.agg [.ai,.ai]:=by
  intro h;have e:nP ls bs=1:=by unfold nP;rw[if_pos h]
  exact⟨e,by unfold rn;rw[e];rfl⟩
 refine aH aim ?_
 by_cases hs:dx ls=0
 .refine⟨[(3,false)],_,c97 ls hl,by simp[hs],_,RG bs hb hc,λh=>?_,λh=>?_⟩
  .have h:jk bs≠0:=by simpa using h
   obtain⟨e1,e2⟩:=main (.inr h);rw[e1,e2];exact⟨_,_,rfl,⟨rfl,rfl⟩,rfl,rfl,trivial⟩
  .have h:jk bs=0:=by simpa using h
   have hL:=nQ hs;have hB:=yX h;have e0:nP ls bs=if uk ls.length bs.length 1=false then 8 else 0:=by unfold nP;rw[if_neg (by simp[hs,h])]
   refine⟨λn c=>∃(i:Nat)(s:Int),i<=bs.length/\n=bs.length-i/\c=⟨[(0,SS ls),(1,BS bs),(4,.af 64 0),(5,I 0),(6,I s),(17,I bs.length),(18,I i)],[(64,⟨119,2,.any,[[.ai,.ai]],[]⟩)]⟩/\0<=s/\s<=4096/\uk ls.length (bs.length-i) s=uk ls.length bs.length 1,
    ⟨_,_,Wk.ad [0,1,4,5,6,17,18] [64],0,1,by omega,rfl,rfl,by omega,by omega,by simp⟩,?_⟩
   rintro n c ⟨i,s,hi,rfl,rfl,SX,lS,hI⟩;refine⟨λaC=>?_,λaC=>?_⟩
   .simp at aC
    have hmul:0<=s*ls.length/\s*ls.length<=4096*32:=by
     refine⟨Int.mul_nonneg SX (by omega),?_⟩;exact Int.mul_le_mul lS (by omega) (by omega) (by omega)
    rw[show bs.length-i=(bs.length-(i+1))+1 by omega,uk]at hI;refine⟨_,ah,λhg=>?_,λhg=>?_⟩
    .have hg:4096<s*ls.length:=aP hg
     rw[if_pos hg]at hI;have e:nP ls bs=8:=by rw[e0,<-hI];rfl
     have e2:rn ls bs=.agg [.ai,.ai]:=by unfold rn;rw[e];rfl
     rw[e,e2];exact⟨_,_,rfl,⟨rfl,rfl⟩,rfl,rfl,trivial⟩
    .have hg:¬4096<s*ls.length:=j0 hg
     rw[if_neg hg]at hI;refine⟨_,ah,?_⟩;exact⟨_,_,Wk.ad [0,1,4,5,6,17,18] [64],by omega,i+1,_,by omega,rfl,rfl,by omega,by omega,hI⟩
   .simp at aC
    have:i=bs.length:=by omega
    subst this;rw[Nat.sub_self,uk]at hI;have e:nP ls bs=0:=by rw[e0,<-hI];rfl
    have e2:rn ls bs=HS ls bs:=by unfold rn;rw[if_pos e]
    rw[e,e2];exact⟨_,_,rfl,⟨rfl,rfl⟩,rfl,rfl,trivial⟩
 .refine⟨[(3,true)],_,c97 ls hl,by simp[hs],λ_=>?_,λh=>(by cases h)⟩
  obtain⟨e1,e2⟩:=main (.inl hs);rw[e1,e2];exact⟨_,_,rfl,⟨rfl,rfl⟩,rfl,rfl,trivial⟩
end Go.an.ax
