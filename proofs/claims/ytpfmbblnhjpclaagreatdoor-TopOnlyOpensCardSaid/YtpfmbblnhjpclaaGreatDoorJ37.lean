import Derived.Test.YtpfmbblnhjpclaaGreatDoorJ36
import Derived.Test.YtpfmbblnhjpclaaGreatDoorJ25
set_option linter.unusedVariables false
set_option linter.unusedSimpArgs false
set_option maxRecDepth 20000
namespace Go.an.ax.G
open Go Go.an Go.an.Day Go.Proofs Go.RowKit
theorem wg{st:Int}{can:Nat->Bool}{l:List dE}{n d:Int}(h:(Rq.tx st can l n d).2=0):(Rq.tx st can l n d).1.length<=256:=by
 unfold Rq.tx at h⊢
 split
 .simp
 .rename_i hc
  have:=Rq.ik (l:=l) (by simpa using hc)
  split
  .simp
  .split
   .split
    .simp
    .split
     .simp
     .simp;omega
   .simp
theorem alC(u:St)(l:List Rw)(e:Vt)(hz:u.sz)(hm:jl u.ms)(hF:zi e 2 0 false (-1)):yj 165 u l e λu'=>∃qs ms,u'={u with qs:=qs,ms:=ms}/\qs.length<=256/\ms.length<=u.ms.length+1:=by
 obtain⟨id,aR,kind,eH,cG⟩:=e;obtain⟨a,b,jw⟩:=agz (hF.more rfl);simp only at jw;subst jw;obtain⟨r,bb,Jy⟩:=Uv u hz l ⟨id,aR,kind,[a,b],cG⟩ a
 by_cases h0:b=0
 .subst h0
  have ZY:=Rq.ak9 u.qs a aR
  by_cases h2:(Rq.zh u.qs a aR).2=0
  .obtain⟨u',er,MQ,hR⟩:=Qr {u with qs:=(Rq.zh u.qs a aR).1} hm l ⟨id,aR,kind,[a,0],cG⟩ r.bx 2 0
   rw[h2]at ZY;refine⟨.no,er,.inl ⟨u',dK AY [(9,[4])] [] (eI _ _ _ _) ⟨⟨by decide,by simp⟩,[I 0],rfl,λ_=>?_,λh=>by cases h⟩,?_⟩⟩
   .refine⟨⟨by decide,by simp⟩,[I a],rfl,_,Jy,?_⟩
    refine⟨⟨by decide,by simp⟩,[I a],rfl,_,ZY,true,λh=>(by cases h),λ_=>?_⟩;refine⟨_,aj.ad [53,55,56] [18],_,I er,[18],MQ,rfl,?_⟩;exact⟨_,aj.ad [2] [18],rfl,rfl,rfl⟩
   .intro h
    obtain⟨m,rfl⟩:=hR h;exact⟨_,_,rfl,wg h2,by simp⟩
  .refine⟨.no,_,.inl ⟨u,dK AY [(9,[4])] [] (eI _ _ _ _) ⟨⟨by decide,by simp⟩,[I 0],rfl,λ_=>?_,λh=>by cases h⟩,λh=>absurd h h2⟩⟩
   refine⟨⟨by decide,by simp⟩,[I a],rfl,_,Jy,?_⟩;refine⟨⟨by decide,by simp⟩,[I a],rfl,_,ZY,true,λh=>?_,λh=>absurd h (by simp[h2])⟩;exact⟨_,aj.ad [2] [18],rfl,rfl,rfl⟩
 .by_cases h1:b=1
  .subst h1
   have Jz:=Rq.afm u.qs a aR true
   by_cases h2:(Rq.mg u.qs a aR true).2=0
   .rw[h2]at Jz
    refine⟨.no,0,.inl ⟨_,dK AY [(13,[6])] [] (eI _ _ _ _) ⟨⟨by decide,by simp⟩,[I _],rfl,λh=>(by cases h),λ_=>⟨λ_=>⟨λ_=>⟨⟨by decide,by simp⟩,[I a],rfl,⟨by decide,by simp⟩,[I _],rfl,_,Jz,true,_,aj.ad [85,86,87] [18],_,I 0,[18],HE u l _ (Rq.mg u.qs a aR true).1,rfl,_,aj.ad [2] [18],rfl,rfl,rfl⟩,λh=>(by cases h)⟩,λh=>(by cases h)⟩⟩,λ_=>⟨(Rq.mg u.qs a aR true).1,u.ms,rfl,wg h2,by simp⟩⟩⟩
   .refine⟨.no,_,.inl ⟨u,dK AY [(13,[6])] [] (eI _ _ _ _) ⟨⟨by decide,by simp⟩,[I _],rfl,λh=>(by cases h),λ_=>⟨λ_=>⟨λ_=>⟨⟨by decide,by simp⟩,[I a],rfl,⟨by decide,by simp⟩,[I _],rfl,_,Jz,true,_,aj.ad [85,86,87] [18],_,I (Rq.mg u.qs a aR true).2,[18],QT u l _ (Rq.mg u.qs a aR true).1 _ h2,rfl,_,aj.ad [2] [18],rfl,rfl,rfl⟩,λh=>(by cases h)⟩,λh=>(by cases h)⟩⟩,λh=>absurd h h2⟩⟩
  .by_cases od:b=2
   .subst od
    have Jz:=Rq.afm u.qs a aR false
    by_cases h2:(Rq.mg u.qs a aR false).2=0
    .rw[h2]at Jz
     refine⟨.no,0,.inl ⟨_,dK AY [(13,[6])] [] (eI _ _ _ _) ⟨⟨by decide,by simp⟩,[I _],rfl,λh=>(by cases h),λ_=>⟨λh=>(by cases h),λ_=>⟨λ_=>⟨⟨by decide,by simp⟩,[I a],rfl,⟨by decide,by simp⟩,[I _],rfl,_,Jz,true,_,aj.ad [85,86,87] [18],_,I 0,[18],HE u l _ (Rq.mg u.qs a aR false).1,rfl,_,aj.ad [2] [18],rfl,rfl,rfl⟩,λh=>(by cases h)⟩⟩⟩,λ_=>⟨(Rq.mg u.qs a aR false).1,u.ms,rfl,wg h2,by simp⟩⟩⟩
    .refine⟨.no,_,.inl ⟨u,dK AY [(13,[6])] [] (eI _ _ _ _) ⟨⟨by decide,by simp⟩,[I _],rfl,λh=>(by cases h),λ_=>⟨λh=>(by cases h),λ_=>⟨λ_=>⟨⟨by decide,by simp⟩,[I a],rfl,⟨by decide,by simp⟩,[I _],rfl,_,Jz,true,_,aj.ad [85,86,87] [18],_,I (Rq.mg u.qs a aR false).2,[18],QT u l _ (Rq.mg u.qs a aR false).1 _ h2,rfl,_,aj.ad [2] [18],rfl,rfl,rfl⟩,λh=>(by cases h)⟩⟩⟩,λh=>absurd h h2⟩⟩
   .refine⟨.no,1,.inl ⟨u,dK AY [] [] (eI _ _ _ _) ⟨⟨by decide,by simp⟩,[I b],rfl,λh=>absurd h (by simp[h0]),λ_=>⟨λh=>absurd h (by simp[h1]),λ_=>⟨λh=>absurd h (by simp[od]),λ_=>?_⟩⟩⟩,λh=>by cases h⟩⟩
    exact⟨_,aj.ad [2] [18],rfl,rfl,rfl⟩
theorem agH(u:St)(hm:jl u.ms)(n:Int)(hn:cj n=true):Fn kg 107 [.agg (aF u),I n] (Tw (bT u.ms n)):=
 aH Kp ⟨_,YA u.ms hm n hn,rfl,rfl,rfl⟩
theorem Zx(u:St)(l:List Rw)(e:Vt)(hm:jl u.ms)(hb:u.bs.length<=1000)(hi:∀b∈u.bs,cj b.id=true/\0<=b.bc/\b.bc<=10000)(s:Sh)(b:Bx)(hw:0<=b.bc/\b.bc<=10000):
  Fn kg 236 [.aw (aF u++[WS l]++fy e) 0,.agg (eN s),.agg (bj b)] (I (qe u.ms s b u.bs)):=by
 refine aH VE ⟨λhc=>?_,λhc=>?_⟩
 .have hc:s.dZ≠b.dZ:=by simpa using hc
  unfold qe;rw[if_pos hc];exact⟨rfl,rfl,rfl⟩
 .have hc:s.dZ=b.dZ:=by simpa using hc
  unfold qe;rw[if_neg (by simp[hc])];refine⟨λm c=>∃(i:Nat)(t:Int),i<=u.bs.length/\m=u.bs.length-i/\0<=t/\t<=10000*(i+1)/\t+B5 u.ms b.id s.id (u.bs.drop i)=b.bc+B5 u.ms b.id s.id u.bs/\
   c=⟨[(0,.aw (aF u++[WS l]++fy e) 0),(4,.af 64 0),(5,.af 80 0),(6,I 0),(7,I t),(21,BS u.bs),(22,I u.bs.length),(23,I i)],[(64,⟨81,4,.any,[eN s],[]⟩),(80,⟨84,5,.any,[bj b],[]⟩)]⟩,
   ⟨_,_,Wk.ad [0,4,5,6,7,21,22,23] [64,80],0,b.bc,by omega,rfl,by omega,by omega,by simp,rfl⟩,?_⟩
  rintro m c ⟨i,t,og,rfl,ht0,ht1,hI,rfl⟩;refine⟨λaC=>?_,λaC=>?_⟩
  .simp at aC
   obtain⟨x,hx,hd,_⟩:=aq aC;obtain⟨hid,O3,EL⟩:=hi x (ay hx);rw[hd,B5]at hI;refine⟨by omega,bj x,by simp[hx],?_⟩
   by_cases dW:x.id=b.id
   .rw[if_neg (by simp[dW])]at hI
    refine⟨[(5,false)],by simp[dW],λh=>(by cases h),λ_=>?_⟩;refine⟨_,ah,?_⟩;exact⟨_,_,Wk.ad [0,4,5,6,7,21,22,23] [64,80],by omega,i+1,t,by omega,rfl,by omega,by omega,by omega,rfl⟩
   .have ng:=agH u hm x.id hid
    by_cases hp:bT u.ms x.id=(1,s.id)
    .rw[if_pos ⟨dW,hp⟩]at hI
     rw[hp]at ng;refine⟨[(5,true)],by simpa using dW,_,ng,λ_=>?_,λh=>?_⟩
     .refine⟨_,ah,_,ah,?_⟩
      exact⟨_,_,Wk.ad [0,4,5,6,7,21,22,23] [64,80],by omega,i+1,t+x.bc,by omega,rfl,by omega,by omega,by omega,rfl⟩
     .exact(no (p:=False) (b:=((1:Int)==1&&((s.id==s.id)&&true))) (by simp) h).elim
    .rw[if_neg (by simp[hp])]at hI
     refine⟨[(5,true)],by simpa using dW,_,ng,λh=>?_,λ_=>?_⟩
     .exfalso
      apply hp
      have h:((bT u.ms x.id).1==1&&((bT u.ms x.id).2==s.id&&true))=true:=h;simp at h;exact Prod.ext h.1 h.2
     .refine⟨_,ah,?_⟩
      exact⟨_,_,Wk.ad [0,4,5,6,7,21,22,23] [64,80],by omega,i+1,t,by omega,rfl,by omega,by omega,by omega,rfl⟩
  .simp at aC
   have:i=u.bs.length:=by omega
   subst this;simp only[j4,B5,uH]at hI;subst hI;refine⟨λh=>?_,λh=>?_⟩
   .rw[if_pos (aP h)];exact⟨rfl,rfl,rfl⟩
   .rw[if_neg (j0 h)];exact⟨rfl,rfl,rfl⟩
set_option maxHeartbeats 4000000 in
theorem Zy(u:St)(l:List Rw)(e:Vt)(hz:u.sz)(hm:jl u.ms)(hb:u.bs.length<=1000)(hi:∀b∈u.bs,cj b.id=true/\0<=b.bc/\b.bc<=10000)(hF:zi e 3 0 false (-1)):yj 162 u l e λu'=>∃m,u'={u with ms:=u.ms++[m]}:=by
 obtain⟨id,aR,kind,eH,cG⟩:=e;obtain⟨n0,n1,n2,jw⟩:=agA (hF.more rfl);simp only at jw;subst jw;have sS:=G2 u hz.bs n0;have Cg:=G3 u hz.ls n2;have mE:=Qq u hm l ⟨id,aR,kind,[n0,n1,n2],cG⟩ n0;obtain⟨u',er,MQ,hR⟩:=Qr u hm l ⟨id,aR,kind,[n0,n1,n2],cG⟩ n0 n1 n2
 rcases dH (λb:Bx=>b.id==n0) u.bs 0 with⟨h1,_⟩|⟨i,b,Ui,_,h3,_⟩
 .have od:BQ u.bs n0= -1:=h1
  rw[od]at sS;refine⟨.no,7,.inl ⟨u,dK vL [(12,[4,5,6])] [] (eI _ _ _ _) ⟨⟨by decide,by simp⟩,[I n1],rfl,⟨by decide,by simp⟩,[I n2],rfl,⟨by decide,by simp⟩,[I n0],rfl,_,sS,_,Cg,[(2,true)],rfl,λ_=>?_,λh=>(by cases h)⟩,λh=>by cases h⟩⟩;exact⟨_,aj.ad [2] [18],rfl,rfl,rfl⟩
 .have hx:BQ u.bs n0=(i:Int):=by simpa[BQ]using h3
  rw[hx]at sS;have g1:decide ((i:Int)<0)=false:=qA (by omega);have og:=(aE.1 Ui).1;have hbr:(u.bs.map bj)[((i:Int)).toNat]?=some (bj b):=by rw[aY,aS,Ui];rfl
  obtain⟨hid,O3,EL⟩:=hi b (ay Ui)
  by_cases hn:n1=1
  .subst hn
   rcases dH (λs:Sh=>s.id==n2) u.ls 0 with⟨k1,_⟩|⟨k,s,We,_,k3,_⟩
   .have k1':nO u.ls n2= -1:=k1
    rw[k1']at Cg;refine⟨.no,7,.inl ⟨u,dK vL [(12,[4,5,6])] [] (eI _ _ _ _) ⟨⟨by decide,by simp⟩,[I 1],rfl,⟨by decide,by simp⟩,[I n2],rfl,⟨by decide,by simp⟩,[I n0],rfl,_,sS,_,Cg,[(2,false),(6,true)],g1,rfl,λ_=>?_,λh=>(by cases h)⟩,λh=>by cases h⟩⟩;exact⟨_,aj.ad [2] [18],rfl,rfl,rfl⟩
   .have hy:nO u.ls n2=(k:Int):=by simpa[nO]using k3
    rw[hy]at Cg;have g2:decide ((k:Int)<0)=false:=qA (by omega);have SH:=(aE.1 We).1;have Vm:(u.ls.map eN)[((k:Int)).toNat]?=some (eN s):=by rw[aY,aS,We];rfl
    have a236:=Zx u l ⟨id,aR,kind,[n0,1,n2],cG⟩ hm hb hi s b ⟨O3,EL⟩
    cases ha:((qg u.ms n0).1==3)with
    |true=>
     rw[ha]at mE;refine⟨.no,11,.inl ⟨u,dK vL [(12,[4,5,6])] [] (eI _ _ _ _) ⟨⟨by decide,by simp⟩,[I 1],rfl,⟨by decide,by simp⟩,[I n2],rfl,⟨by decide,by simp⟩,[I n0],rfl,_,sS,_,Cg,[(2,false),(6,true)],g1,rfl,λh=>absurd h (by simp),λ_=>⟨[(5,true)],⟨by decide,by simp⟩,[I n0],rfl,_,mE,rfl,λ_=>?_,λh=>(by cases h)⟩⟩,λh=>by cases h⟩⟩;exact⟨_,aj.ad [2] [18],rfl,rfl,rfl⟩
    |false=>
     rw[ha]at mE
     by_cases h0:qe u.ms s b u.bs=0
     .refine⟨.no,er,.inl ⟨u',dK vL [(12,[4,5,6])] [] (eI _ _ _ _) ⟨⟨by decide,by simp⟩,[I 1],rfl,⟨by decide,by simp⟩,[I n2],rfl,⟨by decide,by simp⟩,[I n0],rfl,_,sS,_,Cg,[(2,false),(6,true)],g1,rfl,λh=>absurd h (by simp),λ_=>⟨[(5,false)],⟨by decide,by simp⟩,[I n0],rfl,_,mE,rfl,λh=>(by cases h),λ_=>⟨λ_=>?_,λh=>(by cases h)⟩⟩⟩,hR⟩⟩
      refine⟨by omega,eN s,Vm,by omega,bj b,hbr,_,a236,λh=>absurd h (by simp[h0]),λ_=>?_⟩;refine⟨rfl,⟨by decide,by simp⟩,[I n0],rfl,_,aj.ad [82,85,86] [18],_,I er,[18],MQ,rfl,?_⟩;exact⟨_,aj.ad [2] [18],rfl,rfl,rfl⟩
     .refine⟨.no,_,.inl ⟨u,dK vL [(12,[4,5,6])] [] (eI _ _ _ _) ⟨⟨by decide,by simp⟩,[I 1],rfl,⟨by decide,by simp⟩,[I n2],rfl,⟨by decide,by simp⟩,[I n0],rfl,_,sS,_,Cg,[(2,false),(6,true)],g1,rfl,λh=>absurd h (by simp),λ_=>⟨[(5,false)],⟨by decide,by simp⟩,[I n0],rfl,_,mE,rfl,λh=>(by cases h),λ_=>⟨λ_=>?_,λh=>(by cases h)⟩⟩⟩,λh=>absurd h h0⟩⟩
      refine⟨by omega,eN s,Vm,by omega,bj b,hbr,_,a236,λ_=>?_,λh=>absurd h (by simp[h0])⟩;exact⟨_,aj.ad [2] [18],rfl,rfl,rfl⟩
  .have e1:(n1==1)=false:=by simpa using hn
   cases ha:((qg u.ms n0).1==3)with
   |true=>
    rw[ha]at mE;refine⟨.no,11,.inl ⟨u,dK vL [(12,[4,5,6])] [] (eI _ _ _ _) ⟨⟨by decide,by simp⟩,[I n1],rfl,⟨by decide,by simp⟩,[I n2],rfl,⟨by decide,by simp⟩,[I n0],rfl,_,sS,_,Cg,[(2,false),(6,false)],g1,e1,λh=>absurd h (by simp),λ_=>⟨[(5,true)],⟨by decide,by simp⟩,[I n0],rfl,_,mE,rfl,λ_=>?_,λh=>(by cases h)⟩⟩,λh=>by cases h⟩⟩;exact⟨_,aj.ad [2] [18],rfl,rfl,rfl⟩
   |false=>
    rw[ha]at mE
    by_cases Pw:n1=3
    .subst Pw
     refine⟨.no,11,.inl ⟨u,dK vL [(12,[4,5,6])] [] (eI _ _ _ _) ⟨⟨by decide,by simp⟩,[I 3],rfl,⟨by decide,by simp⟩,[I n2],rfl,⟨by decide,by simp⟩,[I n0],rfl,_,sS,_,Cg,[(2,false),(6,false)],g1,rfl,λh=>absurd h (by simp),λ_=>⟨[(5,false)],⟨by decide,by simp⟩,[I n0],rfl,_,mE,rfl,λ_=>?_,λh=>(by cases h)⟩⟩,λh=>by cases h⟩⟩;exact⟨_,aj.ad [2] [18],rfl,rfl,rfl⟩
    .refine⟨.no,er,.inl ⟨u',dK vL [(12,[4,5,6])] [] (eI _ _ _ _) ⟨⟨by decide,by simp⟩,[I n1],rfl,⟨by decide,by simp⟩,[I n2],rfl,⟨by decide,by simp⟩,[I n0],rfl,_,sS,_,Cg,[(2,false),(6,false)],g1,e1,λh=>absurd h (by simp),λ_=>⟨[(5,false)],⟨by decide,by simp⟩,[I n0],rfl,_,mE,rfl,λh=>absurd h (by simp[Pw]),λ_=>⟨λh=>absurd h (by simp[hn]),λ_=>?_⟩⟩⟩,hR⟩⟩
     refine⟨rfl,⟨by decide,by simp⟩,[I n0],rfl,_,aj.ad [82,85,86] [18],_,I er,[18],MQ,rfl,?_⟩;exact⟨_,aj.ad [2] [18],rfl,rfl,rfl⟩
theorem c41(p:Po)(hz:p.sz)(l:List Rw)(hl:l.length<=100000)(rd u d:Int):∃er,Fn kg 41 [WS l,.agg (dV p),I rd,I u,I d] (I er)/\(er=0->jr l=0/\∃r∈l,r.unit=u):=by
 have h9:=c9r l hl;have Jn:=Wh p hz;have ZZ:=c28 rd;have h29:=c29 l (by omega) u
 by_cases h1:jr l=0
 .rw[h1]at h9
  by_cases h2:sL p=0
  .rw[h2]at Jn
   cases h3:cj rd with
   |false=>
    rw[h3]at ZZ;exact⟨2,aH GR ⟨[(3,false)],_,h9,rfl,_,Jn,λh=>(by cases h),λ_=>⟨[(3,true),(7,true)],_,ZZ,rfl,rfl,λ_=>⟨rfl,rfl,rfl⟩,λh=>(by cases h)⟩⟩,λh=>by cases h⟩
   |true=>
    rw[h3]at ZZ
    by_cases h4:d<0
    .exact⟨2,aH GR ⟨[(3,false)],_,h9,rfl,_,Jn,λh=>(by cases h),λ_=>⟨[(3,false),(7,true)],_,ZZ,rfl,uG h4,λ_=>⟨rfl,rfl,rfl⟩,λh=>(by cases h)⟩⟩,λh=>by cases h⟩
    .by_cases h5:d>1048575
     .exact⟨2,aH GR ⟨[(3,false)],_,h9,rfl,_,Jn,λh=>(by cases h),λ_=>⟨[(3,false),(7,false)],_,ZZ,rfl,qA h4,λ_=>⟨rfl,rfl,rfl⟩,λh=>absurd h (by simp[h5])⟩⟩,λh=>by cases h⟩
     .by_cases h6:Mo l u<0
      .exact⟨7,aH GR ⟨[(3,false)],_,h9,rfl,_,Jn,λh=>(by cases h),λ_=>⟨[(3,false),(7,false)],_,ZZ,rfl,qA h4,λh=>absurd h (by simp[h5]),λ_=>⟨_,h29,λ_=>⟨rfl,rfl,rfl⟩,λh=>absurd h (by simp[h6])⟩⟩⟩,λh=>by cases h⟩
      .refine⟨0,aH GR ⟨[(3,false)],_,h9,rfl,_,Jn,λh=>(by cases h),λ_=>⟨[(3,false),(7,false)],_,ZZ,rfl,qA h4,λh=>absurd h (by simp[h5]),λ_=>⟨_,h29,λh=>absurd h (by simp[h6]),λ_=>⟨rfl,rfl,rfl⟩⟩⟩⟩,λ_=>⟨h1,?_⟩⟩
       rcases w8 l u with h|⟨i,r,_,hr,hu⟩
       .omega
       .exact⟨r,ay hr,hu⟩
  .exact⟨1,aH GR ⟨[(3,false)],_,h9,rfl,_,Jn,λ_=>⟨rfl,rfl,rfl⟩,λh=>absurd h (by simp[h2])⟩,λh=>by cases h⟩
 .exact⟨1,aH GR ⟨[(3,true)],_,h9,by simpa using h1,λ_=>⟨rfl,rfl,rfl⟩,λh=>(by cases h)⟩,λh=>by cases h⟩
theorem c19(p:Po)(hz:p.sz)(l:List Rw)(hl:l.length<=100000)(rd u d:Int):∃a b c g rs er,(rs=.ai∨∃n aa,rs=.aL 5 n aa)/\Fn kg 19 [WS l,.agg (dV p),I rd,I u,I d] (.bY [.agg [I a,I b,I c,B g,rs],I er]):=by
 obtain⟨er,h41,h⟩:=c41 p hz l hl rd u d
 by_cases h0:er=0
 .obtain⟨hr,r,hm,rfl⟩:=h h0
  subst h0;obtain⟨rs,H4,h42⟩:=aeW p hz rd d l hr r hm;refine⟨rd,r.unit,d,yE p l rd d r,rs,0,H4,?_⟩
  rcases H4 with rfl|⟨n,aa,rfl⟩<;>exact aH X5 ⟨_,h41,λh=>(by cases h),λ_=>⟨_,h42,_,_,rfl,⟨rfl,rfl⟩,rfl,rfl,trivial⟩⟩
 .exact⟨0,0,0,false,.ai,er,.inl rfl,aH X5 ⟨_,h41,λ_=>⟨_,_,rfl,⟨rfl,rfl⟩,rfl,rfl,trivial⟩,λh=>absurd h (by simp[h0])⟩⟩
theorem QE(u:St)(hz:u.sz)(l:List Rw)(hl:l.length<=100000)(e:Vt)(rd un:Int):∃g,Fn kg 238 [.aw (aF u++[WS l]++fy e) 0,I rd,I un] (B g):=by
 obtain⟨a,b,c,g,rs,er,H4,h19⟩:=c19 u.po hz.po l hl rd un e.aR;refine⟨decide (er=0)&&g,?_⟩
 by_cases h0:er=0
 .subst h0
  rcases H4 with rfl|⟨n,aa,rfl⟩<;>exact aH Ph ⟨_,h19,[(2,true)],rfl,rfl,rfl,rfl⟩
 .have hb:(er==0)=false:=by simpa using h0
  have hd:decide (er=0)=false:=qA h0;rw[hd]
  rcases H4 with rfl|⟨n,aa,rfl⟩<;>exact aH Ph ⟨_,h19,[(2,false)],hb,rfl,rfl,rfl⟩
theorem xq(u:Int):∀(l:List Bx)(i:Nat),Aw.v7 u i l=(-1,-1)∨∃(j k:Nat)(b:Bx)(c:Ct),Aw.v7 u i l=(((i+j:Nat):Int),(k:Int))/\l[j]?=some b/\b.ma[k]?=some c/\c.unit=u
 |[],i=>.inl rfl
 |b::r,i=>by
  rw[Aw.v7]
  rcases dH (λc:Ct=>c.unit==u) b.ma 0 with⟨h1,_⟩|⟨k,c,h1,h2,h3,_⟩
  .rw[h1,if_neg (by decide)]
   rcases xq u r (i+1)with h|⟨j,k,b',c,h,hb,hc,hu⟩
   .exact .inl h
   .exact .inr ⟨j+1,k,b',c,by rw[h];congr 1;omega,hb,hc,hu⟩
  .rw[h3,if_pos (by omega)]
   exact .inr ⟨0,k,b,c,by simp,rfl,h1,by simpa using h2⟩
theorem Uu(l:List Bx)(hl:l.length<=100000)(hc:∀b∈l,b.ma.length<=100000)(u:Int):∃a k ok,Fn kg 233 [BS l,I u] (.bY [I a,I k,B ok])/\(ok=true->∃b∈l,b.id=a):=by
 have QV:=Aw.Qx l hl hc u;have h96:=RG l (by omega) hc
 rcases xq u l 0 with h|⟨j,k,b,c,h,hb,_,_⟩
 .rw[h]at QV
  exact⟨0,0,false,aH Ks ⟨_,QV,[(2,true)],rfl,λ_=>⟨_,_,rfl,⟨rfl,rfl⟩,rfl,rfl,rfl,rfl,trivial⟩,λh=>(by cases h)⟩,λh=>by cases h⟩
 .rw[h,dp]at QV
  have g1:decide ((j:Int)<0)=false:=qA (by omega)
  by_cases h0:jk l=0
  .rw[h0]at h96
   have hj:=(aE.1 hb).1;exact⟨b.id,k,true,aH Ks ⟨_,QV,[(2,false)],g1,_,h96,λh=>(by cases h),λ_=>⟨by omega,bj b,by simp[hb],_,_,rfl,⟨rfl,rfl⟩,rfl,rfl,rfl,rfl,trivial⟩⟩,λ_=>⟨b,ay hb,rfl⟩⟩
  .exact⟨0,0,false,aH Ks ⟨_,QV,[(2,false)],g1,_,h96,λ_=>⟨_,_,rfl,⟨rfl,rfl⟩,rfl,rfl,rfl,rfl,trivial⟩,λh=>absurd h (by simp[h0])⟩,λh=>by cases h⟩
theorem MR{l:List dE}{r:dE}(h:(Rq.bT l r).2=0):(Rq.bT l r).1.length<=256:=by
 unfold Rq.bT at h⊢
 split
 .simp
 .split
  .simp
  .split
   .simp
   .split
    .simp
    .split
     .simp
     .simp;omega
theorem ZL(u:St)(l:List Rw)(e:Vt)(hz:u.sz)(hl:l.length<=100000)(hF:zi e 3 0 false (-1)):yj 163 u l e λu'=>∃qs,u'={u with qs:=qs}/\qs.length<=256:=by
 obtain⟨id,aR,kind,eH,cG⟩:=e;obtain⟨n0,n1,n2,jw⟩:=agA (hF.more rfl);simp only at jw;subst jw;obtain⟨b,k,ok,a233,_⟩:=Uu u.bs hz.bs hz.cs n2;obtain⟨g,agI⟩:=QE u hz l hl ⟨id,aR,kind,[n0,n1,n2],cG⟩ n1 n2
 cases ok with
 |false=>
  refine⟨.no,7,.inl ⟨u,dK Kv [] [] (eI _ _ _ _) ⟨⟨by decide,by simp⟩,[I n2],rfl,_,a233,λ_=>?_,λh=>(by cases h)⟩,λh=>by cases h⟩⟩;exact⟨_,aj.ad [2] [18],rfl,rfl,rfl⟩
 |true=>
  cases g with
  |false=>
   refine⟨.no,22,.inl ⟨u,dK Kv [] [] (eI _ _ _ _) ⟨⟨by decide,by simp⟩,[I n2],rfl,_,a233,λh=>(by cases h),λ_=>⟨⟨by decide,by simp⟩,[I n1],rfl,⟨by decide,by simp⟩,[I n2],rfl,_,agI,λ_=>?_,λh=>(by cases h)⟩⟩,λh=>by cases h⟩⟩;exact⟨_,aj.ad [2] [18],rfl,rfl,rfl⟩
  |true=>
   have alD:=Rq.afj u.qs ⟨n0,n1,n2,b,aR,0,0⟩;have step:∀(row:List AV)(er:Int),fS kg 240 [.af 18 9,QS (Rq.bT u.qs ⟨n0,n1,n2,b,aR,0,0⟩).1,I (Rq.bT u.qs ⟨n0,n1,n2,b,aR,0,0⟩).2] [(18,cJ (aF u) l ⟨id,aR,kind,[n0,n1,n2],cG⟩)] [18] [(18,cJ row l ⟨id,aR,kind,[n0,n1,n2],cG⟩)] (I er)->HC 163 .no u l ⟨id,aR,kind,[n0,n1,n2],cG⟩ row er:=by
    intro row er lh;refine dK Kv [(8,[6])] [] (eI _ _ _ _) ⟨⟨by decide,by simp⟩,[I n2],rfl,_,a233,λh=>(by cases h),λ_=>⟨⟨by decide,by simp⟩,[I n1],rfl,⟨by decide,by simp⟩,[I n2],rfl,_,agI,λh=>(by cases h),λ_=>?_⟩⟩;refine⟨⟨by decide,by simp⟩,[I n0],rfl,⟨by decide,by simp⟩,[I n1],rfl,⟨by decide,by simp⟩,[I n2],rfl,_,alD,true,?_⟩;refine⟨_,aj.ad [68,69,70] [18],_,I er,[18],lh,rfl,?_⟩;exact⟨_,aj.ad [2] [18],rfl,rfl,rfl⟩
   by_cases h2:(Rq.bT u.qs ⟨n0,n1,n2,b,aR,0,0⟩).2=0
   .refine⟨.no,0,.inl ⟨_,step _ _ ?_,λ_=>⟨_,rfl,MR h2⟩⟩⟩
    rw[h2];exact HE u l _ _
   .exact⟨.no,_,.inl ⟨u,step _ _ (QT u l _ _ _ h2),λh=>absurd h h2⟩⟩
theorem By{α:Type}(l:List α)(i:Nat)(hi:i<l.length)(X:List α):(l.take i++(l.drop (i+1)).take (l.length-(i+1))++X).take (i+(l.length-(i+1)))=l.eraseIdx i:=by
 rw[ph (l:=l.drop (i+1)) (by simp),rT (by simp;omega),AB]
theorem HJ{β:Type}(A R D:List β)(n:Nat)(h:A.length=n):List.take n (A++R++D)=A:=by rw[cM,rT h]
theorem DM{α β:Type}(f:α->β)(l:List α)(i:Nat):(l.map f).eraseIdx i=(l.eraseIdx i).map f:=by
 rw[AB,AB,qB,zz,List.map_drop]
theorem alE(l:List kJ)(hl:l.length<=100000)(i:Nat)(hi:i<l.length):FnM kg 292 148 6 (l.map eA) [I i,I (i+1:Nat)] (.dh true 148 6 (l.eraseIdx i).length ((l.eraseIdx i).map eA)):=by
 refine IN (N:=33) (ks:=[0,1,2,6,7,16]) 6 cC bZ mixed Tryz.func292 rfl (by kernel_rfl) (by kernel_rfl) rfl rfl rfl ?_;rw[gB];refine⟨⟨by omega,by omega,by omega,by omega⟩,λh=>?_,λh=>?_⟩
 .simp at h;omega
 .refine⟨by omega,by omega,⟨by omega,by simp;omega⟩,⟨by omega,by simp;omega,?_⟩,?_⟩
  .show(l.length:Int)<=((List.take _ _++List.take _ _++List.drop _ _:List (List AV)).length:Nat)
   simp;omega
  .refine⟨?_,_,rfl,rfl,?_,rfl,?_⟩
   .show _+_<=(List.take _ _++List.take _ _++List.drop _ _:List (List AV)).length
    simp;omega
   .show _<=(List.take _ (List.take _ _++List.take _ _++List.drop _ _:List (List AV))++List.replicate _ _++List.drop _ _:List (List AV)).length
    simp;omega
   .have e1:((i:Nat):Int).toNat=i:=aY i
    have e2:((i+1:Nat):Int).toNat=i+1:=aY _;rw[e1,e2,aY];have hX:=By (l.map eA) i (by simpa using hi) (List.drop (i+(l.length-(i+1))) (l.map eA));rw[gB]at hX;rw[hX,DM,HJ _ _ _ _ (by rw[gB,N0,if_pos hi];omega)];rw[N0,if_pos hi]
    congr 1
    omega
theorem Bz{l:List kJ}{p p':Option kJ}(hp:∀r,WR p r=false->WR p' r=false)(h:jQ p l=0):jQ p' l=0:=by
 cases l with
 |nil=>rfl
 |cons r l=>obtain⟨h1,h2,h3⟩:=eB.1 h;exact eB.2 ⟨h1,hp r h2,h3⟩
theorem yk:∀(l:List kJ)(i:Nat)(cf:Option kJ),jQ cf l=0->jQ cf (l.eraseIdx i)=0
 |[],i,cf,h=>by simpa using h
 |r::l,0,cf,h=>by
  obtain⟨_,h2,h3⟩:=eB.1 h;refine Bz (λx hx=>?_) h3;unfold WR at hx h2⊢
  cases cf with
  |none=>rfl
  |some q=>simp at hx h2⊢;omega
 |r::l,i+1,cf,h=>by
  obtain⟨h1,h2,h3⟩:=eB.1 h;exact eB.2 ⟨h1,h2,yk l i (some r) h3⟩
theorem DN:∀(l:List kJ)(i:Nat)(cf:Option kJ)(a q:kJ),l[i]?=some a->q.id=a.id->H7 q=true->jQ cf l=0->jQ cf (l.set i q)=0
 |[],i,cf,a,q,ha,_,_,_=>by simp at ha
 |r::l,0,cf,a,q,ha,hq,hf,h=>by
  simp at ha;subst ha;obtain⟨_,h2,h3⟩:=eB.1 h;refine eB.2 ⟨hf,?_,Bz (λx hx=>?_) h3⟩
  .unfold WR at h2⊢;simp only[hq];exact h2
  .unfold WR at hx⊢;simp only[hq];exact hx
 |r::l,i+1,cf,a,q,ha,hq,hf,h=>by
  obtain⟨h1,h2,h3⟩:=eB.1 h;exact eB.2 ⟨h1,h2,DN l i (some r) a q (by simpa using ha) hq hf h3⟩
theorem QW{l:List kJ}(h:jy l=0):l.length<=64/\jQ none l=0:=by
 unfold jy at h
 split at h
 .cases h
 .exact⟨by omega,h⟩
theorem Lc{l:List kJ}(h:l.length<=64)(k:jQ none l=0):jy l=0:=by unfold jy;rw[if_neg (by omega)];exact k
theorem HK:∀(l:List kJ)(cf:Option kJ),jQ cf l=0->∀r∈l,H7 r=true
 |[],_,_,r,hr=>by cases hr
 |x::l,cf,h,r,hr=>by
  obtain⟨h1,_,h3⟩:=eB.1 h
  rcases bK.1 hr with rfl|hr
  .exact h1
  .exact HK l _ h3 r hr
theorem alF(p:kJ)(n:Int):Fn kg 291 [.agg (eA p),.aw [I n] 0] (B (p.id==n)):=aH ac4 ⟨rfl,rfl,rfl⟩
theorem alG(l:List kJ)(hl:l.length<=100000)(n d:Int):∃pm er,Fn kg 225 [PS l,I n,I d] (.bY [if er=0 then .dh true 148 6 pm.length (pm.map eA)else .ai,I er])/\(er=0->jy pm=0/\pm.length<=l.length):=by
 have WT:=c94 l (by omega);have xj:=aeP l (by omega) (λp=>p.id==n) 291 [I n] (λp _=>alF p n)
 by_cases h1:jy l=0
 .rw[h1]at WT
  obtain⟨Wz,hgo⟩:=QW h1
  rcases dH (λp:kJ=>p.id==n) l 0 with⟨k1,_⟩|⟨i,a,hi,_,k3,_⟩
  .rw[k1]at xj
   refine⟨[],7,?_,λh=>by cases h⟩;rw[if_neg (by decide)];refine aH AX ⟨_,WT,λh=>(by cases h),λ_=>⟨_,xj,λ_=>?_,λh=>(by cases h)⟩⟩;exact⟨_,_,rfl,.inl rfl,rfl,rfl,trivial⟩
  .rw[dp]at k3
   rw[k3]at xj;have og:=(aE.1 hi).1;have g0:decide ((i:Int)<0)=false:=qA (by omega);have aD:(l.map eA)[((i:Int)).toNat]?=some (eA a):=by rw[aY,aS,hi];rfl
   have MF:=Yj (l.map eA) (by simp;omega) (scM l);rw[gB]at MF;have ha:=HK l none hgo a (ay hi)
   by_cases h2:d<0
   .refine⟨[],2,?_,λh=>by cases h⟩
    rw[if_neg (by decide)];refine aH AX ⟨_,WT,λh=>(by cases h),λ_=>⟨_,xj,λh=>absurd h (by simp),λ_=>⟨[(2,true)],uG h2,λ_=>?_,λh=>(by cases h)⟩⟩⟩;exact⟨_,_,rfl,.inl rfl,rfl,rfl,trivial⟩
   .have g2:=qA h2
    by_cases h3:d>1048575
    .refine⟨[],2,?_,λh=>by cases h⟩
     rw[if_neg (by decide)];refine aH AX ⟨_,WT,λh=>(by cases h),λ_=>⟨_,xj,λh=>absurd h (by simp),λ_=>⟨[(2,false)],g2,λ_=>?_,λh=>absurd h (by simp[h3])⟩⟩⟩;exact⟨_,_,rfl,.inl rfl,rfl,rfl,trivial⟩
    .by_cases h4:d>=a.mK
     .refine⟨[],11,?_,λh=>by cases h⟩
      rw[if_neg (by decide)];refine aH AX ⟨_,WT,λh=>(by cases h),λ_=>⟨_,xj,λh=>absurd h (by simp),λ_=>⟨[(2,false)],g2,λh=>absurd h (by simp[h3]),λ_=>⟨by omega,eA a,aD,λ_=>?_,λh=>absurd h (by simp[h4])⟩⟩⟩⟩;exact⟨_,_,rfl,.inl rfl,rfl,rfl,trivial⟩
     .by_cases h5:d<=a.jW
      .refine⟨l.eraseIdx i,0,?_,λ_=>⟨Lc (by have:=XD l i;omega) (yk l i none hgo),XD l i⟩⟩
       rw[if_pos rfl];refine aH AX ⟨_,WT,λh=>(by cases h),λ_=>⟨_,xj,λh=>absurd h (by simp),λ_=>⟨[(2,false)],g2,λh=>absurd h (by simp[h3]),λ_=>⟨by omega,eA a,aD,λh=>absurd h (by simp[h4]),λ_=>?_⟩⟩⟩⟩;refine⟨_,MF,false,by omega,eA a,aD,λ_=>?_,λh=>absurd h (by simp[h5])⟩;refine⟨_,au (y:=((i+1:Nat):Int)) (by omega),by simp,_,alE l hl i og,?_⟩;exact⟨_,_,rfl,⟨_,rfl,rfl,(by simp),.inl ⟨rfl,(by simp)⟩⟩,rfl,rfl,trivial⟩
      .refine⟨l.set i ⟨a.id,a.rd,a.un,a.ks,a.jW,d⟩,0,?_,λ_=>⟨Lc (by simpa using Wz) (DN l i none a _ hi rfl ?_ hgo),by simp⟩⟩
       .rw[if_pos rfl]
        refine aH AX ⟨_,WT,λh=>(by cases h),λ_=>⟨_,xj,λh=>absurd h (by simp),λ_=>⟨[(2,false)],g2,λh=>absurd h (by simp[h3]),λ_=>⟨by omega,eA a,aD,λh=>absurd h (by simp[h4]),λ_=>?_⟩⟩⟩⟩;refine⟨_,MF,false,by omega,eA a,aD,λh=>absurd h (by simp[h5]),λ_=>?_⟩;refine⟨by omega,eA a,aD,?_⟩;exact⟨_,_,rfl,⟨_,rfl,rfl,(by simp),.inl ⟨rfl,(by simp[oC];rfl)⟩⟩,rfl,rfl,trivial⟩
       .unfold H7 at ha⊢
        simp only[aA,zp]at ha⊢;exact⟨⟨⟨ha.1.1.1,ha.1.1.2⟩,by show a.jW<d;omega⟩,by show d<=1048576;omega⟩
 .refine⟨[],1,?_,λh=>by cases h⟩
  rw[if_neg (by decide)];refine aH AX ⟨_,WT,λ_=>?_,λh=>absurd h (by simp[h1])⟩;exact⟨_,_,rfl,.inl rfl,rfl,rfl,trivial⟩
theorem alH(u:St)(l:List Rw)(e:Vt)(hz:u.sz)(hF:zi e 1 0 false (-1)):yj 156 u l e λu'=>∃pm,u'={u with po:={u.po with pm:=pm}}/\jy pm=0/\pm.length<=u.po.pm.length:=by
 obtain⟨id,aR,kind,eH,cG⟩:=e;obtain⟨n0,jw⟩:=UC (hF.more rfl);simp only at jw;subst jw;obtain⟨pm,er,E9,hpm⟩:=alG u.po.pm hz.po.pm n0 aR
 by_cases h0:er=0
 .subst h0
  rw[if_pos rfl]at E9;refine⟨.no,0,.inl ⟨{u with po:={u.po with pm:=pm}},dK VO [(2,[7])] [] (eI _ _ _ _) ⟨⟨by decide,by simp⟩,[I n0],rfl,_,E9,true,?_⟩,λ_=>⟨pm,rfl,(hpm rfl).1,(hpm rfl).2⟩⟩⟩;refine⟨_,aj.ad [31,32,33] [18],_,I 0,[18],WN u l _ pm,rfl,?_⟩;exact⟨_,aj.ad [2] [18],rfl,rfl,rfl⟩
 .rw[if_neg h0]at E9
  refine⟨.no,er,.inl ⟨u,dK VO [(2,[7])] [] (eI _ _ _ _) ⟨⟨by decide,by simp⟩,[I n0],rfl,_,E9,?_⟩,λh=>absurd h h0⟩⟩;refine⟨_,aj.ad [31,32,33] [18],_,I er,[18],WO u l _ _ h0,rfl,?_⟩;exact⟨_,aj.ad [2] [18],rfl,rfl,rfl⟩
theorem ZC(u:St)(l:List Rw)(e:Vt)(hz:u.sz)(hk:u.ks.length<=90000)(hF:zi e 4 0 false (-1)):yj 166 u l e λu'=>∃b,u'={u with ks:=u.ks++[b]}:=by
 obtain⟨id,aR,kind,eH,cG⟩:=e;obtain⟨n0,n1,n2,n3,jw⟩:=UD (hF.more rfl);simp only at jw;subst jw
 by_cases h1:n2<aR
 .refine⟨.no,5,.inl ⟨u,dK Kx [] [] (eI _ _ _ _) ⟨⟨by decide,by simp⟩,[I n2],rfl,_,uv (aF u) rfl l ⟨id,aR,kind,[n0,n1,n2,n3],cG⟩ n2,λ_=>?_,λh=>absurd h (by simp[h1])⟩,λh=>by cases h⟩⟩
  exact⟨_,aj.ad [2] [18],rfl,rfl,rfl⟩
 .obtain⟨er,UF⟩:=Aw.akQ u.bV u.ks hk ⟨n0,n1,n2,n3⟩
  by_cases h0:er=0
  .subst h0
   rw[if_pos rfl]at UF;refine⟨.no,0,.inl ⟨{u with ks:=u.ks++[⟨n0,n1,n2,n3⟩]},dK Kx [(5,[6])] [] (eI _ _ _ _) ⟨⟨by decide,by simp⟩,[I n2],rfl,_,uv (aF u) rfl l ⟨id,aR,kind,[n0,n1,n2,n3],cG⟩ n2,λh=>absurd h (by simp[h1]),λ_=>?_⟩,λ_=>⟨_,rfl⟩⟩⟩;refine⟨⟨by decide,by simp⟩,[I n0],rfl,⟨by decide,by simp⟩,[I n1],rfl,⟨by decide,by simp⟩,[I n2],rfl,⟨by decide,by simp⟩,[I n3],rfl,_,UF,true,?_⟩;have hs:=Qu u l ⟨id,aR,kind,[n0,n1,n2,n3],cG⟩ (u.ks++[⟨n0,n1,n2,n3⟩]);rw[show KS (u.ks++[(⟨n0,n1,n2,n3⟩:Bk)])=.aL 4 (u.ks.length+1) ((u.ks++[(⟨n0,n1,n2,n3⟩:Bk)]).map ib)from by simp[KS]]at hs;refine⟨_,aj.ad [47,48,49] [18],_,I 0,[18],hs,rfl,?_⟩;exact⟨_,aj.ad [2] [18],rfl,rfl,rfl⟩
  .rw[if_neg h0]at UF
   refine⟨.no,er,.inl ⟨u,dK Kx [(5,[6])] [] (eI _ _ _ _) ⟨⟨by decide,by simp⟩,[I n2],rfl,_,uv (aF u) rfl l ⟨id,aR,kind,[n0,n1,n2,n3],cG⟩ n2,λh=>absurd h (by simp[h1]),λ_=>?_⟩,λh=>absurd h h0⟩⟩;refine⟨⟨by decide,by simp⟩,[I n0],rfl,⟨by decide,by simp⟩,[I n1],rfl,⟨by decide,by simp⟩,[I n2],rfl,⟨by decide,by simp⟩,[I n3],rfl,_,UF,?_⟩;refine⟨_,aj.ad [47,48,49] [18],_,I er,[18],agj u l _ _ h0,rfl,?_⟩;exact⟨_,aj.ad [2] [18],rfl,rfl,rfl⟩
theorem BA:∀(ms:List Mv)(x:Lg),(mc x ms).2=0->∀m∈ms,m.aR<=1048575
 |[],_,_,m,hm=>by cases hm
 |a::ms,x,h,m,hm=>by
  rw[mc]at h
  by_cases h0:fN x a=0
  .rw[if_neg (by simp[h0])]at h
   rcases bK.1 hm with rfl|hm
   .unfold fN at h0
    split at h0
    .cases h0
    .rename_i hc
     have:Gh m.aR=true:=by
      cases hd:Gh m.aR with
      |true=>rfl
      |false=>exact absurd (.inl hd) hc
     unfold Gh at this;simp at this;omega
   .exact BA ms _ h m hm
  .rw[if_pos h0]at h;exact absurd h h0
theorem Ld{ms:List Mv}(h:(fV ms).2=0):jl ms:=by
 unfold fV at h
 split at h
 .cases h
 .rename_i hl
  exact⟨by unfold fV;rw[if_neg hl];exact h,BA ms _ h,by omega⟩
theorem HL(b k:Int)(p:Int×Int):∀l:Pl,oi b (B4 k p l)=p∨oi b (B4 k p l)=oi b l
 |[]=>by
  simp only[B4,oi]
  split
  .exact .inl rfl
  .exact .inr rfl
 |x::r=>by
  have ih:=HL b k p r;simp only[B4]
  by_cases h:k=x.1
  .rw[if_pos h]
   subst h;simp only[oi]
   by_cases h2:b=x.1
   .rw[if_pos h2];exact .inl rfl
   .rw[if_neg h2,if_neg h2];exact .inr rfl
  .rw[if_neg h]
   simp only[oi]
   by_cases h2:b=x.1
   .rw[if_pos h2,if_pos h2];exact .inr rfl
   .rw[if_neg h2,if_neg h2];exact ih
theorem DO(b:Int):∀(ms:List Mv)(x:Lg),oi b (mc x ms).1.pl=oi b x.pl∨∃m∈ms,oi b (mc x ms).1.pl=(m.tk,m.to)
 |[],_=>.inl rfl
 |a::ms,x=>by
  rw[mc]
  by_cases h0:fN x a=0
  .rw[if_neg (by simp[h0])]
   rcases DO b ms (kU x a)with h|⟨m,hm,h⟩
   .rw[h]
    unfold kU;rw[if_pos h0]
    rcases HL b a.box (a.tk,a.to) x.pl with h'|h'
    .exact .inr ⟨a,by simp,h'⟩
    .exact .inl h'
   .exact .inr ⟨m,by simp[hm],h⟩
  .rw[if_pos h0];exact .inl rfl
theorem MT(ms:List Mv)(b:Int):qg ms b=(0,0)∨∃m∈ms,qg ms b=(m.tk,m.to):=by
 unfold qg pL
 split
 .exact .inl rfl
 .split
  .exact .inl rfl
  .unfold bT fV
   split
   .exact .inl rfl
   .rcases DO b ms Yh with h|h
    .rw[h];exact .inl rfl
    .exact .inr h
theorem PD(u:St)(hl:u.ls.length<=100000)(k o:Int):Fn kg 102 [.agg [I k,I o],.aw (aF u) 0] (B (xc u.ls k o)):=by
 refine aH Vo ?_
 by_cases hk:k=1
 .exact⟨[(3,false)],by simp[hk],_,G3 u hl o,rfl,rfl,by simp[xc,hk];rfl⟩
 .have nI:(k !=1)=true:=by simp[hk]
  exact⟨[(3,true)],nI,rfl,rfl,by unfold xc;rw[nI];rfl⟩
def HM(u:St)(m:Mv):Bool:=decide (m.aR>u.ch)||decide (BQ u.bs m.box<0)|| !xc u.ls m.fk m.fo|| !xc u.ls m.tk m.to
theorem YE(u:St)(hl:u.ls.length<=100000)(hb:u.bs.length<=100000)(m:Mv):Fn kg 105 [.agg (gY m),.aw (aF u) 0,.aw [.func 102 [.aw (aF u) 0]] 0] (B (HM u m)):=by
 refine aH Vp ?_;have c1:=PD u hl m.fk m.fo;have c2:=PD u hl m.tk m.to;unfold HM
 by_cases h1:m.aR>u.ch
 .exact⟨[(5,true),(12,true),(19,true)],uG h1,rfl,rfl,rfl,rfl,by rw[uG h1];rfl⟩
 .have od:=qA h1
  have c3:=G2 u hb m.box
  by_cases h2:BQ u.bs m.box<0
  .have yN:=uG h2
   exact⟨[(5,false),(12,true),(19,true)],od,_,c3,yN,rfl,rfl,rfl,by rw[od,yN];rfl⟩
  .have yN:=qA h2
   cases h3:xc u.ls m.fk m.fo with
   |false=>
    rw[h3]at c1;exact⟨[(5,false),(12,false),(19,true)],od,_,c3,yN,_,c1,rfl,rfl,rfl,by rw[od,yN];rfl⟩
   |true=>
    rw[h3]at c1;exact⟨[(5,false),(12,false),(19,false)],od,_,c3,yN,_,c1,rfl,_,c2,rfl,rfl,by rw[od,yN];rfl⟩
theorem c56(u:St)(hl:u.ls.length<=100000)(hb:u.bs.length<=100000)(hm:u.ms.length<=100000):Fn kg 56 [.agg (aF u)] (B (!u.ms.any (HM u))):=
 lX adN [] [1] ⟨_,aj.S2 [1,2] rfl,_,Wa u.ms (by omega) (HM u) 105 (aF u) [.func 102 [.aw (aF u) 0]] (λm _=>YE u hl hb m),_,aj.refl _ _,rfl,rfl,rfl⟩
theorem QX{u:St}(h:u.ms.any (HM u)=false)(b:Int)(hk:(qg u.ms b).1=1):¬nO u.ls (qg u.ms b).2<0:=by
 rcases MT u.ms b with h0|⟨m,hm,h0⟩
 .rw[h0]at hk;cases hk
 .rw[Xy]at h
  have:=h m hm;rw[h0]at hk⊢;simp only[HM,pj,not_or,zr,zp]at this;have h2:=this.2;simp only at hk;unfold xc at h2;rw[hk]at h2;simpa using h2
abbrev OHs(u:St)(w:Wd):List (Nat×ak):=[(16,⟨50,16,.any,[aF u],[]⟩),(128,⟨219,2,.map false false,[],w.map sQ⟩)]
theorem c57(u:St)(hm:jl u.ms)(hl:u.ls.length<=1000)(hb:u.bs.length<=1000)(hi:∀b∈u.bs,cj b.id=true/\0<=b.bc/\b.bc<=10000)
  (hp:∀b,(qg u.ms b).1=1->¬nO u.ls (qg u.ms b).2<0):Fn kg 57 [.agg (aF u)] (B (kz u.ls (qg u.ms) u.bs [])):=by
 refine lX adO [] [] ?_;refine⟨λn c=>∃(i:Nat)(w:Wd),i<=u.bs.length/\n=u.bs.length-i/\(∀k,0<=fO k w/\fO k w<=10000*i)/\kz u.ls (qg u.ms) (u.bs.drop i) w=kz u.ls (qg u.ms) u.bs [] /\
   c=⟨[(1,.af 16 0),(2,B false),(3,.dX 128),(10,BS u.bs),(11,I u.bs.length),(12,I i)],OHs u w⟩,
  ⟨_,_,aj.ad [1,2,3,10,11,12] [16,128],0,[],by omega,rfl,by simp[fO],by simp,rfl⟩,?_⟩
 rintro n c ⟨i,w,og,rfl,hw,hI,rfl⟩;refine⟨λaC=>?_,λaC=>?_⟩
 .simp at aC
  obtain⟨b,yz,hd,_⟩:=aq aC;have RH:=ay yz;obtain⟨hid,O3,EL⟩:=hi b RH;have Rz:=hp b.id;have ng:=sP u hm b.id;rw[hd]at hI;simp only[kz]at hI;generalize qg u.ms b.id=pp at Rz ng hI;obtain⟨k,o⟩:=pp;refine⟨by omega,bj b,by simp[yz],_,ng,λhk=>?_,λhk=>?_⟩
  .have hk:k≠1:=by simpa using hk
   rw[if_pos hk]at hI;refine⟨_,ah,?_⟩;exact⟨_,_,aj.ad [1,2,3,10,11,12] [16,128],by omega,i+1,w,by omega,rfl,λj=>by have:=hw j;omega,hI,rfl⟩
  .have hk:k=1:=by simpa using hk
   rw[if_neg (by simp[hk])]at hI;obtain⟨s,hs,aec,Yw,Ns⟩:=EI (show¬nO u.ls o<0 from Rz hk);simp only[hs]at hI;have hsw:=hw s.id;have A4:(u.ls.map eN)[(nO u.ls o).toNat]?=some (eN s):=by rw[aS,hs];rfl
   refine⟨_,G3 u (by omega) o,by omega,eN s,A4,?_⟩;have Tx:=xd s.id w;have pN:=xd s.id (na s.id (fO s.id w+b.bc) w);rw[A7,if_pos rfl,nc,if_pos rfl]at pN;have Nt:=EK s.id (fO s.id w+b.bc) w;have fin:∀(C:aM),C=⟨[(1,.af 16 0),(2,B false),(3,.dX 128),(10,BS u.bs),(11,I u.bs.length),(12,I ((i:Int)+1))],[(16,⟨50,16,.any,[aF u],[]⟩),(128,⟨219,2,.map false false,[],wx (I s.id) [I (fO s.id w+b.bc)] (w.map sQ)⟩)]⟩->C=⟨[(1,.af 16 0),(2,B false),(3,.dX 128),(10,BS u.bs),(11,I u.bs.length),(12,I ((i+1:Nat):Int))],OHs u (na s.id (fO s.id w+b.bc) w)⟩:=by
    intro C hC;rw[hC,Nt];rfl
   cases hh:A6 s.id w with
   |true=>
    rw[hh,if_pos rfl]at Tx;refine⟨true,_,Tx,?_⟩;refine⟨_,au (y:=fO s.id w+b.bc) (by omega),?_⟩
    by_cases tp:fO s.id w+b.bc>s.len
    .rw[if_pos (.inl tp)]at hI
     rw[<-hI];exact⟨[(7,true)],true,[I (fO s.id w+b.bc)],by rw[<-Nt]at pN;exact pN,uG tp,λ_=>⟨_,aj.refl _ _,rfl,rfl,rfl⟩,λh=>(by cases h)⟩
    .refine⟨[(7,false)],true,[I (fO s.id w+b.bc)],by rw[<-Nt]at pN;exact pN,qA tp,λhc=>?_,λhc=>?_⟩
     .have hc:s.dZ≠b.dZ:=by simpa using hc
      rw[if_pos (.inr hc)]at hI;rw[<-hI];exact⟨_,aj.refl _ _,rfl,rfl,rfl⟩
     .have hc:s.dZ=b.dZ:=by simpa using hc
      rw[if_neg (by simp[hc];omega)]at hI;refine⟨_,ah,?_⟩;refine⟨_,_,aj.ad [1,2,3,10,11,12] [16,128],by omega,i+1,na s.id (fO s.id w+b.bc) w,by omega,rfl,λj=>?_,hI,fin _ rfl⟩;rw[nc];have:=hw j
      split<;>omega
   |false=>
    rw[hh,if_neg (by simp)]at Tx;have h0:=yY hh;refine⟨false,Tx,?_⟩;refine⟨_,au (y:=fO s.id w+b.bc) (by omega),?_⟩
    by_cases tp:fO s.id w+b.bc>s.len
    .rw[if_pos (.inl tp)]at hI
     rw[<-hI];exact⟨[(7,true)],true,[I (fO s.id w+b.bc)],by rw[<-Nt]at pN;exact pN,uG tp,λ_=>⟨_,aj.refl _ _,rfl,rfl,rfl⟩,λh=>(by cases h)⟩
    .refine⟨[(7,false)],true,[I (fO s.id w+b.bc)],by rw[<-Nt]at pN;exact pN,qA tp,λhc=>?_,λhc=>?_⟩
     .have hc:s.dZ≠b.dZ:=by simpa using hc
      rw[if_pos (.inr hc)]at hI;rw[<-hI];exact⟨_,aj.refl _ _,rfl,rfl,rfl⟩
     .have hc:s.dZ=b.dZ:=by simpa using hc
      rw[if_neg (by simp[hc];omega)]at hI;refine⟨_,ah,?_⟩;refine⟨_,_,aj.ad [1,2,3,10,11,12] [16,128],by omega,i+1,na s.id (fO s.id w+b.bc) w,by omega,rfl,λj=>?_,hI,fin _ rfl⟩;rw[nc];have:=hw j
      split<;>omega
 .simp at aC
  have:i=u.bs.length:=by omega
  subst this;simp only[j4,kz]at hI;rw[<-hI];exact⟨_,aj.refl _ _,rfl,rfl,rfl⟩
end Go.an.ax.G
