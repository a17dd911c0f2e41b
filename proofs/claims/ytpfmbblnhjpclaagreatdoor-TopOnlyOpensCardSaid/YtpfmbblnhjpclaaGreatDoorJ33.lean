import Derived.Test.YtpfmbblnhjpclaaGreatDoorJ32
import Derived.Test.YtpfmbblnhjpclaaGreatDoorJ22
import Derived.Test.YtpfmbblnhjpclaaGreatDoorJ31
import Derived.Test.YtpfmbblnhjpclaaGreatDoorJ23
import Derived.Test.YtpfmbblnhjpclaaGreatDoorJ15
set_option linter.unusedVariables false
set_option linter.unusedSimpArgs false
set_option maxRecDepth 20000
namespace Go.an.ax.Aw
open Go Go.an Go.Proofs
theorem k1:Fn kg 36 [.agg (o7 30 2),.aL 3 1 RW,.agg (l0 La)] (.bY [.agg (mf 30 2 b0),I 0]):=by
 have a55:=Zw La 4 158 rfl rfl (by decide);have a32:=ae4 30 2;have fr:=h1.frame (R:=[(80,⟨33,5,.any,[l0 La],[]⟩),(96,⟨50,16,.any,[zU],[]⟩)]) rfl rfl rfl rfl rfl;refine lX I2 [(9,[3])] [] ⟨_,a55,λh=>(by cases h),λ_=>⟨λh=>(by cases h),λ_=>⟨λh=>(by cases h),λ_=>⟨_,a32,?_⟩⟩⟩⟩;refine⟨_,aj.kr [5,6,7,10,40,41] [608,80,96] [(608,18)] rfl rfl rfl rfl,_,I 0,[18,80,96],fr.as (by rfl) (by rfl) (by rfl),rfl,λh=>(by cases h),λ_=>?_⟩;exact⟨_,aj.refl _ _,_,_,rfl,⟨rfl,rfl⟩,rfl,rfl,trivial⟩
theorem k2:Fn kg 36 [.agg (mf 30 2 b0),.aL 3 1 RW,.agg (l0 MM)] (.bY [.agg (nn 30 2 b0 s0),I 0]):=by
 have a55:=Zw MM 4 161 rfl rfl (by decide);have a32:=akS 30 2 b0;have fr:=h2.frame (R:=[(80,⟨33,5,.any,[l0 MM],[]⟩),(96,⟨50,16,.any,[zU],[]⟩)]) rfl rfl rfl rfl rfl;refine lX I2 [(9,[3])] [] ⟨_,a55,λh=>(by cases h),λ_=>⟨λh=>(by cases h),λ_=>⟨λh=>(by cases h),λ_=>⟨_,a32,?_⟩⟩⟩⟩;refine⟨_,aj.kr [5,6,7,10,40,41] [608,80,96] [(608,18)] rfl rfl rfl rfl,_,I 0,[18,80,96],fr.as (by rfl) (by rfl) (by rfl),rfl,λh=>(by cases h),λ_=>?_⟩;exact⟨_,aj.refl _ _,_,_,rfl,⟨rfl,rfl⟩,rfl,rfl,trivial⟩
theorem k3:Fn kg 36 [.agg (nn 30 2 b0 s0),.aL 3 1 RW,.agg (l0 NA)] (.bY [.agg (aF u3),I 0]):=by
 have a55:=Zw NA 4 159 rfl rfl (by decide);have a32:=akT 30 2 b0 s0;have fr:=h3.frame (R:=[(80,⟨33,5,.any,[l0 NA],[]⟩),(96,⟨50,16,.any,[zU],[]⟩)]) rfl rfl rfl rfl rfl;refine lX I2 [(9,[3])] [] ⟨_,a55,λh=>(by cases h),λ_=>⟨λh=>(by cases h),λ_=>⟨λh=>(by cases h),λ_=>⟨_,a32,?_⟩⟩⟩⟩;refine⟨_,aj.kr [5,6,7,10,40,41] [608,80,96] [(608,18)] rfl rfl rfl rfl,_,I 0,[18,80,96],fr.as (by rfl) (by rfl) (by rfl),rfl,λh=>(by cases h),λ_=>?_⟩;exact⟨_,aj.refl _ _,_,_,rfl,⟨rfl,rfl⟩,rfl,rfl,trivial⟩
theorem k4:Fn kg 36 [.agg (aF u3),.aL 3 1 RW,.agg (l0 QF)] (.bY [.agg (aF u4),I 0]):=by
 have a55:=Zw QF 3 162 rfl rfl (by decide);have a32:=c35 u3 (by decide) (by decide) (by decide) (by decide) (by decide) (by decide);have fr:=h4.frame (R:=[(80,⟨33,5,.any,[l0 QF],[]⟩),(96,⟨50,16,.any,[zU],[]⟩)]) rfl rfl rfl rfl rfl;refine lX I2 [(9,[3])] [] ⟨_,a55,λh=>(by cases h),λ_=>⟨λh=>(by cases h),λ_=>⟨λh=>(by cases h),λ_=>⟨_,a32,?_⟩⟩⟩⟩;refine⟨_,aj.kr [5,6,7,10,40,41] [608,80,96] [(608,18)] rfl rfl rfl rfl,_,I 0,[18,80,96],fr.as (by rfl) (by rfl) (by rfl),rfl,λh=>(by cases h),λ_=>?_⟩;exact⟨_,aj.refl _ _,_,_,rfl,⟨rfl,rfl⟩,rfl,rfl,trivial⟩
theorem k5:Fn kg 36 [.agg (aF u4),.aL 3 1 RW,.agg (l0 RS)] (.bY [.agg (aF u5),I 0]):=by
 have a55:=Zw RS 4 166 rfl rfl (by decide);have a32:=c35 u4 (by decide) (by decide) (by decide) (by decide) (by decide) (by decide);have fr:=h5.frame (R:=[(80,⟨33,5,.any,[l0 RS],[]⟩),(96,⟨50,16,.any,[zU],[]⟩)]) rfl rfl rfl rfl rfl;refine lX I2 [(9,[3])] [] ⟨_,a55,λh=>(by cases h),λ_=>⟨λh=>(by cases h),λ_=>⟨λh=>(by cases h),λ_=>⟨_,a32,?_⟩⟩⟩⟩;refine⟨_,aj.kr [5,6,7,10,40,41] [608,80,96] [(608,18)] rfl rfl rfl rfl,_,I 0,[18,80,96],fr.as (by rfl) (by rfl) (by rfl),rfl,λh=>(by cases h),λ_=>?_⟩;exact⟨_,aj.refl _ _,_,_,rfl,⟨rfl,rfl⟩,rfl,rfl,trivial⟩
theorem k6:Fn kg 36 [.agg (aF u5),.aL 3 1 RW,.agg (l0 Uw)] (.bY [.agg (aF u6),I 0]):=by
 have a55:=Zw Uw 3 163 rfl rfl (by decide);have a32:=c35 u5 (by decide) (by decide) (by decide) (by decide) (by decide) (by decide);have fr:=h6.frame (R:=[(80,⟨33,5,.any,[l0 Uw],[]⟩),(96,⟨50,16,.any,[zU],[]⟩)]) rfl rfl rfl rfl rfl;refine lX I2 [(9,[3])] [] ⟨_,a55,λh=>(by cases h),λ_=>⟨λh=>(by cases h),λ_=>⟨λh=>(by cases h),λ_=>⟨_,a32,?_⟩⟩⟩⟩;refine⟨_,aj.kr [5,6,7,10,40,41] [608,80,96] [(608,18)] rfl rfl rfl rfl,_,I 0,[18,80,96],fr.as (by rfl) (by rfl) (by rfl),rfl,λh=>(by cases h),λ_=>?_⟩;exact⟨_,aj.refl _ _,_,_,rfl,⟨rfl,rfl⟩,rfl,rfl,trivial⟩
theorem k7:Fn kg 36 [.agg (aF u6),.aL 3 1 RW,.agg (l0 WC)] (.bY [.agg (K9 u7 [[I 3,I 7,I 0]]),I 0]):=by
 have a55:=Zw WC 1 164 rfl rfl (by decide);have a32:=c35 u6 (by decide) (by decide) (by decide) (by decide) (by decide) (by decide);have fr:=h7.frame (R:=[(80,⟨33,5,.any,[l0 WC],[]⟩),(96,⟨50,16,.any,[zU],[]⟩)]) rfl rfl rfl rfl rfl;refine lX I2 [(9,[3])] [] ⟨_,a55,λh=>(by cases h),λ_=>⟨λh=>(by cases h),λ_=>⟨λh=>(by cases h),λ_=>⟨_,a32,?_⟩⟩⟩⟩;refine⟨_,aj.kr [5,6,7,10,40,41] [608,80,96] [(608,18)] rfl rfl rfl rfl,_,I 0,[18,80,96],fr.as (by rfl) (by rfl) (by rfl),rfl,λh=>(by cases h),λ_=>?_⟩;exact⟨_,aj.refl _ _,_,_,rfl,⟨rfl,rfl⟩,rfl,rfl,trivial⟩
abbrev nT(e:Ev):List AV:=[I e.id,I e.aR,I e.kind,NS e.eH,.ai]
abbrev EV:List (List AV):=[nT La,nT MM,nT NA,nT QF,nT RS,nT Uw,nT WC]
theorem c17:Fn kg 17 [] (.aL 5 7 EV):=by
 refine wT (N:=16) [.tmp 0] cC Tryz.func17 rfl (by kernel_rfl) rfl rfl rfl λE K a w hN hp hs=>?_
 have ji:∀b,bm b []=false->E.gK b=none:=λb _=>hp b
 refine wp_seq (sM (ps:=[]) (dm:=[]) [] cC bZ hN ji (c:=⟨idx 0 [],[]⟩) (Kk:=λ_=>True) (by exact trivial) ⟨K,hs⟩ λc1 a1 w1 _ lS=>?_);have uz:SR E ⟨[],[]⟩ a1 w1:=(Wk.ad [] []) E a1 w1 lS;refine wp_seq (sM (ps:=[]) (dm:=[]) [2,4,6,8,10,12,14] cC bZ hN ji (Kk:=λc=>∃c2,aj [] c c2/\c2=⟨[(0,.aL 5 7 EV)],[]⟩) ?_ uz λc1 a1 w1 hk lS=>?_)
 .refine⟨rfl,rfl,⟨[(2,.agg (nT La))],[]⟩,aj.ad [2] [],?_⟩
  refine⟨rfl,rfl,⟨[(2,.agg (nT La)),(4,.agg (nT MM))],[]⟩,aj.ad [2,4] [],?_⟩;refine⟨rfl,rfl,⟨[(2,.agg (nT La)),(4,.agg (nT MM)),(6,.agg (nT NA))],[]⟩,aj.ad [2,4,6] [],?_⟩;refine⟨rfl,rfl,⟨[(2,.agg (nT La)),(4,.agg (nT MM)),(6,.agg (nT NA)),(8,.agg (nT QF))],[]⟩,aj.ad [2,4,6,8] [],?_⟩;refine⟨rfl,rfl,⟨[(2,.agg (nT La)),(4,.agg (nT MM)),(6,.agg (nT NA)),(8,.agg (nT QF)),(10,.agg (nT RS))],[]⟩,aj.ad [2,4,6,8,10] [],?_⟩;refine⟨rfl,rfl,⟨[(2,.agg (nT La)),(4,.agg (nT MM)),(6,.agg (nT NA)),(8,.agg (nT QF)),(10,.agg (nT RS)),(12,.agg (nT Uw))],[]⟩,aj.ad [2,4,6,8,10,12] [],?_⟩;refine⟨rfl,rfl,⟨[(2,.agg (nT La)),(4,.agg (nT MM)),(6,.agg (nT NA)),(8,.agg (nT QF)),(10,.agg (nT RS)),(12,.agg (nT Uw)),(14,.agg (nT WC))],[]⟩,aj.ad [2,4,6,8,10,12,14] [],?_⟩;exact⟨_,aj.ad [0] [],rfl⟩
 .obtain⟨c2,hw,rfl⟩:=hk
  obtain⟨K2,uA⟩:=hw E a1 w1 ji lS;exact wp_ret ⟨.inr rfl,K2,_,uA,rfl,rfl,rfl⟩
abbrev QG:List AV:=[.ai,.ai,.ai,I 30,.ai,.ai,.ai,.ai,.ai,.ai,I 2,.ai,.ai,.ai,.ai,I 0]
abbrev ue:Us:=⟨30,[],[],[],[],2,[],0⟩
theorem aft:UOK ue:=⟨⟨by decide,by decide,Js,by decide,by decide,by decide,rfl,rfl⟩,rfl,rfl,by simp,by simp,by simp⟩
theorem QH:pK (.agg QG) (.agg (ax.aF ue)):=
 pK.EB ⟨.nil 5,.nil 6,.nil 6,.refl _,.nil 6,.nil 6,.nil 5,.nil 4,.nil 6,.nil 7,.refl _,.nil 4,.nil 8,.nil 2,.nil 3,.refl _,trivial⟩
theorem QI:pK (.agg QG) (.agg (o7 30 2)):=
 pK.EB ⟨.nil 5,.nil 6,.nil 6,.refl _,.nil 6,.nil 6,.refl _,.refl _,.nil 6,.nil 7,.refl _,.nil 4,.nil 8,.nil 2,.refl _,.refl _,trivial⟩
theorem ZP(e:Ev):pK (.agg (nT e)) (.agg (l0 e)):=pK.EB ⟨.refl _,.refl _,.refl _,.refl _,.nil 1,trivial⟩
theorem kw{us:List AV}{e:Ev}{r:AV}(h:Fn kg 36 [.agg us,.aL 3 1 RW,.agg (l0 e)] r):Fn kg 36 [.agg us,.aL 3 1 RW,.agg (nT e)] r:=
 h.gI ⟨.refl _,.refl _,ZP e,trivial⟩
abbrev Ux:List AV:=K9 u7 [[I 3,I 7,I 0]]
abbrev CR(i:Int)(us:List AV):aM:=
 ⟨[(1,.aL 3 1 RW),(6,.af 96 0),(7,I 0),(8,I 0),(9,.af 144 0),(25,.aL 5 7 EV),(26,I 7),(27,I i)],[(96,⟨50,16,.any,[zU],[]⟩),(144,⟨50,16,.any,[us],[]⟩)]⟩
def stL:List (List AV):=[o7 30 2,mf 30 2 b0,nn 30 2 b0 s0,aF u3,aF u4,aF u5,aF u6,Ux]
set_option maxHeartbeats 4000000 in
theorem c16:Fn kg 16 [.agg QG,.aL 3 1 RW,.aL 5 7 EV] (.bY [.agg Ux,I (-1),I 0]):=by
 have a26:=(c34 ue aft).gI (dj:=[.agg QG]) ⟨QH,trivial⟩;have a27:Fn kg 9 [.aL 3 1 RW] (I 0):=by have:=c9r Wj (by decide);rwa[KF]at this
 have a32:=(ae4 30 2).gI (dj:=[.agg QG]) ⟨QI,trivial⟩;refine lX aiw [] [] ⟨[(3,false)],_,a26,rfl,_,a27,λh=>(by cases h),λ_=>⟨_,a32,?_⟩⟩;refine⟨λm c=>∃(i:Nat)(us:List AV),i<=7/\m=7-i/\stL[i]?=some us/\c=CR i us,⟨_,_,aj.ad [1,6,7,8,9,25,26,27] [96,144],0,o7 30 2,by omega,rfl,rfl,rfl⟩,?_⟩;rintro m c ⟨i,us,hi,rfl,cY,rfl⟩;refine⟨λaC=>?_,λaC=>?_⟩
 .have aC:i<7:=by simp at aC;omega
  have key:∀(e:Ev)(us dj:List AV),us=us->True:=λ_ _ _ _=>trivial
  match i,aC,cY with
  |0,_,cY=>
   obtain rfl:=Wc (show some (o7 30 2)=some us from cY);refine⟨⟨by decide,by decide⟩,nT La,rfl,_,kw k1,λh=>(by cases h),λ_=>?_⟩;exact⟨_,rfl,_,_,aj.ad [1,6,7,8,9,25,26,27] [96,144],by omega,1,_,by omega,rfl,rfl,rfl⟩
  |1,_,cY=>
   obtain rfl:=Wc (show some (mf 30 2 b0)=some us from cY);refine⟨⟨by decide,by decide⟩,nT MM,rfl,_,kw k2,λh=>(by cases h),λ_=>?_⟩;exact⟨_,rfl,_,_,aj.ad [1,6,7,8,9,25,26,27] [96,144],by omega,2,_,by omega,rfl,rfl,rfl⟩
  |2,_,cY=>
   obtain rfl:=Wc (show some (nn 30 2 b0 s0)=some us from cY);refine⟨⟨by decide,by decide⟩,nT NA,rfl,_,kw k3,λh=>(by cases h),λ_=>?_⟩;exact⟨_,rfl,_,_,aj.ad [1,6,7,8,9,25,26,27] [96,144],by omega,3,_,by omega,rfl,rfl,rfl⟩
  |3,_,cY=>
   obtain rfl:=Wc (show some (aF u3)=some us from cY);refine⟨⟨by decide,by decide⟩,nT QF,rfl,_,kw k4,λh=>(by cases h),λ_=>?_⟩;exact⟨_,rfl,_,_,aj.ad [1,6,7,8,9,25,26,27] [96,144],by omega,4,_,by omega,rfl,rfl,rfl⟩
  |4,_,cY=>
   obtain rfl:=Wc (show some (aF u4)=some us from cY);refine⟨⟨by decide,by decide⟩,nT RS,rfl,_,kw k5,λh=>(by cases h),λ_=>?_⟩;exact⟨_,rfl,_,_,aj.ad [1,6,7,8,9,25,26,27] [96,144],by omega,5,_,by omega,rfl,rfl,rfl⟩
  |5,_,cY=>
   obtain rfl:=Wc (show some (aF u5)=some us from cY);refine⟨⟨by decide,by decide⟩,nT Uw,rfl,_,kw k6,λh=>(by cases h),λ_=>?_⟩;exact⟨_,rfl,_,_,aj.ad [1,6,7,8,9,25,26,27] [96,144],by omega,6,_,by omega,rfl,rfl,rfl⟩
  |6,_,cY=>
   obtain rfl:=Wc (show some (aF u6)=some us from cY);refine⟨⟨by decide,by decide⟩,nT WC,rfl,_,kw k7,λh=>(by cases h),λ_=>?_⟩;exact⟨_,rfl,_,_,aj.ad [1,6,7,8,9,25,26,27] [96,144],by omega,7,_,by omega,rfl,rfl,rfl⟩
 .have:i=7:=by simp at aC;omega
  subst this;have:us=Ux:=by injection(show some Ux=some us from cY)with h;exact h.symm
  subst this;exact⟨_,aj.refl _ _,_,_,rfl,⟨rfl,rfl⟩,rfl,rfl,rfl,rfl,trivial⟩
abbrev xl:List Sh:=[⟨1,1,9,0⟩,⟨2,1,9,0⟩]
abbrev xb:Bx:=⟨1,5,5,0,[]⟩
abbrev yc:Cy:=⟨1,1,2⟩
abbrev X0:List Wb:=[([1],[])]
abbrev X1:List Wb:=[([1],[]),([2],[yc])]
abbrev KX(E:List Wb)(Z q:List (List Int)):aM:=⟨[(2,.af 32 0),(5,.dX 208),(6,.dq 336 1 Z.length q.length)],OQ xl [xb] E (Z++q)⟩
abbrev KY(x:List Int)(p S:List Cy)(j:Int)(E:List Wb)(Z q:List (List Int)):aM:=⟨[(2,.af 32 0),(5,.dX 208),(6,.dq 336 1 Z.length q.length),(7,.af 112 0),(37,YS S),(38,I S.length),(39,I j)],OQ2 xl [xb] x p E (Z++q)⟩
theorem k45(x:List Int)(h:x.length<=1000)(hn:∀a∈x,¬nO xl a<0):Fn kg 45 [HS xl [xb],NS x] (EJ xl x):=c45 xl [xb] x (by decide) h hn
theorem k84(x:List Int)(h:x.length=1):Fn kg 84 [HS xl [xb],NS x] (fYS (A5 xl [xb] x)):=c84 xl [xb] x (by decide) (by decide) (by decide) h
set_option maxHeartbeats 4000000 in
theorem ale:Fn kg 44 [HS xl [xb],NS [1]] (.iB true true 3 (X1.map (Yx xl))):=by
 have e1:=k45 [1] (by decide) (by decide);have e2:=k45 [2] (by decide) (by decide);have s1:Fn kg 84 [HS xl [xb],NS [1]] (fYS [yc]):=k84 [1] rfl;have s2:Fn kg 84 [HS xl [xb],NS [2]] (fYS [⟨1,2,1⟩]):=k84 [2] rfl;refine lX aiD [(1,[6,6]),(12,[12,12]),(13,[3,0,0])] [] ?_;refine⟨by decide,_,e1,?_⟩;refine⟨_,aj.slot 18 (.agg [NS [1],YS []]) rfl rfl (.EB ⟨.refl _,.nil 3,trivial⟩),?_⟩;refine⟨λm c=>m=2/\c=KX X0 [] [[1]]∨m=1/\c=KX X1 [[1]] [[2]]∨m=0/\c=KX X1 [[1],[2]] [],
  ⟨2,_,(aj.slot 6 (u:=.bn 336 1 1) (.dq 336 1 0 1) rfl rfl (.dq 336 1 1)).trans (aj.ad [2,5,6] [32,208,336]),.inl ⟨rfl,rfl⟩⟩,?_⟩
 rintro m c (⟨rfl,rfl⟩|⟨rfl,rfl⟩|⟨rfl,rfl⟩)
 .refine⟨λ_=>?_,λh=>(by cases h)⟩
  refine⟨⟨by decide,by decide⟩,[NS [1]],rfl,_,e1,true,[NS [1],YS []],rfl,_,s1,true,?_⟩;refine⟨λn c=>n=1/\c=KY [1] [] [yc] 0 X0 [] [[1]]∨n=0/\c=KY [1] [] [yc] 1 X1 [] [[1],[2]],⟨1,_,aj.ad [2,5,6,7,37,38,39] [32,112,208,336],.inl ⟨rfl,rfl⟩⟩,?_⟩;rintro n c (⟨rfl,rfl⟩|⟨rfl,rfl⟩)
  .refine⟨λ_=>?_,λh=>(by cases h)⟩
   have a85:Fn kg 85 [NS [1],I 0,I 2] (fNS [2]):=c85 [1] (by decide) 0 (by decide) 2;refine⟨⟨by decide,by decide⟩,A0 yc,rfl,_,(c86 xl [xb] 1 (by decide):Fn kg 86 [HS xl [xb],I 1] (I 0)),_,a85,true,_,e2,false,rfl,λh=>(by cases h),λ_=>?_⟩;have a87:Fn kg 87 [.aL 3 0 []] (.dh true 198 3 0 []):=c87 [] (by decide) (λ_ h=>by cases h);refine⟨rfl,_,e2,_,a87,false,⟨by decide,by decide⟩,?_⟩;refine⟨_,aj.OV 1136 ⟨198,3,.pure,[A0 yc],[]⟩ rfl rfl,?_⟩;refine⟨by decide,?_⟩;refine⟨⟨[(2,.af 32 0),(5,.dX 208),(7,.af 112 0),(37,YS [yc]),(38,I 1),(39,I 0),(73,.dq 336 1 0 1),(75,.bn 1200 1 1)],OQ2 xl [xb] [1] [] X1 [[1]]++[(1200,⟨30,1,.flat,[[NS [2]]],[]⟩)]⟩,
    (aj.ad [2,5,7,37,38,39,73,75] [32,112,208,336,1200]).trans (aj.of rfl),?_⟩
   refine⟨_,I4 (d:=76) (b:=336) (sz:=1) (lo:=0) (n:=1) (m:=1) (aa:=[[NS [2]]]) cC bZ rfl rfl rfl rfl rfl rfl rfl rfl (by decide) rfl (by decide) rfl (by simp) rfl rfl rfl rfl rfl rfl (by decide) rfl ⟨by decide,by decide⟩ rfl rfl,?_⟩;rintro c3 (rfl|rfl)
   .exact⟨_,ah (by decide) (by decide),_,_,aj.ad [2,5,6,7,37,38,39] [32,112,208,336],by decide,.inr ⟨rfl,rfl⟩⟩
   .exact⟨_,ah (by decide) (by decide),_,_,aj.kr [2,5,6,7,37,38,39] [32,112,208,1216] [(1216,336)] rfl rfl rfl rfl,by decide,.inr ⟨rfl,rfl⟩⟩
  .refine⟨λh=>(by cases h),λ_=>?_⟩
   exact⟨⟨by decide,by decide⟩,1,_,aj.ad [2,5,6] [32,208,336],by decide,.inr (.inl ⟨rfl,rfl⟩)⟩
 .refine⟨λ_=>?_,λh=>(by cases h)⟩
  refine⟨⟨by decide,by decide⟩,[NS [2]],rfl,_,e2,true,[NS [2],YS [yc]],rfl,_,s2,true,?_⟩;refine⟨λn c=>n=1/\c=KY [2] [yc] [⟨1,2,1⟩] 0 X1 [[1]] [[2]]∨n=0/\c=KY [2] [yc] [⟨1,2,1⟩] 1 X1 [[1]] [[2]],⟨1,_,aj.ad [2,5,6,7,37,38,39] [32,112,208,336],.inl ⟨rfl,rfl⟩⟩,?_⟩;rintro n c (⟨rfl,rfl⟩|⟨rfl,rfl⟩)
  .refine⟨λ_=>?_,λh=>(by cases h)⟩
   have a85:Fn kg 85 [NS [2],I 0,I 1] (fNS [1]):=c85 [2] (by decide) 0 (by decide) 1;refine⟨⟨by decide,by decide⟩,A0 ⟨1,2,1⟩,rfl,_,(c86 xl [xb] 1 (by decide):Fn kg 86 [HS xl [xb],I 1] (I 0)),_,a85,true,_,e1,true,[NS [1],YS []],rfl,λ_=>?_,λh=>(by cases h)⟩;exact⟨_,ah (by decide) (by decide),_,_,aj.ad [2,5,6,7,37,38,39] [32,112,208,336],by decide,.inr ⟨rfl,rfl⟩⟩
  .refine⟨λh=>(by cases h),λ_=>?_⟩
   exact⟨⟨by decide,by decide⟩,0,_,aj.ad [2,5,6] [32,208,336],by decide,.inr (.inr ⟨rfl,rfl⟩)⟩
 .exact⟨λh=>(by cases h),λ_=>⟨_,aj.S2 [4] rfl,rfl,rfl,rfl⟩⟩
theorem w9':Fn kg 20 [SS xl,.aL 5 1 [tw xb],NS [1],NS [2]] (.bY [YS [yc],I 0]):=by
 have p1:Fn kg 43 [SS xl,BS [xb],NS [1]] (I 0):=c43 xl [xb] [1] (by decide) (by decide) (by decide) (λ_=>by decide);have p2:Fn kg 43 [SS xl,BS [xb],NS [2]] (I 0):=c43 xl [xb] [2] (by decide) (by decide) (by decide) (λ_=>by decide);have h:Fn kg 20 [SS xl,BS [xb],NS [1],NS [2]] (.bY [YS [yc],I 0]):=
  aH ah0 ⟨_,p1,λh=>(by cases h),λ_=>⟨_,p2,λh=>(by cases h),λ_=>⟨_,ale,_,k45 [2] (by decide) (by decide),true,[NS [2],YS [yc]],rfl,λh=>(by cases h),λ_=>⟨_,_,rfl,⟨rfl,rfl⟩,rfl,rfl,trivial⟩⟩⟩⟩
 exact h.gI ⟨.refl _,sN xb rfl,.refl _,.refl _,trivial⟩
end Go.an.ax.Aw
namespace Go.an.ax.Pk
open Go Go.an Go.Proofs
abbrev TT:List Int:=[0,10006,10006,10011,10005,10010,10010,20006]
abbrev BB:List (List Int):=[[0,0,0,0],[40004,10006,10006,10006],[40004,40004,10006,10006],[40004,10011,10011,10011],[40004,40004,40004,10005],[40004,10010,10010,10010],[40004,40004,10010,10010],[40004,20007,20007,20006]]
abbrev T0(k:Nat):List (List AV):=(TT.take k++List.replicate (8-k) 0).map pY
abbrev KT(k:Nat):aM:=⟨[(0,A [5,5,4]),(1,I 10),(4,.ai),(5,.bn 240 1 8),(17,I 8),(18,I k)],[(240,⟨3,1,.pure,T0 k,[]⟩)]⟩
abbrev KB(k i:Nat):aM:=⟨[(0,A [5,5,4]),(1,I 10),(4,.ai),(5,.bn 240 1 8),(6,I k),(7,I ((BB.getD k []).getD i 0)),(17,I 8),(18,I k),(27,A [5,5,4]),(28,I 3),(29,I i)],[(240,⟨3,1,.pure,T0 k,[]⟩)]⟩
set_option maxHeartbeats 8000000 in
theorem alf:Fn kg 90 [A [5,5,4],I 10] (fA TT):=by
 refine aH ais ⟨⟨by decide,by decide⟩,(8:Int),au rfl (by decide) (by decide),⟨rfl,by decide,by decide,by decide⟩,?_⟩;refine⟨λq c=>∃k:Nat,k<=8/\q=8-k/\c=KT k,⟨_,_,Wk.ad [0,1,4,5,17,18] [240],0,by decide,rfl,rfl⟩,?_⟩;rintro q c ⟨k,hk,rfl,rfl⟩;have h:k=0∨k=8∨k=1∨k=2∨k=3∨k=4∨k=5∨k=6∨k=7:=by omega
 rcases h with rfl|rfl|h
 .exact⟨λ_=>⟨λ_=>⟨_,ah (by decide) (by decide),_,_,Wk.ad [0,1,4,5,17,18] [240],by decide,1,by decide,rfl,rfl⟩,λh=>(by cases h)⟩,λh=>(by cases h)⟩
 .exact⟨λh=>(by cases h),λ_=>⟨rfl,_,rfl,rfl,rfl,.inl ⟨rfl,rfl⟩⟩⟩
 .rcases h with rfl|rfl|rfl|rfl|rfl|rfl|rfl
  all_goals
   refine⟨λ_=>⟨λh=>(by cases h),λ_=>⟨_,ah (by decide) (by decide),_,ah (by decide) (by decide),?_⟩⟩,λh=>(by cases h)⟩;refine⟨λq c=>∃i:Nat,i<=3/\q=3-i/\c=KB _ i,⟨_,_,Wk.ad [0,1,4,5,6,7,17,18,27,28,29] [240],0,by decide,rfl,rfl⟩,?_⟩;rintro q c ⟨i,hi,rfl,rfl⟩;obtain⟨j,hj⟩:∃j,j=i+1:=⟨_,rfl⟩;have h:i=3∨i=0∨i=1∨i=2:=by omega
   rcases h with rfl|h
   .exact⟨λh=>(by cases h),λ_=>⟨⟨by decide,by decide⟩,_,rfl,_,ah (by decide) (by decide),_,_,Wk.ad [0,1,4,5,17,18] [240],by decide,_,by decide,rfl,rfl⟩⟩
   .rcases h with rfl|rfl|rfl
    all_goals
     refine⟨λ_=>⟨⟨by decide,by decide⟩,_,rfl,⟨by decide,by decide⟩,_,rfl,?_⟩,λh=>(by cases h)⟩
     first
      |refine⟨λ_=>⟨_,ah (by decide+kernel) (by decide+kernel),3-j,_,Wk.ad [0,1,4,5,6,7,17,18,27,28,29] [240],by subst hj;decide,j,by subst hj;decide,rfl,by subst hj;rfl⟩,λh=>absurd h (by decide+kernel)⟩
      |refine⟨λh=>absurd h (by decide+kernel),λ_=>⟨⟨by decide+kernel,by decide+kernel⟩,_,ah (by decide+kernel) (by decide+kernel),_,rfl,⟨by decide+kernel,by decide+kernel⟩,_,rfl,by decide,_,ah (by decide+kernel) (by decide+kernel),⟨by decide+kernel,by decide+kernel⟩,_,ah (by decide+kernel) (by decide+kernel),_,rfl,⟨by decide+kernel,by decide+kernel⟩,_,rfl,by decide,?_⟩⟩
       first
        |refine⟨[(2,true)],by decide+kernel,λ_=>⟨_,ah (by decide+kernel) (by decide+kernel),_,ah (by decide+kernel) (by decide+kernel),_,ah (by decide+kernel) (by decide+kernel),_,ah (by decide+kernel) (by decide+kernel),_,ah (by decide+kernel) (by decide+kernel),3-j,_,Wk.ad [0,1,4,5,6,7,17,18,27,28,29] [240],by subst hj;decide,j,by subst hj;decide,rfl,by subst hj;rfl⟩,λh=>(by cases h)⟩
        |refine⟨[(2,false)],by decide+kernel,_,ah (by decide+kernel) (by decide+kernel),λ_=>⟨_,ah (by decide+kernel) (by decide+kernel),_,ah (by decide+kernel) (by decide+kernel),_,ah (by decide+kernel) (by decide+kernel),_,ah (by decide+kernel) (by decide+kernel),_,ah (by decide+kernel) (by decide+kernel),3-j,_,Wk.ad [0,1,4,5,6,7,17,18,27,28,29] [240],by subst hj;decide,j,by subst hj;decide,rfl,by subst hj;rfl⟩,λh=>absurd h (by decide+kernel)⟩
        |refine⟨[(2,false)],by decide+kernel,_,ah (by decide+kernel) (by decide+kernel),λh=>absurd h (by decide+kernel),λ_=>⟨_,ah (by decide+kernel) (by decide+kernel),_,ah (by decide+kernel) (by decide+kernel),_,ah (by decide+kernel) (by decide+kernel),_,ah (by decide+kernel) (by decide+kernel),3-j,_,Wk.ad [0,1,4,5,6,7,17,18,27,28,29] [240],by subst hj;decide,j,by subst hj;decide,rfl,by subst hj;rfl⟩⟩
theorem alg:Fn kg 46 [A [5,5,4],I 10] (.bY [fA TT,I 0]):=by
 have a89:Fn kg 89 [A [5,5,4],I 10] (I 0):=c89 [5,5,4] (by decide) 10;exact aH aib ⟨_,a89,λh=>(by cases h),λ_=>⟨_,alf,false,_,_,rfl,⟨_,rfl,rfl,rfl,.inl ⟨rfl,rfl⟩⟩,rfl,rfl,trivial⟩⟩
theorem ZQ:Fn kg 21 [NS [5,5,4],I 10] (.bY [I 2,I 0]):=
 aH ah1 ⟨_,alg,true,λh=>(by cases h),λ_=>⟨_,au (y:=7) rfl (by decide) (by decide),⟨by decide,by decide⟩,_,rfl,by decide,_,au (y:=2) (by decide) (by decide) (by decide),_,_,rfl,⟨rfl,rfl⟩,rfl,rfl,trivial⟩⟩
end Go.an.ax.Pk
namespace Go.an.ax.Aw
open Go Go.an Go.Proofs
theorem w16:Fn kg 18 [MS [m0,m1],I 1,I 0] (.bY [Tw (3,3),I 0]):=by
 have h:=c18 [m0,m1] 1 0 (by decide) (λ_=>by decide);have e:pL [m0,m1] 1 0=((3,3),0):=by decide
 rw[e]at h;exact h
set_option maxHeartbeats 8000000 in
theorem c4:Fn kg 4 [] (B true):=by
 refine lX qq4 [] [] ⟨_,c15 2 30 rfl rfl,_,c17,_,c16,_,w16,_,a17,_,w9',_,Pk.ZQ,?_⟩;refine⟨[(2,true),(7,true),(11,true),(16,true),(20,true)],rfl,rfl,rfl,rfl,rfl,_,rfl,_,rfl,_,rfl,_,rfl,_,rfl,?_⟩;exact⟨_,aj.refl _ _,rfl,rfl,rfl⟩
end Go.an.ax.Aw
namespace Go.an
open Go.RowKit
def jI(K K':KM)(O':List (Nat×ak)):KM:=λb=>if(aK O' b).isSome=true then K' b else K b
def afu:Kd->Bool
 |.any=>true
 |_=>false
def Bs(c:aM):List (Nat×ak)->Bool
 |[]=>true
 |(b,x)::r=>eP b c&& !afu x.kd&&Bs c r
theorem xn{c:aM}:∀{l:List (Nat×ak)},Bs c l=true->∀b x,aK l b=some x->eP b c=true/\x.kd≠.any
 |[],_,b,x,hb=>by simp[aK]at hb
 |(i,y)::r,h,b,x,hb=>by
  simp only[Bs,aA]at h;rw[aZ]at hb
  split at hb
  .rename_i e
   subst e;injection hb with hb
   subst hb;exact⟨h.1.1,λe=>by have:=h.1.2;rw[e]at this;cases this⟩
  .exact xn h.2 b x hb
theorem wc:∀(l l':List (Nat×ak))(b:Nat),aK (l++l') b=if(aK l b).isSome=true then aK l b else aK l' b
 |[],l',b=>by simp[aK]
 |(i,y)::r,l',b=>by
  rw[nB,aZ,aZ]
  split
  .simp
  .exact wc r l' b
def Uy(l:List (Nat×ak)):AV->Bool
 |.bn b _ _=>(aK l b).isSome
 |u=>u.bq
def QJ(l:List (Nat×ak)):AV->Bool
 |.agg xs=>xs.all (Uy l)
 |u=>Uy l u
theorem Lb{l:List (Nat×ak)}{u:AV}(h:Uy l u=true){b:Nat}(hb:u.has b=true):(aK l b).isSome=true:=by
 unfold Uy at h
 split at h
 .simp only[AV.has,lK]at hb
  subst hb;exact h
 .rw[lj b _ h]at hb;cases hb
theorem QK{l:List (Nat×ak)}{u:AV}(h:QJ l u=true){b:Nat}(hb:u.has b=true):(aK l b).isSome=true:=by
 unfold QJ at h
 split at h
 .rename_i xs
  simp only[AV.has]at hb
  induction xs with
  |nil=>simp[AV.cN]at hb
  |cons x xs ih=>
   simp only[rX,aA]at h;simp only[AV.cN,pj]at hb
   rcases hb with hb|hb
   .exact Lb h.1 hb
   .exact ih hb h.2
 .exact Lb h hb
def FnO(P:Program)(f:FuncId)(args:List AV)(R:List (Nat×ak)->AV->Prop):Prop:=FnF P f args λ_ _ O r=>R O r
section
variable{P:Program} {E:Env} {K:KM} {c:aM} {a:Act} {w:World}
theorem bC.afv(h:bC E K c a w){K':KM}{O':List (Nat×ak)}{w':World}(jF:Bs c O'=true)
  (gz:yq w' (λg=>bH K' O' g∨XX E K c.O g) K' O')(hl:∀g,bH K' O' g->w.heap.size<=g)(hx:Ext (λ_=>False) w w'):
  bC E (jI K K' O') ⟨c.fr,O'++c.O⟩ a w'/\∀g,XX E (jI K K' O') (O'++c.O) g->bH K' O' g∨XX E K c.O g:=by
 have kO:∀b,(aK O' b).isSome=true->jI K K' O' b=K' b:=λb hb=>by unfold jI;rw[if_pos hb]
 have kN:∀b,(aK O' b).isSome=false->jI K K' O' b=K b:=λb hb=>by unfold jI;rw[if_neg (by simp[hb])]
 have bO:∀b,(aK O' b).isSome=true->aG (jI K K' O') b=aG K' b:=λb hb=>by unfold aG;rw[kO b hb]
 have bN:∀b,(aK O' b).isSome=false->aG (jI K K' O') b=aG K b:=λb hb=>by unfold aG;rw[kN b hb]
 have oO:∀b,(aK O' b).isSome=true->aK (O'++c.O) b=aK O' b:=λb hb=>by rw[wc,if_pos hb]
 have oN:∀b,(aK O' b).isSome=false->aK (O'++c.O) b=aK c.O b:=λb hb=>by rw[wc,if_neg (by simp[hb])]
 have fr:∀b,(aK O' b).isSome=true->eP b c=true:=λb hb=>by
  obtain⟨x,hx⟩:=bF.1 hb;exact(xn jF b x hx).1
 have oS:∀g,bH (jI K K' O') (O'++c.O) g->bH K' O' g∨bH K c.O g:=by
  rintro g ⟨b,h1,h2⟩
  cases hb:(aK O' b).isSome with
  |true=>rw[bO b hb]at h2;exact .inl ⟨b,hb,h2⟩
  |false=>rw[bN b hb]at h2;rw[oN b hb]at h1;exact .inr ⟨b,h1,h2⟩
 have Nr:∀g,XX E (jI K K' O') (O'++c.O) g->bH K' O' g∨XX E K c.O g:=by
  rintro g (hg|hg)
  .exact(oS g hg).imp id .inl
  .exact .inr (.inr hg)
 have hXo:∀g,g<w.heap.size->XX E (jI K K' O') (O'++c.O) g->XX E K c.O g:=by
  intro g hg hq
  rcases Nr g hq with h1|h1
  .have:=hl g h1;omega
  .exact h1
 have dR:dv (XX E K c.O) w w':=⟨hx.size,λg hg _=>hx.block g hg id,hx.shape⟩;have kT:∀b g,(aK O' b).isSome=true->aG K' b=some g->w.heap.size<=g:=λb g h1 h2=>hl g ⟨b,h1,h2⟩
 refine⟨⟨h.size,h.defers,⟨hx.os.trans h.ext.os,hx.tape.trans h.ext.tape,hx.output.trans h.ext.output,du h.ext.size hx.size,λg hg hX=>?_,λg aJ e hc=>?_⟩,λt=>(h.fr t).ad dR hXo λb hb=>?_,λb ae hb=>?_,λb ae hb=>?_,λb b' g h1 h2 k1 k2=>?_,λb g h1 k1=>?_,λb x hb=>?_⟩,Nr⟩
 .rw[hx.block g (ew hg h.ext.size) id]
  exact h.ext.block g hg hX
 .obtain⟨c1,h1,s1⟩:=h.ext.shape g aJ e hc
  obtain⟨c2,h2,s2⟩:=hx.shape g c1 e h1;exact⟨c2,h2,s2.trans s1⟩
 .cases hq:(aK O' b).isSome with
  |true=>rw[(jq (fr b hq)).2.1 t]at hb;cases hb
  |false=>exact kN b hq
 .cases hq:(aK O' b).isSome with
  |true=>rw[oO b hq]at hb;exact gz.aa b ae hb
  |false=>rw[oN b hq]at hb;exact h.aa b ae hb
 .cases hq:(aK O' b).isSome with
  |true=>
   rw[oO b hq]at hb;rw[kO b hq];refine(gz.own b ae hb).imp id ?_;rintro⟨g,h1,h2⟩;exact⟨g,h1,h2.ad rfl (dv.refl _ _) (λg _ hg=>Nr g hg) λhk=>absurd hk (xn jF b ae hb).2⟩
  |false=>
   rw[oN b hq]at hb;rw[kN b hq];refine(h.own b ae hb).imp id ?_;rintro⟨g,h1,h2⟩;refine⟨g,h1,h2.ad (hx.block g (h.fu (by rw[hb];rfl) (aU h1)) id) dR hXo λhk j u i hj hi=>?_⟩
   cases hqi:(aK O' i).isSome with
   |true=>
    have:=iM ((jq (fr i hqi)).2.2 b ae hb hk) hj;rw[this]at hi;cases hi
   |false=>exact kN i hqi
 .cases hq:(aK O' b).isSome with
  |true=>
   cases jB:(aK O' b').isSome with
   |true=>rw[bO b hq]at k1;rw[bO b' jB]at k2;exact gz.inj b b' g hq jB k1 k2
   |false=>
    rw[bO b hq]at k1;rw[bN b' jB]at k2;rw[oN b' jB]at h2;have:=kT b g hq k1;have:=h.fu h2 k2;omega
  |false=>
   cases jB:(aK O' b').isSome with
   |true=>
    rw[bN b hq]at k1;rw[bO b' jB]at k2;rw[oN b hq]at h1;have:=kT b' g jB k2;have:=h.fu h1 k1;omega
   |false=>rw[bN b hq]at k1;rw[bN b' jB]at k2;rw[oN b hq]at h1;rw[oN b' jB]at h2;exact h.inj b b' g h1 h2 k1 k2
 .cases hq:(aK O' b).isSome with
  |true=>rw[bO b hq]at k1;exact .inr (du h.ext.size (kT b g hq k1))
  |false=>rw[bN b hq]at k1;rw[oN b hq]at h1;exact h.fI b g h1 k1
 .cases hq:(aK O' b).isSome with
  |true=>
   have h1:=fD (fr b hq);have h2:=E.yv b x hb;have h1:=dn h1;have h2:=dn h2;omega
  |false=>rw[kN b hq];exact h.gK b x hb
theorem MN{N:Nat}{ps:List Nat}{aB:Array Oper}{p:Nat}{o:Oper}{cl:Call}{f:Operand}{g:Nat}{dt us:List AV}{R:List (Nat×ak)->AV->Prop}(ho:aB[p]?=some o)(cq:o.op=.call cl)(GH:cl.callee=.value f)(hg:gX o=true)(hf:j8 c f=.func g dt)
  (zP:cl.args.toList.map (j8 c)++dt=us)(hid:AV.cW us=true)(sv:pI us=true)(FB:FnO P g us R)(hR:∀O' r,R O' r->Bs c O'=true/\QJ O' r=true)(hd:fg N c o.dst=true):BN P N ps aB p c (λc'=>∃O' r,R O' r/\c'=⟨qi o.dst r c.fr,O'++c.O⟩):=by
 rintro E a w Q hN hp ⟨K,hs⟩;have tZ:o.guard=none:=by unfold gX at hg;split at hg<;>first|assumption|cases hg
 obtain⟨⟨fn,OB,ek,mj⟩,Ab⟩:=FB;obtain⟨callee,args,ts⟩:=cl;simp only at GH zP;subst GH;have az:=fh hs;obtain⟨cv,ef,Ni,Sq⟩:=VR.fJ (az.at hf);obtain⟨ml,mv⟩:=mP az args;unfold wpOp;rw[ho];simp only;rw[if_pos (dS tZ)]
 left
 unfold Oper.wp;have Ck:(execOp a.eval o).run P w=.ok (.enter g (args.map a.eval++cv)) w:=by
  simp only[execOp,cq,resolve,ef,Deferred.ofValue,Sem.run_bind,Sem.run_pure,Result.andThen_ok,invoke,callFunc,run_program];simp[OB,ek,mj]
 rw[Ck,Oper.upon_enter];have mQ:us.length=(args.map a.eval++cv).size:=by
  rw[<-zP];simp[Ni]
 have fU:∀(j:Nat) u v,us[j]?=some u->(args.map a.eval++cv)[j]?=some v->VR w (XX E K c.O) K0 u v:=by
  intro j u v hu hv;have XI:=mX sv u (ay hu);have og:=eK hid hu;rw[<-zP]at hu;have Ac:(args.toList.map (j8 c)).length=(args.map a.eval).size:=by simp
  rcases eJ j (args.toList.map (j8 c)).length with aC|kT
  .rw[bM aC]at hu
   rw[D1 (by omega)]at hv;exact mU og (FV.vr (mv j u v hu (by simpa using hv)) XI)
  .rw[cm kT]at hu
   rw[lC (by omega)]at hv;rw[Ac]at hu;exact mU og (Sq _ u v hu hv)
 have kS:∀w',Ext (λ_=>False) w w'->WI w':=by
  intro w' hx;refine E.kS _ ⟨hx.os.trans hs.ext.os,hx.tape.trans hs.ext.tape,hx.output.trans hs.ext.output,du hs.ext.size hx.size,λg hg hX=>?_,λg aJ e hc=>?_⟩
  .rw[hx.block g (ew hg hs.ext.size) id]
   exact hs.ext.block g hg hX
  .obtain⟨c1,h1,s1⟩:=hs.ext.shape g aJ e hc
   obtain⟨c2,h2,s2⟩:=hx.shape g c1 e h1;exact⟨c2,h2,s2.trans s1⟩
 have aC:∀g,XX E K c.O g->g<w.heap.size:=by
  rintro g (⟨b,hb,hk⟩|⟨_,hg⟩)
  .exact hs.fu hb hk
  .exact ew hg hs.ext.size
 refine(Ab (XX E K c.O) w _ kS aC mQ fU).mono ?_;rintro e w1 ⟨v,K',O',r,rfl,WD,hrv,gz,hl,hx⟩;obtain⟨jF,wq⟩:=hR O' r WD;obtain⟨lS,Nr⟩:=hs.afv jF gz hl hx;have ZM:VR w1 (XX E (jI K K' O') (O'++c.O)) (jI K K' O') r v:=hrv.ad (dv.refl _ _) (λg _ hg=>Nr g hg) λb hb=>by unfold jI;rw[if_pos (QK wq hb)]
 have BL:fg E.N ⟨c.fr,O'++c.O⟩ o.dst=true:=by rw[hN];exact hd
 exact⟨⟨qi o.dst r c.fr,O'++c.O⟩,⟨O',r,WD,rfl⟩,jI K K' O',lS.put (dst:=o.dst) (u:=r) (v:=v) BL λ_ _=>FV.of ZM⟩
end
def alh(T:dD)(x:ResultVar)(R:List (Nat×ak)->AV->Prop)(c:aM):Prop:=
 ∃c2,aj [] c c2/\∃u O',vt T c2 x=some u/\pI [u]=true/\(∀b y,aK O' b=some y->aK c2.O b=some y)/\R O' u
def QL(T:dD)(x:ResultVar)(R:List (Nat×ak)->AV->Prop):Ex->aM->Prop
 |.exit _,_=>False
 |_,c=>alh T x R c
def ali(T:dD)(x:ResultVar)(R:List (Nat×ak)->AV->Prop)(E:Env):Exit->Act->World->Prop:=λe a w=>(e=.normal∨e=.ret)/\∃K c2,bC E K c2 a w/\∃u O',vt T c2 x=some u/\pI [u]=true/\(∀b y,aK O' b=some y->aK c2.O b=some y)/\R O' u
theorem ZR{P:Program}{N:Nat}{T:dD}(x:ResultVar)(hT:br P T){f:FuncId}{fn:Func}{code:Code}{args:List AV}{R:List (Nat×ak)->AV->Prop}
  (hf:P.funcs[f]?=some fn)(hb:fn.body=some code)(ek:(fn.name== "runtime.NumGoroutine")=false)(hn:Nat.ble args.length fn.ntmps=true)(hN:fn.ntmps=N)(hr:fn.results.toList=[x])
  (h:∀(E:Env)(K:KM)(a:Act)(w:World),E.N=N->(∀b,E.gK b=none)->bC E K ⟨idx 0 args,[]⟩ a w->code.wp P (ali T x R E) a w):FnO P f args R:=by
 refine⟨⟨fn,hf,ek,by rw[hb];rfl⟩,λXF w vs kS Fw cz fU=>?_⟩;refine calls_of_wp hf hb ?_;have RC:=dn hn;subst hN
 let E:Env:=⟨λ_=>False,XF,w,fn.ntmps,kS,λ_=>none,λb x hx=>(by cases hx),λg _ h=>h⟩
 have Nr:∀g,XX E K0 [] g->XF g:=by
  rintro g (h|h)
  .exact absurd h Ow
  .exact h.1
 refine wp_mono (h E K0 _ _ rfl (λ_=>rfl) ?_) ?_
 .refine⟨by simp[E];omega,rfl,⟨rfl,rfl,rfl,bG _,λ_ _ _=>rfl,λ_ aJ _ h=>⟨aJ,h,rfl⟩⟩,λs=>?_,λb ae hb=>by simp[aK]at hb,λb ae hb=>by simp[aK]at hb,λb b' g hb=>by simp[aK]at hb,λb g hb=>by simp[aK]at hb,λb x hx=>by cases hx⟩
  simp only[uc,cF,yH,lz]
  cases hu:args[s]? with
  |none=>rw[lJ,hu];exact FV.top
  |some u=>
   rw[lJ,hu];have hs:s<vs.size:=by rw[<-cz];exact(aE.1 hu).1
   have n9:vs[s]?=some vs[s]:=by simp[hs]
   have:=fU s u _ hu n9;rw[show(vs++Array.replicate (fn.ntmps-vs.size) undef).getD s undef=vs[s]by
    rw[dI,D1 hs];simp[hs]]
   exact FV.of (this.sub λg _ hg=>Nr g hg)
 .rintro e a w' ⟨he,K',c,hs,u,O',hu,sv,B3,hR⟩
  obtain⟨v,Ck,Vc⟩:=mV hT hs hu;have hv:VR w' (XX E K' c.O) K' u v:=Vc.vr (mX sv u (by simp));have hlv:∀g,bH K' O' g->bH K' c.O g:=by
   rintro g ⟨b,h1,h2⟩;obtain⟨y,hy⟩:=bF.1 h1;exact⟨b,by rw[B3 b y hy];rfl,h2⟩
  have Oz:∀g,bH K' O' g∨XF g->XX E K' c.O g:=by
   rintro g (h|h)
   .exact .inl (hlv g h)
   .exact .inr ⟨h,Fw g h⟩
  have key:a.defers=[] /\∃v1,(results fn a.tmps).run P w'=.ok v1 w'/\∃v K' O' r,Ending.returned v1=.returned v/\R O' r/\VR w' (λg=>bH K' O' g∨XF g) K' r v/\yq w' (λg=>bH K' O' g∨XF g) K' O'/\(∀g,bH K' O' g->w.heap.size<=g)/\Ext (λ_=>False) w w':=by
   refine⟨hs.defers,v,gh hr _ _ (vs:=[v]) rfl (λj x v2 hx Ay=>by
     cases j with
     |zero=>simp at hx Ay;subst hx Ay;exact Ck
     |succ j=>simp at hx),_,K',O',u,rfl,hR,hv.sub λg _ hg=>Oz g hg,⟨λb ae hb=>hs.aa b ae (B3 b ae hb),λb ae hb=>?_,λb b' g h1 h2=>?_⟩,λg hg=>?_,hs.ext⟩
   .rcases hs.own b ae (B3 b ae hb)with h1|⟨g,h1,h2⟩
    .exact .inl h1
    .exact .inr ⟨g,h1,h2.ad rfl (dv.refl _ _) (λg _ hg=>Oz g hg) (λ_ _ _ _ _ _=>rfl)⟩
   .obtain⟨y,hy⟩:=bF.1 h1
    obtain⟨y',J1⟩:=bF.1 h2;exact hs.inj b b' g (by rw[B3 b y hy];rfl) (by rw[B3 b' y' J1];rfl)
   .obtain⟨b,h1,h2⟩:=hlv g hg
    rcases hs.fI b g h1 h2 with h|h
    .exact absurd h id
    .exact h
  rcases he with rfl|rfl
  .exact key
  .exact key
theorem Uz{P:Program}{N:Nat}{T:dD}{ks wk:List Nat}{gs:List (Nat×List Nat)}(x:ResultVar)(hT:br P T)(h1:bW T=true)(hm:P.follows .mixedOrders=true){f:FuncId}{fn:Func}{code:Code}{args:List AV}{R:List (Nat×ak)->AV->Prop}
  (hf:P.funcs[f]?=some fn)(hb:fn.body=some code)(ek:(fn.name== "runtime.NumGoroutine")=false)(hd:cr code=true)(hn:Nat.ble args.length fn.ntmps=true)(hN:fn.ntmps=N)(hr:fn.results.toList=[x])
  (h:mY P T N ks gs wk [] code ⟨idx 0 args,[]⟩ (QL T x R)):FnO P f args R:=
 ZR x hT hf hb ek hn hN hr λE K a w SZ hp hs=>
  cD hT h1 SZ hm (λb _=>hp b) code _ (QL T x R) _ a w hd h (λe c' a' w' hq eh=>by
   cases e with
   |exit id=>exact hq.elim
   |normal=>obtain⟨c2,h1,h2⟩:=hq;obtain⟨K2,h3⟩:=h1 E a' w' (λb _=>hp b) eh;exact⟨.inl rfl,K2,c2,h3,h2⟩
   |ret=>obtain⟨c2,h1,h2⟩:=hq;obtain⟨K2,h3⟩:=h1 E a' w' (λb _=>hp b) eh;exact⟨.inr rfl,K2,c2,h3,h2⟩) ⟨K,hs⟩
end Go.an
