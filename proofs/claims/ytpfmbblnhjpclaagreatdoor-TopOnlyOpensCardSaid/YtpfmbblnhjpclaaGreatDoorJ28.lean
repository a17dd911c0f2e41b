import Derived.Test.YtpfmbblnhjpclaaGreatDoorJ20
import Derived.Test.YtpfmbblnhjpclaaGreatDoorJ27
import Derived.Test.YtpfmbblnhjpclaaGreatDoorJ22
import Derived.Test.YtpfmbblnhjpclaaGreatDoorJ21
import Derived.Test.YtpfmbblnhjpclaaGreatDoorJ15
set_option linter.unusedVariables false
set_option linter.unusedSimpArgs false
set_option maxRecDepth 20000
namespace Go.an.ax.Ag
open Go Go.an Go.Proofs
structure o6 where
 id:Int
 bX:Int
 Uc:Int
 strict:Bool
 lo:Int
 hi:Int
 deriving DecidableEq
structure Gr where
 kind:Int
 src:Int
 vG:Int
 Uc:Int
 deriving DecidableEq
def jc(a:o6):List AV:=[.int .i64 a.id,.int .i64 a.bX,.int .i64 a.Uc,.bool a.strict,.int .i64 a.lo,.int .i64 a.hi]
def nl(g:Gr):List AV:=[.int .i64 g.kind,.int .i64 g.src,.int .i64 g.vG,.int .i64 g.Uc]
def sI(a:o6):Bool:=decide (a.id>=1)&&decide (a.id<=1073741824)&&decide (a.bX>=1)&&decide (a.bX<=1073741824)&&decide (a.Uc>=0)&&decide (a.Uc<=1048576)&&decide (a.lo>=0)&&decide (a.lo<a.hi)&&decide (a.hi<=1048576)
def sJ(a:o6)(bX aR:Int):Bool:=sI a&&(a.bX==bX)&&decide (a.lo<=aR)&&decide (aR<a.hi)&&decide (aR<a.Uc)
abbrev A(l:List o6):AV:=.aL 6 l.length (l.map jc)
abbrev G(l:List Gr):AV:=.aL 4 l.length (l.map nl)
abbrev fG(l:List Gr):AV:=.dh true 187 4 l.length (l.map nl)
theorem aeI(a:o6):Fn kg 127 [.agg (jc a)] (.bool (sI a)):=aH abR ⟨[],rfl,rfl,rfl⟩
theorem aj7(a:o6)(x d:Int):Fn kg 268 [.agg (jc a),I x,I d] (.bool (sJ a x d)):=aH acT ⟨[],_,aeI a,rfl,rfl,rfl⟩
def Wt(a:o6):Int:=iK a.Uc a.hi
theorem aj8(a:o6):Fn kg 267 [.agg (jc a)] (I (Wt a)):=aH acS ⟨rfl,rfl,rfl⟩
def zc(a:o6):Gr:=⟨3,a.id,0,Wt a⟩
theorem aj9(a:o6):Fn kg 266 [.agg (jc a)] (.agg (nl (zc a))):=aH acR ⟨_,aj8 a,rfl,rfl,rfl⟩
theorem Wu(l:List o6):jm (l.map jc):=by
 intro row hr u hu;simp only[cK]at hr;obtain⟨a,_,rfl⟩:=hr;simp only[jc,bK,j5,or_false]at hu
 rcases hu with rfl|rfl|rfl|rfl|rfl|rfl<;>rfl
def qx(p:Option o6):List o6->Int
 |[]=>0
 |a::r=>if sI a=false then 2 else match p with
  |some q=>if a.id<=q.id then 5 else qx (some a) r
  |none=>qx (some a) r
def bg(l:List o6):Int:=if l.length>64 then 8 else qx none l
def cf(l:List o6)(i:Nat):Option o6:=if i=0 then none else l[i-1]?
theorem iP{l:List o6}(h:64<l.length):bg l=8:=if_pos h
theorem jP{l:List o6}(h:l.length<=64):bg l=qx none l:=if_neg (by omega)
theorem c93(l:List o6):Fn kg 93 [A l] (I (bg l)):=by
 refine aH aby ⟨λh=>?_,λh=>?_⟩
 .simp at h
  exact⟨rfl,rfl,by rw[iP (by omega)];rfl⟩
 .simp at h
  rw[jP (by omega)];refine⟨λn c=>∃i:Nat,i<=l.length/\n=l.length-i/\c=⟨[(0,A l),(2,I 0),(8,A l),(9,I l.length),(10,I i)],[]⟩/\qx (cf l i) (l.drop i)=qx none l,⟨_,_,Wk.ad [0,2,8,9,10] [],0,by omega,rfl,rfl,by simp[cf]⟩,?_⟩;rintro n c ⟨i,hi,rfl,rfl,hI⟩;refine⟨λh=>?_,λh=>?_⟩
  .simp at h
   obtain⟨a,ha,hd,_⟩:=aq h;rw[hd]at hI;refine⟨by omega,jc a,by simp[ha],?_⟩;refine⟨_,aeI a,λhf=>?_,λhf=>?_⟩
   .simp at hf
    refine⟨rfl,rfl,?_⟩;simp[qx,hf]at hI;rw[<-hI];rfl
   .simp at hf
    by_cases h0:i=0
    .subst h0
     refine⟨[(2,false)],by simp,λh=>?_,λh=>?_⟩
     .cases h
     .refine⟨_,ah,?_⟩
      refine⟨_,_,Wk.ad [0,2,8,9,10] [],?_,1,by omega,rfl,rfl,?_⟩
      .omega
      .simp[qx,hf,cf]at hI
       simp[cf,ha,<-hI]
    .obtain⟨p,hp⟩:∃p,l[i-1]?=some p:=⟨l[i-1],by simp⟩
     have yR:(if a.id<=p.id then 5 else qx (some a) (l.drop (i+1)))=qx none l:=by simpa[qx,hf,cf,h0,hp]using hI
     refine⟨[(2,true)],by simp;omega,_,ah,by omega,jc p,?_,λh=>?_,λh=>?_⟩
     .exact get_map' hp (by omega)
     .simp at h
      rw[if_pos h]at yR;exact⟨rfl,rfl,by rw[<-yR];rfl⟩
     .simp at h
      rw[if_neg (by omega)]at yR;refine⟨_,ah,?_⟩;refine⟨_,_,Wk.ad [0,2,8,9,10] [],?_,i+1,by omega,rfl,rfl,?_⟩
      .omega
      .simpa[cf,ha]using yR
  .simp at h
   have:i=l.length:=by omega
   subst this;simp[qx]at hI;exact⟨rfl,rfl,by rw[<-hI];rfl⟩
theorem aka(l:List o6)(hl:l.length<=9223372036854775807)(p:o6->Bool)(g:FuncId)(xs:List AV)(hp:∀a∈l,Fn kg g [.agg (jc a),.aw xs 0] (.bool (p a))):Fn kg 185 [A l,.func g [.aw xs 0]] (I (aQ p 0 l)):=by
 refine aH ace ?_;refine⟨λn c=>∃i:Nat,i<=l.length/\n=l.length-i/\c=⟨[(0,A l),(1,.func g [.aw xs 0]),(4,I 0),(7,I l.length),(8,I i)],[]⟩/\aQ p i (l.drop i)=aQ p 0 l,⟨_,_,Wk.ad [0,1,4,7,8] [],0,by omega,rfl,rfl,by simp⟩,?_⟩;rintro n c ⟨i,hi,rfl,rfl,hI⟩;refine⟨λh=>?_,λh=>?_⟩
 .simp at h
  obtain⟨a,ha,hd,_⟩:=aq h;rw[hd,aQ]at hI;refine⟨by omega,jc a,by simp[ha],_,hp a (ay ha),λhf=>?_,λhf=>?_⟩
  .rw[if_pos hf]at hI
   exact⟨rfl,rfl,by rw[<-hI];rfl⟩
  .rw[if_neg (by simp[hf])]at hI
   refine⟨_,ah,?_⟩;exact⟨_,_,Wk.ad [0,1,4,7,8] [],by omega,i+1,by omega,rfl,rfl,hI⟩
 .simp at h
  have:i=l.length:=by omega
  subst this;simp[aQ]at hI;exact⟨rfl,rfl,by rw[<-hI];rfl⟩
theorem akb(l:List o6)(hl:l.length<=9223372036854775807)(p:o6->Bool)(g:FuncId)(xs:List AV)(hp:∀a∈l,Fn kg g [.agg (jc a),.aw xs 0] (.bool (p a))):Fn kg 116 [A l,.func g [.aw xs 0]] (.bool (decide (aQ p 0 l>=0))):=
 aH abI ⟨_,aka l hl p g xs hp,rfl,rfl,rfl⟩
theorem akc(a:o6)(id:Int):Fn kg 117 [.agg (jc a),.aw [I id] 0] (.bool ((a.id==id)&&a.strict)):=aH abJ ⟨[],rfl,rfl,rfl⟩
def sK(l:List o6)(id:Int):Bool:=(bg l==0)&&decide (aQ (λa=>(a.id==id)&&a.strict) 0 l>=0)
theorem c81(l:List o6)(hl:l.length<=9223372036854775807)(id:Int):Fn kg 81 [A l,I id] (.bool (sK l id)):=
 aH ail ⟨[],_,c93 l,_,akb l hl _ 117 [I id] (λa _=>akc a id),rfl,rfl,rfl⟩
theorem akd{fr pJ:List (Nat×AV)}{b e sz:Nat}{kd:Kd}{aa gO:List (List AV)}(h1:fr=pJ)(h2:aa=gO):(⟨fr,[(b,⟨e,sz,kd,aa,[]⟩)]⟩:aM)=⟨pJ,[(b,⟨e,sz,kd,gO,[]⟩)]⟩:=by subst h1 h2;rfl
theorem AA{α:Type}{n:Nat}(xs ys:List α)(h:xs.length=n):xs.take n++ys=xs++ys:=by rw[ph (by omega)]
def kF(l:List o6)(x d:Int):List Gr:=if bg l≠0 then[]else(l.filter (sJ · x d)).map zc
theorem ik{l:List o6}(h:bg l=0):l.length<=64:=by
 by_cases hl:64<l.length
 .rw[iP hl]at h;cases h
 .omega
def Bl(l:List o6)(x d:Int)(i:Nat):List Gr:=((l.take i).filter (sJ · x d)).map zc
theorem Qf(l:List o6)(x d:Int)(i:Nat)(h:l.length<=64):(Bl l x d i).length<=64:=by
 have:=zx (sJ · x d) (l.take i);simp only[Bl,gB];simp only[aO]at this;omega
theorem Zc{l:List o6}{x d:Int}{i:Nat}{a:o6}(ht:l.take (i+1)=l.take i++[a])(h:sJ a x d=true):Bl l x d (i+1)=Bl l x d i++[zc a]:=by
 simp[Bl,ht,h]
theorem Zd{l:List o6}{x d:Int}{i:Nat}{a:o6}(ht:l.take (i+1)=l.take i++[a])(h:sJ a x d=false):Bl l x d (i+1)=Bl l x d i:=by
 simp[Bl,ht,h]
theorem ake(l:List o6)(x d:Int):Fn kg 180 [A l,I x,I d] (fG (kF l x d)):=by
 refine aH acb ⟨_,c93 l,λh=>?_,λh=>?_⟩
 .simp at h
  refine⟨rfl,.inr ⟨true,187,4,?_⟩⟩;rw[kF,if_pos h];rfl
 .simp at h
  have hl:=ik h;rw[kF,if_neg (by simp[h])];refine⟨λn c=>∃i:Nat,i<=l.length/\n=l.length-i/\c=⟨[(1,I x),(2,I d),(6,.ai),(7,.func 266 []),(8,.bn 464 4 (Bl l x d i).length),(14,A l),(15,I l.length),(16,I i)],[(464,⟨187,4,.pure,(Bl l x d i).map nl,[]⟩)]⟩,⟨_,_,Wk.vB 8 464 ⟨187,4,.pure,[],[]⟩ [1,2,6,7,8,14,15,16] [464] rfl rfl rfl,0,by omega,rfl,rfl⟩,?_⟩;rintro n c ⟨i,hi,rfl,rfl⟩;refine⟨λh=>?_,λh=>?_⟩
  .simp at h
   obtain⟨a,ha,_,ht⟩:=aq h;have xM:=Qf l x d i hl;refine⟨by omega,jc a,by simp[ha],_,aj7 a x d,λhf=>?_,λhf=>?_⟩
   .refine⟨_,aj9 a,⟨by show(_+1)*32<=_;omega,by omega⟩,_,ah,?_⟩
    refine⟨_,_,Wk.ad [1,2,6,7,8,14,15,16] [464],by omega,i+1,by omega,rfl,?_⟩;rw[Zc ht hf];rw[qB,be];exact akd rfl (AA _ _ (by simp))
   .refine⟨_,ah,?_⟩
    refine⟨_,_,Wk.ad [1,2,6,7,8,14,15,16] [464],by omega,i+1,by omega,rfl,?_⟩;rw[Zd ht hf]
    rfl
  .simp at h
   have:i=l.length:=by omega
   subst this;refine⟨rfl,_,rfl,rfl,by simp,.inl ⟨rfl,?_⟩⟩;simp[Bl]
end Go.an.ax.Ag
namespace Go.an.ax.Pe
open Go Go.an Go.an.Day Go.Proofs Go.RowKit
def KU:fT:=⟨0,[],⟨0,0⟩,⟨0,0⟩⟩
def nR(l:List fT)(id:Int):Option fT:=l.find? (λa=>a.id==id)
theorem zd(l:List fT)(id:Int):(KQ l id= -1/\nR l id=none)∨∃(i:Nat)(a:fT),l[i]?=some a/\a.id=id/\KQ l id=i/\nR l id=some a:=by
 rcases Ub l id with⟨h1,h2⟩|⟨i,a,h1,h2,h3,h4⟩
 .refine .inl ⟨h1,?_⟩
  rw[nR,zy];intro a ha;simpa using h2 a ha
 .refine .inr ⟨i,a,h1,h2,h3,?_⟩
  obtain⟨hi,he⟩:=aE.1 h1;rw[nR,uI];refine⟨by simpa using h2,i,hi,he,λj hj=>?_⟩;have:=h4 j (l[j]'(by omega)) hj (by simp);simpa using this
def Dz(k:Int):Prop:=0<=k/\k<=200
abbrev Is(l:List Int):AV:=NS l
theorem Ze(d:Int)(ks:List Int)(hd:rE d)(hk:∀k∈ks,Dz k)(hl:ks.length<=100):Fn kg 321 [I d,Is ks] (I (ks.foldl o5 d)):=by
 refine aH adr ?_;refine⟨λn c=>∃(i:Nat)(e:Int),i<=ks.length/\n=ks.length-i/\c=⟨[(0,I e),(4,I 0),(7,Is ks),(8,I ks.length),(9,I i)],[]⟩/\rE e/\(ks.drop i).foldl o5 e=ks.foldl o5 d,⟨_,_,Wk.ad [0,4,7,8,9] [],0,d,by omega,rfl,rfl,hd,by simp⟩,?_⟩;rintro n c ⟨i,e,hi,rfl,rfl,he,hI⟩;refine⟨λh=>?_,λh=>?_⟩
 .simp at h
  obtain⟨k,ha,Oc,_⟩:=aq h;have nI:=hk k (ay ha);rw[Oc,List.foldl_cons]at hI;refine⟨⟨by omega,by omega⟩,[I k],by simp[ha],_,Ws e k he nI.1 nI.2,_,ah,?_⟩;exact⟨_,_,Wk.ad [0,4,7,8,9] [],by omega,i+1,_,by omega,rfl,rfl,(kE he nI.1).1,hI⟩
 .simp at h
  have:i=ks.length:=by omega
  subst this;simp at hI;rw[<-hI];exact⟨rfl,rfl,rfl⟩
noncomputable def iu(p:fT)(made:l5)(k:Int):Int:=iK (iK (o5 p.d.hi k) (o5 (o5 p.b.hi 110) k)) (o5 (o5 made.hi 110) k)+1
structure DA(p:fT)(made:l5)(k:Int):Prop where
 d:rE p.d.hi
 b:rE p.b.hi
 m:rE made.hi
 k:Dz k
theorem DA.val{p:fT}{made:l5}{k:Int}(h:DA p made k):rE (o5 p.d.hi k)/\rE (o5 (o5 p.b.hi 110) k)/\rE (o5 (o5 made.hi 110) k):=
 ⟨(kE h.d h.k.1).1,(kE (kE h.b (by omega)).1 h.k.1).1,(kE (kE h.m (by omega)).1 h.k.1).1⟩
theorem DA.range{p:fT}{made:l5}{k:Int}(h:DA p made k):1<=iu p made k/\iu p made k<=1048576:=by
 obtain⟨h1,h2,h3⟩:=h.val;have a:=jD (o5 p.d.hi k) (o5 (o5 p.b.hi 110) k);have b:=jD (iK (o5 p.d.hi k) (o5 (o5 p.b.hi 110) k)) (o5 (o5 made.hi 110) k);unfold rE at h1 h2 h3;unfold iu;omega
theorem Hm{k:Int}(h:Dz k):∀j∈ [110,k],Dz j:=by
 intro j hj;simp at hj
 rcases hj with rfl|rfl
 .exact⟨by omega,by omega⟩
 .exact h
theorem akf(p:fT)(made:l5)(k:Int)(h:DA p made k):Fn kg 265 [.agg (gA p),.agg (kC made),I k] (I (iu p made k)):=by
 have hr:=h.range;unfold iu at hr;refine aH acQ ⟨_,Ze p.d.hi [k] h.d (by simpa using h.k) (by simp),_,Ze p.b.hi [110,k] h.b (Hm h.k) (by simp),_,Ze made.hi [110,k] h.m (Hm h.k) (by simp),_,ah (x:=iK (iK (o5 p.d.hi k) (o5 (o5 p.b.hi 110) k)) (o5 (o5 made.hi 110) k)+1),rfl,rfl,rfl⟩
theorem Bm{p:fT}{made:l5}{k:Int}(h1:cx p=0)(h2:nA made=true)(h3:Dz k):DA p made k:=by
 obtain⟨hb,hd,_⟩:=Hl h1;rw[zb]at hb hd h2;exact⟨⟨by omega,by omega⟩,⟨by omega,by omega⟩,⟨by omega,by omega⟩,h3⟩
abbrev Gr:=Ag.Gr
abbrev nl:=Ag.nl
abbrev fG(l:List Gr):AV:=Ag.fG l
def mn(a b:l5):l5:=⟨tJ a.lo b.lo,iK a.hi b.hi⟩
def Jj(p:fT)(b d:l5):fT:={p with b:=mn p.b b,d:=mn p.d d}
def E3(p:fT)(b d:l5):Prop:=(mn p.b b).lo<=(mn p.b b).hi/\(mn p.d d).lo<=(mn p.d d).hi/\cx (Jj p b d)=0
instance(p:fT) (b d:l5):Decidable (E3 p b d):=by unfold E3;infer_instance
def E4(p:fT)(b d:l5):fT:={p with b:=(lZ p.b b).1,d:=(lZ p.d d).1}
theorem akg(p:fT)(hp:p.sz)(b d:l5):Fn kg 290 [.agg (gA p),.agg (kC b),.agg (kC d)] (.bY [.agg (gA (E4 p b d)),.bool ((lZ p.b b).2&&(lZ p.d d).2&&(cx (E4 p b d)==0))]):=by
 refine aH ac3 ⟨_,Qc p.b b,_,Qc p.d d,[],_,aeF (E4 p b d) hp,?_⟩;exact⟨_,_,rfl,⟨rfl,rfl⟩,rfl,rfl,trivial⟩
theorem KV{a b:l5}(ha:nA a=true)(hb:nA b=true):(lZ a b).2=decide ((mn a b).lo<=(mn a b).hi)/\((mn a b).lo<=(mn a b).hi->(lZ a b).1=mn a b):=by
 unfold lZ
 by_cases h:tJ a.lo b.lo<=iK a.hi b.hi
 .rw[if_pos ⟨ha,hb,h⟩]
  exact⟨(uG h).symm,λ_=>rfl⟩
 .rw[if_neg (by simp[h])]
  exact⟨(qA h).symm,λh'=>absurd h' h⟩
theorem Ud{p:fT}{b d:l5}(h1:nA p.b=true)(h2:nA p.d=true)(hb:nA b=true)(hd:nA d=true):
  ((lZ p.b b).2&&(lZ p.d d).2&&(cx (E4 p b d)==0))=decide (E3 p b d)/\(E3 p b d->E4 p b d=Jj p b d):=by
 obtain⟨e1,f1⟩:=KV h1 hb;obtain⟨e2,f2⟩:=KV h2 hd;have key:(mn p.b b).lo<=(mn p.b b).hi->(mn p.d d).lo<=(mn p.d d).hi->E4 p b d=Jj p b d:=λg1 g2=>by
  unfold E4 Jj;rw[f1 g1,f2 g2]
 refine⟨?_,λh=>key h.1 h.2.1⟩;rw[e1,e2,zq];simp only[aA,zp,lK];unfold E3
 constructor
 .rintro⟨⟨g1,g2⟩,g3⟩
  rw[key g1 g2]at g3;exact⟨g1,g2,g3⟩
 .rintro⟨g1,g2,g3⟩
  rw[key g1 g2];exact⟨⟨g1,g2⟩,g3⟩
theorem Qg(l:List fT):jm (l.map gA):=by
 intro row hr u hu;simp only[cK]at hr;obtain⟨a,_,rfl⟩:=hr;simp only[gA,bK,j5,or_false]at hu
 rcases hu with rfl|rfl|rfl|rfl|rfl|rfl<;>rfl
theorem V8(l:List fT)(h:l.length<=2000):Fn kg 61 [A l] (fA l):=by
 have:=ax.V8 (l.map gA) (by simp;omega) (Qg l);rwa[gB]at this
def ez(l:List fT)(id:Int)(b d:l5):List fT×Int:=
 if bg l≠0∨nA b=false∨nA d=false then([],1)
 else if KQ l id<0 then([],7)
 else if E3 (l.getD (KQ l id).toNat KU) b d then(l.set (KQ l id).toNat (Jj (l.getD (KQ l id).toNat KU) b d),0)else([],10)
theorem aeJ(a b:fT):HY (gA a) (gA b)=decide (a=b):=by
 rw[zq];obtain⟨i,n,⟨b1,b2⟩,⟨d1,d2⟩⟩:=a;obtain⟨i',n',⟨b1',b2'⟩,⟨d1',d2'⟩⟩:=b;simp[HY,gA,eqC,ME,and_assoc]
theorem Hn{α:Type}{l:List α}{i:Nat}{a:α}(h:l[i]?=some a):l.set i a=l:=by
 obtain⟨hi,he⟩:=aE.1 h;rw[<-he];simp
theorem akh(l:List fT)(hl:l.length<=9223372036854775807)(hz:∀p∈l,p.sz)(id:Int)(b d:l5):Fn kg 221 [A l,I id,.agg (kC b),.agg (kC d)] (.bY [fA (ez l id b d).1,I (ez l id b d).2]):=by
 refine aH acE ⟨[],_,YD l hz,_,kD b,_,kD d,λh=>?_,λh=>?_⟩
 .have h:((bg l !=0)||(oq b !=0)||(oq d !=0))=true:=h
  rw[iA,iA]at h;rw[ez,if_pos (by simpa[ee]using h)];exact⟨_,_,rfl,.inr ⟨_,_,_,rfl⟩,rfl,rfl,trivial⟩
 .have h:((bg l !=0)||(oq b !=0)||(oq d !=0))=false:=h
  rw[iA,iA]at h;have h':(bg l=0/\nA b=true)/\nA d=true:=by simpa using h
  obtain⟨⟨hc,hb⟩,hd⟩:=h';rw[ez,if_neg (by simp[hc,hb,hd])];refine⟨_,aeH l hl id,λh=>?_,λh=>?_⟩
  .rw[if_pos (by simpa using h)]
   exact⟨_,_,rfl,.inr ⟨_,_,_,rfl⟩,rfl,rfl,trivial⟩
  .have h:¬KQ l id<0:=by simpa using h
   rw[if_neg h]
   rcases zd l id with⟨h1,h2⟩|⟨i,a,h1,_,h3,h4⟩
   .omega
   .have hi:=(aE.1 h1).1
    have hm:=ay h1;have hf:=Bj hc a hm;obtain⟨o1,o2,_⟩:=Hl hf;obtain⟨k1,k2⟩:=Ud o1 o2 hb hd;have cz:=ik hc;have hg:l.getD i KU=a:=by simp[List.getD,h1]
    rw[h3,aY,hg];refine⟨⟨by omega,by omega⟩,gA a,get_map' h1 rfl,_,akg a (hz a hm) b d,λhk=>?_,λhk=>?_⟩
    .have hk:(!((lZ a.b b).2&&(lZ a.d d).2&&(cx (E4 a b d)==0)))=true:=hk
     rw[k1]at hk;rw[if_neg (by simpa using hk)];exact⟨_,_,rfl,.inr ⟨_,_,_,rfl⟩,rfl,rfl,trivial⟩
    .have hk:(!((lZ a.b b).2&&(lZ a.d d).2&&(cx (E4 a b d)==0)))=false:=hk
     rw[k1]at hk;have hk:E3 a b d:=by simpa using hk
     rw[if_pos hk,k2 hk];refine⟨_,V8 l (by omega),false,⟨by omega,by omega⟩,gA a,get_map' h1 rfl,λhq=>?_,λhq=>?_⟩
     .refine⟨⟨by omega,by omega⟩,gA a,get_map' h1 rfl,?_⟩
      refine⟨_,_,rfl,⟨_,rfl,rfl,?_,.inl ⟨rfl,?_⟩⟩,rfl,rfl,trivial⟩
      .simp
      .simp[oC];rfl
     .have hq:(!HY (gA a) (gA (Jj a b d)))=false:=hq
      rw[aeJ]at hq;have hq:a=Jj a b d:=by simpa using hq
      refine⟨_,_,rfl,⟨_,rfl,rfl,?_,.inl ⟨rfl,?_⟩⟩,rfl,rfl,trivial⟩
      .simp
      .rw[<-hq,Hn h1]
noncomputable def gl(l:List fT)(made:l5)(k aR:Int)(bX:List Gr):List Int->Option (List Gr)
 |[]=>some bX
 |id::r=>match nR l id with
  |none=>none
  |some p=>gl l made k aR (if aR<iu p made k then bX++[⟨2,id,0,iu p made k⟩]else bX) r
def kP(p:Option Int):List Int->Bool
 |[]=>true
 |a::r=>match p with
  |some q=>if a<=q then false else kP (some a) r
  |none=>kP (some a) r
theorem xi(p:Option Int)(a:Int)(r:List Int):kP p (a::r)=match p with
  |some q=>if a<=q then false else kP (some a) r
  |none=>kP (some a) r:=by cases p<;>rfl
noncomputable def jx(l:List fT)(ids:List Int)(made:l5)(k aR:Int):List Gr×Int:=
 if bg l≠0∨nA made=false then([],1)
 else if k<0∨k>200∨aR<0∨aR>1048575 then([],2)
 else if kP none ids=false then([],5)
 else match gl l made k aR [] ids with
  |none=>([],7)
  |some g=>(g,0)
def DB(l:List Int)(i:Nat):Option Int:=if i=0 then none else l[i-1]?
theorem aki(l:List fT)(hl:l.length<=9223372036854775807)(hz:∀p∈l,p.sz)(ids:List Int)(aeK:ids.length<=1000)(made:l5)(k aR:Int):
  Fn kg 177 [A l,Is ids,.agg (kC made),I k,I aR] (.bY [fG (jx l ids made k aR).1,I (jx l ids made k aR).2]):=by
 refine aH Vy ⟨[],_,YD l hz,_,kD made,λh=>?_,λh=>?_⟩
 .have h:((bg l !=0)||(oq made !=0))=true:=h
  rw[iA]at h;rw[jx,if_pos (by simpa using h)];exact⟨_,_,rfl,.inr ⟨_,_,_,rfl⟩,rfl,rfl,trivial⟩
 .have h:((bg l !=0)||(oq made !=0))=false:=h
  rw[iA]at h;have hc:bg l=0/\nA made=true:=by simpa using h
  rw[jx,if_neg (by simp[hc.1,hc.2])];refine⟨[],λh=>?_,λh=>?_⟩
  .rw[if_pos (by simpa[ee]using h)]
   exact⟨_,_,rfl,.inr ⟨_,_,_,rfl⟩,rfl,rfl,trivial⟩
  .have hk:¬(k<0∨k>200∨aR<0∨aR>1048575):=by
    simp at h;omega
   rw[if_neg hk];refine⟨λn c=>∃i:Nat,i<=ids.length/\n=ids.length-i/\c=⟨[(0,A l),(1,Is ids),(3,I k),(4,I aR),(7,.af 112 0),(10,.ai),(11,I 0),(43,I ids.length),(44,I i)],[(112,⟨92,2,.any,[kC made],[]⟩)]⟩/\kP (DB ids i) (ids.drop i)=kP none ids,⟨_,_,Wk.ad [0,1,3,4,7,10,11,43,44] [112],0,by omega,rfl,rfl,by simp[DB]⟩,?_⟩;rintro n c ⟨i,hi,rfl,rfl,hI⟩;refine⟨λh=>?_,λh=>?_⟩
   .simp at h
    obtain⟨a,ha,hd,_⟩:=aq h;rw[hd,xi]at hI
    by_cases h0:i=0
    .subst h0
     refine⟨[(2,false)],by simp,λh=>(by cases h),λ_=>?_⟩;refine⟨_,ah,_,_,Wk.ad [0,1,3,4,7,10,11,43,44] [112],by omega,1,by omega,rfl,rfl,?_⟩;simp only[DB]at hI;simpa[DB,ha]using hI
    .obtain⟨p,hp⟩:∃p,ids[i-1]?=some p:=⟨ids[i-1],by simp⟩
     have yR:(if a<=p then false else kP (some a) (ids.drop (i+1)))=kP none ids:=by simpa[DB,h0,hp]using hI
     refine⟨[(2,true)],by simp;omega,⟨by omega,by omega⟩,[I a],get_map' ha rfl,_,ah,⟨by omega,by omega⟩,[I p],get_map' hp (by omega),λh=>?_,λh=>?_⟩
     .rw[if_pos (by simpa using h)]at yR
      rw[if_pos yR.symm];exact⟨_,_,rfl,.inr ⟨_,_,_,rfl⟩,rfl,rfl,trivial⟩
     .rw[if_neg (by simpa using h)]at yR
      refine⟨_,ah,_,_,Wk.ad [0,1,3,4,7,10,11,43,44] [112],by omega,i+1,by omega,rfl,rfl,?_⟩;simpa[DB,ha]using yR
   .simp at h
    have:i=ids.length:=by omega
    subst this;simp[kP]at hI;rw[if_neg (by simp[<-hI])];refine⟨λn c=>∃(i:Nat)(bX:List Gr),i<=ids.length/\bX.length<=i/\n=ids.length-i/\c=⟨[(0,A l),(3,I k),(4,I aR),(7,.af 112 0),(10,.ai),(11,I 0),(13,.bn 1408 4 bX.length),(62,Is ids),(63,I ids.length),(64,I i)],[(112,⟨92,2,.any,[kC made],[]⟩),(1408,⟨187,4,.pure,bX.map nl,[]⟩)]⟩/\gl l made k aR bX (ids.drop i)=gl l made k aR [] ids,⟨_,_,Wk.vB 13 1408 ⟨187,4,.pure,[],[]⟩ [0,3,4,7,10,11,13,62,63,64] [112,1408] rfl rfl rfl,0,[],by omega,by simp,rfl,rfl,by simp⟩,?_⟩;rintro n c ⟨i,bX,hi,xM,rfl,rfl,hI⟩;refine⟨λh=>?_,λh=>?_⟩
    .simp at h
     obtain⟨id,ha,hd,_⟩:=aq h;rw[hd,gl]at hI;refine⟨⟨by omega,by omega⟩,[I id],get_map' ha rfl,_,aeH l hl id,λh=>?_,λh=>?_⟩
     .have h:KQ l id<0:=by simpa using h
      rcases zd l id with⟨h1,h2⟩|⟨j,a,h1,_,h3,h4⟩
      .rw[h2]at hI
       rw[<-hI];exact⟨_,_,rfl,.inr ⟨_,_,_,rfl⟩,rfl,rfl,trivial⟩
      .omega
     .have h:¬KQ l id<0:=by simpa using h
      rcases zd l id with⟨h1,h2⟩|⟨j,a,h1,_,h3,h4⟩
      .omega
      .rw[h4]at hI
       dsimp only at hI;have hj:=(aE.1 h1).1;have hR:=Bm (Bj hc.1 a (ay h1)) hc.2 (k:=k) ⟨by omega,by omega⟩;rw[h3];refine⟨⟨by omega,by omega⟩,gA a,get_map' h1 rfl,_,akf a made k hR,λh=>?_,λh=>?_⟩
       .have h:aR<iu a made k:=by simpa using h
        rw[if_pos h]at hI;refine⟨⟨by show(_+1)*32<=_;omega,by omega⟩,_,ah,?_⟩;refine⟨_,_,Wk.ad [0,3,4,7,10,11,13,62,63,64] [112,1408],by omega,i+1,bX++[⟨2,id,0,iu a made k⟩],by omega,by simp;omega,rfl,?_,hI⟩;rw[qB,be,<-AA (n:=bX.length) (bX.map nl) _ (by simp)]
        rfl
       .have h:¬aR<iu a made k:=by simpa using h
        rw[if_neg h]at hI;refine⟨_,ah,?_⟩;exact⟨_,_,Wk.ad [0,3,4,7,10,11,13,62,63,64] [112,1408],by omega,i+1,bX,by omega,by omega,rfl,rfl,hI⟩
    .simp at h
     have:i=ids.length:=by omega
     subst this;simp[gl]at hI;rw[<-hI];exact⟨_,_,rfl,⟨_,rfl,rfl,by simp,.inl ⟨rfl,rfl⟩⟩,rfl,rfl,trivial⟩
end Go.an.ax.Pe
namespace Go.an.ax.G
open Go Go.an Go.an.Day Go.Proofs Go.RowKit
structure l6 where
 id:Int
 cls:Int
 o5:Int
 ye:Bool
 jW:Int
 mK:Int
def eW(r:l6):List AV:=[I r.id,I r.cls,I r.o5,B r.ye,I r.jW,I r.mK]
abbrev LS(l:List l6):AV:=.aL 6 l.length (l.map eW)
def Zf(a b:Int):Bool:=decide (a>=0)&&decide (a<b)&&decide (b<=1048576)
theorem akj(a b:Int):Fn kg 187 [.agg [I a,I b]] (B (Zf a b)):=aH acf ⟨[],rfl,rfl,rfl⟩
def Jk(r:l6):Bool:=decide (r.id>=1)&&decide (r.id<=1073741824)&&decide (r.cls>=1)&&decide (r.cls<=999)&&decide (r.o5>=0)&&decide (r.o5<=200)&&Zf r.jW r.mK
theorem akk(r:l6):Fn kg 123 [.agg (eW r)] (B (Jk r)):=aH abN ⟨[],_,akj r.jW r.mK,rfl,rfl,rfl⟩
def yf(r o:l6):Bool:=(o.cls==r.cls)&&decide (o.jW<r.mK)&&decide (r.jW<o.mK)
theorem akl(o r:l6):Fn kg 125 [.agg (eW o),.aw (eW r) 0] (B (yf r o)):=aH abP ⟨[],rfl,rfl,rfl⟩
theorem Wv(l:List l6)(hl:l.length<=9223372036854775807)(p:l6->Bool)(g:FuncId)(xs:List AV)(hp:∀a∈l,Fn kg g [.agg (eW a),.aw xs 0] (B (p a))):Fn kg 188 [LS l,.func g [.aw xs 0]] (I (aQ p 0 l)):=by
 refine aH Pd ?_;refine⟨λn c=>∃i:Nat,i<=l.length/\n=l.length-i/\c=⟨[(0,LS l),(1,.func g [.aw xs 0]),(4,I 0),(7,I l.length),(8,I i)],[]⟩/\aQ p i (l.drop i)=aQ p 0 l,⟨_,_,Wk.ad [0,1,4,7,8] [],0,by omega,rfl,rfl,by simp⟩,?_⟩;rintro n c ⟨i,hi,rfl,rfl,hI⟩;refine⟨λh=>?_,λh=>?_⟩
 .simp at h
  obtain⟨a,ha,hd,_⟩:=aq h;rw[hd,aQ]at hI;refine⟨by omega,eW a,by simp[ha],_,hp a (ay ha),λhf=>?_,λhf=>?_⟩
  .rw[if_pos hf]at hI
   exact⟨rfl,rfl,by rw[<-hI];rfl⟩
  .rw[if_neg (by simp[hf])]at hI
   refine⟨_,ah,?_⟩;exact⟨_,_,Wk.ad [0,1,4,7,8] [],by omega,i+1,by omega,rfl,rfl,hI⟩
 .simp at h
  have:i=l.length:=by omega
  subst this;simp[aQ]at hI;exact⟨rfl,rfl,by rw[<-hI];rfl⟩
theorem aeL(l:List l6)(hl:l.length<=9223372036854775807)(p:l6->Bool)(g:FuncId)(xs:List AV)(hp:∀a∈l,Fn kg g [.agg (eW a),.aw xs 0] (B (p a))):Fn kg 124 [LS l,.func g [.aw xs 0]] (B (l.any p)):=
 aH abO ⟨_,Wv l hl p g xs hp,rfl,rfl,by rw[<-fj];rfl⟩
theorem aeM(l:List l6)(hl:l.length<=9223372036854775807)(p:l6->Bool)(g:FuncId)(xs ys:List AV)(hp:∀a∈l,Fn kg g [.agg (eW a),.aw xs 0,.aw ys 0] (B (p a))):Fn kg 188 [LS l,.func g [.aw xs 0,.aw ys 0]] (I (aQ p 0 l)):=by
 refine aH Pd ?_;refine⟨λn c=>∃i:Nat,i<=l.length/\n=l.length-i/\c=⟨[(0,LS l),(1,.func g [.aw xs 0,.aw ys 0]),(4,I 0),(7,I l.length),(8,I i)],[]⟩/\aQ p i (l.drop i)=aQ p 0 l,⟨_,_,Wk.ad [0,1,4,7,8] [],0,by omega,rfl,rfl,by simp⟩,?_⟩;rintro n c ⟨i,hi,rfl,rfl,hI⟩;refine⟨λh=>?_,λh=>?_⟩
 .simp at h
  obtain⟨a,ha,hd,_⟩:=aq h;rw[hd,aQ]at hI;refine⟨by omega,eW a,by simp[ha],_,hp a (ay ha),λhf=>?_,λhf=>?_⟩
  .rw[if_pos hf]at hI
   exact⟨rfl,rfl,by rw[<-hI];rfl⟩
  .rw[if_neg (by simp[hf])]at hI
   refine⟨_,ah,?_⟩;exact⟨_,_,Wk.ad [0,1,4,7,8] [],by omega,i+1,by omega,rfl,rfl,hI⟩
 .simp at h
  have:i=l.length:=by omega
  subst this;simp[aQ]at hI;exact⟨rfl,rfl,by rw[<-hI];rfl⟩
def nS(pre:List l6):List l6->Int
 |[]=>0
 |r::l=>if Jk r=false then 2 else if(match pre.getLast? with|some p=>decide (r.id<=p.id)|none=>false)=true then 5 else if pre.any (yf r)=true then 6 else nS (pre++[r]) l
def jT(l:List l6):Int:=if 64<l.length then 8 else nS [] l
theorem aeN{α β:Type}(f:α->β)(l:List α)(i:Nat):(l.map f).take i=(l.take i).map f:=(zz ..).symm
theorem c91(l:List l6)(hl:l.length<=9223372036854775807):Fn kg 91 [LS l] (I (jT l)):=by
 refine aH abw ⟨λh=>?_,λh=>?_⟩
 .have h:(64:Int)<l.length:=aP h
  rw[jT,if_pos (by omega)];exact⟨rfl,rfl,rfl⟩
 .have h:¬(64:Int)<l.length:=j0 h
  rw[jT,if_neg (by omega)];refine⟨λn c=>∃i:Nat,i<=l.length/\n=l.length-i/\c=⟨[(0,LS l),(2,I 0),(8,LS l),(9,I l.length),(10,I i)],[]⟩/\nS (l.take i) (l.drop i)=nS [] l,
   ⟨_,_,Wk.ad [0,2,8,9,10] [],0,by omega,rfl,rfl,by simp⟩,?_⟩
  rintro n c ⟨i,hi,rfl,rfl,hI⟩;refine⟨λaC=>?_,λaC=>?_⟩
  .simp at aC
   obtain⟨r,hr,hd,ht⟩:=aq aC;rw[hd,nS]at hI;refine⟨by omega,eW r,by simp[hr],_,akk r,λhf=>?_,λhf=>?_⟩
   .have hf:Jk r=false:=by simpa using hf
    rw[if_pos hf]at hI;rw[<-hI];exact⟨rfl,rfl,rfl⟩
   .have hf:Jk r=true:=by simpa using hf
    rw[if_neg (by simp[hf])]at hI;have Ww:=aeL (l.take i) (by simp;omega) (yf r) 125 (eW r) (λo _=>akl o r);have cz:(l.take i).length=i:=by simp;omega
    have hA:AV.aL 6 (l.take i).length ((l.take i).map eW)=.aL 6 i ((l.map eW).take i):=by rw[aeN,cz]
    unfold LS at Ww;rw[hA]at Ww;have fin:(match(l.take i).getLast? with|some p=>decide (r.id<=p.id)|none=>false)=false->(if(l.take i).any (yf r)=true then(6:Int)else nS (l.take i++[r]) (l.drop (i+1)))=nS [] l:=λe=>by
     rw[if_neg (by rw[e];simp)]at hI;exact hI
    cases i with
    |zero=>
     have fin:=fin rfl;refine⟨[(2,false)],rfl,λh=>(by cases h),λ_=>⟨by omega,_,Ww,λhm=>?_,λhm=>?_⟩⟩
     .rw[if_pos hm]at fin
      rw[<-fin];exact⟨rfl,rfl,rfl⟩
     .rw[if_neg (by rw[hm];simp),<-ht]at fin
      refine⟨_,ah,?_⟩;exact⟨_,_,Wk.ad [0,2,8,9,10] [],by omega,1,by omega,rfl,rfl,fin⟩
    |succ i=>
     obtain⟨q,hq⟩:∃q,l[i]?=some q:=⟨_,aW (by omega)⟩;have tj:(l.take (i+1)).getLast?=some q:=by
      rw[uJ,cz,Nat.add_sub_cancel,FF (by omega),hq]
     rw[tj]at hI fin;refine⟨[(2,true)],by simp,_,au (y:=((i:Nat):Int)) (by omega),by omega,eW q,by simp[hq],λeY=>?_,λeY=>?_⟩
     .have eY:decide (r.id<=q.id)=true:=eY
      rw[if_pos eY]at hI;rw[<-hI];exact⟨rfl,rfl,rfl⟩
     .have fin:=fin eY
      refine⟨by omega,_,Ww,λhm=>?_,λhm=>?_⟩
      .rw[if_pos hm]at fin
       rw[<-fin];exact⟨rfl,rfl,rfl⟩
      .rw[if_neg (by rw[hm];simp),<-ht]at fin
       refine⟨_,ah,?_⟩;exact⟨_,_,Wk.ad [0,2,8,9,10] [],by omega,i+1+1,by omega,rfl,rfl,fin⟩
  .simp at aC
   have:i=l.length:=by omega
   subst this;simp[nS]at hI;rw[<-hI];exact⟨rfl,rfl,rfl⟩
structure kJ where
 id:Int
 rd:Int
 un:Int
 ks:Int
 jW:Int
 mK:Int
def eA(r:kJ):List AV:=[I r.id,I r.rd,I r.un,I r.ks,I r.jW,I r.mK]
abbrev PS(l:List kJ):AV:=.aL 6 l.length (l.map eA)
theorem Zg(n:Int):Fn kg 190 [I n] (B (cj n)):=aH ach ⟨[],rfl,rfl,rfl⟩
def H7(r:kJ):Bool:=cj r.id&&cj r.rd&&cj r.un&&decide (r.ks>=1)&&decide (r.ks<=7)&&decide (r.jW>=0)&&decide (r.jW<r.mK)&&decide (r.mK<=1048576)
theorem Zh(r:kJ):Fn kg 128 [.agg (eA r)] (B (H7 r)):=aH abS ⟨[],_,Zg r.id,_,Zg r.rd,_,Zg r.un,rfl,rfl,rfl⟩
def ur(l:List Int)(n:Int):Bool:=l.any (· ==n)
def iI(l:List Int)(n:Int):Int:=aQ (· ==n) 0 l
theorem c32(l:List Int)(hl:l.length<=9223372036854775807)(n:Int):Fn kg 32 [NS l,I n] (I (iI l n)):=by
 refine aH ah7 ?_;refine⟨λm c=>∃i:Nat,i<=l.length/\m=l.length-i/\c=⟨[(0,NS l),(1,I n),(4,I 0),(7,I l.length),(8,I i)],[]⟩/\aQ (· ==n) i (l.drop i)=iI l n,⟨_,_,Wk.ad [0,1,4,7,8] [],0,by omega,rfl,rfl,by simp[iI]⟩,?_⟩;rintro m c ⟨i,hi,rfl,rfl,hI⟩;refine⟨λh=>?_,λh=>?_⟩
 .simp at h
  obtain⟨a,ha,hd,_⟩:=aq h;rw[hd,aQ]at hI;refine⟨by omega,[I a],by simp[ha],λhf=>?_,λhf=>?_⟩
  .have hf:n=a:=by simpa using hf
   rw[if_pos (by simp[hf])]at hI;exact⟨rfl,rfl,by rw[<-hI];rfl⟩
  .have hf:n≠a:=by simpa using hf
   rw[if_neg (by simp;exactλe=>hf e.symm)]at hI;refine⟨_,ah,?_⟩;exact⟨_,_,Wk.ad [0,1,4,7,8] [],by omega,i+1,by omega,rfl,rfl,hI⟩
 .simp at h
  have:i=l.length:=by omega
  subst this;simp[aQ]at hI;exact⟨rfl,rfl,by rw[<-hI];rfl⟩
theorem c13(l:List Int)(hl:l.length<=9223372036854775807)(n:Int):Fn kg 13 [NS l,I n] (B (ur l n)):=aH ahY ⟨_,c32 l hl n,rfl,rfl,by rw[ur,<-fj];rfl⟩
def opB(p:kJ)(gZ:List Int)(d:Int):Bool:=H7 p&&ur gZ p.un&&decide (p.jW<=d)&&decide (d<p.mK)
theorem akm(p:kJ)(gZ:List Int)(hl:gZ.length<=9223372036854775807)(d:Int):Fn kg 183 [.agg (eA p),NS gZ,I d] (B (opB p gZ d)):=aH acd ⟨[],_,Zh p,_,c13 gZ hl p.un,rfl,rfl,rfl⟩
def Ho(p:kJ)(k:Int):Bool:=decide (k>=1)&&(decide (k<=3)&&(bits .and .i64 (p.ks/2^(k-1).toNat) 1==1))
theorem akn(p:kJ)(k:Int):Fn kg 184 [.agg (eA p),I k] (B (Ho p k)):=by
 by_cases h1:k>=1
 .by_cases h3:k<=3
  .have e:Ho p k=(bits .and .i64 (p.ks/2^(k-1).toNat) 1==1):=by unfold Ho;simp[h1,h3]
   rw[e];exact aH Pc ⟨[(2,true),(6,true)],by simpa using h1,by simpa using h3,_,au (y:=k-1) rfl (by omega) (by omega),⟨by omega,by show k-1<=((64:Nat):Int);omega⟩,_,rfl,rfl,rfl,rfl⟩
  .have e:Ho p k=false:=by unfold Ho;simp[h3]
   rw[e];exact aH Pc ⟨[(2,true),(6,false)],by simpa using h1,by simpa using h3,rfl,rfl,rfl⟩
 .have e:Ho p k=false:=by unfold Ho;simp[h1]
  rw[e];exact aH Pc ⟨[(2,false),(6,false)],by simpa using h1,rfl,rfl,rfl,rfl⟩
def Hp(p:kJ)(rd:Int)(gZ:List Int)(k d:Int):Bool:=(p.rd==rd)&&opB p gZ d&&Ho p k
theorem ako(p:kJ)(rd:Int)(gZ:List Int)(hl:gZ.length<=9223372036854775807)(k d:Int):Fn kg 115 [.agg (eA p),I rd,NS gZ,I k,I d] (B (Hp p rd gZ k d)):=aH abH ⟨[],_,akm p gZ hl d,_,akn p k,rfl,rfl,rfl⟩
theorem akp(p:kJ)(rd:Int)(gZ:List Int)(hl:gZ.length<=9223372036854775807)(k d:Int):Fn kg 114 [.agg (eA p),.aw [I rd] 0,.aw [NS gZ] 0,.aw [I k] 0,.aw [I d] 0] (B (Hp p rd gZ k d)):=aH abG ⟨_,ako p rd gZ hl k d,rfl,rfl,rfl⟩
theorem aeO(l:List kJ)(hl:l.length<=9223372036854775807)(p:kJ->Bool)(g:FuncId)(xs ys zs us:List AV)(hp:∀a∈l,Fn kg g [.agg (eA a),.aw xs 0,.aw ys 0,.aw zs 0,.aw us 0] (B (p a))):Fn kg 113 [PS l,.func g [.aw xs 0,.aw ys 0,.aw zs 0,.aw us 0]] (I (aQ p 0 l)):=by
 refine aH Vr ?_;refine⟨λn c=>∃i:Nat,i<=l.length/\n=l.length-i/\c=⟨[(0,PS l),(1,.func g [.aw xs 0,.aw ys 0,.aw zs 0,.aw us 0]),(4,I 0),(7,I l.length),(8,I i)],[]⟩/\aQ p i (l.drop i)=aQ p 0 l,⟨_,_,Wk.ad [0,1,4,7,8] [],0,by omega,rfl,rfl,by simp⟩,?_⟩;rintro n c ⟨i,hi,rfl,rfl,hI⟩;refine⟨λh=>?_,λh=>?_⟩
 .simp at h
  obtain⟨a,ha,hd,_⟩:=aq h;rw[hd,aQ]at hI;refine⟨by omega,eA a,by simp[ha],_,hp a (ay ha),λhf=>?_,λhf=>?_⟩
  .rw[if_pos hf]at hI
   exact⟨rfl,rfl,by rw[<-hI];rfl⟩
  .rw[if_neg (by simp[hf])]at hI
   refine⟨_,ah,?_⟩;exact⟨_,_,Wk.ad [0,1,4,7,8] [],by omega,i+1,by omega,rfl,rfl,hI⟩
 .simp at h
  have:i=l.length:=by omega
  subst this;simp[aQ]at hI;exact⟨rfl,rfl,by rw[<-hI];rfl⟩
theorem aeP(l:List kJ)(hl:l.length<=9223372036854775807)(p:kJ->Bool)(g:FuncId)(xs:List AV)(hp:∀a∈l,Fn kg g [.agg (eA a),.aw xs 0] (B (p a))):Fn kg 113 [PS l,.func g [.aw xs 0]] (I (aQ p 0 l)):=by
 refine aH Vr ?_;refine⟨λn c=>∃i:Nat,i<=l.length/\n=l.length-i/\c=⟨[(0,PS l),(1,.func g [.aw xs 0]),(4,I 0),(7,I l.length),(8,I i)],[]⟩/\aQ p i (l.drop i)=aQ p 0 l,⟨_,_,Wk.ad [0,1,4,7,8] [],0,by omega,rfl,rfl,by simp⟩,?_⟩;rintro n c ⟨i,hi,rfl,rfl,hI⟩;refine⟨λh=>?_,λh=>?_⟩
 .simp at h
  obtain⟨a,ha,hd,_⟩:=aq h;rw[hd,aQ]at hI;refine⟨by omega,eA a,by simp[ha],_,hp a (ay ha),λhf=>?_,λhf=>?_⟩
  .rw[if_pos hf]at hI
   exact⟨rfl,rfl,by rw[<-hI];rfl⟩
  .rw[if_neg (by simp[hf])]at hI
   refine⟨_,ah,?_⟩;exact⟨_,_,Wk.ad [0,1,4,7,8] [],by omega,i+1,by omega,rfl,rfl,hI⟩
 .simp at h
  have:i=l.length:=by omega
  subst this;simp[aQ]at hI;exact⟨rfl,rfl,by rw[<-hI];rfl⟩
def jQ(cf:Option kJ):List kJ->Int
 |[]=>0
 |r::l=>if H7 r=false then 2 else if(match cf with|some p=>decide (r.id<=p.id)|none=>false)=true then 5 else jQ (some r) l
def jy(l:List kJ):Int:=if 64<l.length then 8 else jQ none l
theorem c94(l:List kJ)(hl:l.length<=9223372036854775807):Fn kg 94 [PS l] (I (jy l)):=by
 refine aH abz ⟨λh=>?_,λh=>?_⟩
 .have h:(64:Int)<l.length:=aP h
  rw[jy,if_pos (by omega)];exact⟨rfl,rfl,rfl⟩
 .have h:¬(64:Int)<l.length:=j0 h
  rw[jy,if_neg (by omega)];refine⟨λn c=>∃(i:Nat)(cf:Option kJ),i<=l.length/\n=l.length-i/\c=⟨[(0,PS l),(2,I 0),(8,PS l),(9,I l.length),(10,I i)],[]⟩/\(∀j,i=j+1->∃s,l[j]?=some s/\cf=some s)/\(i=0->cf=none)/\jQ cf (l.drop i)=jQ none l,
   ⟨_,_,Wk.ad [0,2,8,9,10] [],0,none,by omega,rfl,rfl,λj h=>(by omega),λ_=>rfl,by simp⟩,?_⟩
  rintro n c ⟨i,cf,hi,rfl,rfl,hp1,Py,hI⟩;refine⟨λaC=>?_,λaC=>?_⟩
  .simp at aC
   obtain⟨r,hr,hd,ht⟩:=aq aC;rw[hd]at hI;simp only[jQ]at hI;refine⟨by omega,eA r,by simp[hr],_,Zh r,λhf=>?_,λhf=>?_⟩
   .have hf:H7 r=false:=by simpa using hf
    rw[if_pos hf]at hI;rw[<-hI];exact⟨rfl,rfl,rfl⟩
   .have hf:H7 r=true:=by simpa using hf
    rw[if_neg (by simp[hf])]at hI
    cases i with
    |zero=>
     have:=Py rfl;subst this;rw[if_neg (by simp)]at hI;refine⟨[(2,false)],rfl,λh=>(by cases h),λ_=>⟨_,ah,?_⟩⟩;exact⟨_,_,Wk.ad [0,2,8,9,10] [],by omega,1,some r,by omega,rfl,rfl,λk h=>⟨r,by rw[show k=0 by omega];exact hr,rfl⟩,λh=>(by cases h),hI⟩
    |succ i=>
     obtain⟨q,hq,rfl⟩:=hp1 i rfl;refine⟨[(2,true)],by simp,_,au (y:=((i:Nat):Int)) (by omega),by omega,eA q,by simp[hq],λeY=>?_,λeY=>?_⟩
     .have eY:decide (r.id<=q.id)=true:=eY
      simp only at hI;rw[if_pos eY]at hI;rw[<-hI];exact⟨rfl,rfl,rfl⟩
     .have eY:decide (r.id<=q.id)=false:=eY
      simp only at hI;rw[if_neg (by rw[eY];simp)]at hI;refine⟨_,ah,?_⟩;exact⟨_,_,Wk.ad [0,2,8,9,10] [],by omega,i+1+1,some r,by omega,rfl,rfl,λk h=>⟨r,by rw[show k=i+1 by omega];exact hr,rfl⟩,λh=>(by cases h),hI⟩
  .simp at aC
   have:i=l.length:=by omega
   subst this;simp[jQ]at hI;rw[<-hI];exact⟨rfl,rfl,rfl⟩
def ot(l:List kJ)(rd:Int)(gZ:List Int)(k d:Int):Int×Bool:=
 if jy l≠0 then(0,false)else match l.find? (λp=>Hp p rd gZ k d)with
  |some p=>(p.id,true)
  |none=>(0,false)
theorem c80(l:List kJ)(hl:l.length<=9223372036854775807)(rd:Int)(gZ:List Int)(hw:gZ.length<=9223372036854775807)(k d:Int):Fn kg 80 [PS l,I rd,NS gZ,I k,I d] (.bY [I (ot l rd gZ k d).1,B (ot l rd gZ k d).2]):=by
 have xj:=aeO l hl (λp=>Hp p rd gZ k d) 114 [I rd] [NS gZ] [I k] [I d] (λp _=>akp p rd gZ hw k d)
 rcases dH (λp=>Hp p rd gZ k d) l 0 with⟨hn,tX⟩|⟨i,p,hp,hc,hi,Zi⟩
 .have e:ot l rd gZ k d=(0,false):=by
   unfold ot
   split
   .rfl
   .rw[zy.2 (by simpa using tX)]
  rw[e];rw[hn]at xj;refine aH abv ⟨_,xj,[(2,true)],rfl,λh=>?_,λh=>absurd h (by simp)⟩;exact⟨_,_,rfl,⟨rfl,rfl⟩,rfl,rfl,trivial⟩
 .have hi:aQ (λp=>Hp p rd gZ k d) 0 l=(i:Int):=by rw[hi];simp
  rw[hi]at xj;have aC:=(aE.1 hp).1;have hf:l.find? (λp=>Hp p rd gZ k d)=some p:=by
   rw[uI];refine⟨hc,i,aC,(aE.1 hp).2,λj hj=>?_⟩;have:=Zi j (l[j]'(by omega)) hj (aW (by omega));simpa using this
  refine aH abv ⟨_,xj,[(2,false)],by simp,_,c94 l hl,λh=>?_,λh=>?_⟩
  .have h:jy l≠0:=by simpa using h
   have e:ot l rd gZ k d=(0,false):=by unfold ot;rw[if_pos h]
   rw[e];exact⟨_,_,rfl,⟨rfl,rfl⟩,rfl,rfl,trivial⟩
  .have h:jy l=0:=by simpa using h
   have e:ot l rd gZ k d=(p.id,true):=by unfold ot;rw[if_neg (by simp[h]),hf]
   rw[e];exact⟨by omega,eA p,by simp[hp],_,_,rfl,⟨rfl,rfl⟩,rfl,rfl,trivial⟩
end Go.an.ax.G
