import Derived.Test.YtpfmbblnhjpclaaGreatDoorJ22
set_option linter.unusedVariables false
set_option linter.unusedSimpArgs false
set_option maxRecDepth 20000
namespace Go.an.ax
open Go Go.an Go.Proofs
structure aee(u:Us):Prop where
 sh:dx u.ls=0
 bx:jk u.bs=0
 mv:jl u.ms
 yr:0<=u.yr/\u.yr<=200
 st:1<=u.bV/\u.bV<=32
 ch:0<=u.ch/\u.ch<=1048575
 q0:u.qs=[]
 k0:u.ks=[]
theorem c55(u:Us)(h:aee u)(hc:∀b∈u.bs,b.ma.length<=100000):Fn kg 55 [.agg (aF u)] (B true):=by
 have aef:=RG u.bs (by have:=yX h.bx;omega) hc;have aeg:=c97 u.ls (by have:=nQ h.sh;omega);have aeh:=c37 u.ms;rw[h.bx]at aef;rw[h.sh]at aeg;rw[h.mv.rd]at aeh;obtain⟨yr,bs,ls,ms,qs,bV,ks,ch⟩:=u;obtain⟨_,_,_,hy,hs,hch,hq,hk⟩:=h;simp only at hq hk hy hs hch;subst hq hk;refine aH abu ⟨_,Wh yr hy.1 hy.2,_,aef,_,aeg,_,aeh,_,c98,_,c99 bV hs.1 hs.2,?_⟩;refine⟨λn c=>∃i:Nat,i<=6/\n=6-i/\c=⟨[(1,.af 16 0),(2,B false),(31,.bn 496 1 6),(32,I 6),(33,I i)],[(16,⟨50,16,.any,[aF ⟨yr,bs,ls,ms,[],bV,[],ch⟩],[]⟩),(496,⟨54,1,.pure,[[I 0],[I 0],[I 0],[I 0],[I 0],[I 0]],[]⟩)]⟩,⟨_,_,Wk.ad [1,2,31,32,33] [16,496],0,by omega,rfl,rfl⟩,?_⟩;rintro n c ⟨i,hi,rfl,rfl⟩;refine⟨λaC=>?_,λaC=>?_⟩
 .simp at aC
  have hr: [[I 0],[I 0],[I 0],[I 0],[I 0],[I 0]][i]?=some [I 0]:=by
   match i,aC with
   |0,_=>rfl
   |1,_=>rfl
   |2,_=>rfl
   |3,_=>rfl
   |4,_=>rfl
   |5,_=>rfl
  refine⟨by omega,[I 0],by simpa using hr,λh=>(by cases h),λ_=>?_⟩;refine⟨_,ah,?_⟩;exact⟨_,_,Wk.ad [1,2,31,32,33] [16,496],by omega,i+1,by omega,rfl,rfl⟩
 ·(refine once _ (Wk.refl _) ⟨λh=>absurd h (by decide),λ_=>?_⟩)
  (refine once _ (Wk.refl _) ⟨λh=>absurd h (by decide),λ_=>?_⟩)
  (refine once _ (Wk.refl _) ⟨λh=>absurd h (by decide),λ_=>?_⟩)
  have wq:eC ch 0 1048575=true:=by unfold eC;simp;omega
  exact⟨[(3,true),(9,true),(15,true)],_,V4 ch 0 1048575,wq,rfl,rfl,rfl,rfl,rfl⟩
def xc(ls:List Sh)(k o:Int):Bool:=k !=1||decide (nO ls o>=0)
theorem PD(u:Us)(hl:u.ls.length<=100000)(k o:Int):Fn kg 102 [.agg [I k,I o],.aw (aF u) 0] (B (xc u.ls k o)):=by
 refine aH Vo ?_
 by_cases hk:k=1
 .exact⟨[(3,false)],by simp[hk],_,G3 u hl o,rfl,rfl,by simp[xc,hk];rfl⟩
 .have nI:(k !=1)=true:=by simp[hk]
  exact⟨[(3,true)],nI,rfl,rfl,by unfold xc;rw[nI];rfl⟩
def G4(u:Us)(m:Mv):Bool:=decide (m.aR>u.ch)||decide (BQ u.bs m.box<0)|| !xc u.ls m.fk m.fo|| !xc u.ls m.tk m.to
theorem YE(u:Us)(hl:u.ls.length<=100000)(hb:u.bs.length<=100000)(m:Mv):Fn kg 105 [.agg (gY m),.aw (aF u) 0,.aw [.func 102 [.aw (aF u) 0]] 0] (B (G4 u m)):=by
 refine aH Vp ?_;have c1:=PD u hl m.fk m.fo;have c2:=PD u hl m.tk m.to;unfold G4
 by_cases h1:m.aR>u.ch
 .exact⟨[(5,true),(12,true),(19,true)],uG h1,rfl,rfl,rfl,rfl,by rw[uG h1];rfl⟩
 .have od:=qA h1
  have c3:=G2 u hb m.box
  by_cases h2:BQ u.bs m.box<0
  .have yN:=uG h2
   exact⟨[(5,false),(12,true),(19,true)],od,_,c3,yN,rfl,rfl,rfl,by rw[od,yN];rfl⟩
  .have yN:=qA h2
   cases h3:xc u.ls m.fk m.fo with
   |false=>
    rw[h3]at c1;exact⟨[(5,false),(12,false),(19,true)],od,_,c3,yN,_,c1,rfl,rfl,rfl,by rw[od,yN];rfl⟩
   |true=>
    rw[h3]at c1;exact⟨[(5,false),(12,false),(19,false)],od,_,c3,yN,_,c1,rfl,_,c2,rfl,rfl,by rw[od,yN];rfl⟩
theorem c56(u:Us)(hl:u.ls.length<=100000)(hb:u.bs.length<=100000)(hm:u.ms.length<=100000):Fn kg 56 [.agg (aF u)] (B (!u.ms.any (G4 u))):=
 lX adN [] [1] ⟨_,aj.S2 [1,2] rfl,_,Wa u.ms (by omega) (G4 u) 105 (aF u) [.func 102 [.aw (aF u) 0]] (λm _=>YE u hl hb m),_,aj.refl _ _,rfl,rfl,rfl⟩
abbrev Wd:=List (Int×Int)
def fO(k:Int):Wd->Int
 |[]=>0
 |x::r=>if k=x.1 then x.2 else fO k r
def A6(k:Int)(l:Wd):Bool:=l.any λx=>k==x.1
def na(k v:Int):Wd->Wd
 |[]=>[(k,v)]
 |x::r=>if k=x.1 then(k,v)::r else x::na k v r
def sQ(x:Int×Int):List AV:=[I x.1,I x.2]
theorem xd(k:Int):∀l:Wd,mB (I k) (l.map sQ)=if A6 k l then some [I (fO k l)]else none
 |[]=>rfl
 |x::r=>by
  have ih:=xd k r;simp only[cU,sQ,mB,mh,A6,fO,oA]
  by_cases h:k=x.1
  .simp[h]
  .have hb:(k==x.1)=false:=by simpa using h
   simp only[hb,if_neg h,cX];exact ih
theorem yY{k:Int}:∀{l:Wd},A6 k l=false->fO k l=0
 |[],_=>rfl
 |x::r,h=>by
  simp only[A6,oA,tD]at h;have:k≠x.1:=by simpa using h.1
  simp only[fO,if_neg this];exact yY h.2
theorem EK(k v:Int):∀l:Wd,wx (I k) [I v] (l.map sQ)=(na k v l).map sQ
 |[]=>rfl
 |x::r=>by
  have ih:=EK k v r;simp only[cU,sQ,wx,mh,na]
  by_cases h:k=x.1
  .subst h;simp[sQ]
  .have hb:(k==x.1)=false:=by simpa using h
   simp only[hb,if_neg h,cU,sQ];exact gQ _ ih
theorem A7(k v:Int):∀l:Wd,A6 k (na k v l)=true
 |[]=>by simp[na,A6]
 |x::r=>by
  simp only[na]
  split
  .simp[A6]
  .have:=A7 k v r
   simp only[A6,oA,pj]at this⊢;exact .inr this
theorem nc(k j v:Int):∀l:Wd,fO j (na k v l)=if j=k then v else fO j l
 |[]=>by simp only[na,fO]
 |x::r=>by
  simp only[na]
  by_cases h:k=x.1
  .subst h
   rw[if_pos rfl];simp only[fO]
   by_cases h2:j=x.1<;>simp[h2]
  .rw[if_neg h]
   simp only[fO]
   by_cases h2:j=x.1
   .subst h2
    rw[if_pos rfl,if_neg (λe=>h e.symm),if_pos rfl]
   .rw[if_neg h2,if_neg h2]
    exact nc k j v r
def kz(ls:List Sh)(pl:Int->Int×Int):List Bx->Wd->Bool
 |[],_=>true
 |b::r,w=>if(pl b.id).1≠1 then kz ls pl r w else
   match ls[(nO ls (pl b.id).2).toNat]? with
   |none=>false
   |some s=>if fO s.id w+b.bc>s.len∨s.dZ≠b.dZ then false else kz ls pl r (na s.id (fO s.id w+b.bc) w)
abbrev OH(u:Us)(w:Wd):List (Nat×ak):=[(16,⟨50,16,.any,[aF u],[]⟩),(128,⟨219,2,.map false false,[],w.map sQ⟩)]
theorem c57(u:Us)(hm:jl u.ms)(hl:u.ls.length<=1000)(hb:u.bs.length<=1000)(hi:∀b∈u.bs,cj b.id=true/\0<=b.bc/\b.bc<=10000)
  (hp:∀b∈u.bs,(bT u.ms b.id).1=1->¬nO u.ls (bT u.ms b.id).2<0):Fn kg 57 [.agg (aF u)] (B (kz u.ls (bT u.ms) u.bs [])):=by
 refine lX adO [] [] ?_;refine⟨λn c=>∃(i:Nat)(w:Wd),i<=u.bs.length/\n=u.bs.length-i/\(∀k,0<=fO k w/\fO k w<=10000*i)/\kz u.ls (bT u.ms) (u.bs.drop i) w=kz u.ls (bT u.ms) u.bs [] /\
   c=⟨[(1,.af 16 0),(2,B false),(3,.dX 128),(10,BS u.bs),(11,I u.bs.length),(12,I i)],OH u w⟩,
  ⟨_,_,aj.ad [1,2,3,10,11,12] [16,128],0,[],by omega,rfl,by simp[fO],by simp,rfl⟩,?_⟩
 rintro n c ⟨i,w,og,rfl,hw,hI,rfl⟩;refine⟨λaC=>?_,λaC=>?_⟩
 .simp at aC
  obtain⟨b,yz,hd,_⟩:=aq aC;have RH:=ay yz;obtain⟨hid,O3,EL⟩:=hi b RH;have Rz:=hp b RH;have ng:=sP u hm b.id hid;rw[hd]at hI;simp only[kz]at hI;generalize bT u.ms b.id=pp at Rz ng hI;obtain⟨k,o⟩:=pp;refine⟨by omega,bj b,by simp[yz],_,ng,λhk=>?_,λhk=>?_⟩
  .have hk:k≠1:=by simpa using hk
   rw[if_pos hk]at hI;refine⟨_,ah,?_⟩;exact⟨_,_,aj.ad [1,2,3,10,11,12] [16,128],by omega,i+1,w,by omega,rfl,λj=>by have:=hw j;omega,hI,rfl⟩
  .have hk:k=1:=by simpa using hk
   rw[if_neg (by simp[hk])]at hI;obtain⟨s,hs,aec,Yw,Ns⟩:=EI (show¬nO u.ls o<0 from Rz hk);simp only[hs]at hI;have hsw:=hw s.id;have A4:(u.ls.map eN)[(nO u.ls o).toNat]?=some (eN s):=by rw[aS,hs];rfl
   refine⟨_,G3 u (by omega) o,by omega,eN s,A4,?_⟩;have Tx:=xd s.id w;have pN:=xd s.id (na s.id (fO s.id w+b.bc) w);rw[A7,if_pos rfl,nc,if_pos rfl]at pN;have Nt:=EK s.id (fO s.id w+b.bc) w
   cases hh:A6 s.id w with
   |true=>
    rw[hh,if_pos rfl]at Tx;refine⟨true,_,Tx,?_⟩;refine⟨_,au (y:=fO s.id w+b.bc) (by omega),?_⟩
    by_cases tp:fO s.id w+b.bc>s.len
    .rw[if_pos (.inl tp)]at hI
     rw[<-hI];exact⟨[(7,true)],true,[I (fO s.id w+b.bc)],by rw[<-Nt]at pN;exact pN,uG tp,λ_=>⟨_,aj.refl _ _,rfl,rfl,rfl⟩,λh=>(by cases h)⟩
    .refine⟨[(7,false)],true,[I (fO s.id w+b.bc)],by rw[<-Nt]at pN;exact pN,qA tp,λhc=>?_,λhc=>?_⟩
     .have hc:s.dZ≠b.dZ:=by simpa using hc
      rw[if_pos (.inr hc)]at hI;rw[<-hI];exact⟨_,aj.refl _ _,rfl,rfl,rfl⟩
     .have hc:s.dZ=b.dZ:=by simpa using hc
      rw[if_neg (by simp[hc];omega)]at hI;refine⟨_,ah,?_⟩;refine⟨_,_,aj.ad [1,2,3,10,11,12] [16,128],by omega,i+1,na s.id (fO s.id w+b.bc) w,by omega,rfl,λj=>?_,hI,?_⟩
      .rw[nc]
       have:=hw j
       split<;>omega
      .show _=(⟨_,[(16,⟨50,16,.any,[aF u],[]⟩),(128,⟨219,2,.map false false,[],(na s.id (fO s.id w+b.bc) w).map sQ⟩)]⟩:aM)
       rw[<-Nt]
       rfl
   |false=>
    rw[hh,if_neg (by simp)]at Tx;have h0:=yY hh;refine⟨false,Tx,?_⟩;refine⟨_,au (y:=fO s.id w+b.bc) (by omega),?_⟩
    by_cases tp:fO s.id w+b.bc>s.len
    .rw[if_pos (.inl tp)]at hI
     rw[<-hI];exact⟨[(7,true)],true,[I (fO s.id w+b.bc)],by rw[<-Nt]at pN;exact pN,uG tp,λ_=>⟨_,aj.refl _ _,rfl,rfl,rfl⟩,λh=>(by cases h)⟩
    .refine⟨[(7,false)],true,[I (fO s.id w+b.bc)],by rw[<-Nt]at pN;exact pN,qA tp,λhc=>?_,λhc=>?_⟩
     .have hc:s.dZ≠b.dZ:=by simpa using hc
      rw[if_pos (.inr hc)]at hI;rw[<-hI];exact⟨_,aj.refl _ _,rfl,rfl,rfl⟩
     .have hc:s.dZ=b.dZ:=by simpa using hc
      rw[if_neg (by simp[hc];omega)]at hI;refine⟨_,ah,?_⟩;refine⟨_,_,aj.ad [1,2,3,10,11,12] [16,128],by omega,i+1,na s.id (fO s.id w+b.bc) w,by omega,rfl,λj=>?_,hI,?_⟩
      .rw[nc]
       have:=hw j
       split<;>omega
      .show _=(⟨_,[(16,⟨50,16,.any,[aF u],[]⟩),(128,⟨219,2,.map false false,[],(na s.id (fO s.id w+b.bc) w).map sQ⟩)]⟩:aM)
       rw[<-Nt]
       rfl
 .simp at aC
  have:i=u.bs.length:=by omega
  subst this;simp only[j4,kz]at hI;rw[<-hI];exact⟨_,aj.refl _ _,rfl,rfl,rfl⟩
theorem YF(u:Us)(hm:jl u.ms)(b:Bx)(hid:cj b.id=true)(hk:(bT u.ms b.id).1≠3):Fn kg 109 [.agg (bj b),.aw (aF u) 0,.aw [.iB false false 2 []] 0] (B false):=by
 have ng:=sP u hm b.id hid;have h3:((bT u.ms b.id).1==3)=false:=by simpa using hk
 generalize bT u.ms b.id=p at*;obtain⟨k,o⟩:=p;exact aH Kq ⟨_,ng,[(3,false)],h3,rfl,rfl,by simp only at h3;rw[<-h3];rfl⟩
theorem c58(u:Us)(hm:jl u.ms)(hb:u.bs.length<=1000)(hq:u.qs=[])(hi:∀b∈u.bs,cj b.id=true/\(bT u.ms b.id).1≠3):Fn kg 58 [.agg (aF u)] (B true):=by
 obtain⟨yr,bs,ls,ms,qs,bV,ks,ch⟩:=u;simp only at hq hb hm hi;subst hq;refine lX aiF [] [10] ?_
 conv=>whnf
 refine once _ (aj.refl _ _) ⟨λh=>(by simp at h),λ_=>?_⟩;refine⟨_,aj.S2 [1,2,3] rfl,?_⟩
 conv=>whnf
 refine once _ (aj.refl _ _) ⟨λh=>(by cases h),λ_=>?_⟩;have KE:=V9 bs (by omega) (λ_=>false) 109 (aF ⟨yr,bs,ls,ms,[],bV,ks,ch⟩) [.iB false false 2 []] (λb RH=>YF _ hm b (hi b RH).1 (hi b RH).2);have e:(bs.any λ_=>false)=false:=by simp
 rw[e]at KE;exact⟨_,KE,_,aj.refl _ _,rfl,rfl,rfl⟩
structure UOK(u:Us):Prop where
 pt:aee u
 mv:u.ms.any (G4 u)=false
 hd:kz u.ls (bT u.ms) u.bs []=true
 k3:∀b∈u.bs,(bT u.ms b.id).1≠3
 sx:∀b∈u.bs,(bT u.ms b.id).1=1->¬nO u.ls (bT u.ms b.id).2<0
 bi:∀b∈u.bs,cj b.id=true/\0<=b.bc/\b.bc<=10000/\b.ma.length<=100000
theorem c34(u:Us)(h:UOK u):Fn kg 34 [.agg (aF u)] (B true):=by
 have pW:=nQ h.pt.sh;have uB:=yX h.pt.bx;have Ip:=h.pt.mv.ln;have a1:=c55 u h.pt (λb hb=>(h.bi b hb).2.2.2);have a2:=c56 u (by omega) (by omega) (by omega);rw[h.mv]at a2;have a3:=c57 u h.pt.mv (by omega) (by omega) (λb hb=>⟨(h.bi b hb).1,(h.bi b hb).2.1,(h.bi b hb).2.2.1⟩) h.sx;rw[h.hd]at a3;have a4:=c58 u h.pt.mv (by omega) h.pt.q0 (λb hb=>⟨(h.bi b hb).1,h.k3 b hb⟩);exact aH O6 ⟨[(2,true),(6,true),(10,true),(13,true)],_,a1,rfl,_,a2,rfl,_,a3,rfl,_,a4,rfl,rfl,rfl,rfl⟩
theorem aei(g:FuncId)(xs:List AV):Fn kg 258 [Zs 5,.func g [.aw xs 0]] (I (-1)):=by
 refine aH VH ?_
 (refine once _ (Wk.refl _) ⟨λh=>absurd h (by decide),λ_=>?_⟩)
 exact⟨rfl,rfl,rfl⟩
abbrev ajx:AV:=.agg [I 0,I 0,I 0,I 0,.ai]
theorem Wi(yr n:Int):Fn kg 172 [.agg (pM yr),I n] (.bY [ajx,B false]):=
 aH Pb ⟨_,aei 259 [I n],λ_=>⟨_,_,rfl,⟨rfl,rfl⟩,rfl,rfl,trivial⟩,λh=>by cases h⟩
theorem aej(g:FuncId)(xs ys:List AV):Fn kg 188 [Zs 6,.func g [.aw xs 0,.aw ys 0]] (I (-1)):=by
 refine aH Pd ?_
 (refine once _ (Wk.refl _) ⟨λh=>absurd h (by decide),λ_=>?_⟩)
 exact⟨rfl,rfl,rfl⟩
abbrev aek:AV:=.agg [I 0,I 0,I 0,B false,I 0,I 0]
theorem ael(n d:Int):Fn kg 260 [Zs 6,I n,I d] (.bY [aek,B false]):=
 aH Pm ⟨_,aej 316 [I n] [I d],[(2,true)],rfl,λ_=>⟨_,_,rfl,⟨rfl,rfl⟩,rfl,rfl,trivial⟩,λh=>by cases h⟩
abbrev zGr:AV:=.agg [I 0,I 0,I 0,I 0]
theorem aem(n a b d:Int):Fn kg 173 [Zs 6,I n,.agg [I a,I b],I d] (.bY [zGr,B false]):=
 aH Kr ⟨_,ael n d,[(2,true),(7,true)],rfl,rfl,λ_=>⟨_,_,rfl,⟨rfl,rfl⟩,rfl,rfl,trivial⟩,λh=>by cases h⟩
theorem aen(yr d:Int)(r:Rw):Fn kg 171 [.agg (pM yr),.agg (gL r),I d] .ai:=
 aH Vw ⟨_,Wi yr r.unit,_,aem 0 0 0 d,[(1,false)],rfl,λh=>(by cases h),λ_=>⟨rfl,.inl rfl⟩⟩
theorem aeo:Fn kg 129 [.agg [I 0,I 0]] (I 0):=aH Vu ⟨[],λh=>(by cases h),λ_=>⟨rfl,rfl,rfl⟩⟩
theorem aep(yr d:Int)(h0:0<=yr)(h1:yr<=200)(h2:0<=d)(h3:d<=1048575):Fn kg 177 [Zs 6,.ai,.agg [I 0,I 0],I yr,I d] (.bY [.ai,I 0]):=by
 refine aH Vy ⟨[(3,false)],_,YD,rfl,_,aeo,λh=>(by cases h),λ_=>⟨[],λh=>?_,λ_=>?_⟩⟩
 .simp at h;omega
 ·(refine once _ (Wk.refl _) ⟨λh=>absurd h (by decide),λ_=>?_⟩)
  (refine once _ (Wk.refl _) ⟨λh=>absurd h (by decide),λ_=>?_⟩)
  exact⟨_,_,rfl,.inl rfl,rfl,rfl,trivial⟩
theorem aeq(yr d:Int)(r:Rw)(h0:0<=yr)(h1:yr<=200)(h2:0<=d)(h3:d<=1048575):Fn kg 176 [.agg (pM yr),.agg (gL r),I d] .ai:=
 aH Vx ⟨_,Wi yr r.unit,_,aep yr d h0 h1 h2 h3,rfl,.inl rfl⟩
theorem aer(yr d:Int)(r:Rw)(h:r.bX=0):Fn kg 179 [.agg (pM yr),.agg (gL r),I d] .ai:=by
 refine aH Vz ⟨λ_=>⟨rfl,.inl rfl⟩,λh'=>?_⟩;rw[h]at h';cases h'
abbrev Mq:List (List AV):=[[.func 171 [],.func 174 []],[.func 176 [],.func 178 []],[.func 179 [],.func 181 []]]
theorem YG:Fn kg 112 [] (.aL 2 3 Mq):=aH Vq ⟨rfl,rfl,rfl⟩
theorem ajy(yr d:Int)(h0:0<=yr)(h1:yr<=200)(h2:0<=d)(h3:d<=1048575)(l:List Rw)(hl:l.length<=100000)(u:Int)(n:Nat)(ke:oy l u n=none)(dB:∀k,k<n->oy l u k≠none)(uo:∀k r,H6 l u k=some r->r.bX=0):
  Fn kg 79 [WS l,.agg (pM yr),I u,I d] .ai:=by
 refine V3 [] [] rfl ⟨rfl,rfl,rfl,_,c30 l u,rfl,oy l u,s98 l hl u,λi x h=>sC i x h,
  λk O=>k<=n/\O=[(80,⟨40,6,.any,[pM yr],[]⟩),(112,⟨3,1,.any,[[I d]],[]⟩),(144,⟨184,1,.any,[[.ai]],[]⟩)],λe O=>False,n+1,⟨by omega,rfl⟩,λk O h=>by have:=h.1;omega,?_,?_,?_⟩
 .rintro k x O hx ⟨hk,rfl⟩
  obtain⟨r,hr,rfl⟩:=yW hx;have aC:k<n:=by
   rcases eJ k n with h|h
   .exact h
   .have:k=n:=by omega
    subst this;rw[hx]at ke;cases ke
  refine⟨rfl,_,YG,?_⟩;refine⟨λm c=>∃i:Nat,i<=3/\m=3-i/\c=⟨[(2,I u),(5,.af 80 0),(7,.af 112 0),(9,.af 144 0),(10,.af 160 0),(17,.func 54 [.aw [WS l] 0,.aw [I u] 0]),(0,WS l),(8,.ai),(19,.aL 2 3 Mq),(20,I 3),(21,I i)],[(80,⟨40,6,.any,[pM yr],[]⟩),(112,⟨3,1,.any,[[I d]],[]⟩),(144,⟨184,1,.any,[[.ai]],[]⟩),(160,⟨58,3,.any,[gL r],[]⟩)]⟩,
   ⟨_,_,aj.ad [2,5,7,9,10,17,0,8,19,20,21] [80,112,144,160],0,by omega,rfl,rfl⟩,?_⟩
  rintro m c ⟨i,hi,rfl,rfl⟩;refine⟨λaC=>?_,λaC=>?_⟩
  .simp at aC
   have done:∀j:Nat,j<3->True:=λ_ _=>trivial
   match i,aC with
   |0,_=>
    refine⟨⟨by decide,by decide⟩,[.func 171 [],.func 174 []],rfl,_,aen yr d r,?_⟩
    (refine once _ (aj.refl _ _) ⟨λh=>absurd h (by decide),λ_=>?_⟩)
    exact⟨_,rfl,_,_,aj.ad [2,5,7,9,10,17,0,8,19,20,21] [80,112,144,160],by omega,1,by omega,rfl,rfl⟩
   |1,_=>
    refine⟨⟨by decide,by decide⟩,[.func 176 [],.func 178 []],rfl,_,aeq yr d r h0 h1 h2 h3,?_⟩
    (refine once _ (aj.refl _ _) ⟨λh=>absurd h (by decide),λ_=>?_⟩)
    exact⟨_,rfl,_,_,aj.ad [2,5,7,9,10,17,0,8,19,20,21] [80,112,144,160],by omega,2,by omega,rfl,rfl⟩
   |2,_=>
    refine⟨⟨by decide,by decide⟩,[.func 179 [],.func 181 []],rfl,_,aer yr d r (uo k r hr),?_⟩
    (refine once _ (aj.refl _ _) ⟨λh=>absurd h (by decide),λ_=>?_⟩)
    exact⟨_,rfl,_,_,aj.ad [2,5,7,9,10,17,0,8,19,20,21] [80,112,144,160],by omega,3,by omega,rfl,rfl⟩
  .simp at aC
   exact⟨_,aj.ad [0,2,5,7,8,9,17] [80,112,144],by omega,rfl⟩
 .rintro k O hx ⟨hk,rfl⟩
  exact⟨rfl,_,aj.refl _ _,rfl,.inl rfl⟩
 .rintro e O dW h
  exact h.elim
theorem ajz(yr d rd:Int)(h0:0<=yr)(h1:yr<=200)(h2:0<=d)(h3:d<=1048575)(l:List Rw)(hl:l.length<=100000)(u:Int)(n:Nat)(hn:n<=100000)(ke:oy l u n=none)(dB:∀k,k<n->oy l u k≠none)(uo:∀k r,H6 l u k=some r->r.bX=0):
  Fn kg 42 [WS l,.agg (pM yr),I rd,I u,I d] (.agg [I rd,I u,I d,B true,.ai]):=by
 refine aH abq ⟨_,c78 l hl u n hn ke dB,true,_,ajy yr d h0 h1 h2 h3 l hl u n ke dB uo,?_⟩
 (refine once _ (Wk.refl _) ⟨λh=>absurd h (by decide),λ_=>?_⟩)
 exact⟨rfl,rfl,rfl⟩
theorem ajA(yr d rd:Int)(h0:0<=yr)(h1:yr<=200)(h2:0<=d)(h3:d<=1048575)(xL:cj rd=true)(l:List Rw)(hl:l.length<=100000)(hr:jr l=0)(u:Int)(hu:¬Mo l u<0):
  Fn kg 41 [WS l,.agg (pM yr),I rd,I u,I d] (I 0):=by
 have a27:=c9r l hl;rw[hr]at a27;have a52:=c28 rd;rw[xL]at a52;refine aH GR ⟨[(3,false)],_,a27,rfl,_,Wh yr h0 h1,λh=>(by cases h),λ_=>⟨[],_,a52,λh=>?_,λ_=>⟨_,c29 l (by omega) u,λh=>?_,λ_=>⟨rfl,rfl,rfl⟩⟩⟩⟩
 .simp at h;omega
 .exact absurd (aP h) hu
theorem ajB(yr d rd:Int)(h0:0<=yr)(h1:yr<=200)(h2:0<=d)(h3:d<=1048575)(xL:cj rd=true)(l:List Rw)(hl:l.length<=100000)(hr:jr l=0)(u:Int)(hu:¬Mo l u<0)(n:Nat)(hn:n<=100000)(ke:oy l u n=none)(dB:∀k,k<n->oy l u k≠none)(uo:∀k r,H6 l u k=some r->r.bX=0):
  Fn kg 19 [WS l,.agg (pM yr),I rd,I u,I d] (.bY [.agg [I rd,I u,I d,B true,.ai],I 0]):=
 aH X5 ⟨_,ajA yr d rd h0 h1 h2 h3 xL l hl hr u hu,λh=>(by cases h),λ_=>⟨_,ajz yr d rd h0 h1 h2 h3 l hl u n hn ke dB uo,_,_,rfl,⟨rfl,rfl⟩,rfl,rfl,trivial⟩⟩
abbrev Wj:List Rw:=[⟨7,0,0⟩]
theorem KF:jr Wj=0:=by decide
theorem aes(yr d rd:Int)(h0:0<=yr)(h1:yr<=200)(h2:0<=d)(h3:d<=1048575)(xL:cj rd=true):Fn kg 19 [WS Wj,.agg (pM yr),I rd,I 7,I d] (.bY [.agg [I rd,I 7,I d,B true,.ai],I 0]):=by
 refine ajB yr d rd h0 h1 h2 h3 xL Wj (by decide) KF 7 (by decide) 1 (by decide) rfl (λk hk=>?_) (λk r hr=>?_)
 .have:k=0:=by omega
  subst this;intro h;cases h
 .cases k with
  |zero=>
       have:r=⟨7,0,0⟩:=by injection(show some (⟨7,0,0⟩:Rw)=some r from hr)with h;exact h.symm
       rw[this]
  |succ k=>
   have:H6 Wj 7 (k+1)=none:=by
    have:=GY (l:=Wj) (u:=7) (k:=1) (m:=k+1) rfl (by omega);unfold oy at this
    cases hq:H6 Wj 7 (k+1)with
    |none=>rfl
    |some q=>rw[hq]at this;cases this
   rw[this]at hr;cases hr
end Go.an.ax
namespace Go.an.ax.Pk
open Go Go.an Go.Proofs
def pY(n:Int):List AV:=[.int .i64 n]
abbrev A(l:List Int):AV:=.aL 1 l.length (l.map pY)
abbrev fA(l:List Int):AV:=.dh true 3 1 l.length (l.map pY)
def G5(room n:Int):Bool:=decide (n<1)||decide (n>room)
theorem ajC(n room:Int):Fn kg 186 [I n,.aw [I room] 0] (.bool (G5 room n)):=by
 by_cases h:n<1
 .rw[show G5 room n=true by simp[G5,h]]
  exact aH VA ⟨[(2,true)],by simpa using h,rfl,rfl,rfl⟩
 .rw[show G5 room n=decide (n>room)by simp[G5,h]]
  exact aH VA ⟨[(2,false)],by simpa using h,rfl,rfl,rfl⟩
theorem ajD(l:List Int)(hl:l.length<=9223372036854775807)(p:Int->Bool)(g:FuncId)(xs:List AV)(hp:∀a∈l,Fn kg g [I a,.aw xs 0] (.bool (p a))):Fn kg 31 [A l,.func g [.aw xs 0]] (I (aQ p 0 l)):=by
 refine aH Tb ?_;refine⟨λn c=>∃i:Nat,i<=l.length/\n=l.length-i/\c=⟨[(0,A l),(1,.func g [.aw xs 0]),(4,I 0),(7,I l.length),(8,I i)],[]⟩/\aQ p i (l.drop i)=aQ p 0 l,⟨_,_,Wk.ad [0,1,4,7,8] [],0,by omega,rfl,rfl,by simp⟩,?_⟩;rintro n c ⟨i,hi,rfl,rfl,hI⟩;refine⟨λh=>?_,λh=>?_⟩
 .simp at h
  obtain⟨a,ha,hd,_⟩:=aq h;rw[hd,aQ]at hI;refine⟨by omega,pY a,by simp[ha],_,hp a (ay ha),λhf=>?_,λhf=>?_⟩
  .rw[if_pos hf]at hI
   exact⟨rfl,rfl,by rw[<-hI];rfl⟩
  .rw[if_neg (by simp[hf])]at hI
   refine⟨_,ah,?_⟩;exact⟨_,_,Wk.ad [0,1,4,7,8] [],by omega,i+1,by omega,rfl,rfl,hI⟩
 .simp at h
  have:i=l.length:=by omega
  subst this;simp[aQ]at hI;exact⟨rfl,rfl,by rw[<-hI];rfl⟩
theorem c11(l:List Int)(hl:l.length<=9223372036854775807)(room:Int):Fn kg 11 [A l,.func 186 [.aw [I room] 0]] (.bool (l.any (G5 room))):=
 aH S9 ⟨_,ajD l hl (G5 room) 186 [I room] λa _=>ajC a room,rfl,rfl,by rw[<-fj];rfl⟩
def um(l:List Int)(room:Int):Int:=if room<1∨room>10000 then 2 else if l.length>1024 then 8 else if l.any (G5 room)=true then 2 else 0
theorem ajE(l:List Int)(hl:l.length<=9223372036854775807)(room:Int):Fn kg 122 [A l,I room] (I (um l room)):=by
 by_cases h1:room<1
 .refine aH Vs ⟨[(2,true)],by simpa using h1,λ_=>?_,λh=>by cases h⟩
  rw[um,if_pos (.inl h1)];exact⟨rfl,rfl,rfl⟩
 .refine aH Vs ⟨[(2,false)],by simpa using h1,λh=>?_,λh=>?_⟩
  .have h:room>10000:=by simpa using h
   rw[um,if_pos (.inr h)];exact⟨rfl,rfl,rfl⟩
  .have h:¬room>10000:=by simpa using h
   rw[um,if_neg (by omega)];refine⟨λh=>?_,λh=>?_⟩
   .have h:l.length>1024:=by simp at h;omega
    rw[if_pos h];exact⟨rfl,rfl,rfl⟩
   .have h:¬l.length>1024:=by simp at h;omega
    rw[if_neg h];refine⟨_,c11 l hl room,λh=>?_,λh=>?_⟩
    .rw[if_pos h];exact⟨rfl,rfl,rfl⟩
    .rw[if_neg (by simp[h])];exact⟨rfl,rfl,rfl⟩
theorem ofInt64(a:Nat)(ha:a<18446744073709551616):(BitVec.ofInt 64 (a:Int)).toNat=a:=by
 rw[BitVec.ofInt_natCast,BitVec.toNat_ofNat];exact Nat.mod_eq_of_lt (by omega)
def YH(l:List Int)(room:Int):Int:=if um l room≠0 then 1 else if l.length>12 then 8 else 0
theorem c89(l:List Int)(hl:l.length<=9223372036854775807)(room:Int):Fn kg 89 [A l,I room] (I (YH l room)):=by
 refine aH air ⟨_,ajE l hl room,λh=>?_,λh=>?_⟩
 .have h:um l room≠0:=by simpa using h
  rw[YH,if_pos h];exact⟨rfl,rfl,rfl⟩
 .have h:¬um l room≠0:=by simpa using h
  rw[YH,if_neg h];refine⟨λh=>?_,λh=>?_⟩
  .have h:l.length>12:=by simp at h;omega
   rw[if_pos h];exact⟨rfl,rfl,rfl⟩
  .have h:¬l.length>12:=by simp at h;omega
   rw[if_neg h];exact⟨rfl,rfl,rfl⟩
end Go.an.ax.Pk
namespace Go.an.ax.G
open Go Go.an Go.Proofs Go.RowKit
abbrev U(n:Int):AV:=.int .u64 n
abbrev Us(l:List Int):List AV:=l.map U
theorem aet(a:Int):0<=bits .and .u64 a 63/\bits .and .u64 a 63<=63:=by
 have e:bits .and .u64 a 63=IntKind.u64.wrap ((BitVec.ofInt 64 a&&&BitVec.ofInt 64 ((63:Nat):Int)).toNat:Int):=rfl;have h:(BitVec.ofInt 64 a&&&BitVec.ofInt 64 ((63:Nat):Int)).toNat<=63:=by
  rw[BitVec.toNat_and,Pk.ofInt64 63 (by omega)];exact Nat.and_le_right
 rw[e,IntKind.wrap_u64];omega
theorem aeu(x k:Int):∃y,Fn kg 425 [U x,I k] (U y):=by
 obtain⟨h1,h2⟩:=aet (IntKind.u64.wrap k);exact⟨_,aH adM ⟨_,rfl,_,rfl,⟨h1,by show _<=(64:Int);omega⟩,_,rfl,_,rfl,⟨by rw[IntKind.wrap_u64];omega,by rw[IntKind.wrap_u64];show _<=(64:Int);omega⟩,_,rfl,rfl,rfl,rfl⟩⟩
theorem PE{α:Type}{l:List α}(h:l.length=5):∃x0 x1 x2 x3 x4,l=[x0,x1,x2,x3,x4]:=by
 match l,h with
 |[x0,x1,x2,x3,x4],_=>exact⟨x0,x1,x2,x3,x4,rfl⟩
theorem fP{α:Type}{l:List α}(h:l.length=25):∃x0 x1 x2 x3 x4 x5 x6 x7 x8 x9 x10 x11 x12 x13 x14 x15 x16 x17 x18 x19 x20 x21 x22 x23 x24,l=[x0,x1,x2,x3,x4,x5,x6,x7,x8,x9,x10,x11,x12,x13,x14,x15,x16,x17,x18,x19,x20,x21,x22,x23,x24]:=by
 match l,h with
 |[x0,x1,x2,x3,x4,x5,x6,x7,x8,x9,x10,x11,x12,x13,x14,x15,x16,x17,x18,x19,x20,x21,x22,x23,x24],_=>exact⟨x0,x1,x2,x3,x4,x5,x6,x7,x8,x9,x10,x11,x12,x13,x14,x15,x16,x17,x18,x19,x20,x21,x22,x23,x24,rfl⟩
theorem ajF:∃l:List Int,l.length=25/\Fn kg 400 [] (.agg (l.map I)):=⟨[0,1,62,28,27,36,44,6,55,20,3,10,43,25,39,41,45,15,21,8,18,2,61,56,14],rfl,aH adJ ⟨rfl,rfl,rfl⟩⟩
theorem ajG:∃l:List Int,l.length=24/\Fn kg 401 [] (.agg (Us l)):=⟨[1,32898,9223372036854808714,9223372039002292224,32907,2147483649,9223372039002292353,9223372036854808585,138,136,2147516425,2147483658,2147516555,9223372036854775947,9223372036854808713,9223372036854808579,9223372036854808578,9223372036854775936,32778,9223372039002259466,9223372039002292353,9223372036854808704,2147483649,9223372039002292232],rfl,aH adK ⟨rfl,rfl,rfl⟩⟩
abbrev Z25:List AV:=List.replicate 25 (U 0)
abbrev De:List Nat:=[0,1,2,3,4,6,7,8,9,10,11,12,13,14,15,16,17,18,19,20,31,32,34,35,74,75,77,78]
abbrev ajH(s r c:List Int):List (Nat×ak):=[(48,⟨409,25,.any,[Us s],[]⟩),(64,⟨474,25,.any,[r.map I],[]⟩),(96,⟨409,25,.any,[Z25],[]⟩),(112,⟨496,5,.any,[Us c],[]⟩)]
abbrev PF(s r c:List Int)(k:Int)(i:Nat):aM:=⟨[(2,U k),(3,.af 48 0),(4,.af 64 0),(6,.af 96 0),(7,.af 112 0),(18,.agg (Us s)),(19,I i)],ajH s r c⟩
def o0:Nat->Code->Code
 |0,c=>c
 |n+1,c=>match c with|.seq _ y=>o0 n y|c=>c
def xX:Code->Code
 |.block _ (.loop b)=>b
 |.seq _ y=>xX y
 |c=>c
def Wl:Code->Code
 |.seq x _=>x
 |c=>c
noncomputable abbrev L1:Code:=xX (Wl (o0 2 (body Tryz.f402)))
theorem al5{p:Nat->Prop}(h0:p 0)(h1:p 1)(h2:p 2)(h3:p 3)(h4:p 4):∀x,x<5->p x
 |0,_=>h0|1,_=>h1|2,_=>h2|3,_=>h3|4,_=>h4|n+5,h=>absurd h (by omega)
theorem ajI{p:Nat->Prop}(h:∀x,x<5->∀y,y<5->p (x+5*y)):∀i,i<25->p i:=λi hi=>by
 have:=h (i %5) (by omega) (i/5) (by omega);rwa[Nat.mod_add_div]at this
set_option maxHeartbeats 4000000 in
theorem r1(a0 a1 a2 a3 a4 a5 a6 a7 a8 a9 om nz a12 p8 p9 pb qa a17 qb qc a20 a21 a22 a23 a24 r0 r1 r2 r3 r4 r5 r6 r7 r8 r9 YI YJ YK YL YM YN YO YP YQ YR YT YU YV YW YX c0 c1 c2 c3 c4 k:Int)(i:Nat)(hi:i<25):∃c:List Int,c.length=5/\∀Q:Ex->aM->Prop,(∀c',Wk c' (PF [a0,a1,a2,a3,a4,a5,a6,a7,a8,a9,om,nz,a12,p8,p9,pb,qa,a17,qb,qc,a20,a21,a22,a23,a24] [r0,r1,r2,r3,r4,r5,r6,r7,r8,r9,YI,YJ,YK,YL,YM,YN,YO,YP,YQ,YR,YT,YU,YV,YW,YX] c k (i+1))->Q .normal c')->ev kg tt 118 De L1 (PF [a0,a1,a2,a3,a4,a5,a6,a7,a8,a9,om,nz,a12,p8,p9,pb,qa,a17,qb,qc,a20,a21,a22,a23,a24] [r0,r1,r2,r3,r4,r5,r6,r7,r8,r9,YI,YJ,YK,YL,YM,YN,YO,YP,YQ,YR,YT,YU,YV,YW,YX] [c0,c1,c2,c3,c4] k i) Q:=by
 revert hi;revert i;refine ajI ?_;refine al5 ?_ ?_ ?_ ?_ ?_<;>refine al5 ?_ ?_ ?_ ?_ ?_<;>exact⟨[_,_,_,_,_],rfl,λQ hQ=>⟨λ_=>⟨[_],⟨by decide,by decide,rfl⟩,by decide,⟨by decide,by decide⟩,_,rfl,⟨by decide,by decide⟩,_,au rfl (by decide) (by decide),hQ _ (Wk.ad [2,3,4,6,7,18,19] [48,64,96,112])⟩,λh=>by cases h⟩⟩
noncomputable def ajJ(x k:Int):Int:=Classical.choose (aeu x k)
theorem Wm(x k:Int):Fn kg 425 [U x,I k] (U (ajJ x k)):=qC (aeu x k)
abbrev Wn(s r c b:List Int):List (Nat×ak):=[(48,⟨409,25,.any,[Us s],[]⟩),(64,⟨474,25,.any,[r.map I],[]⟩),(96,⟨409,25,.any,[Z25],[]⟩),(112,⟨496,5,.any,[Us c],[]⟩),(160,⟨409,25,.any,[Us b],[]⟩)]
abbrev G6(s r c b:List Int)(k:Int)(x y:Nat):aM:=⟨[(2,U k),(3,.af 48 0),(4,.af 64 0),(6,.af 96 0),(7,.af 112 0),(10,.af 160 0),(31,I x),(11,I x),(34,I y)],Wn s r c b⟩
noncomputable abbrev L2:Code:=xX (Wl (o0 4 (body Tryz.f402)))
def aev:Code->Code
 |.block _ b=>b
 |c=>c
noncomputable abbrev L2i:Code:=xX (o0 1 (aev (Wl (o0 2 L2))))
set_option maxHeartbeats 4000000 in
theorem r2(a0 a1 a2 a3 a4 a5 a6 a7 a8 a9 om nz a12 p8 p9 pb qa a17 qb qc a20 a21 a22 a23 a24 r0 r1 r2 r3 r4 r5 r6 r7 r8 r9 YI YJ YK YL YM YN YO YP YQ YR YT YU YV YW YX c0 c1 c2 c3 c4 b0 b1 b2 b3 b4 b5 b6 b7 b8 b9 Ty Tz TA TB TC TD TE TF TG TH TI TJ TK TL TM k:Int)(x y:Nat)(hx:x<5)(hy:y<5):∃b:List Int,b.length=25/\∀Q:Ex->aM->Prop,(∀c',Wk c' (G6 [a0,a1,a2,a3,a4,a5,a6,a7,a8,a9,om,nz,a12,p8,p9,pb,qa,a17,qb,qc,a20,a21,a22,a23,a24] [r0,r1,r2,r3,r4,r5,r6,r7,r8,r9,YI,YJ,YK,YL,YM,YN,YO,YP,YQ,YR,YT,YU,YV,YW,YX] [c0,c1,c2,c3,c4] b k x (y+1))->Q .normal c')->ev kg tt 118 De L2i (G6 [a0,a1,a2,a3,a4,a5,a6,a7,a8,a9,om,nz,a12,p8,p9,pb,qa,a17,qb,qc,a20,a21,a22,a23,a24] [r0,r1,r2,r3,r4,r5,r6,r7,r8,r9,YI,YJ,YK,YL,YM,YN,YO,YP,YQ,YR,YT,YU,YV,YW,YX] [c0,c1,c2,c3,c4] [b0,b1,b2,b3,b4,b5,b6,b7,b8,b9,Ty,Tz,TA,TB,TC,TD,TE,TF,TG,TH,TI,TJ,TK,TL,TM] k x y) Q:=by
 revert hy;revert y;revert hx;revert x;refine al5 ?_ ?_ ?_ ?_ ?_<;>refine al5 ?_ ?_ ?_ ?_ ?_<;>exact⟨[_,_,_,_,_,_,_,_,_,_,_,_,_,_,_,_,_,_,_,_,_,_,_,_,_],rfl,λQ hQ=>⟨λ_=>⟨_,au rfl (by decide) (by decide),_,au rfl (by decide) (by decide),⟨by decide,by decide⟩,_,au rfl (by decide) (by decide),by decide,⟨by decide,by decide⟩,_,rfl,_,au rfl (by decide) (by decide),by decide,⟨by decide,by decide⟩,_,Wm _ _,_,rfl,_,au rfl (by decide) (by decide),_,au rfl (by decide) (by decide),_,au rfl (by decide) (by decide),by decide,_,au rfl (by decide) (by decide),_,au rfl (by decide) (by decide),⟨by decide,by decide⟩,_,Wm _ _,⟨by decide,by decide⟩,_,au rfl (by decide) (by decide),hQ _ (Wk.ad [2,3,4,6,7,10,31,11,34] [48,64,96,112,160])⟩,λh=>by cases h⟩⟩
abbrev Wo(s r c b d:List Int):List (Nat×ak):=[(48,⟨409,25,.any,[Us s],[]⟩),(64,⟨474,25,.any,[r.map I],[]⟩),(96,⟨409,25,.any,[Z25],[]⟩),(112,⟨496,5,.any,[Us c],[]⟩),(160,⟨409,25,.any,[Us b],[]⟩),(240,⟨409,25,.any,[Us d],[]⟩)]
abbrev G7(s r c b d:List Int)(k:Int)(x y:Nat):aM:=⟨[(2,U k),(3,.af 48 0),(4,.af 64 0),(6,.af 96 0),(7,.af 112 0),(10,.af 160 0),(15,.af 240 0),(74,I x),(16,I x),(77,I y)],Wo s r c b d⟩
noncomputable abbrev L3:Code:=xX (Wl (o0 6 (body Tryz.f402)))
noncomputable abbrev L3i:Code:=xX (o0 1 (aev (Wl (o0 2 L3))))
set_option maxHeartbeats 4000000 in
theorem r3(s r c:List Int)(b0 b1 b2 b3 b4 b5 b6 b7 b8 b9 Ty Tz TA TB TC TD TE TF TG TH TI TJ TK TL TM d0 d1 d2 d3 d4 d5 d6 d7 d8 d9 d10 d11 d12 d13 d14 d15 d16 d17 d18 d19 d20 d21 d22 d23 d24 k:Int)(x y:Nat)(hx:x<5)(hy:y<5):∃d:List Int,d.length=25/\∀Q:Ex->aM->Prop,(∀c',Wk c' (G7 s r c [b0,b1,b2,b3,b4,b5,b6,b7,b8,b9,Ty,Tz,TA,TB,TC,TD,TE,TF,TG,TH,TI,TJ,TK,TL,TM] d k x (y+1))->Q .normal c')->ev kg tt 118 De L3i (G7 s r c [b0,b1,b2,b3,b4,b5,b6,b7,b8,b9,Ty,Tz,TA,TB,TC,TD,TE,TF,TG,TH,TI,TJ,TK,TL,TM] [d0,d1,d2,d3,d4,d5,d6,d7,d8,d9,d10,d11,d12,d13,d14,d15,d16,d17,d18,d19,d20,d21,d22,d23,d24] k x y) Q:=by
 revert hy;revert y;revert hx;revert x;refine al5 ?_ ?_ ?_ ?_ ?_<;>refine al5 ?_ ?_ ?_ ?_ ?_<;>exact⟨[_,_,_,_,_,_,_,_,_,_,_,_,_,_,_,_,_,_,_,_,_,_,_,_,_],rfl,λQ hQ=>⟨λ_=>⟨_,au rfl (by decide) (by decide),_,au rfl (by decide) (by decide),_,au rfl (by decide) (by decide),_,au rfl (by decide) (by decide),⟨by decide,by decide⟩,_,au rfl (by decide) (by decide),by decide,_,au rfl (by decide) (by decide),_,au rfl (by decide) (by decide),⟨by decide,by decide⟩,_,rfl,_,au rfl (by decide) (by decide),by decide,_,au rfl (by decide) (by decide),_,au rfl (by decide) (by decide),⟨by decide,by decide⟩,_,rfl,_,rfl,⟨by decide,by decide⟩,_,au rfl (by decide) (by decide),hQ _ (Wk.ad [2,3,4,6,7,10,15,74,16,77] [48,64,96,112,160,240])⟩,λh=>by cases h⟩⟩
end Go.an.ax.G
