import Derived.Test.YtpfmbblnhjpclaaGreatDoorJ21
import Derived.Test.YtpfmbblnhjpclaaGreatDoorJ17
set_option linter.unusedVariables false
set_option linter.unusedSimpArgs false
set_option maxRecDepth 20000
namespace Go.an.ax
open Go Go.an Go.Proofs
def Dd(ls:List Sh):List Int->List Bx->List Int->Bool
 |a::at',b::bs,oY=>
  match ls[(nO ls a).toNat]? with
  |some s=>if oY.getD (nO ls a).toNat 0+b.bc>s.len∨b.dZ≠s.dZ then false else Dd ls at' bs (oY.set (nO ls a).toNat (oY.getD (nO ls a).toNat 0+b.bc))
  |none=>false
 |_,_,_=>true
def um(ls:List Sh)(bs:List Bx)(at':List Int):Int:=
 if at'.length≠bs.length then 10
 else if(at'.any λa=>decide (nO ls a<0))=true then 7
 else if Dd ls at' bs (List.replicate ls.length 0)=false then 11 else 0
theorem EI{ls:List Sh}{a:Int}(h:¬nO ls a<0):∃s,ls[(nO ls a).toNat]?=some s/\s.id=a/\(nO ls a).toNat<ls.length/\((nO ls a).toNat:Int)=nO ls a:=by
 unfold nO at h⊢
 rcases dH (λs:Sh=>s.id==a) ls 0 with⟨h1,_⟩|⟨i,s,h1,h2,h3,_⟩
 .omega
 .rw[h3]
  simp only[dp,aY];exact⟨s,h1,by simpa using h2,(aE.1 h1).1,trivial⟩
abbrev OC(ls:List Sh)(bs:List Bx)(oY:List Int):List (Nat×ak):=[(32,⟨119,2,.any,[[SS ls,BS bs]],[]⟩),(496,⟨3,1,.pure,oY.map λn=>[I n],[]⟩)]
theorem c83(ls:List Sh)(bs:List Bx)(at':List Int)(hl:ls.length<=1000)(hb:bs.length<=1000)(hw:∀b∈bs,0<=b.bc/\b.bc<=10000):Fn kg 83 [HS ls bs,NS at'] (I (um ls bs at')):=by
 refine aH ain ⟨λh=>?_,λh=>?_⟩
 .have h:at'.length≠bs.length:=by simp at h;omega
  rw[um,if_pos h];exact⟨rfl,rfl,rfl⟩
 .have h:at'.length=bs.length:=by simp at h;omega
  rw[um,if_neg (by omega)];refine⟨λn c=>∃i:Nat,i<=at'.length/\n=at'.length-i/\c=⟨[(1,NS at'),(2,.af 32 0),(4,I 0),(17,NS at'),(18,I at'.length),(19,I i)],[(32,⟨119,2,.any,[[SS ls,BS bs]],[]⟩)]⟩/\∀a∈at'.take i,¬nO ls a<0,
   ⟨_,_,Wk.ad [1,2,4,17,18,19] [32],0,by omega,rfl,rfl,by simp⟩,?_⟩
  rintro n c ⟨i,hi,rfl,rfl,hI⟩;refine⟨λaC=>?_,λaC=>?_⟩
  .simp at aC
   obtain⟨a,ha,hd,ht⟩:=aq aC;refine⟨by omega,[I a],by simp[ha],_,c88 ls bs a (by omega),λhn=>?_,λhn=>?_⟩
   .have hn:decide (nO ls a<0)=true:=hn
    rw[if_pos (zm.2 ⟨a,ay ha,hn⟩)];exact⟨rfl,rfl,rfl⟩
   .have hn:¬nO ls a<0:=j0 hn
    refine⟨_,ah,?_⟩;refine⟨_,_,Wk.ad [1,2,4,17,18,19] [32],by omega,i+1,by omega,rfl,rfl,?_⟩;rw[ht];intro x hx
    rcases cE.1 hx with hx|hx
    .exact hI x hx
    .simp at hx;rw[hx];exact hn
  .simp at aC
   have:i=at'.length:=by omega
   subst this;rw[oB]at hI;rw[if_neg (by
    intro hh;obtain⟨a,ha,hq⟩:=zm.1 hh;exact hI a ha (aP hq))]
   refine⟨⟨rfl,by omega,by show(8:Int)*_<=_;omega,by omega⟩,?_⟩;refine⟨λn c=>∃(j:Nat)(oY:List Int),j<=at'.length/\n=at'.length-j/\c=⟨[(2,.af 32 0),(4,I 0),(7,.bn 496 1 ls.length),(32,NS at'),(33,I at'.length),(34,I j)],OC ls bs oY⟩/\oY.length=ls.length/\(∀x∈oY,0<=x/\x<=10000*j)/\Dd ls (at'.drop j) (bs.drop j) oY=Dd ls at' bs (List.replicate ls.length 0),
    ⟨_,_,Wk.ad [2,4,7,32,33,34] [32,496],0,List.replicate ls.length 0,by omega,rfl,?_,by simp,λx hx=>(by simp[mz]at hx;omega),by simp⟩,?_⟩
   .show _=(⟨[(2,.af 32 0),(4,I 0),(7,.bn 496 1 ls.length),(32,NS at'),(33,I at'.length),(34,I ((0:Nat):Int))],[(32,⟨119,2,.any,[[SS ls,BS bs]],[]⟩),(496,⟨3,1,.pure,(List.replicate ls.length (0:Int)).map λn=>[I n],[]⟩)]⟩:aM)
    rw[List.map_replicate];rfl
   rintro n c ⟨j,oY,hj,rfl,rfl,pW,hsb,hJ⟩;refine⟨λaC=>?_,λaC=>?_⟩
   .simp at aC
    obtain⟨a,ha,hd,_⟩:=aq aC;obtain⟨b,yz,hdb,_⟩:=aq (l:=bs) (i:=j) (by omega);have hna:=hI a (ay ha);obtain⟨s,hs,aec,Yw,Ns⟩:=EI hna;have hwb:=hw b (ay yz);rw[hd,hdb]at hJ;simp only[Dd,hs]at hJ;generalize hk:(nO ls a).toNat=k at hs Yw Ns hJ;have hx:oY[k]?=some (oY.getD k 0):=by
     rw[lJ,aW (by omega)];rfl
    generalize oY.getD k 0=v at hx hJ;have hxb:=hsb _ (ay hx);have aD:(oY.map λn=>[I n])[(nO ls a).toNat]?=some [I v]:=by rw[hk,aS,hx];rfl
    refine⟨by omega,[I a],by simp[ha],_,c88 ls bs a (by omega),?_⟩;refine⟨by omega,[I v],aD,by omega,bj b,by simp[yz],_,ah,by omega,[I v],aD,?_⟩;have xW:((oY.map λn=>[I n]).set (nO ls a).toNat [I (v+b.bc)])[(nO ls a).toNat]?=some [I (v+b.bc)]:=by
     rw[hk,DW (by rw[gB];omega)]
    have A4:(ls.map eN)[(nO ls a).toNat]?=some (eN s):=by rw[hk,aS,hs];rfl
    have lh:(oY.map λn=>[I n]).set (nO ls a).toNat [I (v+b.bc)]=(oY.set k (v+b.bc)).map λn=>[I n]:=by rw[hk,oC]
    by_cases tp:v+b.bc>s.len
    .rw[if_pos (.inl tp)]at hJ
     refine⟨[(11,true)],by omega,[I (v+b.bc)],xW,by omega,eN s,A4,uG tp,λ_=>?_,λh=>(by cases h)⟩;rw[if_pos hJ.symm];exact⟨rfl,rfl,rfl⟩
    .refine⟨[(11,false)],by omega,[I (v+b.bc)],xW,by omega,eN s,A4,qA tp,by omega,bj b,by simp[yz],by omega,eN s,A4,λhc=>?_,λhc=>?_⟩
     .have hc:b.dZ≠s.dZ:=by simpa using hc
      rw[if_pos (.inr hc)]at hJ;rw[if_pos hJ.symm];exact⟨rfl,rfl,rfl⟩
     .have hc:b.dZ=s.dZ:=by simpa using hc
      rw[if_neg (by simp[hc,tp])]at hJ;refine⟨_,ah,?_⟩;refine⟨_,_,Wk.ad [2,4,7,32,33,34] [32,496],by omega,j+1,oY.set k (v+b.bc),by omega,rfl,?_,by simp[pW],?_,hJ⟩
      .show _=(⟨[(2,.af 32 0),(4,I 0),(7,.bn 496 1 ls.length),(32,NS at'),(33,I at'.length),(34,I ((j+1:Nat):Int))],[(32,⟨119,2,.any,[[SS ls,BS bs]],[]⟩),(496,⟨3,1,.pure,(oY.set k (v+b.bc)).map λn=>[I n],[]⟩)]⟩:aM)
       rw[<-lh];rfl
      .intro x sU
       rcases mw sU with q|q
       .have:=hsb x q;omega
       .omega
   .simp at aC
    have:j=at'.length:=by omega
    subst this;rw[j4,Dd]at hJ
    .rw[<-hJ]
     exact⟨rfl,rfl,rfl⟩
    .rintro a r b q h;cases h
abbrev fNS(l:List Int):AV:=.dh true 3 1 l.length (l.map λn=>[I n])
theorem ajr(l:List Int)(hl:l.length<=100000):Fn kg 64 [NS l] (fNS l):=by
 have:=Yi (l.map λn=>[I n]) (by simpa using hl) (Mn l);rw[gB]at this;exact this
theorem c85(at':List Int)(hl:at'.length<=100000)(i:Nat)(hi:i<at'.length)(to:Int):Fn kg 85 [NS at',I i,I to] (fNS (at'.set i to)):=by
 refine aH aio ⟨_,ajr at' hl,false,by omega,[I at'[i]],by simp,?_⟩;refine⟨rfl,_,rfl,rfl,?_,.inl ⟨rfl,?_⟩⟩
 .simp
 .show AV.dh true 3 1 _ _=AV.dh true 3 1 _ (((at'.map λn=>[I n]).set ((i:Int)).toNat [I to]))
  rw[aY,oC,zt]
theorem c43(ls:List Sh)(bs:List Bx)(at':List Int)(hl:ls.length<=1000)(hb:bs.length<=1000)(hc:∀b∈bs,b.ma.length<=100000)(hw:nP ls bs=0->∀b∈bs,0<=b.bc/\b.bc<=10000):
  Fn kg 43 [SS ls,BS bs,NS at'] (I (if nP ls bs≠0 then nP ls bs else um ls bs at')):=by
 by_cases h:nP ls bs=0
 .have e:rn ls bs=HS ls bs:=by unfold rn;rw[if_pos h]
  have c:=c82 ls bs (by omega) (by omega) hc;rw[e,h]at c;rw[if_neg (by simp[h])];exact aH abr ⟨_,c,λh=>(by cases h),λ_=>⟨_,c83 ls bs at' hl hb (hw h),rfl,rfl,rfl⟩⟩
 .have e:rn ls bs=.agg [.ai,.ai]:=by unfold rn;rw[if_neg h]
  have c:=c82 ls bs (by omega) (by omega) hc;rw[e]at c;rw[if_pos h];refine aH abr ⟨_,c,λ_=>⟨rfl,rfl,rfl⟩,λh'=>?_⟩;have:nP ls bs=0:=by simpa using h'
  exact absurd this h
def vO(ls:List Sh)(bs:List Bx)(at':List Int)(i:Nat)(b:Bx):List Sh->List Cy
 |[]=>[]
 |s::r=>(if s.id≠at'.getD i 0/\um ls bs (at'.set i s.id)=0 then[⟨b.id,at'.getD i 0,s.id⟩]else[])++vO ls bs at' i b r
def sE(ls:List Sh)(bs:List Bx)(at':List Int)(i:Nat):List Bx->List Cy
 |[]=>[]
 |b::r=>vO ls bs at' i b ls++sE ls bs at' (i+1) r
def A5(ls:List Sh)(bs:List Bx)(at':List Int):List Cy:=sE ls bs at' 0 bs
abbrev fYS(l:List Cy):AV:=.dh true 198 3 l.length (l.map A0)
abbrev OS1(ls:List Sh)(bs:List Bx)(bX:List Cy):List (Nat×ak):=[(32,⟨119,2,.any,[[SS ls,BS bs]],[]⟩),(864,⟨198,3,.pure,bX.map A0,[]⟩)]
abbrev OS2(ls:List Sh)(bs:List Bx)(b:Bx)(bX:List Cy):List (Nat×ak):=[(32,⟨119,2,.any,[[SS ls,BS bs]],[]⟩),(112,⟨84,5,.any,[bj b],[]⟩),(864,⟨198,3,.pure,bX.map A0,[]⟩)]
theorem c84(ls:List Sh)(bs:List Bx)(at':List Int)(hl:ls.length<=1000)(hb:bs.length<=1000)(hw:∀b∈bs,0<=b.bc/\b.bc<=10000)(ha:at'.length=bs.length):Fn kg 84 [HS ls bs,NS at'] (fYS (A5 ls bs at')):=by
 refine lX aiH [] [] ?_;refine⟨λn c=>∃(i:Nat)(bX:List Cy),i<=bs.length/\n=bs.length-i/\bX.length<=1000*i/\c=⟨[(1,NS at'),(2,.af 32 0),(4,.ai),(5,.bn 864 3 bX.length),(11,BS bs),(12,I bs.length),(13,I i)],OS1 ls bs bX⟩/\bX++sE ls bs at' i (bs.drop i)=A5 ls bs at',
  ⟨_,_,(Wk.vB 5 864 ⟨198,3,.pure,[],[]⟩ [1,2,4,5,11,12,13] [32,864] rfl rfl rfl).p,0,[],by omega,rfl,by simp,rfl,by simp[A5]⟩,?_⟩
 rintro n c ⟨i,bX,hi,rfl,uo,rfl,hI⟩;refine⟨λaC=>?_,λaC=>?_⟩
 .simp at aC
  obtain⟨b,yz,hd,_⟩:=aq aC;rw[hd]at hI;simp only[sE]at hI;refine⟨by omega,bj b,by simp[yz],?_⟩;refine⟨λn c=>∃(k:Nat)(ky:List Cy),k<=ls.length/\n=ls.length-k/\ky.length<=1000*i+k/\c=⟨[(1,NS at'),(2,.af 32 0),(4,.ai),(5,.bn 864 3 ky.length),(6,I i),(7,.af 112 0),(11,BS bs),(12,I bs.length),(13,I i),(19,SS ls),(20,I ls.length),(21,I k)],OS2 ls bs b ky⟩/\ky++(vO ls bs at' i b (ls.drop k)++sE ls bs at' (i+1) (bs.drop (i+1)))=A5 ls bs at',
   ⟨_,_,aj.ad [1,2,4,5,6,7,11,12,13,19,20,21] [32,112,864],0,bX,by omega,rfl,by omega,rfl,by simpa using hI⟩,?_⟩
  rintro n c ⟨k,ky,hk,rfl,jt,rfl,hK⟩;refine⟨λl9=>?_,λl9=>?_⟩
  .simp at l9
   obtain⟨s,hs,hds,_⟩:=aq l9;rw[hds]at hK;simp only[vO]at hK;have hat:at'[i]?=some (at'.getD i 0):=by
    rw[lJ,aW (by omega)];rfl
   generalize at'.getD i 0=x at hat hK;have aD:(at'.map λn=>[I n])[((i:Nat):Int).toNat]?=some [I x]:=by rw[aY,aS,hat];rfl
   refine⟨by omega,eN s,by simp[hs],?_⟩
   by_cases dW:s.id=x
   .rw[if_neg (by simp[dW]),bk]at hK
    refine⟨[(7,false)],by omega,[I x],aD,by simp[dW],λh=>(by cases h),λ_=>?_⟩;refine⟨_,ah,?_⟩;exact⟨_,_,aj.ad [1,2,4,5,6,7,11,12,13,19,20,21] [32,112,864],by omega,k+1,ky,by omega,rfl,by omega,rfl,hK⟩
   .have ajs:=c85 at' (by omega) i (by omega) s.id
    have ajt:=c83 ls bs (at'.set i s.id) hl hb hw;refine⟨[(7,true)],by omega,[I x],aD,by simp[dW],_,ajs,true,_,ajt,λhc=>?_,λhc=>?_⟩
    .have hc:um ls bs (at'.set i s.id)=0:=by simpa using hc
     rw[if_pos ⟨dW,hc⟩]at hK;refine⟨by omega,[I x],aD,⟨by show(ky.length+1)*24<=_;omega,by omega⟩,?_⟩;refine⟨_,ah,?_⟩;refine⟨_,_,aj.kr [1,2,4,5,6,7,11,12,13,19,20,21] [32,112,848] [(848,864)] rfl rfl rfl rfl,by omega,k+1,ky++[⟨b.id,x,s.id⟩],by omega,rfl,by simp;omega,?_,by simpa using hK⟩;have Ko:(ky++[(⟨b.id,x,s.id⟩:Cy)]).length=ky.length+1:=by simp
     have Gf:(ky++[(⟨b.id,x,s.id⟩:Cy)]).map A0=(ky.map A0).take ky.length++[A0 ⟨b.id,x,s.id⟩]:=by rw[ph (by simp)];simp
     show _=(⟨[(1,NS at'),(2,.af 32 0),(4,.ai),(5,.bn 864 3 (ky++[(⟨b.id,x,s.id⟩:Cy)]).length),(6,I i),(7,.af 112 0),(11,BS bs),(12,I bs.length),(13,I i),(19,SS ls),(20,I ls.length),(21,I ((k+1:Nat):Int))],[(32,⟨119,2,.any,[[SS ls,BS bs]],[]⟩),(112,⟨84,5,.any,[bj b],[]⟩),(864,⟨198,3,.pure,(ky++[(⟨b.id,x,s.id⟩:Cy)]).map A0,[]⟩)]⟩:aM)
     rw[Ko,Gf]
     rfl
    .have hc:¬um ls bs (at'.set i s.id)=0:=by simpa using hc
     rw[if_neg (by simp[hc]),bk]at hK;refine⟨_,ah,?_⟩;exact⟨_,_,aj.ad [1,2,4,5,6,7,11,12,13,19,20,21] [32,112,864],by omega,k+1,ky,by omega,rfl,by omega,rfl,hK⟩
  .simp at l9
   have:k=ls.length:=by omega
   subst this;simp only[j4,vO,bk]at hK;refine⟨_,ah,?_⟩;exact⟨_,_,aj.ad [1,2,4,5,11,12,13] [32,864],by omega,i+1,ky,by omega,rfl,by omega,rfl,hK⟩
 .simp at aC
  have:i=bs.length:=by omega
  subst this;simp only[j4,sE,dN]at hI;refine⟨_,aj.refl _ _,rfl,_,rfl,rfl,by simp,.inl ⟨rfl,?_⟩⟩;rw[<-hI]
end Go.an.ax
namespace Go.an.ax
open Go Go.an
structure Hs(ls:List Sh)(bs:List Bx):Prop where
 sh:dx ls=0
 sp:(ls.map Sh.id).Pairwise (· <·)
 bp:(bs.map Bx.id).Pairwise (· <·)
 sb:∀s∈ls,Yv s=false
 bw:∀b∈bs,1<=b.bc/\b.bc<=10000/\1<=b.id/\b.id<=1073741824/\b.ma.length<=32
 sl:ls.length<=32
 bl:bs.length<=128
 sz:ls.length^bs.length<=4096
def kyL(ls:List Sh)(x:List Int):List Nat:=x.map λa=>(nO ls a).toNat
def EJ(ls:List Sh)(x:List Int):AV:=.str (bytesOf ((kyL ls x).map Int.ofNat))
structure Rep(ls:List Sh)(bs:List Bx)(ms:List Mv)(x:List Int):Prop where
 len:x.length=bs.length
 rd:(fV ms).2=0
 d0:∀m∈ms,m.aR=0
 pl:∀(i:Nat)(b:Bx)(a:Int),bs[i]?=some b->x[i]?=some a->bT ms b.id=if a=0 then(0,0)else(1,a)
 mb:∀m∈ms,(∃b∈bs,b.id=m.box)/\(m.fk=0∨m.fk=1/\∃s∈ls,s.id=m.fo)/\(m.tk=1/\∃s∈ls,s.id=m.to)
 sh:∀a∈x,a=0∨∃s∈ls,s.id=a
theorem Rep.nil{ls:List Sh}{bs:List Bx}:Rep ls bs [] (List.replicate bs.length 0):=
 ⟨by simp,rfl,by simp,λi b a h1 h2=>by rw[List.getElem?_replicate]at h2;split at h2<;>cases h2;rfl,by simp,λa h=>.inl (by simp[mz]at h;omega)⟩
def B5(ms:List Mv)(b s:Int):List Bx->Int
 |[]=>0
 |x::r=>(if x.id≠b/\bT ms x.id=(1,s)then x.bc else 0)+B5 ms b s r
abbrev Wb:=List Int×List Cy
def Yx(ls:List Sh)(e:Wb):List AV:=[EJ ls e.1,NS e.1,YS e.2]
variable{ls:List Sh} {bs:List Bx} {jW:List Int} {E:List Wb} {q:List (List Int)}
end Go.an.ax
namespace Go.an.ax
open Go Go.an Go.Proofs
theorem Yy{n:Int}(h1:0<=n)(h2:n<256):IntKind.u8.wrap n=n:=by
 unfold IntKind.wrap;simp[IntKind.signed,IntKind.bits];omega
abbrev U8(n:Int):AV:=.int .u8 n
abbrev Pz(ls:List Sh)(x:List Int):List (List AV):=(kyL ls x).map λk=>[U8 (Int.ofNat k)]
theorem pF:∀l:List Nat,JQ (l.map λk=>U8 (Int.ofNat k))=l.map Int.ofNat
 |[]=>rfl
 |a::r=>by simp only[cU,JQ];rw[pF r]
abbrev aju(ls:List Sh)(bs:List Bx)(x:List Int):List (Nat×ak):=[(32,⟨119,2,.any,[[SS ls,BS bs]],[]⟩),(336,⟨5,1,.pure,Pz ls x,[]⟩)]
theorem c45(ls:List Sh)(bs:List Bx)(at':List Int)(hl:ls.length<=200)(hb:at'.length<=1000)(hn:∀a∈at',¬nO ls a<0):Fn kg 45 [HS ls bs,NS at'] (EJ ls at'):=by
 refine lX aiE [] [] ?_;refine⟨λn c=>∃i:Nat,i<=at'.length/\n=at'.length-i/\c=⟨[(2,.af 32 0),(5,.bn 336 1 i),(8,NS at'),(9,I at'.length),(10,I i)],aju ls bs (at'.take i)⟩,
  ⟨_,_,(Wk.vB 5 336 ⟨5,1,.pure,[],[]⟩ [2,5,8,9,10] [32,336] rfl rfl rfl).p,0,by omega,rfl,rfl⟩,?_⟩
 rintro n c ⟨i,hi,rfl,rfl⟩;refine⟨λaC=>?_,λaC=>?_⟩
 .simp at aC
  obtain⟨a,ha,hd,ht⟩:=aq aC;obtain⟨s,_,_,pW,Ns⟩:=EI (hn a (ay ha));refine⟨by omega,[I a],by simp[ha],_,c88 ls bs a (by omega),_,Yy (by omega) (by omega),⟨by show(i+1)*1<=140737488355328;omega,by omega⟩,?_⟩;refine⟨_,ah,?_⟩;refine⟨_,_,aj.ad [2,5,8,9,10] [32,336],by omega,i+1,by omega,rfl,?_⟩;have hr:Pz ls (at'.take (i+1))=(Pz ls (at'.take i)).take i++[[U8 (nO ls a)]]:=by
   have h0:(Pz ls (at'.take i)).take i=Pz ls (at'.take i):=ph (by simp only[Pz,kyL,gB,aO];omega);rw[h0,ht];simp only[Pz,kyL,qB,cU,dO];rw[show(Int.ofNat (nO ls a).toNat)=nO ls a from Ns]
  show _=(⟨[(2,.af 32 0),(5,.bn 336 1 (i+1)),(8,NS at'),(9,I at'.length),(10,I ((i+1:Nat):Int))],[(32,⟨119,2,.any,[[SS ls,BS bs]],[]⟩),(336,⟨5,1,.pure,Pz ls (at'.take (i+1)),[]⟩)]⟩:aM)
  rw[hr]
  rfl
 .simp at aC
  have:i=at'.length:=by omega
  subst this;rw[oB];refine⟨(kyL ls at').map λk=>U8 (Int.ofNat k),⟨by show(Pz ls at').take _=_;rw[ph (by simp[Pz,kyL])];simp[Pz],λu hu=>?_⟩,?_⟩
  .obtain⟨k,_,rfl⟩:=cK.1 hu
   exact⟨_,rfl⟩
  .rw[pF]
   exact⟨_,aj.refl _ _,rfl,rfl,rfl⟩
end Go.an.ax
namespace Go.an
open Go.RowKit
theorem Tt(g o j:Nat):(⟨g,o,none⟩:Addr).add j=⟨g,o+j,none⟩:=by unfold Addr.add;split<;>simp_all
theorem mZ{P:Program}(w:World)(t ty e:TypeId)(i:TypeInfo)(ht:P.underlying t=some (.slice e))(hi:P.info? e=some i)
  (g off B6 PA:Nat)(aJ:Array Value)(hg:w.heap[g]?=some (.cells aJ e (0,0)))
  (a:Addr)(m c:Nat)(cg:List Value)(hl:cg.length=m*i.size)(vd:∀j u,cg[j]?=some u->w.cell? (a.add j)=some u)(h1:∀u∈cg,u.oneCell'=true)
  (p7:B6+m<=PA)(iE:off+B6*i.size+cg.length<=aJ.size):
  (Builtin.append_ #[t,t] ty #[.slice (some ⟨g,off,none⟩) B6 PA,.slice (some a) m c]).run P w=
   .ok (.slice (some ⟨g,off,none⟩) (B6+m) PA) (w.setRow g (aJ.toList.take (off+B6*i.size)++cg++aJ.toList.drop (off+B6*i.size+cg.length)).toArray):=by
 have hf:=run_firstCells_some (P:=P) w i.size m a m c cg hl vd;have cY:=run_storeCells_at P g (off+B6*i.size) e cg 0 aJ w hg (by simpa using iE) h1;simp only[ed]at cY;simp[Builtin.append_,run_underlying ht,sizeOf,typeInfo,hi,Builtin.lenOf,p7,hf,Addr.add_lit,cY]
section
variable{P:Program} {T:dD} {E:Env} {K:KM} {c:aM} {a:Act} {w:World}
theorem G0{X':Nat->Prop}{K':KM}{w':World}{g sz e:Nat}{ow aa:List (List AV)}{cells:Array Value}{cg:List Value}
  (hc:w'.heap[g]?=some (.cells cells e (0,0)))(hou:∀row∈ow,row.length=sz)(hru:∀row∈aa,row.length=sz)(ny:cg.length=aa.length*sz)
  (h1:∀(j:Nat) u,ow.flatten[j]?=some u->∃y,cells[j]?=some y/\y.oneCell'=true/\VR w' X' K0 u y)
  (h2:∀j,j<cg.length->cells[ow.length*sz+j]?=cg[j]?)(dC:∀u∈cg,u.oneCell'=true)
  (h3:∀(j:Nat) u x,aa.flatten[j]?=some u->cg[j]?=some x->VR w' X' K0 u x):l8 w' X' K' g {e:=e,sz:=sz,kd:=.flat,aa:=ow++aa}:=by
 refine⟨cells,aV.mk (by intro ag st;simp) hc,λj u hj=>?_⟩;have hj:(ow++aa).flatten[j]?=some u:=hj;rw[lA]at hj
 rcases eJ j ow.flatten.length with aC|kT
 .rw[bM aC]at hj
  exact h1 j u hj
 .rw[cm kT]at hj
  have hfo:=bD hou;have so:=(aE.1 hj).1;have jF:=bD hru;have hjn:j-ow.flatten.length<cg.length:=by rw[ny,<-jF];exact so
  have hy:cg[j-ow.flatten.length]?=some cg[j-ow.flatten.length]:=aW hjn;refine⟨_,?_,dC _ (uD hjn),h3 _ u _ hj hy⟩;have:=h2 _ hjn;rw[hy]at this;rw[<-this,<-hfo];congr 1;omega
end
theorem I4{P:Program}{T:dD}{N:Nat}{ps:List Nat}{aB:Array Oper}{p:Nat}{c:aM}{o:Oper}{s x:Operand}{t d b sz lo n m e:Nat}{ti ei:JM}{ae:ak}{aa:List (List AV)}{Sl:Kd}
  (hT:br P T)(h1:bW T=true)(ho:aB[p]?=some o)(cq:o.op=.call {callee:=.builtin .append,args:=#[s,x],argTypes:=#[t,t]})(hd:o.dst=some d)(hg:o.guard=none)
  (nY:T.get t=some ti)(LG:ti.k=.slice e)(lg:T.get e=some ei)(H3:ei.size=sz)(bJ:0<sz)
  (hs:j8 c s=.dq b sz lo n)(hn:0<n)(hb:aK c.O b=some ae)(uB:ae.aa.length=lo+n)(H2:ae.sz=sz)(qv:ae.e=e)(Gc:ae.kd=.flat)(hbn:ae.fF=[])(yw:Nat.ble (b %16) 1=true)
  (iZ:dA (aK c.O) sz (j8 c x)=some (m,aa,Sl))(hm:0<m)(We:Mg Sl=true)
  (ajv:(n+m)*ei.bytes<=140737488355328/\n+m<=9223372036854775807)(hdN:fg N c (some d)=true)(jF:eP (16*d) c=true):
  BN P N ps aB p c (λc'=>c'=⟨(d,.dq b sz lo (n+m))::iq b c.fr,di b {ae with aa:=ae.aa++aa} (eS b c.O)⟩∨
   c'=⟨(d,.dq (16*d) sz 0 (n+m))::c.fr,di (16*d) {ae with aa:=ae.aa.drop lo++aa} c.O⟩):=by
 rintro E a w Q hN hp ⟨K,h⟩;obtain⟨⟨dd,RF,eM⟩,_⟩:=hT.get nY;rw[LG]at eM;have:=of_slice eM;subst this;obtain⟨_,⟨je,kb,BK,mi,Rx⟩,_⟩:=hT.get lg;obtain⟨_,Cv⟩:=bW.get h1 lg;have az:=fh (c:=c) h;obtain⟨A,cap,e1,hA,hC⟩:=VR.Cs (az.at hs);obtain⟨g,m',hK,Gf,rfl⟩:=hA hn;obtain⟨U5,U6,g',o',aJ,e',Xq,hc,dL⟩:=hC hn;injection Xq with Xq;injection Xq with tZ tV;subst tZ tV
 have Gb:VR w (XX E K c.O) K (j8 c x) (a.eval x):=(az x).vr (by rintro d bf u e';rw[e']at iZ;cases iZ);obtain⟨Ip,lp,A2,cp,cg,e2,ny,cH,dC,CG⟩:=ig h iZ Gb;obtain⟨ga,oa,rfl,mR⟩:=cH hm;have aed:∀(j:Nat) u,cg[j]?=some u->w.cell? ((⟨ga,oa,none⟩:Addr).add j)=some u:=λj u hu=>by
  rw[show(⟨ga,oa,none⟩:Addr).add j=⟨ga,oa+j,none⟩from by unfold Addr.add;split<;>simp_all];exact mR j u hu
 have Sp:∀(j:Nat) u x,aa.flatten[j]?=some u->cg[j]?=some x->VR w (XX E K c.O) K0 u x:=by
  intro j u x hu hx;have:=CG j u x hu hx
  cases Sl with
  |pure=>exact VR.sub this λ_ _ _=>trivial
  |flat=>exact this
  |any=>cases We
  |map _ _=>cases We
 have U0:=h.aa b ae hb;rw[H2]at U0
 rcases h.own b ae hb with⟨k1,_⟩|⟨g2,k1,aaV,Sw,hu⟩
 .rw[hK]at k1;cases k1
 rw[hK]at k1;injection k1 with k1;injection k1 with k1 k2;injection k1 with k1;subst k1
 replace Sw:=Sw.nX hc;rw[hc]at Sw;injection Sw with Sw;injection Sw with q1 q2;subst q1
 have hee:e'=e:=by rw[q2,qv]
 subst hee;rw[Gc]at hu;have nt:ae.aa.flatten.length=(lo+n)*sz:=by rw[bD U0,uB]
 have eY:(lo+n)*sz<=aJ.size:=by
  rw[<-dL,bh];exact Nat.add_le_add_left (gR _ U5) _
 have U3:fg E.N c (some d)=true:=by rw[hN];exact hdN
 unfold wpOp;rw[ho];simp only;rw[if_pos (by simp[Region.wanted,hg])]
 left
 unfold Oper.wp;have En:je.size=sz:=by rw[mi,H3]
 rcases eJ cap (n+m)with aC|kT
 ·
  have hr:=run_append_grow (P:=P) w t o.type e' je _ RF kb BK ⟨g,lo*sz,none⟩ n cap ((aJ.toList.drop (lo*sz)).take (n*sz)) (by
    rw[En,aO,jY,gf];rw[bh]at eY;omega) (λj u hu=>by
    rw[bQ]at hu
    split at hu
    .rw[cV]at hu
     rw[Tt];simp only[World.cell?,hc];simpa using hu
    .cases hu) ⟨ga,oa,none⟩ m cp cg (by rw[En];exact ny) aed aC (by omega) (growslice_fits aC (by rw[Rx];exact ajv.1))
  have Ck:=gu (a:=a) cq (by rw[e1,e2];exact hr);rw[Ck];have kT:=grownCap_ge w (n+m) cap e';generalize lq:((aJ.toList.drop (lo*sz)).take (n*sz)).toArray++cg.toArray++Builtin.zeroCells (ei.zero).cells (grownCap w (n+m) cap e'-(n+m))=cells;have cY:Step (λ_=>False) w (w.drew.alloc (.cells cells e')):=(Step.drawn _ w (w.drawn+1)).trans (Step.alloc _ w.drew _);have XT:((aJ.toList.drop (lo*sz)).take (n*sz)).length=n*sz:=by
   rw[aO,jY,gf];rw[bh]at eY;omega
  have dM:cells.size=grownCap w (n+m) cap e'*sz:=by
   rw[<-lq];simp only[lB,cL,XT,ny,size_zeroCells,Cv,H3];rw[<-bh,<-bh];congr 1;omega
  have G1:(w.drew.alloc (.cells cells e')).heap[w.heap.size]?=some (.cells cells e' (0,0)):=iN w.drew _;have Tu:(ae.aa.drop lo).length=n:=by rw[jY,uB];omega
  have Ec:(ae.aa.drop lo++aa).length=n+m:=by rw[be,Tu,<-Ip]
  have hdu:∀row∈ae.aa.drop lo,row.length=sz:=λrow hr=>U0 row (uE hr)
  have Mi:(ae.aa.drop lo).flatten.length=n*sz:=by rw[bD hdu,Tu]
  have sZ:∀j,j<n*sz->ae.aa.flatten[lo*sz+j]?=(ae.aa.drop lo).flatten[j]?:=by
   intro j hj;have h0:ae.aa=ae.aa.take lo++ae.aa.drop lo:=(rR _ _).symm;have ht:(ae.aa.take lo).flatten.length=lo*sz:=by
    rw[bD (λrow hr=>U0 row (my hr)),aO,uB];congr 1;omega
   conv=>lhs;rw[h0,lA,cm (by omega),ht]
   congr 1;omega
  have hB:l8 (w.drew.alloc (.cells cells e')) (λh=>XX E K c.O h∨h=w.heap.size) K w.heap.size {e:=e',sz:=sz,kd:=.flat,aa:=ae.aa.drop lo++aa}:=by
   refine G0 (cg:=cg) G1 hdu lp (by rw[ny,Ip]) (λj u hj=>?_) (λj hj=>?_) dC (λj u x hu hx=>?_)
   .have so:=(aE.1 hj).1
    rw[Mi]at so;rw[<-sZ j so]at hj;obtain⟨y,hy,wJ,pV⟩:=hu _ u hj;refine⟨y,?_,wJ,VR.ad pV (cY.ad.mono λ_ _ h=>h.elim) (λr hr hx=>?_) (λ_ _=>rfl)⟩
    .rw[<-lq]
     simp only[Array.getElem?_append,lB,cL,XT];rw[if_pos (by omega),if_pos so];simp only[eD];rw[bQ,if_pos so,cV];simpa using hy
    .rcases hx with hx|hx
     .exact hx
     .omega
   .rw[Tu,<-lq]
    simp only[Array.getElem?_append,lB,cL,XT];rw[if_pos (by omega),if_neg (by omega)];simp
   .refine VR.ad (Sp j u x hu hx) (cY.ad.mono λ_ _ h=>h.elim) (λr hr hx=>?_) (λ_ _=>rfl)
    rcases hx with hx|hx
    .exact hx
    .have:w.heap.size<=r:=by omega
     omega
  obtain⟨am8,hoB,huB⟩:=hB;have uz:=oM (ae:={e:=e',sz:=sz,kd:=.flat,aa:=ae.aa.drop lo++aa}) h jF cY (bG _) (by
   intro row hr
   rcases cE.1 hr with hr|hr
   .exact hdu row hr
   .exact lp row hr) hoB (λj u hj=>⟨λhk=>(by cases hk),huB j u hj⟩)
  refine⟨_,.inr rfl,pU K (16*d) (some w.heap.size,(ae.aa.drop lo++aa).length),?_⟩;have gx:({ae with aa:=ae.aa.drop lo++aa}:ak)={e:=e',sz:=sz,kd:=.flat,aa:=ae.aa.drop lo++aa}:=by
   rw[<-qv,<-H2,<-Gc,<-hbn]
  rw[gx];have Yz:fg E.N ⟨c.fr,di (16*d) {e:=e',sz:=sz,kd:=.flat,aa:=ae.aa.drop lo++aa} c.O⟩ o.dst=true:=by rw[hd];exact U3
  have:=uz.put (dst:=o.dst) (u:=.dq (16*d) sz 0 (n+m)) (v:=.slice (some ⟨w.heap.size,0,none⟩) (n+m) (grownCap w (n+m) cap e')) Yz λ_ _=>FV.of (.dq (λ_=>⟨w.heap.size,_,dF _ _ _,by rw[Ec];omega,by simp⟩) (λ_=>⟨kT,grownCap_le_maxLen w (n+m) cap e' (by unfold maxLen;omega),w.heap.size,0,cells,e',rfl,G1,by rw[dM];omega⟩))
  rw[hd]at this⊢;exact this
 ·
  have iE:lo*sz+n*je.size+cg.length<=aJ.size:=by
   rw[En,ny,<-dL,pf,<-bh];exact Nat.add_le_add_left (gR _ kT) _
  have hr:=mZ (P:=P) w t o.type e' je RF kb g (lo*sz) n cap aJ hc ⟨ga,oa,none⟩ m cp cg (by rw[En];exact ny) aed dC kT iE;have Ck:=gu (a:=a) cq (by rw[e1,e2];exact hr);rw[Ck];rw[En]at iE⊢;have hlz:lo*sz+n*sz=(lo+n)*sz:=(bh _ _ _).symm;rw[hlz]at iE⊢;generalize qQ:(aJ.toList.take ((lo+n)*sz)++cg++aJ.toList.drop ((lo+n)*sz+cg.length)).toArray=new;have JX:new.size=aJ.size:=by
   rw[<-qQ];simp only[cL,be,aO,jY,gf];omega
  have G1:=setRow_heap w g aJ new e' (0,0) hc;have cY:Step (λr=>r=g) w (w.setRow g new):=Step.setRow hc JX;have hP:=h.U1 b;have Rz:(aK (eS b c.O) b).isSome=true:=by rw[jL,hb];rfl
  have hX:∀g,g<w.heap.size->XX E K (eS b c.O) g->XX E K c.O g:=λg _ hg=>XX.sub (λi x hi=>by
   rw[jL]at hi
   cases hy:aK c.O i with
   |none=>rw[hy]at hi;cases hi
   |some y=>exact⟨y,rfl⟩) g hg
  have ajw:∀t,(lk (iq b c.fr) t).has b=false:=by
   intro t;rw[uR]
   split
   .rfl
   .rename_i h';simpa using h'
  have hO:∀i x,aK (eS b c.O) i=some x->i≠b->x.kd=.any->cw b x.aa=false:=by
   intro i x hi _ hk;rw[jL]at hi
   cases hy:aK c.O i with
   |none=>rw[hy]at hi;cases hi
   |some y=>
    rw[hy]at hi;injection hi with hi
    cases Sn:y.kd<;>simp only[Sn]at hi
    .rw[<-hi,Sn]at hk;cases hk
    .rw[<-hi,Sn]at hk;cases hk
    .rw[<-hi];exact pA b y.aa
    .rw[<-hi,Sn]at hk;cases hk
  have Ec:(ae.aa++aa).length=lo+(n+m):=by rw[be,uB,<-Ip];omega
  have hgl:g<w.heap.size:=(bd.1 hc).1;have iF:aG K b=some g:=aU hK;have hXg:XX E K c.O g:=.inl ⟨b,by rw[hb];rfl,iF⟩;have hkp:dv (XX E K c.O) w (w.setRow g new):=cY.ad.mono λr _ hr=>by rw[hr];exact hXg
  have uz:=hP.rebind (ae:={e:=e',sz:=sz,kd:=.flat,aa:=ae.aa++aa}) yw (w':=w.setRow g new) (g:=g) (cY.mono λr _ hr=>⟨Rz,by rw[hr];exact iF⟩) ajw hO (.inr ⟨Rz,iF⟩) (by
   intro row hr
   rcases cE.1 hr with hr|hr
   .exact U0 row hr
   .exact lp row hr) (G0 (cg:=cg) G1 U0 lp (by rw[ny,Ip]) (λj u hj=>by
    have so:=(aE.1 hj).1;rw[nt]at so;obtain⟨y,hy,wJ,pV⟩:=hu j u hj;refine⟨y,?_,wJ,VR.ad pV hkp (λr hr hx=>?_) (λ_ _=>rfl)⟩
    .rw[<-qQ]
     simp only[eD];rw[cM,bM (by rw[aO,gf];omega),bQ,if_pos so];simpa using hy
    .rcases hx with⟨i,hi,hk⟩|hx
     .by_cases e:i=b
      .subst e;rw[iz]at hk;injection hk with hk;subst hk;exact hXg
      .rw[bU _ _ e,ba,if_neg (λe'=>e e'.symm)]at*
       exact hX r (by simpa[World.setRow]using hr) (.inl ⟨i,by assumption,by assumption⟩)
     .exact .inr hx) (λj hj=>by
    rw[uB,<-qQ];simp only[eD];have Tv:min ((lo+n)*sz) aJ.toList.length=(lo+n)*sz:=rS eY;rw[cM,cm (by rw[aO,Tv];omega),aO,Tv,bM (by omega)]
    congr 1;omega) dC (λj u x hu hx=>VR.ad (Sp j u x hu hx) hkp (λr hr hx=>by
     rcases hx with⟨i,hi,hk⟩|hx
     .by_cases e:i=b
      .subst e;rw[iz]at hk;injection hk with hk;subst hk;exact hXg
      .rw[bU _ _ e]at hk
       rw[ba,if_neg (λe'=>e e'.symm)]at hi;exact hX r (by simpa[World.setRow]using hr) (.inl ⟨i,hi,hk⟩)
     .exact .inr hx) (λ_ _=>rfl)))
  refine⟨_,.inl rfl,pU K b (some g,(ae.aa++aa).length),?_⟩;have gx:({ae with aa:=ae.aa++aa}:ak)={e:=e',sz:=sz,kd:=.flat,aa:=ae.aa++aa}:=by
   rw[<-qv,<-H2,<-Gc,<-hbn]
  rw[gx];have Yz:fg E.N ⟨iq b c.fr,di b {e:=e',sz:=sz,kd:=.flat,aa:=ae.aa++aa} (eS b c.O)⟩ o.dst=true:=by
   rw[hd];simp only[fg,aA]at U3⊢;exact⟨U3.1,qV U3.2⟩
  have:=uz.put (dst:=o.dst) (u:=.dq b sz lo (n+m)) (v:=.slice (some ⟨g,lo*sz,none⟩) (n+m) cap) Yz λ_ _=>FV.of (.dq (λ_=>⟨g,_,dF _ _ _,by rw[Ec];omega,rfl⟩) (λ_=>⟨kT,U6,g,lo*sz,new,e',rfl,G1,by rw[JX];exact dL⟩))
  rw[hd]at this⊢;exact this
end Go.an
namespace Go.an.ax
open Go Go.an Go.Proofs
theorem aj.of{ps:List Nat}{c c':aM}(h:c=c'):aj ps c c':=h▸aj.refl _ _
theorem PB{α:Type}{a b a' b':α}(h1:a=a')(h2:b=b'): [a,b]=[a',b']:=by rw[h1,h2]
theorem PC{b e e' sz yJ:Nat}{kd Wf:Kd}{aa gO fF Wg:List (List AV)}(h1:e=e')(h2:sz=yJ)(h3:kd=Wf)(h4:aa=gO)(h5:fF=Wg):(b,(⟨e,sz,kd,aa,fF⟩:ak))=(b,⟨e',yJ,Wf,gO,Wg⟩):=by rw[h1,h2,h3,h4,h5]
abbrev OQ(ls:List Sh)(bs:List Bx)(E:List Wb)(Y:List (List Int)):List (Nat×ak):=
 [(32,⟨119,2,.any,[[SS ls,BS bs]],[]⟩),(208,⟨123,3,.map true true,[],E.map (Yx ls)⟩),(336,⟨30,1,.flat,Y.map λx=>[NS x],[]⟩)]
abbrev OQ2(ls:List Sh)(bs:List Bx)(x:List Int)(p:List Cy)(E:List Wb)(Y:List (List Int)):List (Nat×ak):=
 [(32,⟨119,2,.any,[[SS ls,BS bs]],[]⟩),(112,⟨121,2,.any,[[NS x,YS p]],[]⟩),(208,⟨123,3,.map true true,[],E.map (Yx ls)⟩),(336,⟨30,1,.flat,Y.map λx=>[NS x],[]⟩)]
def oZ(l:List Rw)(u:Int):Nat->List Int
 |0=>[]
 |k+1=>oZ l u k++[((H6 l u k).map (·.unit)).getD 0]
theorem xa(l:List Rw)(u:Int):∀k,(oZ l u k).length=k
 |0=>rfl
 |k+1=>by simp[oZ,xa l u k]
def OP(l:List Int):List (Nat×ak):=match l with
 |[]=>[(80,⟨30,1,.any,[[.ai]],[]⟩)]
 |l=>[(80,⟨30,1,.any,[[.bn 240 1 l.length]],[]⟩),(240,⟨3,1,.pure,l.map λn=>[I n],[]⟩)]
theorem c78(l:List Rw)(hl:l.length<=100000)(u:Int)(n:Nat)(hn:n<=100000)(ke:oy l u n=none)(dB:∀k,k<n->oy l u k≠none):Fn kg 78 [WS l,I u] (fNS (oZ l u n)):=by
 refine adX [] [] rfl ⟨rfl,rfl,rfl,_,c30 l u,rfl,oy l u,s98 l hl u,λi x h=>sC i x h,
  λk O=>k<=n/\O=OP (oZ l u k),λe O=>False,n+1,⟨by omega,rfl⟩,λk O h=>by have:=h.1;omega,?_,?_,?_⟩
 .rintro k x O hx ⟨hk,rfl⟩
  obtain⟨r,hr,rfl⟩:=yW hx;have aC:k<n:=by
   rcases eJ k n with h|h
   .exact h
   .have:k=n:=by omega
    subst this;rw[hx]at ke;cases ke
  have cz:=xa l u k;have he:oZ l u (k+1)=oZ l u k++[r.unit]:=by simp[oZ,hr]
  cases hp:oZ l u k with
  |nil=>
   refine⟨rfl,⟨by decide,by decide⟩,true,Mn [r.unit],?_⟩;exact⟨_,aj.ad [0,1,4,5,9] [80,240],by omega,by rw[he,hp];rfl⟩
  |cons y ys=>
   rw[hp]at cz;simp only[bB]at cz;refine⟨rfl,⟨by show(ys.length+1+1)*8<=140737488355328;omega,by show ys.length+1+1<=_;omega⟩,Mn [r.unit],?_⟩;refine⟨_,aj.ad [0,1,4,5,9] [80,240],by omega,by
    rw[he,hp];exact PB (PC rfl rfl rfl (show[[AV.bn 240 1 ((y::ys).length+1)]]=[[AV.bn 240 1 (y::(ys++[r.unit])).length]]by simp) rfl) (PC rfl rfl rfl (show((y::ys).map λn=>[I n]).take (y::ys).length++[[I r.unit]]=(y::(ys++[r.unit])).map λn=>[I n]by rw[ph (by simp)];simp) rfl)⟩
 .rintro k O hx ⟨hk,rfl⟩
  have:k=n:=by
   rcases eJ k n with h|h
   .exact absurd hx (dB k h)
   .omega
  subst this
  cases hp:oZ l u k with
  |nil=>exact⟨rfl,_,aj.refl _ _,rfl,.inr ⟨_,_,_,rfl⟩⟩
  |cons y ys=>exact⟨rfl,_,aj.refl _ _,rfl,⟨_,rfl,rfl,by simp,.inl ⟨rfl,rfl⟩⟩⟩
 .rintro e O dW h
  exact h.elim
abbrev Zs(k:Nat):AV:=.aL k 0 []
structure Us where
 yr:Int
 bs:List Bx
 ls:List Sh
 ms:List Mv
 qs:List dE
 bV:Int
 ks:List Bk
 ch:Int
abbrev aF(u:Us):List AV:=[Zs 5,Zs 6,Zs 6,I u.yr,Zs 6,Zs 6,BS u.bs,SS u.ls,MS u.ms,QS u.qs,I u.bV,KS u.ks,Zs 8,Zs 2,Zs 3,I u.ch]
structure jl(ms:List Mv):Prop where
 rd:(fV ms).2=0
 dy:∀m∈ms,m.aR<=1048575
 ln:ms.length<=1024
abbrev Tw(p:Int×Int):AV:=.agg [I p.1,I p.2]
theorem YA(ms:List Mv)(hm:jl ms)(n:Int)(hn:cj n=true):Fn kg 18 [MS ms,I n,I 1048575] (.bY [Tw (bT ms n),I 0]):=by
 have h:=c18 ms n 1048575 (by have:=hm.ln;omega) (λ_=>hm.dy);have e:pL ms n 1048575=(bT ms n,0):=by
  unfold pL;rw[if_neg (by rw[hm.rd];simp),if_neg (by simp[hn];rfl)]
 rw[e]at h;exact h
theorem sP(u:Us)(hm:jl u.ms)(n:Int)(hn:cj n=true):Fn kg 107 [.agg (aF u),I n] (Tw (bT u.ms n)):=
 aH Kp ⟨_,YA u.ms hm n hn,rfl,rfl,rfl⟩
theorem YB(s:Bx)(n:Int):Fn kg 149 [.agg (bj s),.aw [I n] 0] (B (s.id==n)):=aH ab9 ⟨rfl,rfl,rfl⟩
theorem YC(s:Sh)(n:Int):Fn kg 147 [.agg (eN s),.aw [I n] 0] (B (s.id==n)):=aH ab8 ⟨rfl,rfl,rfl⟩
theorem G2(u:Us)(hl:u.bs.length<=100000)(n:Int):Fn kg 106 [.agg (aF u),I n] (I (BQ u.bs n)):=
 aH O8 ⟨_,GX u.bs (by omega) _ 149 [I n] (λa _=>YB a n),rfl,rfl,rfl⟩
theorem G3(u:Us)(hl:u.ls.length<=100000)(n:Int):Fn kg 103 [.agg (aF u),I n] (I (nO u.ls n)):=
 aH O7 ⟨_,KD u.ls (by omega) _ 147 [I n] (λa _=>YC a n),rfl,rfl,rfl⟩
theorem once{W:aM->Prop}{F:(Nat->aM->Prop)->Nat->aM->Prop}(c:aM)(hW:W c)(h:F (λn c'=>n=0/\c'=c) 0 c):∃I:Nat->aM->Prop,(∃n c',W c'/\I n c')/\∀n c',I n c'->F I n c':=
 ⟨λn c'=>n=0/\c'=c,⟨0,c,hW,rfl,rfl⟩,λn c' h'=>by obtain⟨rfl,rfl⟩:=h';exact h⟩
theorem c91:Fn kg 91 [Zs 6] (I 0):=by
 refine aH abw ⟨λh=>absurd h (by decide),λ_=>?_⟩
 (refine once _ (Wk.refl _) ⟨λh=>absurd h (by decide),λ_=>?_⟩)
 exact⟨rfl,rfl,rfl⟩
theorem YD:Fn kg 92 [Zs 6] (I 0):=by
 refine aH abx ⟨λh=>absurd h (by decide),λ_=>?_⟩
 (refine once _ (Wk.refl _) ⟨λh=>absurd h (by decide),λ_=>?_⟩)
 exact⟨rfl,rfl,rfl⟩
theorem c93:Fn kg 93 [Zs 6] (I 0):=by
 refine aH aby ⟨λh=>absurd h (by decide),λ_=>?_⟩
 (refine once _ (Wk.refl _) ⟨λh=>absurd h (by decide),λ_=>?_⟩)
 exact⟨rfl,rfl,rfl⟩
theorem c94:Fn kg 94 [Zs 6] (I 0):=by
 refine aH abz ⟨λh=>absurd h (by decide),λ_=>?_⟩
 (refine once _ (Wk.refl _) ⟨λh=>absurd h (by decide),λ_=>?_⟩)
 exact⟨rfl,rfl,rfl⟩
abbrev pM(yr:Int):List AV:=[Zs 5,Zs 6,Zs 6,I yr,Zs 6,Zs 6]
theorem c95(yr:Int):Fn kg 95 [.agg (pM yr)] (I 0):=by
 refine aH abA ⟨λh=>absurd h (by decide),λ_=>?_⟩
 (refine once _ (Wk.refl _) ⟨λh=>absurd h (by decide),λ_=>?_⟩)
 exact⟨rfl,rfl,rfl⟩
theorem Wh(yr:Int)(h0:0<=yr)(h1:yr<=200):Fn kg 51 [.agg (pM yr)] (I 0):=by
 refine aH abt ⟨_,c91,_,YD,_,c93,_,c94,?_⟩;refine⟨λn c=>∃i:Nat,i<=4/\n=4-i/\c=⟨[(1,.af 16 0),(2,I 0),(17,.bn 272 1 4),(18,I 4),(19,I i)],[(16,⟨40,6,.any,[pM yr],[]⟩),(272,⟨54,1,.pure,[[I 0],[I 0],[I 0],[I 0]],[]⟩)]⟩,⟨_,_,Wk.ad [1,2,17,18,19] [16,272],0,by omega,rfl,rfl⟩,?_⟩;rintro n c ⟨i,hi,rfl,rfl⟩;refine⟨λaC=>?_,λaC=>?_⟩
 .simp at aC
  have hr: [[I 0],[I 0],[I 0],[I 0]][i]?=some [I 0]:=by
   match i,aC with
   |0,_=>rfl
   |1,_=>rfl
   |2,_=>rfl
   |3,_=>rfl
  refine⟨by omega,[I 0],by simpa using hr,λh=>(by cases h),λ_=>?_⟩;refine⟨_,ah,?_⟩;exact⟨_,_,Wk.ad [1,2,17,18,19] [16,272],by omega,i+1,by omega,rfl,rfl⟩
 .refine⟨[(3,false)],by simp;omega,λh=>?_,λ_=>?_⟩
  .simp at h;omega
  .exact⟨_,c95 yr,rfl,rfl,rfl⟩
theorem c98:Fn kg 98 [QS []] (I 0):=by
 refine aH abB ⟨λh=>absurd h (by decide),λ_=>?_⟩
 (refine once _ (Wk.refl _) ⟨λh=>absurd h (by decide),λ_=>?_⟩)
 exact⟨rfl,rfl,rfl⟩
theorem c99(n:Int)(h1:1<=n)(h2:n<=32):Fn kg 99 [I n,KS []] (I 0):=by
 refine aH abC ⟨[(2,false)],by simp;omega,by simp;omega,λ_=>⟨λh=>absurd h (by decide),λ_=>?_⟩⟩
 (refine once _ (Wk.refl _) ⟨λh=>absurd h (by decide),λ_=>?_⟩)
 exact⟨rfl,rfl,rfl⟩
end Go.an.ax
