import Derived.Test.YtpfmbblnhjpclaaGreatDoorJ30
import Derived.Test.YtpfmbblnhjpclaaGreatDoorJ26
import Derived.Test.YtpfmbblnhjpclaaGreatDoorJ18
import Derived.Test.YtpfmbblnhjpclaaGreatDoorJ22
set_option linter.unusedVariables false
set_option linter.unusedSimpArgs false
set_option maxRecDepth 20000
namespace Go.an.ax.Aw
open Go Go.an Go.Proofs Go.RowKit
theorem aeY(n:Int):Fn kg 202 [I n] (B (cj n)):=aH acs ⟨[],rfl,rfl,rfl⟩
def tv(a b:Int):Bool:=decide (a>=0)&&decide (a<b)&&decide (b<=1048576)
theorem Zz(a b:Int):Fn kg 203 [.agg [I a,I b]] (B (tv a b)):=aH acu ⟨[],rfl,rfl,rfl⟩
theorem akH(l:List Int)(hl:l.length<=9223372036854775807)(p:Int->Bool)(g:FuncId)(xs ys:List AV)(hp:∀a∈l,Fn kg g [I a,.aw xs 0,.aw ys 0] (B (p a))):Fn kg 31 [NS l,.func g [.aw xs 0,.aw ys 0]] (I (aQ p 0 l)):=by
 refine aH Tb ?_;refine⟨λn c=>∃i:Nat,i<=l.length/\n=l.length-i/\c=⟨[(0,NS l),(1,.func g [.aw xs 0,.aw ys 0]),(4,I 0),(7,I l.length),(8,I i)],[]⟩/\aQ p i (l.drop i)=aQ p 0 l,⟨_,_,Wk.ad [0,1,4,7,8] [],0,by omega,rfl,rfl,by simp⟩,?_⟩;rintro n c ⟨i,hi,rfl,rfl,hI⟩;refine⟨λh=>?_,λh=>?_⟩
 .simp at h
  obtain⟨a,ha,hd,_⟩:=aq h;rw[hd,aQ]at hI;refine⟨by omega,[I a],by simp[ha],_,hp a (ay ha),λhf=>?_,λhf=>?_⟩
  .rw[if_pos hf]at hI
   exact⟨rfl,rfl,by rw[<-hI];rfl⟩
  .rw[if_neg (by simp[hf])]at hI
   refine⟨_,ah,?_⟩;exact⟨_,_,Wk.ad [0,1,4,7,8] [],by omega,i+1,by omega,rfl,rfl,hI⟩
 .simp at h
  have:i=l.length:=by omega
  subst this;simp[aQ]at hI;exact⟨rfl,rfl,by rw[<-hI];rfl⟩
theorem akI(l:List Int)(hl:l.length<=9223372036854775807)(p:Int->Bool)(g:FuncId)(xs ys:List AV)(hp:∀a∈l,Fn kg g [I a,.aw xs 0,.aw ys 0] (B (p a))):Fn kg 11 [NS l,.func g [.aw xs 0,.aw ys 0]] (B (l.any p)):=
 aH S9 ⟨_,akH l hl p g xs ys hp,rfl,rfl,by rw[<-fj];rfl⟩
theorem Qt(l:List Bk)(hl:l.length<=9223372036854775807)(p:Bk->Bool)(g:FuncId)(xs ys:List AV)(hp:∀a∈l,Fn kg g [.agg (ib a),.aw xs 0,.aw ys 0] (B (p a))):Fn kg 244 [KS l,.func g [.aw xs 0,.aw ys 0]] (B (l.any p)):=
 aH acK ⟨_,ad6 l hl p g xs ys hp,rfl,rfl,by rw[<-fj];rfl⟩
def Ny(s:Nat):Nat->Nat->Nat->List Int->Nat×List Int
 |0,_,w,C=>(w,C)
 |m+1,k,w,C=>if C.getD (s+k) 0=C.getD (s+k-1) 0 then Ny s m (k+1) w C else Ny s m (k+1) (w+1) (C.set w (C.getD (s+k) 0))
def ZA(l:List Int):Nat->Nat->Option Nat
 |0,_=>none
 |m+1,s=>if l.getD s 0=l.getD (s-1) 0 then some s else ZA l m (s+1)
def rG(l:List Int):List Int:=if l.length<2 then l else match ZA l (l.length-1) 1 with
 |none=>l
 |some s=>(Ny s (l.length-s-1) 1 s l).2.take (Ny s (l.length-s-1) 1 s l).1
theorem Fb(s:Nat):∀(m k w:Nat)(C:List Int),(Ny s m k w C).2.length=C.length
 |0,_,_,_=>rfl
 |m+1,k,w,C=>by
  rw[Ny]
  split
  .exact Fb s m _ _ _
  .rw[Fb s m];simp
theorem MH(l:List Int):(rG l).length<=l.length:=by
 unfold rG
 split
 .exact bG _
 .split
  .exact bG _
  .rw[aO,Fb];omega
abbrev rI(l:List Int):List (List AV):=l.map λn=>[I n]
theorem xm{l:List Int}{j:Nat}(h:j<l.length):(rI l)[j]?=some [I (l.getD j 0)]:=by
 rw[aS,aW h,lJ,aW h];rfl
theorem akJ(l:List Int)(hl:l.length<=100000):FnM kg 325 3 1 (rI l) [] (.dh true 3 1 (rG l).length (rI (rG l))):=by
 refine IN (N:=61) (ks:=[0,2,3,4,5,8,13,25,32,44]) 2 cC bZ mixed Tryz.func325 rfl (by kernel_rfl) (by kernel_rfl) rfl rfl rfl ?_;rw[gB];refine⟨λh=>?_,λh=>?_⟩
 .have h:l.length<2:=by simp at h;omega
  have e:rG l=l:=by unfold rG;rw[if_pos h]
  refine⟨_,rfl,rfl,by simp,rfl,?_⟩;rw[e]
  show AV.dh true 3 1 l.length (rI l)=AV.dh true 3 1 l.length ((rI l).take l.length)
  rw[ph (by simp)]
 .have h:¬l.length<2:=by simp at h;omega
  have hC:rG l=match ZA l (l.length-1) 1 with
   |none=>l
   |some s=>(Ny s (l.length-s-1) 1 s l).2.take (Ny s (l.length-s-1) 1 s l).1:=by conv=>lhs;unfold rG;rw[if_neg h]
  refine⟨λm c=>∃s:Nat,1<=s/\s<=l.length/\m=l.length-s/\ZA l (l.length-s) s=ZA l (l.length-1) 1/\c=⟨[(0,.bn 1 1 l.length),(2,.ai),(3,I s)],[(1,⟨3,1,.pure,rI l,[]⟩)]⟩,⟨_,_,Wk.ad [0,2,3] [1],1,by omega,by omega,rfl,rfl,rfl⟩,?_⟩;rintro m c ⟨s,lS,pW,rfl,hI,rfl⟩;refine⟨λaC=>?_,λaC=>?_⟩
  .simp at aC
   obtain⟨q,hq⟩:∃q,l.length-s=q+1:=⟨l.length-s-1,by omega⟩;rw[hq,ZA]at hI;refine⟨by omega,[I (l.getD s 0)],xm aC,_,au (y:=((s-1:Nat):Int)) (by omega),by omega,[I (l.getD (s-1) 0)],xm (by omega),λhe=>?_,λhe=>?_⟩
   .have he:l.getD s 0=l.getD (s-1) 0:=by simpa using he
    rw[if_pos he]at hI;rw[<-hI]at hC;simp only at hC;refine⟨by omega,?_⟩;refine⟨λm c=>∃(k w:Nat)(C:List Int),1<=k/\k<=l.length-s/\w+1<=s+k/\C.length=l.length/\m=l.length-s-k/\Ny s (l.length-s-k) k w C=Ny s (l.length-s-1) 1 s l/\c=⟨[(0,.bn 1 1 l.length),(2,.ai),(3,I w),(4,.dq 1 1 s (l.length-s)),(5,I k)],[(1,⟨3,1,.pure,rI C,[]⟩)]⟩,⟨_,_,Wk.ad [0,2,3,4,5] [1],1,s,l,by omega,by omega,by omega,rfl,rfl,rfl,rfl⟩,?_⟩;rintro m c ⟨k,w,C,N8,SN,hw,hCl,rfl,hR,rfl⟩;refine⟨λl9=>?_,λl9=>?_⟩
    .have l9:k<l.length-s:=by simpa using l9
     obtain⟨q2,hq2⟩:∃q,l.length-s-k=q+1:=⟨l.length-s-k-1,by omega⟩;rw[hq2,Ny]at hR;refine⟨by omega,[I (C.getD (s+k) 0)],xm (by omega),_,au (y:=((k-1:Nat):Int)) (by omega),by omega,[I (C.getD (s+(k-1)) 0)],xm (by omega),λdW=>?_,λdW=>?_⟩
     .have dW:¬C.getD (s+k) 0=C.getD (s+k-1) 0:=by
       have:C.getD (s+k) 0≠C.getD (s+(k-1)) 0:=by simpa using dW
       rwa[show s+(k-1)=s+k-1 by omega]at this
      rw[if_neg dW]at hR;refine⟨by omega,[I (C.getD (s+k) 0)],xm (by omega),by omega,[I (C.getD w 0)],xm (by omega),_,au (y:=((w+1:Nat):Int)) (by omega),_,au (y:=((k+1:Nat):Int)) (by omega),?_⟩;refine⟨_,_,Wk.ad [0,2,3,4,5] [1],by omega,k+1,w+1,C.set w (C.getD (s+k) 0),by omega,by omega,by omega,by simpa using hCl,rfl,by rw[<-hR];congr 1;omega,?_⟩;rw[show rI (C.set w (C.getD (s+k) 0))=(rI C).set w [I (C.getD (s+k) 0)]from by rw[rI,oC]];rfl
     .have dW:C.getD (s+k) 0=C.getD (s+k-1) 0:=by
       have:C.getD (s+k) 0=C.getD (s+(k-1)) 0:=by simpa using dW
       rwa[show s+(k-1)=s+k-1 by omega]at this
      rw[if_pos dW]at hR;refine⟨_,au (y:=((k+1:Nat):Int)) (by omega),?_⟩;exact⟨_,_,Wk.ad [0,2,3,4,5] [1],by omega,k+1,w,C,by omega,by omega,by omega,hCl,rfl,by rw[<-hR];congr 1;omega,rfl⟩
    .have l9:¬k<l.length-s:=by simpa using l9
     have hk:l.length-s-k=0:=by omega
     rw[hk,Ny]at hR;rw[<-hR]at hC;simp only at hC;refine⟨by omega,?_,by omega,?_⟩
     .show w+(l.length-w)<=(rI C).length
      simp;omega
     .refine⟨_,rfl,rfl,?_,rfl,?_⟩
      .show w<=((rI C).take w++List.replicate _ _++List.drop _ _).length
       simp;omega
      .rw[hC]
       show AV.dh true 3 1 (C.take w).length (rI (C.take w))=AV.dh true 3 1 w (((rI C).take w++List.replicate _ _++List.drop _ _).take w)
       rw[cM,rT (by simp;omega),rI,zz,aO,rS (by omega)]
   .have he:¬l.getD s 0=l.getD (s-1) 0:=by simpa using he
    rw[if_neg he]at hI;refine⟨_,au (y:=((s+1:Nat):Int)) (by omega),?_⟩;exact⟨_,_,Wk.ad [0,2,3] [1],by omega,s+1,by omega,by omega,rfl,by rw[<-hI];congr 1;omega,rfl⟩
  .have aC:¬s<l.length:=by simpa using aC
   have hs:l.length-s=0:=by omega
   rw[hs,ZA]at hI;rw[<-hI]at hC;simp only at hC;refine⟨_,rfl,rfl,by simp,rfl,?_⟩;rw[hC]
   show AV.dh true 3 1 l.length (rI l)=AV.dh true 3 1 l.length ((rI l).take l.length)
   rw[ph (by simp)]
def sR(l:List Int):List Int:=l.mergeSort λx y=>decide (x<=y)
theorem aeZ(zs:List Int)(hl:zs.length<=100000)(b:Nat):FnS kg 215 [.bn b 1 zs.length] [(b,⟨3,1,.pure,rI zs,[]⟩)] [(b,⟨3,1,.pure,rI (sR zs),[]⟩)] (.bY []):=
 KJ ⟨_,Tryz.func215,rfl,rfl⟩ zs (sR zs) (by simp[sR]) b [] rfl
  (λh p cap w vs hv _=>by
   have:vs=#[]:=yG (by simpa using hv.symm);subst this;rw[Array.append_empty];exact Any.slices_Sort_int_none Tryz.Hv p cap w)
  (λw g cap vs _ hv _ hH hg=>by
   have:vs=#[]:=yG (by simpa using hv.symm);subst this;rw[Array.append_empty];exact Any.slices_Sort_int Tryz.Hv g 0 cap zs w hH hg (by omega))
def stC(a b:Int)(k:Bk):Bool:=tv k.jW k.mK&&decide (k.jW>a)&&decide (k.jW<b)
def Nz(l:List Bk)(a b:Int)(i:Nat):List Int:=a::((l.take i).filter (stC a b)).map (·.jW)
def Uk(l:List Bk)(a b:Int):List Int:=rG (sR (Nz l a b l.length))
theorem K5(l:List Bk)(a b:Int)(i:Nat):(Nz l a b i).length<=l.length+1:=by
 have:=zx (stC a b) (l.take i);rw[aO]at this;simp only[Nz,bB,gB];omega
theorem Ul(l:List Bk)(a b:Int):(Uk l a b).length<=l.length+1:=by
 have h1:=MH (sR (Nz l a b l.length));have h2:=K5 l a b l.length;have h3:(sR (Nz l a b l.length)).length=(Nz l a b l.length).length:=by simp[sR]
 unfold Uk;omega
theorem akK(l:List Bk)(hl:l.length<=90000)(a b:Int):Fn kg 277 [KS l,.agg [I a,I b]] (.dh true 3 1 (Uk l a b).length (rI (Uk l a b))):=by
 refine aH acX ⟨λm c=>∃(i:Nat)(bX:List Int),i<=l.length/\m=l.length-i/\bX=Nz l a b i/\c=⟨[(3,.af 48 0),(4,.ai),(5,.bn 160 1 bX.length),(11,KS l),(12,I l.length),(13,I i)],[(48,⟨137,2,.any,[[I a,I b]],[]⟩),(160,⟨3,1,.pure,rI bX,[]⟩)]⟩,⟨_,_,Wk.ad [3,4,5,11,12,13] [48,160],0,[a],by omega,rfl,rfl,rfl⟩,?_⟩;rintro m c ⟨i,bX,hi,rfl,ha,rfl⟩;have xM:bX.length<=l.length+1:=by rw[ha];exact K5 l a b i
 refine⟨λaC=>?_,λaC=>?_⟩
 .simp at aC
  obtain⟨k,hk,hd,ht⟩:=aq aC;refine⟨by omega,ib k,by simp[hk],[],_,Zz k.jW k.mK,λhc=>?_,λhc=>?_⟩
  .have hc:stC a b k=true:=hc
   have hn:Nz l a b (i+1)=bX++[k.jW]:=by rw[ha];simp only[Nz,ht,gG,qB,bP hc];rfl
   refine⟨⟨by show(bX.length+1)*8<=140737488355328;omega,by omega⟩,Mn [k.jW],_,ah,?_⟩;refine⟨_,_,Wk.ad [3,4,5,11,12,13] [48,160],by omega,i+1,bX++[k.jW],by omega,rfl,hn.symm,?_⟩;have h1:(bX++[k.jW]).length=bX.length+1:=by simp
   have h3:rI (bX++[k.jW])=(rI bX).take bX.length++[[I k.jW]]:=by rw[ph (by simp)];simp[rI]
   rw[h1,h3];rfl
  .have hc:stC a b k=false:=hc
   have hn:Nz l a b (i+1)=bX:=by rw[ha];simp only[Nz,ht,gG,qB,ct (by rw[hc];simp:¬stC a b k=true)];simp
   refine⟨_,ah,?_⟩;exact⟨_,_,Wk.ad [3,4,5,11,12,13] [48,160],by omega,i+1,bX,by omega,rfl,hn.symm,rfl⟩
 .simp at aC
  have:i=l.length:=by omega
  subst this;have hs:Uk l a b=rG (sR bX):=by rw[ha];rfl
  rw[hs];have pW:bX.length=(sR bX).length:=by simp[sR]
  have akL:=akJ (sR bX) (by omega);exact⟨_,_,aeZ bX (by omega) 160,by simp[sR],_,akL,rfl,_,rfl,rfl,by simp,.inl ⟨rfl,by simp⟩⟩
def ldC(d:Int)(k:Bk):Bool:=tv k.jW k.mK&&decide (k.jW<=d)&&decide (d<k.mK)
def yh(l:List Bk)(d:Int):Nat:=(l.filter (ldC d)).length
theorem akM(l:List Bk)(hl:l.length<=90000)(d:Int):Fn kg 279 [KS l,I d] (I (yh l d)):=by
 refine aH acZ ⟨λm c=>∃i n:Nat,i<=l.length/\m=l.length-i/\n=yh (l.take i) d/\n<=i/\c=⟨[(1,I d),(4,I 0),(5,I n),(8,KS l),(9,I l.length),(10,I i)],[]⟩,⟨_,_,Wk.ad [1,4,5,8,9,10] [],0,0,by omega,rfl,rfl,by omega,rfl⟩,?_⟩;rintro m c ⟨i,n,hi,rfl,hn,hni,rfl⟩;refine⟨λaC=>?_,λaC=>?_⟩
 .simp at aC
  obtain⟨k,hk,hd,ht⟩:=aq aC;have vW:yh (l.take (i+1)) d=n+if ldC d k=true then 1 else 0:=by
   rw[hn,yh,ht,gG,be]
   congr 1
   by_cases h:ldC d k=true<;>simp[h]
  refine⟨by omega,ib k,by simp[hk],[],_,Zz k.jW k.mK,λhc=>?_,λhc=>?_⟩
  .have hc:ldC d k=true:=hc
   rw[if_pos hc]at vW;refine⟨_,au (y:=((n+1:Nat):Int)) (by omega),_,au (y:=((i+1:Nat):Int)) (by omega),?_⟩;exact⟨_,_,Wk.ad [1,4,5,8,9,10] [],by omega,i+1,n+1,by omega,rfl,vW.symm,by omega,rfl⟩
  .have hc:ldC d k=false:=hc
   rw[if_neg (by simp[hc])]at vW;refine⟨_,au (y:=((i+1:Nat):Int)) (by omega),?_⟩;exact⟨_,_,Wk.ad [1,4,5,8,9,10] [],by omega,i+1,n,by omega,rfl,by omega,by omega,rfl⟩
 .simp at aC
  have:i=l.length:=by omega
  subst this;rw[oB]at hn;subst hn;exact⟨rfl,rfl,rfl⟩
theorem akN(l:List Bk)(hl:l.length<=90000)(d s:Int):Fn kg 278 [I d,.aw [KS l] 0,.aw [I s] 0] (B (decide ((yh l d:Int)>=s))):=aH acY ⟨_,akM l hl d,rfl,rfl,rfl⟩
def Hw(l:List Bk)(a b s:Int):Bool:=(Uk l a b).any λd=>decide ((yh l d:Int)>=s)
theorem ae0(l:List Bk)(hl:l.length<=90000)(a b s:Int):Fn kg 205 [KS l,.agg [I a,I b],I s] (B (Hw l a b s)):=
 aH acw ⟨_,akK l hl a b,true,_,akI (Uk l a b) (by have:=Ul l a b;omega) (λd=>decide ((yh l d:Int)>=s)) 278 [KS l] [I s] (λd _=>akN l hl d s),rfl,rfl,rfl⟩
theorem akO(a b c d:Int):Fn kg 276 [.agg [I a,I b],.agg [I c,I d]] (B (decide (a<d)&&decide (c<b))):=aH acW ⟨[],rfl,rfl,rfl⟩
def Hy(rd a b:Int)(k:Bk):Bool:=(k.rd==rd)&&(decide (k.jW<b)&&decide (a<k.mK))
theorem akP(k:Bk)(rd a b:Int):Fn kg 275 [.agg (ib k),.aw [I rd] 0,.aw [I a,I b] 0] (B (Hy rd a b k)):=aH acV ⟨[],_,akO k.jW k.mK a b,rfl,rfl,rfl⟩
theorem ae1(l:List Bk)(hl:l.length<=90000)(rd a b:Int):Fn kg 204 [KS l,I rd,.agg [I a,I b]] (B (l.any (Hy rd a b))):=
 aH acv ⟨_,Qt l (by omega) (Hy rd a b) 275 [I rd] [I a,I b] (λk _=>akP k rd a b),rfl,rfl,rfl⟩
def DE(l:List Bk)(b:Bk):Bool:=match l.getLast? with|some p=>decide (b.id<=p.id)|none=>false
def RP(s:Int)(l:List Bk)(b:Bk):Int:=if(cj b.id&&cj b.rd&&tv b.jW b.mK)=false then 2 else if DE l b=true then 5 else if l.any (Hy b.rd b.jW b.mK)=true then 6 else if Hw l b.jW b.mK s=true then 12 else 0
theorem ZB(s:Int)(l:List Bk)(hl:l.length<=90000)(b:Bk):Fn kg 139 [I s,KS l,.agg (ib b)] (I (RP s l b)):=by
 refine aH ab2 ⟨[],_,aeY b.id,_,aeY b.rd,_,Zz b.jW b.mK,λh=>?_,λh=>?_⟩
 .have h:(!cj b.id|| !cj b.rd|| !tv b.jW b.mK)=true:=h
  unfold RP;rw[if_pos (by revert h;cases cj b.id<;>cases cj b.rd<;>cases tv b.jW b.mK<;>simp)];exact⟨rfl,rfl,rfl⟩
 .have h:(!cj b.id|| !cj b.rd|| !tv b.jW b.mK)=false:=h
  have hE:RP s l b=if DE l b=true then 5 else if l.any (Hy b.rd b.jW b.mK)=true then 6 else if Hw l b.jW b.mK s=true then 12 else 0:=by
   unfold RP;rw[if_neg (by revert h;cases cj b.id<;>cases cj b.rd<;>cases tv b.jW b.mK<;>simp)]
  rw[hE]
  by_cases h0:l.length=0
  .have Wz:DE l b=false:=by have:l=[]:=oD.1 h0;subst this;rfl
   rw[Wz,if_neg (by simp)];refine⟨[(3,false)],by simp[h0],λh=>(by cases h),λ_=>⟨_,ae1 l hl b.rd b.jW b.mK,λh=>?_,λh=>⟨_,ae0 l hl b.jW b.mK s,λh'=>?_,λh'=>?_⟩⟩⟩
   .rw[if_pos h];exact⟨rfl,rfl,rfl⟩
   .rw[if_neg (by simpa using h),if_pos h'];exact⟨rfl,rfl,rfl⟩
   .rw[if_neg (by simpa using h),if_neg (by simpa using h')];exact⟨rfl,rfl,rfl⟩
  .obtain⟨q,hq⟩:∃q,l[l.length-1]?=some q:=⟨_,aW (by omega)⟩
   have Wz:DE l b=decide (b.id<=q.id):=by rw[DE,uJ,hq]
   rw[Wz];refine⟨[(3,true)],by simp;omega,_,au (y:=((l.length-1:Nat):Int)) (by omega),by omega,ib q,by simp[hq],λh=>?_,λhn=>⟨_,ae1 l hl b.rd b.jW b.mK,λh=>?_,λh=>⟨_,ae0 l hl b.jW b.mK s,λh'=>?_,λh'=>?_⟩⟩⟩
   .rw[if_pos (show decide (b.id<=q.id)=true from by simpa using h)];exact⟨rfl,rfl,rfl⟩
   .rw[if_neg (show¬decide (b.id<=q.id)=true from by simpa using hn),if_pos h];exact⟨rfl,rfl,rfl⟩
   .rw[if_neg (show¬decide (b.id<=q.id)=true from by simpa using hn),if_neg (by simpa using h),if_pos h'];exact⟨rfl,rfl,rfl⟩
   .rw[if_neg (show¬decide (b.id<=q.id)=true from by simpa using hn),if_neg (by simpa using h),if_neg (by simpa using h')];exact⟨rfl,rfl,rfl⟩
def Jr(s:Int)(L:List Bk):Nat->List Bk->Int
 |_,[]=>0
 |i,b::r=>if RP s (L.take i) b≠0 then RP s (L.take i) b else Jr s L (i+1) r
def MI(s:Int)(l:List Bk):Int:=if s<1∨32<s then 1 else if 1024<l.length then 8 else Jr s l 0 l
theorem c99(s:Int)(l:List Bk)(hl:l.length<=90000):Fn kg 99 [I s,KS l] (I (MI s l)):=by
 refine aH abC ⟨[],λh=>?_,λh=>?_⟩
 .unfold MI;rw[if_pos (by simpa using h)];exact⟨rfl,rfl,rfl⟩
 .have e1:MI s l=if 1024<l.length then 8 else Jr s l 0 l:=by unfold MI;rw[if_neg (by simp at h;omega)]
  rw[e1];refine⟨λh2=>?_,λh2=>?_⟩
  .rw[if_pos (by have:=aP h2;omega)];exact⟨rfl,rfl,rfl⟩
  .rw[if_neg (by have:=j0 h2;omega)]
   refine⟨λm c=>∃i:Nat,i<=l.length/\m=l.length-i/\Jr s l i (l.drop i)=Jr s l 0 l/\c=⟨[(0,I s),(1,KS l),(4,I 0),(19,KS l),(20,I l.length),(21,I i)],[]⟩,⟨_,_,Wk.ad [0,1,4,19,20,21] [],0,by omega,rfl,rfl,rfl⟩,?_⟩;rintro m c ⟨i,hi,rfl,hI,rfl⟩;refine⟨λaC=>?_,λaC=>?_⟩
   .simp at aC
    obtain⟨b,hb,hd,_⟩:=aq aC;rw[hd,Jr]at hI;have a139:=ZB s (l.take i) (by simp;omega) b;have e2:KS (l.take i)=.aL 4 i ((l.map ib).take i):=by rw[KS,aO,rS (by omega),zz]
    rw[e2]at a139;refine⟨by omega,ib b,by simp[hb],by omega,_,a139,λh3=>?_,λh3=>?_⟩
    .rw[if_pos (by simpa using h3)]at hI
     rw[<-hI];exact⟨rfl,rfl,rfl⟩
    .rw[if_neg (by simpa using h3)]at hI
     refine⟨_,ah,?_⟩;exact⟨_,_,Wk.ad [0,1,4,19,20,21] [],by omega,i+1,by omega,rfl,hI,rfl⟩
   .simp at aC
    have:i=l.length:=by omega
    subst this;rw[j4,Jr]at hI;rw[<-hI];exact⟨rfl,rfl,rfl⟩
theorem akQ(s:Int)(l:List Bk)(hl:l.length<=90000)(b:Bk):∃er,Fn kg 248 [I s,KS l,.agg (ib b)] (.bY [if er=0 then .dh true 162 4 (l.length+1) ((l++[b]).map ib)else .ai,I er]):=by
 have RQ:=c99 s l hl;have a139:=ZB s l hl b
 by_cases h1:MI s l=0
 .rw[h1]at RQ
  by_cases h2:(l.length:Int)>=1024
  .refine⟨8,?_⟩
   rw[if_neg (by decide)];refine aH GU ⟨_,RQ,λh=>(by cases h),λ_=>⟨λ_=>?_,λh=>absurd h (by simp;omega)⟩⟩;exact⟨_,_,rfl,.inl rfl,rfl,rfl,trivial⟩
  .by_cases h3:RP s l b=0
   .rw[h3]at a139
    have a70:=Ym (l.map ib) (by simp;omega) (To l);rw[gB]at a70;have hA:(l.map ib).take l.length++[ib b]=(l++[b]).map ib:=by simp[ph]
    refine⟨0,?_⟩;rw[if_pos rfl];refine aH GU ⟨_,RQ,λh=>(by cases h),λ_=>⟨λh=>absurd h (by simp;omega),λ_=>⟨_,a139,λh=>(by cases h),λ_=>⟨_,a70,false,⟨?_,?_⟩,?_⟩⟩⟩⟩
    .show(l.length+1)*32<=_
     omega
    .show l.length+1<=_
     omega
    .exact⟨_,_,rfl,⟨_,rfl,rfl,(by simp;rfl),.inl ⟨rfl,gQ (AV.dh true 162 4 (l.length+1)) hA.symm⟩⟩,rfl,rfl,trivial⟩
   .refine⟨RP s l b,?_⟩
    rw[if_neg h3];refine aH GU ⟨_,RQ,λh=>(by cases h),λ_=>⟨λh=>absurd h (by simp;omega),λ_=>⟨_,a139,λ_=>?_,λh=>absurd h (by simp[h3])⟩⟩⟩;exact⟨_,_,rfl,.inl rfl,rfl,rfl,trivial⟩
 .refine⟨1,?_⟩
  rw[if_neg (by decide)];refine aH GU ⟨_,RQ,λ_=>?_,λh=>absurd h (by simp[h1])⟩;exact⟨_,_,rfl,.inl rfl,rfl,rfl,trivial⟩
end Go.an.ax.Aw
namespace Go.an.ax.Aw
open Go Go.an Go.Proofs
theorem ae2(s id rd a b:Int)(h:1<=s)(h32:s<=32)(hid:cj id=true)(xL:cj rd=true)(Cw:tv a b=true):Fn kg 248 [I s,Zs 4,.agg [I id,I rd,I a,I b]] (.bY [.dh true 162 4 1 [[I id,I rd,I a,I b]],I 0]):=by
 have hf:Hw [] a b s=false:=by
  have e:Uk [] a b=[a]:=by simp[Uk,Nz,sR,rG]
  unfold Hw;rw[e];simp[yh];omega
 have hb:RP s [] ⟨id,rd,a,b⟩=0:=by unfold RP DE;simp[hid,xL,Cw,hf]
 have hc:MI s []=0:=by unfold MI;rw[if_neg (by omega)];rfl
 have RQ:=c99 s [] (by simp);have a139:=ZB s [] (by simp) ⟨id,rd,a,b⟩;rw[hc]at RQ;rw[hb]at a139;have a66:=Ym [] (by simp) (λ_ h=>by cases h);refine aH GU ⟨_,RQ,λh=>(by cases h),λ_=>⟨λh=>(by cases h),λ_=>⟨_,a139,λh=>(by cases h),λ_=>⟨_,a66,false,?_⟩⟩⟩⟩;refine⟨by decide,?_⟩;exact⟨_,_,rfl,⟨_,rfl,rfl,rfl,.inl ⟨rfl,rfl⟩⟩,rfl,rfl,trivial⟩
theorem uv(u:Us)(n:Nat)(aa:List (List AV))(e:Ev)(d:Int):Fn kg 216 [.aw (kC u (.aL 3 n aa) e) 0,I d] (B (decide (d<e.aR))):=aH VD ⟨rfl,rfl,rfl⟩
theorem Qu(u:Us)(n:Nat)(aa:List (List AV))(e:Ev)(ks:List Bk):fS kg 249 [.af 18 11,KS ks,I 0] (OD u (.aL 3 n aa) e) [18] (OD {u with ks:=ks} (.aL 3 n aa) e) (I 0):=
 dK Pu [] [] (eI _ _ _) ⟨λ_=>⟨_,aj.ad [6] [18],rfl,rfl,rfl⟩,λh=>(by cases h)⟩
theorem ZC(u:Us)(n:Nat)(aa:List (List AV))(qt kd:Int)(id rd a b:Int)(hk:u.ks=[])(h:1<=u.bV)(h32:u.bV<=32)(hid:cj id=true)(xL:cj rd=true)(Cw:tv a b=true)(ha:0<=a):
  fS kg 166 [.af 18 0] (OD u (.aL 3 n aa) ⟨qt,0,kd,[id,rd,a,b]⟩) [18] (OD {u with ks:=[⟨id,rd,a,b⟩]} (.aL 3 n aa) ⟨qt,0,kd,[id,rd,a,b]⟩) (I 0):=by
 obtain⟨yr,bs,ls,ms,qs,bV,ks,ch⟩:=u;simp only at hk h h32;subst hk;have ae3:=uv ⟨yr,bs,ls,ms,qs,bV,[],ch⟩ n aa ⟨qt,0,kd,[id,rd,a,b]⟩ a;rw[show decide (a<0)=false from qA (by omega)]at ae3;have a236:=ae2 bV id rd a b h h32 hid xL Cw;refine dK Kx [(5,[6])] [] (eI _ _ _) ⟨⟨by decide,by simp⟩,[I a],rfl,_,ae3,λh=>(by cases h),λ_=>?_⟩;refine⟨⟨by decide,by simp⟩,[I id],rfl,⟨by decide,by simp⟩,[I rd],rfl,⟨by decide,by simp⟩,[I a],rfl,⟨by decide,by simp⟩,[I b],rfl,_,a236,true,?_⟩;refine⟨_,aj.ad [44,45,46,47,48,49,4,5] [18],_,I 0,[18],(Qu ⟨yr,bs,ls,ms,qs,bV,[],ch⟩ n aa ⟨qt,0,kd,[id,rd,a,b]⟩ [⟨id,rd,a,b⟩]).as (by rfl) (by rfl) (by rfl),rfl,?_⟩;exact⟨_,aj.ad [2] [18],rfl,rfl,rfl⟩
end Go.an.ax.Aw
namespace Go.an
open Go.RowKit
theorem pK.aL{sz n:Nat}{aa gO:List (List AV)}(hr:∀row∈aa,row.length=sz)(hl:gO.length=aa.length)(hs:∀row∈gO,row.length=sz)(hi:∀(j:Nat) u',gO.flatten[j]?=some u'->∃u,aa.flatten[j]?=some u/\pK u u'):pK (.aL sz n aa) (.aL sz n gO):=by
 intro w X K v h;have nt:∀(l:List (List AV)),(∀row∈l,row.length=sz)->l.flatten.length=l.length*sz:=by
  intro l
  induction l with
  |nil=>simp
  |cons a l ih=>intro h;rw[iH,be,h a (by simp),ih (λr q=>h r (by simp[q])),bB,Nat.succ_mul];omega
 cases h with
 |aL h1 h2 h3 h4 h5 h6 h7 h8=>
  refine .aL (h1.trans hl.symm) hs h3 h4 (by rw[h5,nt _ hr,nt _ hs,hl]) h6 (λdW=>h7 (by rintro rfl;exact dW (oD.1 hl))) λj u' c hu hc=>?_
  obtain⟨u,sq,Qv⟩:=hi j u' hu;exact Qv _ _ _ _ (h8 j u c sq hc)
end Go.an
namespace Go.an.ax.Aw
open Go Go.an Go.Proofs
abbrev o7(yr st:Int):List AV:=[Zs 5,Zs 6,Zs 6,I yr,Zs 6,Zs 6,.ai,.ai,Zs 6,Zs 7,I st,Zs 4,Zs 8,Zs 2,.ai,I 0]
abbrev tw(b:Bx):List AV:=[I b.id,I b.bc,I b.room,I b.dZ,.ai]
abbrev mf(yr st:Int)(b:Bx):List AV:=[Zs 5,Zs 6,Zs 6,I yr,Zs 6,Zs 6,.aL 5 1 [tw b],.ai,Zs 6,Zs 7,I st,Zs 4,Zs 8,Zs 2,.ai,I 0]
set_option maxHeartbeats 4000000 in
theorem ae4(yr st:Int):Fn kg 35 [.agg (o7 yr st)] (.agg (o7 yr st)):=by
 have a58:=c59 [] (by simp);have a59:=c60 [] (by simp) (vY (k:=0));have a60:=V8 [] (by simp) (vY (k:=0));have RM:=c62 [] (by simp) (vY (k:=0));have RN:=Yj [] (by simp) (vY (k:=0));have a67:=c71 [] (by simp);have RO:=c72 [] (by simp) (vY (k:=0));have a64:=c68 [] (by simp) (vY (k:=0));have K4:=Tm [] (by simp) (vY (k:=0));have a66:=Ym [] (by simp) (vY (k:=0));refine lX Tg [] [] ⟨_,a58,true,_,a59,true,_,a60,true,_,RM,true,_,RN,true,?_⟩;refine once ⟨[(1,.af 16 0),(2,.af 32 0),(52,I 0),(53,I 0)],[(16,⟨50,16,.any,[o7 yr st],[]⟩),(32,⟨50,16,.any,[zU],[]⟩)]⟩ (aj.ad [1,2,52,53] [16,32]) ⟨λh=>absurd h (by decide),λ_=>?_⟩;refine⟨_,aiN,?_⟩;refine once ⟨[(1,.af 16 0),(2,.af 32 0),(79,I 0),(80,I 0)],[(16,⟨50,16,.any,[o7 yr st],[]⟩),(32,⟨50,16,.any,[zU],[]⟩)]⟩ (aj.ad [1,2,79,80] [16,32]) ⟨λh=>absurd h (by decide),λ_=>?_⟩;refine⟨_,ad0,_,a64,true,_,K4,true,_,a66,true,_,a67,true,_,RO,true,_,Tn,?_⟩
 refine once ⟨[(1,.af 16 0),(2,.af 32 0),(126,I 0),(127,I 0)],[(16,⟨50,16,.any,[o7 yr st],[]⟩),(32,⟨50,16,.any,[zU],[]⟩)]⟩ (aj.ad [1,2,126,127] [16,32]) ⟨λh=>absurd h (by decide),λ_=>?_⟩;exact⟨_,aj.refl _ _,rfl,rfl,rfl⟩
abbrev Qw(us:List AV)(rw:AV)(e:Ev):List AV:=us++[rw,I e.id,I e.aR,I e.kind,NS e.eH,Zs 1]
abbrev Ce(us:List AV)(rw:AV)(e:Ev):List (Nat×ak):=[(18,⟨177,22,.any,[Qw us rw e],[]⟩)]
theorem MJ(us:List AV)(rw:AV)(e:Ev):∀b,bm b [18]=true->Nat.ble 2 (b %16)=true/\(aK (Ce us rw e) b).isSome=true:=by
 intro b hb;have:b=18:=by simpa[fL]using hb
 subst this;exact⟨rfl,rfl⟩
theorem K6(yr st:Int)(n:Nat)(aa:List (List AV))(e:Ev)(b:Bx):fS kg 230 [.af 18 6,.aL 5 1 [tw b],I 0] (Ce (o7 yr st) (.aL 3 n aa) e) [18] (Ce (mf yr st b) (.aL 3 n aa) e) (I 0):=
 dK C8 [] [] (MJ _ _ _) ⟨λ_=>⟨_,aj.ad [6] [18],rfl,rfl,rfl⟩,λh=>(by cases h)⟩
theorem sN(b:Bx)(hb:b.ma=[]):pK (.aL 5 1 [tw b]) (BS [b]):=by
 obtain⟨id,w,r,c,ma⟩:=b;simp only at hb;subst hb;refine pK.aL (by simp[tw]) rfl (by simp[bj]) ?_;exact vZ (f:=λ_:Unit=>tw ⟨id,w,r,c,[]⟩) (g:=λ_=>bj ⟨id,w,r,c,[]⟩) (λ_=>show AO [_,_,_,_,_] [_,_,_,_,_]from⟨.refl _,.refl _,.refl _,.refl _,.nil 2,trivial⟩) [()]
theorem ZD(yr st:Int)(n:Nat)(aa:List (List AV))(qt kd:Int)(b:Bx)(hb:b.ma=[])(kM:jk [b]=0):
  fS kg 158 [.af 18 0] (Ce (o7 yr st) (.aL 3 n aa) ⟨qt,0,kd,[b.id,b.bc,b.room,b.dZ]⟩) [18] (Ce (mf yr st b) (.aL 3 n aa) ⟨qt,0,kd,[b.id,b.bc,b.room,b.dZ]⟩) (I 0):=by
 have WA:=RG [b] (by simp) (by simp[hb]);rw[kM]at WA;have akR:=WA.gI (dj:=[.aL 5 1 [tw b]]) ⟨sN b hb,trivial⟩;refine dK VQ [(3,[7,7,7])] [] (MJ _ _ _) ⟨⟨by decide,by simp⟩,[I b.id],rfl,⟨by decide,by simp⟩,[I b.bc],rfl,⟨by decide,by simp⟩,[I b.room],rfl,⟨by decide,by simp⟩,[I b.dZ],rfl,⟨by decide,by decide⟩,false,?_⟩;refine⟨rfl,_,akR,?_⟩;refine⟨_,aj.OV 464 ⟨84,5,.flat,[tw b],[]⟩ rfl rfl,?_⟩;refine⟨_,I 0,[18],(K6 yr st n aa ⟨qt,0,kd,[b.id,b.bc,b.room,b.dZ]⟩ b).as (by rfl) (by rfl) (by rfl),rfl,?_⟩;exact⟨_,aj.ad [2] [18],rfl,rfl,rfl⟩
end Go.an.ax.Aw
namespace Go.an.ax.Aw
open Go Go.an Go.Proofs
abbrev nn(yr st:Int)(b:Bx)(s:Sh):List AV:=[Zs 5,Zs 6,Zs 6,I yr,Zs 6,Zs 6,.aL 5 1 [tw b],SS [s],Zs 6,Zs 7,I st,Zs 4,Zs 8,Zs 2,.ai,I 0]
abbrev CUb(yr st:Int)(b:Bx)(i:Int):aM:=
 ⟨[(1,.af 16 0),(2,.af 32 0),(79,I 1),(80,I i)],[(16,⟨50,16,.any,[[Zs 5,Zs 6,Zs 6,I yr,Zs 6,Zs 6,.bn 1200 5 1,.ai,Zs 6,Zs 7,I st,Zs 4,Zs 8,Zs 2,.ai,I 0]],[]⟩),(1200,⟨84,5,.flat,[tw b],[]⟩),(32,⟨50,16,.any,[zU],[]⟩)]⟩
set_option maxHeartbeats 4000000 in
theorem akS(yr st:Int)(b:Bx):Fn kg 35 [.agg (mf yr st b)] (.agg (mf yr st b)):=by
 have a58:=c59 [] (by simp);have a59:=c60 [] (by simp) (vY (k:=0));have a60:=V8 [] (by simp) (vY (k:=0));have RM:=c62 [] (by simp) (vY (k:=0));have RN:=Yj [] (by simp) (vY (k:=0));have a67:=c71 [] (by simp);have RO:=c72 [] (by simp) (vY (k:=0));have a64:=c68 [] (by simp) (vY (k:=0));have K4:=Tm [] (by simp) (vY (k:=0));have a66:=Ym [] (by simp) (vY (k:=0));have a22:=c65 [tw b] (by simp);refine lX Tg [] [] ⟨_,a58,true,_,a59,true,_,a60,true,_,RM,true,_,RN,true,?_⟩
 (refine once _ (aj.refl _ _) ⟨λh=>absurd h (by decide),λ_=>?_⟩)
 refine⟨_,a22,false,?_⟩;refine⟨λn c=>∃i:Nat,i<=1/\n=1-i/\c=CUb yr st b i,⟨_,_,aj.ad [1,2,79,80] [16,1200,32],0,by omega,rfl,rfl⟩,?_⟩;rintro n c ⟨i,hi,rfl,rfl⟩;refine⟨λaC=>?_,λaC=>?_⟩
 .have aC:i=0:=by simp at aC;omega
  subst aC;refine⟨⟨by decide,by decide⟩,tw b,rfl,_,Tk,⟨by decide,by decide⟩,tw b,rfl,?_⟩;refine⟨_,ah,?_⟩;exact⟨_,_,aj.ad [1,2,79,80] [16,1200,32],by omega,1,by omega,rfl,rfl⟩
 .refine⟨_,ad0,_,a64,true,_,K4,true,_,a66,true,_,a67,true,_,RO,true,_,Tn,?_⟩
  (refine once _ (aj.refl _ _) ⟨λh=>absurd h (by decide),λ_=>?_⟩)
  exact⟨_,aj.OV 1200 ⟨84,5,.flat,[tw b],[]⟩ rfl rfl,rfl,rfl,rfl⟩
abbrev CUc(yr st:Int)(b:Bx)(s:Sh)(i:Int):aM:=
 ⟨[(1,.af 16 0),(2,.af 32 0),(79,I 1),(80,I i)],[(16,⟨50,16,.any,[[Zs 5,Zs 6,Zs 6,I yr,Zs 6,Zs 6,.bn 1200 5 1,SS [s],Zs 6,Zs 7,I st,Zs 4,Zs 8,Zs 2,.ai,I 0]],[]⟩),(1200,⟨84,5,.flat,[tw b],[]⟩),(32,⟨50,16,.any,[zU],[]⟩)]⟩
set_option maxHeartbeats 4000000 in
theorem akT(yr st:Int)(b:Bx)(s:Sh):Fn kg 35 [.agg (nn yr st b s)] (.agg (nn yr st b s)):=by
 have a58:=c59 [] (by simp);have a59:=c60 [] (by simp) (vY (k:=0));have a60:=V8 [] (by simp) (vY (k:=0));have RM:=c62 [] (by simp) (vY (k:=0));have RN:=Yj [] (by simp) (vY (k:=0));have a67:=c71 [] (by simp);have RO:=c72 [] (by simp) (vY (k:=0));have a64:=c68 [] (by simp) (vY (k:=0));have K4:=Tm [] (by simp) (vY (k:=0));have a66:=Ym [] (by simp) (vY (k:=0));have a22:=c65 [tw b] (by simp);have a7:=c67 [eN s] (by simp) (sc4 [s]);refine lX Tg [] [] ⟨_,a58,true,_,a59,true,_,a60,true,_,RM,true,_,RN,true,?_⟩
 (refine once _ (aj.refl _ _) ⟨λh=>absurd h (by decide),λ_=>?_⟩)
 refine⟨_,a22,false,?_⟩;refine⟨λn c=>∃i:Nat,i<=1/\n=1-i/\c=CUc yr st b s i,⟨_,_,aj.ad [1,2,79,80] [16,1200,32],0,by omega,rfl,rfl⟩,?_⟩;rintro n c ⟨i,hi,rfl,rfl⟩;refine⟨λaC=>?_,λaC=>?_⟩
 .have aC:i=0:=by simp at aC;omega
  subst aC;refine⟨⟨by decide,by decide⟩,tw b,rfl,_,Tk,⟨by decide,by decide⟩,tw b,rfl,?_⟩;refine⟨_,ah,?_⟩;exact⟨_,_,aj.ad [1,2,79,80] [16,1200,32],by omega,1,by omega,rfl,rfl⟩
 .refine⟨_,a7,true,_,a64,true,_,K4,true,_,a66,true,_,a67,true,_,RO,true,_,Tn,?_⟩
  (refine once _ (aj.refl _ _) ⟨λh=>absurd h (by decide),λ_=>?_⟩)
  exact⟨_,aj.OV 1200 ⟨84,5,.flat,[tw b],[]⟩ rfl rfl,rfl,rfl,rfl⟩
theorem ae5(yr st:Int)(b:Bx)(n:Nat)(aa:List (List AV))(e:Ev)(s:Sh):fS kg 235 [.af 18 7,SS [s],I 0] (Ce (mf yr st b) (.aL 3 n aa) e) [18] (Ce (nn yr st b s) (.aL 3 n aa) e) (I 0):=
 dK Ps [] [] (MJ _ _ _) ⟨λ_=>⟨_,aj.ad [6] [18],rfl,rfl,rfl⟩,λh=>(by cases h)⟩
theorem ZE(yr st:Int)(b:Bx)(n:Nat)(aa:List (List AV))(qt kd:Int)(s:Sh)(kM:dx [s]=0):
  fS kg 161 [.af 18 0] (Ce (mf yr st b) (.aL 3 n aa) ⟨qt,0,kd,[s.id,s.Yn,s.len,s.dZ]⟩) [18] (Ce (nn yr st b s) (.aL 3 n aa) ⟨qt,0,kd,[s.id,s.Yn,s.len,s.dZ]⟩) (I 0):=by
 have a80:=c97 [s] (by simp);rw[kM]at a80;refine dK VT [(3,[7,7,7])] [] (MJ _ _ _) ⟨⟨by decide,by simp⟩,[I s.id],rfl,⟨by decide,by simp⟩,[I s.Yn],rfl,⟨by decide,by simp⟩,[I s.len],rfl,⟨by decide,by simp⟩,[I s.dZ],rfl,⟨by decide,by decide⟩,true,?_⟩;refine⟨rfl,_,a80,?_⟩;refine⟨_,(aj.OV 464 ⟨81,4,.pure,[eN s],[]⟩ rfl rfl).trans (aj.ad [0,2,33,34,36] [18]),?_⟩;refine⟨_,I 0,[18],(ae5 yr st b n aa ⟨qt,0,kd,[s.id,s.Yn,s.len,s.dZ]⟩ s).as (by rfl) (by rfl) (by rfl),rfl,?_⟩;exact⟨_,aj.ad [2] [18],rfl,rfl,rfl⟩
end Go.an.ax.Aw
namespace Go.an
open Go.RowKit
theorem Cf{P:Program}{T:dD}{N:Nat}{ps:List Nat}{aB:Array Oper}{p:Nat}{c:aM}(hT:br P T){o:Oper}{t e:Nat}{x lo:Operand}{ti ei:JM}(ho:aB[p]?=some o)(cq:o.op=.slice t x (some lo) none none)(hg:gX o=true)
  (hx:j8 c x=.ai)(hl:j8 c lo=.int .i64 0)(nY:T.get t=some ti)(hk:ti.k=.slice e)(lg:T.get e=some ei)(hd:fg N c o.dst=true):BN P N ps aB p c (λc'=>c'=⟨qi o.dst .ai c.fr,c.O⟩):=by
 rintro E a w Q hN hp ⟨K,hs⟩;have tZ:o.guard=none:=by unfold gX at hg;split at hg<;>first|assumption|cases hg
 have az:=fh hs;have e1:=VR.fC (az.at hx);have e2:=az.int hl;obtain⟨⟨d,RF,eM⟩,_⟩:=hT.get nY;rw[hk]at eM;have:=of_slice eM;subst this;obtain⟨_,⟨je,kb,_,mi,_⟩,_⟩:=hT.get lg;unfold wpOp;rw[ho];simp only;rw[if_pos (dS tZ)]
 left
 unfold Oper.wp;have Ck:(execOp a.eval o).run P w=.ok (.value (.slice none 0 0)) w:=by
  simp only[execOp,cq,e1,e2,gT,iU];simp[Instr.sliceAt,Instr.slice,run_underlying RF,Instr.sliceBounds,Instr.sliceBound,asIntOf,bS kb]
 rw[Ck,Oper.upon_value];exact⟨_,rfl,K,hs.put (dst:=o.dst) (u:=.ai) (v:=.slice none 0 0) (by rw[hN];exact hd) λ_ _=>FV.of .ai⟩
end Go.an
namespace Go.an.ax.Aw
open Go Go.an Go.Proofs
theorem ae6(c:Ct):Fn kg 352 [.ai,I 0,.aL 2 1 [eT c]] (.dh true 152 2 1 [eT c]):=by
 refine lX adW [(1,[2,2,2])] [] ⟨rfl,_,aj.refl _ _,_,Cf cC rfl rfl rfl rfl rfl rfl rfl rfl rfl,?_⟩;rintro c3 rfl;refine⟨λh=>(by cases h),λ_=>⟨λ_=>?_,λh=>(by cases h)⟩⟩;refine⟨by decide,true,sc2 [c],?_⟩;exact⟨_,aj.refl _ _,rfl,⟨_,rfl,rfl,rfl,.inl ⟨rfl,rfl⟩⟩⟩
theorem akU(b:Bx)(n:Int):Fn kg 350 [.agg (bj b),.aw [I n] 0] (B (b.id==n)):=aH adu ⟨rfl,rfl,rfl⟩
theorem ae7(l:List Bx)(hl:l.length<=100000)(n:Int):Fn kg 295 [BS l,I n] (I (BQ l n)):=
 aH ac5 ⟨_,GX l (by omega) _ 350 [I n] (λa _=>akU a n),rfl,rfl,rfl⟩
theorem akV(c:Ct)(n:Int):Fn kg 351 [.agg (eT c),.aw [I n] 0] (B (c.unit==n)):=aH adv ⟨rfl,rfl,rfl⟩
def v7(u:Int):Nat->List Bx->Int×Int
 |_,[]=>(-1,-1)
 |i,b::r=>if aQ (λc:Ct=>c.unit==u) 0 b.ma>=0 then((i:Int),aQ (λc:Ct=>c.unit==u) 0 b.ma)else v7 u (i+1) r
theorem Qx(l:List Bx)(hl:l.length<=100000)(hc:∀b∈l,b.ma.length<=100000)(u:Int):Fn kg 296 [BS l,I u] (.bY [I (v7 u 0 l).1,I (v7 u 0 l).2]):=by
 refine aH ac6 ?_;refine⟨λn c=>∃i:Nat,i<=l.length/\n=l.length-i/\v7 u i (l.drop i)=v7 u 0 l/\c=⟨[(3,.af 48 0),(4,I 0),(5,I 0),(9,BS l),(10,I l.length),(11,I i)],[(48,⟨3,1,.any,[[I u]],[]⟩)]⟩,⟨_,_,Wk.ad [3,4,5,9,10,11] [48],0,by omega,rfl,by simp,rfl⟩,?_⟩;rintro n c ⟨i,hi,rfl,hI,rfl⟩;refine⟨λaC=>?_,λaC=>?_⟩
 .simp at aC
  obtain⟨b,hb,hd,_⟩:=aq aC;rw[hd,v7]at hI;have ae8:=ad3 b.ma (by have:=hc b (ay hb);omega) (λc=>c.unit==u) 351 [I u] (λc _=>akV c u);generalize aQ (λc:Ct=>c.unit==u) 0 b.ma=k at ae8 hI;refine⟨by omega,bj b,by simp[hb],_,ae8,λhg=>?_,λhg=>?_⟩
  .rw[if_pos (aP hg)]at hI
   rw[<-hI];exact⟨_,_,rfl,⟨rfl,rfl⟩,rfl,rfl,trivial⟩
  .rw[if_neg (j0 hg)]at hI
   refine⟨_,ah,?_⟩;exact⟨_,_,Wk.ad [3,4,5,9,10,11] [48],by omega,i+1,by omega,rfl,hI,rfl⟩
 .simp at aC
  have:i=l.length:=by omega
  subst this;rw[j4,v7]at hI;rw[<-hI];exact⟨_,_,rfl,⟨rfl,rfl⟩,rfl,rfl,trivial⟩
theorem ae9(c:Ct):Fn kg 298 [.ai,I 0,.agg (eT c)] (.dh true 152 2 1 [eT c]):=
 aH VK ⟨_,Tk,_,ae6 c,false,rfl,⟨_,rfl,rfl,rfl,.inl ⟨rfl,rfl⟩⟩⟩
theorem afa(b:Bx):Fn kg 297 [.aL 5 1 [tw b]] (.dh false 84 5 1 [tw b]):=by
 have a22:=c65 [tw b] (by simp);refine aH VJ ⟨_,a22,false,?_⟩;refine⟨λn c=>∃i:Nat,i<=1/\n=1-i/\c=⟨[(2,.ai),(3,.bn 96 5 1),(8,I 1),(9,I i)],[(96,⟨84,5,.flat,[tw b],[]⟩)]⟩,⟨_,_,Wk.ad [2,3,8,9] [96],0,by omega,rfl,rfl⟩,?_⟩;rintro n c ⟨i,hi,rfl,rfl⟩;refine⟨λaC=>?_,λaC=>?_⟩
 .have aC:i=0:=by simp at aC;omega
  subst aC;refine⟨⟨by decide,by decide⟩,tw b,rfl,_,Tk,⟨by decide,by decide⟩,tw b,rfl,?_⟩;refine⟨_,ah,?_⟩;exact⟨_,_,Wk.ad [2,3,8,9] [96],by omega,1,by omega,rfl,rfl⟩
 .exact⟨rfl,_,rfl,rfl,rfl,.inr ⟨rfl,rfl⟩⟩
theorem afb(b:Bx)(hb:b.ma=[])(kM:jk [b]=0)(c:Ct)(hc:qp c=true)(hr:c.jN<=b.room):
  Fn kg 232 [.aL 5 1 [tw b],I b.id,I 0,.agg (eT c)] (.bY [.dh false 84 5 1 [bj {b with ma:=[c]}],I 0]):=by
 have WA:=(RG [b] (by simp) (by simp[hb])).gI (dj:=[.aL 5 1 [tw b]]) ⟨sN b hb,trivial⟩;rw[kM]at WA;have afc:=(ae7 [b] (by simp) b.id).gI (dj:=[.aL 5 1 [tw b],I b.id]) ⟨sN b hb,.refl _,trivial⟩;have akW:BQ [b] b.id=0:=by simp[BQ,aQ]
 rw[akW]at afc;have Qy:=(Qx [b] (by simp) (by simp[hb]) c.unit).gI (dj:=[.aL 5 1 [tw b],I c.unit]) ⟨sN b hb,.refl _,trivial⟩;have akX:v7 c.unit 0 [b]=(-1,-1):=by simp[v7,hb,aQ]
 rw[akX]at Qy;have akY:=GZ 0 0 0;have afd:=Yt c;rw[hc]at afd;have a182:=(Yu [] (by simp) (by simp)).gI (dj:=[.ai]) ⟨.nil 2,trivial⟩;have Ww:1<=c.jN/\c.jN<=10000:=by
  unfold qp eC at hc;simp at hc;omega
 refine aH vK ⟨_,WA,λh=>(by cases h),λ_=>⟨_,afc,λh=>(by cases h),λ_=>⟨_,Qy,?_⟩⟩⟩;refine⟨⟨by decide,by decide⟩,tw b,rfl,?_⟩;refine⟨[(6,false)],_,akY,rfl,_,afd,λh=>(by cases h),λ_=>⟨λh=>(by cases h),λ_=>⟨λh=>(by cases h),λ_=>?_⟩⟩⟩;refine⟨_,a182,_,ah (x:=eU []+c.jN) (by simp[eU];omega) (by simp[eU];omega),λh=>?_,λ_=>?_⟩
 .have h:eU []+c.jN>b.room:=aP h
  simp[eU]at h;omega
 refine⟨_,afa b,false,?_⟩;refine⟨⟨by decide,by decide⟩,tw b,rfl,_,ae9 c,true,⟨by decide,by decide⟩,tw b,rfl,?_⟩;exact⟨_,_,rfl,⟨_,rfl,rfl,rfl,.inr ⟨rfl,rfl⟩⟩,rfl,rfl,trivial⟩
theorem Qz(yr st:Int)(b:Bx)(s:Sh)(hb:b.ma=[]):pK (.agg (nn yr st b s)) (.agg (aF ⟨yr,[b],[s],[],[],st,[],0⟩)):=
 pK.EB ⟨.refl _,.refl _,.refl _,.refl _,.refl _,.refl _,sN b hb,.refl _,.refl _,.refl _,.refl _,.refl _,.refl _,.refl _,.refl _,.refl _,trivial⟩
theorem Js:jl []:=⟨rfl,by simp,by simp⟩
theorem afe(yr st:Int)(b:Bx)(s:Sh)(hb:b.ma=[])(n:Nat)(aa:List (List AV))(e:Ev)(k:Int)(hk:cj k=true):Fn kg 231 [.aw (Qw (nn yr st b s) (.aL 3 n aa) e) 0,I k] (B false):=by
 have a57:=(sP ⟨yr,[b],[s],[],[],st,[],0⟩ Js k hk).gI (dj:=[.agg (nn yr st b s),I k]) ⟨Qz yr st b s hb,.refl _,trivial⟩;exact aH Pf ⟨_,a57,rfl,rfl,rfl⟩
theorem aff(yr st:Int)(b b':Bx)(s:Sh)(n:Nat)(aa:List (List AV))(e:Ev):fS kg 230 [.af 18 6,BS [b'],I 0] (Ce (nn yr st b s) (.aL 3 n aa) e) [18] (Ce (aF ⟨yr,[b'],[s],[],[],st,[],0⟩) (.aL 3 n aa) e) (I 0):=
 dK C8 [] [] (MJ _ _ _) ⟨λ_=>⟨_,aj.ad [6] [18],rfl,rfl,rfl⟩,λh=>(by cases h)⟩
theorem ZF(yr st:Int)(b:Bx)(s:Sh)(hb:b.ma=[])(hid:cj b.id=true)(kM:jk [b]=0)(c:Ct)(hc:qp c=true)(hr:c.jN<=b.room)(n:Nat)(aa:List (List AV))(qt kd:Int):
  fS kg 159 [.af 18 0] (Ce (nn yr st b s) (.aL 3 n aa) ⟨qt,0,kd,[b.id,0,c.unit,c.jN]⟩) [18] (Ce (aF ⟨yr,[{b with ma:=[c]}],[s],[],[],st,[],0⟩) (.aL 3 n aa) ⟨qt,0,kd,[b.id,0,c.unit,c.jN]⟩) (I 0):=by
 have Uj:=afe yr st b s hb n aa ⟨qt,0,kd,[b.id,0,c.unit,c.jN]⟩ b.id hid;have akZ:=afb b hb kM c hc hr;refine dK Kt [(5,[6])] [] (MJ _ _ _) ⟨⟨by decide,by simp⟩,[I b.id],rfl,_,Uj,λh=>(by cases h),λ_=>?_⟩;refine⟨⟨by decide,by simp⟩,[I b.id],rfl,⟨by decide,by simp⟩,[I 0],rfl,⟨by decide,by simp⟩,[I c.unit],rfl,⟨by decide,by simp⟩,[I c.jN],rfl,_,akZ,true,?_⟩;refine⟨_,aj.ad [38,39,40,41,42,43] [18],_,I 0,[18],(aff yr st b {b with ma:=[c]} s n aa ⟨qt,0,kd,[b.id,0,c.unit,c.jN]⟩).as (by rfl) (by rfl) (by rfl),rfl,?_⟩;exact⟨_,aj.ad [2] [18],rfl,rfl,rfl⟩
end Go.an.ax.Aw
