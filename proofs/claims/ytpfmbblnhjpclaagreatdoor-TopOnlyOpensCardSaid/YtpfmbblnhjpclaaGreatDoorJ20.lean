import Derived.Test.YtpfmbblnhjpclaaGreatDoorJ18
import Derived.Test.YtpfmbblnhjpclaaGreatDoorBtop
import Derived.Test.YtpfmbblnhjpclaaGreatDoorJ16
import Derived.Test.YtpfmbblnhjpclaaGreatDoorJ0
set_option linter.unusedVariables false
set_option linter.unusedSimpArgs false
set_option maxRecDepth 20000
namespace Go.an.ax
open Go Go.an Go.Proofs
theorem aiI(gs:List (Nat×List Nat))(wk:List Nat){args:List AV}{r:AV}(hn:Nat.ble args.length 95=true)(h:Mj Tryz.prog tt 95 [0,1,2,3,4,6,8,9,12,13,14,15,16,20,45,60,61,62,63,75,77,78,79,80,86,87,93] gs wk [] (body Tryz.f9) ⟨idx 0 args,[]⟩ (kq tt [.cell 2 54] r)):Fn kg 9 args r:=
 I0 [.cell 2 54] cC bZ mixed Tryz.func9 rfl (by kernel_rfl) hn rfl rfl h
theorem adX(gs:List (Nat×List Nat))(wk:List Nat){args:List AV}{r:AV}(hn:Nat.ble args.length 17=true)(h:Mj Tryz.prog tt 17 [0,1,4,5,6,9,10] gs wk [] (body Tryz.f78) ⟨idx 0 args,[]⟩ (kq tt [.tmp 4] r)):Fn kg 78 args r:=
 I0 [.tmp 4] cC bZ mixed Tryz.func78 rfl (by kernel_rfl) hn rfl rfl h
theorem V3(gs:List (Nat×List Nat))(wk:List Nat){args:List AV}{r:AV}(hn:Nat.ble args.length 46=true)(h:Mj Tryz.prog tt 46 [0,2,5,7,8,9,10,12,14,17,18,19,20,21,22,30,31,32,33] gs wk [] (body Tryz.f79) ⟨idx 0 args,[]⟩ (kq tt [.tmp 8] r)):Fn kg 79 args r:=
 I0 [.tmp 8] cC bZ mixed Tryz.func79 rfl (by kernel_rfl) hn rfl rfl h
theorem au{x y:Int}(h:x=y)(h1: -9223372036854775808<=x:=by omega)(h2:x<=9223372036854775807:=by omega):IntKind.i64.wrap x=y:=by rw[ah h1 h2];exact h
abbrev I(n:Int):AV:=.int .i64 n
abbrev B(b:Bool):AV:=.bool b
def cj(n:Int):Bool:=decide (n>=1)&&decide (n<=1073741824)
def Gh(n:Int):Bool:=decide (n>=0)&&decide (n<=1048575)
def eL(k o:Int):Bool:=if k=0∨k=2∨k=4 then o==0 else if k=1∨k=3 then cj o else false
theorem c38(n:Int):Fn kg 38 [I n] (B (cj n)):=aH ah9 ⟨[],rfl,rfl,rfl⟩
theorem c39(n:Int):Fn kg 39 [I n] (B (Gh n)):=aH aia ⟨[],rfl,rfl,rfl⟩
theorem c28(n:Int):Fn kg 28 [I n] (B (cj n)):=aH ah5 ⟨[],rfl,rfl,rfl⟩
def eC(n a b:Int):Bool:=decide (n>=a)&&decide (n<=b)
theorem V4(n a b:Int):Fn kg 33 [I n,I a,I b] (B (eC n a b)):=aH ah8 ⟨[],rfl,rfl,rfl⟩
theorem Th(n a b:Int):Fn kg 134 [I n,I a,I b] (B (eC n a b)):=aH abX ⟨[],rfl,rfl,rfl⟩
theorem Ti(n:Int):Fn kg 101 [I n] (B (cj n)):=aH abD ⟨_,V4 n 1 1073741824,rfl,rfl,rfl⟩
theorem adY(k o:Int):Fn kg 170 [.agg [I k,I o]] (B (eL k o)):=by
 refine aH aca ?_;have e:∀{x y:Int},(x==y)=true->x=y:=λh=>by simpa using h
 have ne:∀{x y:Int},(x==y)=false->x≠y:=λh=>by simpa using h
 have k1:(k=0∨k=2∨k=4)->B (eL k o)=B (o==0):=λh=>by unfold eL;rw[if_pos h]
 have k2:(k=1∨k=3)->B (eL k o)=B (cj o):=λh=>by unfold eL;rw[if_neg (by omega),if_pos h]
 have k3:k≠0->k≠2->k≠4->k≠1->k≠3->B (eL k o)=B false:=λh0 h2 h4 h1 h3=>by unfold eL;rw[if_neg (by omega),if_neg (by omega)]
 have no:∀{b:Bool}{p:Prop},b=true->b=false->p:=λh1 h2=>by rw[h1]at h2;cases h2
 exact⟨λh0=>⟨λ_=>⟨rfl,rfl,k1 (.inl (e h0))⟩,λh=>no h0 h⟩,
  λh0=>⟨λh2=>⟨λ_=>⟨rfl,rfl,k1 (.inr (.inl (e h2)))⟩,λh=>no h2 h⟩,
   λh2=>⟨λh4=>⟨rfl,rfl,k1 (.inr (.inr (e h4)))⟩,
    λh4=>⟨λh1=>⟨λ_=>⟨_,c38 o,rfl,rfl,k2 (.inl (e h1))⟩,λh=>no h1 h⟩,
     λh1=>⟨λh3=>⟨_,c38 o,rfl,rfl,k2 (.inr (e h3))⟩,λh3=>⟨rfl,rfl,k3 (ne h0) (ne h2) (ne h4) (ne h1) (ne h3)⟩⟩⟩⟩⟩⟩
structure Mv where
 aR:Int
 box:Int
 fk:Int
 fo:Int
 tk:Int
 to:Int
 deriving DecidableEq
def gY(m:Mv):List AV:=[I m.aR,I m.box,I m.fk,I m.fo,I m.tk,I m.to]
abbrev MS(ms:List Mv):AV:=.aL 6 ms.length (ms.map gY)
abbrev fMS(ms:List Mv):AV:=.dh true 156 6 ms.length (ms.map gY)
abbrev Pl:=List (Int×Int×Int)
def vM(x:Int×Int×Int):List AV:=[I x.1,I x.2.1,I x.2.2]
def oi(b:Int):Pl->Int×Int
 |[]=>(0,0)
 |x::r=>if b=x.1 then x.2 else oi b r
def Mm(b:Int)(l:Pl):Bool:=l.any λx=>b==x.1
def B4(b:Int)(p:Int×Int):Pl->Pl
 |[]=>[(b,p)]
 |x::r=>if b=x.1 then(b,p)::r else x::B4 b p r
theorem I3(b:Int):∀l:Pl,mB (I b) (l.map vM)=if Mm b l then some [I (oi b l).1,I (oi b l).2]else none
 |[]=>rfl
 |x::r=>by
  have ih:=I3 b r;simp only[cU,vM,mB,mh,Mm,oi,oA]
  by_cases h:b=x.1
  .simp[h]
  .have hb:(b==x.1)=false:=by simpa using h
   simp only[hb,if_neg h,cX];exact ih
theorem EE{b:Int}:∀{l:Pl},Mm b l=false->oi b l=(0,0)
 |[],_=>rfl
 |x::r,h=>by
  simp only[Mm,oA,tD]at h;have:b≠x.1:=by simpa using h.1
  simp only[oi,if_neg this];exact EE h.2
theorem Pv(b:Int)(p:Int×Int):∀l:Pl,FJ [I p.1,I p.2] (uM (I b) (l.map vM)) (iy (I b) [I 0,I 0] (l.map vM))=(B4 b p l).map vM
 |[]=>rfl
 |x::r=>by
  have ih:=Pv b p r;simp only[cU,vM,uM,iy,mh,B4]
  by_cases h:b=x.1
  .subst h;simp[FJ,vM]
  .have hb:(b==x.1)=false:=by simpa using h
   simp only[hb,if_neg h,FJ,cU,vM];exact gQ _ ih
theorem KC(b:Int):∀l:Pl,uM (I b) (l.map vM)< (iy (I b) [I 0,I 0] (l.map vM)).length
 |[]=>by simp[uM,iy]
 |x::r=>by
  have ih:=KC b r;simp only[cU,vM,uM,iy,mh]
  cases hb:b==x.1
  .simp only[bB];exact Nat.succ_lt_succ ih
  .simp
structure Lg where
 pl:Pl
 aR:Int
def fN(x:Lg)(m:Mv):Int:=
 if Gh m.aR=false∨cj m.box=false∨eL m.fk m.fo=false∨eL m.tk m.to=false then 2
 else if m.fk=m.tk/\m.fo=m.to then 1
 else if m.aR<x.aR then 5
 else if oi m.box x.pl≠(m.fk,m.fo)then 10
 else 0
def kU(x:Lg)(m:Mv):Lg:=if fN x m=0 then⟨B4 m.box (m.tk,m.to) x.pl,m.aR⟩else x
abbrev OL(x:Lg):List (Nat×ak):=[(18,⟨112,2,.any,[[.dX 34,I x.aR]],[]⟩),(34,⟨110,3,.map true false,[],x.pl.map vM⟩)]
theorem no{b:Bool}{p:Prop}(h1:b=true)(h2:b=false):p:=by rw[h1]at h2;cases h2
theorem adZ(x:Lg)(m:Mv):fS kg 111 [.af 18 0,.agg (gY m)] (OL x) [18,34] (OL (kU x m)) (I (fN x m)):=by
 refine XU (N:=68) (ks:=[0,1,3,4,5,28,34,42]) cC bZ mixed [.tmp 4] Tryz.func111 rfl (by kernel_rfl) rfl rfl rfl (by intro b hb;rcases(by simpa[fL]using hb:b=18∨b=34)with rfl|rfl<;>exact⟨rfl,rfl⟩) rfl ?_;refine⟨[],_,c39 m.aR,_,c38 m.box,_,adY m.fk m.fo,_,adY m.tk m.to,?_⟩;have fl:∀{b:Bool},(!b)=true->b=false:=λh=>by simpa using h
 have xV:(!Gh m.aR|| !cj m.box|| !eL m.fk m.fo|| !eL m.tk m.to)=true↔(Gh m.aR=false∨cj m.box=false∨eL m.fk m.fo=false∨eL m.tk m.to=false):=by
  simp[pj,ee]
 refine⟨λh1=>?_,λh1=>⟨λh2=>?_,λh2=>?_⟩⟩
 .have hE:fN x m=2:=by unfold fN;rw[if_pos (xV.1 h1)]
  have hL:kU x m=x:=by unfold kU;rw[hE];rfl
  rw[hE,hL];exact⟨rfl,rfl,rfl⟩
 .have od:¬(Gh m.aR=false∨cj m.box=false∨eL m.fk m.fo=false∨eL m.tk m.to=false):=λh=>no (xV.2 h) h1
  have hE:fN x m=1:=by
   unfold fN;rw[if_neg od,if_pos ?_];simpa[HY,eqC]using h2
  have hL:kU x m=x:=by unfold kU;rw[hE];rfl
  rw[hE,hL];exact⟨rfl,rfl,rfl⟩
 .have od:¬(Gh m.aR=false∨cj m.box=false∨eL m.fk m.fo=false∨eL m.tk m.to=false):=λh=>no (xV.2 h) h1
  have yN:¬(m.fk=m.tk/\m.fo=m.to):=by
   intro h;refine no (b:=(m.fk==m.tk&&(m.fo==m.to&&true))) ?_ h2;simp[h.1,h.2]
  refine⟨λh3=>?_,λh3=>?_⟩
  .have hE:fN x m=5:=by
    unfold fN;rw[if_neg od,if_neg yN,if_pos (aP h3)]
   have hL:kU x m=x:=by unfold kU;rw[hE];rfl
   rw[hE,hL];exact⟨rfl,rfl,rfl⟩
  .have Pw:¬m.aR<x.aR:=j0 h3
   have main:∀q:Bool,(q=true->oi m.box x.pl≠(m.fk,m.fo))->(q=false->oi m.box x.pl=(m.fk,m.fo))->(q=true->fN x m=10/\kU x m=x)/\(q=false->fN x m=0/\kU x m=⟨B4 m.box (m.tk,m.to) x.pl,m.aR⟩):=by
    intro q q1 q2;refine⟨λh=>?_,λh=>?_⟩
    .have hE:fN x m=10:=by unfold fN;rw[if_neg od,if_neg yN,if_neg Pw,if_pos (q1 h)]
     exact⟨hE,by unfold kU;rw[hE];rfl⟩
    .have hE:fN x m=0:=by unfold fN;rw[if_neg od,if_neg yN,if_neg Pw,if_neg (by rw[q2 h];simp)]
     exact⟨hE,by unfold kU;rw[if_pos hE]⟩
   have hm:=I3 m.box x.pl;have hq:∀k o:Int,((!HY [I k,I o] [I m.fk,I m.fo])=true->(k,o)≠(m.fk,m.fo))/\((!HY [I k,I o] [I m.fk,I m.fo])=false->(k,o)=(m.fk,m.fo)):=by
    intro k o
    by_cases hk:k=m.fk<;>by_cases ho:o=m.fo<;>simp[HY,eqC,hk,ho]
   have lh:=Pv m.box (m.tk,m.to) x.pl;have aC:=KC m.box x.pl;have fin:∀{c:aM},oH c.O [18,34]=[(18,⟨112,2,.any,[[.dX 34,I m.aR]],[]⟩),(34,⟨110,3,.map true false,[],FJ [I m.tk,I m.to] (uM (I m.box) (x.pl.map vM)) (iy (I m.box) [I 0,I 0] (x.pl.map vM))⟩)] ->oH c.O [18,34]=OL ⟨B4 m.box (m.tk,m.to) x.pl,m.aR⟩:=by
    intro c h;rw[h,lh]
   cases hp:Mm m.box x.pl with
   |true=>
    rw[hp,if_pos rfl]at hm;have V5:=hq (oi m.box x.pl).1 (oi m.box x.pl).2;have RA:=main _ V5.1 V5.2;refine⟨true,_,hm,λh4=>?_,λh4=>?_⟩
    .rw[(RA.1 h4).1,(RA.1 h4).2]
     exact⟨rfl,rfl,rfl⟩
    .rw[(RA.2 h4).1,(RA.2 h4).2]
     exact⟨⟨by omega,by exact_mod_cast aC⟩,fin rfl,rfl,rfl⟩
   |false=>
    rw[hp]at hm;have V5:=hq 0 0;have Gt:=EE hp;have RA:=main _ (by rw[Gt];exact V5.1) (by rw[Gt];exact V5.2);refine⟨false,hm,λh4=>?_,λh4=>?_⟩
    .rw[(RA.1 h4).1,(RA.1 h4).2]
     exact⟨rfl,rfl,rfl⟩
    .rw[(RA.2 h4).1,(RA.2 h4).2]
     exact⟨⟨by omega,by exact_mod_cast aC⟩,fin rfl,rfl,rfl⟩
end Go.an.ax
namespace Go.an
theorem fS.as{P:Program}{f:FuncId}{us dj:List AV}{O O2 O':List (Nat×ak)}{pins V6:List Nat}{r:AV}(h:fS P f us O pins O' r)(hu:dj=us)(hO:O2=O)(hp:V6=pins):fS P f dj O2 V6 O' r:=by rw[hu,hO,hp];exact h
end Go.an
namespace Go.an.ax
open Go Go.an Go.Proofs
theorem AZ{T:dD}{c:aM}{x y:ResultVar}{u v:AV}(h1:vt T c x=some u)(h2:ir u=true)(h3:vt T c y=some v)(h4:ir v=true):Ox T c [x,y] (.bY [u,v]):=by
 refine⟨[u,v],rfl,rfl,λj z w hz hw=>?_⟩
 match j with
 |0=>simp at hz hw;subst hz hw;exact⟨h1,h2⟩
 |1=>simp at hz hw;subst hz hw;exact⟨h3,h4⟩
 |j+2=>simp at hz
def mc(x:Lg):List Mv->Lg×Int
 |[]=>(x,0)
 |m::r=>if fN x m≠0 then(x,fN x m)else mc (kU x m) r
def Yh:Lg:=⟨[],0⟩
def fV(ms:List Mv):Lg×Int:=if 1024<ms.length then(Yh,8)else mc Yh ms
theorem c75(ms:List Mv):fS kg 75 [MS ms] [] [] (OL (fV ms).1) (.bY [.af 18 0,I (fV ms).2]):=by
 refine dK aiG [(7,[2])] [] (by intro b hb;cases hb) ⟨λh=>?_,λh=>?_⟩
 .simp at h
  have e:fV ms=(Yh,8):=by rw[fV,if_pos (by omega)]
  rw[e];exact⟨_,aj.kr [2,3] [160,128] [(160,18),(128,34)] rfl rfl rfl rfl,rfl,AZ rfl rfl rfl rfl⟩
 .simp at h
  have e:fV ms=mc Yh ms:=by rw[fV,if_neg (by omega)]
  rw[e];refine⟨λn c=>∃(i:Nat)(x:Lg),i<=ms.length/\n=ms.length-i/\c=⟨[(0,MS ms),(4,.af 18 0),(15,MS ms),(16,I ms.length),(17,I i)],OL x⟩/\mc x (ms.drop i)=mc Yh ms,
   ⟨_,_,aj.kr [0,4,15,16,17] [160,128] [(160,18),(128,34)] rfl rfl rfl rfl,0,Yh,by omega,rfl,rfl,by simp⟩,?_⟩
  rintro n c ⟨i,x,hi,rfl,rfl,hI⟩;refine⟨λh=>?_,λh=>?_⟩
  .simp at h
   obtain⟨m,hm,hd,_⟩:=aq h;rw[hd,mc]at hI;refine⟨by omega,gY m,by simp[hm],?_⟩;refine⟨_,aj.ad [0,4,15,16,17,21,22] [18,34],OL (kU x m),I (fN x m),[18,34],adZ x m,rfl,λhe=>?_,λhe=>?_⟩
   .have he:fN x m≠0:=by simpa using he
    rw[if_pos he]at hI;rw[<-hI];have hL:kU x m=x:=by unfold kU;rw[if_neg he]
    rw[hL];exact⟨_,aj.ad [2,3] [18,34],rfl,AZ rfl rfl rfl rfl⟩
   .have he:fN x m=0:=by simpa using he
    rw[if_neg (by simpa using he)]at hI;refine⟨_,ah,?_⟩;exact⟨_,_,aj.ad [0,4,15,16,17] [18,34],by omega,i+1,_,by omega,rfl,rfl,hI⟩
  .simp at h
   have:i=ms.length:=by omega
   subst this;simp[mc]at hI;rw[<-hI];exact⟨_,aj.ad [2,3] [18,34],rfl,AZ rfl rfl rfl rfl⟩
theorem c37(ms:List Mv):Fn kg 37 [MS ms] (I (fV ms).2):=
 lX aiB [(1,[1])] [] ⟨_,aj.ad [6] [],OL (fV ms).1,_,[],c75 ms,rfl,_,aj.ad [2] [],rfl,rfl,rfl⟩
end Go.an.ax
namespace Go.an.ax
open Go Go.an Go.Proofs
theorem Tj{n:Int}(h1:0<=n)(h2:n<18446744073709551616):IntKind.u64.wrap n=n:=by
 simp only[IntKind.wrap,IntKind.bits,IntKind.signed];simp;omega
theorem c77(m:Mv)(d:Int):Fn kg 77 [.agg (gY m),I d] (I (if m.aR<=d then-1 else 1)):=by
 refine aH aik ⟨λh=>?_,λh=>?_⟩
 .have h:m.aR<=d:=aP h
  rw[if_pos h];exact⟨rfl,rfl,rfl⟩
 .have h:¬m.aR<=d:=j0 h
  rw[if_neg h];exact⟨rfl,rfl,rfl⟩
theorem c76(ms:List Mv)(d:Int)(hl:ms.length<=100000)(hd:∀m∈ms,m.aR<=d):Fn kg 76 [MS ms,I d,.func 77 []] (.bY [I ms.length,B false]):=by
 refine aH aij ⟨λn c=>∃i:Nat,i<=ms.length/\n=ms.length-i/\c=⟨[(0,MS ms),(1,I d),(2,.func 77 []),(8,I ms.length),(9,I i),(10,I ms.length)],[]⟩,⟨_,_,Wk.ad [0,1,2,8,9,10] [],0,by omega,rfl,rfl⟩,?_⟩;rintro n c ⟨i,hi,rfl,rfl⟩;refine⟨λh=>?_,λh=>?_⟩
 .simp at h
  have hq:((i:Int)+ms.length)/2^Int.toNat 1=(((i+ms.length)/2:Nat):Int):=by rw[show(2:Int)^Int.toNat 1=2 from rfl];omega
  have aC:(i+ms.length)/2<ms.length:=by omega
  obtain⟨m,hm,_,_⟩:=aq aC;have V7:=hd m (ay hm);refine⟨_,ah,_,Tj (by omega) (by omega),⟨by decide,by decide⟩,_,au hq,?_⟩;refine⟨by omega,gY m,get_map' hm (by omega),_,c77 m d,?_⟩;rw[if_pos V7];refine⟨λ_=>?_,λh=>(by cases h)⟩;refine⟨_,au (y:=(((i+ms.length)/2+1:Nat):Int)) (by omega),?_⟩;exact⟨_,_,Wk.ad [0,1,2,8,9,10] [],by omega,(i+ms.length)/2+1,by omega,rfl,rfl⟩
 .simp at h
  have:i=ms.length:=by omega
  subst this;exact⟨[(4,false)],by simp,⟨_,_,rfl,⟨rfl,rfl⟩,rfl,rfl,trivial⟩⟩
end Go.an.ax
namespace Go.an.ax
open Go Go.an Go.Proofs
theorem c40(ms:List Mv)(d:Int)(hl:ms.length<=100000)(hd:∀m∈ms,m.aR<=d):fS kg 40 [MS ms,I d] [] [] (OL (fV ms).1) (.af 18 0):=by
 have c:=c75 ms;have e:(.aL 6 (ms.length:Int).toNat ((ms.map gY).take (ms.length:Int).toNat):AV)=MS ms:=by
  rw[aY,ph (by simp)]
 rw[<-e]at c;generalize fV ms=z at c⊢;exact dK aiC [(2,[3])] [] (by intro b hb;cases hb) ⟨_,c76 ms d hl hd,by omega,_,aj.ad [18] [],OL z.1,.bY [.af 18 0,I z.2],[],c,rfl,_,aj.ad [4] [18,34],rfl,rfl,rfl⟩
def bT(ms:List Mv)(b:Int):Int×Int:=oi b (fV ms).1.pl
def pL(ms:List Mv)(b d:Int):(Int×Int)×Int:=if(fV ms).2≠0 then((0,0),1)else if cj b=false∨Gh d=false then((0,0),2)else(bT ms b,0)
theorem c18(ms:List Mv)(b d:Int)(hl:ms.length<=100000)(hd:(fV ms).2=0->∀m∈ms,m.aR<=d):Fn kg 18 [MS ms,I b,I d] (.bY [.agg [I (pL ms b d).1.1,I (pL ms b d).1.2],I (pL ms b d).2]):=by
 have c1:=c37 ms;have c2:(fV ms).2=0->fS kg 40 [MS ms,I d] [] [] (OL (fV ms).1) (.af 18 0):=λh=>c40 ms d hl (hd h)
 clear hd;unfold pL bT;generalize fV ms=z at c1 c2⊢;refine lX aix [(5,[2])] [] ⟨_,c1,λh=>?_,λh=>?_⟩
 .have h:z.2≠0:=by simpa using h
  rw[if_pos h];exact⟨_,aj.refl _ _,_,_,rfl,⟨rfl,rfl⟩,rfl,rfl,trivial⟩
 .have h:z.2=0:=by simpa using h
  rw[if_neg (by simpa using h)];refine⟨[(3,!cj b)],_,c38 b,rfl,?_⟩
  cases hb:cj b with
  |false=>
   rw[if_pos (.inl rfl)];exact⟨λ_=>⟨_,aj.refl _ _,_,_,rfl,⟨rfl,rfl⟩,rfl,rfl,trivial⟩,λh=>(by cases h)⟩
  |true=>
   refine⟨_,c39 d,λh2=>?_,λh2=>?_⟩
   .have h2:Gh d=false:=by simpa using h2
    rw[if_pos (.inr h2)];exact⟨_,aj.refl _ _,_,_,rfl,⟨rfl,rfl⟩,rfl,rfl,trivial⟩
   .have h2:Gh d=true:=by simpa using h2
    rw[if_neg (by simp[h2])];have fr:=(c2 h).frame (R:=[(96,⟨69,2,.any,[[I 0,I 0]],[]⟩)]) rfl rfl rfl rfl rfl;refine⟨_,aj.ad [1,6,23,24] [96],OL z.1++[(96,⟨69,2,.any,[[I 0,I 0]],[]⟩)],.af 18 0,[96],fr.as (by rfl) (by rfl) (by rfl),rfl,?_⟩;have hm:=I3 b z.1.pl
    cases hp:Mm b z.1.pl with
    |true=>
     rw[hp,if_pos rfl]at hm;exact⟨true,_,hm,_,aj.refl _ _,_,_,rfl,⟨rfl,rfl⟩,rfl,rfl,trivial⟩
    |false=>
     rw[hp]at hm;have Gt:=EE hp;refine⟨false,hm,_,aj.refl _ _,_,_,rfl,⟨rfl,?_⟩,rfl,rfl,trivial⟩;rw[Gt];rfl
end Go.an.ax
namespace Go.an
open Go.RowKit
theorem EF{P:Program}{f:FuncId}{us:List AV}{p q:Bool}{e sz:Nat}(h:Fn P f us (.dh p e sz 0 [])):Fn P f us (.dh q e sz 0 []):=by
 refine⟨h.1,λX w vs hw hl ha=>(h.2 X w vs hw hl ha).mono ?_⟩;rintro en w' ⟨v,rfl,⟨h1,h2,h3⟩,hb⟩;refine⟨_,rfl,⟨h1,h2,?_⟩,hb⟩
 rcases h3 with h3|⟨g,cap,aJ,a1,a2,a3,a4,a5,a6,a7⟩
 .exact .inl h3
 .exact .inr ⟨g,cap,aJ,a1,a2,a3,a4,a5,a6,λj u hj=>by simp at hj⟩
end Go.an
namespace Go.an.ax
open Go Go.an Go.Proofs
theorem ad0:Fn kg 67 [.ai] .ai:=aH Te ⟨λ_=>⟨rfl,.inl rfl⟩,λh=>by cases h⟩
theorem aiJ:Fn kg 67 [.ai] (.dh true 81 4 0 []):=aH Te ⟨λ_=>⟨rfl,.inr ⟨_,_,_,rfl⟩⟩,λh=>by cases h⟩
theorem aiK:Fn kg 67 [.nU] (.dh true 81 4 0 []):=aH Te ⟨λh=>(by cases h),λ_=>⟨by decide,rfl,_,rfl,rfl,rfl,.inl ⟨rfl,rfl⟩⟩⟩
theorem c67(aa:List (List AV))(hl:aa.length<=100000)(hs:jm aa):Fn kg 67 [.aL 4 aa.length aa] (.dh true 81 4 aa.length aa):=by
 cases aa with
 |nil=>exact eu aiJ aiK
 |cons a l=>
  refine aH Te ⟨by simp,λh=>(by cases h),λ_=>?_⟩;exact⟨⟨by simp at hl⊢;omega,by simp at hl⊢;omega⟩,hs,rfl,_,rfl,rfl,by simp,.inl ⟨rfl,by simp⟩⟩
theorem aiL:Fn kg 64 [.ai] (.dh true 3 1 0 []):=aH Yb ⟨λ_=>⟨rfl,.inr ⟨_,_,_,rfl⟩⟩,λh=>by cases h⟩
theorem aiM:Fn kg 64 [.nU] (.dh true 3 1 0 []):=aH Yb ⟨λh=>(by cases h),λ_=>⟨by decide,rfl,_,rfl,rfl,rfl,.inl ⟨rfl,rfl⟩⟩⟩
theorem Yi(aa:List (List AV))(hl:aa.length<=100000)(hs:jm aa):Fn kg 64 [.aL 1 aa.length aa] (.dh true 3 1 aa.length aa):=by
 cases aa with
 |nil=>exact eu aiL aiM
 |cons a l=>
  refine aH Yb ⟨by simp,λh=>(by cases h),λ_=>?_⟩;exact⟨⟨by simp at hl⊢;omega,by simp at hl⊢;omega⟩,hs,rfl,_,rfl,rfl,by simp,.inl ⟨rfl,by simp⟩⟩
theorem aiN:Fn kg 65 [.ai] .ai:=aH Tc ⟨λ_=>⟨rfl,.inl rfl⟩,λh=>by cases h⟩
theorem aiO:Fn kg 65 [.ai] (.dh true 84 5 0 []):=aH Tc ⟨λ_=>⟨rfl,.inr ⟨_,_,_,rfl⟩⟩,λh=>by cases h⟩
theorem aiP:Fn kg 65 [.nU] (.dh true 84 5 0 []):=aH Tc ⟨λh=>(by cases h),λ_=>⟨by decide,rfl,_,rfl,rfl,rfl,.inl ⟨rfl,rfl⟩⟩⟩
theorem c65(aa:List (List AV))(hl:aa.length<=100000):Fn kg 65 [.aL 5 aa.length aa] (.dh false 84 5 aa.length aa):=by
 cases aa with
 |nil=>exact EF (p:=true) (eu aiO aiP)
 |cons a l=>
  refine lX Tc [(3,[1,1])] [] ⟨by simp,λh=>(by cases h),λ_=>?_⟩;refine⟨rfl,_,aj.flat 80 ⟨84,5,.pure,[],[]⟩ rfl rfl,⟨by simp at hl⊢;omega,by simp at hl⊢;omega⟩,?_⟩;exact⟨_,aj.refl _ _,rfl,_,rfl,rfl,by simp,.inr ⟨rfl,by simp⟩⟩
theorem aiQ:Fn kg 87 [.ai] (.dh true 198 3 0 []):=aH Yg ⟨λ_=>⟨rfl,.inr ⟨_,_,_,rfl⟩⟩,λh=>by cases h⟩
theorem aiR:Fn kg 87 [.nU] (.dh true 198 3 0 []):=aH Yg ⟨λh=>(by cases h),λ_=>⟨by decide,rfl,_,rfl,rfl,rfl,.inl ⟨rfl,rfl⟩⟩⟩
theorem c87(aa:List (List AV))(hl:aa.length<=100000)(hs:jm aa):Fn kg 87 [.aL 3 aa.length aa] (.dh true 198 3 aa.length aa):=by
 cases aa with
 |nil=>exact eu aiQ aiR
 |cons a l=>
  refine aH Yg ⟨by simp,λh=>(by cases h),λ_=>?_⟩;exact⟨⟨by simp at hl⊢;omega,by simp at hl⊢;omega⟩,hs,rfl,_,rfl,rfl,by simp,.inl ⟨rfl,by simp⟩⟩
theorem aiS:Fn kg 59 [.ai] (.dh true 94 5 0 []):=aH X6 ⟨λ_=>⟨rfl,.inr ⟨_,_,_,rfl⟩⟩,λh=>by cases h⟩
theorem aiT:Fn kg 59 [.nU] (.dh true 94 5 0 []):=aH X6 ⟨λh=>(by cases h),λ_=>⟨by decide,rfl,_,rfl,rfl,rfl,.inl ⟨rfl,rfl⟩⟩⟩
theorem c59(aa:List (List AV))(hl:aa.length<=100000):Fn kg 59 [.aL 5 aa.length aa] (.dh false 94 5 aa.length aa):=by
 cases aa with
 |nil=>exact EF (p:=true) (eu aiS aiT)
 |cons a l=>
  refine lX X6 [(3,[1,1])] [] ⟨by simp,λh=>(by cases h),λ_=>?_⟩;refine⟨rfl,_,aj.flat 80 ⟨94,5,.pure,[],[]⟩ rfl rfl,⟨by simp at hl⊢;omega,by simp at hl⊢;omega⟩,?_⟩;exact⟨_,aj.refl _ _,rfl,_,rfl,rfl,by simp,.inr ⟨rfl,by simp⟩⟩
theorem aiU:Fn kg 60 [.ai] (.dh true 139 6 0 []):=aH X7 ⟨λ_=>⟨rfl,.inr ⟨_,_,_,rfl⟩⟩,λh=>by cases h⟩
theorem aiV:Fn kg 60 [.nU] (.dh true 139 6 0 []):=aH X7 ⟨λh=>(by cases h),λ_=>⟨by decide,rfl,_,rfl,rfl,rfl,.inl ⟨rfl,rfl⟩⟩⟩
theorem c60(aa:List (List AV))(hl:aa.length<=100000)(hs:jm aa):Fn kg 60 [.aL 6 aa.length aa] (.dh true 139 6 aa.length aa):=by
 cases aa with
 |nil=>exact eu aiU aiV
 |cons a l=>
  refine aH X7 ⟨by simp,λh=>(by cases h),λ_=>?_⟩;exact⟨⟨by simp at hl⊢;omega,by simp at hl⊢;omega⟩,hs,rfl,_,rfl,rfl,by simp,.inl ⟨rfl,by simp⟩⟩
theorem aiW:Fn kg 61 [.ai] (.dh true 142 6 0 []):=aH X8 ⟨λ_=>⟨rfl,.inr ⟨_,_,_,rfl⟩⟩,λh=>by cases h⟩
theorem aiX:Fn kg 61 [.nU] (.dh true 142 6 0 []):=aH X8 ⟨λh=>(by cases h),λ_=>⟨by decide,rfl,_,rfl,rfl,rfl,.inl ⟨rfl,rfl⟩⟩⟩
theorem V8(aa:List (List AV))(hl:aa.length<=100000)(hs:jm aa):Fn kg 61 [.aL 6 aa.length aa] (.dh true 142 6 aa.length aa):=by
 cases aa with
 |nil=>exact eu aiW aiX
 |cons a l=>
  refine aH X8 ⟨by simp,λh=>(by cases h),λ_=>?_⟩;exact⟨⟨by simp at hl⊢;omega,by simp at hl⊢;omega⟩,hs,rfl,_,rfl,rfl,by simp,.inl ⟨rfl,by simp⟩⟩
theorem aiY:Fn kg 62 [.ai] (.dh true 145 6 0 []):=aH X9 ⟨λ_=>⟨rfl,.inr ⟨_,_,_,rfl⟩⟩,λh=>by cases h⟩
theorem aiZ:Fn kg 62 [.nU] (.dh true 145 6 0 []):=aH X9 ⟨λh=>(by cases h),λ_=>⟨by decide,rfl,_,rfl,rfl,rfl,.inl ⟨rfl,rfl⟩⟩⟩
theorem c62(aa:List (List AV))(hl:aa.length<=100000)(hs:jm aa):Fn kg 62 [.aL 6 aa.length aa] (.dh true 145 6 aa.length aa):=by
 cases aa with
 |nil=>exact eu aiY aiZ
 |cons a l=>
  refine aH X9 ⟨by simp,λh=>(by cases h),λ_=>?_⟩;exact⟨⟨by simp at hl⊢;omega,by simp at hl⊢;omega⟩,hs,rfl,_,rfl,rfl,by simp,.inl ⟨rfl,by simp⟩⟩
theorem ai0:Fn kg 63 [.ai] (.dh true 148 6 0 []):=aH Ya ⟨λ_=>⟨rfl,.inr ⟨_,_,_,rfl⟩⟩,λh=>by cases h⟩
theorem ai1:Fn kg 63 [.nU] (.dh true 148 6 0 []):=aH Ya ⟨λh=>(by cases h),λ_=>⟨by decide,rfl,_,rfl,rfl,rfl,.inl ⟨rfl,rfl⟩⟩⟩
theorem Yj(aa:List (List AV))(hl:aa.length<=100000)(hs:jm aa):Fn kg 63 [.aL 6 aa.length aa] (.dh true 148 6 aa.length aa):=by
 cases aa with
 |nil=>exact eu ai0 ai1
 |cons a l=>
  refine aH Ya ⟨by simp,λh=>(by cases h),λ_=>?_⟩;exact⟨⟨by simp at hl⊢;omega,by simp at hl⊢;omega⟩,hs,rfl,_,rfl,rfl,by simp,.inl ⟨rfl,by simp⟩⟩
theorem Tk:Fn kg 66 [.ai] .ai:=aH Td ⟨λ_=>⟨rfl,.inl rfl⟩,λh=>by cases h⟩
theorem ai2:Fn kg 66 [.ai] (.dh true 152 2 0 []):=aH Td ⟨λ_=>⟨rfl,.inr ⟨_,_,_,rfl⟩⟩,λh=>by cases h⟩
theorem ai3:Fn kg 66 [.nU] (.dh true 152 2 0 []):=aH Td ⟨λh=>(by cases h),λ_=>⟨by decide,rfl,_,rfl,rfl,rfl,.inl ⟨rfl,rfl⟩⟩⟩
theorem c66(aa:List (List AV))(hl:aa.length<=100000)(hs:jm aa):Fn kg 66 [.aL 2 aa.length aa] (.dh true 152 2 aa.length aa):=by
 cases aa with
 |nil=>exact eu ai2 ai3
 |cons a l=>
  refine aH Td ⟨by simp,λh=>(by cases h),λ_=>?_⟩;exact⟨⟨by simp at hl⊢;omega,by simp at hl⊢;omega⟩,hs,rfl,_,rfl,rfl,by simp,.inl ⟨rfl,by simp⟩⟩
theorem ai4:Fn kg 68 [.ai] (.dh true 156 6 0 []):=aH Yc ⟨λ_=>⟨rfl,.inr ⟨_,_,_,rfl⟩⟩,λh=>by cases h⟩
theorem ai5:Fn kg 68 [.nU] (.dh true 156 6 0 []):=aH Yc ⟨λh=>(by cases h),λ_=>⟨by decide,rfl,_,rfl,rfl,rfl,.inl ⟨rfl,rfl⟩⟩⟩
theorem c68(aa:List (List AV))(hl:aa.length<=100000)(hs:jm aa):Fn kg 68 [.aL 6 aa.length aa] (.dh true 156 6 aa.length aa):=by
 cases aa with
 |nil=>exact eu ai4 ai5
 |cons a l=>
  refine aH Yc ⟨by simp,λh=>(by cases h),λ_=>?_⟩;exact⟨⟨by simp at hl⊢;omega,by simp at hl⊢;omega⟩,hs,rfl,_,rfl,rfl,by simp,.inl ⟨rfl,by simp⟩⟩
theorem Yk:Fn kg 69 [.ai] (.dh true 159 7 0 []):=aH Ml ⟨λ_=>⟨rfl,.inr ⟨_,_,_,rfl⟩⟩,λh=>by cases h⟩
theorem Yl:Fn kg 69 [.nU] (.dh true 159 7 0 []):=aH Ml ⟨λh=>(by cases h),λ_=>⟨by decide,rfl,_,rfl,rfl,rfl,.inl ⟨rfl,rfl⟩⟩⟩
theorem Tm(aa:List (List AV))(hl:aa.length<=100000)(hs:jm aa):Fn kg 69 [.aL 7 aa.length aa] (.dh true 159 7 aa.length aa):=by
 cases aa with
 |nil=>exact eu Yk Yl
 |cons a l=>
  refine aH Ml ⟨by simp,λh=>(by cases h),λ_=>?_⟩;exact⟨⟨by simp at hl⊢;omega,by simp at hl⊢;omega⟩,hs,rfl,_,rfl,rfl,by simp,.inl ⟨rfl,by simp⟩⟩
theorem ai6:Fn kg 70 [.ai] (.dh true 162 4 0 []):=aH Yd ⟨λ_=>⟨rfl,.inr ⟨_,_,_,rfl⟩⟩,λh=>by cases h⟩
theorem ai7:Fn kg 70 [.nU] (.dh true 162 4 0 []):=aH Yd ⟨λh=>(by cases h),λ_=>⟨by decide,rfl,_,rfl,rfl,rfl,.inl ⟨rfl,rfl⟩⟩⟩
theorem Ym(aa:List (List AV))(hl:aa.length<=100000)(hs:jm aa):Fn kg 70 [.aL 4 aa.length aa] (.dh true 162 4 aa.length aa):=by
 cases aa with
 |nil=>exact eu ai6 ai7
 |cons a l=>
  refine aH Yd ⟨by simp,λh=>(by cases h),λ_=>?_⟩;exact⟨⟨by simp at hl⊢;omega,by simp at hl⊢;omega⟩,hs,rfl,_,rfl,rfl,by simp,.inl ⟨rfl,by simp⟩⟩
theorem ai8:Fn kg 71 [.ai] (.dh true 97 8 0 []):=aH Ye ⟨λ_=>⟨rfl,.inr ⟨_,_,_,rfl⟩⟩,λh=>by cases h⟩
theorem ai9:Fn kg 71 [.nU] (.dh true 97 8 0 []):=aH Ye ⟨λh=>(by cases h),λ_=>⟨by decide,rfl,_,rfl,rfl,rfl,.inl ⟨rfl,rfl⟩⟩⟩
theorem c71(aa:List (List AV))(hl:aa.length<=100000):Fn kg 71 [.aL 8 aa.length aa] (.dh false 97 8 aa.length aa):=by
 cases aa with
 |nil=>exact EF (p:=true) (eu ai8 ai9)
 |cons a l=>
  refine lX Ye [(3,[1,1])] [] ⟨by simp,λh=>(by cases h),λ_=>?_⟩;refine⟨rfl,_,aj.flat 80 ⟨97,8,.pure,[],[]⟩ rfl rfl,⟨by simp at hl⊢;omega,by simp at hl⊢;omega⟩,?_⟩;exact⟨_,aj.refl _ _,rfl,_,rfl,rfl,by simp,.inr ⟨rfl,by simp⟩⟩
theorem aja:Fn kg 72 [.ai] (.dh true 166 2 0 []):=aH Yf ⟨λ_=>⟨rfl,.inr ⟨_,_,_,rfl⟩⟩,λh=>by cases h⟩
theorem ajb:Fn kg 72 [.nU] (.dh true 166 2 0 []):=aH Yf ⟨λh=>(by cases h),λ_=>⟨by decide,rfl,_,rfl,rfl,rfl,.inl ⟨rfl,rfl⟩⟩⟩
theorem c72(aa:List (List AV))(hl:aa.length<=100000)(hs:jm aa):Fn kg 72 [.aL 2 aa.length aa] (.dh true 166 2 aa.length aa):=by
 cases aa with
 |nil=>exact eu aja ajb
 |cons a l=>
  refine aH Yf ⟨by simp,λh=>(by cases h),λ_=>?_⟩;exact⟨⟨by simp at hl⊢;omega,by simp at hl⊢;omega⟩,hs,rfl,_,rfl,rfl,by simp,.inl ⟨rfl,by simp⟩⟩
theorem Tn:Fn kg 73 [.ai] .ai:=aH Tf ⟨λ_=>⟨rfl,.inl rfl⟩,λh=>by cases h⟩
theorem ajc:Fn kg 73 [.ai] (.dh true 169 3 0 []):=aH Tf ⟨λ_=>⟨rfl,.inr ⟨_,_,_,rfl⟩⟩,λh=>by cases h⟩
theorem ajd:Fn kg 73 [.nU] (.dh true 169 3 0 []):=aH Tf ⟨λh=>(by cases h),λ_=>⟨by decide,rfl,_,rfl,rfl,rfl,.inl ⟨rfl,rfl⟩⟩⟩
theorem c73(aa:List (List AV))(hl:aa.length<=100000)(hs:jm aa):Fn kg 73 [.aL 3 aa.length aa] (.dh true 169 3 aa.length aa):=by
 cases aa with
 |nil=>exact eu ajc ajd
 |cons a l=>
  refine aH Tf ⟨by simp,λh=>(by cases h),λ_=>?_⟩;exact⟨⟨by simp at hl⊢;omega,by simp at hl⊢;omega⟩,hs,rfl,_,rfl,rfl,by simp,.inl ⟨rfl,by simp⟩⟩
end Go.an.ax
namespace Go.an.ax
structure Sh where
 id:Int
 Yn:Int
 len:Int
 dZ:Int
 deriving DecidableEq
structure Ct where
 unit:Int
 jN:Int
 deriving DecidableEq
structure Bx where
 id:Int
 bc:Int
 room:Int
 dZ:Int
 ma:List Ct
 deriving DecidableEq
structure Cy where
 box:Int
 jW:Int
 to:Int
 deriving DecidableEq
end Go.an.ax
namespace Go.an.ax
open Go Go.an Go.Proofs
def eT(c:Ct):List AV:=[I c.unit,I c.jN]
abbrev CS(l:List Ct):AV:=.aL 2 l.length (l.map eT)
def bj(b:Bx):List AV:=[I b.id,I b.bc,I b.room,I b.dZ,CS b.ma]
abbrev BS(l:List Bx):AV:=.aL 5 l.length (l.map bj)
def eN(s:Sh):List AV:=[I s.id,I s.Yn,I s.len,I s.dZ]
abbrev SS(l:List Sh):AV:=.aL 4 l.length (l.map eN)
structure Rw where
 unit:Int
 gJ:Int
 bX:Int
 deriving DecidableEq
def gL(r:Rw):List AV:=[I r.unit,I r.gJ,I r.bX]
abbrev WS(l:List Rw):AV:=.aL 3 l.length (l.map gL)
structure dE where
 id:Int
 rd:Int
 un:Int
 bx:Int
 dy:Int
 st:Int
 ch:Int
 deriving DecidableEq
def cd(r:dE):List AV:=[I r.id,I r.rd,I r.un,I r.bx,I r.dy,I r.st,I r.ch]
abbrev QS(l:List dE):AV:=.aL 7 l.length (l.map cd)
structure Bk where
 id:Int
 rd:Int
 jW:Int
 mK:Int
 deriving DecidableEq
def ib(r:Bk):List AV:=[I r.id,I r.rd,I r.jW,I r.mK]
abbrev KS(l:List Bk):AV:=.aL 4 l.length (l.map ib)
abbrev NS(l:List Int):AV:=.aL 1 l.length (l.map λn=>[I n])
def A0(c:Cy):List AV:=[I c.box,I c.jW,I c.to]
abbrev YS(l:List Cy):AV:=.aL 3 l.length (l.map A0)
theorem jb{α:Type}{pY:α->List AV}(h:∀a,∀u∈pY a,u.fp=true)(l:List α):jm (l.map pY):=by
 intro row hr u hu;obtain⟨a,_,rfl⟩:=cK.1 hr;exact h a u hu
theorem Mn(l:List Int):jm (l.map λn=>[I n]):=jb (pY:=λn=>[I n]) (λa u hu=>by simp at hu;subst hu;rfl) l
theorem sc2(l:List Ct):jm (l.map eT):=jb (λa u hu=>by simp[eT]at hu;rcases hu with rfl|rfl<;>rfl) l
theorem sc4(l:List Sh):jm (l.map eN):=jb (λa u hu=>by simp[eN]at hu;rcases hu with rfl|rfl|rfl|rfl<;>rfl) l
theorem sc6(l:List Mv):jm (l.map gY):=jb (λa u hu=>by simp[gY]at hu;rcases hu with rfl|rfl|rfl|rfl|rfl|rfl<;>rfl) l
theorem sc7(l:List dE):jm (l.map cd):=jb (λa u hu=>by simp[cd]at hu;rcases hu with rfl|rfl|rfl|rfl|rfl|rfl|rfl<;>rfl) l
theorem To(l:List Bk):jm (l.map ib):=jb (λa u hu=>by simp[ib]at hu;rcases hu with rfl|rfl|rfl|rfl<;>rfl) l
abbrev Ix0{α:Type}(f:FuncId)(L:List α->AV)(pY:α->List AV):Prop:=∀(l:List α),l.length<=9223372036854775807->∀(p:α->Bool)(g:FuncId),(∀a∈l,Fn kg g [.agg (pY a)] (B (p a)))->Fn kg f [L l,.func g []] (I (aQ p 0 l))
abbrev Ix1{α:Type}(f:FuncId)(L:List α->AV)(pY:α->List AV):Prop:=∀(l:List α),l.length<=9223372036854775807->∀(p:α->Bool)(g:FuncId)(xs:List AV),(∀a∈l,Fn kg g [.agg (pY a),.aw xs 0] (B (p a)))->Fn kg f [L l,.func g [.aw xs 0]] (I (aQ p 0 l))
abbrev Ix2{α:Type}(f:FuncId)(L:List α->AV)(pY:α->List AV):Prop:=∀(l:List α),l.length<=9223372036854775807->∀(p:α->Bool)(g:FuncId)(xs ys:List AV),(∀a∈l,Fn kg g [.agg (pY a),.aw xs 0,.aw ys 0] (B (p a)))->Fn kg f [L l,.func g [.aw xs 0,.aw ys 0]] (I (aQ p 0 l))
theorem ixs:Ix0 273 CS eT/\Ix1 273 CS eT/\Ix0 118 BS bj/\Ix1 118 BS bj/\Ix2 118 BS bj/\Ix1 120 SS eN/\Ix1 148 MS gY/\Ix2 148 MS gY/\Ix1 52 WS gL/\Ix1 274 QS cd/\Ix2 274 QS cd/\Ix1 303 KS ib/\Ix2 303 KS ib:=by
 refine⟨?_,?_,?_,?_,?_,?_,?_,?_,?_,?_,?_,?_,?_⟩
 all_goals
  intro l hl p g
  first|intro xs ys hp|intro xs hp|intro hp
  first|refine aH aih ?_|refine aH O9 ?_|refine aH abL ?_|refine aH Vv ?_|refine aH Pn ?_|refine aH Pp ?_|refine aH VL ?_
  refine⟨λn c=>∃i:Nat,i<=l.length/\n=l.length-i/\c=⟨[(0,_),(1,_),(4,I 0),(7,I l.length),(8,I i)],[]⟩/\aQ p i (l.drop i)=aQ p 0 l,⟨_,_,Wk.ad [0,1,4,7,8] [],0,by omega,rfl,rfl,by simp⟩,?_⟩;rintro n c ⟨i,hi,rfl,rfl,hI⟩;refine⟨λh=>?_,λh=>?_⟩
  .simp at h
   obtain⟨a,ha,hd,_⟩:=aq h;rw[hd,aQ]at hI;refine⟨by omega,_,get_map ha,_,hp a (ay ha),λhf=>?_,λhf=>?_⟩
   .rw[if_pos hf]at hI
    exact⟨rfl,rfl,by rw[<-hI];rfl⟩
   .rw[if_neg (by simp[hf])]at hI
    refine⟨_,ah,?_⟩;exact⟨_,_,Wk.ad [0,1,4,7,8] [],by omega,i+1,by omega,rfl,rfl,hI⟩
  .simp at h
   have:i=l.length:=by omega
   subst this;simp[aQ]at hI;exact⟨rfl,rfl,by rw[<-hI];rfl⟩
theorem ad1:Ix0 273 CS eT:=ixs.1
theorem ad2(l:List Ct)(hl:l.length<=9223372036854775807)(p:Ct->Bool)(g:FuncId)(hp:∀a∈l,Fn kg g [.agg (eT a)] (B (p a))):Fn kg 193 [CS l,.func g []] (B (l.any p)):=
 aH VB ⟨_,ad1 l hl p g hp,rfl,rfl,by rw[<-fj];rfl⟩
theorem ad3:Ix1 273 CS eT:=ixs.2.1
theorem GX:Ix1 118 BS bj:=ixs.2.2.2.1
theorem ad4:Ix2 118 BS bj:=ixs.2.2.2.2.1
theorem V9(l:List Bx)(hl:l.length<=9223372036854775807)(p:Bx->Bool)(g:FuncId)(xs ys:List AV)(hp:∀a∈l,Fn kg g [.agg (bj a),.aw xs 0,.aw ys 0] (B (p a))):Fn kg 108 [BS l,.func g [.aw xs 0,.aw ys 0]] (B (l.any p)):=
 aH abF ⟨_,ad4 l hl p g xs ys hp,rfl,rfl,by rw[<-fj];rfl⟩
theorem KD:Ix1 120 SS eN:=ixs.2.2.2.2.2.1
theorem ad5:Ix2 148 MS gY:=ixs.2.2.2.2.2.2.2.1
theorem Wa(l:List Mv)(hl:l.length<=9223372036854775807)(p:Mv->Bool)(g:FuncId)(xs ys:List AV)(hp:∀a∈l,Fn kg g [.agg (gY a),.aw xs 0,.aw ys 0] (B (p a))):Fn kg 104 [MS l,.func g [.aw xs 0,.aw ys 0]] (B (l.any p)):=
 aH abE ⟨_,ad5 l hl p g xs ys hp,rfl,rfl,by rw[<-fj];rfl⟩
theorem aje:Ix1 52 WS gL:=ixs.2.2.2.2.2.2.2.2.1
theorem Db:Ix1 274 QS cd:=ixs.2.2.2.2.2.2.2.2.2.1
theorem ad6:Ix2 303 KS ib:=ixs.2.2.2.2.2.2.2.2.2.2.2.2
end Go.an.ax
