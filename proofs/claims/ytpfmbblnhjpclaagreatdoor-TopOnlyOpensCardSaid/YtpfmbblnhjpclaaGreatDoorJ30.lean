import Derived.Test.YtpfmbblnhjpclaaGreatDoorJ29
import Derived.Test.YtpfmbblnhjpclaaGreatDoorJ23
import Derived.Ground.NamesProg
import Derived.Ground.SlsfProg
import Derived.Shelf.Sort.Plain
import Derived.Shelf.Slices.In.SortNone
import Derived.Shelf.SlLaysF
import Derived.Test.YtpfmbblnhjpclaaGreatDoorProg
set_option linter.unusedVariables false
set_option linter.unusedSimpArgs false
set_option maxRecDepth 20000
namespace Go.an.ax.G
open Go Go.an Go.an.Day Go.Proofs Go.RowKit
def Jm(l:List Rw)(u:Int):Nat->Nat->Nat
 |0,k=>k
 |m+1,k=>match oy l u k with
  |some _=>Jm l u m (k+1)
  |none=>k
theorem DD{l:List Rw}{u:Int}:∀(m k:Nat),(∀i,i<k->oy l u i≠none)->oy l u (k+m)=none->(∀i,i<Jm l u m k->oy l u i≠none)/\oy l u (Jm l u m k)=none/\Jm l u m k<=k+m
 |0,k,h1,h2=>⟨h1,h2,by simp[Jm]⟩
 |m+1,k,h1,h2=>by
  unfold Jm
  cases hx:oy l u k with
  |none=>exact⟨h1,hx,by simp⟩
  |some x=>
   simp only;have:=DD m (k+1) (λi hi=>by
    rcases eJ i k with h|h
    .exact h1 i h
    .rw[show i=k by omega,hx];simp) (by rw[show k+1+m=k+(m+1)by omega];exact h2)
   exact⟨this.1,this.2.1,by omega⟩
def pl(l:List Rw)(u:Int):Nat:=Jm l u l.length 0
theorem aeV{l:List Rw}(hr:jr l=0){r:Rw}(hm:r∈l):(∀i,i<pl l r.unit->oy l r.unit i≠none)/\oy l r.unit (pl l r.unit)=none/\pl l r.unit<=l.length:=by
 have h:oy l r.unit l.length=none:=by
  unfold jr at hr;obtain⟨_,hr⟩:=Zk hr (by decide)
  by_cases h1:rm none l=0
  .rw[if_neg (by simp[h1])]at hr
   obtain⟨_,hr⟩:=Zk hr (by decide);obtain⟨h3,_⟩:=Zk hr (by decide)
   cases hx:oy l r.unit l.length with
   |none=>rfl
   |some x=>exact absurd (zm.2 ⟨r,hm,by unfold Dc;rw[hx];rfl⟩) h3
  .rw[if_pos h1]at hr;exact absurd hr h1
 have:=DD (l:=l) (u:=r.unit) l.length 0 (λi hi=>by omega) (by rw[dp];exact h);exact⟨this.1,this.2.1,by have:=this.2.2;unfold pl;omega⟩
theorem Hu{l:List Rw}(hr:jr l=0):l.length<=256:=by
 unfold jr at hr;obtain⟨h,_⟩:=Zk hr (by decide);omega
noncomputable def yE(p:Po)(l:List Rw)(rd d:Int)(r:Rw):Bool:=RL p rd (oZ l r.unit (pl l r.unit)) d (DC p d l r.unit (pl l r.unit))
noncomputable def iQ(p:Po)(l:List Rw)(rd d:Int):List Int:=(l.filter (yE p l rd d)).map (·.unit)
theorem aeW(p:Po)(hz:p.sz)(rd d:Int)(l:List Rw)(hr:jr l=0)(r:Rw)(hm:r∈l):∃rs,(rs=.ai∨∃n aa,rs=.aL 5 n aa)/\Fn kg 42 [WS l,.agg (dV p),I rd,I r.unit,I d] (.agg [I rd,I r.unit,I d,B (yE p l rd d r),rs]):=by
 obtain⟨h1,h2,h3⟩:=aeV hr hm;have h4:=Hu hr;exact c42 p hz rd d l (by omega) r.unit _ (by omega) h2 h1
noncomputable def vX(p:Po)(l:List Rw)(rd d:Int):List Int×Int:=
 if jr l≠0∨sL p≠0 then([],1)else if cj rd=false∨d<0∨1048575<d then([],2)else(iQ p l rd d,0)
theorem c27(p:Po)(hz:p.sz)(l:List Rw)(hl:l.length<=100000)(rd d:Int):Fn kg 27 [WS l,.agg (dV p),I rd,I d] (.bY [fNS (vX p l rd d).1,I (vX p l rd d).2]):=by
 have h9:=c9r l hl;have Jn:=Wh p hz;refine aH ah4 ⟨[],_,h9,_,Jn,λh=>?_,λh=>?_⟩
 .have h:((jr l !=0)||(sL p !=0))=true:=h
  have e:vX p l rd d=([],1):=by unfold vX;rw[if_pos (by simpa using h)]
  rw[e];exact⟨_,_,rfl,.inr ⟨_,_,_,rfl⟩,rfl,rfl,trivial⟩
 .have h:((jr l !=0)||(sL p !=0))=false:=h
  have hr:jr l=0/\sL p=0:=by simpa using h
  refine⟨[],_,c28 rd,λh2=>?_,λh2=>?_⟩
  .have h2:(!cj rd||decide (d<0)||decide (d>1048575))=true:=h2
   have e:vX p l rd d=([],2):=by unfold vX;rw[if_neg (by simp[hr.1,hr.2]),if_pos (by simpa[ee]using h2)]
   rw[e];exact⟨_,_,rfl,.inr ⟨_,_,_,rfl⟩,rfl,rfl,trivial⟩
  .have h2:(!cj rd||decide (d<0)||decide (d>1048575))=false:=h2
   have e:vX p l rd d=(iQ p l rd d,0):=by unfold vX;rw[if_neg (by simp[hr.1,hr.2]),if_neg (by simpa[ee,and_assoc]using h2)]
   rw[e];have Wz:=Hu hr.1
   let bX (i:Nat):List Int:=((l.take i).filter (yE p l rd d)).map (·.unit)
   have xM:∀i,(bX i).length<=256:=λi=>by
    have:=zx (yE p l rd d) (l.take i);simp only[bX,gB];rw[aO]at this;omega
   refine⟨λm c=>∃i:Nat,i<=l.length/\m=l.length-i/\c=⟨[(0,WS l),(2,I rd),(3,I d),(5,.af 80 0),(10,.bn 832 1 (bX i).length),(34,WS l),(35,I l.length),(36,I i)],[(80,⟨40,6,.any,[dV p],[]⟩),(832,⟨3,1,.pure,(bX i).map λn=>[I n],[]⟩)]⟩,
    ⟨_,_,Wk.vB 10 832 ⟨3,1,.pure,[],[]⟩ [0,2,3,5,10,34,35,36] [80,832] rfl rfl rfl,0,by omega,rfl,rfl⟩,?_⟩
   rintro m c ⟨i,hi,rfl,rfl⟩;refine⟨λaC=>?_,λaC=>?_⟩
   .simp at aC
    obtain⟨r,ox,hd,ht⟩:=aq aC;have hai:=xM i;obtain⟨rs,_,h42⟩:=aeW p hz rd d l hr.1 r (ay ox);refine⟨by omega,gL r,by simp[ox],_,h42,λhs=>?_,λhs=>?_⟩
    .have hs:yE p l rd d r=true:=hs
     have ha:bX (i+1)=bX i++[r.unit]:=by simp only[bX,ht,gG,qB,bP hs];rfl
     refine⟨⟨by show((bX i).length+1)*8<=140737488355328;omega,by omega⟩,Mn [r.unit],_,ah,?_⟩;refine⟨_,_,Wk.ad [0,2,3,5,10,34,35,36] [80,832],by omega,i+1,by omega,rfl,?_⟩;rw[ha];have h1:(bX i++[r.unit]).length=(bX i).length+1:=by simp
     have h3:((bX i++[r.unit]).map λn=>[I n])=((bX i).map λn=>[I n]).take (bX i).length++[[I r.unit]]:=by rw[ph (by simp)];simp
     rw[h1,h3];rfl
    .have hs:yE p l rd d r=false:=hs
     have ha:bX (i+1)=bX i:=by simp only[bX,ht,gG,qB,ct (by rw[hs];simp:¬yE p l rd d r=true)];simp
     refine⟨_,ah,?_⟩;refine⟨_,_,Wk.ad [0,2,3,5,10,34,35,36] [80,832],by omega,i+1,by omega,rfl,?_⟩;rw[ha];rfl
   .simp at aC
    have:i=l.length:=by omega
    subst this;have ha:bX l.length=iQ p l rd d:=by simp only[bX,oB];rfl
    rw[ha];exact⟨_,_,rfl,⟨_,rfl,rfl,by simp,.inl ⟨rfl,rfl⟩⟩,rfl,rfl,trivial⟩
end Go.an.ax.G
namespace Go.an.ax
open Go Go.an Go.Proofs
theorem vY{k:Nat}:jm ([]:List (List AV)):=λ_ h=>by cases h
abbrev zU:List AV:=[.ai,.ai,.ai,I 0,.ai,.ai,.ai,.ai,.ai,.ai,I 0,.ai,.ai,.ai,.ai,I 0]
def uu(ms:List Mv)(m:Mv):Int:=if ms.length=1024 then 12 else fN (fV ms).1 m
def Qo(ms:List Mv)(m:Mv):AV:=if uu ms m=0 then fMS (ms++[m])else .ai
abbrev R48(m:Mv):List (Nat×ak):=[(48,⟨156,6,.any,[gY m],[]⟩)]
theorem Zv(ms:List Mv)(hm:jl ms)(m:Mv):Fn kg 300 [MS ms,.agg (gY m)] (.bY [Qo ms m,I (uu ms m)]):=by
 have c:=c75 ms;have xL:=hm.rd;have hln:=hm.ln;unfold Qo uu;generalize fV ms=z at c xL⊢;obtain⟨x,e⟩:=z;simp only at xL;subst xL;have fr:=c.frame (R:=R48 m) rfl rfl rfl rfl rfl;refine lX adV [(1,[1]),(6,[2])] [] ⟨_,aj.ad [0,3,4,5,10] [48],OL x++R48 m,.bY [.af 18 0,I 0],[48],fr.as (by rfl) (by rfl) (by rfl),rfl,λh=>(by cases h),λ_=>⟨λh=>?_,λh=>?_⟩⟩
 .have h:ms.length=1024:=by simp at h;omega
  rw[if_pos h];exact⟨_,aj.refl _ _,_,_,rfl,.inl rfl,rfl,rfl,trivial⟩
 .have h:¬ms.length=1024:=by simp at h;omega
  rw[if_neg h];have fr2:=(adZ x m).frame (R:=R48 m) rfl rfl rfl rfl rfl;refine⟨_,aj.ad [0,3,4,5,21,22] [18,34,48],OL (kU x m)++R48 m,I (fN x m),[18,34,48],fr2.as (by rfl) (by rfl) (by rfl),rfl,λhe=>?_,λhe=>?_⟩
  .have he:fN x m≠0:=by simpa using he
   rw[if_neg he];exact⟨_,aj.refl _ _,_,_,rfl,.inl rfl,rfl,rfl,trivial⟩
  .have he:fN x m=0:=by simpa using he
   rw[if_pos he,he];have a64:=c68 (ms.map gY) (by simp;omega) (sc6 ms);rw[gB]at a64;have hl:(ms++[m]).length=ms.length+1:=by simp
   have hr:(ms++[m]).map gY=(ms.map gY).take ms.length++[gY m]:=by rw[ph (by simp)];simp
   have hf:fMS (ms++[m])=.dh true 156 6 (ms.length+1) ((ms.map gY).take ms.length++[gY m]):=by unfold fMS;rw[hl,hr]
   rw[hf];refine⟨_,a64,false,⟨by show(ms.length+1)*48<=140737488355328;omega,by omega⟩,?_⟩;exact⟨_,aj.refl _ _,_,_,rfl,⟨_,rfl,rfl,by simp;rfl,.inl ⟨rfl,rfl⟩⟩,rfl,rfl,trivial⟩
structure Ev where
 id:Int
 aR:Int
 kind:Int
 eH:List Int
abbrev l0(e:Ev):List AV:=[I e.id,I e.aR,I e.kind,NS e.eH,Zs 1]
def qe(ms:List Mv)(s:Sh)(b:Bx)(bs:List Bx):Int:=if s.dZ≠b.dZ then 10 else if b.bc+B5 ms b.id s.id bs>s.len then 12 else 0
abbrev kQ(u:Us)(e:Ev)(b k o:Int):Mv:=⟨e.aR,b,(bT u.ms b).1,(bT u.ms b).2,k,o⟩
def E7(u:Us)(m:Mv):Us:=if uu u.ms m=0 then{u with ms:=u.ms++[m]}else u
def Jo(u:Us)(e:Ev)(s:Sh)(b:Bx):Int:=if qe u.ms s b u.bs≠0 then qe u.ms s b u.bs else uu u.ms (kQ u e b.id 1 s.id)
def Jp(u:Us)(e:Ev)(s:Sh)(b:Bx):Us:=if Jo u e s b=0 then{u with ms:=u.ms++[kQ u e b.id 1 s.id]}else u
end Go.an.ax
namespace Go.an
open Go.RowKit
def E8(P:Program)(T:dD)(N:Nat)(dm:List (Nat×Bool))(ps:List Nat)(aB:Array Oper):List Nat->Nat->aM->(aM->Prop)->Prop
 |[],s,c,K=>cZ false P T N dm aB ⟨c,[],[]⟩ s (aB.toList.drop s) c K
 |p::r,s,c,K=>Nat.ble s p=true/\Nat.ble p aB.size=true/\cZ false P T N dm aB ⟨c,[],[]⟩ s ((aB.toList.drop s).take (p-s)) c λc1=>∃c2,aj ps c1 c2/\E8 P T N dm ps aB r p c2 K
theorem tq{P:Program}{T:dD}{E:Env}{N:Nat}{ps:List Nat}{dm:List (Nat×Bool)}{aB:Array Oper}(hT:br P T)(h1:bW T=true)(hN:E.N=N)(hp:∀b,bm b ps=false->E.gK b=none){Kk:aM->Prop}{Q:Exit->Act->World->Prop}(hQ:∀c a w,Kk c->SR E c a w->Q .normal a w):
  ∀(l:List Nat)(s:Nat)(c:aM)(a:Act)(w:World),s<=aB.size->E8 P T N dm ps aB l s c Kk->SR E c a w->wpOps P aB Q (List.range' s (aB.size-s)) a w
 |[],s,c,a,w,bJ,h,hs=>by
  have:=gd (is:=[]) (n:=aB.size-s) (Q:=Q) hT h1 hN (λj hj=>by rw[cV];simp) (by simp) h (λc a w hk hs=>hQ c a w hk hs) hs;rw[dN]at this;exact this
 |p::r,s,c,a,w,bJ,h,hs=>by
  obtain⟨eY,LA,h⟩:=h;have eY:=dn eY;have LA:=dn LA;rw[show List.range' s (aB.size-s)=List.range' s (p-s)++List.range' p (aB.size-p)from by
   rw[show List.range' p (aB.size-p)=List.range' (s+1*(p-s)) (aB.size-p)from by congr 1;omega,aI]
   congr 1;omega]
  refine gd hT h1 hN (λj hj=>?_) (by simp;omega) h (λc1 a1 w1 hk lS=>?_) hs
  .rw[FF (by simp at hj;omega),cV];simp
  .obtain⟨c2,hw,SN⟩:=hk
   exact tq hT h1 hN hp hQ r p c2 a1 w1 LA SN (hw E a1 w1 hp lS)
theorem sM{P:Program}{T:dD}{E:Env}{N:Nat}{ps:List Nat}{dm:List (Nat×Bool)}{aB:Array Oper}(l:List Nat){id:Nat}(hT:br P T)(h1:bW T=true)(hN:E.N=N)(hp:∀b,bm b ps=false->E.gK b=none){Kk:aM->Prop}{Q:Exit->Act->World->Prop}{c:aM}{a:Act}{w:World}
  (h:E8 P T N dm ps aB l 0 c Kk)(hs:SR E c a w)(hQ:∀c a w,Kk c->SR E c a w->Q .normal a w):(Code.region id aB false).wp P Q a w:=by
 have:=tq hT h1 hN hp hQ l 0 c a w (cF _) h hs;rw[lz,<-lI]at this;exact wp_region this
end Go.an
namespace Go.an.ax
open Go Go.an Go.Proofs
def qf:List (List AV):=
  [[I 40,I 6,I 0,B false,I 3,.func 150 []],[I 41,I 2,I 0,B false,I (-1),.func 151 []],[I 42,I 5,I 1,B false,I (-1),.func 152 []],[I 43,I 5,I 0,B false,I (-1),.func 153 []],[I 44,I 6,I 0,B false,I 3,.func 154 []],
   [I 45,I 6,I 0,B false,I (-1),.func 155 []],[I 46,I 1,I 0,B false,I (-1),.func 156 []],[I 47,I 4,I 0,B true,I (-1),.func 157 []],[I 48,I 4,I 0,B false,I (-1),.func 158 []],[I 49,I 4,I 0,B false,I (-1),.func 159 []],
   [I 50,I 1,I 0,B false,I (-1),.func 160 []],[I 51,I 4,I 0,B false,I (-1),.func 161 []],[I 52,I 3,I 0,B false,I (-1),.func 162 []],[I 53,I 3,I 0,B false,I (-1),.func 163 []],[I 54,I 1,I 0,B false,I (-1),.func 164 []],
   [I 55,I 2,I 0,B false,I (-1),.func 165 []],[I 56,I 4,I 0,B false,I (-1),.func 166 []],[I 57,I 3,I 0,B true,I (-1),.func 167 []],[I 58,I 1,I 0,B false,I (-1),.func 168 []],[I 59,I 1,I 0,B true,I (-1),.func 169 []]]
abbrev CK(n:Nat):aM:=⟨[(1,.dX 16)],[(16,⟨223,6,.map true false,[],qf.take n⟩)]⟩
theorem Jq:Fn kg 110 [] (.iB true false 6 qf):=by
 refine wT (N:=23) [.tmp 0] cC Tryz.func110 rfl (by kernel_rfl) rfl rfl rfl λE K a w hN hp hs=>?_
 have ji:∀b,bm b []=false->E.gK b=none:=λb _=>hp b
 refine wp_seq (sM (ps:=[]) (dm:=[]) [] cC bZ hN ji (c:=⟨idx 0 [],[]⟩) (Kk:=λ_=>True) (by exact trivial) ⟨K,hs⟩ λc1 a1 w1 _ lS=>?_);have uz:SR E ⟨[],[]⟩ a1 w1:=(Wk.ad [] []) E a1 w1 lS;refine wp_seq (sM (ps:=[]) (dm:=[]) [3,5,7,9,11,13,15,17,19,21,23,25,27,29,31,33,35,37,39,41] cC bZ hN ji (Kk:=λc=>∃c2,aj [] c c2/\c2=⟨[(0,.iB true false 6 qf)],[]⟩) ?_ uz λc1 a1 w1 hk lS=>?_)
 .have st:∀(n p:Nat),True:=λ_ _=>trivial
  refine⟨rfl,rfl,CK 1,aj.ad [1] [16],?_⟩;refine⟨rfl,rfl,CK 2,aj.ad [1] [16],?_⟩;refine⟨rfl,rfl,CK 3,aj.ad [1] [16],?_⟩;refine⟨rfl,rfl,CK 4,aj.ad [1] [16],?_⟩;refine⟨rfl,rfl,CK 5,aj.ad [1] [16],?_⟩;refine⟨rfl,rfl,CK 6,aj.ad [1] [16],?_⟩;refine⟨rfl,rfl,CK 7,aj.ad [1] [16],?_⟩;refine⟨rfl,rfl,CK 8,aj.ad [1] [16],?_⟩;refine⟨rfl,rfl,CK 9,aj.ad [1] [16],?_⟩;refine⟨rfl,rfl,CK 10,aj.ad [1] [16],?_⟩;refine⟨rfl,rfl,CK 11,aj.ad [1] [16],?_⟩;refine⟨rfl,rfl,CK 12,aj.ad [1] [16],?_⟩;refine⟨rfl,rfl,CK 13,aj.ad [1] [16],?_⟩;refine⟨rfl,rfl,CK 14,aj.ad [1] [16],?_⟩;refine⟨rfl,rfl,CK 15,aj.ad [1] [16],?_⟩;refine⟨rfl,rfl,CK 16,aj.ad [1] [16],?_⟩;refine⟨rfl,rfl,CK 17,aj.ad [1] [16],?_⟩;refine⟨rfl,rfl,CK 18,aj.ad [1] [16],?_⟩;refine⟨rfl,rfl,CK 19,aj.ad [1] [16],?_⟩;refine⟨rfl,rfl,CK 20,aj.ad [1] [16],?_⟩;exact⟨_,aj.S2 [0] rfl,rfl⟩
 .obtain⟨c2,hw,rfl⟩:=hk
  obtain⟨K2,uA⟩:=hw E a1 w1 ji lS;exact wp_ret ⟨.inr rfl,K2,_,uA,rfl,rfl,rfl⟩
end Go.an.ax
namespace Go.an.ax
open Go Go.an Go.Proofs
theorem Zw(e:Ev)(k:Nat)(f:FuncId)(hk:mB (I e.kind) qf=some [I k,I 0,B false,I (-1),.func f []])(hn:e.eH.length=k)(hs:k<=10):
  Fn kg 74 [.agg (l0 e)] (.bY [.agg [I k,I 0,B false,I (-1),.func f []],B true]):=by
 refine aH I1 ⟨_,Jq,true,_,hk,?_⟩;refine⟨[(2,false),(10,false),(16,false),(21,false)],rfl,rfl,by simp[hn],by simp[hn],λh=>?_,λ_=>?_⟩
 .revert h;simp[hn]
 .exact⟨[(4,true)],rfl,_,_,rfl,⟨rfl,rfl⟩,rfl,rfl,trivial⟩
abbrev evM(id aR b s:Int):Ev:=⟨id,aR,52,[b,1,s]⟩
theorem c15(bV KZ:Int)(h1:eC bV 1 32=true)(h2:eC KZ 0 200=true):Fn kg 15 [I bV,I KZ] (.bY [.agg [.ai,.ai,.ai,I KZ,.ai,.ai,.ai,.ai,.ai,.ai,I bV,.ai,.ai,.ai,.ai,I 0],I 0]):=by
 have a1:=V4 bV 1 32;have a2:=V4 KZ 0 200;rw[h1]at a1;rw[h2]at a2;exact lX aiv [] [] ⟨[(3,false)],_,a1,rfl,_,a2,λh=>(by cases h),λ_=>⟨_,aj.refl _ _,_,_,rfl,⟨rfl,rfl⟩,rfl,rfl,trivial⟩⟩
end Go.an.ax
namespace Go.an
open Go.RowKit
theorem vZ{α:Type}{f g:α->List AV}(hl:∀a,AO (f a) (g a)):∀(l:List α)(j:Nat) u',(l.map g).flatten[j]?=some u'->∃u,(l.map f).flatten[j]?=some u/\pK u u'
 |[],j,u',h=>by simp at h
 |a::l,j,u',h=>by
  have cz:=(hl a).len;rw[cU,iH]at h⊢
  rcases eJ j (g a).length with hj|hj
  .rw[bM hj]at h
   rw[bM (by omega)];exact⟨_,aW (by omega),(hl a).get j _ _ (aW (by omega)) h⟩
  .rw[cm hj]at h
   rw[cm (by omega),cz];exact vZ hl l _ _ h
end Go.an
namespace Go.an.ax
open Go Go.an Go.Proofs
abbrev fBS(l:List Bx):AV:=.dh false 84 5 l.length (l.map bj)
end Go.an.ax
namespace Go.an.ax.Aw
open Go Go.an Go.Proofs
abbrev aF(u:Us):List AV:=[Zs 5,Zs 6,Zs 6,I u.yr,Zs 6,Zs 6,BS u.bs,SS u.ls,MS u.ms,QS u.qs,I u.bV,KS u.ks,Zs 8,Zs 2,.ai,I u.ch]
theorem sP(u:Us)(hm:jl u.ms)(n:Int)(hn:cj n=true):Fn kg 107 [.agg (aF u),I n] (Tw (bT u.ms n)):=
 aH Kp ⟨_,YA u.ms hm n hn,rfl,rfl,rfl⟩
theorem G2(u:Us)(hl:u.bs.length<=100000)(n:Int):Fn kg 106 [.agg (aF u),I n] (I (BQ u.bs n)):=
 aH O8 ⟨_,GX u.bs (by omega) _ 149 [I n] (λa _=>YB a n),rfl,rfl,rfl⟩
theorem G3(u:Us)(hl:u.ls.length<=100000)(n:Int):Fn kg 103 [.agg (aF u),I n] (I (nO u.ls n)):=
 aH O7 ⟨_,KD u.ls (by omega) _ 147 [I n] (λa _=>YC a n),rfl,rfl,rfl⟩
abbrev CU(u:Us)(i:Int)(R:List (List AV)):aM:=
 ⟨[(1,.af 16 0),(2,.af 32 0),(79,I u.bs.length),(80,I i)],[(16,⟨50,16,.any,[[Zs 5,Zs 6,Zs 6,I u.yr,Zs 6,Zs 6,.bn 1200 5 u.bs.length,SS u.ls,MS u.ms,QS u.qs,I u.bV,KS u.ks,Zs 8,Zs 2,.ai,I u.ch]],[]⟩),(1200,⟨84,5,.flat,R,[]⟩),(32,⟨50,16,.any,[zU],[]⟩)]⟩
set_option maxHeartbeats 4000000 in
theorem c35(u:Us)(hb:u.bs.length<=1000)(hl:u.ls.length<=1000)(hm:u.ms.length<=2000)(hq:u.qs.length<=2000)(hk:u.ks.length<=2000)(hc:∀b∈u.bs,b.ma.length<=100000):Fn kg 35 [.agg (aF u)] (.agg (aF u)):=by
 have a58:=c59 [] (by simp);have a59:=c60 [] (by simp) (vY (k:=0));have a60:=V8 [] (by simp) (vY (k:=0));have RM:=c62 [] (by simp) (vY (k:=0));have RN:=Yj [] (by simp) (vY (k:=0));have a67:=c71 [] (by simp);have RO:=c72 [] (by simp) (vY (k:=0));have a22:=c65 (u.bs.map bj) (by simp;omega);have a7:=c67 (u.ls.map eN) (by simp;omega) (sc4 u.ls);have a64:=c68 (u.ms.map gY) (by simp;omega) (sc6 u.ms);have K4:=Tm (u.qs.map cd) (by simp;omega) (sc7 u.qs);have a66:=Ym (u.ks.map ib) (by simp;omega) (To u.ks);rw[gB]at a22 a7 a64 K4 a66;refine lX Tg [] [] ⟨_,a58,true,_,a59,true,_,a60,true,_,RM,true,_,RN,true,?_⟩
 (refine once _ (aj.refl _ _) ⟨λh=>absurd h (by decide),λ_=>?_⟩)
 refine⟨_,a22,false,?_⟩;refine⟨λn c=>∃i:Nat,i<=u.bs.length/\n=u.bs.length-i/\c=CU u i (u.bs.map bj),⟨_,_,aj.ad [1,2,79,80] [16,1200,32],0,by omega,rfl,rfl⟩,?_⟩;rintro n c ⟨i,hi,rfl,rfl⟩;refine⟨λaC=>?_,λaC=>?_⟩
 .simp at aC
  obtain⟨b,yz,_,_⟩:=aq aC;have MF:=c66 (b.ma.map eT) (by have:=hc b (ay yz);simpa using this) (sc2 b.ma);rw[gB]at MF;have aD:(u.bs.map bj)[i]?=some (bj b):=by rw[aS,yz];rfl
  have lh:(u.bs.map bj).set i (bj b)=u.bs.map bj:=by
   refine qE λj=>?_
   rw[Kf]
   split
   .rename_i h;subst h;rw[if_pos (by simpa using aC),aD]
   .rfl
  refine⟨by omega,bj b,aD,_,MF,true,by omega,bj b,aD,?_⟩;refine⟨_,ah,?_⟩;refine⟨_,_,aj.ad [1,2,79,80] [16,1200,32],by omega,i+1,by omega,rfl,?_⟩;exact Eq.trans (b:=CU u ((i+1:Nat):Int) ((u.bs.map bj).set i (bj b))) rfl (gQ (CU u ((i+1:Nat):Int)) lh)
 .refine⟨_,a7,true,_,a64,true,_,K4,true,_,a66,true,_,a67,true,_,RO,true,_,Tn,?_⟩
  (refine once _ (aj.refl _ _) ⟨λh=>absurd h (by decide),λ_=>?_⟩)
  refine⟨_,aj.OV 1200 ⟨84,5,.flat,u.bs.map bj,[]⟩ rfl rfl,rfl,rfl,?_⟩;have ht:(u.bs.map bj).take u.bs.length=u.bs.map bj:=ph (by simp)
  show AV.agg _=AV.agg [Zs 5,Zs 6,Zs 6,I u.yr,Zs 6,Zs 6,.aL 5 u.bs.length ((u.bs.map bj).take u.bs.length),SS u.ls,MS u.ms,QS u.qs,I u.bV,KS u.ks,Zs 8,Zs 2,.ai,I u.ch]
  rw[ht]
abbrev kC(u:Us)(rw:AV)(e:Ev):List AV:=
 [Zs 5,Zs 6,Zs 6,I u.yr,Zs 6,Zs 6,BS u.bs,SS u.ls,MS u.ms,QS u.qs,I u.bV,KS u.ks,Zs 8,Zs 2,.ai,I u.ch,rw,I e.id,I e.aR,I e.kind,NS e.eH,Zs 1]
abbrev OD(u:Us)(rw:AV)(e:Ev):List (Nat×ak):=[(18,⟨177,22,.any,[kC u rw e],[]⟩)]
theorem eI(u:Us)(rw:AV)(e:Ev):∀b,bm b [18]=true->Nat.ble 2 (b %16)=true/\(aK (OD u rw e) b).isSome=true:=by
 intro b hb;have:b=18:=by simpa[fL]using hb
 subst this;exact⟨rfl,rfl⟩
theorem Qp(u:Us)(n:Nat)(aa:List (List AV))(e:Ev)(ms:List Mv):fS kg 301 [.af 18 8,MS ms,I 0] (OD u (.aL 3 n aa) e) [18] (OD {u with ms:=ms} (.aL 3 n aa) e) (I 0):=
 dK Da [] [] (eI _ _ _) ⟨λ_=>⟨_,aj.ad [6] [18],rfl,rfl,rfl⟩,λh=>(by cases h)⟩
theorem aeX(u:Us)(n:Nat)(aa:List (List AV))(e:Ev)(x:Int)(hx:x≠0):fS kg 301 [.af 18 8,.ai,I x] (OD u (.aL 3 n aa) e) [18] (OD u (.aL 3 n aa) e) (I x):=
 dK Da [] [] (eI _ _ _) ⟨λh=>absurd (by simpa using h) hx,λ_=>⟨_,aj.ad [6] [18],rfl,rfl,rfl⟩⟩
theorem Qq(u:Us)(n:Nat)(aa:List (List AV))(e:Ev)(hm:jl u.ms)(b:Int)(hb:cj b=true):Fn kg 231 [.aw (kC u (.aL 3 n aa) e) 0,I b] (B ((bT u.ms b).1==3)):=
 aH Pf ⟨_,sP u hm b hb,rfl,rfl,rfl⟩
theorem Zx(u:Us)(n:Nat)(aa:List (List AV))(e:Ev)(hm:jl u.ms)(hb:u.bs.length<=1000)(hi:∀b∈u.bs,cj b.id=true/\0<=b.bc/\b.bc<=10000)(s:Sh)(b:Bx)(hw:0<=b.bc/\b.bc<=10000):
  Fn kg 236 [.aw (kC u (.aL 3 n aa) e) 0,.agg (eN s),.agg (bj b)] (I (qe u.ms s b u.bs)):=by
 refine aH VE ⟨λhc=>?_,λhc=>?_⟩
 .have hc:s.dZ≠b.dZ:=by simpa using hc
  unfold qe;rw[if_pos hc];exact⟨rfl,rfl,rfl⟩
 .have hc:s.dZ=b.dZ:=by simpa using hc
  unfold qe;rw[if_neg (by simp[hc])];refine⟨λm c=>∃(i:Nat)(t:Int),i<=u.bs.length/\m=u.bs.length-i/\0<=t/\t<=10000*(i+1)/\t+B5 u.ms b.id s.id (u.bs.drop i)=b.bc+B5 u.ms b.id s.id u.bs/\
   c=⟨[(0,.aw (kC u (.aL 3 n aa) e) 0),(4,.af 64 0),(5,.af 80 0),(6,I 0),(7,I t),(21,BS u.bs),(22,I u.bs.length),(23,I i)],[(64,⟨81,4,.any,[eN s],[]⟩),(80,⟨84,5,.any,[bj b],[]⟩)]⟩,
   ⟨_,_,Wk.ad [0,4,5,6,7,21,22,23] [64,80],0,b.bc,by omega,rfl,by omega,by omega,by simp,rfl⟩,?_⟩
  rintro m c ⟨i,t,og,rfl,ht0,ht1,hI,rfl⟩;refine⟨λaC=>?_,λaC=>?_⟩
  .simp at aC
   obtain⟨x,hx,hd,_⟩:=aq aC;obtain⟨hid,O3,EL⟩:=hi x (ay hx);rw[hd,B5]at hI;refine⟨by omega,bj x,by simp[hx],?_⟩
   by_cases dW:x.id=b.id
   .rw[if_neg (by simp[dW])]at hI
    refine⟨[(5,false)],by simp[dW],λh=>(by cases h),λ_=>?_⟩;refine⟨_,ah,?_⟩;exact⟨_,_,Wk.ad [0,4,5,6,7,21,22,23] [64,80],by omega,i+1,t,by omega,rfl,by omega,by omega,by omega,rfl⟩
   .have ng:=sP u hm x.id hid
    by_cases hp:bT u.ms x.id=(1,s.id)
    .rw[if_pos ⟨dW,hp⟩]at hI
     rw[hp]at ng;refine⟨[(5,true)],by simpa using dW,_,ng,λ_=>?_,λh=>?_⟩
     .refine⟨_,ah,_,ah,?_⟩
      exact⟨_,_,Wk.ad [0,4,5,6,7,21,22,23] [64,80],by omega,i+1,t+x.bc,by omega,rfl,by omega,by omega,by omega,rfl⟩
     .exact(no (p:=False) (b:=((1:Int)==1&&((s.id==s.id)&&true))) (by simp) h).elim
    .rw[if_neg (by simp[hp])]at hI
     refine⟨[(5,true)],by simpa using dW,_,ng,λh=>?_,λ_=>?_⟩
     .exfalso
      apply hp
      have h:((bT u.ms x.id).1==1&&((bT u.ms x.id).2==s.id&&true))=true:=h;simp at h;exact Prod.ext h.1 h.2
     .refine⟨_,ah,?_⟩
      exact⟨_,_,Wk.ad [0,4,5,6,7,21,22,23] [64,80],by omega,i+1,t,by omega,rfl,by omega,by omega,by omega,rfl⟩
  .simp at aC
   have:i=u.bs.length:=by omega
   subst this;simp only[j4,B5,uH]at hI;subst hI;refine⟨λh=>?_,λh=>?_⟩
   .rw[if_pos (aP h)];exact⟨rfl,rfl,rfl⟩
   .rw[if_neg (j0 h)];exact⟨rfl,rfl,rfl⟩
theorem Qr(u:Us)(n:Nat)(aa:List (List AV))(e:Ev)(hm:jl u.ms)(b:Int)(hb:cj b=true)(k o:Int):
  fS kg 237 [.af 18 0,I b,Tw (k,o)] (OD u (.aL 3 n aa) e) [18] (OD (E7 u (kQ u e b k o)) (.aL 3 n aa) e) (I (uu u.ms (kQ u e b k o))):=by
 have a57:=sP u hm b hb;have Qs:=Zv u.ms hm (kQ u e b k o);unfold Qo at Qs
 by_cases h:uu u.ms (kQ u e b k o)=0
 .have hu:E7 u (kQ u e b k o)={u with ms:=u.ms++[kQ u e b k o]}:=by unfold E7;rw[if_pos h]
  rw[hu,h];rw[if_pos h,h]at Qs;exact dK C9 [(2,[6])] [] (eI _ _ _) ⟨_,a57,_,Qs,true,_,aj.ad [35,36,37] [18],_,I 0,[18],(Qp u n aa e (u.ms++[kQ u e b k o])).as (by rfl) (by rfl) (by rfl),rfl,_,aj.ad [6] [18],rfl,rfl,rfl⟩
 .have hu:E7 u (kQ u e b k o)=u:=by unfold E7;rw[if_neg h]
  rw[hu];rw[if_neg h]at Qs;exact dK C9 [(2,[6])] [] (eI _ _ _) ⟨_,a57,_,Qs,_,aj.ad [35,36,37] [18],_,I (uu u.ms (kQ u e b k o)),[18],(aeX u n aa e _ h).as (by rfl) (by rfl) (by rfl),rfl,_,aj.ad [6] [18],rfl,rfl,rfl⟩
theorem Zy(u:Us)(n:Nat)(aa:List (List AV))(id aR kd:Int)(hm:jl u.ms)(hb:u.bs.length<=1000)(hl:u.ls.length<=1000)(hi:∀b∈u.bs,cj b.id=true/\0<=b.bc/\b.bc<=10000)(i k:Nat)(b:Bx)(s:Sh)
  (Ui:u.bs[i]?=some b)(We:u.ls[k]?=some s)(hbx:BQ u.bs b.id=i)(Ms:nO u.ls s.id=k)(h3:(bT u.ms b.id).1≠3):
  fS kg 162 [.af 18 0] (OD u (.aL 3 n aa) ⟨id,aR,kd,[b.id,1,s.id]⟩) [18] (OD (Jp u ⟨id,aR,kd,[b.id,1,s.id]⟩ s b) (.aL 3 n aa) ⟨id,aR,kd,[b.id,1,s.id]⟩) (I (Jo u ⟨id,aR,kd,[b.id,1,s.id]⟩ s b)):=by
 obtain⟨hid,O3,EL⟩:=hi b (ay Ui);have a56:=G2 u (by omega) b.id;have a91:=G3 u (by omega) s.id;rw[hbx]at a56;rw[Ms]at a91;have Uj:=Qq u n aa ⟨id,aR,kd,[b.id,1,s.id]⟩ hm b.id hid;have e3:((bT u.ms b.id).1==3)=false:=by simpa using h3
 rw[e3]at Uj;have akG:=Zx u n aa ⟨id,aR,kd,[b.id,1,s.id]⟩ hm hb hi s b ⟨O3,EL⟩;have E9:=Qr u n aa ⟨id,aR,kd,[b.id,1,s.id]⟩ hm b.id hid 1 s.id;have g1:decide ((i:Int)<0)=false:=qA (by omega);have g2:decide ((k:Int)<0)=false:=qA (by omega);have hbr:(u.bs.map bj)[((i:Int)).toNat]?=some (bj b):=by rw[aY,aS,Ui];rfl
 have Vm:(u.ls.map eN)[((k:Int)).toNat]?=some (eN s):=by rw[aY,aS,We];rfl
 have og:=(aE.1 Ui).1;have SH:=(aE.1 We).1;refine dK vL [(12,[4,5,6])] [] (eI _ _ _) ⟨⟨by decide,by simp⟩,[I 1],rfl,⟨by decide,by simp⟩,[I s.id],rfl,⟨by decide,by simp⟩,[I b.id],rfl,_,a56,_,a91,[(2,false),(6,true)],g1,rfl,λh=>?_,λ_=>?_⟩
 .exact absurd h (by simp)
 refine⟨[(5,false)],⟨by decide,by simp⟩,[I b.id],rfl,_,Uj,rfl,λh=>(by cases h),λ_=>⟨λ_=>?_,λh=>(by cases h)⟩⟩;refine⟨by omega,eN s,Vm,by omega,bj b,hbr,_,akG,λh0=>?_,λh0=>?_⟩
 .have h0:qe u.ms s b u.bs≠0:=by simpa using h0
  have e1:Jo u ⟨id,aR,kd,[b.id,1,s.id]⟩ s b=qe u.ms s b u.bs:=by unfold Jo;rw[if_pos h0]
  have e2:Jp u ⟨id,aR,kd,[b.id,1,s.id]⟩ s b=u:=by unfold Jp;rw[e1,if_neg h0]
  rw[e1,e2];exact⟨_,aj.ad [2] [18],rfl,rfl,rfl⟩
 .have h0:qe u.ms s b u.bs=0:=by simpa using h0
  have e1:Jo u ⟨id,aR,kd,[b.id,1,s.id]⟩ s b=uu u.ms (kQ u ⟨id,aR,kd,[b.id,1,s.id]⟩ b.id 1 s.id):=by unfold Jo;rw[if_neg (by simp[h0])]
  have e2:Jp u ⟨id,aR,kd,[b.id,1,s.id]⟩ s b=E7 u (kQ u ⟨id,aR,kd,[b.id,1,s.id]⟩ b.id 1 s.id):=by unfold Jp E7;rw[e1]
  rw[e1,e2];refine⟨rfl,⟨by decide,by simp⟩,[I b.id],rfl,_,aj.ad [82,85,86] [18],_,I (uu u.ms (kQ u ⟨id,aR,kd,[b.id,1,s.id]⟩ b.id 1 s.id)),[18],E9.as (by rfl) (by rfl) (by rfl),rfl,?_⟩;exact⟨_,aj.ad [2] [18],rfl,rfl,rfl⟩
end Go.an.ax.Aw
namespace Go.Proofs
open Go.Shelf
def Tryz.Fa:Go.Shelf.Ren:=⟨λ|189=>215|125=>285|257=>288|128=>337|129=>338|294=>339|295=>340|296=>341|297=>342|298=>343|299=>344|216=>345|300=>346|301=>347|328=>384|329=>380|330=>381|331=>385|332=>386|215=>287|343=>413|n=>n,λ|28=>30|3=>3|46=>226|0=>0|51=>423|53=>408|4=>4|183=>417|182=>416|131=>180|5=>5|9=>9|218=>458|222=>462|228=>487|229=>384|n=>n,λ|n=>n⟩
theorem Tryz.Hv:Go.Proofs.Lays.n189 Tryz.prog Tryz.Fa:={
 mixed:=by kernel_rfl
 f125:=Tryz.func285.trans (congrArg some (by kernel_rfl))
 f128:=Tryz.func337.trans (congrArg some (by kernel_rfl))
 f129:=Tryz.func338.trans (congrArg some (by kernel_rfl))
 f189:=Tryz.func215.trans (congrArg some (by kernel_rfl))
 f215:=Tryz.func287.trans (congrArg some (by kernel_rfl))
 f216:=Tryz.func345.trans (congrArg some (by kernel_rfl))
 f257:=Tryz.func288.trans (congrArg some (by kernel_rfl))
 f294:=Tryz.func339.trans (congrArg some (by kernel_rfl))
 f295:=Tryz.func340.trans (congrArg some (by kernel_rfl))
 f296:=Tryz.func341.trans (congrArg some (by kernel_rfl))
 f297:=Tryz.func342.trans (congrArg some (by kernel_rfl))
 f298:=Tryz.func343.trans (congrArg some (by kernel_rfl))
 f299:=Tryz.func344.trans (congrArg some (by kernel_rfl))
 f300:=Tryz.func346.trans (congrArg some (by kernel_rfl))
 f301:=Tryz.func347.trans (congrArg some (by kernel_rfl))
 f328:=Tryz.func384.trans (congrArg some (by kernel_rfl))
 f329:=Tryz.func380.trans (congrArg some (by kernel_rfl))
 f330:=Tryz.func381.trans (congrArg some (by kernel_rfl))
 f331:=Tryz.func385.trans (congrArg some (by kernel_rfl))
 f332:=Tryz.func386.trans (congrArg some (by kernel_rfl))
 f343:=Tryz.func413.trans (congrArg some (by kernel_rfl))
 t0:=Tryz.underlying0
 a0:=Tryz.isAgg0
 z0:=Tryz.sizeOf0
 v0:=Tryz.zeroValue0
 t3:=Tryz.underlying3
 a3:=Tryz.isAgg3
 z3:=Tryz.sizeOf3
 v3:=Tryz.zeroValue3
 t4:=Tryz.underlying4
 a4:=Tryz.isAgg4
 z4:=Tryz.sizeOf4
 v4:=Tryz.zeroValue4
 t5:=Tryz.underlying5
 a5:=Tryz.isAgg5
 z5:=Tryz.sizeOf5
 v5:=Tryz.zeroValue5
 t9:=Tryz.underlying9
 a9:=Tryz.isAgg9
 z9:=Tryz.sizeOf9
 v9:=Tryz.zeroValue9
 t28:=Tryz.underlying30
 a28:=Tryz.isAgg30
 z28:=Tryz.sizeOf30
 v28:=Tryz.zeroValue30
 t46:=Tryz.underlying226
 a46:=Tryz.isAgg226
 z46:=Tryz.sizeOf226
 v46:=Tryz.zeroValue226
 t51:=Tryz.underlying423
 a51:=Tryz.isAgg423
 z51:=Tryz.sizeOf423
 v51:=Tryz.zeroValue423
 t53:=Tryz.underlying408
 a53:=Tryz.isAgg408
 z53:=Tryz.sizeOf408
 v53:=Tryz.zeroValue408
 t131:=Tryz.underlying180
 a131:=Tryz.isAgg180
 z131:=Tryz.sizeOf180
 v131:=Tryz.zeroValue180
 t182:=Tryz.underlying416
 a182:=Tryz.isAgg416
 z182:=Tryz.sizeOf416
 v182:=Tryz.zeroValue416
 t183:=Tryz.underlying417
 a183:=Tryz.isAgg417
 z183:=Tryz.sizeOf417
 v183:=Tryz.zeroValue417
 t218:=Tryz.underlying458
 a218:=Tryz.isAgg458
 z218:=Tryz.sizeOf458
 v218:=Tryz.zeroValue458
 t222:=Tryz.underlying462
 a222:=Tryz.isAgg462
 z222:=Tryz.sizeOf462
 v222:=Tryz.zeroValue462
 t228:=Tryz.underlying487
 a228:=Tryz.isAgg487
 z228:=Tryz.sizeOf487
 v228:=Tryz.zeroValue487
 t229:=Tryz.underlying384
 a229:=Tryz.isAgg384
 z229:=Tryz.sizeOf384
 v229:=Tryz.zeroValue384}
def Tryz.Cd:Go.Shelf.Ren:=⟨λ|6=>210|15=>285|14=>284|28=>337|29=>338|20=>329|21=>330|22=>331|23=>332|24=>333|25=>334|26=>335|27=>336|46=>379|47=>380|48=>381|49=>382|50=>383|57=>412|n=>n,λ|22=>30|24=>3|25=>286|3=>3|39=>226|0=>0|53=>423|55=>408|4=>4|46=>417|45=>416|50=>180|5=>5|9=>9|66=>458|70=>462|76=>487|77=>384|n=>n,λ|n=>n⟩
theorem Tryz.MG:Go.Proofs.SlLaysF.n6 Tryz.prog Tryz.Cd:={
 mixed:=by kernel_rfl
 f6:=⟨Tryz.f210.name,by decide,Tryz.func210.trans (congrArg some (by kernel_rfl))⟩
 f14:=⟨Tryz.f284.name,by decide,Tryz.func284.trans (congrArg some (by kernel_rfl))⟩
 f15:=Tryz.func285.trans (congrArg some (by kernel_rfl))
 f20:=⟨Tryz.f329.name,by decide,Tryz.func329.trans (congrArg some (by kernel_rfl))⟩
 f21:=⟨Tryz.f330.name,by decide,Tryz.func330.trans (congrArg some (by kernel_rfl))⟩
 f22:=⟨Tryz.f331.name,by decide,Tryz.func331.trans (congrArg some (by kernel_rfl))⟩
 f23:=⟨Tryz.f332.name,by decide,Tryz.func332.trans (congrArg some (by kernel_rfl))⟩
 f24:=⟨Tryz.f333.name,by decide,Tryz.func333.trans (congrArg some (by kernel_rfl))⟩
 f25:=⟨Tryz.f334.name,by decide,Tryz.func334.trans (congrArg some (by kernel_rfl))⟩
 f26:=⟨Tryz.f335.name,by decide,Tryz.func335.trans (congrArg some (by kernel_rfl))⟩
 f27:=⟨Tryz.f336.name,by decide,Tryz.func336.trans (congrArg some (by kernel_rfl))⟩
 f28:=Tryz.func337.trans (congrArg some (by kernel_rfl))
 f29:=Tryz.func338.trans (congrArg some (by kernel_rfl))
 f46:=⟨Tryz.f379.name,by decide,Tryz.func379.trans (congrArg some (by kernel_rfl))⟩
 f47:=Tryz.func380.trans (congrArg some (by kernel_rfl))
 f48:=Tryz.func381.trans (congrArg some (by kernel_rfl))
 f49:=⟨Tryz.f382.name,by decide,Tryz.func382.trans (congrArg some (by kernel_rfl))⟩
 f50:=⟨Tryz.f383.name,by decide,Tryz.func383.trans (congrArg some (by kernel_rfl))⟩
 f57:=⟨Tryz.f412.name,by decide,Tryz.func412.trans (congrArg some (by kernel_rfl))⟩
 t0:=Tryz.underlying0
 a0:=Tryz.isAgg0
 z0:=Tryz.sizeOf0
 v0:=Tryz.zeroValue0
 t3:=Tryz.underlying3
 a3:=Tryz.isAgg3
 z3:=Tryz.sizeOf3
 v3:=Tryz.zeroValue3
 t4:=Tryz.underlying4
 a4:=Tryz.isAgg4
 z4:=Tryz.sizeOf4
 v4:=Tryz.zeroValue4
 t5:=Tryz.underlying5
 a5:=Tryz.isAgg5
 z5:=Tryz.sizeOf5
 v5:=Tryz.zeroValue5
 t9:=Tryz.underlying9
 a9:=Tryz.isAgg9
 z9:=Tryz.sizeOf9
 v9:=Tryz.zeroValue9
 t22:=Tryz.underlying30
 a22:=Tryz.isAgg30
 z22:=Tryz.sizeOf30
 v22:=Tryz.zeroValue30
 a24:=Tryz.isAgg3
 z24:=Tryz.sizeOf3
 t25:=Tryz.underlying286
 a25:=Tryz.isAgg286
 z25:=Tryz.sizeOf286
 v25:=Tryz.zeroValue286
 t39:=Tryz.underlying226
 a39:=Tryz.isAgg226
 z39:=Tryz.sizeOf226
 v39:=Tryz.zeroValue226
 t45:=Tryz.underlying416
 a45:=Tryz.isAgg416
 z45:=Tryz.sizeOf416
 v45:=Tryz.zeroValue416
 t46:=Tryz.underlying417
 a46:=Tryz.isAgg417
 z46:=Tryz.sizeOf417
 v46:=Tryz.zeroValue417
 t50:=Tryz.underlying180
 a50:=Tryz.isAgg180
 z50:=Tryz.sizeOf180
 v50:=Tryz.zeroValue180
 t53:=Tryz.underlying423
 a53:=Tryz.isAgg423
 z53:=Tryz.sizeOf423
 v53:=Tryz.zeroValue423
 t55:=Tryz.underlying408
 a55:=Tryz.isAgg408
 z55:=Tryz.sizeOf408
 v55:=Tryz.zeroValue408
 t66:=Tryz.underlying458
 a66:=Tryz.isAgg458
 z66:=Tryz.sizeOf458
 v66:=Tryz.zeroValue458
 t70:=Tryz.underlying462
 a70:=Tryz.isAgg462
 z70:=Tryz.sizeOf462
 v70:=Tryz.zeroValue462
 t76:=Tryz.underlying487
 a76:=Tryz.isAgg487
 z76:=Tryz.sizeOf487
 v76:=Tryz.zeroValue487
 t77:=Tryz.underlying384
 a77:=Tryz.isAgg384
 z77:=Tryz.sizeOf384
 v77:=Tryz.zeroValue384}
end Go.Proofs
