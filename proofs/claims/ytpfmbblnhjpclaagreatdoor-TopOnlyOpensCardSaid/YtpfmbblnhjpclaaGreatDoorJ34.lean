import Derived.Test.YtpfmbblnhjpclaaGreatDoorJ30
import Derived.Test.YtpfmbblnhjpclaaGreatDoorJ33
import Derived.Test.YtpfmbblnhjpclaaGreatDoorJ25
import Derived.Test.YtpfmbblnhjpclaaGreatDoorJ26
set_option linter.unusedVariables false
set_option linter.unusedSimpArgs false
set_option maxRecDepth 20000
namespace Go.an.ax.G
open Go Go.an Go.an.Day Go.Proofs Go.RowKit
structure Bt where
 id:Int
 aR:Int
 st:Int
 jR:Int
 jd:Int
 bX:Int
 us:List Int
 gE:List Int
def aX(b:Bt):List AV:=[I b.id,I b.aR,I b.st,I b.jR,I b.jd,I b.bX,NS b.us,NS b.gE]
abbrev TS(l:List Bt):AV:=.aL 8 l.length (l.map aX)
def cO(x:Int×Int):List AV:=[I x.1,I x.2]
abbrev yi(l:List (Int×Int)):AV:=.aL 2 l.length (l.map cO)
def fW(x:Int×Int×Int):List AV:=[I x.1,I x.2.1,I x.2.2]
abbrev uw(l:List (Int×Int×Int)):AV:=.aL 3 l.length (l.map fW)
structure St where
 po:Po
 bs:List Bx
 ls:List Sh
 ms:List Mv
 qs:List dE
 bV:Int
 ks:List Bk
 bt:List Bt
 lk:List (Int×Int)
 sh:List (Int×Int×Int)
 ch:Int
structure St.sz(u:St):Prop where
 po:u.po.sz
 bs:u.bs.length<=100000
 cs:∀b∈u.bs,b.ma.length<=100000
 ls:u.ls.length<=100000
 ms:u.ms.length<=100000
 qs:u.qs.length<=100000
 ks:u.ks.length<=100000
 bt:u.bt.length<=100000
 tu:∀b∈u.bt,b.us.length<=100000/\b.gE.length<=100000
 lk:u.lk.length<=100000
 sh:u.sh.length<=100000
abbrev aF(u:St):List AV:=[JS u.po.sj,LS u.po.cl,Pe.A u.po.ps,I u.po.yr,Ag.A u.po.ag,PS u.po.pm,BS u.bs,SS u.ls,MS u.ms,QS u.qs,I u.bV,KS u.ks,TS u.bt,yi u.lk,uw u.sh,I u.ch]
theorem scL(l:List l6):jm (l.map eW):=jb (λa u hu=>by simp[eW]at hu;rcases hu with rfl|rfl|rfl|rfl|rfl|rfl<;>rfl) l
theorem scM(l:List kJ):jm (l.map eA):=jb (λa u hu=>by simp[eA]at hu;rcases hu with rfl|rfl|rfl|rfl|rfl|rfl<;>rfl) l
theorem ZS(l:List (Int×Int)):jm (l.map cO):=jb (λa u hu=>by simp[cO]at hu;rcases hu with rfl|rfl<;>rfl) l
theorem afw(l:List (Int×Int×Int)):jm (l.map fW):=jb (λa u hu=>by simp[fW]at hu;rcases hu with rfl|rfl|rfl<;>rfl) l
theorem afx(gs:List (Nat×List Nat))(wk:List Nat){args:List AV}{R:List (Nat×ak)->AV->Prop}(hn:Nat.ble args.length 156=true)(h:mY kg tt 156 [0,1,2,3,4,5,6,52,53,54,79,80,81,126,127,128] gs wk [] (body Tryz.f35) ⟨idx 0 args,[]⟩ (QL tt (.cell 2 50) R)):FnO kg 35 args R:=
 Uz (.cell 2 50) cC bZ mixed Tryz.func35 rfl (by kernel_rfl) (by kernel_rfl) hn rfl rfl h
abbrev BO(u:St):List (Nat×ak):=[(272,⟨94,5,.flat,u.po.sj.map db,[]⟩),(352,⟨139,6,.pure,u.po.cl.map eW,[]⟩),(432,⟨142,6,.pure,u.po.ps.map Pe.gA,[]⟩),(512,⟨145,6,.pure,u.po.ag.map Ag.jc,[]⟩),(592,⟨148,6,.pure,u.po.pm.map eA,[]⟩),
 (1200,⟨84,5,.flat,u.bs.map bj,[]⟩),(1568,⟨81,4,.pure,u.ls.map eN,[]⟩),(1616,⟨156,6,.pure,u.ms.map gY,[]⟩),(1664,⟨159,7,.pure,u.qs.map cd,[]⟩),(1712,⟨162,4,.pure,u.ks.map ib,[]⟩),(1824,⟨97,8,.flat,u.bt.map aX,[]⟩),(1872,⟨166,2,.pure,u.lk.map cO,[]⟩),(1920,⟨169,3,.pure,u.sh.map fW,[]⟩)]
abbrev Jt(u:St):List AV:=[.bn 272 5 u.po.sj.length,.bn 352 6 u.po.cl.length,.bn 432 6 u.po.ps.length,I u.po.yr,.bn 512 6 u.po.ag.length,.bn 592 6 u.po.pm.length,.bn 1200 5 u.bs.length,.bn 1568 4 u.ls.length,.bn 1616 6 u.ms.length,.bn 1664 7 u.qs.length,I u.bV,.bn 1712 4 u.ks.length,.bn 1824 8 u.bt.length,.bn 1872 2 u.lk.length,.bn 1920 3 u.sh.length,I u.ch]
theorem we{α β:Type}{f:α->β}{l:List α}{i:Nat}{a:α}(h:l[i]?=some a):(l.map f).set i (f a)=l.map f:=by
 refine qE λj=>?_
 rw[Kf]
 split
 .rename_i e;subst e
  have aC:=(aE.1 h).1;rw[if_pos (by simpa using aC),aS,h];rfl
 .rfl
theorem QM{O R:List (Nat×ak)}{b:Nat}{y:ak}(h:aK O b=some y):aK (O++R) b=some y:=by
 rw[wc,if_pos (by rw[h];rfl)];exact h
abbrev alj(u:St):List AV:=[.bn 272 5 u.po.sj.length,.bn 352 6 u.po.cl.length,.bn 432 6 u.po.ps.length,I u.po.yr,.bn 512 6 u.po.ag.length,.bn 592 6 u.po.pm.length,BS u.bs,SS u.ls,MS u.ms,QS u.qs,I u.bV,KS u.ks,TS u.bt,yi u.lk,uw u.sh,I u.ch]
abbrev alk(u:St):List AV:=[.bn 272 5 u.po.sj.length,.bn 352 6 u.po.cl.length,.bn 432 6 u.po.ps.length,I u.po.yr,.bn 512 6 u.po.ag.length,.bn 592 6 u.po.pm.length,.bn 1200 5 u.bs.length,SS u.ls,MS u.ms,QS u.qs,I u.bV,KS u.ks,TS u.bt,yi u.lk,uw u.sh,I u.ch]
abbrev zU:List AV:=[.ai,.ai,.ai,I 0,.ai,.ai,.ai,.ai,.ai,.ai,I 0,.ai,.ai,.ai,.ai,I 0]
abbrev BP(u:St):List (Nat×ak):=[(352,⟨139,6,.pure,u.po.cl.map eW,[]⟩),(432,⟨142,6,.pure,u.po.ps.map Pe.gA,[]⟩),(512,⟨145,6,.pure,u.po.ag.map Ag.jc,[]⟩),(592,⟨148,6,.pure,u.po.pm.map eA,[]⟩)]
abbrev CA(u:St)(i:Int)(R:List (List AV)):aM:=⟨[(1,.af 16 0),(2,.af 32 0),(3,.af 16 0),(52,I u.po.sj.length),(53,I i)],(16,⟨50,16,.any,[alj u],[]⟩)::(32,⟨50,16,.any,[zU],[]⟩)::(272,⟨94,5,.flat,R,[]⟩)::BP u⟩
abbrev CB(u:St)(i:Int)(R:List (List AV)):aM:=⟨[(1,.af 16 0),(2,.af 32 0),(79,I u.bs.length),(80,I i)],(16,⟨50,16,.any,[alk u],[]⟩)::(32,⟨50,16,.any,[zU],[]⟩)::(272,⟨94,5,.flat,u.po.sj.map db,[]⟩)::(352,⟨139,6,.pure,u.po.cl.map eW,[]⟩)::(432,⟨142,6,.pure,u.po.ps.map Pe.gA,[]⟩)::(512,⟨145,6,.pure,u.po.ag.map Ag.jc,[]⟩)::(592,⟨148,6,.pure,u.po.pm.map eA,[]⟩):: [(1200,⟨84,5,.flat,R,[]⟩)]⟩
abbrev CC(u:St)(i:Int)(R:List (List AV)):aM:=⟨[(1,.af 16 0),(2,.af 32 0),(126,I u.bt.length),(127,I i)],(16,⟨50,16,.any,[Jt u],[]⟩)::(32,⟨50,16,.any,[zU],[]⟩)::(272,⟨94,5,.flat,u.po.sj.map db,[]⟩)::(352,⟨139,6,.pure,u.po.cl.map eW,[]⟩)::(432,⟨142,6,.pure,u.po.ps.map Pe.gA,[]⟩)::(512,⟨145,6,.pure,u.po.ag.map Ag.jc,[]⟩)::(592,⟨148,6,.pure,u.po.pm.map eA,[]⟩)::
 (1200,⟨84,5,.flat,u.bs.map bj,[]⟩)::(1568,⟨81,4,.pure,u.ls.map eN,[]⟩)::(1616,⟨156,6,.pure,u.ms.map gY,[]⟩)::(1664,⟨159,7,.pure,u.qs.map cd,[]⟩)::(1712,⟨162,4,.pure,u.ks.map ib,[]⟩)::(1824,⟨97,8,.flat,R,[]⟩)::(1872,⟨166,2,.pure,u.lk.map cO,[]⟩):: [(1920,⟨169,3,.pure,u.sh.map fW,[]⟩)]⟩
theorem setRow{α:Type}{f:α->List AV}{C:List (List AV)->aM}{l:List α}{i:Nat}{a:α}{c:aM}(h:l[i]?=some a)(hc:c=C ((l.map f).set i (f a))):c=C (l.map f):=by rw[hc,we h]
set_option maxHeartbeats 4000000 in
theorem c35(u:St)(hz:u.sz):FnO kg 35 [.agg (aF u)] (λO r=>O=BO u/\r=.agg (Jt u)):=by
 have a59:=c59 (u.po.sj.map db) (by have:=hz.po.sj;simpa using this);have a60:=c60 (u.po.cl.map eW) (by have:=hz.po.cl;simpa using this) (scL _);have RM:=ax.V8 (u.po.ps.map Pe.gA) (by have:=hz.po.ps;simpa using this) (Pe.Qg _);have RN:=ax.c62 (u.po.ag.map Ag.jc) (by have:=hz.po.ag;simpa using this) (Ag.Wu _);have MF:=Yj (u.po.pm.map eA) (by have:=hz.po.pm;simpa using this) (scM _);have K4:=c65 (u.bs.map bj) (by have:=hz.bs;simpa using this);have a67:=c67 (u.ls.map eN) (by have:=hz.ls;simpa using this) (sc4 _);have RO:=c68 (u.ms.map gY) (by have:=hz.ms;simpa using this) (sc6 _);have a69:=Tm (u.qs.map cd) (by have:=hz.qs;simpa using this) (sc7 _);have a70:=Ym (u.ks.map ib) (by have:=hz.ks;simpa using this) (To _);have a71:=c71 (u.bt.map aX) (by have:=hz.bt;simpa using this);have a72:=c72 (u.lk.map cO) (by have:=hz.lk;simpa using this) (ZS _)
 have a73:=c73 (u.sh.map fW) (by have:=hz.sh;simpa using this) (afw _);rw[gB]at a59 a60 RM RN MF K4 a67 RO a69 a70 a71 a72 a73;refine afx [] [] rfl ⟨_,a59,false,_,a60,false,_,RM,false,_,RN,false,_,MF,false,?_⟩;refine⟨λn c=>∃i:Nat,i<=u.po.sj.length/\n=u.po.sj.length-i/\c=CA u i (u.po.sj.map db),⟨_,_,aj.ad [1,2,3,52,53] [16,32,272,352,432,512,592],0,by omega,rfl,rfl⟩,?_⟩;rintro n c ⟨i,hi,rfl,rfl⟩;have pW:=hz.po.sj;refine⟨λaC=>?_,λaC=>?_⟩
 .simp at aC
  obtain⟨s,hs,_,_⟩:=aq aC;have a64:=Yi (s.ps.map λn=>[I n]) (by have:=hz.po.js s (ay hs);simp;omega) (Mn s.ps);rw[gB]at a64;have aD:(u.po.sj.map db)[i]?=some (db s):=by rw[aS,hs];rfl
  refine⟨by omega,db s,aD,_,a64,true,by omega,db s,aD,?_⟩;refine⟨_,ah,?_⟩;refine⟨_,_,aj.ad [1,2,3,52,53] [16,32,272,352,432,512,592],by omega,i+1,by omega,rfl,?_⟩;exact setRow (C:=CA u ((i+1:Nat):Int)) hs rfl
 .refine⟨_,K4,false,?_⟩
  refine⟨λn c=>∃i:Nat,i<=u.bs.length/\n=u.bs.length-i/\c=CB u i (u.bs.map bj),⟨_,_,aj.ad [1,2,79,80] [16,32,272,352,432,512,592,1200],0,by omega,rfl,rfl⟩,?_⟩;rintro n c ⟨i,hi,rfl,rfl⟩;have uB:=hz.bs;refine⟨λaC=>?_,λaC=>?_⟩
  .simp at aC
   obtain⟨b,hb,_,_⟩:=aq aC;have a66:=c66 (b.ma.map eT) (by have:=hz.cs b (ay hb);simpa using this) (sc2 b.ma);rw[gB]at a66;have aD:(u.bs.map bj)[i]?=some (bj b):=by rw[aS,hb];rfl
   refine⟨by omega,bj b,aD,_,a66,true,by omega,bj b,aD,?_⟩;refine⟨_,ah,?_⟩;refine⟨_,_,aj.ad [1,2,79,80] [16,32,272,352,432,512,592,1200],by omega,i+1,by omega,rfl,?_⟩;exact setRow (C:=CB u ((i+1:Nat):Int)) hb rfl
  .refine⟨_,a67,false,_,RO,false,_,a69,false,_,a70,false,_,a71,false,_,a72,false,_,a73,false,?_⟩
   refine⟨λn c=>∃i:Nat,i<=u.bt.length/\n=u.bt.length-i/\c=CC u i (u.bt.map aX),⟨_,_,aj.ad [1,2,126,127] [16,32,272,352,432,512,592,1200,1568,1616,1664,1712,1824,1872,1920],0,by omega,rfl,rfl⟩,?_⟩;rintro n c ⟨i,hi,rfl,rfl⟩;have htl:=hz.bt;refine⟨λaC=>?_,λaC=>?_⟩
   .simp at aC
    obtain⟨b,hb,_,_⟩:=aq aC;have QN:=hz.tu b (ay hb);have a64:=Yi (b.us.map λn=>[I n]) (by simpa using QN.1) (Mn b.us);have afy:=Yi (b.gE.map λn=>[I n]) (by simpa using QN.2) (Mn b.gE);rw[gB]at a64 afy;have aD:(u.bt.map aX)[i]?=some (aX b):=by rw[aS,hb];rfl
    have xW:((u.bt.map aX).set i (aX b))[i]?=some (aX b):=by rw[we hb];exact aD
    refine⟨by omega,aX b,aD,_,a64,true,by omega,aX b,aD,_,afy,true,by omega,aX b,aD,by omega,aX b,xW,?_⟩;refine⟨_,ah,?_⟩;refine⟨_,_,aj.ad [1,2,126,127] [16,32,272,352,432,512,592,1200,1568,1616,1664,1712,1824,1872,1920],by omega,i+1,by omega,rfl,?_⟩;exact Eq.trans (b:=CC u ((i+1:Nat):Int) (((u.bt.map aX).set i (aX b)).set i (aX b))) rfl (by rw[we hb,we hb])
   .refine⟨_,aj.ad [2] [272,352,432,512,592,1200,1568,1616,1664,1712,1824,1872,1920,32],_,BO u,rfl,rfl,λb y h=>QM (R:=[(32,⟨50,16,.any,[Jt u],[]⟩)]) h,rfl,rfl⟩
end Go.an.ax.G
namespace Go.an
open Go.RowKit
section
variable{P:Program} {T:dD} {E:Env} {N:Nat} {ps:List Nat}
theorem xo{aB:Array Oper}{Q Q':Exit->Act->World->Prop}(hQ:∀e a w,e≠.normal->Q' e a w->Q e a w){i:Nat}{K K':Act->World->Prop}{a:Act}{w:World}(hK:∀a w,K a w->K' a w)(h:wpOp P aB Q' i K a w):wpOp P aB Q i K' a w:=by
 unfold wpOp at h⊢
 split
 .rename_i hn;rw[hn]at h;exact hK _ _ h
 .rename_i o ho
  rw[ho]at h;simp only at h⊢
  split
  .rename_i hw
   rw[if_pos hw]at h
   rcases h with h|⟨h1,h2⟩
   .exact .inl (Oper.wp_mono hK (AE hQ h))
   .obtain⟨a',w',h2⟩:=h2
    exact .inr ⟨h1,a',w',hQ _ _ _ (by simp) h2⟩
  .rename_i hw
   rw[if_neg hw]at h;exact hK _ _ h
theorem rJ(hT:br P T)(h1:bW T=true){aB:Array Oper}{p:Nat}{o:Oper}(ho:aB[p]?=some o){c:aM}{Kk:aM->Prop}(h:cZ false P T N [] aB ⟨c,[],[]⟩ p [o] c Kk):BN P N ps aB p c Kk:=by
 rintro E a w Q hN hp hs;have:=pH (is:=[]) (Q:=λe a w=>match e with|.normal=>∃c',Kk c'/\SR E c' a w|e=>Q e a w) hT h1 hN (λc a w hk hs=>⟨c,hk,hs⟩) [o] _ p c a w (λj hj=>by
  have:j=0:=by simpa using hj
  subst this;simpa using ho.symm) h hs
 simp only[bB,List.length_nil,dN]at this;rw[show List.range' p (0+1)=[p]from rfl,wpOps_cons]at this;refine xo (Q:=Q) (λe a w dW q=>?_) (λa w q=>q) this
 cases e<;>first|exact absurd rfl dW|exact q
theorem gj{aB:Array Oper}{Q:Exit->Act->World->Prop}{fuel:Nat}{listed:Array Bool}{a:Act}{w:World}(rs:List Nat)(hr:Region.ready .any aB listed=rs)(dW:rs≠ [])(h:∀i∈rs,wpOp P aB Q i (wpAny P .any aB Q fuel (listed.setIfInBounds i true)) a w):wpAny P .any aB Q (fuel+1) listed a w:=
 ⟨λe=>absurd (hr▸e) dW,λi hi=>h i (hr▸hi)⟩
theorem eX{aB:Array Oper}{Q:Exit->Act->World->Prop}{i:Nat}{c:aM}{R:aM->Prop}{a:Act}{w:World}{K:Act->World->Prop}(cq:BN P N ps aB i c R)(hN:E.N=N)(hp:∀b,bm b ps=false->E.gK b=none)(hs:SR E c a w)(hk:∀c' a' w',R c'->SR E c' a' w'->K a' w'):wpOp P aB Q i K a w:=
 xo (λ_ _ _ _ h=>h) (λa w ⟨c',h1,h2⟩=>hk c' a w h1 h2) (cq E a w Q hN hp hs)
theorem Ju{id:Nat}{aB:Array Oper}(hm:P.follows .mixedOrders=true){Q:Exit->Act->World->Prop}{c:aM}{a:Act}{w:World}(hs:SR E c a w)(h:∀w',SR E c a w'->wpAny P .any aB Q aB.size (Array.replicate aB.size false) a w'):(Code.region id aB true).wp P Q a w:=by
 refine wp_region_any hm (h _ ?_);obtain⟨K,hs⟩:=hs;exact⟨K,hs.move (Step.drawn _ w (w.drawn+1))⟩
end
end Go.an
namespace Go.an.ax.G
open Go Go.an Go.an.Day Go.Proofs Go.RowKit
structure Vt where
 id:Int
 aR:Int
 kind:Int
 eH:List Int
 cG:List (List UInt8)
abbrev TX(l:List (List UInt8)):AV:=.aL 1 l.length (l.map λs=>[.str (bs s)])
abbrev fy(e:Vt):List AV:=[I e.id,I e.aR,I e.kind,NS e.eH,TX e.cG]
abbrev fm(k t:Int)(m:Bool)(fl:Int)(f:FuncId):List AV:=[I k,I t,B m,I fl,.func f []]
def cS(u:St)(l:List Rw)(e:Vt)(kr:List AV)(b0 b1 b2 b3:Bool):aM:=
  ⟨(match b0 with|true=>[(33,.agg (aF u))] |false=>[])++((match b1 with|true=>[(34,.agg (Jt u))] |false=>[])++((match b2 with|true=>[(35,WS l)] |false=>[])++((match b3 with|true=>[(36,.agg (fy e))] |false=>[])++
    [(1,WS l),(3,.af 48 0),(5,.af 80 0),(6,.af 96 0),(8,.af 128 0)]))),
   (match b1 with|true=>BO u|false=>[])++[(48,⟨50,16,.any,[aF u],[]⟩),(80,⟨33,5,.any,[fy e],[]⟩),(96,⟨50,16,.any,[zU],[]⟩),(128,⟨172,5,.any,[kr],[]⟩)]⟩
abbrev ks8:List Nat:=[33,34,35,36,1,3,5,6,8]
abbrev is8:List Nat:=[272,352,432,512,592,1200,1568,1616,1664,1712,1824,1872,1920,48,80,96,128]
theorem BN.mono{P:Program}{N:Nat}{ps:List Nat}{aB:Array Oper}{p:Nat}{c:aM}{R R':aM->Prop}(h:BN P N ps aB p c R)(hr:∀c',R c'->R' c'):BN P N ps aB p c R':=
 λE a w Q hN hp hs=>xo (λ_ _ _ _ q=>q) (λa w ⟨c',h1,h2⟩=>⟨c',hr c' h1,h2⟩) (h E a w Q hN hp hs)
section
variable(u:St) (l:List Rw) (e:Vt) (k t:Int) (m:Bool) (fl:Int) (f:FuncId)
theorem T0(b1 b2 b3:Bool):BN kg 57 [] (dU 8 (body Tryz.f36)) 0 (cS u l e (fm k t m fl f) false b1 b2 b3) (λc'=>aj [] c' (cS u l e (fm k t m fl f) true b1 b2 b3)):=by
 cases b1<;>cases b2<;>cases b3<;>(refine rJ cC bZ rfl ?_;exact aj.ad ks8 is8)
theorem T2(b0 b1 b3:Bool):BN kg 57 [] (dU 8 (body Tryz.f36)) 2 (cS u l e (fm k t m fl f) b0 b1 false b3) (λc'=>aj [] c' (cS u l e (fm k t m fl f) b0 b1 true b3)):=by
 cases b0<;>cases b1<;>cases b3<;>(refine rJ cC bZ rfl ?_;exact aj.ad ks8 is8)
theorem T3(b0 b1 b2:Bool):BN kg 57 [] (dU 8 (body Tryz.f36)) 3 (cS u l e (fm k t m fl f) b0 b1 b2 false) (λc'=>aj [] c' (cS u l e (fm k t m fl f) b0 b1 b2 true)):=by
 cases b0<;>cases b1<;>cases b2<;>(refine rJ cC bZ rfl ?_;exact aj.ad ks8 is8)
theorem T1(hz:u.sz)(b2 b3:Bool):BN kg 57 [] (dU 8 (body Tryz.f36)) 1 (cS u l e (fm k t m fl f) true false b2 b3) (λc'=>aj [] c' (cS u l e (fm k t m fl f) true true b2 b3)):=by
 cases b2<;>cases b3<;>exact BN.mono (MN (g:=35) (dt:=[]) rfl rfl rfl rfl rfl rfl rfl rfl (c35 u hz) (by rintro O' r ⟨rfl,rfl⟩;exact⟨rfl,rfl⟩) rfl) (by rintro c' ⟨O',r,⟨rfl,rfl⟩,rfl⟩;exact aj.ad ks8 is8)
end
section
variable{E:Env} {Q:Exit->Act->World->Prop} {u:St} {l:List Rw} {e:Vt} {k t:Int} {m:Bool} {fl:Int} {f:FuncId}
def Wx(E:Env)(Q:Exit->Act->World->Prop)(u:St)(l:List Rw)(e:Vt)(kr:List AV)(b0 b1 b2 b3:Bool)(n:Nat):Prop:=∀a w,SR E (cS u l e kr b0 b1 b2 b3) a w->wpAny Tryz.prog .any (dU 8 (body Tryz.f36)) Q n #[b0,b1,b2,b3,false,false,false] a w
theorem afz(hN:E.N=57)(hp:∀b,bm b []=false->E.gK b=none)(hz:u.sz)(h1:Wx E Q u l e (fm k t m fl f) true true true true 3):Wx E Q u l e (fm k t m fl f) true false true true 4:=by
 intro a w hs;refine gj [1] (by kernel_rfl) (by simp) λi hi=>?_
 obtain rfl:i=1:=by simpa using hi
 exact eX (T1 u l e k t m fl f hz true true) hN hp hs λc a w h hs=>h1 a w (h E a w hp hs)
theorem afA(hN:E.N=57)(hp:∀b,bm b []=false->E.gK b=none)(hz:u.sz)(h2:Wx E Q u l e (fm k t m fl f) true true true true 3):Wx E Q u l e (fm k t m fl f) true true false true 4:=by
 intro a w hs;refine gj [2] (by kernel_rfl) (by simp) λi hi=>?_
 obtain rfl:i=2:=by simpa using hi
 exact eX (T2 u l e k t m fl f true true true) hN hp hs λc a w h hs=>h2 a w (h E a w hp hs)
theorem afB(hN:E.N=57)(hp:∀b,bm b []=false->E.gK b=none)(hz:u.sz)(h3:Wx E Q u l e (fm k t m fl f) true true true true 3):Wx E Q u l e (fm k t m fl f) true true true false 4:=by
 intro a w hs;refine gj [3] (by kernel_rfl) (by simp) λi hi=>?_
 obtain rfl:i=3:=by simpa using hi
 exact eX (T3 u l e k t m fl f true true true) hN hp hs λc a w h hs=>h3 a w (h E a w hp hs)
theorem afC(hN:E.N=57)(hp:∀b,bm b []=false->E.gK b=none)(hz:u.sz)(h2:Wx E Q u l e (fm k t m fl f) true true true false 4)(h3:Wx E Q u l e (fm k t m fl f) true true false true 4):Wx E Q u l e (fm k t m fl f) true true false false 5:=by
 intro a w hs;refine gj [2,3] (by kernel_rfl) (by simp) λi hi=>?_
 obtain rfl|rfl:i=2∨i=3:=by simpa using hi
 .exact eX (T2 u l e k t m fl f true true false) hN hp hs λc a w h hs=>h2 a w (h E a w hp hs)
 .exact eX (T3 u l e k t m fl f true true false) hN hp hs λc a w h hs=>h3 a w (h E a w hp hs)
theorem afD(hN:E.N=57)(hp:∀b,bm b []=false->E.gK b=none)(hz:u.sz)(h1:Wx E Q u l e (fm k t m fl f) true true true false 4)(h3:Wx E Q u l e (fm k t m fl f) true false true true 4):Wx E Q u l e (fm k t m fl f) true false true false 5:=by
 intro a w hs;refine gj [1,3] (by kernel_rfl) (by simp) λi hi=>?_
 obtain rfl|rfl:i=1∨i=3:=by simpa using hi
 .exact eX (T1 u l e k t m fl f hz true false) hN hp hs λc a w h hs=>h1 a w (h E a w hp hs)
 .exact eX (T3 u l e k t m fl f true false true) hN hp hs λc a w h hs=>h3 a w (h E a w hp hs)
theorem afE(hN:E.N=57)(hp:∀b,bm b []=false->E.gK b=none)(hz:u.sz)(h1:Wx E Q u l e (fm k t m fl f) true true false true 4)(h2:Wx E Q u l e (fm k t m fl f) true false true true 4):Wx E Q u l e (fm k t m fl f) true false false true 5:=by
 intro a w hs;refine gj [1,2] (by kernel_rfl) (by simp) λi hi=>?_
 obtain rfl|rfl:i=1∨i=2:=by simpa using hi
 .exact eX (T1 u l e k t m fl f hz false true) hN hp hs λc a w h hs=>h1 a w (h E a w hp hs)
 .exact eX (T2 u l e k t m fl f true false true) hN hp hs λc a w h hs=>h2 a w (h E a w hp hs)
theorem afF(hN:E.N=57)(hp:∀b,bm b []=false->E.gK b=none)(hz:u.sz)(h0:Wx E Q u l e (fm k t m fl f) true false true true 4):Wx E Q u l e (fm k t m fl f) false false true true 5:=by
 intro a w hs;refine gj [0] (by kernel_rfl) (by simp) λi hi=>?_
 obtain rfl:i=0:=by simpa using hi
 exact eX (T0 u l e k t m fl f false true true) hN hp hs λc a w h hs=>h0 a w (h E a w hp hs)
theorem afG(hN:E.N=57)(hp:∀b,bm b []=false->E.gK b=none)(hz:u.sz)(h1:Wx E Q u l e (fm k t m fl f) true true false false 5)(h2:Wx E Q u l e (fm k t m fl f) true false true false 5)(h3:Wx E Q u l e (fm k t m fl f) true false false true 5):Wx E Q u l e (fm k t m fl f) true false false false 6:=by
 intro a w hs;refine gj [1,2,3] (by kernel_rfl) (by simp) λi hi=>?_
 obtain rfl|rfl|rfl:i=1∨i=2∨i=3:=by simpa using hi
 .exact eX (T1 u l e k t m fl f hz false false) hN hp hs λc a w h hs=>h1 a w (h E a w hp hs)
 .exact eX (T2 u l e k t m fl f true false false) hN hp hs λc a w h hs=>h2 a w (h E a w hp hs)
 .exact eX (T3 u l e k t m fl f true false false) hN hp hs λc a w h hs=>h3 a w (h E a w hp hs)
theorem afH(hN:E.N=57)(hp:∀b,bm b []=false->E.gK b=none)(hz:u.sz)(h0:Wx E Q u l e (fm k t m fl f) true false true false 5)(h3:Wx E Q u l e (fm k t m fl f) false false true true 5):Wx E Q u l e (fm k t m fl f) false false true false 6:=by
 intro a w hs;refine gj [0,3] (by kernel_rfl) (by simp) λi hi=>?_
 obtain rfl|rfl:i=0∨i=3:=by simpa using hi
 .exact eX (T0 u l e k t m fl f false true false) hN hp hs λc a w h hs=>h0 a w (h E a w hp hs)
 .exact eX (T3 u l e k t m fl f false false true) hN hp hs λc a w h hs=>h3 a w (h E a w hp hs)
theorem afI(hN:E.N=57)(hp:∀b,bm b []=false->E.gK b=none)(hz:u.sz)(h0:Wx E Q u l e (fm k t m fl f) true false false true 5)(h2:Wx E Q u l e (fm k t m fl f) false false true true 5):Wx E Q u l e (fm k t m fl f) false false false true 6:=by
 intro a w hs;refine gj [0,2] (by kernel_rfl) (by simp) λi hi=>?_
 obtain rfl|rfl:i=0∨i=2:=by simpa using hi
 .exact eX (T0 u l e k t m fl f false false true) hN hp hs λc a w h hs=>h0 a w (h E a w hp hs)
 .exact eX (T2 u l e k t m fl f false false true) hN hp hs λc a w h hs=>h2 a w (h E a w hp hs)
theorem afJ(hN:E.N=57)(hp:∀b,bm b []=false->E.gK b=none)(hz:u.sz)(h0:Wx E Q u l e (fm k t m fl f) true false false false 6)(h2:Wx E Q u l e (fm k t m fl f) false false true false 6)(h3:Wx E Q u l e (fm k t m fl f) false false false true 6):Wx E Q u l e (fm k t m fl f) false false false false 7:=by
 intro a w hs;refine gj [0,2,3] (by kernel_rfl) (by simp) λi hi=>?_
 obtain rfl|rfl|rfl:i=0∨i=2∨i=3:=by simpa using hi
 .exact eX (T0 u l e k t m fl f false false false) hN hp hs λc a w h hs=>h0 a w (h E a w hp hs)
 .exact eX (T2 u l e k t m fl f false false false) hN hp hs λc a w h hs=>h2 a w (h E a w hp hs)
 .exact eX (T3 u l e k t m fl f false false false) hN hp hs λc a w h hs=>h3 a w (h E a w hp hs)
theorem afK(hN:E.N=57)(hp:∀b,bm b []=false->E.gK b=none)(hz:u.sz)(h:Wx E Q u l e (fm k t m fl f) true true true true 3):Wx E Q u l e (fm k t m fl f) false false false false 7:=by
 have QO:=h;have QP:=afz hN hp hz QO;have WE:=afA hN hp hz QO;have WG:=afB hN hp hz QO;have afL:=afC hN hp hz WG WE;have WH:=afD hN hp hz WG QP;have WJ:=afE hN hp hz WE QP;have WK:=afF hN hp hz QP;have afM:=afG hN hp hz afL WH WJ;have afN:=afH hN hp hz WH WK;have afO:=afI hN hp hz WJ WK;have afP:=afJ hN hp hz afM afN afO;exact afP
end
def KR(x:Int)(r:List AV):Prop:=∃k t m fl f,(x,k,t,m,fl,f)∈([(40,6,0,false,3,150),(41,2,0,false,-1,151),(42,5,1,false,-1,152),(43,5,0,false,-1,153),(44,6,0,false,3,154),
   (45,6,0,false,-1,155),(46,1,0,false,-1,156),(47,4,0,true,-1,157),(48,4,0,false,-1,158),(49,4,0,false,-1,159),
   (50,1,0,false,-1,160),(51,4,0,false,-1,161),(52,3,0,false,-1,162),(53,3,0,false,-1,163),(54,1,0,false,-1,164),
   (55,2,0,false,-1,165),(56,4,0,false,-1,166),(57,3,0,true,-1,167),(58,1,0,false,-1,168),(59,1,0,true,-1,169)]:List (Int×Int×Int×Bool×Int×FuncId))/\r=fm k t m fl f
theorem DI(x:Int):mB (I x) qf=none∨∃r,mB (I x) qf=some r/\KR x r:=by
 unfold qf;simp only[mB]
 repeat' split
 all_goals first
  |exact .inl rfl
  |(refine .inr ⟨_,rfl,?_⟩;rename_i h;have h:=aP h;subst h;refine⟨_,_,_,_,_,?_,rfl⟩;simp)
structure zi(e:Vt)(k t:Int)(m:Bool)(fl:Int):Prop where
 cG:(e.cG.length:Int)=t
 num:k<=(e.eH.length:Int)
 more:m=false->(e.eH.length:Int)=k
theorem alm(e:Vt)(k t:Int)(m:Bool)(fl:Int)(f:FuncId)(hk:mB (I e.kind) qf=some (fm k t m fl f))(hs:e.eH.length<=1000000)(eh:e.cG.length<=1000000)(nt:fl<0∨fl=3/\k=6):
  ∃kr b,Fn kg 74 [.agg (fy e)] (.bY [.agg kr,B b])/\(kr=fm k t m fl f∨b=false/\kr=[I 0,I 0,B false,I 0,.fc])/\(b=true->kr=fm k t m fl f/\zi e k t m fl):=by
 by_cases ht:(e.cG.length:Int)=t
 .by_cases h1:(e.eH.length:Int)<k
  .refine⟨[I 0,I 0,B false,I 0,.fc],false,aH I1 ⟨_,Jq,true,_,hk,?_⟩,.inr ⟨rfl,rfl⟩,(by intro h;cases h)⟩
   refine⟨[(2,false),(10,false),(16,true)],rfl,by simp[ht],by simp[h1],λh=>?_,λh=>?_⟩
   .exact⟨_,_,rfl,⟨rfl,rfl⟩,rfl,rfl,trivial⟩
   .revert h;simp[h1]
  .by_cases h2:k< (e.eH.length:Int)
   .cases m with
    |true=>
     refine⟨_,if fl<0 then true else eC ((e.eH[3]?).getD 0) 0 1,aH I1 ⟨_,Jq,true,_,hk,?_⟩,.inl rfl,λh=>⟨rfl,ht,by omega,by intro h;cases h⟩⟩;refine⟨[(2,false),(10,false),(16,false),(21,true)],rfl,by simp[ht],by simp[h1],by simp[h2],λh=>?_,λh=>?_⟩
     .revert h;simp[h1,ht]
     .rcases nt with nt|⟨rfl,rfl⟩
      .rw[if_pos nt]
       exact⟨[(4,true)],by simp[nt],_,_,rfl,⟨rfl,rfl⟩,rfl,rfl,trivial⟩
      .have h3:3<e.eH.length:=by omega
       obtain⟨y,hy⟩:∃y,e.eH[3]?=some y:=⟨_,aW h3⟩;rw[if_neg (by decide),hy];exact⟨[(4,false)],by simp,⟨by decide,by omega⟩,[I y],by simp[hy],_,V4 y 0 1,_,_,rfl,⟨rfl,rfl⟩,rfl,rfl,trivial⟩
    |false=>
     refine⟨[I 0,I 0,B false,I 0,.fc],false,aH I1 ⟨_,Jq,true,_,hk,?_⟩,.inr ⟨rfl,rfl⟩,(by intro h;cases h)⟩;refine⟨[(2,false),(10,false),(16,false),(21,true)],rfl,by simp[ht],by simp[h1],by simp[h2],λh=>?_,λh=>?_⟩
     .exact⟨_,_,rfl,⟨rfl,rfl⟩,rfl,rfl,trivial⟩
     .revert h;simp
   .refine⟨_,if fl<0 then true else eC ((e.eH[3]?).getD 0) 0 1,aH I1 ⟨_,Jq,true,_,hk,?_⟩,.inl rfl,λh=>⟨rfl,ht,by omega,λ_=>by omega⟩⟩
    refine⟨[(2,false),(10,false),(16,false),(21,false)],rfl,by simp[ht],by simp[h1],by simp[h2],λh=>?_,λ_=>?_⟩
    .revert h;simp[h1,ht]
    .rcases nt with nt|⟨rfl,rfl⟩
     .rw[if_pos nt]
      exact⟨[(4,true)],by simp[nt],_,_,rfl,⟨rfl,rfl⟩,rfl,rfl,trivial⟩
     .have h3:3<e.eH.length:=by omega
      obtain⟨y,hy⟩:∃y,e.eH[3]?=some y:=⟨_,aW h3⟩;rw[if_neg (by decide),hy];exact⟨[(4,false)],by simp,⟨by decide,by omega⟩,[I y],by simp[hy],_,V4 y 0 1,_,_,rfl,⟨rfl,rfl⟩,rfl,rfl,trivial⟩
 .refine⟨[I 0,I 0,B false,I 0,.fc],false,aH I1 ⟨_,Jq,true,_,hk,?_⟩,.inr ⟨rfl,rfl⟩,(by intro h;cases h)⟩
  refine⟨[(2,false),(10,true),(16,true)],rfl,by simp[ht],rfl,λh=>?_,λh=>?_⟩
  .exact⟨_,_,rfl,⟨rfl,rfl⟩,rfl,rfl,trivial⟩
  .revert h;simp
theorem aln(e:Vt)(hk:mB (I e.kind) qf=none)(hs:e.eH.length<=1000000)(eh:e.cG.length<=1000000):Fn kg 74 [.agg (fy e)] (.bY [.agg [I 0,I 0,B false,I 0,.fc],B false]):=by
 refine aH I1 ⟨_,Jq,false,hk,?_⟩;refine⟨[(2,true),(10,true),(16,true)],rfl,rfl,rfl,λh=>?_,λh=>?_⟩
 .exact⟨_,_,rfl,⟨rfl,rfl⟩,rfl,rfl,trivial⟩
 .revert h;simp
end Go.an.ax.G
namespace Go.an
open Go.RowKit
def kG(c:aM)(b:Nat):aM:=match aK c.O b with
 |some ae=>match Mg ae.kd with
  |true=>⟨IW b ae c.fr,yB b ae c.O⟩
  |false=>c
 |none=>c
def lx:List Nat->aM->aM
 |[],c=>c
 |b::r,c=>lx r (kG c b)
theorem aj.kG{ps:List Nat}(c:aM)(b:Nat):aj ps c (kG c b):=by
 unfold Go.an.kG
 split
 .rename_i ae h
  split
  .rename_i hk;exact aj.OV b ae h hk
  .exact aj.refl _ _
 .exact aj.refl _ _
theorem aj.lx{ps:List Nat}:∀(l:List Nat)(c:aM),aj ps c (lx l c)
 |[],c=>aj.refl _ _
 |b::r,c=>(aj.kG c b).trans (aj.lx r _)
end Go.an
namespace Go.an.ax.G
open Go Go.an Go.an.Day Go.Proofs Go.RowKit
inductive Own where
 |no|cl|ps|ag|bx|sf|bt|sw
def Own.id:Own->List Nat
 |.no=>[] |.cl=>[352] |.ps=>[432] |.ag=>[512] |.bx=>[1200] |.sf=>[1568] |.bt=>[1824] |.sw=>[1920]
abbrev jf(u:St)(a1 a2 a3 a4 a5 a6 a7:AV):List AV:=[JS u.po.sj,a1,a2,I u.po.yr,a3,PS u.po.pm,a4,a5,MS u.ms,QS u.qs,I u.bV,KS u.ks,a6,yi u.lk,a7,I u.ch]
def Own.row(u:St):Own->List AV
 |.no=>aF u
 |.cl=>jf u (.bn 33 6 u.po.cl.length) (Pe.A u.po.ps) (Ag.A u.po.ag) (BS u.bs) (SS u.ls) (TS u.bt) (uw u.sh)
 |.ps=>jf u (LS u.po.cl) (.bn 33 6 u.po.ps.length) (Ag.A u.po.ag) (BS u.bs) (SS u.ls) (TS u.bt) (uw u.sh)
 |.ag=>jf u (LS u.po.cl) (Pe.A u.po.ps) (.bn 33 6 u.po.ag.length) (BS u.bs) (SS u.ls) (TS u.bt) (uw u.sh)
 |.bx=>jf u (LS u.po.cl) (Pe.A u.po.ps) (Ag.A u.po.ag) (.bn 33 5 u.bs.length) (SS u.ls) (TS u.bt) (uw u.sh)
 |.sf=>jf u (LS u.po.cl) (Pe.A u.po.ps) (Ag.A u.po.ag) (BS u.bs) (.bn 33 4 u.ls.length) (TS u.bt) (uw u.sh)
 |.bt=>jf u (LS u.po.cl) (Pe.A u.po.ps) (Ag.A u.po.ag) (BS u.bs) (SS u.ls) (.bn 33 8 u.bt.length) (uw u.sh)
 |.sw=>jf u (LS u.po.cl) (Pe.A u.po.ps) (Ag.A u.po.ag) (BS u.bs) (SS u.ls) (TS u.bt) (.bn 33 3 u.sh.length)
def Own.ae(u:St):Own->List (Nat×ak)
 |.no=>[]
 |.cl=>[(33,⟨139,6,.pure,u.po.cl.map eW,[]⟩)]
 |.ps=>[(33,⟨142,6,.pure,u.po.ps.map Pe.gA,[]⟩)]
 |.ag=>[(33,⟨145,6,.pure,u.po.ag.map Ag.jc,[]⟩)]
 |.bx=>[(33,⟨84,5,.flat,u.bs.map bj,[]⟩)]
 |.sf=>[(33,⟨81,4,.pure,u.ls.map eN,[]⟩)]
 |.bt=>[(33,⟨97,8,.flat,u.bt.map aX,[]⟩)]
 |.sw=>[(33,⟨169,3,.pure,u.sh.map fW,[]⟩)]
abbrev cJ(row:List AV)(l:List Rw)(e:Vt):ak:=⟨177,22,.any,[row++[WS l]++fy e],[]⟩
abbrev Own.jg(u:St)(o:Own):List AV:=o.row u
def HC(f:FuncId)(o:Own)(u:St)(l:List Rw)(e:Vt)(row:List AV)(er:Int):Prop:=
 fS kg f [.af 18 0] ((18,cJ (o.row u) l e)::o.ae u) [18] [(18,cJ row l e)] (I er)
def yj(f:FuncId)(u:St)(l:List Rw)(e:Vt)(R:St->Prop):Prop:=
 ∃o er,(∃u',HC f o u l e (aF u') er/\(er=0->R u'))∨(er≠0/\∃u',HC f o u l e (o.jg u') er)
def xp:Code->Code
 |.seq x _=>x
 |c=>c
def gk:Code->Code
 |.seq _ x=>x
 |c=>c
theorem b36:body Tryz.f36=.seq (xp (body Tryz.f36)) (.seq (xp (gk (body Tryz.f36))) (.seq (xp (gk (gk (body Tryz.f36)))) (.seq (.region 8 (dU 8 (body Tryz.f36)) true) (gk (gk (gk (gk (body Tryz.f36)))))))):=by kernel_rfl
def Fi(u:St)(l:List Rw)(e:Vt)(kr:List AV):aM:=
  ⟨[(5,.af 80 0),(6,.af 96 0),(8,.af 128 0),(10,.af 608 0)],
   (608,cJ (Jt u) l e)::(BO u++[(80,⟨33,5,.any,[fy e],[]⟩),(96,⟨50,16,.any,[zU],[]⟩),(128,⟨172,5,.any,[kr],[]⟩)])⟩
section
variable(u:St) (l:List Rw) (e:Vt) (k t:Int) (m:Bool) (fl:Int) (f:FuncId)
abbrev cS5(u:St)(l:List Rw)(e:Vt)(kr:List AV):aM:=⟨[(37,.agg (Jt u++[WS l]++fy e)),(5,.af 80 0),(6,.af 96 0),(8,.af 128 0)],(cS u l e kr true true true true).O⟩
abbrev cS6(u:St)(l:List Rw)(e:Vt)(kr:List AV):aM:=⟨[(38,.af 608 0),(5,.af 80 0),(6,.af 96 0),(8,.af 128 0)],(608,cJ (Jt u) l e)::(cS u l e kr true true true true).O⟩
theorem T4:BN kg 57 [] (dU 8 (body Tryz.f36)) 4 (cS u l e (fm k t m fl f) true true true true) (λc'=>aj [] c' (cS5 u l e (fm k t m fl f))):=by
 refine rJ cC bZ rfl ?_;exact aj.ad [37,5,6,8] is8
theorem T5:BN kg 57 [] (dU 8 (body Tryz.f36)) 5 (cS5 u l e (fm k t m fl f)) (λc'=>aj [] c' (cS6 u l e (fm k t m fl f))):=by
 refine rJ cC bZ rfl ?_;exact aj.ad [38,5,6,8] (608::is8)
theorem T6:BN kg 57 [] (dU 8 (body Tryz.f36)) 6 (cS6 u l e (fm k t m fl f)) (λc'=>aj [] c' (Fi u l e (fm k t m fl f))):=by
 refine rJ cC bZ rfl ?_;exact aj.ad [5,6,8,10] [608,272,352,432,512,592,1200,1568,1616,1664,1712,1824,1872,1920,80,96,128]
end
theorem WL{E:Env}{Q:Exit->Act->World->Prop}{u:St}{l:List Rw}{e:Vt}{k t:Int}{m:Bool}{fl:Int}{f:FuncId}(hN:E.N=57)(hp:∀b,bm b []=false->E.gK b=none)(hz:u.sz)
  (h:∀a w,SR E (Fi u l e (fm k t m fl f)) a w->Q .normal a w){a:Act}{w:World}(hs:SR E (cS u l e (fm k t m fl f) false false false false) a w):(Code.region 8 (dU 8 (body Tryz.f36)) true).wp Tryz.prog Q a w:=by
 refine Ju mixed hs λw' eh=>?_
 refine afK hN hp hz (λa w hs=>?_) a w' eh;refine gj [4] (by kernel_rfl) (by simp) λi hi=>?_
 obtain rfl:i=4:=by simpa using hi
 refine eX (T4 u l e k t m fl f) hN hp hs λc a w hc hs=>?_
 have hs:=hc E a w hp hs;refine gj [5] (by kernel_rfl) (by simp) λi hi=>?_
 obtain rfl:i=5:=by simpa using hi
 refine eX (T5 u l e k t m fl f) hN hp hs λc a w hc hs=>?_
 have hs:=hc E a w hp hs;refine gj [6] (by kernel_rfl) (by simp) λi hi=>?_
 obtain rfl:i=6:=by simpa using hi
 refine eX (T6 u l e k t m fl f) hN hp hs λc a w hc hs=>?_
 exact⟨by kernel_rfl,h a w (hc E a w hp hs)⟩
end Go.an.ax.G
namespace Go.an.ax.G
open Go Go.an Go.Proofs Go.RowKit Go.Lib
theorem alo(t:ByteArray)(ht:t.size<=135):∃d:ByteArray,Fn kg 208 [.str t] (.str d):=by
 have bJ:((⟨#[]⟩:ByteArray)++t).size=t.size:=by rw[zv];show 0+t.size=_;omega
 obtain⟨d,alp⟩:=ajW z25 (⟨#[]⟩++t) t.size (by rw[bJ];exact ht);refine⟨d,lX adS [(1,[0]),(2,[3])] [] ?_⟩;refine⟨_,aj.refl _ _,_,_,[],ajO,rfl,?_⟩;refine⟨⟨[(3,.af 18 0),(5,.af 18 0),(7,.aL 1 1 [[.str t]])],[(18,Ms z25.1 ⟨#[]⟩ 0)]⟩,(aj.kG _ 112).trans ((aj.kr [3,5,7] [32] [(32,18)] rfl rfl rfl rfl).trans (aj.of rfl)),_,_,[18],ajP t ht,rfl,?_⟩;exact⟨_,alp,_,aj.ad [2] [],rfl,rfl,rfl⟩
abbrev gm(n:Int):ByteArray:=⟨(Lib.itoa n).toArray⟩
theorem ZT(n:Int)(h0: -9223372036854775808<=n)(h1:n<=9223372036854775807):Fn kg 209 [I n] (.str (gm n)):=by
 refine⟨⟨_,Tryz.func209,by kernel_rfl,by kernel_rfl⟩,λX w vs hw hl hv=>?_⟩;have hs:vs=#[.int .i64 n]:=by
  have h0:vs.size=1:=by simpa using hl.symm
  obtain⟨v,rfl⟩:=Array.size_eq_one_iff.1 h0;have:=VR.jA (hv 0 _ v rfl rfl);rw[this]
 subst hs;refine(Any.strconv_Itoa Tryz.PI n h0 h1 w (Y2 (by kernel_rfl) hw)).mono ?_;rintro e w' ⟨rfl,k,os,rfl⟩;exact⟨_,rfl,.str,I7 k os⟩
theorem QQ:∀(k u:Nat),u<10^(k+1)->Lib.nDigits u<=k+1
 |0,u,h=>by rw[Lib.nDigits_small (by simpa using h)];omega
 |k+1,u,h=>by
  by_cases h':u<10
  .rw[Lib.nDigits_small h'];omega
  .rw[Lib.nDigits_big h']
   have:=QQ k (u/10) (by rw[Nat.pow_succ]at h;omega);omega
theorem ux(n:Int)(h0: -9223372036854775808<=n)(h1:n<=9223372036854775807):(gm n).size<=20:=by
 show(Lib.itoa n).toArray.size<=20
 rw[cL];unfold Lib.itoa
 split
 .rw[bB,Lib.decDigits_length]
  have:=QQ 18 n.natAbs (by omega);omega
 .rw[Lib.decDigits_length]
  have:=QQ 18 n.toNat (by omega);omega
theorem alq(b:Bt)(r x:Int)(Fy: -9223372036854775808<=b.id)(yw:b.id<=9223372036854775807)(wH: -9223372036854775808<=r)(hr1:r<=9223372036854775807)(h0: -9223372036854775808<=x)(h1:x<=9223372036854775807):
  ∃d:ByteArray,Fn kg 207 [I x,.aw (aX b) 0,.aw [I r] 0] (.str d):=by
 have s1:=ux b.id Fy yw;have s2:=ux r wH hr1;have s3:=ux x h0 h1;have e1:(gm b.id++⟨#[32]⟩).size=(gm b.id).size+1:=by rw[zv];rfl
 have e2:(gm b.id++⟨#[32]⟩++gm r).size=(gm b.id).size+1+(gm r).size:=by rw[zv,e1]
 have e3:(gm b.id++⟨#[32]⟩++gm r++⟨#[32]⟩).size=(gm b.id).size+1+(gm r).size+1:=by rw[zv,e2];rfl
 have e4:(gm b.id++⟨#[32]⟩++gm r++⟨#[32]⟩++gm x).size=(gm b.id).size+1+(gm r).size+1+(gm x).size:=by rw[zv,e3]
 obtain⟨d,hd⟩:=alo (gm b.id++⟨#[32]⟩++gm r++⟨#[32]⟩++gm x) (by omega);refine⟨d,aH acy ⟨_,ZT b.id Fy yw,by show(gm b.id).size+1<=_;omega,_,ZT r wH hr1,?_,?_,_,ZT x h0 h1,?_,_,hd,rfl,rfl,rfl⟩⟩
 .show(gm b.id++⟨#[32]⟩).size+(gm r).size<=_;omega
 .show(gm b.id++⟨#[32]⟩++gm r).size+1<=_;omega
 .show(gm b.id++⟨#[32]⟩++gm r++⟨#[32]⟩).size+(gm x).size<=_;omega
end Go.an.ax.G
