import Derived.Test.YtpfmbblnhjpclaaGreatDoorJ28
import Derived.Test.YtpfmbblnhjpclaaGreatDoorJ22
set_option linter.unusedVariables false
set_option linter.unusedSimpArgs false
set_option maxRecDepth 20000
namespace Go.an.ax.G
open Go Go.an Go.an.Day Go.Proofs Go.RowKit
structure Sj where
 unit:Int
 made:l5
 cls:Int
 ps:List Int
def db(s:Sj):List AV:=[I s.unit,I s.made.lo,I s.made.hi,I s.cls,NS s.ps]
abbrev JS(l:List Sj):AV:=.aL 5 l.length (l.map db)
structure Po where
 sj:List Sj
 cl:List l6
 ps:List Pe.fT
 yr:Int
 ag:List Ag.o6
 pm:List kJ
abbrev dV(p:Po):List AV:=[JS p.sj,LS p.cl,Pe.A p.ps,I p.yr,Ag.A p.ag,PS p.pm]
structure Po.sz(p:Po):Prop where
 sj:p.sj.length<=100000
 js:∀s∈p.sj,s.ps.length<=1000
 cl:p.cl.length<=100000
 ps:p.ps.length<=100000
 nm:∀x∈p.ps,x.sz
 ag:p.ag.length<=100000
 pm:p.pm.length<=100000
theorem akq(l:List Int)(hl:l.length<=9223372036854775807):Fn kg 130 [NS l] (B (Pe.kP none l)):=by
 refine aH abT ?_;refine⟨λn c=>∃(i:Nat)(cf:Option Int),i<=l.length/\n=l.length-i/\c=⟨[(0,NS l),(2,B false),(5,I l.length),(6,I i)],[]⟩/\(∀j,i=j+1->∃s,l[j]?=some s/\cf=some s)/\(i=0->cf=none)/\Pe.kP cf (l.drop i)=Pe.kP none l,
  ⟨_,_,Wk.ad [0,2,5,6] [],0,none,by omega,rfl,rfl,λj h=>(by omega),λ_=>rfl,by simp⟩,?_⟩
 rintro n c ⟨i,cf,hi,rfl,rfl,hp1,Py,hI⟩;refine⟨λaC=>?_,λaC=>?_⟩
 .simp at aC
  obtain⟨r,hr,hd,ht⟩:=aq aC;rw[hd,Pe.xi]at hI
  cases i with
  |zero=>
   have:=Py rfl;subst this;refine⟨[(2,false)],rfl,λh=>(by cases h),λ_=>⟨_,ah,?_⟩⟩;exact⟨_,_,Wk.ad [0,2,5,6] [],by omega,1,some r,by omega,rfl,rfl,λk h=>⟨r,by rw[show k=0 by omega];exact hr,rfl⟩,λh=>(by cases h),hI⟩
  |succ i=>
   obtain⟨q,hq,rfl⟩:=hp1 i rfl;simp only at hI;refine⟨[(2,true)],by simp,by omega,[I r],by simp[hr],_,au (y:=((i:Nat):Int)) (by omega),by omega,[I q],by simp[hq],λeY=>?_,λeY=>?_⟩
   .have eY:decide (r<=q)=true:=eY
    rw[if_pos (by simpa using eY)]at hI;rw[<-hI];exact⟨rfl,rfl,rfl⟩
   .have eY:decide (r<=q)=false:=eY
    rw[if_neg (by simpa using eY)]at hI;refine⟨_,ah,?_⟩;exact⟨_,_,Wk.ad [0,2,5,6] [],by omega,i+1+1,some r,by omega,rfl,rfl,λk h=>⟨r,by rw[show k=i+1 by omega];exact hr,rfl⟩,λh=>(by cases h),hI⟩
 .simp at aC
  have:i=l.length:=by omega
  subst this;simp[Pe.kP]at hI;rw[<-hI];exact⟨rfl,rfl,rfl⟩
theorem akr(x:Pe.fT)(n:Int):Fn kg 132 [.agg (Pe.gA x),.aw [I n] 0] (B (x.id==n)):=aH abV ⟨rfl,rfl,rfl⟩
theorem aks(l:List Pe.fT)(hl:l.length<=9223372036854775807)(n:Int):Fn kg 131 [Pe.A l,.func 132 [.aw [I n] 0]] (B (l.any (·.id==n))):=
 aH abU ⟨_,Pe.aeG l hl (·.id==n) 132 [I n] (λa _=>akr a n),rfl,rfl,by rw[<-fj];rfl⟩
def known(ps:List Pe.fT)(n:Int):Bool:=ps.any (·.id==n)
def xk(ps:List Pe.fT)(cf:Option Sj):List Sj->Int
 |[]=>0
 |s::r=>if cj s.unit=false∨s.cls<0∨999<s.cls then 2 else if nA s.made=false then 1 else
   if(match cf with|some p=>decide (s.unit<=p.unit)|none=>false)=true∨Pe.kP none s.ps=false then 5 else
   if s.ps.all (known ps)=false then 7 else xk ps (some s) r
def Ue(p:Po):Int:=if 256<p.sj.length then 8 else xk p.ps none p.sj
abbrev CJ(p:Po)(i:Int):aM:=⟨[(1,.af 16 0),(2,I 0),(12,JS p.sj),(13,I p.sj.length),(14,I i)],[(16,⟨40,6,.any,[dV p],[]⟩)]⟩
abbrev CJ2(p:Po)(i:Int)(s:Sj)(j:Int):aM:=⟨[(1,.af 16 0),(2,I 0),(12,JS p.sj),(13,I p.sj.length),(14,I i),(61,NS s.ps),(62,I s.ps.length),(63,I j)],[(16,⟨40,6,.any,[dV p],[]⟩)]⟩
theorem c95(p:Po)(hz:p.sz):Fn kg 95 [.agg (dV p)] (I (Ue p)):=by
 have hl:=hz.sj;have Il:=hz.ps;refine aH abA ⟨λh=>?_,λh=>?_⟩
 .have h:(256:Int)<p.sj.length:=aP h
  rw[Ue,if_pos (by omega)];exact⟨rfl,rfl,rfl⟩
 .have h:¬(256:Int)<p.sj.length:=j0 h
  rw[Ue,if_neg (by omega)];refine⟨λn c=>∃(i:Nat)(cf:Option Sj),i<=p.sj.length/\n=p.sj.length-i/\c=CJ p i/\(∀j,i=j+1->∃s,p.sj[j]?=some s/\cf=some s)/\(i=0->cf=none)/\xk p.ps cf (p.sj.drop i)=xk p.ps none p.sj,
   ⟨_,_,Wk.ad [1,2,12,13,14] [16],0,none,by omega,rfl,rfl,λj h=>(by omega),λ_=>rfl,by simp⟩,?_⟩
  rintro n c ⟨i,cf,hi,rfl,rfl,hp1,Py,hI⟩;refine⟨λaC=>?_,λaC=>?_⟩
  .simp at aC
   obtain⟨s,hs,hd,ht⟩:=aq aC;have mi:=hz.js s (ay hs);rw[hd]at hI;simp only[xk]at hI;refine⟨by omega,db s,by simp[hs],[],_,c28 s.unit,λhf=>?_,λhf=>?_⟩
   .have hf:(!cj s.unit||decide (s.cls<0)||decide (s.cls>999))=true:=hf
    rw[if_pos (by simpa[ee]using hf)]at hI;rw[<-hI];exact⟨rfl,rfl,rfl⟩
   .have hf:(!cj s.unit||decide (s.cls<0)||decide (s.cls>999))=false:=hf
    rw[if_neg (by simpa[ee,and_assoc]using hf)]at hI;refine⟨_,kD s.made,λhm=>?_,λhm=>?_⟩
    .have hm:(oq s.made !=0)=true:=hm
     rw[iA]at hm;rw[if_pos (by simpa using hm)]at hI;rw[<-hI];exact⟨rfl,rfl,rfl⟩
    .have hm:(oq s.made !=0)=false:=hm
     rw[iA]at hm;rw[if_neg (by simpa using hm)]at hI;have aeQ:=akq s.ps (by omega);have Qh:∀q,cf=some q->Pe.kP none s.ps=true->decide (s.unit<=q.unit)=false->(if s.ps.all (known p.ps)=false then(7:Int)else xk p.ps (some s) (p.sj.drop (i+1)))=xk p.ps none p.sj:=λq e1 e2 e3=>by
      subst e1;simp only at hI;rw[if_neg (by rw[e3,e2];simp)]at hI;exact hI
     have NO:cf=none->Pe.kP none s.ps=true->(if s.ps.all (known p.ps)=false then(7:Int)else xk p.ps (some s) (p.sj.drop (i+1)))=xk p.ps none p.sj:=λe1 e2=>by
      subst e1;simp only at hI;rw[if_neg (by rw[e2];simp)]at hI;exact hI
     by_cases h0:i=0
     case' pos=>
      have H0:=Py h0;refine⟨[(2,false),(14,false)],qA (by omega),rfl,_,aeQ,λhc=>?_,λhc=>?_⟩
      .have hc:(!Pe.kP none s.ps)=true:=hc
       subst H0;rw[if_pos (by right;simpa using hc)]at hI;rw[<-hI];exact⟨rfl,rfl,rfl⟩
      have hc:Pe.kP none s.ps=true:=by
       have hc:(!Pe.kP none s.ps)=false:=hc;simpa using hc
      have hI:=NO H0 hc
     case' neg=>
      obtain⟨q,hq,XV⟩:=hp1 (i-1) (by omega);have V5:(p.sj.map db)[((i:Int)-1).toNat]?=some (db q):=by
       rw[show((i:Int)-1).toNat=i-1 by omega,aS,hq];rfl
      by_cases eY:decide (s.unit<=q.unit)=true
      .refine⟨[(2,true),(14,true)],uG (by omega),_,au (y:=(i:Int)-1) rfl (by omega) (by omega),by omega,db q,V5,eY,λhc=>?_,λhc=>(by cases hc)⟩
       subst XV;rw[if_pos (by left;exact eY)]at hI;rw[<-hI];exact⟨rfl,rfl,rfl⟩
      have eY:decide (s.unit<=q.unit)=false:=by simpa using eY
      refine⟨[(2,true),(14,false)],uG (by omega),_,au (y:=(i:Int)-1) rfl (by omega) (by omega),by omega,db q,V5,eY,_,aeQ,λhc=>?_,λhc=>?_⟩
      .have hc:(!Pe.kP none s.ps)=true:=hc
       subst XV;rw[if_pos (by right;simpa using hc)]at hI;rw[<-hI];exact⟨rfl,rfl,rfl⟩
      have hc:Pe.kP none s.ps=true:=by
       have hc:(!Pe.kP none s.ps)=false:=hc;simpa using hc
      have hI:=Qh q XV hc eY
     all_goals
      refine⟨λn c=>∃j:Nat,j<=s.ps.length/\n=s.ps.length-j/\c=CJ2 p i s j/\(∀x∈s.ps.take j,known p.ps x=true),⟨_,_,Wk.ad [1,2,12,13,14,61,62,63] [16],0,by omega,rfl,rfl,by simp⟩,?_⟩;rintro n c ⟨j,hj,rfl,rfl,hJ⟩;refine⟨λl9=>?_,λl9=>?_⟩
      .simp at l9
       obtain⟨x,hx,hdx,htx⟩:=aq l9;have akt:=aks p.ps (by omega) x;refine⟨by omega,[I x],by simp[hx],_,akt,λhk=>?_,λhk=>?_⟩
       .have hk:(!known p.ps x)=true:=hk
        have:s.ps.all (known p.ps)=false:=by
         rw[List.all_eq_false];exact⟨x,ay hx,by simpa using hk⟩
        rw[if_pos this]at hI;rw[<-hI];exact⟨rfl,rfl,rfl⟩
       .have hk:(!known p.ps x)=false:=hk
        refine⟨_,ah,?_⟩;refine⟨_,_,Wk.ad [1,2,12,13,14,61,62,63] [16],by omega,j+1,by omega,rfl,rfl,λy hy=>?_⟩;rw[htx]at hy
        rcases cE.1 hy with hy|hy
        .exact hJ y hy
        .rw[iw.1 hy];simpa using hk
      .simp at l9
       have:j=s.ps.length:=by omega
       subst this;rw[oB]at hJ;have:s.ps.all (known p.ps)=true:=iT.2 hJ;rw[if_neg (by rw[this];simp)]at hI;refine⟨_,ah,?_⟩;exact⟨_,_,Wk.ad [1,2,12,13,14] [16],by omega,i+1,some s,by omega,rfl,rfl,λk h=>⟨s,by rw[show k=i by omega];exact hs,rfl⟩,λh=>(by omega),hI⟩
  .simp at aC
   have:i=p.sj.length:=by omega
   subst this;simp[xk]at hI;rw[<-hI];exact⟨rfl,rfl,rfl⟩
def sL(p:Po):Int:=
 if jT p.cl≠0 then jT p.cl else if Pe.bg p.ps≠0 then Pe.bg p.ps else if Ag.bg p.ag≠0 then Ag.bg p.ag else if jy p.pm≠0 then jy p.pm else
  if p.yr<0∨200<p.yr then 2 else Ue p
theorem Wh(p:Po)(hz:p.sz):Fn kg 51 [.agg (dV p)] (I (sL p)):=by
 have h1:=c91 p.cl (by have:=hz.cl;omega);have h2:=Pe.YD p.ps hz.nm;have h3:=Ag.c93 p.ag;have h4:=c94 p.pm (by have:=hz.pm;omega);have h5:=c95 p hz;refine aH abt ⟨_,h1,_,h2,_,h3,_,h4,?_⟩
 let es:=[jT p.cl,Pe.bg p.ps,Ag.bg p.ag,jy p.pm]
 refine⟨λn c=>∃i:Nat,i<=4/\n=4-i/\c=⟨[(1,.af 16 0),(2,I 0),(17,.bn 272 1 4),(18,I 4),(19,I i)],[(16,⟨40,6,.any,[dV p],[]⟩),(272,⟨54,1,.pure,[[I (jT p.cl)],[I (Pe.bg p.ps)],[I (Ag.bg p.ag)],[I (jy p.pm)]],[]⟩)]⟩/\∀j,j<i->es[j]?=some 0,
  ⟨_,_,Wk.ad [1,2,17,18,19] [16,272],0,by omega,rfl,rfl,λj h=>(by omega)⟩,?_⟩
 rintro n c ⟨i,hi,rfl,rfl,hI⟩;refine⟨λaC=>?_,λaC=>?_⟩
 .have aC:i<4:=by simp at aC;omega
  obtain⟨x,hx,aD,hpo⟩:∃x,es[i]?=some x/\ [[I (jT p.cl)],[I (Pe.bg p.ps)],[I (Ag.bg p.ag)],[I (jy p.pm)]][i]?=some [I x] /\(x≠0->sL p=x):=by
   match i,aC,hI with
   |0,_,hI=>exact⟨_,rfl,rfl,λh=>by unfold sL;rw[if_pos h]⟩
   |1,_,hI=>
    have e1:jT p.cl=0:=by simpa[es]using hI 0 (by omega)
    exact⟨_,rfl,rfl,λh=>by unfold sL;rw[if_neg (by simp[e1]),if_pos h]⟩
   |2,_,hI=>
    have e1:jT p.cl=0:=by simpa[es]using hI 0 (by omega)
    have e2:Pe.bg p.ps=0:=by simpa[es]using hI 1 (by omega)
    exact⟨_,rfl,rfl,λh=>by unfold sL;rw[if_neg (by simp[e1]),if_neg (by simp[e2]),if_pos h]⟩
   |3,_,hI=>
    have e1:jT p.cl=0:=by simpa[es]using hI 0 (by omega)
    have e2:Pe.bg p.ps=0:=by simpa[es]using hI 1 (by omega)
    have e3:Ag.bg p.ag=0:=by simpa[es]using hI 2 (by omega)
    exact⟨_,rfl,rfl,λh=>by unfold sL;rw[if_neg (by simp[e1]),if_neg (by simp[e2]),if_neg (by simp[e3]),if_pos h]⟩
  refine⟨by omega,[I x],aD,λh=>?_,λh=>?_⟩
  .rw[hpo (by simpa using h)];exact⟨rfl,rfl,rfl⟩
  .have h:x=0:=by simpa using h
   subst h;refine⟨_,ah,?_⟩;refine⟨_,_,Wk.ad [1,2,17,18,19] [16,272],by omega,i+1,by omega,rfl,rfl,λj hj=>?_⟩
   rcases eJ j i with h|h
   .exact hI j h
   .rw[show j=i by omega];exact hx
 .have:i=4:=by simp at aC;omega
  subst this;have e1:jT p.cl=0:=by simpa[es]using hI 0 (by omega)
  have e2:Pe.bg p.ps=0:=by simpa[es]using hI 1 (by omega)
  have e3:Ag.bg p.ag=0:=by simpa[es]using hI 2 (by omega)
  have e4:jy p.pm=0:=by simpa[es]using hI 3 (by omega)
  have hE:sL p=if p.yr<0∨200<p.yr then 2 else Ue p:=by unfold sL;simp[e1,e2,e3,e4]
  rw[hE];refine⟨[],λh=>?_,λh=>?_⟩
  .have h:(decide (p.yr<0)||decide (p.yr>200))=true:=h
   rw[if_pos (by simpa using h)];exact⟨rfl,rfl,rfl⟩
  .have h:(decide (p.yr<0)||decide (p.yr>200))=false:=h
   rw[if_neg (by simpa using h)];exact⟨_,h5,rfl,rfl,rfl⟩
theorem aeR(l:List Sj)(hl:l.length<=9223372036854775807)(p:Sj->Bool)(g:FuncId)(xs:List AV)(hp:∀a∈l,Fn kg g [.agg (db a),.aw xs 0] (B (p a))):Fn kg 258 [JS l,.func g [.aw xs 0]] (I (aQ p 0 l)):=by
 refine aH VH ?_;refine⟨λn c=>∃i:Nat,i<=l.length/\n=l.length-i/\c=⟨[(0,JS l),(1,.func g [.aw xs 0]),(4,I 0),(7,I l.length),(8,I i)],[]⟩/\aQ p i (l.drop i)=aQ p 0 l,⟨_,_,Wk.ad [0,1,4,7,8] [],0,by omega,rfl,rfl,by simp⟩,?_⟩;rintro n c ⟨i,hi,rfl,rfl,hI⟩;refine⟨λh=>?_,λh=>?_⟩
 .simp at h
  obtain⟨a,ha,hd,_⟩:=aq h;rw[hd,aQ]at hI;refine⟨⟨by omega,by omega⟩,db a,by simp[ha],_,hp a (ay ha),λhf=>?_,λhf=>?_⟩
  .rw[if_pos hf]at hI
   exact⟨rfl,rfl,by rw[<-hI];rfl⟩
  .rw[if_neg (by simp[hf])]at hI
   refine⟨_,ah,?_⟩;exact⟨_,_,Wk.ad [0,1,4,7,8] [],by omega,i+1,by omega,rfl,rfl,hI⟩
 .simp at h
  have:i=l.length:=by omega
  subst this;simp[aQ]at hI;exact⟨rfl,rfl,by rw[<-hI];rfl⟩
def Zj:Sj:=⟨0,⟨0,0⟩,0,[]⟩
def ze(p:Po)(u:Int):Sj:=(p.sj.find? (·.unit==u)).getD Zj
theorem Hq{α:Type}{p:α->Bool}{l:List α}:(aQ p 0 l= -1/\l.find? p=none)∨∃(i:Nat)(a:α),l[i]?=some a/\aQ p 0 l=i/\l.find? p=some a/\p a=true:=by
 rcases dH p l 0 with⟨hn,tX⟩|⟨i,a,ha,hc,hi,Zi⟩
 .exact .inl ⟨hn,zy.2 (by simpa using tX)⟩
 .refine .inr ⟨i,a,ha,by rw[hi];simp,?_,hc⟩
  have aC:=(aE.1 ha).1;rw[uI];refine⟨hc,i,aC,(aE.1 ha).2,λj hj=>?_⟩;have:=Zi j (l[j]'(by omega)) hj (aW (by omega));simpa using this
theorem aku(s:Sj)(n:Int):Fn kg 259 [.agg (db s),.aw [I n] 0] (B (s.unit==n)):=aH acO ⟨rfl,rfl,rfl⟩
theorem aeS(p:Po)(hz:p.sz)(u:Int):∃b,Fn kg 172 [.agg (dV p),I u] (.bY [.agg (db (ze p u)),B b]):=by
 have hl:=hz.sj;have Uf:=aeR p.sj (by omega) (·.unit==u) 259 [I u] (λa _=>aku a u)
 rcases Hq (p:=λs:Sj=>s.unit==u) (l:=p.sj)with⟨hn,hf⟩|⟨i,s,hs,hi,hf,hc⟩
 .rw[hn]at Uf
  have e:ze p u=Zj:=by unfold ze;rw[hf];rfl
  rw[e];refine⟨false,Fn.gi (r:=.agg [I 0,I 0,I 0,I 0,.ai]) ?_ rfl rfl (.EB ⟨.refl _,.refl _,.refl _,.refl _,.nil 1,trivial⟩)⟩;exact aH Pb ⟨_,Uf,λh=>⟨_,_,rfl,⟨rfl,rfl⟩,rfl,rfl,trivial⟩,λh=>absurd h (by decide)⟩
 .rw[hi]at Uf
  have aC:=(aE.1 hs).1;have e:ze p u=s:=by unfold ze;rw[hf];rfl
  rw[e];refine⟨true,aH Pb ⟨_,Uf,λh=>absurd h (by simp),λh=>?_⟩⟩;exact⟨⟨by omega,by omega⟩,db s,by simp[hs],_,_,rfl,⟨rfl,rfl⟩,rfl,rfl,trivial⟩
def Ug(cls d:Int)(r:l6):Bool:=(r.cls==cls)&&decide (r.jW<=d)&&decide (d<r.mK)
theorem akv(r:l6)(cls d:Int):Fn kg 316 [.agg (eW r),.aw [I cls] 0,.aw [I d] 0] (B (Ug cls d r)):=aH adn ⟨[],rfl,rfl,rfl⟩
def aeT:l6:=⟨0,0,0,false,0,0⟩
def Bn(l:List l6)(cls d:Int):Option l6:=if jT l≠0 then none else l.find? (Ug cls d)
theorem akw(l:List l6)(hl:l.length<=9223372036854775807)(cls d:Int):Fn kg 260 [LS l,I cls,I d] (.bY [.agg (eW ((Bn l cls d).getD aeT)),B (Bn l cls d).isSome]):=by
 have Uh:=aeM l hl (Ug cls d) 316 [I cls] [I d] (λa _=>akv a cls d)
 rcases Hq (p:=Ug cls d) (l:=l)with⟨hn,hf⟩|⟨i,s,hs,hi,hf,hc⟩
 .rw[hn]at Uh
  have e:Bn l cls d=none:=by
   unfold Bn
   split
   .rfl
   .exact hf
  rw[e];refine aH Pm ⟨_,Uh,[(2,true)],rfl,λh=>?_,λh=>absurd h (by simp)⟩;exact⟨_,_,rfl,⟨rfl,rfl⟩,rfl,rfl,trivial⟩
 .rw[hi]at Uh
  have aC:=(aE.1 hs).1;refine aH Pm ⟨_,Uh,[(2,false)],by simp,_,c91 l hl,λh=>?_,λh=>?_⟩
  .have h:jT l≠0:=by simpa using h
   have e:Bn l cls d=none:=by unfold Bn;rw[if_pos h]
   rw[e];exact⟨_,_,rfl,⟨rfl,rfl⟩,rfl,rfl,trivial⟩
  .have h:jT l=0:=by simpa using h
   have e:Bn l cls d=some s:=by unfold Bn;rw[if_neg (by simp[h]),hf]
   rw[e];exact⟨⟨by omega,by omega⟩,eW s,by simp[hs],_,_,rfl,⟨rfl,rfl⟩,rfl,rfl,trivial⟩
theorem Zk{c:Prop} [Decidable c]{x y:Int}(h:(if c then x else y)=0)(hx:x≠0):¬c/\y=0:=by
 by_cases hc:c
 .rw[if_pos hc]at h;exact absurd h hx
 .rw[if_neg hc]at h;exact⟨hc,h⟩
theorem Hr:∀(l pre:List l6),nS pre l=0->∀r∈l,Jk r=true
 |[],_,_,r,h=>by cases h
 |a::l,pre,h,r,hr=>by
  rw[nS]at h;obtain⟨hf,h⟩:=Zk h (by decide);obtain⟨_,h⟩:=Zk h (by decide);obtain⟨_,h⟩:=Zk h (by decide)
  rcases bK.1 hr with rfl|hr
  .simpa using hf
  .exact Hr l _ h r hr
theorem Zl{l:List l6}(h:jT l=0):∀r∈l,Jk r=true:=by
 unfold jT at h
 split at h
 .cases h
 .exact Hr l [] h
theorem Wy(r:l6)(made:l5)(hr:Jk r=true)(hm:nA made=true):∃u,Fn kg 261 [.agg (eW r),.agg (kC made)] (I u):=by
 have hm:=zb.1 hm;have hy:0<=r.o5/\r.o5<=200:=by
  simp only[Jk,aA,zp]at hr;omega
 have hg:rE made.hi:=⟨by omega,by omega⟩;have h1:=Ws made.hi r.o5 hg hy.1 hy.2;obtain⟨N4,_⟩:=kE hg hy.1 (k:=r.o5);obtain⟨y,m,n,hD⟩:=vR N4.1 N4.2;have h2:=MC _ y m n hD N4.2
 cases he:r.ye with
 |true=>exact⟨_,aH VI ⟨_,h1,λh=>⟨_,h2,_,rfl,rfl,rfl,rfl⟩,λh=>absurd h (by rw[he];simp)⟩⟩
 |false=>exact⟨_,aH VI ⟨_,h1,λh=>absurd h (by rw[he];simp),λh=>⟨_,rfl,rfl,rfl,rfl⟩⟩⟩
noncomputable def Jl(r:l6)(made:l5):Int:=if h:Jk r=true/\nA made=true then Classical.choose (Wy r made h.1 h.2)else 0
theorem akx(r:l6)(made:l5)(hr:Jk r=true)(hm:nA made=true):Fn kg 261 [.agg (eW r),.agg (kC made)] (I (Jl r made)):=by
 unfold Jl;rw[dif_pos ⟨hr,hm⟩];exact qC (Wy r made hr hm)
abbrev nl:=Ag.nl
abbrev Gr:=Ag.Gr
abbrev fG(l:List Gr):AV:=Ag.fG l
abbrev GS(l:List Gr):AV:=Ag.G l
noncomputable def vV(l:List l6)(cls:Int)(made:l5)(d:Int):Option Gr:=
 match Bn l cls d with
 |none=>none
 |some r=>if nA made=false∨d>=Jl r made then none else some ⟨1,r.id,0,Jl r made⟩
def aky:Gr:=⟨0,0,0,0⟩
theorem akz(l:List l6)(hl:l.length<=9223372036854775807)(cls:Int)(made:l5)(d:Int):Fn kg 173 [LS l,I cls,.agg (kC made),I d] (.bY [.agg (nl ((vV l cls made d).getD aky)),B (vV l cls made d).isSome]):=by
 have Qi:=akw l hl cls d;have hD:=kD made
 cases hi:Bn l cls d with
 |none=>
  have e:vV l cls made d=none:=by unfold vV;rw[hi]
  rw[hi]at Qi;rw[e];refine aH Kr ⟨_,Qi,[(2,true),(7,true)],rfl,rfl,λh=>?_,λh=>(by cases h)⟩;exact⟨_,_,rfl,⟨rfl,rfl⟩,rfl,rfl,trivial⟩
 |some r=>
  rw[hi]at Qi;have hr:Jk r=true:=by
   unfold Bn at hi
   split at hi
   .cases hi
   .rename_i h0
    exact Zl (by simpa using h0) r (List.mem_of_find?_eq_some hi)
  cases kM:nA made with
  |false=>
   have e:vV l cls made d=none:=by unfold vV;rw[hi];simp[kM]
   rw[e];refine aH Kr ⟨_,Qi,[(2,false),(7,true)],rfl,_,hD,by show(oq made !=0)=true;rw[iA,kM];rfl,λh=>?_,λh=>(by cases h)⟩;exact⟨_,_,rfl,⟨rfl,rfl⟩,rfl,rfl,trivial⟩
  |true=>
   have aeU:=akx r made hr kM;refine aH Kr ⟨_,Qi,[(2,false),(7,false)],rfl,_,hD,by show(oq made !=0)=false;rw[iA,kM];rfl,_,aeU,λh=>?_,λh=>?_⟩
   .have h:d>=Jl r made:=aP h
    have e:vV l cls made d=none:=by unfold vV;rw[hi];simp only;rw[if_pos (.inr h)]
    rw[e];exact⟨_,_,rfl,⟨rfl,rfl⟩,rfl,rfl,trivial⟩
   .have h:¬d>=Jl r made:=j0 h
    have e:vV l cls made d=some ⟨1,r.id,0,Jl r made⟩:=by unfold vV;rw[hi];simp only;rw[if_neg (by simp[kM];omega)]
    rw[e];exact⟨_,aeU,_,_,rfl,⟨rfl,rfl⟩,rfl,rfl,trivial⟩
noncomputable def g1(p:Po)(r:Rw)(d:Int):List Gr:=
 match vV p.cl (ze p r.unit).cls (ze p r.unit).made d with
 |some g=>if(ze p r.unit).cls=0 then[]else[g]
 |none=>[]
theorem Qj{p:Po}(hz:p.sz)(u:Int):(ze p u).ps.length<=1000:=by
 unfold ze
 cases h:p.sj.find? (·.unit==u)with
 |none=>simp[Zj]
 |some s=>exact hz.js s (List.mem_of_find?_eq_some h)
theorem akA(p:Po)(hz:p.sz)(r:Rw)(d:Int):Fn kg 171 [.agg (dV p),.agg (gL r),I d] (fG (g1 p r d)):=by
 obtain⟨b,Zm⟩:=aeS p hz r.unit;have akB:=akz p.cl (by have:=hz.cl;omega) (ze p r.unit).cls (ze p r.unit).made d;refine aH Vw ⟨_,Zm,_,akB,[],λh=>?_,λh=>?_⟩
 .have h:((vV p.cl (ze p r.unit).cls (ze p r.unit).made d).isSome&&((ze p r.unit).cls !=0))=true:=h
  simp only[aA,bF,bne_iff_ne]at h;obtain⟨⟨g,hg⟩,hc⟩:=h;have e:g1 p r d=[g]:=by unfold g1;rw[hg];simp only;rw[if_neg hc]
  rw[e,hg];exact⟨rfl,_,rfl,rfl,rfl,.inl ⟨rfl,rfl⟩⟩
 .have h:((vV p.cl (ze p r.unit).cls (ze p r.unit).made d).isSome&&((ze p r.unit).cls !=0))=false:=h
  have e:g1 p r d=[]:=by
   unfold g1
   cases hg:vV p.cl (ze p r.unit).cls (ze p r.unit).made d with
   |none=>rfl
   |some g=>
    simp only;rw[if_pos];rw[hg]at h;simpa using h
  rw[e];exact⟨rfl,.inr ⟨true,187,4,rfl⟩⟩
noncomputable def g2(p:Po)(r:Rw)(d:Int):List Gr:=(Pe.jx p.ps (ze p r.unit).ps (ze p r.unit).made p.yr d).1
theorem akC(p:Po)(hz:p.sz)(r:Rw)(d:Int):Fn kg 176 [.agg (dV p),.agg (gL r),I d] (fG (g2 p r d)):=by
 obtain⟨b,Zm⟩:=aeS p hz r.unit;have akD:=Pe.aki p.ps (by have:=hz.ps;omega) hz.nm (ze p r.unit).ps (Qj hz r.unit) (ze p r.unit).made p.yr d;exact aH Vx ⟨_,Zm,_,akD,false,rfl,_,rfl,rfl,by simp,.inl ⟨rfl,by simp[g2]⟩⟩
def g3(p:Po)(r:Rw)(d:Int):List Gr:=if r.bX=0 then[]else Ag.kF p.ag r.bX d
theorem akE(p:Po)(hz:p.sz)(r:Rw)(d:Int):Fn kg 179 [.agg (dV p),.agg (gL r),I d] (fG (g3 p r d)):=by
 refine aH Vz ⟨λh=>?_,λh=>?_⟩
 .have h:r.bX=0:=by simpa using h
  have e:g3 p r d=[]:=by unfold g3;rw[if_pos h]
  rw[e];exact⟨rfl,.inr ⟨true,187,4,rfl⟩⟩
 .have h:r.bX≠0:=by simpa using h
  have e:g3 p r d=Ag.kF p.ag r.bX d:=by unfold g3;rw[if_neg h]
  rw[e];exact⟨_,Ag.ake p.ag r.bX d,false,rfl,_,rfl,rfl,by simp,.inl ⟨rfl,by simp⟩⟩
abbrev Mq:List (List AV):=[[.func 171 [],.func 174 []],[.func 176 [],.func 178 []],[.func 179 [],.func 181 []]]
theorem YG:Fn kg 112 [] (.aL 2 3 Mq):=aH Vq ⟨rfl,rfl,rfl⟩
def Cc(u:Int)(g:Gr):Gr:=⟨g.kind,g.src,u,g.Uc⟩
noncomputable def Zn(p:Po)(r:Rw)(d:Int):Nat->List Gr
 |0=>g1 p r d
 |1=>g2 p r d
 |_=>g3 p r d
noncomputable def Nw(p:Po)(r:Rw)(d:Int):Nat->List Gr
 |0=>[]
 |i+1=>Nw p r d i++(Zn p r d i).map (Cc r.unit)
noncomputable def gs(p:Po)(r:Rw)(d:Int):List Gr:=Nw p r d 3
noncomputable def DC(p:Po)(d:Int)(l:List Rw)(u:Int):Nat->List Gr
 |0=>[]
 |k+1=>DC p d l u k++match H6 l u k with|some r=>gs p r d|none=>[]
theorem Zo(p:Po)(r:Rw)(d:Int):(g1 p r d).length<=1:=by
 unfold g1
 split
 .split<;>simp
 .simp
theorem Qk(l:List Pe.fT)(made:l5)(k aR:Int):∀(ids:List Int)(bX g:List Gr),Pe.gl l made k aR bX ids=some g->g.length<=bX.length+ids.length
 |[],bX,g,h=>by simp[Pe.gl]at h;subst h;simp
 |id::ids,bX,g,h=>by
  rw[Pe.gl]at h
  split at h
  .cases h
  .have:=Qk l made k aR ids _ g h
   split at this
   .simp only[be,bB,List.length_nil]at this⊢;omega
   .simp only[bB];omega
theorem Zp{p:Po}(hz:p.sz)(r:Rw)(d:Int):(g2 p r d).length<=1000:=by
 have h:=Qj hz r.unit;unfold g2 Pe.jx
 split
 .simp
 .split
  .simp
  .split
   .simp
   .split
    .simp
    .rename_i g hg
     have:=Qk _ _ _ _ _ _ _ hg;simp at this⊢;omega
theorem Zq(p:Po)(r:Rw)(d:Int):(g3 p r d).length<=64:=by
 unfold g3 Ag.kF
 split
 .simp
 .split
  .simp
  .rename_i h
   have h1:=Ag.ik (by simpa using h);rw[gB];exact du (zx _ _) h1
theorem am2{p:Po}(hz:p.sz)(r:Rw)(d:Int)(i:Nat):(Zn p r d i).length<=1000:=by
 match i with
 |0=>have:=Zo p r d;show(g1 p r d).length<=1000;omega
 |1=>exact Zp hz r d
 |i+2=>have:=Zq p r d;show(g3 p r d).length<=1000;omega
theorem E5{p:Po}(hz:p.sz)(r:Rw)(d:Int):∀i,(Nw p r d i).length<=1000*i
 |0=>by simp[Nw]
 |i+1=>by
  have h1:=E5 hz r d i;have h2:=am2 hz r d i;simp only[Nw,be,gB];omega
theorem E6{p:Po}(hz:p.sz)(d:Int)(l:List Rw)(u:Int):∀k,(DC p d l u k).length<=3000*k
 |0=>by simp[DC]
 |k+1=>by
  have h1:=E6 hz d l u k;simp only[DC,be]
  split
  .have:=E5 hz (by assumption) d 3
   unfold gs;omega
  .simp;omega
def OG(p:Po)(d:Int)(bX:List Gr):List (Nat×ak):=match bX with
 |[]=>[(80,⟨40,6,.any,[dV p],[]⟩),(112,⟨3,1,.any,[[I d]],[]⟩),(144,⟨184,1,.any,[[.ai]],[]⟩)]
 |bX=>[(80,⟨40,6,.any,[dV p],[]⟩),(112,⟨3,1,.any,[[I d]],[]⟩),(144,⟨184,1,.any,[[.bn 672 4 bX.length]],[]⟩),(672,⟨187,4,.pure,bX.map nl,[]⟩)]
def Zr(p:Po)(d:Int)(r:Rw)(bX:List Gr):List (Nat×ak):=match bX with
 |[]=>[(80,⟨40,6,.any,[dV p],[]⟩),(112,⟨3,1,.any,[[I d]],[]⟩),(144,⟨184,1,.any,[[.ai]],[]⟩),(160,⟨58,3,.any,[gL r],[]⟩)]
 |bX=>[(80,⟨40,6,.any,[dV p],[]⟩),(112,⟨3,1,.any,[[I d]],[]⟩),(144,⟨184,1,.any,[[.bn 672 4 bX.length]],[]⟩),(160,⟨58,3,.any,[gL r],[]⟩),(672,⟨187,4,.pure,bX.map nl,[]⟩)]
abbrev FG(l:List Rw)(u:Int)(i:Int):List (Nat×AV):=[(2,I u),(5,.af 80 0),(7,.af 112 0),(9,.af 144 0),(10,.af 160 0),(17,.func 54 [.aw [WS l] 0,.aw [I u] 0]),(0,WS l),(8,.ai),(19,.aL 2 3 Mq),(20,I 3),(21,I i)]
abbrev FG2(l:List Rw)(u:Int)(i:Int)(X:List Gr)(j:Int):List (Nat×AV):=[(2,I u),(5,.af 80 0),(7,.af 112 0),(9,.af 144 0),(10,.af 160 0),(17,.func 54 [.aw [WS l] 0,.aw [I u] 0]),(0,WS l),(8,.ai),(19,.aL 2 3 Mq),(20,I 3),(21,I i),(30,GS X),(31,I X.length),(32,I j)]
theorem Ql(p:Po)(d:Int)(r:Rw)(b x:Gr)(bs:List Gr):Zr p d r (b::bs++[x])=[(80,⟨40,6,.any,[dV p],[]⟩),(112,⟨3,1,.any,[[I d]],[]⟩),(144,⟨184,1,.any,[[.bn 672 4 ((b::bs).length+1)]],[]⟩),(160,⟨58,3,.any,[gL r],[]⟩),(672,⟨187,4,.pure,((b::bs).map nl).take (b::bs).length++[nl x],[]⟩)]:=by
 have h1:(b::bs++[x]).length=(b::bs).length+1:=by simp
 have h2:(b::bs++[x]).map nl=((b::bs).map nl).take (b::bs).length++[nl x]:=by rw[ph (by simp)];simp
 rw[<-h1,<-h2];rfl
set_option maxHeartbeats 4000000 in
theorem c79(p:Po)(hz:p.sz)(d:Int)(l:List Rw)(hl:l.length<=100000)(u:Int)(n:Nat)(hn:n<=100000)(ke:oy l u n=none)(dB:∀k,k<n->oy l u k≠none):
  Fn kg 79 [WS l,.agg (dV p),I u,I d] (fG (DC p d l u n)):=by
 refine V3 [] [] rfl ⟨rfl,rfl,rfl,_,c30 l u,rfl,oy l u,s98 l hl u,λi x h=>sC i x h,
  λk O=>k<=n/\O=OG p d (DC p d l u k),λe O=>False,n+1,⟨by omega,rfl⟩,λk O h=>by have:=h.1;omega,?_,?_,?_⟩
 .rintro k x O hx ⟨hk,rfl⟩
  obtain⟨r,hr,rfl⟩:=yW hx;have aC:k<n:=by
   rcases eJ k n with h|h
   .exact h
   .have:k=n:=by omega
    subst this;rw[hx]at ke;cases ke
  have hgl:=E6 hz d l u k;have hgn:DC p d l u (k+1)=DC p d l u k++gs p r d:=by simp only[DC,hr]
  generalize hA:DC p d l u k=A at*;have qw:=E5 hz r d;have Vm:=am2 hz r d;have c0:=akA p hz r d;have c1:=akC p hz r d;have c2:=akE p hz r d;obtain⟨A',hA'⟩:∃x,x=A:=⟨_,rfl⟩;have anb:A'.length<=3000*k:=by rw[hA'];exact hgl
  have akF:DC p d l u (k+1)=A'++gs p r d:=by rw[hA'];exact hgn
  clear hA hgl hgn
  cases A
  all_goals
   refine⟨rfl,_,YG,?_⟩;refine⟨λm c=>∃i:Nat,i<=3/\m=3-i/\c=⟨FG l u i,Zr p d r (A'++Nw p r d i)⟩,⟨_,_,aj.ad [2,5,7,9,10,17,0,8,19,20,21] [80,112,144,160,672],0,by omega,rfl,by rw[hA'];simp only[Nw,dN];rfl⟩,?_⟩;rintro m c ⟨i,hi,rfl,rfl⟩;refine⟨λaC=>?_,λaC=>?_⟩
   .have aC:i<3:=by simp at aC;omega
    obtain⟨X,hX⟩:∃X,X=Zn p r d i:=⟨_,rfl⟩;obtain⟨iv,hiv⟩:∃iv,iv=i:=⟨_,rfl⟩;obtain⟨bX,uo⟩:∃x,x=A'++Nw p r d i:=⟨_,rfl⟩;have hXl:=Vm i;rw[<-hX]at hXl;have xM:bX.length<=3000*k+3000:=by
     have:=qw i;rw[uo,be];omega
    have wW:A'++Nw p r d (iv+1)=bX++X.map (Cc r.unit):=by rw[uo,hX,hiv,cM];rfl
    rw[<-uo];obtain⟨ky,jt⟩:∃x,x=bX:=⟨_,rfl⟩;rw[<-jt]at xM wW;have anc:iv<3:=by omega
    have e0:Zr p d r (ky++(X.take 0).map (Cc r.unit))=Zr p d r ky:=by rw[List.take_zero,dO,dN]
    obtain rfl|rfl|rfl:i=0∨i=1∨i=2:=by omega
    all_goals cases bX
    all_goals first
     |refine⟨⟨by decide,by decide⟩,[.func 171 [],.func 174 []],rfl,_,(show Fn kg 171 [.agg (dV p),.agg (gL r),I d] (fG X)by rw[hX];exact c0),true,?_⟩
     |refine⟨⟨by decide,by decide⟩,[.func 176 [],.func 178 []],rfl,_,(show Fn kg 176 [.agg (dV p),.agg (gL r),I d] (fG X)by rw[hX];exact c1),true,?_⟩
     |refine⟨⟨by decide,by decide⟩,[.func 179 [],.func 181 []],rfl,_,(show Fn kg 179 [.agg (dV p),.agg (gL r),I d] (fG X)by rw[hX];exact c2),true,?_⟩
    all_goals
     refine⟨λm c=>∃j:Nat,j<=X.length/\m=X.length-j/\c=⟨FG2 l u iv X j,Zr p d r (ky++(X.take j).map (Cc r.unit))⟩,⟨_,_,aj.ad [2,5,7,9,10,17,0,8,19,20,21,30,31,32] [80,112,144,160,672],0,by omega,rfl,by rw[e0,hiv,jt];rfl⟩,?_⟩;rintro m c ⟨j,hj,rfl,rfl⟩;refine⟨λl9=>?_,λl9=>?_⟩
     .simp at l9
      obtain⟨g,hg,hgd,tp⟩:=aq l9;obtain⟨a2,Nx⟩:∃x,x=ky++(X.take j).map (Cc r.unit):=⟨_,rfl⟩;have Zt:a2.length<=3000*k+4000:=by
       rw[Nx,be,gB,aO];omega
      have XE:ky++(X.take (j+1)).map (Cc r.unit)=a2++[Cc r.unit g]:=by rw[tp,qB,<-cM,<-Nx];rfl
      rw[<-Nx];obtain⟨a2',Ht⟩:∃x,x=a2:=⟨_,rfl⟩;rw[<-Ht]at XE Zt
      cases a2
      case' nil=>refine⟨by omega,nl g,by simp[hg],⟨by decide,by decide⟩,true,_,ah,?_⟩
      case' cons b bs=>refine⟨by omega,nl g,by simp[hg],⟨by rw[Ht]at Zt;show((b::bs).length+1)*32<=140737488355328;omega,by rw[Ht]at Zt;show(b::bs).length+1<=_;omega⟩,_,ah,?_⟩
      case nil=>exact⟨_,_,aj.ad [2,5,7,9,10,17,0,8,19,20,21,30,31,32] [80,112,144,160,672],by omega,j+1,by omega,rfl,by rw[XE,Ht];rfl⟩
      case cons b bs=>exact⟨_,_,aj.ad [2,5,7,9,10,17,0,8,19,20,21,30,31,32] [80,112,144,160,672],by omega,j+1,by omega,rfl,by rw[XE,Ht,Ql];rfl⟩
     .simp at l9
      have hj:j=X.length:=by omega
      subst hj;rw[oB];rw[<-wW];obtain⟨a2,Nx⟩:∃x,x=A'++Nw p r d (iv+1):=⟨_,rfl⟩;have ha3:Zr p d r (A'++Nw p r d (iv+1))=Zr p d r a2:=by rw[Nx]
      rw[ha3];obtain⟨a2',Ht⟩:∃x,x=a2:=⟨_,rfl⟩;rw[<-Ht]at ha3
      cases a2
      all_goals
       refine⟨_,ah,?_⟩;exact⟨_,_,aj.ad [2,5,7,9,10,17,0,8,19,20,21] [80,112,144,160,672],by omega,iv+1,by omega,rfl,by rw[ha3,Ht];rfl⟩
   .have hi:i=3:=by simp at aC;omega
    subst hi;have hf:A'++Nw p r d 3=DC p d l u (k+1):=akF.symm;rw[hf];obtain⟨a2,Nx⟩:∃x,x=DC p d l u (k+1):=⟨_,rfl⟩;rw[<-Nx]
    cases a2
    all_goals exact⟨_,aj.ad [0,2,5,7,8,9,17] [80,112,144,672],by omega,by rw[<-Nx];rfl⟩
 .rintro k O hx ⟨hk,rfl⟩
  have:k=n:=by
   rcases eJ k n with h|h
   .exact absurd hx (dB k h)
   .omega
  subst this
  cases hp:DC p d l u k with
  |nil=>exact⟨rfl,_,aj.refl _ _,rfl,.inr ⟨_,_,_,rfl⟩⟩
  |cons y ys=>exact⟨rfl,_,aj.refl _ _,rfl,⟨_,rfl,rfl,by simp,.inl ⟨rfl,rfl⟩⟩⟩
 .rintro e O dW h
  exact h.elim
def KW(p:Po)(rd:Int)(gZ:List Int)(d:Int)(g:Gr):Int:=
 if(ot p.pm rd gZ g.kind d).2=false∨(g.kind=3/\Ag.sK p.ag g.src=true)then 0 else(ot p.pm rd gZ g.kind d).1
def yg(x:Gr×Int):List AV:=[I x.1.kind,I x.1.src,I x.1.vG,I x.1.Uc,I x.2]
def Zu(p:Po)(rd:Int)(gZ:List Int)(d:Int)(g:Gr):Gr×Int:=(g,KW p rd gZ d g)
def RL(p:Po)(rd:Int)(gZ:List Int)(d:Int)(G:List Gr):Bool:=G.all λg=>KW p rd gZ d g !=0
def OA(p:Po)(rd u d:Int)(b:Bool)(bX:List (Gr×Int)):List (Nat×ak):=match bX with
 |[]=>[(96,⟨40,6,.any,[dV p],[]⟩),(160,⟨74,5,.any,[[I 0,I 0,I 0,B false,.ai]],[]⟩),(176,⟨74,5,.any,[[I rd,I u,I d,B b,.ai]],[]⟩)]
 |bX=>[(96,⟨40,6,.any,[dV p],[]⟩),(160,⟨74,5,.any,[[I 0,I 0,I 0,B false,.ai]],[]⟩),(176,⟨74,5,.any,[[I rd,I u,I d,B b,.bn 1040 5 bX.length]],[]⟩),(1040,⟨191,5,.pure,bX.map yg,[]⟩)]
theorem zf(p:Po)(rd u d:Int)(c:Bool)(b x:Gr×Int)(bs:List (Gr×Int)):OA p rd u d c (b::bs++[x])=[(96,⟨40,6,.any,[dV p],[]⟩),(160,⟨74,5,.any,[[I 0,I 0,I 0,B false,.ai]],[]⟩),(176,⟨74,5,.any,[[I rd,I u,I d,B c,.bn 1040 5 ((b::bs).length+1)]],[]⟩),(1040,⟨191,5,.pure,((b::bs).map yg).take (b::bs).length++[yg x],[]⟩)]:=by
 have h1:(b::bs++[x]).length=(b::bs).length+1:=by simp
 have h2:(b::bs++[x]).map yg=((b::bs).map yg).take (b::bs).length++[yg x]:=by rw[ph (by simp)];simp
 rw[<-h1,<-h2];rfl
abbrev FA(rd d:Int)(gZ:List Int)(G:List Gr)(j:Int):List (Nat×AV):=[(2,I rd),(4,I d),(6,.af 96 0),(10,.af 160 0),(11,.af 176 0),(12,NS gZ),(28,GS G),(29,I G.length),(30,I j)]
set_option maxHeartbeats 4000000 in
theorem c42(p:Po)(hz:p.sz)(rd d:Int)(l:List Rw)(hl:l.length<=100000)(u:Int)(n:Nat)(hn:n<=100000)(ke:oy l u n=none)(dB:∀k,k<n->oy l u k≠none):
  ∃rs,(rs=.ai∨∃n aa,rs=.aL 5 n aa)/\Fn kg 42 [WS l,.agg (dV p),I rd,I u,I d] (.agg [I rd,I u,I d,B (RL p rd (oZ l u n) d (DC p d l u n)),rs]):=by
 have h79:=c79 p hz d l hl u n hn ke dB;have h78:=c78 l hl u n hn ke dB;have hwl:=xa l u n;have hgl:=E6 hz d l u n;have hpm:=hz.pm;have Nl:=hz.ag;generalize oZ l u n=gZ at*;generalize DC p d l u n=G at*;have main:∀R,(∀x,x=G.map (Zu p rd gZ d)->R=match x with|[]=>AV.ai|x=>AV.aL 5 x.length ((x.map yg).take x.length))->Fn kg 42 [WS l,.agg (dV p),I rd,I u,I d] (.agg [I rd,I u,I d,B (RL p rd gZ d G),R]):=by
  intro R hR;refine lX abq [] [] ⟨_,h78,true,_,h79,true,?_⟩;refine⟨λm c=>∃j:Nat,j<=G.length/\m=G.length-j/\c=⟨FA rd d gZ G j,OA p rd u d (RL p rd gZ d (G.take j)) ((G.take j).map (Zu p rd gZ d))⟩,⟨_,_,aj.ad [2,4,6,10,11,12,28,29,30] [96,160,176],0,by omega,rfl,rfl⟩,?_⟩;rintro m c ⟨j,hj,rfl,rfl⟩;refine⟨λaC=>?_,λaC=>?_⟩
  .simp at aC
   obtain⟨g,hg,hgd,tp⟩:=aq aC;have h80:=c80 p.pm (by omega) rd gZ (by omega) g.kind d;have h81:=Ag.c81 p.ag (by omega) g.src;obtain⟨bX,uo⟩:∃x,x=(G.take j).map (Zu p rd gZ d):=⟨_,rfl⟩;obtain⟨b,hb⟩:∃x,x=RL p rd gZ d (G.take j):=⟨_,rfl⟩;have vW:∀n',KW p rd gZ d g=n'->OA p rd u d (RL p rd gZ d (G.take (j+1))) ((G.take (j+1)).map (Zu p rd gZ d))=OA p rd u d (b&&(n' !=0)) (bX++[(g,n')]):=by
    intro n' RC;rw[tp,hb,uo]
    congr 1
    .simp only[RL,List.all_append,rX,List.all_nil,Bool.and_true,RC]
    .simp only[qB,cU,dO,Zu,RC]
   have xM:bX.length<=3000*n:=by
    rw[uo,gB,aO];omega
   rw[<-uo,<-hb];obtain⟨ky,jt⟩:∃x,x=bX:=⟨_,rfl⟩;rw[<-jt]at vW xM;clear uo
   cases bX
   all_goals
    by_cases kM:(ot p.pm rd gZ g.kind d).2=true
    .by_cases hk:g.kind=3
     .refine⟨by omega,nl g,by simp[hg],_,h80,[(2,false),(6,true)],by simp[kM],by simp[hk],_,h81,λhs=>?_,λhs=>?_⟩
      .have hs:Ag.sK p.ag g.src=true:=hs
       have cY:=vW (0) (by unfold KW;rw[if_pos (.inr ⟨hk,hs⟩)])
       first
        |refine⟨⟨by decide,by decide⟩,true,[],_,ah,?_⟩
         exact⟨_,_,aj.ad [2,4,6,10,11,12,28,29,30] [96,160,176,1040],by omega,j+1,by omega,rfl,by rw[cY,jt];rfl⟩
        |refine⟨⟨by rw[jt]at xM;simp only[bB]at xM⊢;show(_+1+1)*40<=140737488355328;omega,by rw[jt]at xM;simp only[bB]at xM⊢;omega⟩,[],_,ah,?_⟩
         exact⟨_,_,aj.ad [2,4,6,10,11,12,28,29,30] [96,160,176,1040],by omega,j+1,by omega,rfl,by rw[cY,jt,zf];rfl⟩
      .have hs:Ag.sK p.ag g.src=false:=hs
       have cY:=vW ((ot p.pm rd gZ g.kind d).1) (by unfold KW;rw[if_neg (by simp[kM,hs])])
       first
        |refine⟨⟨by decide,by decide⟩,true,[],_,ah,?_⟩
         exact⟨_,_,aj.ad [2,4,6,10,11,12,28,29,30] [96,160,176,1040],by omega,j+1,by omega,rfl,by rw[cY,jt];rfl⟩
        |refine⟨⟨by rw[jt]at xM;simp only[bB]at xM⊢;show(_+1+1)*40<=140737488355328;omega,by rw[jt]at xM;simp only[bB]at xM⊢;omega⟩,[],_,ah,?_⟩
         exact⟨_,_,aj.ad [2,4,6,10,11,12,28,29,30] [96,160,176,1040],by omega,j+1,by omega,rfl,by rw[cY,jt,zf];rfl⟩
     .refine⟨by omega,nl g,by simp[hg],_,h80,[(2,false),(6,false)],by simp[kM],by simp[hk],λhs=>(by cases hs),λhs=>?_⟩
      have cY:=vW ((ot p.pm rd gZ g.kind d).1) (by unfold KW;rw[if_neg (by simp[kM,hk])])
      first
       |refine⟨⟨by decide,by decide⟩,true,[],_,ah,?_⟩
        exact⟨_,_,aj.ad [2,4,6,10,11,12,28,29,30] [96,160,176,1040],by omega,j+1,by omega,rfl,by rw[cY,jt];rfl⟩
       |refine⟨⟨by rw[jt]at xM;simp only[bB]at xM⊢;show(_+1+1)*40<=140737488355328;omega,by rw[jt]at xM;simp only[bB]at xM⊢;omega⟩,[],_,ah,?_⟩
        exact⟨_,_,aj.ad [2,4,6,10,11,12,28,29,30] [96,160,176,1040],by omega,j+1,by omega,rfl,by rw[cY,jt,zf];rfl⟩
    .have kM:(ot p.pm rd gZ g.kind d).2=false:=by simpa using kM
     refine⟨by omega,nl g,by simp[hg],_,h80,[(2,true)],by simp[kM],λhs=>?_,λhs=>(by cases hs)⟩;have cY:=vW (0) (by unfold KW;rw[if_pos (.inl kM)])
     first
      |refine⟨⟨by decide,by decide⟩,true,[],_,ah,?_⟩
       exact⟨_,_,aj.ad [2,4,6,10,11,12,28,29,30] [96,160,176,1040],by omega,j+1,by omega,rfl,by rw[cY,jt];rfl⟩
      |refine⟨⟨by rw[jt]at xM;simp only[bB]at xM⊢;show(_+1+1)*40<=140737488355328;omega,by rw[jt]at xM;simp only[bB]at xM⊢;omega⟩,[],_,ah,?_⟩
       exact⟨_,_,aj.ad [2,4,6,10,11,12,28,29,30] [96,160,176,1040],by omega,j+1,by omega,rfl,by rw[cY,jt,zf];rfl⟩
  .simp at aC
   have:j=G.length:=by omega
   subst this;rw[oB];have hR:=hR _ rfl;generalize G.map (Zu p rd gZ d)=bX at hR
   cases bX with
   |nil=>rw[hR];exact⟨_,aj.refl _ _,rfl,rfl,rfl⟩
   |cons b bs=>
    rw[hR];refine⟨_,aj.OV 1040 ⟨191,5,.pure,(b::bs).map yg,[]⟩ rfl rfl,rfl,rfl,rfl⟩
 refine⟨_,?_,main _ (λx hx=>by subst hx;rfl)⟩
 cases G.map (Zu p rd gZ d)with
 |nil=>exact .inl rfl
 |cons a r=>exact .inr ⟨_,_,rfl⟩
end Go.an.ax.G
