import Derived.Test.YtpfmbblnhjpclaaGreatDoorJ39
import Derived.Test.YtpfmbblnhjpclaaGreatDoorJ40
import Derived.Test.YtpfmbblnhjpclaaGreatDoorJ34
import Derived.Test.YtpfmbblnhjpclaaGreatDoorJ30
set_option linter.unusedVariables false
set_option linter.unusedSimpArgs false
set_option maxRecDepth 20000
namespace Go.an.ax.G
open Go Go.an Go.an.Day Go.Proofs Go.RowKit Go.Shelf
def agT:Ren:=⟨λn=>match n with|22=>352|29=>389|30=>390|n=>n,λn=>match n with|9=>152|24=>82|n=>n,λn=>n⟩
def agU:Ren:=⟨λn=>match n with|22=>228|29=>293|30=>294|n=>n,λn=>match n with|9=>94|24=>34|n=>n,λn=>n⟩
theorem aaa:Tryz.f352={(Body2.n22 agT)with name:=Tryz.f352.name,targs:=Tryz.f352.targs}:=by kernel_rfl
theorem aab:Tryz.f228={(Body2.n22 agU)with name:=Tryz.f228.name,targs:=Tryz.f228.targs}:=by kernel_rfl
theorem agV:HO kg agT 2 16 (.agg #[.int .i64 0,.int .i64 0]):={
 mixed:=mixed
 f22:=⟨Tryz.f352.name,Tryz.f352.targs,by kernel_rfl,Tryz.func352.trans (gQ some aaa)⟩
 t3:=Tryz.underlying3,a3:=Tryz.isAgg3,z3:=Tryz.sizeOf3,v3:=Tryz.zeroValue3
 t4:=Tryz.underlying4,a4:=Tryz.isAgg4,z4:=Tryz.sizeOf4,v4:=Tryz.zeroValue4
 z9:=Tryz.sizeOf152
 t24:=Tryz.underlying82,a24:=Tryz.isAgg82,z24:=Tryz.sizeOf82,v24:=Tryz.zeroValue82
 i9:=⟨_,rfl,rfl,rfl,rfl⟩
 hz:=rfl
 sz1:=by decide
 ov:=λw a b la ca lb cb tA tB kA kB h1 h2 h3 h4 h5 h6=>by
  show Sem.run Tryz.prog (callFunc 389 _) w=_
  rw[run_callFunc_extern Tryz.func389 (by kernel_rfl) (by kernel_rfl) (by kernel_rfl) (e:=Extern.SlicesOverlaps.overlaps #[82,82] #[4]) (by kernel_rfl),Lib.run_overlaps_apart w 82 4 152 Tryz.underlying82 2 Tryz.sizeOf152 a b la ca lb cb h1 tA tB kA kB h2 h3 h4 h5 h6]
  rfl}
theorem agW:HO kg agU 5 56 (.agg #[.int .i64 0,.int .i64 0,.int .i64 0,.int .i64 0,.slice none 0 0]):={
 mixed:=mixed
 f22:=⟨Tryz.f228.name,Tryz.f228.targs,by kernel_rfl,Tryz.func228.trans (gQ some aab)⟩
 t3:=Tryz.underlying3,a3:=Tryz.isAgg3,z3:=Tryz.sizeOf3,v3:=Tryz.zeroValue3
 t4:=Tryz.underlying4,a4:=Tryz.isAgg4,z4:=Tryz.sizeOf4,v4:=Tryz.zeroValue4
 z9:=Tryz.sizeOf94
 t24:=Tryz.underlying34,a24:=Tryz.isAgg34,z24:=Tryz.sizeOf34,v24:=Tryz.zeroValue34
 i9:=⟨_,rfl,rfl,rfl,rfl⟩
 hz:=rfl
 sz1:=by decide
 ov:=λw a b la ca lb cb tA tB kA kB h1 h2 h3 h4 h5 h6=>by
  show Sem.run Tryz.prog (callFunc 293 _) w=_
  rw[run_callFunc_extern Tryz.func293 (by kernel_rfl) (by kernel_rfl) (by kernel_rfl) (e:=Extern.SlicesOverlaps.overlaps #[34,34] #[4]) (by kernel_rfl),Lib.run_overlaps_apart w 34 4 94 Tryz.underlying34 5 Tryz.sizeOf94 a b la ca lb cb h1 tA tB kA kB h2 h3 h4 h5 h6]
  rfl}
theorem Q6{l:List Bx}(h:jk l=0):∀b∈l,(∀c∈b.ma,qp c=true)/\b.ma.length<=32:=by
 unfold jk at h
 split at h
 .cases h
 .intro b hb
  have hf:=xr l _ _ h b hb;unfold cx at hf
  split at hf
  .cases hf
  .rename_i hn
   simp only[not_or,zw]at hn
   split at hf
   .cases hf
   .refine⟨λc hc=>?_,by omega⟩
    have:=hn.2.2.2.2;rw[Xy]at this;simpa using this c hc
theorem alZ(l:List Ct)(hl:l.length<=100000)(i:Nat)(hi:i<=l.length)(c:Ct):Fn kg 298 [CS l,I i,.agg (eT c)] (.dh true 152 2 (l.length+1) ((l.take i++[c]++l.drop i).map eT)):=by
 refine lX VK [(1,[5,5,5,5])] [] ⟨rfl,_,Z4 l hl,false,?_⟩;refine⟨⟨[(8,.bn 128 2 l.length),(9,I i),(11,.bn 176 2 1)],[(128,⟨152,2,.pure,l.map eT,[]⟩),(176,⟨152,2,.pure,[eT c],[]⟩)]⟩,aj.ad [8,9,11] [128,176],_,Lk agV rfl rfl rfl rfl rfl rfl rfl rfl rfl rfl rfl (by simp) rfl rfl rfl rfl rfl rfl (.inl rfl) hi (by omega) (by unfold maxLen;omega) rfl rfl,?_⟩;rintro c3 rfl;exact⟨_,aj.refl _ _,rfl,_,rfl,rfl,by simp;omega,.inl ⟨rfl,by simp;rfl⟩⟩
theorem al0(l:List Bx)(hl:l.length<=100000)(hc:∀b∈l,b.ma.length<=100000)(n k:Int)(c:Ct):∃(bs:List Bx)(er:Int),Fn kg 232 [BS l,I n,I k,.agg (eT c)] (.bY [if er=0 then .dh false 84 5 bs.length (bs.map bj)else .ai,I er])/\(er=0->bs.length=l.length/\∀b∈bs,b.ma.length<=100000):=by
 have FC:=RG l (by omega) hc;have Fm:=Aw.ae7 l hl n;have BD:=Aw.Qx l hl hc c.unit
 by_cases h0:jk l=0
 case neg=>
  refine⟨[],1,?_,λh=>by cases h⟩;rw[if_neg (by decide)];exact aH vK ⟨_,FC,λ_=>⟨_,_,rfl,.inl rfl,rfl,rfl,trivial⟩,λh=>absurd h (by simp[h0])⟩
 rw[h0]at FC
 rcases dH (λb:Bx=>b.id==n) l 0 with⟨h1,_⟩|⟨i,b,hi,_,h3,_⟩
 .have hb:BQ l n= -1:=h1
  rw[hb]at Fm;refine⟨[],7,?_,λh=>by cases h⟩;rw[if_neg (by decide)];exact aH vK ⟨_,FC,λh=>(by cases h),λ_=>⟨_,Fm,λ_=>⟨_,_,rfl,.inl rfl,rfl,rfl,trivial⟩,λh=>(by cases h)⟩⟩
 .have hb:BQ l n=i:=by simpa[BQ]using h3
  rw[hb]at Fm;have og:=(aE.1 hi).1;have RH:=ay hi;have hbc:=hc b RH;have aD:(l.map bj)[((i:Int)).toNat]?=some (bj b):=by rw[aY,aS,hi];rfl
  have HQ:=GZ k 0 b.ma.length;have JD:=Yt c;have aC:¬((i:Int)<0):=by omega
  have NR:=Q6 h0 b RH;have sv:∀er:Int,er≠0->(if er=0 then AV.dh false 84 5 ([]:List Bx).length (([]:List Bx).map bj)else .ai)=.ai:=λer h=>if_neg h
  cases h1:eC k 0 b.ma.length with
  |false=>
   rw[h1]at HQ;refine⟨[],2,?_,λh=>by cases h⟩;rw[sv 2 (by decide)];exact aH vK ⟨_,FC,λh=>(by cases h),λ_=>⟨_,Fm,λh=>absurd (aP h) aC,λ_=>⟨_,BD,⟨by omega,bj b,aD,[(6,true)],_,HQ,rfl,λ_=>⟨_,_,rfl,.inl rfl,rfl,rfl,trivial⟩,λh=>(by cases h)⟩⟩⟩⟩
  |true=>
   rw[h1]at HQ
   cases h2:qp c with
   |false=>
    rw[h2]at JD;refine⟨[],2,?_,λh=>by cases h⟩;rw[sv 2 (by decide)];exact aH vK ⟨_,FC,λh=>(by cases h),λ_=>⟨_,Fm,λh=>absurd (aP h) aC,λ_=>⟨_,BD,⟨by omega,bj b,aD,[(6,false)],_,HQ,rfl,_,JD,λ_=>⟨_,_,rfl,.inl rfl,rfl,rfl,trivial⟩,λh=>(by cases h)⟩⟩⟩⟩
   |true=>
    rw[h2]at JD
    by_cases h4:(Aw.v7 c.unit 0 l).1>=0
    .refine⟨[],6,?_,λh=>by cases h⟩
     rw[sv 6 (by decide)];exact aH vK ⟨_,FC,λh=>(by cases h),λ_=>⟨_,Fm,λh=>absurd (aP h) aC,λ_=>⟨_,BD,⟨by omega,bj b,aD,[(6,false)],_,HQ,rfl,_,JD,λh=>(by cases h),λ_=>⟨λ_=>⟨_,_,rfl,.inl rfl,rfl,rfl,trivial⟩,λh=>absurd h4 (j0 h)⟩⟩⟩⟩⟩
    .by_cases h5:32<=b.ma.length
     .refine⟨[],8,?_,λh=>by cases h⟩
      rw[sv 8 (by decide)];exact aH vK ⟨_,FC,λh=>(by cases h),λ_=>⟨_,Fm,λh=>absurd (aP h) aC,λ_=>⟨_,BD,⟨by omega,bj b,aD,[(6,false)],_,HQ,rfl,_,JD,λh=>(by cases h),λ_=>⟨λh=>absurd (aP h) h4,λ_=>⟨λ_=>⟨_,_,rfl,.inl rfl,rfl,rfl,trivial⟩,λh=>absurd (j0 h) (by omega)⟩⟩⟩⟩⟩⟩
     .have Ww:∀c∈b.ma,qp c=true:=NR.1
      have htb:=A1 Ww;have a196:=Yu b.ma hbc Ww;have hcb:1<=c.jN/\c.jN<=10000:=by unfold qp eC at h2;simp at h2;omega
      by_cases h6:eU b.ma+c.jN>b.room
      .refine⟨[],12,?_,λh=>by cases h⟩
       rw[sv 12 (by decide)];exact aH vK ⟨_,FC,λh=>(by cases h),λ_=>⟨_,Fm,λh=>absurd (aP h) aC,λ_=>⟨_,BD,⟨by omega,bj b,aD,[(6,false)],_,HQ,rfl,_,JD,λh=>(by cases h),λ_=>⟨λh=>absurd (aP h) h4,λ_=>⟨λh=>absurd (aP h) (by omega),λ_=>⟨_,a196,_,au (y:=eU b.ma+c.jN) (by omega),λ_=>⟨_,_,rfl,.inl rfl,rfl,rfl,trivial⟩,λh=>absurd h6 (j0 h)⟩⟩⟩⟩⟩⟩⟩
      .obtain⟨j,rfl⟩:∃j:Nat,k=j:=⟨k.toNat,by simp[eC]at h1;omega⟩
       have hj:j<=b.ma.length:=by simp[eC]at h1;omega
       refine⟨l.set i {b with ma:=b.ma.take j++[c]++b.ma.drop j},0,?_,λ_=>⟨by simp,λx hx=>?_⟩⟩
       .rw[if_pos rfl]
        refine aH vK ⟨_,FC,λh=>(by cases h),λ_=>⟨_,Fm,λh=>absurd (aP h) aC,λ_=>⟨_,BD,⟨by omega,bj b,aD,[(6,false)],_,HQ,rfl,_,JD,λh=>(by cases h),λ_=>⟨λh=>absurd (aP h) h4,λ_=>⟨λh=>absurd (aP h) (by omega),λ_=>⟨_,a196,_,au (y:=eU b.ma+c.jN) (by omega),λh=>absurd (aP h) h6,λ_=>?_⟩⟩⟩⟩⟩⟩⟩;refine⟨_,agP l hl hc,false,by omega,bj b,aD,_,alZ b.ma hbc j hj c,true,by omega,bj b,aD,?_⟩;have e0:(b.ma.take j++[c]++b.ma.drop j).length=b.ma.length+1:=by simp;omega
        have e1:bj {b with ma:=b.ma.take j++[c]++b.ma.drop j}=[I b.id,I b.bc,I b.room,I b.dZ,.aL 2 (b.ma.length+1) ((b.ma.take j++[c]++b.ma.drop j).map eT)]:=by
         show[I b.id,I b.bc,I b.room,I b.dZ,.aL 2 (b.ma.take j++[c]++b.ma.drop j).length _]=_
         rw[e0]
        exact⟨_,_,rfl,⟨_,rfl,rfl,(by simp),.inr ⟨rfl,(by rw[oC,e1,zt];rfl)⟩⟩,rfl,rfl,trivial⟩
       .rcases mw hx with hx|rfl
        .exact hc x hx
        .show(b.ma.take j++[c]++b.ma.drop j).length<=_
         simp;omega
theorem ZF(u:St)(l:List Rw)(e:Vt)(hz:u.sz)(hm:jl u.ms)(hF:zi e 4 0 false (-1)):yj 159 u l e λu'=>∃bs,u'={u with bs:=bs}/\bs.length=u.bs.length/\∀b∈bs,b.ma.length<=100000:=by
 obtain⟨id,aR,kind,eH,cG⟩:=e;obtain⟨n0,n1,n2,n3,jw⟩:=UD (hF.more rfl);simp only at jw;subst jw;have mE:=Qq u hm l ⟨id,aR,kind,[n0,n1,n2,n3],cG⟩ n0
 cases h1:((qg u.ms n0).1==3)with
 |true=>
  rw[h1]at mE;refine⟨.no,11,.inl ⟨u,dK Kt [] [] (eI _ _ _ _) ⟨⟨by decide,by simp⟩,[I n0],rfl,_,mE,λ_=>?_,λh=>(by cases h)⟩,λh=>by cases h⟩⟩;exact⟨_,aj.ad [2] [18],rfl,rfl,rfl⟩
 |false=>
  rw[h1]at mE;obtain⟨bs,er,a232,hR⟩:=al0 u.bs hz.bs hz.cs n0 n1 ⟨n2,n3⟩
  by_cases h2:er=0
  .subst h2
   rw[if_pos rfl]at a232;refine⟨.no,0,.inl ⟨{u with bs:=bs},dK Kt [(5,[6])] [] (eI _ _ _ _) ⟨⟨by decide,by simp⟩,[I n0],rfl,_,mE,λh=>(by cases h),λ_=>?_⟩,λ_=>⟨bs,rfl,(hR rfl).1,(hR rfl).2⟩⟩⟩;refine⟨⟨by decide,by simp⟩,[I n0],rfl,⟨by decide,by simp⟩,[I n1],rfl,⟨by decide,by simp⟩,[I n2],rfl,⟨by decide,by simp⟩,[I n3],rfl,_,a232,true,?_⟩;refine⟨_,aj.ad [41,42,43] [18],_,I 0,[18],(K6 u l _ bs).as (by rfl) (by rfl) (by rfl),rfl,?_⟩;exact⟨_,aj.ad [2] [18],rfl,rfl,rfl⟩
  .rw[if_neg h2]at a232
   refine⟨.no,er,.inl ⟨u,dK Kt [(5,[6])] [] (eI _ _ _ _) ⟨⟨by decide,by simp⟩,[I n0],rfl,_,mE,λh=>(by cases h),λ_=>?_⟩,λh=>absurd h h2⟩⟩;refine⟨⟨by decide,by simp⟩,[I n0],rfl,⟨by decide,by simp⟩,[I n1],rfl,⟨by decide,by simp⟩,[I n2],rfl,⟨by decide,by simp⟩,[I n3],rfl,_,a232,?_⟩;refine⟨_,aj.ad [41,42,43] [18],_,I er,[18],(WQ u l _ _ h2).as (by rfl) (by rfl) (by rfl),rfl,?_⟩;exact⟨_,aj.ad [2] [18],rfl,rfl,rfl⟩
theorem agX(n:Int):Fn kg 287 [I n] (B false):=aH ac1 ⟨rfl,rfl,by simp;rfl⟩
def uy(a b:Int):Int:=if a<b then-1 else if b<a then 1 else 0
theorem agY(a b:Int):Fn kg 214 [I a,I b] (I (uy a b)):=by
 refine aH acC ⟨_,agX a,_,agX b,λh=>(by cases h),λ_=>⟨λh=>(by cases h),λ_=>⟨λh=>?_,λh=>⟨λh'=>?_,λh'=>?_⟩⟩⟩⟩
 .rw[uy,if_pos (aP h)];exact⟨rfl,rfl,rfl⟩
 .rw[uy,if_neg (j0 h),if_pos (aP h')];exact⟨rfl,rfl,rfl⟩
 .rw[uy,if_neg (j0 h),if_neg (j0 h')];exact⟨rfl,rfl,rfl⟩
theorem agZ(s:Sj)(x:Int):Fn kg 227 [.agg (db s),I x] (I (uy s.unit x)):=aH acH ⟨_,agY s.unit x,rfl,rfl,rfl⟩
def WZ(p:Nat->Bool):Nat->Nat->Nat->Nat
 |0,i,_=>i
 |m+1,i,j=>if i<j then(if p ((i+j)/2)=true then WZ p m ((i+j)/2+1) j else WZ p m i ((i+j)/2))else i
theorem JE(p:Nat->Bool):∀m i j,i<=j->WZ p m i j<=j
 |0,i,j,h=>h
 |m+1,i,j,h=>by
  unfold WZ
  split
  .split
   .exact JE p m _ _ (by omega)
   .exact du (JE p m _ _ (by omega)) (by omega)
  .exact h
theorem al1(l:List Sj)(hl:l.length<=100000)(x:Int):∃(i:Nat)(b:Bool),i<=l.length/\(b=true->i<l.length)/\Fn kg 226 [JS l,I x,.func 227 []] (.bY [I i,B b]):=by
 obtain⟨p,hp⟩:∃p:Nat->Bool,∀i s,l[i]?=some s->p i=decide (uy s.unit x<0):=⟨λi=>match l[i]? with|some s=>decide (uy s.unit x<0)|none=>false,λi s h=>by simp only[h]⟩;obtain⟨R,hR⟩:∃R,R=WZ p l.length 0 l.length:=⟨_,rfl⟩;have hRl:R<=l.length:=by rw[hR];exact JE p _ _ _ (by omega)
 obtain⟨b,yw,Fx⟩:∃b:Bool,(b=true->R<l.length)/\∀s,l[R]?=some s->b=(uy s.unit x==0):=by
  cases h:l[R]? with
  |none=>exact⟨false,λh=>(by cases h),λs h=>by cases h⟩
  |some s=>exact⟨uy s.unit x==0,λ_=>(aE.1 h).1,λs' h'=>by cases h';rfl⟩
 refine⟨R,b,hRl,yw,?_⟩;refine aH acG ?_;refine⟨λn c=>∃m i j:Nat,i<=j/\j<=l.length/\j-i<=m/\n=j-i/\WZ p m i j=R/\c=⟨[(0,JS l),(1,I x),(2,.func 227 []),(6,I 0),(7,B false),(8,I l.length),(9,I i),(10,I j)],[]⟩,
  ⟨_,_,Wk.ad [0,1,2,6,7,8,9,10] [],l.length,0,l.length,by omega,by omega,by omega,rfl,hR.symm,rfl⟩,?_⟩
 rintro n c ⟨m,i,j,hij,hj,hm,rfl,hB,rfl⟩;refine⟨λaC=>?_,λaC=>?_⟩
 .have aC:i<j:=by have:=aP aC;omega
  obtain⟨m,rfl⟩:∃m',m=m'+1:=⟨m-1,by omega⟩;have hh:(i+j)/2<l.length:=by omega
  obtain⟨s,hs⟩:∃s,l[(i+j)/2]?=some s:=⟨_,aW hh⟩;have aD:(l.map db)[((((i+j)/2:Nat):Int)).toNat]?=some (db s):=by rw[aY,aS,hs];rfl
  have Il:=hp _ s hs;rw[WZ,if_pos aC,Il]at hB;refine⟨_,au (y:=((i+j:Nat):Int)) (by omega),((i+j:Nat):Int),by rw[IntKind.wrap_u64];omega,⟨by omega,by decide⟩,(((i+j)/2:Nat):Int),?_,?_⟩
  .show IntKind.i64.wrap (((i+j:Nat):Int)/2^(1:Int).toNat)=_
   rw[show(2:Int)^(1:Int).toNat=2 from rfl,IntKind.wrap_i64];omega
  refine⟨by omega,db s,aD,_,agZ s x,λh=>?_,λh=>?_⟩
  .have h:uy s.unit x<0:=aP h
   rw[if_pos (uG h)]at hB;refine⟨_,au (y:=(((i+j)/2+1:Nat):Int)) (by omega),?_⟩;exact⟨_,_,Wk.ad [0,1,2,6,7,8,9,10] [],by omega,m,(i+j)/2+1,j,by omega,by omega,by omega,rfl,hB,rfl⟩
  .have h:¬uy s.unit x<0:=j0 h
   rw[if_neg (by simpa using h)]at hB;exact⟨_,_,Wk.ad [0,1,2,6,7,8,9,10] [],by omega,m,i,(i+j)/2,by omega,by omega,by omega,rfl,hB,rfl⟩
 .have al2:i=j:=by have:=j0 aC;omega
  subst al2;have hiR:i=R:=by
   rw[<-hB]
   cases m with
   |zero=>rfl
   |succ m=>rw[WZ,if_neg (by omega)]
  subst hiR
  by_cases h1:i<l.length
  .obtain⟨s,hs⟩:∃s,l[i]?=some s:=⟨_,aW h1⟩
   have aD:(l.map db)[((i:Int)).toNat]?=some (db s):=by rw[aY,aS,hs];rfl
   refine⟨[(4,true)],uG (by omega),by omega,db s,aD,_,agZ s x,?_⟩;rw[Fx s hs];exact⟨_,_,rfl,⟨rfl,rfl⟩,rfl,rfl,trivial⟩
  .have hbf:b=false:=by
    cases b with
    |false=>rfl
    |true=>exact absurd (yw rfl) h1
   rw[hbf];exact⟨[(4,false)],qA (by omega),_,_,rfl,⟨rfl,rfl⟩,rfl,rfl,trivial⟩
theorem W0(u:St)(l:List Rw)(e:Vt)(x:Po):fS kg 229 [.af 18 0,.agg (dV x),I 0] [(18,cJ (aF u) l e)] [18] [(18,cJ (aF {u with po:=x}) l e)] (I 0):=
 dK VY [] [] (eI _ _ _ _) ⟨λ_=>⟨_,aj.ad [6] [18],rfl,rfl,rfl⟩,λh=>(by cases h)⟩
theorem W4(u:St)(l:List Rw)(e:Vt)(x:Po)(er:Int)(h:er≠0):fS kg 229 [.af 18 0,.agg (dV x),I er] [(18,cJ (aF u) l e)] [18] [(18,cJ (aF u) l e)] (I er):=
 dK VY [] [] (eI _ _ _ _) ⟨λh'=>absurd (by simpa using h') h,λ_=>⟨_,aj.ad [6] [18],rfl,rfl,rfl⟩⟩
theorem al3(u:St)(l:List Rw)(e:Vt)(hz:u.sz)(h9:u.po.sj.length<=90000)(hn:e.eH.length<=1000)(hF:zi e 4 0 true (-1)):yj 157 u l e λu'=>∃sj,u'={u with po:={u.po with sj:=sj}}/\sL u'.po=0/\sj.length<=u.po.sj.length+1/\∀s∈sj,s.ps.length<=1000:=by
 obtain⟨id,aR,kind,eH,cG⟩:=e;have al4:=hF.num;obtain⟨n0,n1,n2,n3,ns,jw⟩:∃n0 n1 n2 n3 ns,eH=n0::n1::n2::n3::ns:=by
  match eH,al4 with
  |n0::n1::n2::n3::ns,_=>exact⟨n0,n1,n2,n3,ns,rfl⟩
  |[],h=>exact absurd h (by simp)
  |[_],h=>exact absurd h (by simp)
  |[_,_],h=>exact absurd h (by simp)
  |[_,_,_],h=>exact absurd h (by simp)
 subst jw;have ny:ns.length<=1000:=by simp at hn;omega
 have a64:=Yi (ns.map λn=>[I n]) (by simp;omega) (jb (λa u hu=>by simp at hu;subst hu;rfl) ns);rw[gB]at a64;have Nn:=hz.po.sj;obtain⟨i,b,hi,hb,a226⟩:=al1 u.po.sj Nn n0;have a59:=c59 (u.po.sj.map db) (by simp;omega);rw[gB]at a59;obtain⟨s,hs⟩:∃s:Sj,s=⟨n0,⟨n1,n2⟩,n3,ns⟩:=⟨_,rfl⟩;have H3:db s=[I n0,I n1,I n2,I n3,.aL 1 ns.length (ns.map λn=>[I n])]:=by rw[hs];rfl
 have Il:s.ps.length<=1000:=by rw[hs];exact ny
 have fin:∀(sj:List Sj)(row:List AV)(er:Int),sj.length<=u.po.sj.length+1->(∀x∈sj,x.ps.length<=1000)->((sL {u.po with sj:=sj}=0->HC 157 .no u l ⟨id,aR,kind,n0::n1::n2::n3::ns,cG⟩ (aF {u with po:={u.po with sj:=sj}}) 0)/\(sL {u.po with sj:=sj}≠0->HC 157 .no u l ⟨id,aR,kind,n0::n1::n2::n3::ns,cG⟩ (aF u) (sL {u.po with sj:=sj})))->
   yj 157 u l ⟨id,aR,kind,n0::n1::n2::n3::ns,cG⟩ λu'=>∃sj,u'={u with po:={u.po with sj:=sj}}/\sL u'.po=0/\sj.length<=u.po.sj.length+1/\∀s∈sj,s.ps.length<=1000:=by
  rintro sj _ _ h1 h2 ⟨h3,h4⟩
  by_cases h0:sL {u.po with sj:=sj}=0
  .exact⟨.no,0,.inl ⟨_,h3 h0,λ_=>⟨sj,rfl,h0,h1,h2⟩⟩⟩
  .exact⟨.no,_,.inl ⟨u,h4 h0,λh=>absurd h h0⟩⟩
 cases b with
 |true=>
  have aC:=hb rfl;obtain⟨sj,Fo⟩:∃sj,sj=u.po.sj.set i s:=⟨_,rfl⟩;have hJ:JS sj=.aL 5 u.po.sj.length (((u.po.sj.map db).set i (db s)).take u.po.sj.length):=by
   have e1:((u.po.sj.map db).set i (db s)).take u.po.sj.length=sj.map db:=by rw[Fo,ph (by simp),oC]
   have e2:sj.length=u.po.sj.length:=by rw[Fo];simp
   rw[e1,<-e2]
  have hJe:dV {u.po with sj:=sj}=[.aL 5 u.po.sj.length (((u.po.sj.map db).set i [I n0,I n1,I n2,I n3,.aL 1 ns.length (ns.map λn=>[I n])]).take u.po.sj.length),LS u.po.cl,Pe.A u.po.ps,I u.po.yr,Ag.A u.po.ag,PS u.po.pm]:=by
   show[JS sj,LS u.po.cl,Pe.A u.po.ps,I u.po.yr,Ag.A u.po.ag,PS u.po.pm]=_
   rw[hJ,H3]
  have hz':({u.po with sj:=sj}:Po).sz:=⟨by rw[Fo];simpa using Nn,λx hx=>by rw[Fo]at hx;rcases mw hx with hx|rfl;exact hz.po.js x hx;exact Il,hz.po.cl,hz.po.ps,hz.po.nm,hz.po.ag,hz.po.pm⟩;have a51:=Wh _ hz';have step:∀(row:List AV)(er:Int),Fn kg 51 [.agg (dV {u.po with sj:=sj})] (I er)->fS kg 229 [.af 18 0,.agg (dV {u.po with sj:=sj}),I er] [(18,cJ (aF u) l ⟨id,aR,kind,n0::n1::n2::n3::ns,cG⟩)] [18] [(18,cJ row l ⟨id,aR,kind,n0::n1::n2::n3::ns,cG⟩)] (I er)->HC 157 .no u l ⟨id,aR,kind,n0::n1::n2::n3::ns,cG⟩ row er:=by
   intro row er Jn aac;refine dK VP [(8,[5,5,5]),(9,[7,7,7])] [] (eI _ _ _ _) ?_;refine⟨⟨by decide,by simp only[bB];omega⟩,[I n0],rfl,⟨by decide,by simp only[bB];omega⟩,[I n1],rfl,⟨by decide,by simp only[bB];omega⟩,[I n2],rfl,⟨by decide,by simp only[bB];omega⟩,[I n3],rfl,⟨by decide,by simp only[bB];omega⟩,_,a64,true,_,a226,_,a59,false,λ_=>?_,λh=>(by cases h)⟩;obtain⟨s0,SX⟩:∃s0,u.po.sj[i]?=some s0:=⟨_,aW aC⟩;have aD:(u.po.sj.map db)[((i:Int)).toNat]?=some (db s0):=by rw[aY,aS,SX];rfl
   refine⟨by omega,db s0,aD,?_⟩;rw[hJe]at Jn;refine⟨rfl,_,Jn,⟨[(2,I 0),(67,.af 18 0),(68,.agg (dV {u.po with sj:=sj})),(70,I er)],[(18,cJ (aF u) l ⟨id,aR,kind,n0::n1::n2::n3::ns,cG⟩)]⟩,?_,_,I er,[18],aac,rfl,?_⟩
   .rw[hJe]
    exact(aj.kG _ 784).trans (aj.ad [2,67,68,70] [18])
   .exact⟨_,aj.ad [2] [18],rfl,rfl,rfl⟩
  refine fin sj [] 0 (by rw[Fo];simp) hz'.js ⟨λh0=>?_,λh0=>?_⟩
  .rw[h0]at a51;exact step _ _ a51 (W0 u l _ _)
  .exact step _ _ a51 (W4 u l _ _ _ h0)
 |false=>
  obtain⟨sj,Fo⟩:∃sj,sj=u.po.sj.take i++[s]++u.po.sj.drop i:=⟨_,rfl⟩;have pW:sj.length=u.po.sj.length+1:=by rw[Fo];simp;omega
  have hJ:JS sj=.aL 5 (u.po.sj.length+1) (((u.po.sj.map db).take i++[db s]++(u.po.sj.map db).drop i).take (u.po.sj.length+1)):=by
   have e1:((u.po.sj.map db).take i++[db s]++(u.po.sj.map db).drop i).take (u.po.sj.length+1)=sj.map db:=by rw[Fo,ph (by simp;omega)];simp
   rw[e1,<-pW]
  have hJe:dV {u.po with sj:=sj}=[.aL 5 (u.po.sj.length+1) (((u.po.sj.map db).take i++[[I n0,I n1,I n2,I n3,.aL 1 ns.length (ns.map λn=>[I n])]]++(u.po.sj.map db).drop i).take (u.po.sj.length+1)),LS u.po.cl,Pe.A u.po.ps,I u.po.yr,Ag.A u.po.ag,PS u.po.pm]:=by
   show[JS sj,LS u.po.cl,Pe.A u.po.ps,I u.po.yr,Ag.A u.po.ag,PS u.po.pm]=_
   rw[hJ,H3]
  have mi:∀x∈sj,x.ps.length<=1000:=by
   intro x hx;rw[Fo]at hx
   rcases cE.1 hx with hx|hx
   .rcases cE.1 hx with hx|hx
    .exact hz.po.js x (my hx)
    .rw[iw.1 hx];exact Il
   .exact hz.po.js x (uE hx)
  have a51:Fn kg 51 [.agg (dV {u.po with sj:=sj})] (I (sL {u.po with sj:=sj})):=Wh _ ⟨by show sj.length<=100000;omega,mi,hz.po.cl,hz.po.ps,hz.po.nm,hz.po.ag,hz.po.pm⟩;have step:∀(row:List AV)(er:Int),Fn kg 51 [.agg (dV {u.po with sj:=sj})] (I er)->fS kg 229 [.af 18 0,.agg (dV {u.po with sj:=sj}),I er] [(18,cJ (aF u) l ⟨id,aR,kind,n0::n1::n2::n3::ns,cG⟩)] [18] [(18,cJ row l ⟨id,aR,kind,n0::n1::n2::n3::ns,cG⟩)] (I er)->HC 157 .no u l ⟨id,aR,kind,n0::n1::n2::n3::ns,cG⟩ row er:=by
   intro row er Jn aac;refine dK VP [(8,[5,5,5]),(9,[7,7,7])] [] (eI _ _ _ _) ?_;refine⟨⟨by decide,by simp only[bB];omega⟩,[I n0],rfl,⟨by decide,by simp only[bB];omega⟩,[I n1],rfl,⟨by decide,by simp only[bB];omega⟩,[I n2],rfl,⟨by decide,by simp only[bB];omega⟩,[I n3],rfl,⟨by decide,by simp only[bB];omega⟩,_,a64,true,_,a226,_,a59,false,λh=>(by cases h),λ_=>?_⟩;refine⟨rfl,⟨[(2,I 0),(7,.af 112 0),(58,.bn 784 5 u.po.sj.length),(59,I i),(61,.bn 976 5 1),(0,.af 18 0)],[(18,cJ (aF u) l ⟨id,aR,kind,n0::n1::n2::n3::ns,cG⟩),(112,⟨40,6,.any,[[.bn 784 5 u.po.sj.length,LS u.po.cl,Pe.A u.po.ps,I u.po.yr,Ag.A u.po.ag,PS u.po.pm]],[]⟩),(784,⟨94,5,.flat,u.po.sj.map db,[]⟩),(976,⟨94,5,.flat,[[I n0,I n1,I n2,I n3,.aL 1 ns.length (ns.map λn=>[I n])]],[]⟩)]⟩,aj.ad [2,7,58,59,61,0] [18,112,784,976],_,
    Lk agW rfl rfl rfl rfl rfl rfl rfl rfl rfl rfl rfl (by simp) rfl rfl rfl rfl rfl rfl (.inr rfl) hi (by omega) (by unfold maxLen;omega) rfl rfl,?_⟩
   rintro c3 rfl;rw[hJe]at Jn;refine⟨rfl,_,Jn,⟨[(2,I 0),(67,.af 18 0),(68,.agg (dV {u.po with sj:=sj})),(70,I er)],[(18,cJ (aF u) l ⟨id,aR,kind,n0::n1::n2::n3::ns,cG⟩)]⟩,?_,_,I er,[18],aac,rfl,?_⟩
   .rw[hJe]
    exact(aj.kG _ 992).trans (aj.ad [2,67,68,70] [18])
   .exact⟨_,aj.ad [2] [18],rfl,rfl,rfl⟩
  refine fin sj [] 0 (by omega) mi ⟨λh0=>?_,λh0=>?_⟩
  .rw[h0]at a51;exact step _ _ a51 (W0 u l _ _)
  .exact step _ _ a51 (W4 u l _ _ _ h0)
end Go.an.ax.G
namespace Go.an.ax.G
open Go Go.an Go.Proofs Go.RowKit Go.Lib
theorem UK(x y:Int):uy x y<0↔x<y:=by
 unfold uy
 split
 .rename_i h;simp[h]
 .rename_i h
  split
  .omega
  .omega
def Ll(n:Int):Prop:= -9223372036854775808<=n/\n<=9223372036854775807
noncomputable def EJ(b:Bt)(r x:Int):ByteArray:= @dite _ (∃d:ByteArray,Fn kg 207 [I x,.aw (aX b) 0,.aw [I r] 0] (.str d)) (Classical.propDecidable _) (λh=>Classical.choose h) λ_=>⟨#[]⟩
theorem DP{b:Bt}{r x:Int}(hb:Ll b.id)(hr:Ll r)(hx:Ll x):Fn kg 207 [I x,.aw (aX b) 0,.aw [I r] 0] (.str (EJ b r x)):=by
 have h:=alq b r x hb.1 hb.2 hr.1 hr.2 hx.1 hx.2;unfold EJ;rw[dif_pos h];exact qC h
abbrev Fp(b:Bt)(r:Int):AV:=.aw [.func 207 [.aw (aX b) 0,.aw [I r] 0]] 0
theorem al6(b:Bt)(r:Int)(hb:Ll b.id)(hr:Ll r)(x y:KK):Fn kg 211 [I x.1,I y.1,Fp b r] (I (qq (EJ b r) uy x y)):=by
 have h:=ajY (Be (EJ b r x.1) (EJ b r y.1)) (uy x.1 y.1);refine aH acz ⟨_,DP hb hr x.2,_,DP hb hr y.2,_,ajX _ _,_,agY _ _,_,h,rfl,rfl,rfl⟩
theorem al7(b:Bt)(r:Int)(hb:Ll b.id)(hr:Ll r)(zs:List Int)(hz:∀z∈zs,Ll z)(hl:zs.length<=1000)(i:Nat):∃ts:List Int,ts.length=zs.length/\
  FnS kg 210 [.bn i 1 zs.length,.func 211 [Fp b r]] [(i,⟨3,1,.pure,zs.map λn=>[I n],[]⟩)] [(i,⟨3,1,.pure,ts.map λn=>[I n],[]⟩)] (.bY []):=by
 obtain⟨zl,rfl⟩:∃zl:List KK,zl.map (·.1)=zs:=by
  clear hl
  induction zs with
  |nil=>exact⟨[],rfl⟩
  |cons z zs ih=>
   obtain⟨zl,rfl⟩:=ih λx hx=>hz x (rM _ hx)
   exact⟨⟨z,hz z (by simp)⟩::zl,rfl⟩
 have h:=P6 Tryz.MG (g:=211) ⟨_,Tryz.func210,by kernel_rfl,by kernel_rfl⟩ (enters_of Tryz.func211 (by kernel_rfl) rfl) [Fp b r] rfl UK (λx y=>al6 b r hb hr x y) zl (by rw[gB]at hl;exact hl) i;obtain⟨ts,h1,h2⟩:=h;exact⟨ts,by rw[h1,gB],h2⟩
end Go.an.ax.G
namespace Go.an
open Go.RowKit
theorem aj.cut{ps:List Nat}(t b e sz k:Nat)(kd:Kd)(aa:List (List AV))(hk:k<=aa.length)(hb:Nat.ble 2 (b %16)=false)(hm:Mg kd=true):aj ps ⟨[(t,.bn b sz k)],[(b,⟨e,sz,kd,aa,[]⟩)]⟩ ⟨[(t,.bn b sz k)],[(b,⟨e,sz,kd,aa.take k,[]⟩)]⟩:=by
 rintro E a w hp ⟨K,hs⟩;have gy:∀{aa:List (List AV)}{i:Nat}{y:ak},aK [(b,(⟨e,sz,kd,aa,[]⟩:ak))] i=some y->i=b/\y=⟨e,sz,kd,aa,[]⟩:=by
  intro aa i y h;rw[aZ]at h
  by_cases q:b=i
  .rw[if_pos q]at h;injection h with h;exact⟨q.symm,h.symm⟩
  .rw[if_neg q]at h;simp[aK]at h
 have Q7:∀aa:List (List AV),aK [(b,(⟨e,sz,kd,aa,[]⟩:ak))] b=some ⟨e,sz,kd,aa,[]⟩:=λaa=>by rw[aZ,if_pos rfl]
 have SH:(aa.take k).length=k:=by rw[aO];omega
 obtain⟨K',zO,gx,PK⟩:∃K':KM,K' b=(K b).map (λx=>(x.1,min k x.2))/\(∀i,aG K' i=aG K i)/\∀i,i≠b->K' i=K i:=by
  refine⟨λi=>if i=b then(K b).map (λx=>(x.1,min k x.2))else K i,by simp,λi=>?_,λi h=>by simp[h]⟩;unfold aG
  by_cases q:i=b
  .subst q
   simp only[yH]
   cases K i with
   |none=>rfl
   |some x=>obtain⟨g,m⟩:=x;cases g<;>rfl
  .simp[q]
 have hX:∀g,XX E K' [(b,(⟨e,sz,kd,aa.take k,[]⟩:ak))] g↔XX E K [(b,(⟨e,sz,kd,aa,[]⟩:ak))] g:=by
  intro g;unfold XX bH
  constructor
  .rintro(⟨i,h1,h2⟩|h)
   .obtain⟨y,hy⟩:=bF.1 h1
    obtain⟨rfl,_⟩:=gy hy;exact .inl ⟨i,by rw[Q7];rfl,by rw[<-gx];exact h2⟩
   .exact .inr h
  .rintro(⟨i,h1,h2⟩|h)
   .obtain⟨y,hy⟩:=bF.1 h1
    obtain⟨rfl,_⟩:=gy hy;exact .inl ⟨i,by rw[Q7];rfl,by rw[gx];exact h2⟩
   .exact .inr h
 refine⟨K',hs.size,hs.defers,hs.ext,λr=>?_,λi y hy=>?_,λi y hy=>?_,λi i' g h1 h2 h3 h4=>?_,λi g h1 h2=>?_,λi x hx=>?_⟩
 .have hr:=hs.fr r
  by_cases q:t=r
  .subst q
   have e1:∀u:AV,lk [(t,u)] t=u:=λu=>by simp[lk]
   show FV w _ K' _ (lk [(t,.bn b sz k)] t) _
   rw[e1];have hr:FV w (XX E K [(b,(⟨e,sz,kd,aa,[]⟩:ak))]) K a.tmps (lk [(t,.bn b sz k)] t) _:=hr;rw[e1]at hr
   rcases VR.c9 hr with⟨h1,h2,h3⟩|⟨g,cap,aJ,e0,m,h1,h2,h3,h4,h5,h6,h7⟩
   .rw[h3]
    subst h2;exact FV.of (.fE (by rw[zO,h1];rfl))
   .rw[h3]
    exact FV.of (.bn (m:=min k m) (by rw[zO,h1];rfl) (by omega) h4 h5 h6 h7)
  .have e1:∀u:AV,lk [(t,u)] r=.top:=λu=>by
    have:Nat.beq t r=false:=by
     cases h:Nat.beq t r with
     |false=>rfl
     |true=>exact absurd (H8 h) q
    simp[lk,this]
   show FV w _ K' _ (lk [(t,.bn b sz k)] r) _
   rw[e1];exact FV.top
 .obtain⟨rfl,rfl⟩:=gy hy
  intro row aD;exact hs.aa i _ (Q7 aa) row (my aD)
 .obtain⟨rfl,rfl⟩:=gy hy
  rcases hs.own i _ (Q7 aa)with⟨h1,h2⟩|⟨g,h1,aJ,h2,h3⟩
  .have h2:aa=[]:=h2
   exact .inl ⟨by rw[zO,h1];simp,by rw[h2];simp⟩
  .refine .inr ⟨g,by rw[zO,h1];show some (some g,min k aa.length)=some (some g,(aa.take k).length);rw[SH,rS hk],aJ,?_,λj u hu=>?_⟩
   .unfold aV at h2⊢
    cases kd with
    |map ag st=>cases hm
    |_=>exact h2
   .have iG:aa.flatten[j]?=some u:=by
     have h0:aa=aa.take k++aa.drop k:=(rR _ _).symm;have hu:(aa.take k).flatten[j]?=some u:=hu;rw[h0,lA,bM (aE.1 hu).1];exact hu
    obtain⟨c,c1,c2,c3⟩:=h3 j u iG;refine⟨c,c1,c2,?_⟩
    cases kd with
    |pure=>exact c3
    |flat=>exact VR.sub c3 λg _ h=>(hX g).1 h
    |any=>cases hm
    |map ag st=>cases hm
 .obtain⟨y,hy⟩:=bF.1 h1
  obtain⟨y',J1⟩:=bF.1 h2;exact(gy hy).1.trans (gy J1).1.symm
 .obtain⟨y,hy⟩:=bF.1 h1
  obtain⟨rfl,_⟩:=gy hy;exact hs.fI i g (by rw[Q7];rfl) (by rw[<-gx];exact h2)
 .by_cases q:i=b
  .subst q
   have:=E.yv _ _ hx;rw[hb]at this;cases this
  .rw[PK i q];exact hs.gK i x hx
end Go.an
namespace Go.an.ax.G
open Go Go.an Go.Proofs Go.RowKit Go.Lib
theorem al8(b:Bt)(r:Int)(hb:Ll b.id)(hr:Ll r)(hu:∀z∈b.us,Ll z)(hl:b.us.length<=1000)(k:Nat)(hk:b.jd=k)(N8:k<=b.us.length):∃l:List Int,l.length=k/\Fn kg 145 [.agg (aX b),I r] (.dh true 3 1 k (l.map λn=>[I n])):=by
 obtain⟨bid,aR,st,jR,jd,bX,us,gE⟩:=b;simp only at hb hu hl hk N8;subst hk;obtain⟨ts,htl,al9⟩:=al7 ⟨bid,aR,st,jR,k,bX,us,gE⟩ r hb hr us hu hl 160;have SH:(ts.take k).length=k:=by rw[aO];omega
 have ag0:=Aw.aeZ (ts.take k) (by omega) 160;rw[SH]at ag0;have a64:=Yi (us.map λn=>[I n]) (by simp;omega) (Mn us);rw[gB]at a64;have pW:(Aw.sR (ts.take k)).length=k:=by simp[Aw.sR,SH]
 refine⟨Aw.sR (ts.take k),pW,lX adP [] [1,2,5] ?_⟩;refine⟨⟨[(2,.aw (aX ⟨bid,aR,st,jR,k,bX,us,gE⟩) 0),(3,.aw [I r] 0)],[]⟩,aj.S2 [2,3] rfl,?_⟩;refine⟨⟨[(2,.aw (aX ⟨bid,aR,st,jR,k,bX,us,gE⟩) 0),(5,Fp ⟨bid,aR,st,jR,k,bX,us,gE⟩ r)],[]⟩,aj.S2 [2,5] rfl,?_⟩;refine⟨_,a64,false,_,_,al9,?_⟩;refine⟨⟨by show(0:Int)<=(k:Int);omega,by show(k:Int)<=(us.length:Int);omega⟩,?_⟩;refine⟨⟨[(6,.bn 160 1 k)],[(160,⟨3,1,.pure,(ts.take k).map λn=>[I n],[]⟩)]⟩,?_,?_⟩
 .refine(aj.ad [6] [160]).trans ((aj.cut 6 160 3 1 k .pure (ts.map λn=>[I n]) (by rw[gB];omega) rfl rfl).trans (aj.of ?_))
  rw[zz]
 refine⟨_,_,ag0,?_⟩;exact⟨_,aj.ad [4] [160],rfl,_,rfl,rfl,by simp[Aw.rI,pW],.inl ⟨rfl,rfl⟩⟩
end Go.an.ax.G
namespace Go.an.ax.G
open Go Go.an Go.Proofs Go.RowKit Go.Lib
theorem ama(l:List Int)(hl:l.length<=100000)(p:Int->Bool)(g:FuncId)(hp:∀a∈l,Fn kg g [I a] (B (p a))):Fn kg 31 [NS l,.func g []] (I (aQ p 0 l)):=by
 refine aH Tb ?_;refine⟨λn c=>∃i:Nat,i<=l.length/\n=l.length-i/\c=⟨[(0,NS l),(1,.func g []),(4,I 0),(7,I l.length),(8,I i)],[]⟩/\aQ p i (l.drop i)=aQ p 0 l,⟨_,_,Wk.ad [0,1,4,7,8] [],0,by omega,rfl,rfl,by simp⟩,?_⟩;rintro n c ⟨i,hi,rfl,rfl,hI⟩;refine⟨λh=>?_,λh=>?_⟩
 .simp at h
  obtain⟨a,ha,hd,_⟩:=aq h;rw[hd,aQ]at hI;refine⟨by omega,[I a],by simp[ha],_,hp a (ay ha),λhf=>?_,λhf=>?_⟩
  .rw[if_pos hf]at hI
   exact⟨rfl,rfl,by rw[<-hI];rfl⟩
  .rw[if_neg (by simp[hf])]at hI
   refine⟨_,ah,?_⟩;exact⟨_,_,Wk.ad [0,1,4,7,8] [],by omega,i+1,by omega,rfl,rfl,hI⟩
 .simp at h
  have:i=l.length:=by omega
  subst this;simp[aQ]at hI;exact⟨rfl,rfl,by rw[<-hI];rfl⟩
theorem Ch(l:List Int)(hl:l.length<=100000)(p:Int->Bool)(g:FuncId)(hp:∀a∈l,Fn kg g [I a] (B (p a))):Fn kg 11 [NS l,.func g []] (B (l.any p)):=
 aH S9 ⟨_,ama l hl p g hp,rfl,rfl,by rw[<-fj];rfl⟩
theorem amb(l:List Int)(hl:l.length<=100000)(p:Int->Bool)(g:FuncId)(xs:List AV)(hp:∀a∈l,Fn kg g [I a,.aw xs 0] (B (p a))):Fn kg 31 [NS l,.func g [.aw xs 0]] (I (aQ p 0 l)):=by
 refine aH Tb ?_;refine⟨λn c=>∃i:Nat,i<=l.length/\n=l.length-i/\c=⟨[(0,NS l),(1,.func g [.aw xs 0]),(4,I 0),(7,I l.length),(8,I i)],[]⟩/\aQ p i (l.drop i)=aQ p 0 l,⟨_,_,Wk.ad [0,1,4,7,8] [],0,by omega,rfl,rfl,by simp⟩,?_⟩;rintro n c ⟨i,hi,rfl,rfl,hI⟩;refine⟨λh=>?_,λh=>?_⟩
 .simp at h
  obtain⟨a,ha,hd,_⟩:=aq h;rw[hd,aQ]at hI;refine⟨by omega,[I a],by simp[ha],_,hp a (ay ha),λhf=>?_,λhf=>?_⟩
  .rw[if_pos hf]at hI
   exact⟨rfl,rfl,by rw[<-hI];rfl⟩
  .rw[if_neg (by simp[hf])]at hI
   refine⟨_,ah,?_⟩;exact⟨_,_,Wk.ad [0,1,4,7,8] [],by omega,i+1,by omega,rfl,rfl,hI⟩
 .simp at h
  have:i=l.length:=by omega
  subst this;simp[aQ]at hI;exact⟨rfl,rfl,by rw[<-hI];rfl⟩
theorem UL(l:List Int)(hl:l.length<=100000)(p:Int->Bool)(g:FuncId)(xs:List AV)(hp:∀a∈l,Fn kg g [I a,.aw xs 0] (B (p a))):Fn kg 11 [NS l,.func g [.aw xs 0]] (B (l.any p)):=
 aH S9 ⟨_,amb l hl p g xs hp,rfl,rfl,by rw[<-fj];rfl⟩
theorem amc(l:List Int)(hl:l.length<=100000)(n:Int):Fn kg 206 [I n,.aw [NS l] 0] (B (!ur l n)):=aH acx ⟨_,c13 l (by omega) n,rfl,rfl,rfl⟩
def Q8(l part:List Int):Bool:= !(part.any λn=> !ur l n)
theorem ag1(l part:List Int)(hl:l.length<=100000)(hp:part.length<=100000):Fn kg 144 [NS l,NS part] (B (Q8 l part)):=aH ab7 ⟨_,UL part hp (λn=> !ur l n) 206 [NS l] (λa _=>amc l hl a),rfl,rfl,rfl⟩
theorem amd(b:Bt):∃r,Fn kg 146 [.agg (aX b)] (B r):=by
 by_cases h1:b.st=1
 .cases g:(b.jR==0)with
  |true=>exact⟨_,aH vJ ⟨λ_=>⟨[(3,true)],g,rfl,rfl,rfl⟩,λh=>absurd h (by simp[h1])⟩⟩
  |false=>exact⟨_,aH vJ ⟨λ_=>⟨[(3,false)],g,rfl,rfl,rfl⟩,λh=>absurd h (by simp[h1])⟩⟩
 by_cases h2:b.st=2
 .cases g:(decide (b.jR>=1))with
  |true=>exact⟨_,aH vJ ⟨λh=>absurd h (by simp[h1]),λ_=>⟨λ_=>⟨[(3,true)],g,rfl,rfl,rfl⟩,λh=>absurd h (by simp[h2])⟩⟩⟩
  |false=>exact⟨_,aH vJ ⟨λh=>absurd h (by simp[h1]),λ_=>⟨λ_=>⟨[(3,false)],g,rfl,rfl,rfl⟩,λh=>absurd h (by simp[h2])⟩⟩⟩
 by_cases h3:b.st=3
 .cases g:(decide (b.jR>=1))with
  |true=>exact⟨_,aH vJ ⟨λh=>absurd h (by simp[h1]),λ_=>⟨λh=>absurd h (by simp[h2]),λ_=>⟨λ_=>⟨[(3,true)],g,rfl,rfl,rfl⟩,λh=>absurd h (by simp[h3])⟩⟩⟩⟩
  |false=>exact⟨_,aH vJ ⟨λh=>absurd h (by simp[h1]),λ_=>⟨λh=>absurd h (by simp[h2]),λ_=>⟨λ_=>⟨[(3,false)],g,rfl,rfl,rfl⟩,λh=>absurd h (by simp[h3])⟩⟩⟩⟩
 by_cases h4:b.st=4
 .cases g:(decide (b.jR>=1))with
  |true=>exact⟨_,aH vJ ⟨λh=>absurd h (by simp[h1]),λ_=>⟨λh=>absurd h (by simp[h2]),λ_=>⟨λh=>absurd h (by simp[h3]),λ_=>⟨λ_=>⟨[(3,true)],g,rfl,rfl,rfl⟩,λh=>absurd h (by simp[h4])⟩⟩⟩⟩⟩
  |false=>exact⟨_,aH vJ ⟨λh=>absurd h (by simp[h1]),λ_=>⟨λh=>absurd h (by simp[h2]),λ_=>⟨λh=>absurd h (by simp[h3]),λ_=>⟨λ_=>⟨[(3,false)],g,rfl,rfl,rfl⟩,λh=>absurd h (by simp[h4])⟩⟩⟩⟩⟩
 exact⟨_,aH vJ ⟨λh=>absurd h (by simp[h1]),λ_=>⟨λh=>absurd h (by simp[h2]),λ_=>⟨λh=>absurd h (by simp[h3]),λ_=>⟨λh=>absurd h (by simp[h4]),λ_=>⟨rfl,rfl,rfl⟩⟩⟩⟩⟩⟩
end Go.an.ax.G
