import Derived.Test.YtpfmbblnhjpclaaGreatDoorJ38
set_option linter.unusedVariables false
set_option linter.unusedSimpArgs false
set_option maxRecDepth 20000
namespace Go.an.ax.G
open Go Go.an Go.an.Day Go.Proofs Go.RowKit
theorem pK.UH(sz:Nat):pK .ai (.aL sz 0 []):=by
 intro w X K v h
 cases h
 exact .aL (cs:=[]) rfl (by simp) (by omega) (λ_=>rfl) rfl (by simp) (by simp) (by simp)
abbrev Q2(u:St):List AV:=jf u (LS u.po.cl) (Pe.A u.po.ps) (Ag.A u.po.ag) (BS u.bs) (SS u.ls) (TS u.bt) (.aL 3 u.sh.length ((u.sh.map fW).take u.sh.length))
theorem vw(u:St):aF u=Q2 u:=by
 have:(u.sh.map fW).take u.sh.length=u.sh.map fW:=ph (by simp);unfold Q2;rw[this]
theorem yn(u:St)(l:List Rw)(e:Vt)(er:Int):aj [18] ⟨[(2,I er)],(18,cJ (Own.row u .sw) l e)::Own.ae u .sw⟩ ⟨[(2,I er)],[(18,cJ (aF u) l e)]⟩:=by
 have k1:kG (⟨[(2,I er)],(18,cJ (Own.row u .sw) l e)::Own.ae u .sw⟩:aM) 33=⟨[(2,I er)],[(18,cJ (Q2 u) l e)]⟩:=by kernel_rfl
 rw[<-vw]at k1;exact(aj.kG (⟨[(2,I er)],(18,cJ (Own.row u .sw) l e)::Own.ae u .sw⟩:aM) 33).trans (aj.of k1)
theorem agL(u:St)(l:List Rw)(e:Vt)(x:List Mv):fS kg 301 [.af 18 8,MS x,I 0] ((18,cJ (Own.row u .sw) l e)::Own.ae u .sw) [18] ((18,cJ (Own.row {u with ms:=x} .sw) l e)::Own.ae u .sw) (I 0):=
 dK Da [] [] (eI _ _ _ _) ⟨λ_=>⟨_,aj.ad [6] [18,33],rfl,rfl,rfl⟩,λh=>(by cases h)⟩
theorem agM(u:St)(l:List Rw)(e:Vt)(er:Int)(h:er≠0):fS kg 301 [.af 18 8,.ai,I er] ((18,cJ (Own.row u .sw) l e)::Own.ae u .sw) [18] ((18,cJ (Own.row u .sw) l e)::Own.ae u .sw) (I er):=
 dK Da [] [] (eI _ _ _ _) ⟨λh'=>absurd (by simpa using h') h,λ_=>⟨_,aj.ad [6] [18,33],rfl,rfl,rfl⟩⟩
theorem agN(u:St)(hm:jl u.ms)(l:List Rw)(e:Vt)(b k o:Int):∃ms er,fS kg 237 [.af 18 0,I b,Tw (k,o)] ((18,cJ (Own.row u .sw) l e)::Own.ae u .sw) [18] ((18,cJ (Own.row {u with ms:=ms} .sw) l e)::Own.ae u .sw) (I er)/\(er=0->ms.length<=u.ms.length+1):=by
 have a107:=sP u hm b;rw[vw]at a107;have Bw:=Zv u.ms hm (kQ u e b k o);unfold Qo at Bw
 by_cases h:uu u.ms (kQ u e b k o)=0
 .rw[if_pos h,h]at Bw
  exact⟨_,0,dK C9 [(2,[6])] [] (eI _ _ _ _) ⟨_,a107,_,Bw,true,_,aj.ad [35,36,37] [18,33],_,I 0,[18],(agL u l e (u.ms++[kQ u e b k o])).as (by rfl) (by rfl) (by rfl),rfl,_,aj.ad [6] [18,33],rfl,rfl,rfl⟩,λ_=>by simp⟩
 .rw[if_neg h]at Bw
  exact⟨u.ms,_,dK C9 [(2,[6])] [] (eI _ _ _ _) ⟨_,a107,_,Bw,_,aj.ad [35,36,37] [18,33],_,I (uu u.ms (kQ u e b k o)),[18],(agM u l e _ h).as (by rfl) (by rfl) (by rfl),rfl,_,aj.ad [6] [18,33],rfl,rfl,rfl⟩,λh'=>absurd h' h⟩
theorem ZN(u:St)(hz:u.sz)(l:List Rw)(hl:l.length<=100000)(e:Vt)(r:dE):∃p:Ct->Bool,∀c,Fn kg 243 [.agg (eT c),.aw [.aw (Q2 u++[WS l]++fy e) 0] 0,.aw (cd r) 0] (B (p c)):=by
 obtain⟨g,hg⟩:=Classical.axiomOfChoice (λn=>QE u hz l hl e r.rd n);refine⟨λc=> !g c.unit,λc=>?_⟩;have h:=hg c.unit;rw[vw]at h;exact aH VF ⟨_,h,rfl,rfl,rfl⟩
abbrev alL(l:List Rw)(e:Vt)(r:dE):List (Nat×ak):=[(16,⟨175,1,.any,[[.af 18 0]],[]⟩),(48,⟨159,7,.any,[cd r],[]⟩)]
abbrev alM(u:St)(l:List Rw)(e:Vt)(r:dE):List (Nat×ak):=(18,cJ (Own.row u .sw) l e)::(33,⟨169,3,.pure,u.sh.map fW,[]⟩)::alL l e r
abbrev alN(u:St)(l:List Rw)(e:Vt)(r:dE)(cs:List Ct):aM:=⟨[(1,.af 16 0),(2,I 0),(3,.af 48 0),(5,CS cs)],alM u l e r⟩
abbrev Z2(u:St)(l:List Rw)(e:Vt)(r:dE)(cs:List Ct):aM:=⟨[(1,.af 16 0),(2,I 0),(3,.af 48 0),(5,CS cs),(7,.af 112 0),(8,.func 242 [.af 48 0,.af 112 0]),(53,CS cs),(54,.func 243 [.af 16 0,.af 48 0])],(18,cJ (Own.row u .sw) l e)::(33,⟨169,3,.pure,u.sh.map fW,[]⟩)::(16,⟨175,1,.any,[[.af 18 0]],[]⟩)::(48,⟨159,7,.any,[cd r],[]⟩):: [(112,⟨3,1,.any,[[I e.aR]],[]⟩)]⟩
abbrev agO:List Nat:=[0,1,2,3,4,5,6,7,8,9,10,11,13,27,36,52,56,65,88,98,109,115,116,117,118]
def xt(u:St)(r:dE)(d:Int)(cs:List Ct):List (Int×Int×Int):=u.sh++cs.map λc=>(r.rd,c.unit,d)
set_option maxHeartbeats 4000000 in
theorem t164(u:St)(l:List Rw)(e:Vt)(hz:u.sz)(hm:jl u.ms)(hl:l.length<=100000)(r:dE)(cs:List Ct)(hc:cs.length<=100000):
  ∃u' er,(er=0->∃qs ms,u'={u with qs:=qs,ms:=ms,sh:=xt u r e.aR cs}/\qs.length<=256/\ms.length<=u.ms.length+1/\(xt u r e.aR cs).length<=1024)/\
   ∀c,aj [18] c (alN u l e r cs)->mY kg tt 139 agO [(10,[2,2,2]),(19,[6])] [8] [18] (rst 5 (body Tryz.f164)) c (rh tt [18] [.tmp 2] (I er) [(18,cJ (aF u') l e)]):=by
 obtain⟨p,hp⟩:=ZN u hz l hl e r;have a193:=Aw.WB cs (by omega) p 243 [.aw (Q2 u++[WS l]++fy e) 0] (cd r) (λc _=>hp c);have HN:=Aw.Qt u.ks (by have:=hz.ks;omega) (Aw.bkB r e.aR) 242 (cd r) [I e.aR] (λk _=>Aw.afp k r e.aR);have a107:=sP u hm r.bx;rw[vw]at a107;have MW:=Rq.afl u.qs r.id e.aR
 cases h1:cs.any p with
 |true=>
  rw[h1]at a193;refine⟨u,22,λh=>(by cases h),λc h=>⟨_,h,?_⟩⟩;refine⟨rfl,Z2 u l e r cs,aj.ad [1,2,3,5,7,8,53,54] [18,33,16,48,112],_,il rfl rfl rfl rfl rfl rfl rfl a193 rfl rfl,?_⟩;rintro c3 rfl;exact⟨λ_=>⟨_,(aj.ad [2] [18,33]).trans (yn u l e 22),rfl,rfl,rfl⟩,λh=>(by cases h)⟩
 |false=>
  rw[h1]at a193
  cases h2:u.ks.any (Aw.bkB r e.aR)with
  |false=>
   rw[h2]at HN;refine⟨u,23,λh=>(by cases h),λc h=>⟨_,h,?_⟩⟩;refine⟨rfl,Z2 u l e r cs,aj.ad [1,2,3,5,7,8,53,54] [18,33,16,48,112],_,il rfl rfl rfl rfl rfl rfl rfl a193 rfl rfl,?_⟩;rintro c3 rfl;exact⟨λh=>(by cases h),λ_=>⟨_,HN,λ_=>⟨_,(aj.ad [2] [18,33]).trans (yn u l e 23),rfl,rfl,rfl⟩,λh=>(by cases h)⟩⟩
  |true=>
   rw[h2]at HN
   cases h3:((qg u.ms r.bx).1==0)with
   |true=>
    refine⟨u,11,λh=>(by cases h),λc h=>⟨_,h,?_⟩⟩;refine⟨rfl,Z2 u l e r cs,aj.ad [1,2,3,5,7,8,53,54] [18,33,16,48,112],_,il rfl rfl rfl rfl rfl rfl rfl a193 rfl rfl,?_⟩;rintro c3 rfl;exact⟨λh=>(by cases h),λ_=>⟨_,HN,λh=>(by cases h),λ_=>⟨_,a107,λ_=>⟨_,(aj.ad [2] [18,33]).trans (yn u l e 11),rfl,rfl,rfl⟩,λh=>absurd (show((qg u.ms r.bx).1==0)=false from h) (by rw[h3];decide)⟩⟩⟩
   |false=>
    by_cases h4:(Rq.DF u.qs r.id e.aR).2=0
    .rw[h4]at MW
     generalize hQ:(Rq.DF u.qs r.id e.aR).1=qs at MW;have hql:qs.length<=256:=by rw[<-hQ];exact wg h4
     obtain⟨ms,er,MQ,hR⟩:=agN u hm l e r.bx 3 r.rd;have fr:=MQ.frame (R:=[(16,⟨175,1,.any,[[.af 18 0]],[]⟩),(48,⟨159,7,.any,[cd r],[]⟩),(112,⟨3,1,.any,[[I e.aR]],[]⟩)]) rfl rfl rfl rfl rfl
     by_cases h5:er=0
     .subst h5
      have hs:=hz.sh;have pW:({u with ms:=ms}:St).sh.length=u.sh.length:=rfl
      by_cases h6:u.sh.length+cs.length<=1024
      .refine⟨{u with qs:=qs,ms:=ms,sh:=xt u r e.aR cs},0,λ_=>⟨qs,ms,rfl,hql,hR rfl,by simp[xt];omega⟩,λc h=>⟨_,h,?_⟩⟩
       refine⟨rfl,Z2 u l e r cs,aj.ad [1,2,3,5,7,8,53,54] [18,33,16,48,112],_,il rfl rfl rfl rfl rfl rfl rfl a193 rfl rfl,?_⟩;rintro c3 rfl;refine⟨λh=>(by cases h),λ_=>⟨_,HN,λh=>(by cases h),λ_=>⟨_,a107,λh=>absurd (show((qg u.ms r.bx).1==0)=true from h) (by rw[h3];decide),λ_=>?_⟩⟩⟩;refine⟨_,MW,true,λh=>(by cases h),λ_=>?_⟩;refine⟨_,aj.ad [1,2,3,5,7,9,90,92,95] [18,33,16,48,112],_,I 0,[18,16,48,112],fr.as (by rfl) (by rfl) (by rfl),rfl,λh=>(by cases h),λ_=>?_⟩;refine⟨_,au (y:=((u.sh.length+cs.length:Nat):Int)) (by omega),λh=>absurd (aP h) (by omega),λ_=>?_⟩;refine⟨λm c'=>∃(i n:Nat)(aa:List (List AV)),i<=cs.length/\m=cs.length-i/\n=(xt u r e.aR (cs.take i)).length/\aa=(xt u r e.aR (cs.take i)).map fW/\
         c'=⟨[(1,.af 16 0),(2,I 0),(3,.af 48 0),(7,.af 112 0),(115,CS cs),(116,I cs.length),(117,I i)],(18,cJ (jf {u with qs:=qs,ms:=ms} (LS u.po.cl) (Pe.A u.po.ps) (Ag.A u.po.ag) (BS u.bs) (SS u.ls) (TS u.bt) (.bn 33 3 n)) l e)::(33,⟨169,3,.pure,aa,[]⟩):: [(16,⟨175,1,.any,[[.af 18 0]],[]⟩),(48,⟨159,7,.any,[cd r],[]⟩),(112,⟨3,1,.any,[[I e.aR]],[]⟩)]⟩,
        ⟨_,_,aj.ad [1,2,3,7,115,116,117] [18,33,16,48,112],0,_,_,by omega,rfl,by simp[xt],by simp[xt],rfl⟩,?_⟩
       rintro m c' ⟨i,n,aa,hi,rfl,hn,aD,rfl⟩;refine⟨λaC=>?_,λaC=>?_⟩
       .simp at aC
        obtain⟨c,fw,_,ht⟩:=aq aC;have hx:xt u r e.aR (cs.take (i+1))=xt u r e.aR (cs.take i)++[(r.rd,c.unit,e.aR)]:=by simp[xt,ht]
        have ny:n<=1024:=by rw[hn];simp[xt];omega
        refine⟨by omega,eT c,by simp[fw],⟨?_,?_⟩,?_⟩
        .show(n+1)*24<=_
         omega
        .show n+1<=_
         omega
        refine⟨_,au (y:=((i+1:Nat):Int)) (by omega),?_⟩;refine⟨_,_,aj.kr [1,2,3,7,115,116,117] [18,2144,16,48,112] [(2144,33)] rfl rfl rfl rfl,by omega,i+1,n+1,aa.take n++[[I r.rd,I c.unit,I e.aR]],by omega,rfl,by rw[hx,be,hn];rfl,?_,rfl⟩;rw[hx,qB,aD,ph (by simp[hn])]
        rfl
       .have og:i=cs.length:=by simp at aC;omega
        subst og;rw[oB]at hn aD;subst hn aD;exact⟨_,(aj.ad [2] [18,33]).trans (yn {u with qs:=qs,ms:=ms,sh:=xt u r e.aR cs} l e 0),rfl,rfl,rfl⟩
      .refine⟨{u with ms:=ms},12,λh=>(by cases h),λc h=>⟨_,h,?_⟩⟩
       refine⟨rfl,Z2 u l e r cs,aj.ad [1,2,3,5,7,8,53,54] [18,33,16,48,112],_,il rfl rfl rfl rfl rfl rfl rfl a193 rfl rfl,?_⟩;rintro c3 rfl;refine⟨λh=>(by cases h),λ_=>⟨_,HN,λh=>(by cases h),λ_=>⟨_,a107,λh=>absurd (show((qg u.ms r.bx).1==0)=true from h) (by rw[h3];decide),λ_=>?_⟩⟩⟩;refine⟨_,MW,true,λh=>(by cases h),λ_=>?_⟩;refine⟨_,aj.ad [1,2,3,5,7,9,90,92,95] [18,33,16,48,112],_,I 0,[18,16,48,112],fr.as (by rfl) (by rfl) (by rfl),rfl,λh=>(by cases h),λ_=>?_⟩;refine⟨_,au (y:=((u.sh.length+cs.length:Nat):Int)) (by omega),λ_=>?_,λh=>absurd (j0 h) (by omega)⟩;exact⟨_,(aj.ad [2] [18,33]).trans (yn {u with ms:=ms} l e 12),rfl,rfl,rfl⟩
     .refine⟨{u with ms:=ms},er,λh=>absurd h h5,λc h=>⟨_,h,?_⟩⟩
      refine⟨rfl,Z2 u l e r cs,aj.ad [1,2,3,5,7,8,53,54] [18,33,16,48,112],_,il rfl rfl rfl rfl rfl rfl rfl a193 rfl rfl,?_⟩;rintro c3 rfl;refine⟨λh=>(by cases h),λ_=>⟨_,HN,λh=>(by cases h),λ_=>⟨_,a107,λh=>absurd (show((qg u.ms r.bx).1==0)=true from h) (by rw[h3];decide),λ_=>?_⟩⟩⟩;refine⟨_,MW,true,λh=>(by cases h),λ_=>?_⟩;refine⟨_,aj.ad [1,2,3,5,7,9,90,92,95] [18,33,16,48,112],_,I er,[18,16,48,112],fr.as (by rfl) (by rfl) (by rfl),rfl,λ_=>?_,λh=>absurd h (by simp[h5])⟩;exact⟨_,(aj.ad [2] [18,33]).trans (yn {u with ms:=ms} l e er),rfl,rfl,rfl⟩
    .refine⟨u,(Rq.DF u.qs r.id e.aR).2,λh=>absurd h h4,λc h=>⟨_,h,?_⟩⟩
     refine⟨rfl,Z2 u l e r cs,aj.ad [1,2,3,5,7,8,53,54] [18,33,16,48,112],_,il rfl rfl rfl rfl rfl rfl rfl a193 rfl rfl,?_⟩;rintro c3 rfl;refine⟨λh=>(by cases h),λ_=>⟨_,HN,λh=>(by cases h),λ_=>⟨_,a107,λh=>absurd (show((qg u.ms r.bx).1==0)=true from h) (by rw[h3];decide),λ_=>?_⟩⟩⟩;refine⟨_,MW,true,λ_=>?_,λh=>absurd h (by simp[h4])⟩;exact⟨_,(aj.ad [2] [18,33]).trans (yn u l e _),rfl,rfl,rfl⟩
theorem ZO(u:St)(l:List Rw)(e:Vt)(hz:u.sz)(hm:jl u.ms)(hl:l.length<=100000)(hF:zi e 1 0 false (-1)):yj 164 u l e λu'=>∃qs ms sh,u'={u with qs:=qs,ms:=ms,sh:=sh}/\qs.length<=256/\ms.length<=u.ms.length+1/\sh.length<=1024:=by
 obtain⟨id,aR,kind,eH,cG⟩:=e;obtain⟨a,jw⟩:=UC (hF.more rfl);simp only at jw;subst jw;obtain⟨r,b,Jy⟩:=Uv u hz l ⟨id,aR,kind,[a],cG⟩ a;rw[vw]at Jy
 cases b with
 |false=>
  refine⟨.sw,7,.inl ⟨u,dK Kw [(10,[2,2,2]),(19,[6])] [8] (eI _ _ _ _) ⟨⟨by decide,by simp⟩,[I a],rfl,_,Jy,λ_=>?_,λh=>(by cases h)⟩,λh=>by cases h⟩⟩;exact⟨_,(aj.ad [2] [18,33]).trans (yn u l _ 7),rfl,rfl,rfl⟩
 |true=>
  have sS:=G2 u hz.bs r.bx;rw[vw]at sS
  rcases dH (λb:Bx=>b.id==r.bx) u.bs 0 with⟨h1,_⟩|⟨i,b,hi,_,h3,_⟩
  .have hb:BQ u.bs r.bx= -1:=h1
   rw[hb]at sS;obtain⟨u',er,hR,ht⟩:=t164 u l ⟨id,aR,kind,[a],cG⟩ hz hm hl r [] (by simp);refine⟨.sw,er,.inl ⟨u',dK Kw [(10,[2,2,2]),(19,[6])] [8] (eI _ _ _ _) ⟨⟨by decide,by simp⟩,[I a],rfl,_,Jy,λh=>(by cases h),λ_=>⟨_,sS,λh=>(by cases h),λ_=>?_⟩⟩,λh=>?_⟩⟩
   .exact ht _ ((aj.slot 5 (u:=.ai) (CS []) rfl rfl (pK.UH 2)).trans (aj.ad [1,2,3,5] [18,33,16,48]))
   .obtain⟨qs,ms,h1,h2,h3,h4⟩:=hR h
    exact⟨qs,ms,_,h1,h2,h3,h4⟩
  .have aC:=(aE.1 hi).1
   have hb:BQ u.bs r.bx=i:=by simpa[BQ]using h3
   rw[hb]at sS;have aD:(u.bs.map bj)[((i:Int)).toNat]?=some [I b.id,I b.bc,I b.room,I b.dZ,CS b.ma]:=by rw[aY,aS,hi];rfl
   obtain⟨u',er,hR,ht⟩:=t164 u l ⟨id,aR,kind,[a],cG⟩ hz hm hl r b.ma (hz.cs b (ay hi));have uB:=hz.bs;refine⟨.sw,er,.inl ⟨u',dK Kw [(10,[2,2,2]),(19,[6])] [8] (eI _ _ _ _) ⟨⟨by decide,by simp⟩,[I a],rfl,_,Jy,λh=>(by cases h),λ_=>⟨_,sS,λ_=>?_,λh=>absurd (j0 h) (by omega)⟩⟩,λh=>?_⟩⟩
   .exact⟨by omega,_,aD,ht _ (aj.ad [1,2,3,5] [18,33,16,48])⟩
   .obtain⟨qs,ms,h1,h2,h3,h4⟩:=hR h
    exact⟨qs,ms,_,h1,h2,h3,h4⟩
theorem Z3{α:Type}{l:List α}{i:Nat}{a:α}(h:l[i]?=some a):l.set i a=l:=by
 refine qE λj=>?_
 rw[Kf]
 split
 .rename_i e
  subst e;rw[h];have:=(aE.1 h).1;simp[this]
 .rfl
theorem scC(l:List Ct):jm (l.map eT):=jb (λa u hu=>by simp[eT]at hu;rcases hu with rfl|rfl<;>rfl) l
theorem Z4(l:List Ct)(hl:l.length<=100000):Fn kg 66 [CS l] (.dh true 152 2 l.length (l.map eT)):=by
 have h:=c66 (l.map eT) (by simp;omega) (scC l);rw[gB]at h;exact h
theorem alO(l:List Ct)(hl:l.length<=100000)(i:Nat)(hi:i<l.length):FnM kg 353 152 2 (l.map eT) [I i,I (i+1:Nat)] (.dh true 152 2 (l.eraseIdx i).length ((l.eraseIdx i).map eT)):=by
 refine IN (N:=33) (ks:=[0,1,2,6,7,16]) 6 cC bZ mixed Tryz.func353 rfl (by kernel_rfl) (by kernel_rfl) rfl rfl rfl ?_;rw[gB];refine⟨⟨by omega,by omega,by omega,by omega⟩,λh=>?_,λh=>?_⟩
 .simp at h;omega
 .refine⟨by omega,by omega,⟨by omega,by simp;omega⟩,⟨by omega,by simp;omega,?_⟩,?_⟩
  .show(l.length:Int)<=((List.take _ _++List.take _ _++List.drop _ _:List (List AV)).length:Nat)
   simp;omega
  .refine⟨?_,_,rfl,rfl,?_,rfl,?_⟩
   .show _+_<=(List.take _ _++List.take _ _++List.drop _ _:List (List AV)).length
    simp;omega
   .show _<=(List.take _ (List.take _ _++List.take _ _++List.drop _ _:List (List AV))++List.replicate _ _++List.drop _ _:List (List AV)).length
    simp;omega
   .have e1:((i:Nat):Int).toNat=i:=aY i
    have e2:((i+1:Nat):Int).toNat=i+1:=aY _;rw[e1,e2,aY];have hX:=By (l.map eT) i (by simpa using hi) (List.drop (i+(l.length-(i+1))) (l.map eT));rw[gB]at hX;rw[hX,DM,HJ _ _ _ _ (by rw[gB,N0,if_pos hi];omega)];rw[N0,if_pos hi]
    congr 1
    omega
theorem alP(l:List Ct)(hl:l.length<=100000)(i:Nat)(hi:i<l.length):Fn kg 299 [CS l,I i] (.dh true 152 2 (l.eraseIdx i).length ((l.eraseIdx i).map eT)):=
 aH ac7 ⟨_,Z4 l hl,false,_,au (y:=((i+1:Nat):Int)) (by omega),by simp,_,alO l hl i hi,rfl,_,rfl,rfl,by simp,.inl ⟨rfl,by simp⟩⟩
theorem agP(l:List Bx)(hl:l.length<=100000)(hc:∀b∈l,b.ma.length<=100000):Fn kg 297 [BS l] (.dh false 84 5 l.length (l.map bj)):=by
 have K4:=c65 (l.map bj) (by simp;omega);rw[gB]at K4;refine aH VJ ⟨_,K4,false,?_⟩;refine⟨λn c=>∃(i:Nat)(aa:List (List AV)),i<=l.length/\n=l.length-i/\aa=l.map bj/\c=⟨[(2,.ai),(3,.bn 96 5 l.length),(8,I l.length),(9,I i)],[(96,⟨84,5,.flat,aa,[]⟩)]⟩,⟨_,_,Wk.ad [2,3,8,9] [96],0,_,by omega,rfl,rfl,rfl⟩,?_⟩;rintro n c ⟨i,aa,hi,rfl,cP,rfl⟩;have Ec:aa.length=l.length:=by rw[cP,gB]
 refine⟨λaC=>?_,λaC=>?_⟩
 .simp at aC
  obtain⟨b,hb,_,_⟩:=aq aC;have aD:aa[((i:Int)).toNat]?=some (bj b):=by rw[cP,aY,aS,hb];rfl
  refine⟨by omega,bj b,aD,_,Z4 b.ma (hc b (ay hb)),true,by omega,bj b,aD,?_⟩;refine⟨_,au (y:=((i+1:Nat):Int)) (by omega),?_⟩;exact⟨_,_,Wk.ad [2,3,8,9] [96],by omega,i+1,_,by omega,rfl,(Z3 aD).trans cP,rfl⟩
 .subst cP
  exact⟨rfl,_,rfl,rfl,by simp,.inr ⟨rfl,by simp⟩⟩
theorem alQ(l:List Bx)(hl:l.length<=100000)(hc:∀b∈l,b.ma.length<=100000)(u:Int):∃(bs:List Bx)(c:Ct)(er:Int),Fn kg 234 [BS l,I u] (.bY [if er=0 then BS bs else .ai,.agg (eT c),I er])/\(er=0->bs.length=l.length/\∀b∈bs,b.ma.length<=100000):=by
 have FC:=RG l (by omega) hc;have BD:=Aw.Qx l hl hc u
 by_cases h0:jk l=0
 .rw[h0]at FC
  rcases xq u l 0 with h|⟨j,k,b,c,h,hb,yA,_⟩
  .rw[h]at BD
   refine⟨[],⟨0,0⟩,7,?_,λh=>by cases h⟩;rw[if_neg (by decide)];refine aH Pg ⟨_,FC,λh=>(by cases h),λ_=>⟨_,BD,λ_=>?_,λh=>(by cases h)⟩⟩;exact⟨_,_,rfl,.inl rfl,rfl,rfl,rfl,rfl,trivial⟩
  .rw[h,dp]at BD
   have so:=(aE.1 hb).1;have SH:=(aE.1 yA).1;have hbc:=hc b (ay hb);have aD:(l.map bj)[((j:Int)).toNat]?=some (bj b):=by rw[aY,aS,hb];rfl
   have hrk:(b.ma.map eT)[((k:Int)).toNat]?=some (eT c):=by rw[aY,aS,yA];rfl
   refine⟨l.set j {b with ma:=b.ma.eraseIdx k},c,0,?_,λ_=>⟨by simp,λx hx=>?_⟩⟩
   .rw[if_pos rfl]
    refine lX Pg [] [8] ⟨_,FC,λh=>(by cases h),λ_=>⟨_,BD,λh=>absurd (aP h) (by omega),λ_=>?_⟩⟩;refine⟨_,agP l hl hc,false,by omega,bj b,aD,_,alP b.ma hbc k SH,true,by omega,bj b,aD,?_⟩;refine⟨_,aj.kG _ 384,by omega,bj b,aD,by omega,eT c,hrk,?_⟩;refine⟨_,aj.refl _ _,_,_,rfl,?_,rfl,rfl,rfl,rfl,trivial⟩;have e1:((l.map bj).set j [I b.id,I b.bc,I b.room,I b.dZ,CS (b.ma.eraseIdx k)]).take l.length=(l.set j {b with ma:=b.ma.eraseIdx k}).map bj:=by
     rw[ph (by simp),oC];rfl
    have e2:(l.set j {b with ma:=b.ma.eraseIdx k}).length=l.length:=by simp
    unfold BS;rw[e2,<-e1];exact⟨rfl,rfl⟩
   .rcases mw hx with hx|rfl
    .exact hc x hx
    .have:=XD b.ma k
     show(b.ma.eraseIdx k).length<=_
     omega
 .refine⟨[],⟨0,0⟩,1,?_,λh=>by cases h⟩
  rw[if_neg (by decide)];refine aH Pg ⟨_,FC,λ_=>?_,λh=>absurd h (by simp[h0])⟩;exact⟨_,_,rfl,.inl rfl,rfl,rfl,rfl,rfl,trivial⟩
theorem alR(u:St)(l:List Rw)(e:Vt)(hz:u.sz)(hm:jl u.ms)(hF:zi e 1 0 false (-1)):yj 160 u l e λu'=>∃bs,u'={u with bs:=bs}/\bs.length=u.bs.length/\∀b∈bs,b.ma.length<=100000:=by
 obtain⟨id,aR,kind,eH,cG⟩:=e;obtain⟨n0,jw⟩:=UC (hF.more rfl);simp only at jw;subst jw;obtain⟨a,k,ok,a233,_⟩:=Uu u.bs hz.bs hz.cs n0
 cases ok with
 |false=>
  refine⟨.no,7,.inl ⟨u,dK Ku [] [] (eI _ _ _ _) ⟨⟨by decide,by simp⟩,[I n0],rfl,_,a233,λ_=>?_,λh=>(by cases h)⟩,λh=>by cases h⟩⟩;exact⟨_,aj.ad [2] [18],rfl,rfl,rfl⟩
 |true=>
  have mE:=Qq u hm l ⟨id,aR,kind,[n0],cG⟩ a
  cases h1:((qg u.ms a).1==3)with
  |true=>
   rw[h1]at mE;refine⟨.no,11,.inl ⟨u,dK Ku [] [] (eI _ _ _ _) ⟨⟨by decide,by simp⟩,[I n0],rfl,_,a233,λh=>(by cases h),λ_=>⟨_,mE,λ_=>?_,λh=>(by cases h)⟩⟩,λh=>by cases h⟩⟩;exact⟨_,aj.ad [2] [18],rfl,rfl,rfl⟩
  |false=>
   rw[h1]at mE;obtain⟨bs,c,er,a234,hR⟩:=alQ u.bs hz.bs hz.cs n0
   by_cases h2:er=0
   .subst h2
    rw[if_pos rfl]at a234;refine⟨.no,0,.inl ⟨{u with bs:=bs},dK Ku [(7,[6])] [] (eI _ _ _ _) ⟨⟨by decide,by simp⟩,[I n0],rfl,_,a233,λh=>(by cases h),λ_=>⟨_,mE,λh=>(by cases h),λ_=>?_⟩⟩,λ_=>⟨bs,rfl,(hR rfl).1,(hR rfl).2⟩⟩⟩;refine⟨⟨by decide,by simp⟩,[I n0],rfl,_,a234,?_⟩;refine⟨_,aj.ad [53,54,55] [18],_,I 0,[18],(K6 u l _ bs).as (by rfl) (by rfl) (by rfl),rfl,?_⟩;exact⟨_,aj.ad [2] [18],rfl,rfl,rfl⟩
   .rw[if_neg h2]at a234
    refine⟨.no,er,.inl ⟨u,dK Ku [(7,[6])] [] (eI _ _ _ _) ⟨⟨by decide,by simp⟩,[I n0],rfl,_,a233,λh=>(by cases h),λ_=>⟨_,mE,λh=>(by cases h),λ_=>?_⟩⟩,λh=>absurd h h2⟩⟩;refine⟨⟨by decide,by simp⟩,[I n0],rfl,_,a234,?_⟩;refine⟨_,aj.ad [53,54,55] [18],_,I er,[18],(WQ u l _ _ h2).as (by rfl) (by rfl) (by rfl),rfl,?_⟩;exact⟨_,aj.ad [2] [18],rfl,rfl,rfl⟩
end Go.an.ax.G
