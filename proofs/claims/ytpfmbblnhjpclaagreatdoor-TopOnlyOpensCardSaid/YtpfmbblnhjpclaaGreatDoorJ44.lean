import Derived.Test.YtpfmbblnhjpclaaGreatDoorJ43
set_option linter.unusedVariables false
set_option linter.unusedSimpArgs false
set_option maxRecDepth 20000
namespace Go.an.ax.G
open Go Go.an Go.an.Day Go.Proofs Go.RowKit
theorem Ls{ps ps':List Pe.fT}(h:∀n,known ps n=true->known ps' n=true):∀(l:List Sj)(cf:Option Sj),xk ps cf l=0->xk ps' cf l=0
 |[],_,_=>rfl
 |s::r,cf,hs=>by
  unfold xk at hs⊢
  rcases cf with _|p
  all_goals
   dsimp only at hs⊢
   split at hs
   .cases hs
   rename_i h1;rw[if_neg h1]
   split at hs
   .cases hs
   rename_i h2;rw[if_neg h2]
   split at hs
   .cases hs
   rename_i h3;rw[if_neg h3]
   by_cases h4:s.ps.all (known ps)=false
   .rw[if_pos h4]at hs;cases hs
   rw[if_neg h4]at hs;have h4:s.ps.all (known ps)=true:=by simpa using h4
   have h5:s.ps.all (known ps')=true:=iT.2 λx hx=>h x (iT.1 h4 x hx)
   rw[if_neg (by rw[h5];simp)];exact Ls h r (some s) hs
theorem DS(ps:List Pe.fT)(n:Int):known ps n=(ps.map (·.id)).any (· ==n):=by unfold known;rw[List.any_map];rfl
theorem kI(p:Po):sL p=0↔jT p.cl=0/\Pe.bg p.ps=0/\Ag.bg p.ag=0/\jy p.pm=0/\¬(p.yr<0∨200<p.yr)/\Ue p=0:=by
 unfold sL
 constructor
 .intro h
  by_cases h1:jT p.cl≠0
  .rw[if_pos h1]at h;exact absurd h h1
  rw[if_neg h1]at h
  by_cases h2:Pe.bg p.ps≠0
  .rw[if_pos h2]at h;exact absurd h h2
  rw[if_neg h2]at h
  by_cases h3:Ag.bg p.ag≠0
  .rw[if_pos h3]at h;exact absurd h h3
  rw[if_neg h3]at h
  by_cases h4:jy p.pm≠0
  .rw[if_pos h4]at h;exact absurd h h4
  rw[if_neg h4]at h
  by_cases h5:p.yr<0∨200<p.yr
  .rw[if_pos h5]at h;cases h
  rw[if_neg h5]at h;exact⟨LU.1 h1,LU.1 h2,LU.1 h3,LU.1 h4,h5,h⟩
 .rintro⟨h1,h2,h3,h4,h5,h6⟩
  rw[if_neg (by simp[h1]),if_neg (by simp[h2]),if_neg (by simp[h3]),if_neg (by simp[h4]),if_neg h5];exact h6
theorem Rj{p:Po}{ps:List Pe.fT}(h:∀n,known p.ps n=true->known ps n=true)(hs:Ue p=0):Ue {p with ps:=ps}=0:=by
 unfold Ue at hs⊢
 by_cases h1:256<p.sj.length
 .rw[if_pos h1]at hs;cases hs
 .rw[if_neg h1]at hs
  rw[if_neg (by exact h1)];exact Ls h p.sj none hs
structure St.sm(u:St)(k:Nat):Prop where
 sj:u.po.sj.length<=k
 js:∀s∈u.po.sj,s.ps.length<=1000
 cl:u.po.cl.length<=k
 ps:u.po.ps.length<=k
 nm:∀x∈u.po.ps,x.sz
 ag:u.po.ag.length<=k
 pm:u.po.pm.length<=k
 bs:u.bs.length<=k
 cs:∀b∈u.bs,b.ma.length<=100000
 ls:u.ls.length<=k
 ms:u.ms.length<=k
 qs:u.qs.length<=256
 ks:u.ks.length<=k
 bt:u.bt.length<=k
 tu:∀b∈u.bt,b.us.length<=1000/\b.gE.length<=1000
 lk:u.lk.length<=1024
 sh:u.sh.length<=1024
theorem St.sm.size{u:St}{k:Nat}(h:u.sm k)(hk:k<=1000):u.sz:=
 ⟨⟨by have:=h.sj;omega,h.js,by have:=h.cl;omega,by have:=h.ps;omega,h.nm,by have:=h.ag;omega,by have:=h.pm;omega⟩,by have:=h.bs;omega,h.cs,by have:=h.ls;omega,by have:=h.ms;omega,by have:=h.qs;omega,by have:=h.ks;omega,by have:=h.bt;omega,λb hb=>by have:=h.tu b hb;omega,by have:=h.lk;omega,by have:=h.sh;omega⟩
theorem St.sm.mono{u:St}{k k':Nat}(h:u.sm k)(hk:k<=k'):u.sm k':=
 ⟨du h.sj hk,h.js,du h.cl hk,du h.ps hk,h.nm,du h.ag hk,du h.pm hk,du h.bs hk,h.cs,du h.ls hk,du h.ms hk,h.qs,du h.ks hk,du h.bt hk,h.tu,h.lk,h.sh⟩
structure Nc(f:FuncId)(p p':Po):Prop where
 ok:sL p'=0
 ahh:f=153->∃id b d,(Pe.ez p.ps id b d).2=0/\p'={p with ps:=(Pe.ez p.ps id b d).1}
 agree:f=154->∃r,p'={p with ag:=p.ag++[r]}
 ahi:f=155->∃r,p'={p with pm:=p.pm++[r]}
structure HR(k:Nat)(u:St)(f:FuncId)(u':St):Prop where
 sm:u'.sm (k+1)
 po:Nc f u.po u'.po
theorem yj.mono{f:FuncId}{u:St}{l:List Rw}{e:Vt}{R R':St->Prop}(h:yj f u l e R)(hr:∀u',R u'->R' u'):yj f u l e R':=by
 obtain⟨o,er,⟨u',h1,h2⟩|h⟩:=h
 .exact⟨o,er,.inl ⟨u',h1,λh=>hr u' (h2 h)⟩⟩
 .exact⟨o,er,.inr h⟩
theorem Nc.same{f:FuncId}{p:Po}(h:sL p=0)(hf:f≠153/\f≠154/\f≠155):Nc f p p:=⟨h,λh=>absurd h hf.1,λh=>absurd h hf.2.1,λh=>absurd h hf.2.2⟩
theorem Nc.of{f:FuncId}{p p':Po}(h:sL p'=0)(hf:f≠153/\f≠154/\f≠155):Nc f p p':=⟨h,λh=>absurd h hf.1,λh=>absurd h hf.2.1,λh=>absurd h hf.2.2⟩
theorem Nd(ps:List Pe.fT)(r:Pe.fT)(n:Int)(h:known ps n=true):known (ps++[r]) n=true:=by
 rw[DS]at h⊢;rw[qB,List.any_append,h];rfl
theorem HW{ps:List Pe.fT}{id:Int}{b d:l5}(h:(Pe.ez ps id b d).2=0)(n:Int)(hn:known ps n=true):known (Pe.ez ps id b d).1 n=true:=by
 rw[DS]at hn⊢;rw[Pe.Na h];exact hn
set_option maxHeartbeats 1000000 in
theorem hnd{k:Nat}{u:St}(hk:k<=900)(hu:u.sm k)(hr:Rt u)(l:List Rw)(hl:l.length<=100000)(e:Vt)(hn:e.eH.length<=1000)(hs:∀s∈e.cG,s.length<=9223372036854775807)
  {x y:Int}{m:Bool}{fl:Int}{f:FuncId}(hg:mB (I e.kind) qf=some (fm x y m fl f))(hF:zi e x y m fl):yj f u l e (HR k u f):=by
 have hz:=hu.size (by omega);have hp:sL u.po=0:=hr.pt.es _ (by simp);have hb:jk u.bs=0:=hr.pt.es _ (by simp);have hm:=hr.ms;have bo:=Q0 hb;obtain⟨p1,p2,p3,p4,p5,p6⟩:=(kI _).1 hp;have⟨s1,s2,s3,s4,s5,s6,s7,s8,s9,s10,s11,HX,s13,s14,DT,DU,Fu⟩:=hu;have same:∀f,f≠153/\f≠154/\f≠155->Nc f u.po u.po:=λf h=>Nc.same hp h
 rcases DI e.kind with h0|⟨r,h0,x',y',m',fl',f',Gf,he⟩
 .rw[h0]at hg;cases hg
 rw[h0]at hg;have hg:=Wc hg;rw[he]at hg;simp only[fm,List.cons.injEq,AV.int.injEq,AV.bool.injEq,AV.func.injEq,and_true]at hg;obtain⟨⟨-,rfl⟩,⟨-,rfl⟩,rfl,⟨-,rfl⟩,rfl⟩:=hg;simp only[bK,Prod.mk.injEq,j5,or_false]at Gf
 rcases Gf with h|h|h|h|h|h|h|h|h|h|h|h|h|h|h|h|h|h|h|h
 all_goals obtain⟨-,rfl,rfl,rfl,rfl,rfl⟩:=h
 .refine(alv u l e hz hF).mono ?_
  rintro _ ⟨cl,rfl,h1,h2⟩;exact⟨⟨by simp;omega,s2,by simp;omega,by simp;omega,s5,by simp;omega,by simp;omega,by simp;omega,s9,by simp;omega,by simp;omega,HX,by simp;omega,by simp;omega,DT,DU,Fu⟩,Nc.of ((kI _).2 ⟨h1,p2,p3,p4,p5,p6⟩) (by decide)⟩
 .refine(alu u l e hz hF).mono ?_
  rintro _ ⟨cl,rfl,h1,h2⟩;exact⟨⟨by simp;omega,s2,by simp;omega,by simp;omega,s5,by simp;omega,by simp;omega,by simp;omega,s9,by simp;omega,by simp;omega,HX,by simp;omega,by simp;omega,DT,DU,Fu⟩,Nc.of ((kI _).2 ⟨h1,p2,p3,p4,p5,p6⟩) (by decide)⟩
 .refine(alx u l e hz hs hF).mono ?_
  rintro _ ⟨r,rfl,h1,h2⟩;exact⟨⟨by simp;omega,s2,by simp;omega,by simp;omega,h2,by simp;omega,by simp;omega,by simp;omega,s9,by simp;omega,by simp;omega,HX,by simp;omega,by simp;omega,DT,DU,Fu⟩,Nc.of ((kI _).2 ⟨p1,h1,p3,p4,p5,Rj (Nd _ _) p6⟩) (by decide)⟩
 .refine(aly u l e hz hF).mono ?_
  rintro _ ⟨id,b,d,h1,rfl⟩;obtain⟨i,a,ha,_,hc,Ip,e1⟩:=Pe.wm h1;have yA:Pe.bg (Pe.ez u.po.ps id b d).1=0:=by rw[e1];exact Pe.DQ ha hc Ip
  have Wz:=Pe.M9 u.po.ps id b d;exact⟨⟨by simp;omega,s2,by simp;omega,by simp;omega,Pe.Rh s5 h1,by simp;omega,by simp;omega,by simp;omega,s9,by simp;omega,by simp;omega,HX,by simp;omega,by simp;omega,DT,DU,Fu⟩,⟨(kI _).2 ⟨p1,yA,p3,p4,p5,Rj (HW h1) p6⟩,λ_=>⟨id,b,d,h1,rfl⟩,λh=>(by cases h),λh=>(by cases h)⟩⟩
 .refine(alw u l e hz hF).mono ?_
  rintro _ ⟨r,rfl,h1⟩;exact⟨⟨by simp;omega,s2,by simp;omega,by simp;omega,s5,by simp;omega,by simp;omega,by simp;omega,s9,by simp;omega,by simp;omega,HX,by simp;omega,by simp;omega,DT,DU,Fu⟩,⟨(kI _).2 ⟨p1,p2,h1,p4,p5,p6⟩,λh=>(by cases h),λ_=>⟨r,rfl⟩,λh=>(by cases h)⟩⟩
 .refine(alB u l e hz hF).mono ?_
  rintro _ ⟨r,rfl,h1⟩;exact⟨⟨by simp;omega,s2,by simp;omega,by simp;omega,s5,by simp;omega,by simp;omega,by simp;omega,s9,by simp;omega,by simp;omega,HX,by simp;omega,by simp;omega,DT,DU,Fu⟩,⟨(kI _).2 ⟨p1,p2,p3,h1,p5,p6⟩,λh=>(by cases h),λh=>(by cases h),λ_=>⟨r,rfl⟩⟩⟩
 .refine(alH u l e hz hF).mono ?_
  rintro _ ⟨pm,rfl,h1,h2⟩;exact⟨⟨by simp;omega,s2,by simp;omega,by simp;omega,s5,by simp;omega,by simp;omega,by simp;omega,s9,by simp;omega,by simp;omega,HX,by simp;omega,by simp;omega,DT,DU,Fu⟩,Nc.of ((kI _).2 ⟨p1,p2,p3,h1,p5,p6⟩) (by decide)⟩
 .refine(al3 u l e hz (by omega) hn hF).mono ?_
  rintro _ ⟨sj,rfl,h1,h2,h3⟩;exact⟨⟨by simp;omega,h3,by simp;omega,by simp;omega,s5,by simp;omega,by simp;omega,by simp;omega,s9,by simp;omega,by simp;omega,HX,by simp;omega,by simp;omega,DT,DU,Fu⟩,Nc.of h1 (by decide)⟩
 .refine(ZD u l e hz hF).mono ?_
  rintro _ ⟨r,h1,rfl⟩;exact⟨⟨by simp;omega,s2,by simp;omega,by simp;omega,s5,by simp;omega,by simp;omega,by simp;omega,λb hb=>(by rcases cE.1 hb with h|h;exact s9 b h;rw[iw.1 h,h1];simp),by simp;omega,by simp;omega,HX,by simp;omega,by simp;omega,DT,DU,Fu⟩,same _ (by decide)⟩
 .refine(ZF u l e hz hm hF).mono ?_
  rintro _ ⟨bs,rfl,h1,h2⟩;exact⟨⟨by simp;omega,s2,by simp;omega,by simp;omega,s5,by simp;omega,by simp;omega,by simp;omega,h2,by simp;omega,by simp;omega,HX,by simp;omega,by simp;omega,DT,DU,Fu⟩,same _ (by decide)⟩
 .refine(alR u l e hz hm hF).mono ?_
  rintro _ ⟨bs,rfl,h1,h2⟩;exact⟨⟨by simp;omega,s2,by simp;omega,by simp;omega,s5,by simp;omega,by simp;omega,by simp;omega,h2,by simp;omega,by simp;omega,HX,by simp;omega,by simp;omega,DT,DU,Fu⟩,same _ (by decide)⟩
 .refine(ZE u l e hz hF).mono ?_
  rintro _ ⟨r,rfl⟩;exact⟨⟨by simp;omega,s2,by simp;omega,by simp;omega,s5,by simp;omega,by simp;omega,by simp;omega,s9,by simp;omega,by simp;omega,HX,by simp;omega,by simp;omega,DT,DU,Fu⟩,same _ (by decide)⟩
 .refine(Zy u l e hz hm (by omega) bo hF).mono ?_
  rintro _ ⟨r,rfl⟩;exact⟨⟨by simp;omega,s2,by simp;omega,by simp;omega,s5,by simp;omega,by simp;omega,by simp;omega,s9,by simp;omega,by simp;omega,HX,by simp;omega,by simp;omega,DT,DU,Fu⟩,same _ (by decide)⟩
 .refine(ZL u l e hz hl hF).mono ?_
  rintro _ ⟨qs,rfl,h1⟩;exact⟨⟨by simp;omega,s2,by simp;omega,by simp;omega,s5,by simp;omega,by simp;omega,by simp;omega,s9,by simp;omega,by simp;omega,h1,by simp;omega,by simp;omega,DT,DU,Fu⟩,same _ (by decide)⟩
 .refine(ZO u l e hz hm hl hF).mono ?_
  rintro _ ⟨qs,ms,sh,rfl,h1,h2,h3⟩;exact⟨⟨by simp;omega,s2,by simp;omega,by simp;omega,s5,by simp;omega,by simp;omega,by simp;omega,s9,by simp;omega,by simp;omega,h1,by simp;omega,by simp;omega,DT,DU,h3⟩,same _ (by decide)⟩
 .refine(alC u l e hz hm hF).mono ?_
  rintro _ ⟨qs,ms,rfl,h1,h2⟩;exact⟨⟨by simp;omega,s2,by simp;omega,by simp;omega,s5,by simp;omega,by simp;omega,by simp;omega,s9,by simp;omega,by simp;omega,h1,by simp;omega,by simp;omega,DT,DU,Fu⟩,same _ (by decide)⟩
 .refine(ZC u l e hz (by omega) hF).mono ?_
  rintro _ ⟨b,rfl⟩;exact⟨⟨by simp;omega,s2,by simp;omega,by simp;omega,s5,by simp;omega,by simp;omega,by simp;omega,s9,by simp;omega,by simp;omega,HX,by simp;omega,by simp;omega,DT,DU,Fu⟩,same _ (by decide)⟩
 .refine(amp u l e hz hn hF).mono ?_
  rintro _ ⟨bt,rfl,h1,h2⟩;exact⟨⟨by simp;omega,s2,by simp;omega,by simp;omega,s5,by simp;omega,by simp;omega,by simp;omega,s9,by simp;omega,by simp;omega,HX,by simp;omega,by simp;omega,h2 1000 DT hn,DU,Fu⟩,same _ (by decide)⟩
 .refine(ams u l e hz hF).mono ?_
  rintro _ ⟨bt,rfl,h1,h2⟩;exact⟨⟨by simp;omega,s2,by simp;omega,by simp;omega,s5,by simp;omega,by simp;omega,by simp;omega,s9,by simp;omega,by simp;omega,HX,by simp;omega,by simp;omega,h2 1000 DT hn,DU,Fu⟩,same _ (by decide)⟩
 .refine(amv u l e hz hn hF).mono ?_
  rintro _ ⟨bt,lk,rfl,⟨h1,h2⟩,h3⟩;exact⟨⟨by simp;omega,s2,by simp;omega,by simp;omega,s5,by simp;omega,by simp;omega,by simp;omega,s9,by simp;omega,by simp;omega,HX,by simp;omega,by simp;omega,h2 1000 DT hn,(by rcases h3 with rfl|h3;exact DU;exact h3),Fu⟩,same _ (by decide)⟩
structure Rk(k:Nat)(u:St)(l:List Rw)(e:Vt)(u':St):Prop where
 rt:Rt u
 aa:jr l=0
 lo:u.ch<=e.aR
 hi:e.aR<=1048575
 sm:u'.sm (k+1)
 ch:u'.ch=e.aR
 po:∃f,(e.kind=43->f=153)/\(e.kind=44->f=154)/\(e.kind=45->f=155)/\Nc f u.po u'.po
theorem amx{k:Nat}{u:St}(hk:k<=900)(hu:u.sm k)(hr:Rt u)(l:List Rw)(hl:l.length<=100000)(e:Vt)(hn:e.eH.length<=1000)(ht:e.cG.length<=1000)(hs:∀s∈e.cG,s.length<=9223372036854775807):
  ∃u' er,Fn kg 36 [.agg (aF u),WS l,.agg (fy e)] (rK u' e er)/\(er=0->jr l=0->Rk k u l e {u' with ch:=e.aR}):=by
 obtain⟨u',er,h1,h2⟩:=c36 u (hu.size (by omega)) l e (by omega) (by omega) (λf=>HR k u f) λx y m fl f hg hF h3 h4=>hnd hk hu hr l hl e hn hs hg hF
 refine⟨u',er,h1,λh h0=>?_⟩;obtain⟨h3,h4,x,y,m,fl,f,hg,hF,hR⟩:=h2 h;refine⟨hr,h0,h3,h4,⟨hR.sm.sj,hR.sm.js,hR.sm.cl,hR.sm.ps,hR.sm.nm,hR.sm.ag,hR.sm.pm,hR.sm.bs,hR.sm.cs,hR.sm.ls,hR.sm.ms,hR.sm.qs,hR.sm.ks,hR.sm.bt,hR.sm.tu,hR.sm.lk,hR.sm.sh⟩,rfl,f,?_,?_,?_,hR.po⟩
 all_goals
  intro hk;rw[hk]at hg;have hg:some _=some (fm x y m fl f):=hg;simp only[fm,Option.some.injEq,List.cons.injEq,AV.func.injEq]at hg;exact hg.2.2.2.2.1.1.symm
theorem c24{k:Nat}{u:St}(hk:k<=900)(hu:u.sm k)(l:List Rw)(hl:l.length<=100000)(e:Vt)(hn:e.eH.length<=1000)(ht:e.cG.length<=1000)(hs:∀s∈e.cG,s.length<=9223372036854775807):
  ∃u' er,Fn kg 24 [.agg (aF u),WS l,.agg (fy e)] (.bY [.agg (if er=0 then aF u' else zU),I er])/\(er=0->Rk k u l e u'):=by
 have hz:=hu.size (by omega);obtain⟨r,a34,hr⟩:=c34 u hz (by have:=hu.ks;omega) λb hb=>by
  obtain⟨er,h,_⟩:=Q9 b (hz.tu b hb).1 (hz.tu b hb).2;exact⟨er,h⟩
 have a9:=c9r l hl
 cases r with
 |false=>
  refine⟨u,1,?_,λh=>by cases h⟩;refine aH Ta ⟨[(3,true)],_,a34,rfl,λ_=>?_,λh=>by cases h⟩;exact⟨_,_,rfl,⟨rfl,rfl⟩,rfl,rfl,trivial⟩
 |true=>
  have hr:=hr rfl
  by_cases h9:jr l=0
  .obtain⟨u',er,a36,h36⟩:=amx hk hu hr l hl e hn ht hs
   refine⟨{u' with ch:=e.aR},er,?_,λh=>h36 h h9⟩;rw[h9]at a9
   by_cases he:er=0
   .subst he
    rw[rK,if_pos rfl]at a36;rw[if_pos rfl];exact aH Ta ⟨[(3,false)],_,a34,rfl,_,a9,λh=>(by cases h),λ_=>⟨_,a36,_,_,rfl,⟨rfl,rfl⟩,rfl,rfl,trivial⟩⟩
   .rw[rK,if_neg he]at a36
    rw[if_neg he];exact aH Ta ⟨[(3,false)],_,a34,rfl,_,a9,λh=>(by cases h),λ_=>⟨_,a36,_,_,rfl,⟨rfl,rfl⟩,rfl,rfl,trivial⟩⟩
  .refine⟨u,1,?_,λh=>by cases h⟩
   refine aH Ta ⟨[(3,false)],_,a34,rfl,_,a9,λ_=>?_,λh=>absurd h (by simp[h9])⟩;exact⟨_,_,rfl,⟨rfl,rfl⟩,rfl,rfl,trivial⟩
abbrev zT:List AV:=[I 0,I 0,I 0,I 0,I 0,I 0,.ai,.ai]
abbrev K26(id aR st jR jd bX:Int)(n m:Nat)(us gE:List (List AV)):aM:=⟨[(1,.af 16 0),(2,.af 32 0)],[(16,⟨97,8,.any,[[I id,I aR,I st,I jR,I jd,I bX,.bn 96 1 n,.bn 160 1 m]],[]⟩),(32,⟨97,8,.any,[zT],[]⟩),(96,⟨3,1,.pure,us,[]⟩),(160,⟨3,1,.pure,gE,[]⟩)]⟩
abbrev amy(id aR st jR jd bX:Int)(us gE:List Int):aM:=⟨[(1,.af 16 0),(2,.af 32 0)],[(16,⟨97,8,.any,[aX ⟨id,aR,st,jR,jd,bX,us,gE⟩],[]⟩),(32,⟨97,8,.any,[zT],[]⟩)]⟩
theorem amz(id aR st jR jd bX:Int)(us gE:List Int):lx [96,160] (K26 id aR st jR jd bX us.length gE.length (us.map λn=>[I n]) (gE.map λn=>[I n]))=amy id aR st jR jd bX us gE:=by
 have e:∀l:List Int,(l.map λn=>[I n]).take l.length=l.map λn=>[I n]:=λl=>ph (by simp)
 show(⟨[(1,.af 16 0),(2,.af 32 0)],[(16,⟨97,8,.any,[[I id,I aR,I st,I jR,I jd,I bX,.aL 1 us.length ((us.map λn=>[I n]).take us.length),.aL 1 gE.length ((gE.map λn=>[I n]).take gE.length)]],[]⟩),(32,⟨97,8,.any,[zT],[]⟩)]⟩:aM)=_
 rw[e,e]
 rfl
theorem c26(b:Bt)(h1:b.us.length<=100000)(h2:b.gE.length<=100000):Fn kg 26 [.agg (aX b)] (.agg (aX b)):=by
 obtain⟨id,aR,st,jR,jd,bX,us,gE⟩:=b;simp only at h1 h2;refine lX aiz [] [2] ?_;refine⟨by simp;omega,Mn us,by simp;omega,Mn gE,?_⟩;refine⟨_,(aj.ad [1,2] [16,32,96,160]).trans ((aj.of (c':=K26 id aR st jR jd bX us.length gE.length (us.map λn=>[I n]) (gE.map λn=>[I n])) ?_).trans ((aj.lx [96,160] _).trans (aj.of (amz id aR st jR jd bX us gE)))),_,aj.refl _ _,rfl,rfl,rfl⟩
 show K26 id aR st jR jd bX (0+us.length) (0+gE.length) _ _=_
 rw[dp,dp]
 rfl
abbrev K25(n:Nat)(i:Int)(R:List (List AV)):aM:=⟨[(3,.bn 80 5 n),(9,I n),(10,I i)],[(80,⟨84,5,.flat,R,[]⟩)]⟩
abbrev ahj(n:Nat)(i:Nat)(R:List (List AV))(m:Nat)(C:List (List AV)):aM:=⟨[(23,.dP 80 5 i 4),(21,.bn 240 2 m),(3,.bn 80 5 n),(9,I n),(10,I i)],[(80,⟨84,5,.flat,R,[]⟩),(240,⟨152,2,.pure,C,[]⟩)]⟩
abbrev ahk(n:Nat)(i:Nat)(R:List (List AV))(m:Nat)(C:List (List AV)):aM:=⟨[(23,.dP 80 5 i 4),(21,.aL 2 m C),(3,.bn 80 5 n),(9,I n),(10,I i)],[(80,⟨84,5,.flat,R,[]⟩)]⟩
abbrev amA(n:Nat)(i:Nat)(R:List (List AV))(C:List Ct):aM:=ahk n i R C.length (C.map eT)
theorem c25(l:List Bx)(hl:l.length<=100000)(hc:∀b∈l,b.ma.length<=100000):Fn kg 25 [BS l] (.dh false 84 5 l.length (l.map bj)):=by
 refine lX aiy [(1,[1,1]),(5,[11,11])] [] ⟨rfl,_,aj.flat 80 ⟨84,5,.pure,[],[]⟩ rfl rfl,by simp;omega,?_⟩;refine⟨λn c=>∃i:Nat,i<=l.length/\n=l.length-i/\c=K25 l.length i (l.map bj),⟨_,_,(aj.ad [3,9,10] [80]).trans (aj.of (c':=K25 (0+l.length) 0 (l.map bj)) rfl),0,by omega,rfl,by rw[dp];rfl⟩,?_⟩;rintro n c ⟨i,hi,rfl,rfl⟩;refine⟨λaC=>?_,λaC=>?_⟩
 .simp at aC
  obtain⟨b,hb,_,_⟩:=aq aC;have aD:(l.map bj)[i]?=some (bj b):=by rw[aS,hb];rfl
  have mR:=hc b (ay hb);refine⟨rfl,⟨by omega,by omega⟩,bj b,aD,by simp;omega,sc2 b.ma,⟨by omega,by omega⟩,?_⟩;refine⟨amA l.length i (l.map bj) b.ma,(aj.ad [23,21,3,9,10] [80,240]).trans ((aj.of (c':=ahj l.length i (l.map bj) b.ma.length (b.ma.map eT)) ?_).trans ((aj.lx [240] _).trans (aj.of ?_))),?_⟩
  .show ahj l.length i (l.map bj) (0+b.ma.length) (b.ma.map eT)=_
   rw[dp]
  .show ahk l.length i (l.map bj) b.ma.length ((b.ma.map eT).take b.ma.length)=_
   rw[ph (by simp)]
  refine⟨bj b,aD,?_⟩;refine⟨_,ah,?_⟩;refine⟨_,_,aj.ad [3,9,10] [80],by omega,i+1,by omega,rfl,?_⟩;exact setRow (C:=K25 l.length ((i+1:Nat):Int)) hb rfl
 .exact⟨_,aj.refl _ _,rfl,_,rfl,rfl,by simp,.inr ⟨rfl,by simp⟩⟩
abbrev ra7(u:St)(n:Nat):List AV:=[.bn 128 5 n,LS u.po.cl,Pe.A u.po.ps,I u.po.yr,Ag.A u.po.ag,PS u.po.pm,BS u.bs,SS u.ls,MS u.ms,QS u.qs,I u.bV,KS u.ks,TS u.bt,yi u.lk,uw u.sh,I u.ch]
abbrev KA7(u:St)(n:Nat)(i:Int)(R:List (List AV)):aM:=⟨[(1,.af 16 0),(2,.af 32 0),(3,.af 16 0),(20,I n),(21,I i)],[(16,⟨50,16,.any,[ra7 u n],[]⟩),(32,⟨50,16,.any,[zU],[]⟩),(128,⟨94,5,.flat,R,[]⟩)]⟩
abbrev K7b(u:St)(i:Nat)(R:List (List AV))(m:Nat)(C:List (List AV)):aM:=⟨[(40,.dP 128 5 i 4),(38,.bn 608 1 m),(1,.af 16 0),(2,.af 32 0),(3,.af 16 0),(20,I u.po.sj.length),(21,I i)],[(16,⟨50,16,.any,[ra7 u u.po.sj.length],[]⟩),(32,⟨50,16,.any,[zU],[]⟩),(128,⟨94,5,.flat,R,[]⟩),(608,⟨3,1,.pure,C,[]⟩)]⟩
abbrev K7d(u:St)(i:Nat)(R:List (List AV))(m:Nat)(C:List (List AV)):aM:=⟨[(40,.dP 128 5 i 4),(38,.aL 1 m C),(1,.af 16 0),(2,.af 32 0),(3,.af 16 0),(20,I u.po.sj.length),(21,I i)],[(16,⟨50,16,.any,[ra7 u u.po.sj.length],[]⟩),(32,⟨50,16,.any,[zU],[]⟩),(128,⟨94,5,.flat,R,[]⟩)]⟩
abbrev bl7:List Nat:=[16,32,128,784,880,1072,1168,1280,1344,1440,1504,1600,1664]
abbrev rb7(u:St)(a b c d e f g h k:Nat)(lk sh:AV):List AV:=[.bn 128 5 u.po.sj.length,.bn 784 6 a,.bn 880 6 b,I u.po.yr,.bn 1072 6 c,.bn 1168 6 d,.bn 1280 5 u.bs.length,.bn 1344 4 e,.bn 1440 6 f,.bn 1504 7 g,I u.bV,.bn 1600 4 h,.bn 1664 8 k,lk,sh,I u.ch]
abbrev KB7(u:St)(a b c d e f g h k:Nat)(i:Int)(R:List (List AV)):aM:=⟨[(1,.af 16 0),(2,.af 32 0),(109,I k),(110,I i)],[(16,⟨50,16,.any,[rb7 u a b c d e f g h k (yi u.lk) (uw u.sh)],[]⟩),(32,⟨50,16,.any,[zU],[]⟩),(128,⟨94,5,.flat,u.po.sj.map db,[]⟩),(784,⟨139,6,.pure,u.po.cl.map eW,[]⟩),(880,⟨142,6,.pure,u.po.ps.map Pe.gA,[]⟩),(1072,⟨145,6,.pure,u.po.ag.map Ag.jc,[]⟩),(1168,⟨148,6,.pure,u.po.pm.map eA,[]⟩),(1280,⟨84,5,.flat,u.bs.map bj,[]⟩),(1344,⟨81,4,.pure,u.ls.map eN,[]⟩),(1440,⟨156,6,.pure,u.ms.map gY,[]⟩),(1504,⟨159,7,.pure,u.qs.map cd,[]⟩),(1600,⟨162,4,.pure,u.ks.map ib,[]⟩),(1664,⟨97,8,.flat,R,[]⟩)]⟩
abbrev KC7(u:St)(n m:Nat):aM:=⟨[(1,.af 16 0),(2,.af 32 0)],[(16,⟨50,16,.any,[rb7 u u.po.cl.length u.po.ps.length u.po.ag.length u.po.pm.length u.ls.length u.ms.length u.qs.length u.ks.length u.bt.length (.bn 2032 2 n) (.bn 2096 3 m)],[]⟩),(32,⟨50,16,.any,[zU],[]⟩),(128,⟨94,5,.flat,u.po.sj.map db,[]⟩),(784,⟨139,6,.pure,u.po.cl.map eW,[]⟩),(880,⟨142,6,.pure,u.po.ps.map Pe.gA,[]⟩),(1072,⟨145,6,.pure,u.po.ag.map Ag.jc,[]⟩),(1168,⟨148,6,.pure,u.po.pm.map eA,[]⟩),(1280,⟨84,5,.flat,u.bs.map bj,[]⟩),(1344,⟨81,4,.pure,u.ls.map eN,[]⟩),(1440,⟨156,6,.pure,u.ms.map gY,[]⟩),(1504,⟨159,7,.pure,u.qs.map cd,[]⟩),(1600,⟨162,4,.pure,u.ks.map ib,[]⟩),(1664,⟨97,8,.flat,u.bt.map aX,[]⟩),(2032,⟨166,2,.pure,u.lk.map cO,[]⟩),(2096,⟨169,3,.pure,u.sh.map fW,[]⟩)]⟩
abbrev KD7(u:St):aM:=⟨[(1,.af 16 0),(2,.af 32 0)],[(16,⟨50,16,.any,[aF u],[]⟩),(32,⟨50,16,.any,[zU],[]⟩)]⟩
theorem rw7(u:St): [.aL 5 u.po.sj.length ((u.po.sj.map db).take u.po.sj.length),.aL 6 u.po.cl.length ((u.po.cl.map eW).take u.po.cl.length),.aL 6 u.po.ps.length ((u.po.ps.map Pe.gA).take u.po.ps.length),I u.po.yr,.aL 6 u.po.ag.length ((u.po.ag.map Ag.jc).take u.po.ag.length),.aL 6 u.po.pm.length ((u.po.pm.map eA).take u.po.pm.length),.aL 5 u.bs.length ((u.bs.map bj).take u.bs.length),.aL 4 u.ls.length ((u.ls.map eN).take u.ls.length),.aL 6 u.ms.length ((u.ms.map gY).take u.ms.length),.aL 7 u.qs.length ((u.qs.map cd).take u.qs.length),I u.bV,.aL 4 u.ks.length ((u.ks.map ib).take u.ks.length),.aL 8 u.bt.length ((u.bt.map aX).take u.bt.length),.aL 2 u.lk.length ((u.lk.map cO).take u.lk.length),.aL 3 u.sh.length ((u.sh.map fW).take u.sh.length),I u.ch]=aF u:=by
 simp[aF,ph]
theorem fz7(u:St):lx [128,784,880,1072,1168,1280,1344,1440,1504,1600,1664,2032,2096] (KC7 u u.lk.length u.sh.length)=KD7 u:=by
 unfold KD7;rw[<-rw7 u]
 kernel_rfl
set_option maxHeartbeats 4000000 in
theorem c7(u:St)(hz:u.sz):Fn kg 7 [.agg (aF u)] (.agg (aF u)):=by
 refine lX qq7 [(2,[2,2]),(6,[17,17])] [19] ?_;refine⟨rfl,_,aj.flat 128 ⟨94,5,.pure,[],[]⟩ rfl rfl,by have:=hz.po.sj;simp;omega,?_⟩;refine⟨λn c=>∃i:Nat,i<=u.po.sj.length/\n=u.po.sj.length-i/\c=KA7 u u.po.sj.length i (u.po.sj.map db),⟨_,_,(aj.ad [1,2,3,20,21] [16,32,128]).trans (aj.of (c':=KA7 u (0+u.po.sj.length) 0 (u.po.sj.map db)) rfl),0,by omega,rfl,by rw[dp];rfl⟩,?_⟩;rintro n c ⟨i,hi,rfl,rfl⟩;refine⟨λaC=>?_,λaC=>?_⟩
 .simp at aC
  obtain⟨s,hs,_,_⟩:=aq aC;have pW:=hz.po.sj;have Eg:=hz.po.js s (ay hs);have aD:(u.po.sj.map db)[i]?=some (db s):=by rw[aS,hs];rfl
  refine⟨rfl,⟨by omega,by omega⟩,db s,aD,by simp;omega,Mn s.ps,⟨by omega,by omega⟩,?_⟩;refine⟨K7d u i (u.po.sj.map db) s.ps.length (s.ps.map λn=>[I n]),(aj.ad [40,38,1,2,3,20,21] [16,32,128,608]).trans ((aj.of (c':=K7b u i (u.po.sj.map db) s.ps.length (s.ps.map λn=>[I n])) ?_).trans ((aj.lx [608] _).trans (aj.of ?_))),?_⟩
  .show K7b u i (u.po.sj.map db) (0+s.ps.length) (s.ps.map λn=>[I n])=_
   rw[dp]
  .show K7d u i (u.po.sj.map db) s.ps.length ((s.ps.map λn=>[I n]).take s.ps.length)=_
   rw[ph (by simp)]
  refine⟨db s,aD,?_⟩;refine⟨_,ah,?_⟩;refine⟨_,_,aj.ad [1,2,3,20,21] [16,32,128],by omega,i+1,by omega,rfl,?_⟩;exact setRow (C:=KA7 u u.po.sj.length ((i+1:Nat):Int)) hs rfl
 .have a25:=c25 u.bs hz.bs hz.cs
  have z1:=hz.po.cl;have z2:=hz.po.ps;have z3:=hz.po.ag;have z4:=hz.po.pm;have z5:=hz.ls;have z6:=hz.ms;have z7:=hz.qs;have z8:=hz.ks;have z9:=hz.bt;have z10:=hz.lk;have z11:=hz.sh;refine⟨by simp;omega,scL _,by simp;omega,Pe.Qg _,by simp;omega,Ag.Wu _,by simp;omega,scM _,_,a25,false,by simp;omega,sc4 _,by simp;omega,sc6 _,by simp;omega,sc7 _,by simp;omega,To _,by simp;omega,?_⟩;refine⟨λn c=>∃i:Nat,i<=u.bt.length/\n=u.bt.length-i/\c=KB7 u u.po.cl.length u.po.ps.length u.po.ag.length u.po.pm.length u.ls.length u.ms.length u.qs.length u.ks.length u.bt.length i (u.bt.map aX),
   ⟨_,_,(aj.ad [1,2,109,110] bl7).trans (aj.of (c':=KB7 u (0+u.po.cl.length) (0+u.po.ps.length) (0+u.po.ag.length) (0+u.po.pm.length) (0+u.ls.length) (0+u.ms.length) (0+u.qs.length) (0+u.ks.length) (0+u.bt.length) 0 (u.bt.map aX)) rfl),0,by omega,rfl,by simp only[dp];rfl⟩,?_⟩
  rintro n c ⟨i,hi,rfl,rfl⟩;refine⟨λaC=>?_,λaC=>?_⟩
  .simp at aC
   obtain⟨b,hb,_,_⟩:=aq aC;have QN:=hz.tu b (ay hb);have a26:=c26 b QN.1 QN.2;have aD:(u.bt.map aX)[i]?=some (aX b):=by rw[aS,hb];rfl
   refine⟨⟨by omega,by omega⟩,aX b,aD,_,a26,⟨by omega,by omega⟩,aX b,aD,?_⟩;refine⟨_,ah,?_⟩;refine⟨_,_,aj.ad [1,2,109,110] bl7,by omega,i+1,by omega,rfl,?_⟩;exact setRow (C:=KB7 u u.po.cl.length u.po.ps.length u.po.ag.length u.po.pm.length u.ls.length u.ms.length u.qs.length u.ks.length u.bt.length ((i+1:Nat):Int)) hb rfl
  .refine⟨by simp;omega,ZS _,by simp;omega,afw _,?_⟩
   refine⟨KD7 u,(aj.ad [1,2] (bl7++[2032,2096])).trans ((aj.of (c':=KC7 u u.lk.length u.sh.length) ?_).trans ((aj.lx [128,784,880,1072,1168,1280,1344,1440,1504,1600,1664,2032,2096] _).trans (aj.of (fz7 u)))),_,aj.refl _ _,rfl,rfl,rfl⟩
   show KC7 u (0+u.lk.length) (0+u.sh.length)=_
   rw[dp,dp]
abbrev VS(l:List Vt):AV:=.aL 5 l.length (l.map fy)
theorem c47:Fn kg 47 [.ai] (B true):=aH aic ⟨rfl,rfl,rfl⟩
theorem c49:Fn kg 49 [.ai] (B true):=aH aie ⟨rfl,rfl,rfl⟩
theorem c50:Fn kg 50 [.ai,.ai] (B true):=aH aif ⟨[(3,true)],rfl,rfl,rfl,rfl⟩
theorem c48:Fn kg 48 [.ai] (B true):=by
 refine aH aid ⟨λn c=>c=⟨[(0,.ai),(6,I 0),(7,I 0)],[]⟩,⟨0,_,Wk.ad [0,6,7] [],rfl⟩,?_⟩;rintro n c rfl;exact⟨λh=>(by cases h),λ_=>⟨rfl,rfl,rfl⟩⟩
theorem c23(l:List Rw)(hl:l.length<=9223372036854775807):Fn kg 23 [WS l,.agg [.ai,.ai,.ai,I 0,.ai,.ai]] (B (decide ((l.length:Int)<=30))):=by
 refine aH ah3 ⟨λn c=>c=⟨[(0,WS l),(3,.af 48 0),(9,I 0),(10,I 0)],[(48,⟨40,6,.any,[[.ai,.ai,.ai,I 0,.ai,.ai]],[]⟩)]⟩,⟨0,_,Wk.ad [0,3,9,10] [48],rfl⟩,?_⟩;rintro n c rfl;refine⟨λh=>(by cases h),λ_=>?_⟩
 cases h:decide ((l.length:Int)<=30)with
 |false=>
  refine⟨[(3,false),(9,false),(14,false),(19,false),(24,false)],?_⟩;exact⟨h,rfl,rfl,rfl,rfl,rfl,rfl,rfl⟩
 |true=>
  refine⟨[(3,true),(9,true),(14,true),(19,true),(24,true)],?_⟩;exact⟨h,rfl,_,c47,rfl,_,c48,rfl,_,c49,rfl,_,c50,rfl,rfl,rfl⟩
theorem scW(l:List Rw):jm (l.map gL):=jb (λa u hu=>by simp[gL]at hu;rcases hu with rfl|rfl|rfl<;>rfl) l
theorem amB:Fn kg 10 [.ai] (.dh true 58 3 0 []):=aH X4 ⟨λ_=>⟨rfl,.inr ⟨_,_,_,rfl⟩⟩,λh=>by cases h⟩
theorem amC:Fn kg 10 [.nU] (.dh true 58 3 0 []):=aH X4 ⟨λh=>(by cases h),λ_=>⟨by decide,rfl,_,rfl,rfl,rfl,.inl ⟨rfl,rfl⟩⟩⟩
theorem amD(aa:List (List AV))(hl:aa.length<=1000000)(hs:jm aa):Fn kg 10 [.aL 3 aa.length aa] (.dh true 58 3 aa.length aa):=by
 cases aa with
 |nil=>exact eu amB amC
 |cons a l=>
  refine aH X4 ⟨by simp,λh=>(by cases h),λ_=>?_⟩;exact⟨⟨by simp at hl⊢;omega,by simp at hl⊢;omega⟩,hs,rfl,_,rfl,rfl,by simp,.inl ⟨rfl,by simp⟩⟩
theorem ahl(l:List Rw)(hl:l.length<=1000000):Fn kg 10 [WS l] (.dh true 58 3 l.length (l.map gL)):=by
 have:=amD (l.map gL) (by simpa using hl) (scW l);rwa[gB]at this
theorem c12(l:List Int)(hl:l.length<=100000)(n:Int):Fn kg 12 [I n,.aw [NS l] 0] (B (!ur l n)):=aH ahX ⟨_,c13 l (by omega) n,rfl,rfl,rfl⟩
theorem c14(l:List Int)(hl:l.length<=100000)(n:Int):Fn kg 14 [I n,.aw [NS l] 0] (B (!ur l n)):=aH ahZ ⟨_,c13 l (by omega) n,rfl,rfl,rfl⟩
def qh(e:Vt):Bool:=decide ((e.eH.length:Int)<=40)&&decide ((e.cG.length:Int)<=4)&&e.cG.all λs=>decide ((s.length:Int)<=200)
def xw(l:List Vt):Bool:=l.all qh&&decide ((l.length:Int)<=40)
abbrev C22(l:List Vt)(i:Int):aM:=⟨[(0,VS l),(7,VS l),(8,I l.length),(9,I i)],[]⟩
abbrev amE(l:List Vt)(i:Int)(e:Vt)(j:Int):aM:=⟨[(0,VS l),(7,VS l),(8,I l.length),(9,I i),(24,TX e.cG),(25,I e.cG.length),(26,I j)],[]⟩
theorem c22(l:List Vt)(hl:l.length<=9223372036854775807)(ht:∀e∈l,e.cG.length<=9223372036854775807):Fn kg 22 [VS l] (B (xw l)):=by
 refine aH ah2 ?_;refine⟨λn c=>∃i:Nat,i<=l.length/\n=l.length-i/\c=C22 l i/\(l.drop i).all qh=l.all qh,⟨_,_,Wk.ad [0,7,8,9] [],0,by omega,rfl,rfl,rfl⟩,?_⟩;rintro n c ⟨i,hi,rfl,rfl,hI⟩;refine⟨λaC=>?_,λaC=>?_⟩
 .simp at aC
  obtain⟨e,he,hd,_⟩:=aq aC;have aD:(l.map fy)[i]?=some (fy e):=by rw[aS,he];rfl
  have htl:=ht e (ay he);rw[hd,rX]at hI;refine⟨⟨by omega,by omega⟩,fy e,aD,?_⟩
  by_cases h1:(40:Int)<e.eH.length
  .have hF:qh e=false:=by
    unfold qh;rw[qA (p:=(e.eH.length:Int)<=40) (by omega)];rfl
   have hR:xw l=false:=by unfold xw;rw[<-hI,hF];rfl
   rw[hR];exact⟨[(4,true)],by simp[h1],λ_=>⟨rfl,rfl,rfl⟩,λh=>absurd h (by simp[h1])⟩
  .by_cases h2:(4:Int)<e.cG.length
   .have hF:qh e=false:=by
     unfold qh;rw[qA (p:=(e.cG.length:Int)<=4) (by omega),Bool.and_false];rfl
    have hR:xw l=false:=by unfold xw;rw[<-hI,hF];rfl
    rw[hR];exact⟨[(4,false)],by simp[h1],λ_=>⟨rfl,rfl,rfl⟩,λh=>absurd h (by simp[h1,h2])⟩
   .refine⟨[(4,false)],by simp[h1],λh=>absurd h (by simp[h1,h2]),λ_=>?_⟩
    have hF:qh e=e.cG.all λs=>decide ((s.length:Int)<=200):=by
     unfold qh;rw[uG (p:=(e.eH.length:Int)<=40) (by omega),uG (p:=(e.cG.length:Int)<=4) (by omega)];rfl
    refine⟨λn c=>∃j:Nat,j<=e.cG.length/\n=e.cG.length-j/\c=amE l i e j/\(e.cG.drop j).all (λs=>decide ((s.length:Int)<=200))=e.cG.all λs=>decide ((s.length:Int)<=200),⟨_,_,Wk.ad [0,7,8,9,24,25,26] [],0,by omega,rfl,rfl,rfl⟩,?_⟩;rintro n c ⟨j,hj,rfl,rfl,hJ⟩;refine⟨λaC=>?_,λaC=>?_⟩
    .simp at aC
     obtain⟨s,hs,hds,_⟩:=aq aC;have xW:(e.cG.map λs=>[AV.str (bs s)])[j]?=some [.str (bs s)]:=by rw[aS,hs];rfl
     rw[hds,rX]at hJ;refine⟨⟨by omega,by omega⟩,_,xW,?_⟩;have bJ:(bs s).size=s.length:=lG s;refine⟨λh=>?_,λh=>?_⟩
     .have l9:(200:Int)<s.length:=by rw[<-bJ];exact aP h
      have hR:xw l=false:=by
       unfold xw;rw[<-hI,hF,<-hJ,qA (p:=(s.length:Int)<=200) (by omega)];rfl
      rw[hR];exact⟨rfl,rfl,rfl⟩
     .have l9:¬(200:Int)<s.length:=by rw[<-bJ];exact j0 h
      refine⟨_,ah,?_⟩;refine⟨_,_,Wk.ad [0,7,8,9,24,25,26] [],by omega,j+1,by omega,rfl,rfl,?_⟩;rw[<-hJ,uG (p:=(s.length:Int)<=200) (by omega)];rfl
    .have FY:j=e.cG.length:=by
      have:=j0 aC;omega
     subst FY;rw[j4]at hJ;refine⟨_,ah,?_⟩;refine⟨_,_,Wk.ad [0,7,8,9] [],by omega,i+1,by omega,rfl,rfl,?_⟩;rw[<-hI,hF,<-hJ];rfl
 .have ou:i=l.length:=by
   have:=j0 aC;omega
  subst ou;rw[j4]at hI;refine⟨rfl,rfl,?_⟩;unfold xw;rw[<-hI]
  rfl
theorem c5(l:List Rw)(hl:l.length<=9223372036854775807)(v:List Vt)(hv:v.length<=9223372036854775807)(ht:∀e∈v,e.cG.length<=9223372036854775807):Fn kg 5 [WS l,VS v] (B (xw v&&decide ((l.length:Int)<=30))):=by
 have a22:=c22 v hv ht;have a23:=c23 l hl
 cases h:xw v with
 |false=>rw[h]at a22;exact aH qq5 ⟨[(2,false)],_,a22,rfl,rfl,rfl,rfl⟩
 |true=>rw[h]at a22;exact aH qq5 ⟨[(2,true)],_,a22,rfl,_,a23,rfl,rfl,rfl⟩
theorem c8(l:List Rw)(hl:l.length<=100000)(u:St)(hz:u.sz)(rd:Int):Fn kg 8 [WS l,.agg (aF u),I rd] (.bY [NS (vX u.po l rd u.ch).1,B ((vX u.po l rd u.ch).2==0)]):=by
 have a7:=c7 u hz;have om:=ahl l (by omega);have a27:=c27 u.po hz.po l hl rd u.ch;exact aH qq8 ⟨_,om,true,_,a7,_,a27,true,_,_,rfl,⟨rfl,rfl⟩,rfl,rfl,trivial⟩
end Go.an.ax.G
