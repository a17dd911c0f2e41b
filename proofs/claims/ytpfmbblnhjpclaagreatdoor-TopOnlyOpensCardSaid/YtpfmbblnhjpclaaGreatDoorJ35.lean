import Derived.Test.YtpfmbblnhjpclaaGreatDoorJ34
set_option linter.unusedVariables false
set_option linter.unusedSimpArgs false
set_option maxRecDepth 20000
namespace Go.an.ax.G
open Go Go.an Go.an.Day Go.Proofs Go.RowKit
abbrev Bu:List Nat:=[0,1,2,3,5,6,7,8,9,10,11,17,21,28,44]
theorem DJ{E:Env}{rv:List ResultVar}{r:AV}(hp:∀b,E.gK b=none):∀(e:Ex)(c':aM)(a':Act)(w':World),kq tt rv r e c'->SR E c' a' w'->Ov tt rv r E e.jj a' w':=λe c' a' w' hq eh=>by
 cases e with
 |exit id=>exact hq.elim
 |normal=>obtain⟨c2,h1,h2⟩:=hq;obtain⟨K2,h3⟩:=h1 E a' w' (λb _=>hp b) eh;exact⟨.inl rfl,K2,c2,h3,h2⟩
 |ret=>obtain⟨c2,h1,h2⟩:=hq;obtain⟨K2,h3⟩:=h1 E a' w' (λb _=>hp b) eh;exact⟨.inr rfl,K2,c2,h3,h2⟩
def Q1(l:List Rw)(c0:aM):Ex->aM->Prop
 |.normal,c=>aj [] c c0
 |_,_=>False
def Q3(N:aM->Prop)(r:AV):Ex->aM->Prop
 |.normal,c=>N c
 |e,c=>kq tt [.cell 6 50,.tmp 7] r e c
abbrev cA(u:St)(l:List Rw)(e:Vt):aM:=⟨[(1,WS l),(3,.af 48 0),(5,.af 80 0),(6,.af 96 0)],[(48,⟨50,16,.any,[aF u],[]⟩),(80,⟨33,5,.any,[fy e],[]⟩),(96,⟨50,16,.any,[zU],[]⟩)]⟩
abbrev cB(u:St)(l:List Rw)(e:Vt)(kr:List AV)(b:Bool):aM:=⟨[(1,WS l),(3,.af 48 0),(5,.af 80 0),(6,.af 96 0),(8,.af 128 0),(9,B b)],[(48,⟨50,16,.any,[aF u],[]⟩),(80,⟨33,5,.any,[fy e],[]⟩),(96,⟨50,16,.any,[zU],[]⟩),(128,⟨172,5,.any,[kr],[]⟩)]⟩
theorem sA(u:St)(l:List Rw)(e:Vt):mY kg tt 57 Bu [] [] [] (xp (body Tryz.f36)) ⟨idx 0 [.agg (aF u),WS l,.agg (fy e)],[]⟩ (Q1 l (cA u l e)):=aj.ad [1,3,5,6] [48,80,96]
theorem sB(u:St)(l:List Rw)(e:Vt)(k t:Int)(m:Bool)(fl:Int)(f:FuncId)(b:Bool)(h:Fn kg 74 [.agg (fy e)] (.bY [.agg (fm k t m fl f),B b])):mY kg tt 57 Bu [] [] [] (xp (gk (body Tryz.f36))) (cA u l e) (Q1 l (cB u l e (fm k t m fl f) b)):=by
 refine⟨_,h,?_⟩;exact aj.ad [1,3,5,6,8,9] [48,80,96,128]
theorem sB0(u:St)(l:List Rw)(e:Vt)(h:Fn kg 74 [.agg (fy e)] (.bY [.agg [I 0,I 0,B false,I 0,.fc],B false])):mY kg tt 57 Bu [] [] [] (xp (gk (body Tryz.f36))) (cA u l e) (Q1 l (cB u l e [I 0,I 0,B false,I 0,.fc] false)):=by
 refine⟨_,h,?_⟩;exact aj.ad [1,3,5,6,8,9] [48,80,96,128]
theorem sC0(u:St)(l:List Rw)(e:Vt)(kr:List AV)(c0:aM->Prop):mY kg tt 57 Bu [] [] [] (xp (gk (gk (body Tryz.f36)))) (cB u l e kr false) (Q3 c0 (.bY [.agg zU,I 1])):=by
 refine⟨λ_=>?_,λh=>by cases h⟩;exact⟨_,aj.refl _ _,_,_,rfl,⟨rfl,rfl⟩,rfl,rfl,trivial⟩
theorem sC1(u:St)(l:List Rw)(e:Vt)(k t:Int)(m:Bool)(fl:Int)(f:FuncId)(c0:aM->Prop)(h:e.aR<u.ch):mY kg tt 57 Bu [] [] [] (xp (gk (gk (body Tryz.f36)))) (cB u l e (fm k t m fl f) true) (Q3 c0 (.bY [.agg zU,I 5])):=by
 refine⟨λh=>(by cases h),λ_=>⟨λ_=>?_,λh'=>absurd h' (by simp[h])⟩⟩;exact⟨_,aj.refl _ _,_,_,rfl,⟨rfl,rfl⟩,rfl,rfl,trivial⟩
theorem sC2(u:St)(l:List Rw)(e:Vt)(k t:Int)(m:Bool)(fl:Int)(f:FuncId)(c0:aM->Prop)(h:¬e.aR<u.ch)(h2:1048575<e.aR):mY kg tt 57 Bu [] [] [] (xp (gk (gk (body Tryz.f36)))) (cB u l e (fm k t m fl f) true) (Q3 c0 (.bY [.agg zU,I 2])):=by
 refine⟨λh=>(by cases h),λ_=>⟨λh'=>absurd h' (by simp[h]),λ_=>⟨λ_=>?_,λh'=>absurd h' (by simp[h2])⟩⟩⟩;exact⟨_,aj.refl _ _,_,_,rfl,⟨rfl,rfl⟩,rfl,rfl,trivial⟩
theorem sC3(u:St)(l:List Rw)(e:Vt)(k t:Int)(m:Bool)(fl:Int)(f:FuncId)(r:AV)(h:¬e.aR<u.ch)(h2:¬1048575<e.aR):mY kg tt 57 Bu [] [] [] (xp (gk (gk (body Tryz.f36)))) (cB u l e (fm k t m fl f) true) (Q3 (λc=>aj [] c (cS u l e (fm k t m fl f) false false false false)) r):=by
 refine⟨λh=>(by cases h),λ_=>⟨λh'=>absurd h' (by simp[h]),λ_=>⟨λh'=>absurd h' (by simp[h2]),λ_=>?_⟩⟩⟩;exact aj.ad [1,3,5,6,8] [48,80,96,128]
def rK(u':St)(e:Vt)(er:Int):AV:=.bY [.agg (if er=0 then aF {u' with ch:=e.aR}else zU),I er]
def Own.HG(u:St)(o:Own)(i:Nat):List (Nat×ak):=(o.ae u).map λx=>(i,x.2)
abbrev WM(u:St)(l:List Rw)(e:Vt)(kr:List AV)(row:List AV)(bl:List (Nat×ak)):aM:=
 ⟨[(5,.af 80 0),(6,.af 96 0),(8,.af 128 0),(10,.af 608 0)],(608,cJ row l e)::(bl++[(80,⟨33,5,.any,[fy e],[]⟩),(96,⟨50,16,.any,[zU],[]⟩),(128,⟨172,5,.any,[kr],[]⟩)])⟩
abbrev QR(u:St)(l:List Rw)(e:Vt)(kr:List AV)(row:List AV)(bl:List (Nat×ak)):aM:=
 ⟨[(5,.af 80 0),(6,.af 96 0),(8,.af 128 0),(10,.af 18 0)],(18,cJ row l e)::(bl++[(80,⟨33,5,.any,[fy e],[]⟩),(96,⟨50,16,.any,[zU],[]⟩),(128,⟨172,5,.any,[kr],[]⟩)])⟩
theorem afQ(u:St): [.aL 5 u.po.sj.length ((u.po.sj.map db).take u.po.sj.length),.aL 6 u.po.cl.length ((u.po.cl.map eW).take u.po.cl.length),.aL 6 u.po.ps.length ((u.po.ps.map Pe.gA).take u.po.ps.length),I u.po.yr,.aL 6 u.po.ag.length ((u.po.ag.map Ag.jc).take u.po.ag.length),.aL 6 u.po.pm.length ((u.po.pm.map eA).take u.po.pm.length),.aL 5 u.bs.length ((u.bs.map bj).take u.bs.length),.aL 4 u.ls.length ((u.ls.map eN).take u.ls.length),.aL 6 u.ms.length ((u.ms.map gY).take u.ms.length),.aL 7 u.qs.length ((u.qs.map cd).take u.qs.length),I u.bV,.aL 4 u.ks.length ((u.ks.map ib).take u.ks.length),.aL 8 u.bt.length ((u.bt.map aX).take u.bt.length),.aL 2 u.lk.length ((u.lk.map cO).take u.lk.length),.aL 3 u.sh.length ((u.sh.map fW).take u.sh.length),I u.ch]=aF u:=by
 simp[aF,jf,ph]
theorem afR(u:St)(l:List Rw)(e:Vt)(k t:Int)(m:Bool)(fl:Int)(f:FuncId):lx [272,352,432,512,592,1200,1568,1616,1664,1712,1824,1872,1920] (Fi u l e (fm k t m fl f))=WM u l e (fm k t m fl f) (aF u) (Own.HG u .no 0):=by
 rw[<-afQ u]
 kernel_rfl
theorem afS(u:St): [.aL 5 u.po.sj.length ((u.po.sj.map db).take u.po.sj.length),.bn 352 6 u.po.cl.length,.aL 6 u.po.ps.length ((u.po.ps.map Pe.gA).take u.po.ps.length),I u.po.yr,.aL 6 u.po.ag.length ((u.po.ag.map Ag.jc).take u.po.ag.length),.aL 6 u.po.pm.length ((u.po.pm.map eA).take u.po.pm.length),.aL 5 u.bs.length ((u.bs.map bj).take u.bs.length),.aL 4 u.ls.length ((u.ls.map eN).take u.ls.length),.aL 6 u.ms.length ((u.ms.map gY).take u.ms.length),.aL 7 u.qs.length ((u.qs.map cd).take u.qs.length),I u.bV,.aL 4 u.ks.length ((u.ks.map ib).take u.ks.length),.aL 8 u.bt.length ((u.bt.map aX).take u.bt.length),.aL 2 u.lk.length ((u.lk.map cO).take u.lk.length),.aL 3 u.sh.length ((u.sh.map fW).take u.sh.length),I u.ch]=(jf u (.bn 352 6 u.po.cl.length) (Pe.A u.po.ps) (Ag.A u.po.ag) (BS u.bs) (SS u.ls) (TS u.bt) (uw u.sh)):=by
 simp[aF,jf,ph]
theorem afT(u:St)(l:List Rw)(e:Vt)(k t:Int)(m:Bool)(fl:Int)(f:FuncId):lx [272,432,512,592,1200,1568,1616,1664,1712,1824,1872,1920] (Fi u l e (fm k t m fl f))=WM u l e (fm k t m fl f) (jf u (.bn 352 6 u.po.cl.length) (Pe.A u.po.ps) (Ag.A u.po.ag) (BS u.bs) (SS u.ls) (TS u.bt) (uw u.sh)) (Own.HG u .cl 352):=by
 rw[<-afS u]
 kernel_rfl
theorem afU(u:St): [.aL 5 u.po.sj.length ((u.po.sj.map db).take u.po.sj.length),.aL 6 u.po.cl.length ((u.po.cl.map eW).take u.po.cl.length),.bn 432 6 u.po.ps.length,I u.po.yr,.aL 6 u.po.ag.length ((u.po.ag.map Ag.jc).take u.po.ag.length),.aL 6 u.po.pm.length ((u.po.pm.map eA).take u.po.pm.length),.aL 5 u.bs.length ((u.bs.map bj).take u.bs.length),.aL 4 u.ls.length ((u.ls.map eN).take u.ls.length),.aL 6 u.ms.length ((u.ms.map gY).take u.ms.length),.aL 7 u.qs.length ((u.qs.map cd).take u.qs.length),I u.bV,.aL 4 u.ks.length ((u.ks.map ib).take u.ks.length),.aL 8 u.bt.length ((u.bt.map aX).take u.bt.length),.aL 2 u.lk.length ((u.lk.map cO).take u.lk.length),.aL 3 u.sh.length ((u.sh.map fW).take u.sh.length),I u.ch]=(jf u (LS u.po.cl) (.bn 432 6 u.po.ps.length) (Ag.A u.po.ag) (BS u.bs) (SS u.ls) (TS u.bt) (uw u.sh)):=by
 simp[aF,jf,ph]
theorem afV(u:St)(l:List Rw)(e:Vt)(k t:Int)(m:Bool)(fl:Int)(f:FuncId):lx [272,352,512,592,1200,1568,1616,1664,1712,1824,1872,1920] (Fi u l e (fm k t m fl f))=WM u l e (fm k t m fl f) (jf u (LS u.po.cl) (.bn 432 6 u.po.ps.length) (Ag.A u.po.ag) (BS u.bs) (SS u.ls) (TS u.bt) (uw u.sh)) (Own.HG u .ps 432):=by
 rw[<-afU u]
 kernel_rfl
theorem afW(u:St): [.aL 5 u.po.sj.length ((u.po.sj.map db).take u.po.sj.length),.aL 6 u.po.cl.length ((u.po.cl.map eW).take u.po.cl.length),.aL 6 u.po.ps.length ((u.po.ps.map Pe.gA).take u.po.ps.length),I u.po.yr,.bn 512 6 u.po.ag.length,.aL 6 u.po.pm.length ((u.po.pm.map eA).take u.po.pm.length),.aL 5 u.bs.length ((u.bs.map bj).take u.bs.length),.aL 4 u.ls.length ((u.ls.map eN).take u.ls.length),.aL 6 u.ms.length ((u.ms.map gY).take u.ms.length),.aL 7 u.qs.length ((u.qs.map cd).take u.qs.length),I u.bV,.aL 4 u.ks.length ((u.ks.map ib).take u.ks.length),.aL 8 u.bt.length ((u.bt.map aX).take u.bt.length),.aL 2 u.lk.length ((u.lk.map cO).take u.lk.length),.aL 3 u.sh.length ((u.sh.map fW).take u.sh.length),I u.ch]=(jf u (LS u.po.cl) (Pe.A u.po.ps) (.bn 512 6 u.po.ag.length) (BS u.bs) (SS u.ls) (TS u.bt) (uw u.sh)):=by
 simp[aF,jf,ph]
theorem afX(u:St)(l:List Rw)(e:Vt)(k t:Int)(m:Bool)(fl:Int)(f:FuncId):lx [272,352,432,592,1200,1568,1616,1664,1712,1824,1872,1920] (Fi u l e (fm k t m fl f))=WM u l e (fm k t m fl f) (jf u (LS u.po.cl) (Pe.A u.po.ps) (.bn 512 6 u.po.ag.length) (BS u.bs) (SS u.ls) (TS u.bt) (uw u.sh)) (Own.HG u .ag 512):=by
 rw[<-afW u]
 kernel_rfl
theorem afY(u:St): [.aL 5 u.po.sj.length ((u.po.sj.map db).take u.po.sj.length),.aL 6 u.po.cl.length ((u.po.cl.map eW).take u.po.cl.length),.aL 6 u.po.ps.length ((u.po.ps.map Pe.gA).take u.po.ps.length),I u.po.yr,.aL 6 u.po.ag.length ((u.po.ag.map Ag.jc).take u.po.ag.length),.aL 6 u.po.pm.length ((u.po.pm.map eA).take u.po.pm.length),.bn 1200 5 u.bs.length,.aL 4 u.ls.length ((u.ls.map eN).take u.ls.length),.aL 6 u.ms.length ((u.ms.map gY).take u.ms.length),.aL 7 u.qs.length ((u.qs.map cd).take u.qs.length),I u.bV,.aL 4 u.ks.length ((u.ks.map ib).take u.ks.length),.aL 8 u.bt.length ((u.bt.map aX).take u.bt.length),.aL 2 u.lk.length ((u.lk.map cO).take u.lk.length),.aL 3 u.sh.length ((u.sh.map fW).take u.sh.length),I u.ch]=(jf u (LS u.po.cl) (Pe.A u.po.ps) (Ag.A u.po.ag) (.bn 1200 5 u.bs.length) (SS u.ls) (TS u.bt) (uw u.sh)):=by
 simp[aF,jf,ph]
theorem afZ(u:St)(l:List Rw)(e:Vt)(k t:Int)(m:Bool)(fl:Int)(f:FuncId):lx [272,352,432,512,592,1568,1616,1664,1712,1824,1872,1920] (Fi u l e (fm k t m fl f))=WM u l e (fm k t m fl f) (jf u (LS u.po.cl) (Pe.A u.po.ps) (Ag.A u.po.ag) (.bn 1200 5 u.bs.length) (SS u.ls) (TS u.bt) (uw u.sh)) (Own.HG u .bx 1200):=by
 rw[<-afY u]
 kernel_rfl
theorem af0(u:St): [.aL 5 u.po.sj.length ((u.po.sj.map db).take u.po.sj.length),.aL 6 u.po.cl.length ((u.po.cl.map eW).take u.po.cl.length),.aL 6 u.po.ps.length ((u.po.ps.map Pe.gA).take u.po.ps.length),I u.po.yr,.aL 6 u.po.ag.length ((u.po.ag.map Ag.jc).take u.po.ag.length),.aL 6 u.po.pm.length ((u.po.pm.map eA).take u.po.pm.length),.aL 5 u.bs.length ((u.bs.map bj).take u.bs.length),.bn 1568 4 u.ls.length,.aL 6 u.ms.length ((u.ms.map gY).take u.ms.length),.aL 7 u.qs.length ((u.qs.map cd).take u.qs.length),I u.bV,.aL 4 u.ks.length ((u.ks.map ib).take u.ks.length),.aL 8 u.bt.length ((u.bt.map aX).take u.bt.length),.aL 2 u.lk.length ((u.lk.map cO).take u.lk.length),.aL 3 u.sh.length ((u.sh.map fW).take u.sh.length),I u.ch]=(jf u (LS u.po.cl) (Pe.A u.po.ps) (Ag.A u.po.ag) (BS u.bs) (.bn 1568 4 u.ls.length) (TS u.bt) (uw u.sh)):=by
 simp[aF,jf,ph]
theorem af1(u:St)(l:List Rw)(e:Vt)(k t:Int)(m:Bool)(fl:Int)(f:FuncId):lx [272,352,432,512,592,1200,1616,1664,1712,1824,1872,1920] (Fi u l e (fm k t m fl f))=WM u l e (fm k t m fl f) (jf u (LS u.po.cl) (Pe.A u.po.ps) (Ag.A u.po.ag) (BS u.bs) (.bn 1568 4 u.ls.length) (TS u.bt) (uw u.sh)) (Own.HG u .sf 1568):=by
 rw[<-af0 u]
 kernel_rfl
theorem af2(u:St): [.aL 5 u.po.sj.length ((u.po.sj.map db).take u.po.sj.length),.aL 6 u.po.cl.length ((u.po.cl.map eW).take u.po.cl.length),.aL 6 u.po.ps.length ((u.po.ps.map Pe.gA).take u.po.ps.length),I u.po.yr,.aL 6 u.po.ag.length ((u.po.ag.map Ag.jc).take u.po.ag.length),.aL 6 u.po.pm.length ((u.po.pm.map eA).take u.po.pm.length),.aL 5 u.bs.length ((u.bs.map bj).take u.bs.length),.aL 4 u.ls.length ((u.ls.map eN).take u.ls.length),.aL 6 u.ms.length ((u.ms.map gY).take u.ms.length),.aL 7 u.qs.length ((u.qs.map cd).take u.qs.length),I u.bV,.aL 4 u.ks.length ((u.ks.map ib).take u.ks.length),.bn 1824 8 u.bt.length,.aL 2 u.lk.length ((u.lk.map cO).take u.lk.length),.aL 3 u.sh.length ((u.sh.map fW).take u.sh.length),I u.ch]=(jf u (LS u.po.cl) (Pe.A u.po.ps) (Ag.A u.po.ag) (BS u.bs) (SS u.ls) (.bn 1824 8 u.bt.length) (uw u.sh)):=by
 simp[aF,jf,ph]
theorem af3(u:St)(l:List Rw)(e:Vt)(k t:Int)(m:Bool)(fl:Int)(f:FuncId):lx [272,352,432,512,592,1200,1568,1616,1664,1712,1872,1920] (Fi u l e (fm k t m fl f))=WM u l e (fm k t m fl f) (jf u (LS u.po.cl) (Pe.A u.po.ps) (Ag.A u.po.ag) (BS u.bs) (SS u.ls) (.bn 1824 8 u.bt.length) (uw u.sh)) (Own.HG u .bt 1824):=by
 rw[<-af2 u]
 kernel_rfl
theorem af4(u:St): [.aL 5 u.po.sj.length ((u.po.sj.map db).take u.po.sj.length),.aL 6 u.po.cl.length ((u.po.cl.map eW).take u.po.cl.length),.aL 6 u.po.ps.length ((u.po.ps.map Pe.gA).take u.po.ps.length),I u.po.yr,.aL 6 u.po.ag.length ((u.po.ag.map Ag.jc).take u.po.ag.length),.aL 6 u.po.pm.length ((u.po.pm.map eA).take u.po.pm.length),.aL 5 u.bs.length ((u.bs.map bj).take u.bs.length),.aL 4 u.ls.length ((u.ls.map eN).take u.ls.length),.aL 6 u.ms.length ((u.ms.map gY).take u.ms.length),.aL 7 u.qs.length ((u.qs.map cd).take u.qs.length),I u.bV,.aL 4 u.ks.length ((u.ks.map ib).take u.ks.length),.aL 8 u.bt.length ((u.bt.map aX).take u.bt.length),.aL 2 u.lk.length ((u.lk.map cO).take u.lk.length),.bn 1920 3 u.sh.length,I u.ch]=(jf u (LS u.po.cl) (Pe.A u.po.ps) (Ag.A u.po.ag) (BS u.bs) (SS u.ls) (TS u.bt) (.bn 1920 3 u.sh.length)):=by
 simp[aF,jf,ph]
theorem af5(u:St)(l:List Rw)(e:Vt)(k t:Int)(m:Bool)(fl:Int)(f:FuncId):lx [272,352,432,512,592,1200,1568,1616,1664,1712,1824,1872] (Fi u l e (fm k t m fl f))=WM u l e (fm k t m fl f) (jf u (LS u.po.cl) (Pe.A u.po.ps) (Ag.A u.po.ag) (BS u.bs) (SS u.ls) (TS u.bt) (.bn 1920 3 u.sh.length)) (Own.HG u .sw 1920):=by
 rw[<-af4 u]
 kernel_rfl
theorem af6(u:St)(l:List Rw)(e:Vt)(k t:Int)(m:Bool)(fl:Int)(f:FuncId):aj [] (Fi u l e (fm k t m fl f)) (QR u l e (fm k t m fl f) (Own.row u .no) (Own.ae u .no)):=
 (aj.lx _ _).trans ((aj.of (afR u l e k t m fl f)).trans ((aj.kr [5,6,8,10] ([608,80,96]++[128]) [(608,18)] (by kernel_rfl) (by kernel_rfl) (by kernel_rfl) (by kernel_rfl)).trans (aj.of (by kernel_rfl))))
theorem af7(u:St)(l:List Rw)(e:Vt)(k t:Int)(m:Bool)(fl:Int)(f:FuncId):aj [] (Fi u l e (fm k t m fl f)) (QR u l e (fm k t m fl f) (Own.row u .cl) (Own.ae u .cl)):=
 (aj.lx _ _).trans ((aj.of (afT u l e k t m fl f)).trans ((aj.kr [5,6,8,10] ([608,352,80,96]++[128]) [(608,18),(352,33)] (by kernel_rfl) (by kernel_rfl) (by kernel_rfl) (by kernel_rfl)).trans (aj.of (by kernel_rfl))))
theorem af8(u:St)(l:List Rw)(e:Vt)(k t:Int)(m:Bool)(fl:Int)(f:FuncId):aj [] (Fi u l e (fm k t m fl f)) (QR u l e (fm k t m fl f) (Own.row u .ps) (Own.ae u .ps)):=
 (aj.lx _ _).trans ((aj.of (afV u l e k t m fl f)).trans ((aj.kr [5,6,8,10] ([608,432,80,96]++[128]) [(608,18),(432,33)] (by kernel_rfl) (by kernel_rfl) (by kernel_rfl) (by kernel_rfl)).trans (aj.of (by kernel_rfl))))
theorem af9(u:St)(l:List Rw)(e:Vt)(k t:Int)(m:Bool)(fl:Int)(f:FuncId):aj [] (Fi u l e (fm k t m fl f)) (QR u l e (fm k t m fl f) (Own.row u .ag) (Own.ae u .ag)):=
 (aj.lx _ _).trans ((aj.of (afX u l e k t m fl f)).trans ((aj.kr [5,6,8,10] ([608,512,80,96]++[128]) [(608,18),(512,33)] (by kernel_rfl) (by kernel_rfl) (by kernel_rfl) (by kernel_rfl)).trans (aj.of (by kernel_rfl))))
theorem aga(u:St)(l:List Rw)(e:Vt)(k t:Int)(m:Bool)(fl:Int)(f:FuncId):aj [] (Fi u l e (fm k t m fl f)) (QR u l e (fm k t m fl f) (Own.row u .bx) (Own.ae u .bx)):=
 (aj.lx _ _).trans ((aj.of (afZ u l e k t m fl f)).trans ((aj.kr [5,6,8,10] ([608,1200,80,96]++[128]) [(608,18),(1200,33)] (by kernel_rfl) (by kernel_rfl) (by kernel_rfl) (by kernel_rfl)).trans (aj.of (by kernel_rfl))))
theorem agb(u:St)(l:List Rw)(e:Vt)(k t:Int)(m:Bool)(fl:Int)(f:FuncId):aj [] (Fi u l e (fm k t m fl f)) (QR u l e (fm k t m fl f) (Own.row u .sf) (Own.ae u .sf)):=
 (aj.lx _ _).trans ((aj.of (af1 u l e k t m fl f)).trans ((aj.kr [5,6,8,10] ([608,1568,80,96]++[128]) [(608,18),(1568,33)] (by kernel_rfl) (by kernel_rfl) (by kernel_rfl) (by kernel_rfl)).trans (aj.of (by kernel_rfl))))
theorem agc(u:St)(l:List Rw)(e:Vt)(k t:Int)(m:Bool)(fl:Int)(f:FuncId):aj [] (Fi u l e (fm k t m fl f)) (QR u l e (fm k t m fl f) (Own.row u .bt) (Own.ae u .bt)):=
 (aj.lx _ _).trans ((aj.of (af3 u l e k t m fl f)).trans ((aj.kr [5,6,8,10] ([608,1824,80,96]++[128]) [(608,18),(1824,33)] (by kernel_rfl) (by kernel_rfl) (by kernel_rfl) (by kernel_rfl)).trans (aj.of (by kernel_rfl))))
theorem agd(u:St)(l:List Rw)(e:Vt)(k t:Int)(m:Bool)(fl:Int)(f:FuncId):aj [] (Fi u l e (fm k t m fl f)) (QR u l e (fm k t m fl f) (Own.row u .sw) (Own.ae u .sw)):=
 (aj.lx _ _).trans ((aj.of (af5 u l e k t m fl f)).trans ((aj.kr [5,6,8,10] ([608,1920,80,96]++[128]) [(608,18),(1920,33)] (by kernel_rfl) (by kernel_rfl) (by kernel_rfl) (by kernel_rfl)).trans (aj.of (by kernel_rfl))))
theorem wk(o:Own)(u:St)(l:List Rw)(e:Vt)(k t:Int)(m:Bool)(fl:Int)(f:FuncId):aj [] (Fi u l e (fm k t m fl f)) (QR u l e (fm k t m fl f) (o.row u) (o.ae u)):=by
 cases o<;>first|exact af6 u l e k t m fl f|exact af7 u l e k t m fl f|exact af8 u l e k t m fl f|exact af9 u l e k t m fl f|exact aga u l e k t m fl f|exact agb u l e k t m fl f|exact agc u l e k t m fl f|exact agd u l e k t m fl f
theorem sD(u u':St)(l:List Rw)(e:Vt)(k t:Int)(m:Bool)(fl:Int)(f:FuncId)(o:Own)(er:Int)(h:HC f o u l e (aF u') er):mY kg tt 57 Bu [(9,[3])] [] [] (gk (gk (gk (gk (body Tryz.f36))))) (QR u l e (fm k t m fl f) (o.row u) (o.ae u)) (kq tt [.cell 6 50,.tmp 7] (rK u' e er)):=by
 obtain⟨po',bs',ls',ms',qs',st',ks',bt',lk',sh',ch'⟩:=u';have fr:=fS.frame (R:=[(80,⟨33,5,.any,[fy e],[]⟩),(96,⟨50,16,.any,[zU],[]⟩)]) h (by cases o<;>rfl) rfl rfl rfl rfl
 cases o
 all_goals
  refine⟨_,aj.ad [5,6,10,40,41] [18,33,80,96],_,I er,[18,80,96],fr.as (by rfl) (by rfl) (by rfl),rfl,λhe=>?_,λhe=>?_⟩
  .have he:er≠0:=by simpa using he
   rw[rK,if_neg he];exact⟨_,aj.refl _ _,_,_,rfl,⟨rfl,rfl⟩,rfl,rfl,trivial⟩
  .have he:er=0:=by simpa using he
   subst he;rw[rK,if_pos rfl];exact⟨_,aj.refl _ _,_,_,rfl,⟨rfl,rfl⟩,rfl,rfl,trivial⟩
theorem sDe(u u':St)(l:List Rw)(e:Vt)(k t:Int)(m:Bool)(fl:Int)(f:FuncId)(o:Own)(er:Int)(he:er≠0)(h:HC f o u l e (o.jg u') er):mY kg tt 57 Bu [(9,[3])] [] [] (gk (gk (gk (gk (body Tryz.f36))))) (QR u l e (fm k t m fl f) (o.row u) (o.ae u)) (kq tt [.cell 6 50,.tmp 7] (rK u' e er)):=by
 have fr:=fS.frame (R:=[(80,⟨33,5,.any,[fy e],[]⟩),(96,⟨50,16,.any,[zU],[]⟩)]) h (by cases o<;>rfl) (by cases o<;>rfl) rfl (by cases o<;>rfl) (by cases o<;>rfl);rw[rK,if_neg he]
 cases o
 all_goals
  refine⟨_,aj.ad [5,6,10,40,41] [18,33,80,96],_,I er,[18,80,96],fr.as (by rfl) (by rfl) (by rfl),rfl,λhe=>?_,λhe=>?_⟩
  .exact⟨_,aj.refl _ _,_,_,rfl,⟨rfl,rfl⟩,rfl,rfl,trivial⟩
  .have he:er=0:=by simpa using he
   omega
theorem Fj(u:St)(e:Vt)(er:Int)(h:er≠0):rK u e er=.bY [.agg zU,I er]:=by rw[rK,if_neg h]
theorem Jv{u:St}{l:List Rw}{e:Vt}{r:AV}(c0:aM->Prop)(kr:List AV)(b:Bool)
  (hB:mY kg tt 57 Bu [] [] [] (xp (gk (body Tryz.f36))) (cA u l e) (Q1 l (cB u l e kr b)))
  (hC:mY kg tt 57 Bu [] [] [] (xp (gk (gk (body Tryz.f36)))) (cB u l e kr b) (Q3 c0 r))
  (hD:∀(E:Env)(a:Act)(w:World),E.N=57->(∀b,E.gK b=none)->∀c,c0 c->SR E c a w->(Code.seq (.region 8 (dU 8 (body Tryz.f36)) true) (gk (gk (gk (gk (body Tryz.f36)))))).wp Tryz.prog (Ov tt [.cell 6 50,.tmp 7] r E) a w):
  Fn kg 36 [.agg (aF u),WS l,.agg (fy e)] r:=by
 refine wT (code:=body Tryz.f36) [.cell 6 50,.tmp 7] cC Tryz.func36 rfl (by kernel_rfl) rfl rfl rfl λE K a w hN hp hs=>?_
 have ji:∀b,bm b []=false->E.gK b=none:=λb _=>hp b
 rw[b36];refine wp_seq (cD cC bZ hN mixed ji _ _ _ _ a w (by kernel_rfl) (sA u l e) (λe c a w hq hs=>?_) ⟨K,hs⟩)
 cases e with
 |exit id=>exact hq.elim
 |ret=>exact hq.elim
 |normal=>
  refine wp_seq (cD cC bZ hN mixed ji _ _ _ _ a w (by kernel_rfl) hB (λe c a w hq hs=>?_) (hq E a w ji hs))
  cases e with
  |exit id=>exact hq.elim
  |ret=>exact hq.elim
  |normal=>
   refine wp_seq (cD cC bZ hN mixed ji _ _ _ _ a w (by kernel_rfl) hC (λe c a w hq hs=>?_) (hq E a w ji hs))
   cases e with
   |exit id=>exact hq.elim
   |ret=>exact DJ hp .ret c a w hq hs
   |normal=>exact hD E a w hN hp c hq hs
theorem c36(u:St)(hz:u.sz)(l:List Rw)(e:Vt)(hs:e.eH.length<=1000000)(eh:e.cG.length<=1000000)(R:FuncId->St->Prop)
  (H:∀k t m fl f,mB (I e.kind) qf=some (fm k t m fl f)->zi e k t m fl->u.ch<=e.aR->e.aR<=1048575->yj f u l e (R f)):
  ∃u' er,Fn kg 36 [.agg (aF u),WS l,.agg (fy e)] (rK u' e er)/\(er=0->u.ch<=e.aR/\e.aR<=1048575/\∃k t m fl f,mB (I e.kind) qf=some (fm k t m fl f)/\zi e k t m fl/\R f u'):=by
 rcases DI e.kind with hk|⟨r,hk,k,t,m,fl,f,hm,rfl⟩
 .refine⟨u,1,?_,λh=>by cases h⟩
  rw[Fj _ _ _ (by decide)];exact Jv (λ_=>False) _ false (sB0 u l e (aln e hk hs eh)) (sC0 u l e _ _) λ_ _ _ _ _ _ h=>h.elim
 .have nt:fl<0∨fl=3/\k=6:=by
   simp only[bK,Prod.mk.injEq,j5,or_false]at hm;omega
  obtain⟨kr,b,h74,hkr,hb⟩:=alm e k t m fl f hk hs eh nt
  cases b with
  |false=>
   refine⟨u,1,?_,λh=>by cases h⟩;rw[Fj _ _ _ (by decide)]
   rcases hkr with rfl|⟨_,rfl⟩
   .exact Jv (λ_=>False) _ false (sB u l e k t m fl f false h74) (sC0 u l e _ _) λ_ _ _ _ _ _ h=>h.elim
   .exact Jv (λ_=>False) _ false (sB0 u l e h74) (sC0 u l e _ _) λ_ _ _ _ _ _ h=>h.elim
  |true=>
   obtain⟨rfl,hf⟩:=hb rfl
   by_cases h1:e.aR<u.ch
   .refine⟨u,5,?_,λh=>by cases h⟩
    rw[Fj _ _ _ (by decide)];exact Jv (λ_=>False) _ true (sB u l e k t m fl f true h74) (sC1 u l e k t m fl f _ h1) λ_ _ _ _ _ _ h=>h.elim
   .by_cases h2:1048575<e.aR
    .refine⟨u,2,?_,λh=>by cases h⟩
     rw[Fj _ _ _ (by decide)];exact Jv (λ_=>False) _ true (sB u l e k t m fl f true h74) (sC2 u l e k t m fl f _ h1 h2) λ_ _ _ _ _ _ h=>h.elim
    .obtain⟨o,er,⟨u',hH,hR⟩|⟨he,u',hH⟩⟩:=H k t m fl f hk hf (by omega) (by omega)
     .refine⟨u',er,?_,λh=>⟨by omega,by omega,k,t,m,fl,f,hk,hf,hR h⟩⟩
      refine Jv _ _ true (sB u l e k t m fl f true h74) (sC3 u l e k t m fl f _ h1 h2) λE a w hN hp c hc hs=>?_
      have ji:∀b,bm b []=false->E.gK b=none:=λb _=>hp b
      refine wp_seq (WL hN ji hz (λa w hs=>?_) (hc E a w ji hs));exact cD cC bZ hN mixed ji _ _ _ _ a w (by kernel_rfl) (sD u u' l e k t m fl f o er hH) (DJ hp) (wk o u l e k t m fl f E a w ji hs)
     .refine⟨u',er,?_,λh=>absurd h he⟩
      refine Jv _ _ true (sB u l e k t m fl f true h74) (sC3 u l e k t m fl f _ h1 h2) λE a w hN hp c hc hs=>?_
      have ji:∀b,bm b []=false->E.gK b=none:=λb _=>hp b
      refine wp_seq (WL hN ji hz (λa w hs=>?_) (hc E a w ji hs));exact cD cC bZ hN mixed ji _ _ _ _ a w (by kernel_rfl) (sDe u u' l e k t m fl f o er he hH) (DJ hp) (wk o u l e k t m fl f E a w ji hs)
theorem eI(row:List AV)(l:List Rw)(e:Vt)(O:List (Nat×ak)):∀b,bm b [18]=true->Nat.ble 2 (b %16)=true/\(aK ((18,cJ row l e)::O) b).isSome=true:=by
 intro b hb;have:b=18:=by simpa[fL]using hb
 subst this;exact⟨rfl,rfl⟩
theorem age(u:St)(l:List Rw)(e:Vt)(x:List l6):fS kg 217 [.af 18 1,LS x,I 0] [(18,cJ (aF u) l e)] [18] [(18,cJ (aF {u with po:={u.po with cl:=x}}) l e)] (I 0):=
 dK Kz [] [] (eI _ _ _ _) ⟨λ_=>⟨_,aj.ad [6] [18],rfl,rfl,rfl⟩,λh=>(by cases h)⟩
theorem agf(u:St)(l:List Rw)(e:Vt)(er:Int)(h:er≠0):fS kg 217 [.af 18 1,.ai,I er] [(18,cJ (aF u) l e)] [18] [(18,cJ (aF u) l e)] (I er):=
 dK Kz [] [] (eI _ _ _ _) ⟨λh'=>absurd (by simpa using h') h,λ_=>⟨_,aj.ad [6] [18],rfl,rfl,rfl⟩⟩
theorem agh(u:St)(l:List Rw)(e:Vt)(x:List Pe.fT):fS kg 220 [.af 18 2,Pe.A x,I 0] [(18,cJ (aF u) l e)] [18] [(18,cJ (aF {u with po:={u.po with ps:=x}}) l e)] (I 0):=
 dK KA [] [] (eI _ _ _ _) ⟨λ_=>⟨_,aj.ad [6] [18],rfl,rfl,rfl⟩,λh=>(by cases h)⟩
theorem agi(u:St)(l:List Rw)(e:Vt)(x:List Pe.fT)(er:Int)(h:er≠0):fS kg 220 [.af 18 2,Pe.A x,I er] [(18,cJ (aF u) l e)] [18] [(18,cJ (aF u) l e)] (I er):=
 dK KA [] [] (eI _ _ _ _) ⟨λh'=>absurd (by simpa using h') h,λ_=>⟨_,aj.ad [6] [18],rfl,rfl,rfl⟩⟩
theorem WN(u:St)(l:List Rw)(e:Vt)(x:List kJ):fS kg 224 [.af 18 5,PS x,I 0] [(18,cJ (aF u) l e)] [18] [(18,cJ (aF {u with po:={u.po with pm:=x}}) l e)] (I 0):=
 dK VX [] [] (eI _ _ _ _) ⟨λ_=>⟨_,aj.ad [6] [18],rfl,rfl,rfl⟩,λh=>(by cases h)⟩
theorem WO(u:St)(l:List Rw)(e:Vt)(er:Int)(h:er≠0):fS kg 224 [.af 18 5,.ai,I er] [(18,cJ (aF u) l e)] [18] [(18,cJ (aF u) l e)] (I er):=
 dK VX [] [] (eI _ _ _ _) ⟨λh'=>absurd (by simpa using h') h,λ_=>⟨_,aj.ad [6] [18],rfl,rfl,rfl⟩⟩
theorem K6(u:St)(l:List Rw)(e:Vt)(x:List Bx):fS kg 230 [.af 18 6,BS x,I 0] [(18,cJ (aF u) l e)] [18] [(18,cJ (aF {u with bs:=x}) l e)] (I 0):=
 dK C8 [] [] (eI _ _ _ _) ⟨λ_=>⟨_,aj.ad [6] [18],rfl,rfl,rfl⟩,λh=>(by cases h)⟩
theorem WQ(u:St)(l:List Rw)(e:Vt)(er:Int)(h:er≠0):fS kg 230 [.af 18 6,.ai,I er] [(18,cJ (aF u) l e)] [18] [(18,cJ (aF u) l e)] (I er):=
 dK C8 [] [] (eI _ _ _ _) ⟨λh'=>absurd (by simpa using h') h,λ_=>⟨_,aj.ad [6] [18],rfl,rfl,rfl⟩⟩
theorem HE(u:St)(l:List Rw)(e:Vt)(x:List dE):fS kg 240 [.af 18 9,QS x,I 0] [(18,cJ (aF u) l e)] [18] [(18,cJ (aF {u with qs:=x}) l e)] (I 0):=
 dK Pt [] [] (eI _ _ _ _) ⟨λ_=>⟨_,aj.ad [6] [18],rfl,rfl,rfl⟩,λh=>(by cases h)⟩
theorem QT(u:St)(l:List Rw)(e:Vt)(x:List dE)(er:Int)(h:er≠0):fS kg 240 [.af 18 9,QS x,I er] [(18,cJ (aF u) l e)] [18] [(18,cJ (aF u) l e)] (I er):=
 dK Pt [] [] (eI _ _ _ _) ⟨λh'=>absurd (by simpa using h') h,λ_=>⟨_,aj.ad [6] [18],rfl,rfl,rfl⟩⟩
theorem Qu(u:St)(l:List Rw)(e:Vt)(x:List Bk):fS kg 249 [.af 18 11,KS x,I 0] [(18,cJ (aF u) l e)] [18] [(18,cJ (aF {u with ks:=x}) l e)] (I 0):=
 dK Pu [] [] (eI _ _ _ _) ⟨λ_=>⟨_,aj.ad [6] [18],rfl,rfl,rfl⟩,λh=>(by cases h)⟩
theorem agj(u:St)(l:List Rw)(e:Vt)(er:Int)(h:er≠0):fS kg 249 [.af 18 11,.ai,I er] [(18,cJ (aF u) l e)] [18] [(18,cJ (aF u) l e)] (I er):=
 dK Pu [] [] (eI _ _ _ _) ⟨λh'=>absurd (by simpa using h') h,λ_=>⟨_,aj.ad [6] [18],rfl,rfl,rfl⟩⟩
theorem agk(u:St)(l:List Rw)(e:Vt)(x:List (Int×Int)):fS kg 257 [.af 18 13,yi x,I 0] [(18,cJ (aF u) l e)] [18] [(18,cJ (aF {u with lk:=x}) l e)] (I 0):=
 dK V2 [] [] (eI _ _ _ _) ⟨λ_=>⟨_,aj.ad [6] [18],rfl,rfl,rfl⟩,λh=>(by cases h)⟩
theorem agl(u:St)(l:List Rw)(e:Vt)(er:Int)(h:er≠0):fS kg 257 [.af 18 13,.ai,I er] [(18,cJ (aF u) l e)] [18] [(18,cJ (aF u) l e)] (I er):=
 dK V2 [] [] (eI _ _ _ _) ⟨λh'=>absurd (by simpa using h') h,λ_=>⟨_,aj.ad [6] [18],rfl,rfl,rfl⟩⟩
theorem Qp(u:St)(l:List Rw)(e:Vt)(x:List Mv):fS kg 301 [.af 18 8,MS x,I 0] [(18,cJ (aF u) l e)] [18] [(18,cJ (aF {u with ms:=x}) l e)] (I 0):=
 dK Da [] [] (eI _ _ _ _) ⟨λ_=>⟨_,aj.ad [6] [18],rfl,rfl,rfl⟩,λh=>(by cases h)⟩
theorem agm(u:St)(l:List Rw)(e:Vt)(er:Int)(h:er≠0):fS kg 301 [.af 18 8,.ai,I er] [(18,cJ (aF u) l e)] [18] [(18,cJ (aF u) l e)] (I er):=
 dK Da [] [] (eI _ _ _ _) ⟨λh'=>absurd (by simpa using h') h,λ_=>⟨_,aj.ad [6] [18],rfl,rfl,rfl⟩⟩
theorem agn(u:St)(l:List Rw)(e:Vt)(x:List l6):fS kg 217 [.af 18 1,LS x,I 0] [(18,cJ (Own.jg u .cl) l e)] [18] [(18,cJ (aF {u with po:={u.po with cl:=x}}) l e)] (I 0):=
 dK Kz [] [] (eI _ _ _ _) ⟨λ_=>⟨_,aj.ad [6] [18],rfl,rfl,rfl⟩,λh=>(by cases h)⟩
theorem ago(u:St)(l:List Rw)(e:Vt)(x:List l6)(er:Int)(h:er≠0):fS kg 217 [.af 18 1,LS x,I er] [(18,cJ (Own.jg u .cl) l e)] [18] [(18,cJ (Own.jg u .cl) l e)] (I er):=
 dK Kz [] [] (eI _ _ _ _) ⟨λh'=>absurd (by simpa using h') h,λ_=>⟨_,aj.ad [6] [18],rfl,rfl,rfl⟩⟩
theorem agp(u:St)(l:List Rw)(e:Vt)(x:List Pe.fT):fS kg 220 [.af 18 2,Pe.A x,I 0] [(18,cJ (Own.jg u .ps) l e)] [18] [(18,cJ (aF {u with po:={u.po with ps:=x}}) l e)] (I 0):=
 dK KA [] [] (eI _ _ _ _) ⟨λ_=>⟨_,aj.ad [6] [18],rfl,rfl,rfl⟩,λh=>(by cases h)⟩
theorem agq(u:St)(l:List Rw)(e:Vt)(x:List Pe.fT)(er:Int)(h:er≠0):fS kg 220 [.af 18 2,Pe.A x,I er] [(18,cJ (Own.jg u .ps) l e)] [18] [(18,cJ (Own.jg u .ps) l e)] (I er):=
 dK KA [] [] (eI _ _ _ _) ⟨λh'=>absurd (by simpa using h') h,λ_=>⟨_,aj.ad [6] [18],rfl,rfl,rfl⟩⟩
theorem agr(u:St)(l:List Rw)(e:Vt)(x:List Ag.o6):fS kg 222 [.af 18 4,Ag.A x,I 0] [(18,cJ (Own.jg u .ag) l e)] [18] [(18,cJ (aF {u with po:={u.po with ag:=x}}) l e)] (I 0):=
 dK VW [] [] (eI _ _ _ _) ⟨λ_=>⟨_,aj.ad [6] [18],rfl,rfl,rfl⟩,λh=>(by cases h)⟩
theorem ags(u:St)(l:List Rw)(e:Vt)(x:List Ag.o6)(er:Int)(h:er≠0):fS kg 222 [.af 18 4,Ag.A x,I er] [(18,cJ (Own.jg u .ag) l e)] [18] [(18,cJ (Own.jg u .ag) l e)] (I er):=
 dK VW [] [] (eI _ _ _ _) ⟨λh'=>absurd (by simpa using h') h,λ_=>⟨_,aj.ad [6] [18],rfl,rfl,rfl⟩⟩
theorem agt(u:St)(l:List Rw)(e:Vt)(x:List Bx):fS kg 230 [.af 18 6,BS x,I 0] [(18,cJ (Own.jg u .bx) l e)] [18] [(18,cJ (aF {u with bs:=x}) l e)] (I 0):=
 dK C8 [] [] (eI _ _ _ _) ⟨λ_=>⟨_,aj.ad [6] [18],rfl,rfl,rfl⟩,λh=>(by cases h)⟩
theorem agu(u:St)(l:List Rw)(e:Vt)(x:List Bx)(er:Int)(h:er≠0):fS kg 230 [.af 18 6,BS x,I er] [(18,cJ (Own.jg u .bx) l e)] [18] [(18,cJ (Own.jg u .bx) l e)] (I er):=
 dK C8 [] [] (eI _ _ _ _) ⟨λh'=>absurd (by simpa using h') h,λ_=>⟨_,aj.ad [6] [18],rfl,rfl,rfl⟩⟩
theorem agv(u:St)(l:List Rw)(e:Vt)(x:List Sh):fS kg 235 [.af 18 7,SS x,I 0] [(18,cJ (Own.jg u .sf) l e)] [18] [(18,cJ (aF {u with ls:=x}) l e)] (I 0):=
 dK Ps [] [] (eI _ _ _ _) ⟨λ_=>⟨_,aj.ad [6] [18],rfl,rfl,rfl⟩,λh=>(by cases h)⟩
theorem agw(u:St)(l:List Rw)(e:Vt)(x:List Sh)(er:Int)(h:er≠0):fS kg 235 [.af 18 7,SS x,I er] [(18,cJ (Own.jg u .sf) l e)] [18] [(18,cJ (Own.jg u .sf) l e)] (I er):=
 dK Ps [] [] (eI _ _ _ _) ⟨λh'=>absurd (by simpa using h') h,λ_=>⟨_,aj.ad [6] [18],rfl,rfl,rfl⟩⟩
theorem agx(u:St)(l:List Rw)(e:Vt)(x:List Bt):fS kg 251 [.af 18 12,TS x,I 0] [(18,cJ (Own.jg u .bt) l e)] [18] [(18,cJ (aF {u with bt:=x}) l e)] (I 0):=
 dK VZ [] [] (eI _ _ _ _) ⟨λ_=>⟨_,aj.ad [6] [18],rfl,rfl,rfl⟩,λh=>(by cases h)⟩
theorem agy(u:St)(l:List Rw)(e:Vt)(x:List Bt)(er:Int)(h:er≠0):fS kg 251 [.af 18 12,TS x,I er] [(18,cJ (Own.jg u .bt) l e)] [18] [(18,cJ (Own.jg u .bt) l e)] (I er):=
 dK VZ [] [] (eI _ _ _ _) ⟨λh'=>absurd (by simpa using h') h,λ_=>⟨_,aj.ad [6] [18],rfl,rfl,rfl⟩⟩
end Go.an.ax.G
