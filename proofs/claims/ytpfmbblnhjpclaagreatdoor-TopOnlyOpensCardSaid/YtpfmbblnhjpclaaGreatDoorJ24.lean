import Derived.Test.YtpfmbblnhjpclaaGreatDoorJ23
import Derived.Shelf.Strings.Repeat
import Derived.Ground.NamesProg
import Derived.Test.YtpfmbblnhjpclaaGreatDoorProg
import Derived.Shelf.LaysM
import Derived.Shelf.Strings.Shaped
import Derived.Shelf.GgClosure.StringsRunes
import Derived.Ground.GgwProg
import Derived.Shelf.Strings.FuncGrows
import Derived.Shelf.Strconv.Itoa0
import Derived.Shelf.Strconv.Itoa1
import Derived.Shelf.Strconv.Itoa2
import Derived.Shelf.Strconv.Itoa3
set_option linter.unusedVariables false
set_option linter.unusedSimpArgs false
set_option maxRecDepth 20000
namespace Go.an.ax.G
open Go Go.an Go.Proofs Go.RowKit
abbrev Ln(n:Nat):={l:List Int//l.length=n}
theorem r1'(s r:Ln 25)(k:Int)(i:Nat)(c:Ln 5):∃c':Ln 5,i<25->∀Q:Ex->aM->Prop,(∀c2,Wk c2 (PF s.1 r.1 c'.1 k (i+1))->Q .normal c2)->ev kg tt 118 De L1 (PF s.1 r.1 c.1 k i) Q:=by
 obtain⟨s,hs⟩:=s;obtain⟨r,hr⟩:=r;obtain⟨c,hc⟩:=c
 by_cases hi:i<25
 .obtain⟨a0,a1,a2,a3,a4,a5,a6,a7,a8,a9,om,nz,a12,p8,p9,pb,qa,a17,qb,qc,a20,a21,a22,a23,a24,rfl⟩:=fP hs
  obtain⟨q0,q1,q2,q3,q4,q5,q6,q7,q8,q9,q10,q11,q12,q13,q14,q15,q16,q17,q18,q19,q20,q21,q22,q23,q24,rfl⟩:=fP hr;obtain⟨c0,c1,c2,c3,c4,rfl⟩:=PE hc;obtain⟨c',fw,h⟩:=r1 a0 a1 a2 a3 a4 a5 a6 a7 a8 a9 om nz a12 p8 p9 pb qa a17 qb qc a20 a21 a22 a23 a24 q0 q1 q2 q3 q4 q5 q6 q7 q8 q9 q10 q11 q12 q13 q14 q15 q16 q17 q18 q19 q20 q21 q22 q23 q24 c0 c1 c2 c3 c4 k i hi;exact⟨⟨c',fw⟩,λ_=>h⟩
 .exact⟨⟨c,hc⟩,λh=>absurd h hi⟩
theorem r2'(s r:Ln 25)(c:Ln 5)(k:Int)(x y:Nat)(b:Ln 25):∃b':Ln 25,x<5->y<5->∀Q:Ex->aM->Prop,(∀c2,Wk c2 (G6 s.1 r.1 c.1 b'.1 k x (y+1))->Q .normal c2)->ev kg tt 118 De L2i (G6 s.1 r.1 c.1 b.1 k x y) Q:=by
 obtain⟨s,hs⟩:=s;obtain⟨r,hr⟩:=r;obtain⟨c,hc⟩:=c;obtain⟨b,hb⟩:=b
 by_cases hx:x<5
 .by_cases hy:y<5
  .obtain⟨a0,a1,a2,a3,a4,a5,a6,a7,a8,a9,om,nz,a12,p8,p9,pb,qa,a17,qb,qc,a20,a21,a22,a23,a24,rfl⟩:=fP hs
   obtain⟨q0,q1,q2,q3,q4,q5,q6,q7,q8,q9,q10,q11,q12,q13,q14,q15,q16,q17,q18,q19,q20,q21,q22,q23,q24,rfl⟩:=fP hr;obtain⟨c0,c1,c2,c3,c4,rfl⟩:=PE hc;obtain⟨b0,b1,b2,b3,b4,b5,b6,b7,b8,b9,Ty,Tz,TA,TB,TC,TD,TE,TF,TG,TH,TI,TJ,TK,TL,TM,rfl⟩:=fP hb;obtain⟨b',jS,h⟩:=r2 a0 a1 a2 a3 a4 a5 a6 a7 a8 a9 om nz a12 p8 p9 pb qa a17 qb qc a20 a21 a22 a23 a24 q0 q1 q2 q3 q4 q5 q6 q7 q8 q9 q10 q11 q12 q13 q14 q15 q16 q17 q18 q19 q20 q21 q22 q23 q24 c0 c1 c2 c3 c4 b0 b1 b2 b3 b4 b5 b6 b7 b8 b9 Ty Tz TA TB TC TD TE TF TG TH TI TJ TK TL TM k x y hx hy;exact⟨⟨b',jS⟩,λ_ _=>h⟩
  .exact⟨⟨b,hb⟩,λ_ h=>absurd h hy⟩
 .exact⟨⟨b,hb⟩,λh=>absurd h hx⟩
theorem r3'(s r:Ln 25)(c:Ln 5)(b:Ln 25)(k:Int)(x y:Nat)(d:Ln 25):∃d':Ln 25,x<5->y<5->∀Q:Ex->aM->Prop,(∀c2,Wk c2 (G7 s.1 r.1 c.1 b.1 d'.1 k x (y+1))->Q .normal c2)->ev kg tt 118 De L3i (G7 s.1 r.1 c.1 b.1 d.1 k x y) Q:=by
 obtain⟨b,hb⟩:=b;obtain⟨d,hd⟩:=d
 by_cases hx:x<5
 .by_cases hy:y<5
  .obtain⟨b0,b1,b2,b3,b4,b5,b6,b7,b8,b9,Ty,Tz,TA,TB,TC,TD,TE,TF,TG,TH,TI,TJ,TK,TL,TM,rfl⟩:=fP hb
   obtain⟨d0,d1,d2,d3,d4,d5,d6,d7,d8,d9,d10,d11,d12,d13,d14,d15,d16,d17,d18,d19,d20,d21,d22,d23,d24,rfl⟩:=fP hd;obtain⟨d',BL,h⟩:=r3 s.1 r.1 c.1 b0 b1 b2 b3 b4 b5 b6 b7 b8 b9 Ty Tz TA TB TC TD TE TF TG TH TI TJ TK TL TM d0 d1 d2 d3 d4 d5 d6 d7 d8 d9 d10 d11 d12 d13 d14 d15 d16 d17 d18 d19 d20 d21 d22 d23 d24 k x y hx hy;exact⟨⟨d',BL⟩,λ_ _=>h⟩
  .exact⟨⟨d,hd⟩,λ_ h=>absurd h hy⟩
 .exact⟨⟨d,hd⟩,λh=>absurd h hx⟩
noncomputable def n1(s r:Ln 25)(k:Int)(i:Nat)(c:Ln 5):Ln 5:=Classical.choose (r1' s r k i c)
noncomputable def it1(s r:Ln 25)(k:Int):Nat->Ln 5
 |0=>⟨[0,0,0,0,0],rfl⟩
 |i+1=>n1 s r k i (it1 s r k i)
noncomputable def n2(s r:Ln 25)(c:Ln 5)(k:Int)(x y:Nat)(b:Ln 25):Ln 25:=Classical.choose (r2' s r c k x y b)
noncomputable def in2(s r:Ln 25)(c:Ln 5)(k:Int)(x:Nat)(b:Ln 25):Nat->Ln 25
 |0=>b
 |y+1=>n2 s r c k x y (in2 s r c k x b y)
def z25:Ln 25:=⟨[0,0,0,0,0,0,0,0,0,0,0,0,0,0,0,0,0,0,0,0,0,0,0,0,0],rfl⟩
noncomputable def ot2(s r:Ln 25)(c:Ln 5)(k:Int):Nat->Ln 25
 |0=>z25
 |x+1=>in2 s r c k x (ot2 s r c k x) 5
noncomputable def n3(s r:Ln 25)(c:Ln 5)(b:Ln 25)(k:Int)(x y:Nat)(d:Ln 25):Ln 25:=Classical.choose (r3' s r c b k x y d)
noncomputable def in3(s r:Ln 25)(c:Ln 5)(b:Ln 25)(k:Int)(x:Nat)(d:Ln 25):Nat->Ln 25
 |0=>d
 |y+1=>n3 s r c b k x y (in3 s r c b k x d y)
noncomputable def ot3(s r:Ln 25)(c:Ln 5)(b:Ln 25)(k:Int):Nat->Ln 25
 |0=>z25
 |x+1=>in3 s r c b k x (ot3 s r c b k x) 5
def Wp(k:Int):List Int->List Int
 |[]=>[]
 |d::ds=>bits .xor .u64 d k::ds
theorem Mr(k:Int):∀(d:List Int)(n:Nat),d.length=n->(Wp k d).length=n
 |[],_,h=>h
 |_::_,_,h=>h
set_option maxHeartbeats 4000000 in
theorem aew(s r:Ln 25)(k:Int):∃s':Ln 25,Fn kg 402 [.agg (Us s.1),.agg (r.1.map I),U k] (.agg (Us s'.1)):=by
 obtain⟨c,hc⟩:∃c,c=it1 s r k 25:=⟨_,rfl⟩;obtain⟨b,hb⟩:∃b,b=ot2 s r c k 5:=⟨_,rfl⟩;obtain⟨d,hdE⟩:∃d,d=ot3 s r c b k 5:=⟨_,rfl⟩;refine⟨⟨Wp k d.1,Mr k d.1 25 d.2⟩,?_⟩;obtain⟨s',eh⟩:∃s',s'=s:=⟨_,rfl⟩;obtain⟨r',jV⟩:∃r',r'=r:=⟨_,rfl⟩;rw[<-eh,<-jV]at hc hb hdE;obtain⟨sl,pW⟩:=s;obtain⟨rl,Ec⟩:=r;obtain⟨a0,a1,a2,a3,a4,a5,a6,a7,a8,a9,om,nz,a12,p8,p9,pb,qa,a17,qb,qc,a20,a21,a22,a23,a24,rfl⟩:=fP pW;obtain⟨q0,q1,q2,q3,q4,q5,q6,q7,q8,q9,q10,q11,q12,q13,q14,q15,q16,q17,q18,q19,q20,q21,q22,q23,q24,rfl⟩:=fP Ec;have es:s'.1=[a0,a1,a2,a3,a4,a5,a6,a7,a8,a9,om,nz,a12,p8,p9,pb,qa,a17,qb,qc,a20,a21,a22,a23,a24]:=by rw[eh]
 have er:r'.1=[q0,q1,q2,q3,q4,q5,q6,q7,q8,q9,q10,q11,q12,q13,q14,q15,q16,q17,q18,q19,q20,q21,q22,q23,q24]:=by rw[jV]
 refine aH adL ?_;refine⟨λn c=>∃i,i<=25/\n=25-i/\c=PF s'.1 r'.1 (it1 s' r' k i).1 k i,⟨_,_,Wk.ad [2,3,4,6,7,18,19] [48,64,96,112],0,by omega,rfl,by rw[es,er];rfl⟩,?_⟩;rintro n c' ⟨i,hi,rfl,rfl⟩
 by_cases aC:i<25
 .refine qC (r1' s' r' k i _) aC _ λc2 hw=>?_
  exact⟨_,_,hw,by omega,i+1,by omega,rfl,rfl⟩
 obtain rfl:i=25:=by omega
 rw[<-hc];obtain⟨c0,c1,c2,c3,c4,ec⟩:=PE c.2;rw[es,er,ec];refine⟨λh=>absurd h (by decide),λ_=>?_⟩;refine⟨λn c'=>∃x,x<=5/\n=5-x/\c'=⟨[(2,U k),(3,.af 48 0),(4,.af 64 0),(6,.af 96 0),(7,.af 112 0),(10,.af 160 0),(31,I x)],Wn s'.1 r'.1 c.1 (ot2 s' r' c k x).1⟩,⟨_,_,Wk.ad [2,3,4,6,7,10,31] [48,64,96,112,160],0,by omega,rfl,by rw[es,er,ec];rfl⟩,?_⟩;rintro n c' ⟨x,hx,rfl,rfl⟩;refine⟨λh=>?_,λh=>?_⟩
 .have hx5:x<5:=by have:=aP h;omega
  refine⟨λn c'=>∃y,y<=5/\n=5-y/\c'=G6 s'.1 r'.1 c.1 (in2 s' r' c k x (ot2 s' r' c k x) y).1 k x y,⟨_,_,Wk.ad [2,3,4,6,7,10,31,11,34] [48,64,96,112,160],0,by omega,rfl,rfl⟩,?_⟩;rintro n c' ⟨y,hy,rfl,rfl⟩
  by_cases aC:y<5
  .refine qC (r2' s' r' c k x y _) hx5 aC _ λc2 hw=>?_
   exact⟨_,_,hw,by omega,y+1,by omega,rfl,rfl⟩
  obtain rfl:y=5:=by omega
  refine⟨λh=>absurd h (by decide),λ_=>?_⟩;refine⟨_,au (y:=((x+1:Nat):Int)) (by omega),?_⟩;exact⟨_,_,Wk.ad [2,3,4,6,7,10,31] [48,64,96,112,160],by omega,x+1,by omega,rfl,rfl⟩
 obtain rfl:x=5:=by have:=j0 h;omega
 rw[<-hb];obtain⟨b0,b1,b2,b3,b4,b5,b6,b7,b8,b9,Ty,Tz,TA,TB,TC,TD,TE,TF,TG,TH,TI,TJ,TK,TL,TM,eb⟩:=fP b.2;rw[es,er,ec,eb];refine⟨λn c'=>∃x,x<=5/\n=5-x/\c'=⟨[(2,U k),(3,.af 48 0),(4,.af 64 0),(6,.af 96 0),(7,.af 112 0),(10,.af 160 0),(15,.af 240 0),(74,I x)],Wo s'.1 r'.1 c.1 b.1 (ot3 s' r' c b k x).1⟩,⟨_,_,Wk.ad [2,3,4,6,7,10,15,74] [48,64,96,112,160,240],0,by omega,rfl,by rw[es,er,ec,eb];rfl⟩,?_⟩;rintro n c' ⟨x,hx,rfl,rfl⟩;refine⟨λh=>?_,λh=>?_⟩
 .have hx5:x<5:=by have:=aP h;omega
  refine⟨λn c'=>∃y,y<=5/\n=5-y/\c'=G7 s'.1 r'.1 c.1 b.1 (in3 s' r' c b k x (ot3 s' r' c b k x) y).1 k x y,⟨_,_,Wk.ad [2,3,4,6,7,10,15,74,16,77] [48,64,96,112,160,240],0,by omega,rfl,rfl⟩,?_⟩;rintro n c' ⟨y,hy,rfl,rfl⟩
  by_cases aC:y<5
  .refine qC (r3' s' r' c b k x y _) hx5 aC _ λc2 hw=>?_
   exact⟨_,_,hw,by omega,y+1,by omega,rfl,rfl⟩
  obtain rfl:y=5:=by omega
  refine⟨λh=>absurd h (by decide),λ_=>?_⟩;refine⟨_,au (y:=((x+1:Nat):Int)) (by omega),?_⟩;exact⟨_,_,Wk.ad [2,3,4,6,7,10,15,74] [48,64,96,112,160,240],by omega,x+1,by omega,rfl,rfl⟩
 obtain rfl:x=5:=by have:=j0 h;omega
 rw[show(ot3 s' r' c b k 5).1=d.1 from by rw[hdE]];clear hdE;obtain⟨dl,Tu⟩:=d;obtain⟨d0,d1,d2,d3,d4,d5,d6,d7,d8,d9,d10,d11,d12,d13,d14,d15,d16,d17,d18,d19,d20,d21,d22,d23,d24,rfl⟩:=fP Tu;exact⟨_,rfl,rfl,rfl,rfl⟩
noncomputable def rd(r:Ln 25)(s:Ln 25)(k:Int):Ln 25:=Classical.choose (aew s r k)
theorem TN(r s:Ln 25)(k:Int):Fn kg 402 [.agg (Us s.1),.agg (r.1.map I),U k] (.agg (Us (rd r s k).1)):=qC (aew s r k)
noncomputable def RI(r:Ln 25)(cons:List Int)(s:Ln 25):Nat->Ln 25
 |0=>s
 |i+1=>rd r (RI r cons s i) (cons.getD i 0)
set_option maxHeartbeats 4000000 in
theorem ajK(s:Ln 25):∃s':Ln 25,Fn kg 368 [.agg (Us s.1)] (.agg (Us s'.1)):=by
 obtain⟨rl,Ec,aex⟩:=ajF;obtain⟨cons,mR,ajL⟩:=ajG;obtain⟨r,hr⟩:∃r:Ln 25,r=⟨rl,Ec⟩:=⟨_,rfl⟩;have hr1:r.1=rl:=by rw[hr]
 obtain⟨R,hR⟩:∃R,R=RI r cons s 24:=⟨_,rfl⟩;refine⟨R,?_⟩;obtain⟨r0,r1,r2,r3,r4,r5,r6,r7,r8,r9,YI,YJ,YK,YL,YM,YN,YO,YP,YQ,YR,YT,YU,YV,YW,YX,ox⟩:=fP Ec;rw[ox]at aex hr1;obtain⟨a0,a1,a2,a3,a4,a5,a6,a7,a8,a9,om,nz,a12,p8,p9,pb,qa,a17,qb,qc,a20,a21,a22,a23,a24,ha⟩:=fP s.2;have h0:(RI r cons s 0).1=[a0,a1,a2,a3,a4,a5,a6,a7,a8,a9,om,nz,a12,p8,p9,pb,qa,a17,qb,qc,a20,a21,a22,a23,a24]:=ha;rw[ha];refine aH adD ⟨_,aex,_,ajL,?_⟩;refine⟨λn c=>∃i,i<=24/\n=24-i/\c=⟨[(1,.af 16 0),(2,.af 32 0),(3,.af 48 0),(7,.agg (Us cons)),(8,I i)],[(16,⟨409,25,.any,[Us (RI r cons s i).1],[]⟩),(32,⟨409,25,.any,[[U 0,U 0,U 0,U 0,U 0,U 0,U 0,U 0,U 0,U 0,U 0,U 0,U 0,U 0,U 0,U 0,U 0,U 0,U 0,U 0,U 0,U 0,U 0,U 0,U 0]],[]⟩),(48,⟨474,25,.any,[[r0,r1,r2,r3,r4,r5,r6,r7,r8,r9,YI,YJ,YK,YL,YM,YN,YO,YP,YQ,YR,YT,YU,YV,YW,YX].map I],[]⟩)]⟩,⟨_,_,Wk.ad [1,2,3,7,8] [16,32,48],0,by omega,rfl,by rw[h0];rfl⟩,?_⟩;rintro n c ⟨i,hi,rfl,rfl⟩
 refine⟨λh=>?_,λh=>?_⟩
 .have aC:i<24:=by have:=aP h;omega
  obtain⟨k,hk⟩:∃k,cons[i]?=some k:=⟨_,aW (by omega)⟩;have hs:=TN r (RI r cons s i) k;have en:rd r (RI r cons s i) k=RI r cons s (i+1):=by rw[RI,lJ,hk];rfl
  rw[en,hr1]at hs;obtain⟨x0,x1,x2,x3,x4,x5,x6,x7,x8,x9,x10,x11,x12,x13,x14,x15,x16,x17,x18,x19,x20,x21,x22,x23,x24,hx⟩:=fP (RI r cons s i).2;obtain⟨y0,y1,y2,y3,y4,y5,y6,y7,y8,y9,Df,Dg,Dh,Di,Dj,Dk,Dl,Dm,Dn,Dp,Dq,Dr,Ds,Dt,Du,hy⟩:=fP (RI r cons s (i+1)).2;rw[hx,hy]at hs;rw[hx];refine⟨[U k],⟨by omega,by omega,by rw[aY,aS,hk];rfl⟩,_,hs,?_⟩;refine⟨_,au (y:=((i+1:Nat):Int)) (by omega),?_⟩;exact⟨_,_,Wk.ad [1,2,3,7,8] [16,32,48],by omega,i+1,by omega,rfl,by rw[hy];rfl⟩
 .obtain rfl:i=24:=by have:=j0 h;omega
  rw[<-hR];obtain⟨x0,x1,x2,x3,x4,x5,x6,x7,x8,x9,x10,x11,x12,x13,x14,x15,x16,x17,x18,x19,x20,x21,x22,x23,x24,hx⟩:=fP R.2;rw[hx];exact⟨rfl,rfl,rfl⟩
noncomputable abbrev aey:Code:=xX (Wl (o0 1 (body Tryz.f326)))
abbrev Wq:List Nat:=[0,1,2,4,5,7,8,9]
abbrev PG(s:List Int)(t:ByteArray)(i:Nat):aM:=⟨[(1,.str t),(2,.af 32 0),(4,.af 64 0),(7,I t.size),(8,I i)],[(32,⟨409,25,.any,[Us s],[]⟩),(64,⟨409,25,.any,[[U 0,U 0,U 0,U 0,U 0,U 0,U 0,U 0,U 0,U 0,U 0,U 0,U 0,U 0,U 0,U 0,U 0,U 0,U 0,U 0,U 0,U 0,U 0,U 0,U 0]],[]⟩)]⟩
theorem Wr(i:Nat):((i:Int)).tmod 8=((i %8:Nat):Int):=by rw[zu (by omega)];omega
theorem ju(i q:Nat)(h:i/8=q):((i:Int)).tdiv 8=(q:Int):=by rw[Int.tdiv_eq_ediv_of_nonneg (by omega)];omega
set_option maxHeartbeats 4000000 in
theorem r4(a0 a1 a2 a3 a4 a5 a6 a7 a8 a9 om nz a12 p8 p9 pb qa a17 qb qc a20 a21 a22 a23 a24:Int)(t:ByteArray)(i q:Nat)(hi:i<t.size)(ht:t.size<=136)(hq:i/8=q):∃s:List Int,s.length=25/\∀Q:Ex->aM->Prop,(∀c',Wk c' (PG s t (i+1))->Q .normal c')->ev kg tt 28 Wq aey (PG [a0,a1,a2,a3,a4,a5,a6,a7,a8,a9,om,nz,a12,p8,p9,pb,qa,a17,qb,qc,a20,a21,a22,a23,a24] t i) Q:=by
 have ajM:q<17:=by omega
 have hm:=Wr i
 match q,ajM,hq with
 |0,_,hq=>
  exact⟨[bits .xor .u64 a0 (IntKind.u64.wrap (IntKind.u64.wrap ((t[((i:Nat):Int).toNat]'(by simpa using hi)).toNat:Nat)*2^(8*((i:Int)).tmod 8).toNat)),a1,a2,a3,a4,a5,a6,a7,a8,a9,om,nz,a12,p8,p9,pb,qa,a17,qb,qc,a20,a21,a22,a23,a24],rfl,λQ hQ=>⟨λ_=>⟨by decide,0,by rw[ju i 0 hq];rfl,⟨by decide,by decide⟩,_,⟨by omega,by simpa using hi,rfl⟩,_,rfl,by decide,8*((i:Int)).tmod 8,by rw[hm,IntKind.wrap_i64];omega,⟨by rw[hm];omega,by rw[hm];show _<=(64:Int);omega⟩,_,rfl,_,rfl,⟨by decide,by decide⟩,_,au (y:=((i+1:Nat):Int)) (by omega),hQ _ (Wk.ad [1,2,4,7,8] [32,64])⟩,λh=>absurd (j0 h) (by omega)⟩⟩
 |1,_,hq=>
  exact⟨[a0,bits .xor .u64 a1 (IntKind.u64.wrap (IntKind.u64.wrap ((t[((i:Nat):Int).toNat]'(by simpa using hi)).toNat:Nat)*2^(8*((i:Int)).tmod 8).toNat)),a2,a3,a4,a5,a6,a7,a8,a9,om,nz,a12,p8,p9,pb,qa,a17,qb,qc,a20,a21,a22,a23,a24],rfl,λQ hQ=>⟨λ_=>⟨by decide,1,by rw[ju i 1 hq];rfl,⟨by decide,by decide⟩,_,⟨by omega,by simpa using hi,rfl⟩,_,rfl,by decide,8*((i:Int)).tmod 8,by rw[hm,IntKind.wrap_i64];omega,⟨by rw[hm];omega,by rw[hm];show _<=(64:Int);omega⟩,_,rfl,_,rfl,⟨by decide,by decide⟩,_,au (y:=((i+1:Nat):Int)) (by omega),hQ _ (Wk.ad [1,2,4,7,8] [32,64])⟩,λh=>absurd (j0 h) (by omega)⟩⟩
 |2,_,hq=>
  exact⟨[a0,a1,bits .xor .u64 a2 (IntKind.u64.wrap (IntKind.u64.wrap ((t[((i:Nat):Int).toNat]'(by simpa using hi)).toNat:Nat)*2^(8*((i:Int)).tmod 8).toNat)),a3,a4,a5,a6,a7,a8,a9,om,nz,a12,p8,p9,pb,qa,a17,qb,qc,a20,a21,a22,a23,a24],rfl,λQ hQ=>⟨λ_=>⟨by decide,2,by rw[ju i 2 hq];rfl,⟨by decide,by decide⟩,_,⟨by omega,by simpa using hi,rfl⟩,_,rfl,by decide,8*((i:Int)).tmod 8,by rw[hm,IntKind.wrap_i64];omega,⟨by rw[hm];omega,by rw[hm];show _<=(64:Int);omega⟩,_,rfl,_,rfl,⟨by decide,by decide⟩,_,au (y:=((i+1:Nat):Int)) (by omega),hQ _ (Wk.ad [1,2,4,7,8] [32,64])⟩,λh=>absurd (j0 h) (by omega)⟩⟩
 |3,_,hq=>
  exact⟨[a0,a1,a2,bits .xor .u64 a3 (IntKind.u64.wrap (IntKind.u64.wrap ((t[((i:Nat):Int).toNat]'(by simpa using hi)).toNat:Nat)*2^(8*((i:Int)).tmod 8).toNat)),a4,a5,a6,a7,a8,a9,om,nz,a12,p8,p9,pb,qa,a17,qb,qc,a20,a21,a22,a23,a24],rfl,λQ hQ=>⟨λ_=>⟨by decide,3,by rw[ju i 3 hq];rfl,⟨by decide,by decide⟩,_,⟨by omega,by simpa using hi,rfl⟩,_,rfl,by decide,8*((i:Int)).tmod 8,by rw[hm,IntKind.wrap_i64];omega,⟨by rw[hm];omega,by rw[hm];show _<=(64:Int);omega⟩,_,rfl,_,rfl,⟨by decide,by decide⟩,_,au (y:=((i+1:Nat):Int)) (by omega),hQ _ (Wk.ad [1,2,4,7,8] [32,64])⟩,λh=>absurd (j0 h) (by omega)⟩⟩
 |4,_,hq=>
  exact⟨[a0,a1,a2,a3,bits .xor .u64 a4 (IntKind.u64.wrap (IntKind.u64.wrap ((t[((i:Nat):Int).toNat]'(by simpa using hi)).toNat:Nat)*2^(8*((i:Int)).tmod 8).toNat)),a5,a6,a7,a8,a9,om,nz,a12,p8,p9,pb,qa,a17,qb,qc,a20,a21,a22,a23,a24],rfl,λQ hQ=>⟨λ_=>⟨by decide,4,by rw[ju i 4 hq];rfl,⟨by decide,by decide⟩,_,⟨by omega,by simpa using hi,rfl⟩,_,rfl,by decide,8*((i:Int)).tmod 8,by rw[hm,IntKind.wrap_i64];omega,⟨by rw[hm];omega,by rw[hm];show _<=(64:Int);omega⟩,_,rfl,_,rfl,⟨by decide,by decide⟩,_,au (y:=((i+1:Nat):Int)) (by omega),hQ _ (Wk.ad [1,2,4,7,8] [32,64])⟩,λh=>absurd (j0 h) (by omega)⟩⟩
 |5,_,hq=>
  exact⟨[a0,a1,a2,a3,a4,bits .xor .u64 a5 (IntKind.u64.wrap (IntKind.u64.wrap ((t[((i:Nat):Int).toNat]'(by simpa using hi)).toNat:Nat)*2^(8*((i:Int)).tmod 8).toNat)),a6,a7,a8,a9,om,nz,a12,p8,p9,pb,qa,a17,qb,qc,a20,a21,a22,a23,a24],rfl,λQ hQ=>⟨λ_=>⟨by decide,5,by rw[ju i 5 hq];rfl,⟨by decide,by decide⟩,_,⟨by omega,by simpa using hi,rfl⟩,_,rfl,by decide,8*((i:Int)).tmod 8,by rw[hm,IntKind.wrap_i64];omega,⟨by rw[hm];omega,by rw[hm];show _<=(64:Int);omega⟩,_,rfl,_,rfl,⟨by decide,by decide⟩,_,au (y:=((i+1:Nat):Int)) (by omega),hQ _ (Wk.ad [1,2,4,7,8] [32,64])⟩,λh=>absurd (j0 h) (by omega)⟩⟩
 |6,_,hq=>
  exact⟨[a0,a1,a2,a3,a4,a5,bits .xor .u64 a6 (IntKind.u64.wrap (IntKind.u64.wrap ((t[((i:Nat):Int).toNat]'(by simpa using hi)).toNat:Nat)*2^(8*((i:Int)).tmod 8).toNat)),a7,a8,a9,om,nz,a12,p8,p9,pb,qa,a17,qb,qc,a20,a21,a22,a23,a24],rfl,λQ hQ=>⟨λ_=>⟨by decide,6,by rw[ju i 6 hq];rfl,⟨by decide,by decide⟩,_,⟨by omega,by simpa using hi,rfl⟩,_,rfl,by decide,8*((i:Int)).tmod 8,by rw[hm,IntKind.wrap_i64];omega,⟨by rw[hm];omega,by rw[hm];show _<=(64:Int);omega⟩,_,rfl,_,rfl,⟨by decide,by decide⟩,_,au (y:=((i+1:Nat):Int)) (by omega),hQ _ (Wk.ad [1,2,4,7,8] [32,64])⟩,λh=>absurd (j0 h) (by omega)⟩⟩
 |7,_,hq=>
  exact⟨[a0,a1,a2,a3,a4,a5,a6,bits .xor .u64 a7 (IntKind.u64.wrap (IntKind.u64.wrap ((t[((i:Nat):Int).toNat]'(by simpa using hi)).toNat:Nat)*2^(8*((i:Int)).tmod 8).toNat)),a8,a9,om,nz,a12,p8,p9,pb,qa,a17,qb,qc,a20,a21,a22,a23,a24],rfl,λQ hQ=>⟨λ_=>⟨by decide,7,by rw[ju i 7 hq];rfl,⟨by decide,by decide⟩,_,⟨by omega,by simpa using hi,rfl⟩,_,rfl,by decide,8*((i:Int)).tmod 8,by rw[hm,IntKind.wrap_i64];omega,⟨by rw[hm];omega,by rw[hm];show _<=(64:Int);omega⟩,_,rfl,_,rfl,⟨by decide,by decide⟩,_,au (y:=((i+1:Nat):Int)) (by omega),hQ _ (Wk.ad [1,2,4,7,8] [32,64])⟩,λh=>absurd (j0 h) (by omega)⟩⟩
 |8,_,hq=>
  exact⟨[a0,a1,a2,a3,a4,a5,a6,a7,bits .xor .u64 a8 (IntKind.u64.wrap (IntKind.u64.wrap ((t[((i:Nat):Int).toNat]'(by simpa using hi)).toNat:Nat)*2^(8*((i:Int)).tmod 8).toNat)),a9,om,nz,a12,p8,p9,pb,qa,a17,qb,qc,a20,a21,a22,a23,a24],rfl,λQ hQ=>⟨λ_=>⟨by decide,8,by rw[ju i 8 hq];rfl,⟨by decide,by decide⟩,_,⟨by omega,by simpa using hi,rfl⟩,_,rfl,by decide,8*((i:Int)).tmod 8,by rw[hm,IntKind.wrap_i64];omega,⟨by rw[hm];omega,by rw[hm];show _<=(64:Int);omega⟩,_,rfl,_,rfl,⟨by decide,by decide⟩,_,au (y:=((i+1:Nat):Int)) (by omega),hQ _ (Wk.ad [1,2,4,7,8] [32,64])⟩,λh=>absurd (j0 h) (by omega)⟩⟩
 |9,_,hq=>
  exact⟨[a0,a1,a2,a3,a4,a5,a6,a7,a8,bits .xor .u64 a9 (IntKind.u64.wrap (IntKind.u64.wrap ((t[((i:Nat):Int).toNat]'(by simpa using hi)).toNat:Nat)*2^(8*((i:Int)).tmod 8).toNat)),om,nz,a12,p8,p9,pb,qa,a17,qb,qc,a20,a21,a22,a23,a24],rfl,λQ hQ=>⟨λ_=>⟨by decide,9,by rw[ju i 9 hq];rfl,⟨by decide,by decide⟩,_,⟨by omega,by simpa using hi,rfl⟩,_,rfl,by decide,8*((i:Int)).tmod 8,by rw[hm,IntKind.wrap_i64];omega,⟨by rw[hm];omega,by rw[hm];show _<=(64:Int);omega⟩,_,rfl,_,rfl,⟨by decide,by decide⟩,_,au (y:=((i+1:Nat):Int)) (by omega),hQ _ (Wk.ad [1,2,4,7,8] [32,64])⟩,λh=>absurd (j0 h) (by omega)⟩⟩
 |10,_,hq=>
  exact⟨[a0,a1,a2,a3,a4,a5,a6,a7,a8,a9,bits .xor .u64 om (IntKind.u64.wrap (IntKind.u64.wrap ((t[((i:Nat):Int).toNat]'(by simpa using hi)).toNat:Nat)*2^(8*((i:Int)).tmod 8).toNat)),nz,a12,p8,p9,pb,qa,a17,qb,qc,a20,a21,a22,a23,a24],rfl,λQ hQ=>⟨λ_=>⟨by decide,10,by rw[ju i 10 hq];rfl,⟨by decide,by decide⟩,_,⟨by omega,by simpa using hi,rfl⟩,_,rfl,by decide,8*((i:Int)).tmod 8,by rw[hm,IntKind.wrap_i64];omega,⟨by rw[hm];omega,by rw[hm];show _<=(64:Int);omega⟩,_,rfl,_,rfl,⟨by decide,by decide⟩,_,au (y:=((i+1:Nat):Int)) (by omega),hQ _ (Wk.ad [1,2,4,7,8] [32,64])⟩,λh=>absurd (j0 h) (by omega)⟩⟩
 |11,_,hq=>
  exact⟨[a0,a1,a2,a3,a4,a5,a6,a7,a8,a9,om,bits .xor .u64 nz (IntKind.u64.wrap (IntKind.u64.wrap ((t[((i:Nat):Int).toNat]'(by simpa using hi)).toNat:Nat)*2^(8*((i:Int)).tmod 8).toNat)),a12,p8,p9,pb,qa,a17,qb,qc,a20,a21,a22,a23,a24],rfl,λQ hQ=>⟨λ_=>⟨by decide,11,by rw[ju i 11 hq];rfl,⟨by decide,by decide⟩,_,⟨by omega,by simpa using hi,rfl⟩,_,rfl,by decide,8*((i:Int)).tmod 8,by rw[hm,IntKind.wrap_i64];omega,⟨by rw[hm];omega,by rw[hm];show _<=(64:Int);omega⟩,_,rfl,_,rfl,⟨by decide,by decide⟩,_,au (y:=((i+1:Nat):Int)) (by omega),hQ _ (Wk.ad [1,2,4,7,8] [32,64])⟩,λh=>absurd (j0 h) (by omega)⟩⟩
 |12,_,hq=>
  exact⟨[a0,a1,a2,a3,a4,a5,a6,a7,a8,a9,om,nz,bits .xor .u64 a12 (IntKind.u64.wrap (IntKind.u64.wrap ((t[((i:Nat):Int).toNat]'(by simpa using hi)).toNat:Nat)*2^(8*((i:Int)).tmod 8).toNat)),p8,p9,pb,qa,a17,qb,qc,a20,a21,a22,a23,a24],rfl,λQ hQ=>⟨λ_=>⟨by decide,12,by rw[ju i 12 hq];rfl,⟨by decide,by decide⟩,_,⟨by omega,by simpa using hi,rfl⟩,_,rfl,by decide,8*((i:Int)).tmod 8,by rw[hm,IntKind.wrap_i64];omega,⟨by rw[hm];omega,by rw[hm];show _<=(64:Int);omega⟩,_,rfl,_,rfl,⟨by decide,by decide⟩,_,au (y:=((i+1:Nat):Int)) (by omega),hQ _ (Wk.ad [1,2,4,7,8] [32,64])⟩,λh=>absurd (j0 h) (by omega)⟩⟩
 |13,_,hq=>
  exact⟨[a0,a1,a2,a3,a4,a5,a6,a7,a8,a9,om,nz,a12,bits .xor .u64 p8 (IntKind.u64.wrap (IntKind.u64.wrap ((t[((i:Nat):Int).toNat]'(by simpa using hi)).toNat:Nat)*2^(8*((i:Int)).tmod 8).toNat)),p9,pb,qa,a17,qb,qc,a20,a21,a22,a23,a24],rfl,λQ hQ=>⟨λ_=>⟨by decide,13,by rw[ju i 13 hq];rfl,⟨by decide,by decide⟩,_,⟨by omega,by simpa using hi,rfl⟩,_,rfl,by decide,8*((i:Int)).tmod 8,by rw[hm,IntKind.wrap_i64];omega,⟨by rw[hm];omega,by rw[hm];show _<=(64:Int);omega⟩,_,rfl,_,rfl,⟨by decide,by decide⟩,_,au (y:=((i+1:Nat):Int)) (by omega),hQ _ (Wk.ad [1,2,4,7,8] [32,64])⟩,λh=>absurd (j0 h) (by omega)⟩⟩
 |14,_,hq=>
  exact⟨[a0,a1,a2,a3,a4,a5,a6,a7,a8,a9,om,nz,a12,p8,bits .xor .u64 p9 (IntKind.u64.wrap (IntKind.u64.wrap ((t[((i:Nat):Int).toNat]'(by simpa using hi)).toNat:Nat)*2^(8*((i:Int)).tmod 8).toNat)),pb,qa,a17,qb,qc,a20,a21,a22,a23,a24],rfl,λQ hQ=>⟨λ_=>⟨by decide,14,by rw[ju i 14 hq];rfl,⟨by decide,by decide⟩,_,⟨by omega,by simpa using hi,rfl⟩,_,rfl,by decide,8*((i:Int)).tmod 8,by rw[hm,IntKind.wrap_i64];omega,⟨by rw[hm];omega,by rw[hm];show _<=(64:Int);omega⟩,_,rfl,_,rfl,⟨by decide,by decide⟩,_,au (y:=((i+1:Nat):Int)) (by omega),hQ _ (Wk.ad [1,2,4,7,8] [32,64])⟩,λh=>absurd (j0 h) (by omega)⟩⟩
 |15,_,hq=>
  exact⟨[a0,a1,a2,a3,a4,a5,a6,a7,a8,a9,om,nz,a12,p8,p9,bits .xor .u64 pb (IntKind.u64.wrap (IntKind.u64.wrap ((t[((i:Nat):Int).toNat]'(by simpa using hi)).toNat:Nat)*2^(8*((i:Int)).tmod 8).toNat)),qa,a17,qb,qc,a20,a21,a22,a23,a24],rfl,λQ hQ=>⟨λ_=>⟨by decide,15,by rw[ju i 15 hq];rfl,⟨by decide,by decide⟩,_,⟨by omega,by simpa using hi,rfl⟩,_,rfl,by decide,8*((i:Int)).tmod 8,by rw[hm,IntKind.wrap_i64];omega,⟨by rw[hm];omega,by rw[hm];show _<=(64:Int);omega⟩,_,rfl,_,rfl,⟨by decide,by decide⟩,_,au (y:=((i+1:Nat):Int)) (by omega),hQ _ (Wk.ad [1,2,4,7,8] [32,64])⟩,λh=>absurd (j0 h) (by omega)⟩⟩
 |16,_,hq=>
  exact⟨[a0,a1,a2,a3,a4,a5,a6,a7,a8,a9,om,nz,a12,p8,p9,pb,bits .xor .u64 qa (IntKind.u64.wrap (IntKind.u64.wrap ((t[((i:Nat):Int).toNat]'(by simpa using hi)).toNat:Nat)*2^(8*((i:Int)).tmod 8).toNat)),a17,qb,qc,a20,a21,a22,a23,a24],rfl,λQ hQ=>⟨λ_=>⟨by decide,16,by rw[ju i 16 hq];rfl,⟨by decide,by decide⟩,_,⟨by omega,by simpa using hi,rfl⟩,_,rfl,by decide,8*((i:Int)).tmod 8,by rw[hm,IntKind.wrap_i64];omega,⟨by rw[hm];omega,by rw[hm];show _<=(64:Int);omega⟩,_,rfl,_,rfl,⟨by decide,by decide⟩,_,au (y:=((i+1:Nat):Int)) (by omega),hQ _ (Wk.ad [1,2,4,7,8] [32,64])⟩,λh=>absurd (j0 h) (by omega)⟩⟩
 |n+17,h,_=>exact absurd h (by omega)
theorem r4'(t:ByteArray)(i:Nat)(s:Ln 25):∃s':Ln 25,i<t.size->t.size<=136->∀Q:Ex->aM->Prop,(∀c',Wk c' (PG s'.1 t (i+1))->Q .normal c')->ev kg tt 28 Wq aey (PG s.1 t i) Q:=by
 obtain⟨s,hs⟩:=s
 by_cases hi:i<t.size
 .by_cases ht:t.size<=136
  .obtain⟨a0,a1,a2,a3,a4,a5,a6,a7,a8,a9,om,nz,a12,p8,p9,pb,qa,a17,qb,qc,a20,a21,a22,a23,a24,rfl⟩:=fP hs
   obtain⟨s',eh,h⟩:=r4 a0 a1 a2 a3 a4 a5 a6 a7 a8 a9 om nz a12 p8 p9 pb qa a17 qb qc a20 a21 a22 a23 a24 t i (i/8) hi ht rfl;exact⟨⟨s',eh⟩,λ_ _=>h⟩
  .exact⟨⟨s,hs⟩,λ_ h=>absurd h ht⟩
 .exact⟨⟨s,hs⟩,λh=>absurd h hi⟩
noncomputable def it4(t:ByteArray)(s:Ln 25):Nat->Ln 25
 |0=>s
 |i+1=>Classical.choose (r4' t i (it4 t s i))
set_option maxHeartbeats 4000000 in
theorem ajN(s:Ln 25)(t:ByteArray)(ht:t.size<=136):∃s':Ln 25,Fn kg 326 [.agg (Us s.1),.str t] (.agg (Us s'.1)):=by
 obtain⟨R,aez⟩:=ajK (it4 t s t.size);refine⟨R,?_⟩;obtain⟨a0,a1,a2,a3,a4,a5,a6,a7,a8,a9,om,nz,a12,p8,p9,pb,qa,a17,qb,qc,a20,a21,a22,a23,a24,ha⟩:=fP s.2;have h0:(it4 t s 0).1=[a0,a1,a2,a3,a4,a5,a6,a7,a8,a9,om,nz,a12,p8,p9,pb,qa,a17,qb,qc,a20,a21,a22,a23,a24]:=ha;rw[ha];refine aH ads ?_;refine⟨λn c=>∃i,i<=t.size/\n=t.size-i/\c=PG (it4 t s i).1 t i,⟨_,_,Wk.ad [1,2,4,7,8] [32,64],0,by omega,rfl,by rw[h0];rfl⟩,?_⟩;rintro n c ⟨i,hi,rfl,rfl⟩
 by_cases aC:i<t.size
 .refine qC (r4' t i _) aC ht _ λc2 hw=>?_
  exact⟨_,_,hw,by omega,i+1,by omega,rfl,rfl⟩
 obtain rfl:i=t.size:=by omega
 obtain⟨x0,x1,x2,x3,x4,x5,x6,x7,x8,x9,x10,x11,x12,x13,x14,x15,x16,x17,x18,x19,x20,x21,x22,x23,x24,hx⟩:=fP (it4 t s t.size).2;obtain⟨y0,y1,y2,y3,y4,y5,y6,y7,y8,y9,Df,Dg,Dh,Di,Dj,Dk,Dl,Dm,Dn,Dp,Dq,Dr,Ds,Dt,Du,hy⟩:=fP R.2;rw[hx,hy]at aez;rw[hx,hy];exact⟨λh=>absurd (aP h) (by omega),λ_=>⟨_,aez,rfl,rfl,rfl⟩⟩
abbrev Ms(s:List Int)(b:ByteArray)(n:Int):ak:=⟨411,27,.any,[Us s++[.str b,I n]],[]⟩
theorem ajO:fS kg 280 [] [] [] [(32,Ms z25.1 ⟨#[]⟩ 0)] (.af 32 0):=dK adT [] [] (λb h=>by cases h) ⟨_,aj.refl _ _,rfl,rfl,rfl⟩
set_option maxHeartbeats 4000000 in
theorem ajP(t:ByteArray)(ht:t.size<=135):fS kg 281 [.af 18 0,.aL 1 1 [[.str t]]] [(18,Ms z25.1 ⟨#[]⟩ 0)] [18] [(18,Ms z25.1 (⟨#[]⟩++t) t.size)] (I t.size):=by
 have bJ:((⟨#[]⟩:ByteArray)++t).size=t.size:=by rw[zv];show 0+t.size=_;omega
 refine dK adU [] [] (λb h=>?_) ?_
 .simp only[bm]at h
  split at h
  .rename_i e;rw[beq_true e];exact⟨rfl,rfl⟩
  .cases h
 refine⟨λm c=>(m=1/\c=⟨[(0,.af 18 0),(1,.aL 1 1 [[.str t]]),(4,I 0),(7,.aL 1 1 [[.str t]]),(8,I 1),(9,I 0)],[(18,Ms z25.1 ⟨#[]⟩ 0)]⟩)∨(m=0/\c=⟨[(0,.af 18 0),(4,I 0),(7,.aL 1 1 [[.str t]]),(8,I 1),(9,I 1)],[(18,Ms z25.1 (⟨#[]⟩++t) t.size)]⟩),⟨_,_,aj.ad [0,1,4,7,8,9] [18],.inl ⟨rfl,rfl⟩⟩,?_⟩;rintro m c (⟨rfl,rfl⟩|⟨rfl,rfl⟩)
 .refine⟨λ_=>?_,λh=>absurd h (by decide)⟩
  refine⟨⟨by decide,by decide⟩,[.str t],rfl,_,au (y:=(t.size:Int)) (by omega),⟨by show 0+t.size<=_;omega,?_⟩⟩;refine⟨λm c=>m=0/\c=⟨[(0,.af 18 0),(4,I 0),(7,.aL 1 1 [[.str t]]),(8,I 1),(9,I 0)],[(18,Ms z25.1 (⟨#[]⟩++t) t.size)]⟩,⟨_,_,aj.ad [0,4,7,8,9] [18],rfl,rfl⟩,?_⟩;rintro m c ⟨rfl,rfl⟩;refine⟨λh=>?_,λ_=>?_⟩
  .have h:(((⟨#[]⟩:ByteArray)++t).size:Int)>=136:=aP h
   rw[bJ]at h;omega
  .exact⟨_,au (y:=1) (by decide) (by decide) (by decide),_,_,aj.ad [0,4,7,8,9] [18],by omega,.inr ⟨rfl,rfl⟩⟩
 .refine⟨λh=>absurd h (by decide),λ_=>?_⟩
  exact⟨_,aj.ad [4] [18],rfl,rfl,rfl⟩
end Go.an.ax.G
namespace Go.Proofs
open Go.Shelf
def Tryz.xY:Go.Shelf.Ren:=⟨λ|105=>327|212=>369|99=>370|165=>371|166=>372|170=>373|169=>374|263=>403|264=>404|206=>405|240=>406|241=>407|276=>426|277=>427|n=>n,λ|9=>9|3=>3|4=>4|20=>20|0=>0|46=>226|109=>443|5=>5|72=>447|76=>451|51=>423|146=>479|53=>408|148=>481|70=>445|37=>202|75=>450|127=>483|164=>498|80=>374|n=>n,λ|n=>n⟩
theorem Tryz.TO:Go.Proofs.Lays.n105 Tryz.prog Tryz.xY:={
 mixed:=by kernel_rfl
 f99:=Tryz.func370.trans (congrArg some (by kernel_rfl))
 f105:=Tryz.func327.trans (congrArg some (by kernel_rfl))
 f165:=Tryz.func371.trans (congrArg some (by kernel_rfl))
 f166:=Tryz.func372.trans (congrArg some (by kernel_rfl))
 f169:=Tryz.func374.trans (congrArg some (by kernel_rfl))
 f170:=Tryz.func373.trans (congrArg some (by kernel_rfl))
 f206:=Tryz.func405.trans (congrArg some (by kernel_rfl))
 f212:=Tryz.func369.trans (congrArg some (by kernel_rfl))
 f240:=Tryz.func406.trans (congrArg some (by kernel_rfl))
 f241:=Tryz.func407.trans (congrArg some (by kernel_rfl))
 f263:=Tryz.func403.trans (congrArg some (by kernel_rfl))
 f264:=Tryz.func404.trans (congrArg some (by kernel_rfl))
 f276:=Tryz.func426.trans (congrArg some (by kernel_rfl))
 f277:=Tryz.func427.trans (congrArg some (by kernel_rfl))
 t0:=Tryz.underlying0
 a0:=Tryz.isAgg0
 z0:=Tryz.sizeOf0
 v0:=Tryz.zeroValue0
 t3:=Tryz.underlying3
 a3:=Tryz.isAgg3
 z3:=Tryz.sizeOf3
 v3:=Tryz.zeroValue3
 t4:=Tryz.underlying4
 a4:=Tryz.isAgg4
 z4:=Tryz.sizeOf4
 v4:=Tryz.zeroValue4
 t5:=Tryz.underlying5
 a5:=Tryz.isAgg5
 z5:=Tryz.sizeOf5
 v5:=Tryz.zeroValue5
 t9:=Tryz.underlying9
 a9:=Tryz.isAgg9
 z9:=Tryz.sizeOf9
 v9:=Tryz.zeroValue9
 t20:=Tryz.underlying20
 a20:=Tryz.isAgg20
 z20:=Tryz.sizeOf20
 v20:=Tryz.zeroValue20
 t37:=Tryz.underlying202
 a37:=Tryz.isAgg202
 z37:=Tryz.sizeOf202
 v37:=Tryz.zeroValue202
 t46:=Tryz.underlying226
 a46:=Tryz.isAgg226
 z46:=Tryz.sizeOf226
 v46:=Tryz.zeroValue226
 t51:=Tryz.underlying423
 a51:=Tryz.isAgg423
 z51:=Tryz.sizeOf423
 v51:=Tryz.zeroValue423
 t53:=Tryz.underlying408
 a53:=Tryz.isAgg408
 z53:=Tryz.sizeOf408
 v53:=Tryz.zeroValue408
 t70:=Tryz.underlying445
 a70:=Tryz.isAgg445
 z70:=Tryz.sizeOf445
 v70:=Tryz.zeroValue445
 t72:=Tryz.underlying447
 a72:=Tryz.isAgg447
 z72:=Tryz.sizeOf447
 v72:=Tryz.zeroValue447
 t75:=Tryz.underlying450
 a75:=Tryz.isAgg450
 z75:=Tryz.sizeOf450
 v75:=Tryz.zeroValue450
 t76:=Tryz.underlying451
 a76:=Tryz.isAgg451
 z76:=Tryz.sizeOf451
 v76:=Tryz.zeroValue451
 t109:=Tryz.underlying443
 a109:=Tryz.isAgg443
 z109:=Tryz.sizeOf443
 v109:=Tryz.zeroValue443
 t127:=Tryz.underlying483
 a127:=Tryz.isAgg483
 z127:=Tryz.sizeOf483
 v127:=Tryz.zeroValue483
 t146:=Tryz.underlying479
 a146:=Tryz.isAgg479
 z146:=Tryz.sizeOf479
 v146:=Tryz.zeroValue479
 t148:=Tryz.underlying481
 a148:=Tryz.isAgg481
 z148:=Tryz.sizeOf481
 v148:=Tryz.zeroValue481
 t164:=Tryz.underlying498
 a164:=Tryz.isAgg498
 z164:=Tryz.sizeOf498
 v164:=Tryz.zeroValue498}
theorem Tryz.I5:Go.Proofs.Builder.Extra Tryz.prog Tryz.xY:={
 sizeBuilder:=by kernel_rfl
 liesBuilder:=by kernel_rfl
 t5:=Tryz.underlying5
 a5:=Tryz.isAgg5
 z5:=Tryz.sizeOf5
 v5:=Tryz.zeroValue5
 infoByte:=by kernel_rfl
 cellsByte:=by kernel_rfl
 sizeByte:=by kernel_rfl
 neB5:=by decide}
def Tryz.EM:Go.Shelf.Ren:=⟨λ|144=>271|143=>323|219=>366|217=>396|225=>397|224=>398|267=>399|266=>423|314=>424|n=>n,λ|9=>9|4=>4|3=>3|5=>5|46=>226|146=>479|51=>423|n=>n,λ|1=>0|n=>n⟩
theorem Tryz.G8:Go.Proofs.LaysM.n144 Tryz.prog Tryz.EM:={
 mixed:=by kernel_rfl
 f143:=Tryz.func323.trans (congrArg some (by kernel_rfl))
 f144:=Tryz.func271.trans (congrArg some (by kernel_rfl))
 f217:=Tryz.func396.trans (congrArg some (by kernel_rfl))
 f219:=Tryz.func366.trans (congrArg some (by kernel_rfl))
 f224:=Tryz.func398.trans (congrArg some (by kernel_rfl))
 f225:=Tryz.func397.trans (congrArg some (by kernel_rfl))
 f266:=Tryz.func423.trans (congrArg some (by kernel_rfl))
 f267:=Tryz.func399.trans (congrArg some (by kernel_rfl))
 f314:=Tryz.func424.trans (congrArg some (by kernel_rfl))
 t3:=Tryz.underlying3
 a3:=Tryz.isAgg3
 z3:=Tryz.sizeOf3
 v3:=Tryz.zeroValue3
 t4:=Tryz.underlying4
 a4:=Tryz.isAgg4
 z4:=Tryz.sizeOf4
 v4:=Tryz.zeroValue4
 t5:=Tryz.underlying5
 a5:=Tryz.isAgg5
 z5:=Tryz.sizeOf5
 v5:=Tryz.zeroValue5
 t9:=Tryz.underlying9
 a9:=Tryz.isAgg9
 z9:=Tryz.sizeOf9
 v9:=Tryz.zeroValue9
 t46:=Tryz.underlying226
 a46:=Tryz.isAgg226
 z46:=Tryz.sizeOf226
 v46:=Tryz.zeroValue226
 t51:=Tryz.underlying423
 a51:=Tryz.isAgg423
 z51:=Tryz.sizeOf423
 v51:=Tryz.zeroValue423
 t146:=Tryz.underlying479
 a146:=Tryz.isAgg479
 z146:=Tryz.sizeOf479
 v146:=Tryz.zeroValue479
 g1:=by kernel_rfl
 i3:=by kernel_rfl
 i4:=by kernel_rfl
 i5:=by kernel_rfl
 i9:=by kernel_rfl
 i46:=by kernel_rfl
 i51:=by kernel_rfl
 i146:=by kernel_rfl
 m1:=by kernel_rfl
 s1_3:=λw h=>Go.Proofs.cell_of_shapedOpen_int (zero:=#[.int .i64 0]) (t:=3) h (of_decide_eq_true (by kernel_rfl)) (by kernel_rfl) rfl (by kernel_rfl) (by kernel_rfl) Tryz.underlying3}
def Tryz.EN:Go.Shelf.Ren:=⟨λ|17=>272|15=>324|20=>367|n=>n,λ|9=>9|23=>363|4=>4|3=>3|0=>0|21=>21|n=>n,λ|n=>n⟩
theorem Tryz.PH:Go.Proofs.LaysGw.n17 Tryz.prog Tryz.EN:={
 mixed:=by kernel_rfl
 f15:=Tryz.func324.trans (congrArg some (by kernel_rfl))
 f17:=Tryz.func272.trans (congrArg some (by kernel_rfl))
 f20:=Tryz.func367.trans (congrArg some (by kernel_rfl))
 t0:=Tryz.underlying0
 a0:=Tryz.isAgg0
 z0:=Tryz.sizeOf0
 v0:=Tryz.zeroValue0
 i0:=by kernel_rfl
 t3:=Tryz.underlying3
 a3:=Tryz.isAgg3
 z3:=Tryz.sizeOf3
 v3:=Tryz.zeroValue3
 i3:=by kernel_rfl
 t4:=Tryz.underlying4
 a4:=Tryz.isAgg4
 z4:=Tryz.sizeOf4
 v4:=Tryz.zeroValue4
 i4:=by kernel_rfl
 t9:=Tryz.underlying9
 a9:=Tryz.isAgg9
 z9:=Tryz.sizeOf9
 v9:=Tryz.zeroValue9
 i9:=by kernel_rfl
 t21:=Tryz.underlying21
 a21:=Tryz.isAgg21
 z21:=Tryz.sizeOf21
 v21:=Tryz.zeroValue21
 i21:=by kernel_rfl
 t23:=Tryz.underlying363
 a23:=Tryz.isAgg363
 z23:=Tryz.sizeOf363
 v23:=Tryz.zeroValue363
 i23:=by kernel_rfl}
def Tryz.EO:Go.Shelf.Ren:=⟨λ|171=>209|243=>283|246=>328|283=>375|284=>376|285=>377|286=>378|129=>338|317=>408|318=>409|319=>410|320=>411|337=>428|338=>429|n=>n,λ|3=>3|9=>9|2=>2|4=>4|171=>454|0=>0|53=>408|37=>202|5=>5|173=>456|212=>485|51=>423|20=>20|213=>486|46=>226|232=>504|233=>505|n=>n,λ|17=>1|18=>2|19=>3|n=>n⟩
theorem Tryz.PI:Go.Proofs.LaysM.n171 Tryz.prog Tryz.EO:={
 mixed:=by kernel_rfl
 f129:=Tryz.func338.trans (congrArg some (by kernel_rfl))
 f171:=Tryz.func209.trans (congrArg some (by kernel_rfl))
 f243:=Tryz.func283.trans (congrArg some (by kernel_rfl))
 f246:=Tryz.func328.trans (congrArg some (by kernel_rfl))
 f283:=Tryz.func375.trans (congrArg some (by kernel_rfl))
 f284:=Tryz.func376.trans (congrArg some (by kernel_rfl))
 f285:=Tryz.func377.trans (congrArg some (by kernel_rfl))
 f286:=Tryz.func378.trans (congrArg some (by kernel_rfl))
 f317:=Tryz.func408.trans (congrArg some (by kernel_rfl))
 f318:=Tryz.func409.trans (congrArg some (by kernel_rfl))
 f319:=Tryz.func410.trans (congrArg some (by kernel_rfl))
 f320:=Tryz.func411.trans (congrArg some (by kernel_rfl))
 f337:=Tryz.func428.trans (congrArg some (by kernel_rfl))
 f338:=Tryz.func429.trans (congrArg some (by kernel_rfl))
 t0:=Tryz.underlying0
 a0:=Tryz.isAgg0
 z0:=Tryz.sizeOf0
 v0:=Tryz.zeroValue0
 t2:=Tryz.underlying2
 a2:=Tryz.isAgg2
 z2:=Tryz.sizeOf2
 v2:=Tryz.zeroValue2
 t3:=Tryz.underlying3
 a3:=Tryz.isAgg3
 z3:=Tryz.sizeOf3
 v3:=Tryz.zeroValue3
 t4:=Tryz.underlying4
 a4:=Tryz.isAgg4
 z4:=Tryz.sizeOf4
 v4:=Tryz.zeroValue4
 t5:=Tryz.underlying5
 a5:=Tryz.isAgg5
 z5:=Tryz.sizeOf5
 v5:=Tryz.zeroValue5
 t9:=Tryz.underlying9
 a9:=Tryz.isAgg9
 z9:=Tryz.sizeOf9
 v9:=Tryz.zeroValue9
 t20:=Tryz.underlying20
 a20:=Tryz.isAgg20
 z20:=Tryz.sizeOf20
 v20:=Tryz.zeroValue20
 t37:=Tryz.underlying202
 a37:=Tryz.isAgg202
 z37:=Tryz.sizeOf202
 v37:=Tryz.zeroValue202
 t46:=Tryz.underlying226
 a46:=Tryz.isAgg226
 z46:=Tryz.sizeOf226
 v46:=Tryz.zeroValue226
 t51:=Tryz.underlying423
 a51:=Tryz.isAgg423
 z51:=Tryz.sizeOf423
 v51:=Tryz.zeroValue423
 t53:=Tryz.underlying408
 a53:=Tryz.isAgg408
 z53:=Tryz.sizeOf408
 v53:=Tryz.zeroValue408
 t171:=Tryz.underlying454
 a171:=Tryz.isAgg454
 z171:=Tryz.sizeOf454
 v171:=Tryz.zeroValue454
 t173:=Tryz.underlying456
 a173:=Tryz.isAgg456
 z173:=Tryz.sizeOf456
 v173:=Tryz.zeroValue456
 t212:=Tryz.underlying485
 a212:=Tryz.isAgg485
 z212:=Tryz.sizeOf485
 v212:=Tryz.zeroValue485
 t213:=Tryz.underlying486
 a213:=Tryz.isAgg486
 z213:=Tryz.sizeOf486
 t232:=Tryz.underlying504
 a232:=Tryz.isAgg504
 z232:=Tryz.sizeOf504
 v232:=Tryz.zeroValue504
 t233:=Tryz.underlying505
 a233:=Tryz.isAgg505
 z233:=Tryz.sizeOf505
 v233:=Tryz.zeroValue505
 g17:=by kernel_rfl
 g18:=by kernel_rfl
 g19:=by kernel_rfl
 i0:=by kernel_rfl
 i2:=by kernel_rfl
 i3:=by kernel_rfl
 i4:=by kernel_rfl
 i5:=by kernel_rfl
 i9:=by kernel_rfl
 i20:=by kernel_rfl
 i37:=by kernel_rfl
 i46:=by kernel_rfl
 i51:=by kernel_rfl
 i53:=by kernel_rfl
 i171:=by kernel_rfl
 i173:=by kernel_rfl
 i212:=by kernel_rfl
 i232:=by kernel_rfl
 i233:=by kernel_rfl
 m17:=by kernel_rfl
 m18:=by kernel_rfl
 m19:=by kernel_rfl}
end Go.Proofs
