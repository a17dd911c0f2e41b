import Derived.Test.YtpfmbblnhjpclaaGreatDoorJ14
import Derived.Test.YtpfmbblnhjpclaaGreatDoorJ20
import Derived.Lib.ItoaNum
import Derived.Lib.IndexMore
import Derived.Shelf.GgClosure.StringsIndexFunc
import Derived.Test.YtpfmbblnhjpclaaGreatDoorJ24
set_option linter.unusedVariables false
set_option linter.unusedSimpArgs false
set_option maxRecDepth 20000
namespace Go.an.Day
open Go Go.an
def kV(y:Int):Bool:=decide (y %4=0)&&(!decide (y %100=0)||decide (y %400=0))
def B9(m:Int):Int:=if m=2 then 28 else if m=4∨m=6∨m=9∨m=11 then 30 else 31
def nh(y m:Int):Int:=if y<1600∨4470<y∨m<1∨12<m then 0 else if m=2/\kV y=true then 29 else B9 m
def pc(y:Int):Int:=365*(y-1600)+(y-1600+3)/4-(y-1600+99)/100+(y-1600+399)/400
def ajZ(m:Int):Int:=if m=1 then 0 else if m=2 then 31 else if m=3 then 59 else if m=4 then 90 else if m=5 then 120 else if m=6 then 151 else if m=7 then 181 else if m=8 then 212 else if m=9 then 243 else if m=10 then 273 else if m=11 then 304 else if m=12 then 334 else 365
def o4(y m:Int):Int:=ajZ m+if 2<m/\kV y=true then 1 else 0
def Ca(y:Int):Int:=if kV y=true then 366 else 365
theorem He(y:Int):kV y=true↔y %4=0/\(y %100≠0∨y %400=0):=by
 simp[kV]
theorem uq(y:Int):(kV y=true/\Ca y=366)∨(kV y=false/\Ca y=365):=by
 unfold Ca;cases kV y<;>simp
theorem vQ(y:Int):pc (y+1)=pc y+Ca y:=by
 have h:=He y;unfold pc
 rcases uq y with⟨h1,h2⟩|⟨h1,h2⟩
 .rw[h2];have:=h.1 h1;omega
 .rw[h2]
  have:¬(y %4=0/\(y %100≠0∨y %400=0)):=λk=>by rw[h.2 k]at h1;cases h1
  omega
theorem Hf(y:Int):365<=Ca y/\Ca y<=366:=by rcases uq y with⟨_,h⟩|⟨_,h⟩<;>omega
theorem jv{y z:Int}(h:y<=z):pc y<=pc z:=by
 unfold pc;omega
theorem Jc:pc 1600=0:=by decide
theorem Jd:pc 4471=1048612:=by decide
theorem sG{y m:Int}(h1:1600<=y)(h2:y<=4470)(h3:1<=m)(h4:m<=12):nh y m=if m=2/\kV y=true then 29 else B9 m:=by
 unfold nh;rw[if_neg (by omega)]
theorem P7{y m:Int}(h:y<1600∨4470<y∨m<1∨12<m):nh y m=0:=by
 unfold nh;rw[if_pos h]
theorem P8{y m n:Int}(h1:1<=n)(h2:n<=nh y m):1600<=y/\y<=4470/\1<=m/\m<=12:=by
 unfold nh at h2;split at h2<;>omega
theorem Bg(m:Int):28<=B9 m/\B9 m<=31:=by unfold B9;split<;>(try split)<;>omega
theorem ni(y m:Int):0<=nh y m/\nh y m<=31:=by
 have:=Bg m;unfold nh;split<;>(try split)<;>omega
theorem EX{m:Int}(h3:1<=m)(h4:m<=12):m=1∨m=2∨m=3∨m=4∨m=5∨m=6∨m=7∨m=8∨m=9∨m=10∨m=11∨m=12:=by omega
theorem rD{y m:Int}(h1:1600<=y)(h2:y<=4470)(h3:1<=m)(h4:m<=12):o4 y (m+1)=o4 y m+nh y m:=by
 rw[sG h1 h2 h3 h4];unfold o4
 cases hl:kV y<;>rcases EX h3 h4 with rfl|rfl|rfl|rfl|rfl|rfl|rfl|rfl|rfl|rfl|rfl|rfl<;>decide
theorem pQ(y:Int):o4 y 1=0:=by unfold o4;cases kV y<;>decide
theorem EY(y:Int):o4 y 13=Ca y:=by unfold o4 Ca;cases kV y<;>decide
theorem xe{y m m':Int}(h1:1600<=y)(h2:y<=4470)(h3:1<=m)(h:m<m')(h4:m'<=13):o4 y m+nh y m<=o4 y m':=by
 rw[<-rD h1 h2 h3 (by omega)];have:∀k:Nat,m+1+k<=13->o4 y (m+1)<=o4 y (m+1+k):=by
  intro k
  induction k with
  |zero=>intro _;simp
  |succ k ih=>
   intro hk;have:=ih (by omega);have h5:=rD h1 h2 (m:=m+1+k) (by omega) (by omega);have:=(ni y (m+1+k)).1;rw[show m+1+((k+1:Nat):Int)=m+1+k+1 by omega];omega
 have:=this (m'-m-1).toNat (by omega);rw[show m+1+((m'-m-1).toNat:Int)=m' by omega]at this;exact this
theorem sH{y m:Int}(h1:1600<=y)(h2:y<=4470)(h3:1<=m)(h4:m<=12):0<=o4 y m/\o4 y m+nh y m<=Ca y:=by
 constructor
 .rcases qD h3 with h|h
  .have:=xe h1 h2 (m:=1) (m':=m) (by omega) (by omega) (by omega)
   have:=(ni y 1).1;rw[pQ]at*;omega
  .rw[<-h,pQ];omega
 .rw[<-EY];exact xe h1 h2 h3 (by omega) (by omega)
structure fx(d y m n:Int):Prop where
 y1:1600<=y
 y2:y<=4470
 m1:1<=m
 m2:m<=12
 n1:1<=n
 n2:n<=nh y m
 eq:d=pc y+o4 y m+n-1
theorem fx.pR{d y m n:Int}(h:fx d y m n):pc y<=d/\d<pc (y+1):=by
 have:=sH h.y1 h.y2 h.m1 h.m2;have:=h.n1;have:=h.n2;have:=h.eq;rw[vQ];omega
theorem Mz{d y z:Int}(h1:pc y<=d)(h2:d<pc (y+1))(h3:pc z<=d)(h4:d<pc (z+1)):y=z:=by
 rcases oE y z with h|h|h
 .have:=jv (y:=y+1) (z:=z) (by omega);omega
 .exact h
 .have:=jv (y:=z+1) (z:=y) (by omega);omega
theorem Je{y m n m' n':Int}(h1:1600<=y)(h2:y<=4470)(hm:1<=m)(Gf:m<=12)(hn:1<=n)(RC:n<=nh y m)(km:1<=m')(km':m'<=12)(kn:1<=n')(kn':n'<=nh y m')(he:o4 y m+n=o4 y m'+n'):m=m'/\n=n':=by
 rcases oE m m' with h|h|h
 .have:=xe h1 h2 hm h (by omega);omega
 .subst h;exact⟨rfl,by omega⟩
 .have:=xe h1 h2 km h (by omega);omega
theorem fx.uniq{d y m n y' m' n':Int}(h:fx d y m n)(k:fx d y' m' n'):y=y'/\m=m'/\n=n':=by
 have a:=h.pR;have b:=k.pR;have e:=Mz a.1 a.2 b.1 b.2;subst e;have e1:=h.eq;have e2:=k.eq;have:=Je h.y1 h.y2 h.m1 h.m2 h.n1 h.n2 k.m1 k.m2 k.n1 k.n2 (by omega);exact⟨rfl,this⟩
theorem KN{d:Int}(h0:0<=d):∀k:Nat,d<pc (1600+k)->∃y:Int,1600<=y/\y<1600+k/\pc y<=d/\d<pc (y+1)
 |0,h=>by simp only[Int.natCast_zero,uH]at h;rw[Jc]at h;omega
 |k+1,h=>by
  by_cases hk:d<pc (1600+k)
  .obtain⟨y,h1,h2,h3⟩:=KN h0 k hk
   exact⟨y,h1,by omega,h3⟩
  .exact⟨(1600:Int)+(k:Int),by omega,by omega,by omega,by rw[show(1600:Int)+k+1=1600+((k+1:Nat):Int)by omega];exact h⟩
theorem Hg{y r:Int}(h1:1600<=y)(h2:y<=4470)(h0:0<=r):∀k:Nat,k<=12->r<o4 y (1+k)->∃m:Int,1<=m/\m<=k/\o4 y m<=r/\r<o4 y m+nh y m
 |0,_,h=>by simp only[Int.natCast_zero,uH]at h;rw[pQ]at h;omega
 |k+1,hk,h=>by
  by_cases hc:r<o4 y (1+k)
  .obtain⟨m,a,b,c⟩:=Hg h1 h2 h0 k (by omega) hc
   exact⟨m,a,by omega,c⟩
  .refine⟨(1:Int)+(k:Int),by omega,by omega,by omega,?_⟩
   rw[<-rD h1 h2 (by omega) (by omega),show(1:Int)+k+1=1+((k+1:Nat):Int)by omega];exact h
theorem vR{d:Int}(h0:0<=d)(h1:d<=1048575):∃y m n,fx d y m n:=by
 obtain⟨y,a,b,c,e⟩:=KN h0 2871 (by rw[show(1600:Int)+((2871:Nat):Int)=4471 by decide,Jd];omega);have hy:y<=4470:=by omega
 obtain⟨m,p,q,r,s⟩:=Hg a hy (r:=d-pc y) (by omega) 12 (by omega) (by rw[show(1:Int)+((12:Nat):Int)=13 by decide,EY];rw[vQ]at e;omega);exact⟨y,m,d-pc y-o4 y m+1,a,hy,p,by omega,by omega,by omega,by omega⟩
theorem fx.lo{d y m n:Int}(h:fx d y m n):0<=d:=by
 have:=h.pR.1;have:=jv h.y1;rw[Jc]at this;omega
def P9(y m n:Int):Int×Int:=if n<1∨nh y m<n then(0,2)else if 1048575<pc y+o4 y m+n-1 then(0,2)else(pc y+o4 y m+n-1,0)
def rE(d:Int):Prop:=0<=d/\d<=1048575
def jH(y m n k:Int):Int:=if 4470<y+k then 1048575 else if(P9 (y+k) m (iK n (nh (y+k) m))).2≠0 then 1048575 else(P9 (y+k) m (iK n (nh (y+k) m))).1
def vS(y:Int):Int:=if 1048575<pc (y+1)-1 then 1048575 else pc (y+1)-1
def pS(y m:Int):Int:=if m=2/\kV y=true then 29 else B9 m
def me(y m n:Int):Int:=pc y+o4 y m+iK n (pS y m)-1
theorem jD(a b:Int):iK a b<=a/\iK a b<=b/\(iK a b=a∨iK a b=b):=by
 unfold iK;split<;>omega
theorem nj(y m:Int):28<=pS y m/\pS y m<=31:=by
 have:=Bg m;unfold pS;split<;>omega
theorem Dx{y m:Int}(h3:1<=m)(h4:m<=12):o4 y (m+1)=o4 y m+pS y m:=by
 unfold o4 pS
 cases hl:kV y<;>rcases EX h3 h4 with rfl|rfl|rfl|rfl|rfl|rfl|rfl|rfl|rfl|rfl|rfl|rfl<;>decide
theorem EZ{y m m':Int}(h3:1<=m)(h:m<m')(h4:m'<=13):o4 y m+pS y m<=o4 y m':=by
 rw[<-Dx h3 (by omega)];have:∀k:Nat,m+1+k<=13->o4 y (m+1)<=o4 y (m+1+k):=by
  intro k
  induction k with
  |zero=>intro _;simp
  |succ k ih=>
   intro hk;have:=ih (by omega);have h5:=Dx (y:=y) (m:=m+1+k) (by omega) (by omega);have:=(nj y (m+1+k)).1;rw[show m+1+((k+1:Nat):Int)=m+1+k+1 by omega];omega
 have:=this (m'-m-1).toNat (by omega);rw[show m+1+((m'-m-1).toNat:Int)=m' by omega]at this;exact this
theorem Jf{y m:Int}(h3:1<=m)(h4:m<=12):0<=o4 y m/\o4 y m+pS y m<=Ca y:=by
 constructor
 .rcases qD h3 with h|h
  .have:=EZ (y:=y) (m:=1) (m':=m) (by omega) (by omega) (by omega)
   have:=(nj y 1).1;rw[pQ]at*;omega
  .rw[<-h,pQ];omega
 .rw[<-EY];exact EZ h3 (by omega) (by omega)
theorem xf{y m n:Int}(m1:1<=m)(m2:m<=12)(n1:1<=n):pc y<=me y m n/\me y m n<pc (y+1):=by
 have h:=Jf (y:=y) m1 m2;have:=jD n (pS y m);have:=nj y m;rw[vQ];unfold me;omega
theorem MA{d y m n:Int}(h:fx d y m n):me y m n=d:=by
 have e:=h.eq;have n2:=h.n2;rw[sG h.y1 h.y2 h.m1 h.m2]at n2;have:iK n (pS y m)=n:=by
  unfold iK pS;rw[if_neg (by omega)]
 unfold me;rw[this,e]
theorem step1{y m n:Int}(m1:1<=m)(m2:m<=12)(n1:1<=n):me y m n+365<=me (y+1) m n/\me (y+1) m n<=me y m n+366:=by
 have hb:=vQ y;have hm:B9 2=28:=by decide
 unfold me
 rcases uq y with⟨h1,h2⟩|⟨h1,h2⟩
 all_goals
  cases hl:kV (y+1)
  all_goals
   unfold o4 pS iK;simp only[h1,hl]
   rcases EX m1 m2 with rfl|rfl|rfl|rfl|rfl|rfl|rfl|rfl|rfl|rfl|rfl|rfl
   all_goals
    simp[hm]
    (repeat' split)<;>omega
theorem steps{y m n:Int}(m1:1<=m)(m2:m<=12)(n1:1<=n):∀k:Nat,me y m n+365*k<=me (y+k) m n/\me (y+k) m n<=me y m n+366*k
 |0=>by simp
 |k+1=>by
  have:=steps (y:=y) m1 m2 n1 k;have h1:=step1 (y:=y+k) m1 m2 n1;rw[show y+((k+1:Nat):Int)=y+k+1 by omega];omega
theorem xg{d y m n k:Int}(h:fx d y m n)(k0:0<=k):jH y m n k=iK (me (y+k) m n) 1048575:=by
 have hv:=xf (y:=y+k) h.m1 h.m2 h.n1;have y1:=h.y1;unfold jH
 split
 .rename_i hy
  have:=jv (y:=4471) (z:=y+k) (by omega);rw[Jd]at this;unfold iK;rw[if_pos (by omega)]
 .rename_i hy
  have hx:nh (y+k) m=pS (y+k) m:=by rw[sG (by omega) (by omega) h.m1 h.m2];rfl
  rw[hx];have hr:=nj (y+k) m;have hm:=jD n (pS (y+k) m);have n1:=h.n1;have hE:P9 (y+k) m (iK n (pS (y+k) m))=if 1048575<me (y+k) m n then(0,2)else(me (y+k) m n,0):=by
   unfold P9;rw[hx,if_neg (by omega)];rfl
  rw[hE]
  by_cases Ay:1048575<me (y+k) m n
  .rw[if_pos Ay];unfold iK;rw[if_pos Ay];rfl
  .rw[if_neg Ay];unfold iK;rw[if_neg Ay];rfl
theorem Hh{d y m n k:Int}(h:fx d y m n)(hd:d<=1048575)(k0:0<=k):d<=jH y m n k/\jH y m n k<=1048575/\jH y m n k<=d+366*k/\(jH y m n k=1048575∨d+365*k<=jH y m n k):=by
 have hs:=steps (y:=y) h.m1 h.m2 h.n1 k.toNat;rw[show((k.toNat:Nat):Int)=k by omega,MA h]at hs;have hm:=jD (me (y+k) m n) 1048575;rw[xg h k0];omega
theorem Qa{a b y m n y' m' n':Int}(h:fx a y m n)(h':fx b y' m' n')(jw:a<=b):y<y'∨(y=y'/\(m<m'∨(m=m'/\n<=n'))):=by
 have i1:=h.pR;have i2:=h'.pR
 rcases oE y y' with hy|hy|hy
 .exact .inl hy
 .subst hy
  refine .inr ⟨rfl,?_⟩;have e1:=h.eq;have e2:=h'.eq;have n2:=h.n2;have n2':=h'.n2;have n1:=h.n1;have n1':=h'.n1
  rcases oE m m' with hm|hm|hm
  .exact .inl hm
  .subst hm;exact .inr ⟨rfl,by omega⟩
  .have:=xe h.y1 h.y2 h'.m1 hm (by have:=h.m2;omega);omega
 .have:=jv (y:=y'+1) (z:=y) (by omega);omega
theorem MB{a b y m n y' m' n' k:Int}(h:fx a y m n)(h':fx b y' m' n')(jw:a<=b):me (y+k) m n<=me (y'+k) m' n':=by
 have v1:=xf (y:=y+k) h.m1 h.m2 h.n1;have v2:=xf (y:=y'+k) h'.m1 h'.m2 h'.n1
 rcases Qa h h' jw with hy|⟨rfl,hm|⟨rfl,hn⟩⟩
 .have:=jv (y:=y+k+1) (z:=y'+k) (by omega);omega
 .have:=EZ (y:=y+k) h.m1 hm (by have:=h'.m2;omega)
  have a1:=jD n (pS (y+k) m);have a2:=jD n' (pS (y+k) m');have:=nj (y+k) m';have:=h'.n1;unfold me;omega
 .unfold me
  have a1:=jD n (pS (y+k) m);have a2:=jD n' (pS (y+k) m);omega
theorem Jg{a b y m n y' m' n' k:Int}(h:fx a y m n)(h':fx b y' m' n')(jw:a<=b)(k0:0<=k):jH y m n k<=jH y' m' n' k:=by
 rw[xg h k0,xg h' k0];have:=MB (k:=k) h h' jw;have h1:=jD (me (y+k) m n) 1048575;have h2:=jD (me (y'+k) m' n') 1048575;omega
end Go.an.Day
namespace Go.an.ax
open Go Go.an Go.an.Day Go.Proofs
theorem Y8(y:Int)(h:0<=y):((y.tmod 4==0)&&((y.tmod 100 !=0)||(y.tmod 400==0)))=kV y:=by
 rw[zu h,zu h,zu h];rw[zq,He];simp
theorem Y9(y:Int)(h:0<=y):Fn kg 393 [I y] (.bool (kV y)):=
 aH adH ⟨[],by decide,by decide,by decide,rfl,rfl,by rw[<-Y8 y h];rfl⟩
def lens:List AV:=[I 31,I 28,I 31,I 30,I 31,I 30,I 31,I 31,I 30,I 31,I 30,I 31]
theorem Dy:Fn kg 394 [] (.agg lens):=aH adI ⟨rfl,rfl,rfl⟩
theorem KO{m:Int}(h3:1<=m)(h4:m<=12):lens[(m-1).toNat]?=some (I (B9 m)):=by
 rcases EX h3 h4 with rfl|rfl|rfl|rfl|rfl|rfl|rfl|rfl|rfl|rfl|rfl|rfl<;>rfl
theorem rF(y m:Int):Fn kg 359 [I y,I m] (I (nh y m)):=by
 refine aH adB ⟨[],λh=>?_,λh=>?_⟩
 .simp at h
  rw[P7 (by omega)];exact⟨rfl,rfl,rfl⟩
 .simp at h
  by_cases h2:m=2
  .refine⟨[(2,true)],by simp[h2],_,Y9 y (by omega),λhl=>?_,λhl=>?_⟩
   .rw[sG (by omega) (by omega) (by omega) (by omega),if_pos ⟨h2,by simpa using hl⟩]
    exact⟨rfl,rfl,rfl⟩
   .have hl:kV y=false:=by simpa using hl
    refine⟨_,Dy,_,ah,[I (B9 m)],⟨by omega,by omega,KO (by omega) (by omega)⟩,rfl,rfl,?_⟩;rw[sG (by omega) (by omega) (by omega) (by omega),if_neg (by simp[hl])];rfl
  .refine⟨[(2,false)],?_⟩
   refine⟨by simp[h2],λhl=>(by cases hl),λhl=>?_⟩;refine⟨_,Dy,_,ah,[I (B9 m)],⟨by omega,by omega,KO (by omega) (by omega)⟩,rfl,rfl,?_⟩;rw[sG (by omega) (by omega) (by omega) (by omega),if_neg (by simp[h2])];rfl
theorem Hi{a b:Int}(ha:0<=a)(hb:0<b)(h:a<=9223372036854775807):IntKind.i64.wrap (a.tdiv b)=a/b:=by
 rw[Int.tdiv_eq_ediv_of_nonneg ha];exact ah (Int.le_trans (by decide) (Int.ediv_nonneg ha (by omega))) (Int.le_trans (Int.ediv_le_self b ha) h)
theorem za(y:Int)(h:1600<=y)(h':y<=100000):Fn kg 360 [I y] (I (pc y)):=by
 refine aH adC ⟨_,ah,_,ah,_,ah,by decide,_,Hi (by omega) (by omega) (by omega),_,ah,_,ah,by decide,_,Hi (by omega) (by omega) (by omega),_,ah,?_⟩;exact⟨_,ah,by decide,_,Hi (by omega) (by omega) (by omega),_,ah,rfl,rfl,rfl⟩
theorem aj0(d:Int):Fn kg 392 [I d] (.bool (decide (d>=0)&&decide (d<=1048575))):=aH adG ⟨[],rfl,rfl,rfl⟩
theorem xh{y:Int}(h:1600<=y)(h':y<=4471):0<=pc y/\pc y<=1048612:=by
 have a:=jv h;have b:=jv h';rw[Jc]at a;rw[Jd]at b;omega
theorem aj1(y m n:Int):Fn kg 358 [I y,I m,I n] (.bY [I (P9 y m n).1,I (P9 y m n).2]):=by
 refine aH adA ⟨_,rF y m,[],λh=>?_,λh=>?_⟩
 .simp at h
  rw[P9,if_pos h];exact⟨_,_,rfl,⟨rfl,rfl⟩,rfl,rfl,trivial⟩
 .simp at h
  have hE:P9 y m n=if 1048575<pc y+o4 y m+n-1 then(0,2)else(pc y+o4 y m+n-1,0):=by unfold P9;rw[if_neg (by omega)]
  rw[hE];obtain⟨y1,y2,m1,m2⟩:=P8 (y:=y) (m:=m) (n:=n) (by omega) (by omega);have hb:=xh y1 (by omega);have hr:=ni y m;refine⟨_,za y y1 (by omega),_,ah,_,ah,?_⟩;refine⟨λN c=>∃k:Int,1<=k/\k<=m/\N=(m-k).toNat/\c=⟨[(0,I y),(1,I m),(6,I 0),(7,I 0),(9,I (pc y+n-1+o4 y k)),(10,I k)],[]⟩,⟨_,_,Wk.ad [0,1,6,7,9,10] [],1,by omega,m1,rfl,?_⟩,?_⟩
  .rw[pQ,uH];rfl
  .rintro N c ⟨k,k1,k2,rfl,rfl⟩
   have hc:=sH y1 y2 k1 (by omega:k<=12);have hy:=Hf y;have hk:=ni y k;refine⟨λh=>?_,λh=>?_⟩
   .simp at h
    refine⟨_,rF y k,_,ah,_,ah,_,_,Wk.ad [0,1,6,7,9,10] [],by omega,k+1,by omega,by omega,rfl,?_⟩;rw[rD y1 y2 k1 (by omega),<-Int.add_assoc];rfl
   .simp at h
    have:k=m:=by omega
    subst this;refine⟨λh=>?_,λh=>?_⟩
    .simp at h
     rw[if_pos (by omega)];exact⟨_,_,rfl,⟨rfl,rfl⟩,rfl,rfl,trivial⟩
    .simp at h
     rw[if_neg (by omega)];rw[show pc y+o4 y k+n-1=pc y+n-1+o4 y k by omega];exact⟨_,_,rfl,⟨rfl,rfl⟩,rfl,rfl,trivial⟩
theorem Za{d y m n:Int}(h:fx d y m n):1600+400*(d/146097)+d %146097/366<=y:=by
 have h0:=h.lo;have h1:=h.pR
 rcases Int.lt_or_le y (1600+400*(d/146097)+d %146097/366)with aC|eY
 .have h2:=jv (y:=y+1) (z:=1600+400*(d/146097)+d %146097/366) (by omega)
  have h3:pc (1600+400*(d/146097)+d %146097/366)<=d:=by
   unfold pc;omega
  omega
 .exact eY
theorem Hj{a b:Int}(ha:0<=a):a.tmod b=a %b:=zu ha
theorem Qb(d y m n:Int)(hD:fx d y m n)(hd:d<=1048575):Fn kg 357 [I d] (.bY [I y,I m,I n,I 0]):=by
 have h0:=hD.lo;have hy:=hD.pR;have y1:=hD.y1;have y2:=hD.y2;refine aH adz ⟨_,aj0 d,λh=>?_,λ_=>?_⟩
 .simp at h;omega
 refine⟨by decide,_,Hi h0 (by omega) (by omega),_,ah,_,ah,by decide,by decide,_,Hi (by rw[Hj h0];omega) (by omega) (by rw[Hj h0];omega),_,ah (by rw[Hj h0];omega) (by rw[Hj h0];omega),?_⟩;refine⟨λN c=>∃z:Int,1600<=z/\z<=y/\N=(y-z).toNat/\c=⟨[(0,I d),(2,I z),(3,I 0),(4,I 0),(5,I 0)],[]⟩,⟨_,_,Wk.ad [0,2,3,4,5] [],1600+400*(d/146097)+d %146097/366,by omega,Za hD,rfl,?_⟩,?_⟩
 .rw[<-Hj (b:=146097) h0];rfl
 rintro N c ⟨z,z1,z2,rfl,rfl⟩;refine⟨_,ah,_,za (z+1) (by omega) (by omega),λh=>?_,λh=>?_⟩
 .simp at h
  have hz:z<y:=by
   rcases qD z2 with h'|h'
   .exact h'
   .subst h';omega
  exact⟨_,ah,_,_,Wk.ad [0,2,3,4,5] [],by omega,z+1,by omega,by omega,rfl,rfl⟩
 .simp at h
  have hz:z=y:=by
   rcases qD z2 with h'|h'
   .have:=jv (y:=z+1) (z:=y) (by omega);omega
   .exact h'
  subst hz;have hb:=xh y1 (by omega);have he:=hD.eq;have m1:=hD.m1;have m2:=hD.m2;have n1:=hD.n1;have n2:=hD.n2;have CF:=sH y1 y2 m1 m2;have hyl:=Hf z;refine⟨_,za z z1 (by omega),_,ah,?_⟩;refine⟨λN c=>∃k:Int,1<=k/\k<=m/\N=(m-k).toNat/\c=⟨[(0,I (d-pc z-o4 z k)),(2,I z),(3,I k),(4,I 0),(5,I 0)],[]⟩,⟨_,_,Wk.ad [0,2,3,4,5] [],1,by omega,m1,rfl,?_⟩,?_⟩
  .rw[pQ,Int.sub_zero];rfl
  .rintro N c ⟨k,k1,k2,rfl,rfl⟩
   have hc:=sH y1 y2 k1 (by omega:k<=12);have hk:=ni z k;refine⟨_,rF z k,λh=>?_,λh=>?_⟩
   .simp at h
    have sY:k<m:=by
     rcases qD k2 with h'|h'
     .exact h'
     .subst h';omega
    refine⟨_,rF z k,_,ah,_,ah,_,_,Wk.ad [0,2,3,4,5] [],by omega,k+1,by omega,by omega,rfl,?_⟩;rw[rD y1 y2 k1 (by omega),<-Int.sub_sub];rfl
   .simp at h
    have sY:k=m:=by
     rcases qD k2 with h'|h'
     .have:=xe y1 y2 k1 h' (by omega);omega
     .exact h'
    subst sY;refine⟨_,ah,?_⟩;rw[show n=d-pc z-o4 z k+1 by omega];exact⟨_,_,rfl,⟨rfl,rfl⟩,rfl,rfl,rfl,rfl,rfl,rfl,trivial⟩
theorem T7(d y m n k:Int)(hD:fx d y m n)(hd:d<=1048575)(k1:0<=k)(k2:k<=200):Fn kg 317 [I d,I k] (.bY [I (jH y m n k),I 0]):=by
 have y1:=hD.y1;have y2:=hD.y2;refine aH ado ⟨_,Qb d y m n hD hd,[],λh=>?_,λ_=>?_⟩
 .simp at h;omega
 .refine⟨_,ah,λh=>?_,λh=>?_⟩
  .simp at h
   rw[jH,if_pos h];exact⟨_,_,rfl,⟨rfl,rfl⟩,rfl,rfl,trivial⟩
  .simp at h
   rw[jH,if_neg (by omega)];refine⟨_,rF (y+k) m,_,aj1 (y+k) m _,λh=>?_,λh=>?_⟩
   .have h':(P9 (y+k) m (iK n (nh (y+k) m))).2≠0:=by simpa using h
    rw[if_pos h'];exact⟨_,_,rfl,⟨rfl,rfl⟩,rfl,rfl,trivial⟩
   .have h':(P9 (y+k) m (iK n (nh (y+k) m))).2=0:=by simpa using h
    rw[if_neg (by simp[h'])];exact⟨_,_,rfl,⟨rfl,rfl⟩,rfl,rfl,trivial⟩
theorem MC(d y m n:Int)(hD:fx d y m n)(hd:d<=1048575):Fn kg 318 [I d] (.bY [I (vS y),I 0]):=by
 have y1:=hD.y1;have y2:=hD.y2;have hb:=xh (y:=y+1) (by omega) (by omega);refine aH adp ⟨_,Qb d y m n hD hd,λh=>(by cases h),λ_=>?_⟩;exact⟨_,ah,_,za (y+1) (by omega) (by omega),_,ah,_,_,rfl,⟨rfl,rfl⟩,rfl,rfl,trivial⟩
end Go.an.ax
namespace Go.an.Day
open Go Go.an
structure l5 where
 lo:Int
 hi:Int
 deriving DecidableEq
def kC(d:l5):List AV:=[.int .i64 d.lo,.int .i64 d.hi]
def nA(d:l5):Bool:=decide (0<=d.lo)&&decide (d.lo<=d.hi)&&decide (d.hi<=1048575)
def oq(d:l5):Int:=if nA d=true then 0 else 1
theorem zb{d:l5}:nA d=true↔0<=d.lo/\d.lo<=d.hi/\d.hi<=1048575:=by simp[nA,and_assoc]
theorem iA(d:l5):(oq d !=0)= !nA d:=by unfold oq;cases nA d<;>rfl
theorem KP(d:l5):(oq d==0)=nA d:=by unfold oq;cases nA d<;>rfl
def lZ(a b:l5):l5×Bool:=if nA a=true/\nA b=true/\tJ a.lo b.lo<=iK a.hi b.hi then(⟨tJ a.lo b.lo,iK a.hi b.hi⟩,true)else(⟨0,0⟩,false)
end Go.an.Day
namespace Go.an.ax
open Go Go.an Go.an.Day Go.Proofs Go.RowKit
theorem kD(d:l5):Fn kg 129 [.agg (kC d)] (I (oq d)):=by
 refine aH Vu ⟨[],λh=>?_,λh=>?_⟩
 .have:nA d=false:=by
   rw[Bool.eq_false_iff,Ne,zb];simp at h;omega
  rw[oq,if_neg (by rw[this];simp)];exact⟨rfl,rfl,rfl⟩
 .have:nA d=true:=by
   rw[zb];simp at h;omega
  rw[oq,if_pos this];exact⟨rfl,rfl,rfl⟩
theorem T8(a b:l5):Fn kg 387 [.agg (kC a),.agg (kC b)] (.bool (nA a&&nA b)):=by
 refine aH adE ⟨[],_,kD a,_,kD b,rfl,rfl,?_⟩;rw[<-KP,<-KP];rfl
theorem Qc(a b:l5):Fn kg 348 [.agg (kC a),.agg (kC b)] (.bY [.agg (kC (lZ a b).1),.bool (lZ a b).2]):=by
 refine aH adt ⟨[],_,T8 a b,λh=>?_,λh=>?_⟩
 .have:¬(nA a=true/\nA b=true/\tJ a.lo b.lo<=iK a.hi b.hi):=by
   rintro⟨h1,h2,h3⟩;rw[h1,h2]at h;simp at h;omega
  rw[lZ,if_neg this];exact⟨_,_,rfl,⟨rfl,rfl⟩,rfl,rfl,trivial⟩
 .have:nA a=true/\nA b=true/\tJ a.lo b.lo<=iK a.hi b.hi:=by
   simp at h;exact⟨h.1.1,h.1.2,h.2⟩
  rw[lZ,if_pos this];exact⟨_,_,rfl,⟨rfl,rfl⟩,rfl,rfl,trivial⟩
end Go.an.ax
namespace Go.an.Day
open Go Go.an
open Classical in
noncomputable def o5(d k:Int):Int:=if h:∃y m n,fx d y m n then jH h.choose h.choose_spec.choose h.choose_spec.choose_spec.choose k else 0
theorem E0{d y m n k:Int}(h:fx d y m n):o5 d k=jH y m n k:=by
 have hx:∃y m n,fx d y m n:=⟨y,m,n,h⟩;unfold o5;rw[dif_pos hx];have:=hx.choose_spec.choose_spec.choose_spec;obtain⟨e1,e2,e3⟩:=this.uniq h;exact congr (congr (congr (gQ jH e1) e2) e3) rfl
theorem kE{d k:Int}(h:rE d)(k0:0<=k):rE (o5 d k)/\d<=o5 d k:=by
 obtain⟨y,m,n,hD⟩:=vR h.1 h.2;rw[E0 hD];have:=Hh hD h.2 k0;have:=h.1;exact⟨⟨by omega,by omega⟩,by omega⟩
theorem Bh{a b k:Int}(ha:rE a)(hb:rE b)(jw:a<=b)(k0:0<=k):o5 a k<=o5 b k:=by
 obtain⟨y,m,n,hD⟩:=vR ha.1 ha.2;obtain⟨y',m',n',No⟩:=vR hb.1 hb.2;rw[E0 hD,E0 No];exact Jg hD No jw k0
end Go.an.Day
namespace Go.an.ax
open Go Go.an Go.an.Day Go.Proofs Go.RowKit
theorem Ws(d k:Int)(hd:rE d)(k1:0<=k)(k2:k<=200):Fn kg 317 [I d,I k] (.bY [I (o5 d k),I 0]):=by
 obtain⟨y,m,n,hD⟩:=vR hd.1 hd.2;rw[E0 hD];exact T7 d y m n k hD hd.2 k1 k2
end Go.an.ax
namespace Go.an.Day
open Go Go.an
abbrev bs(l:List UInt8):ByteArray:=⟨l.toArray⟩
theorem T9(s:ByteArray):bs s.data.toList=s:=by cases s;simp
theorem lG(l:List UInt8):(bs l).size=l.length:=rfl
theorem toList_eq(s:ByteArray):s.toList=s.data.toList:=by rw[ByteArray.toList_eq]
theorem ME(l:List UInt8):(bs l).toList=l:=by rw[toList_eq]
theorem Zb{l:List UInt8}{i:Nat}{b:UInt8}(h:l[i]?=some b):∃h:i< (bs l).size,(bs l)[i]'h=b:=by
 obtain⟨h1,h2⟩:=aE.1 h;exact⟨h1,by rw[<-h2];rfl⟩
def dig(k:Int):UInt8:=UInt8.ofNat (48+k.toNat)
def low:Nat->Int->List UInt8
 |0,_=>[]
 |k+1,n=>dig (n/10^k %10)::low k n
theorem Qd{l:List UInt8}{i:Nat}{b:UInt8}(h:l[i]?=some b):0<=(i:Int)/\∃h:(i:Int).toNat< (bs l).size,((b.toNat:Nat):Int)=((((bs l)[(i:Int).toNat]'h).toNat:Nat):Int):=by
 obtain⟨h1,h2⟩:=Zb h;exact⟨by omega,h1,by rw[<-h2];rfl⟩
def cG(y m n:Int):List UInt8:=low 4 y++[45]++low 2 m++[45]++low 2 n
def Qe(l:List UInt8):Prop:=l.length=10/\l[4]?=some 45/\l[7]?=some 45
instance(l:List UInt8):Decidable (Qe l):=by unfold Qe;infer_instance
def nk(b:UInt8):Bool:= !(decide ((b.toNat:Int)<32)||decide ((b.toNat:Int)>126))
def Ua:List UInt8->Bool
 |a::b::r=>(a==32&&b==32)||Ua (b::r)
 |_=>false
theorem vT:∀l:List UInt8,Lib.contains l [32,32]=Ua l
 |[]=>rfl
 |[a]=>by
  simp[Lib.contains,Lib.index,Ua,List.isPrefixOf]
 |a::b::r=>by
  have ih:=vT (b::r);have kT:=Lib.index_ge (b::r) [32,32];unfold Lib.contains at ih⊢;rw[Lib.index]
  by_cases hp:(a==32&&b==32)=true
  .have:List.isPrefixOf [32,32] (a::b::r)=true:=by
    simp at hp;simp[List.isPrefixOf,hp]
   rw[if_pos this];simp[Ua,hp]
  .have:¬List.isPrefixOf [32,32] (a::b::r)=true:=by
    simp at hp;simp[List.isPrefixOf];intro h1 h2;exact hp h1.symm h2.symm
   rw[if_neg this,Ua];rw[zw]at hp;rw[hp,cX,<-ih]
   by_cases h1:Lib.index (b::r) [32,32]= -1
   .rw[h1];rfl
   .rw[if_neg (by simpa using h1)]
    rw[zq];simp;omega
def Cb(x:Nat):Bool:=decide ((x:Int)<32)||decide ((x:Int)>126)
theorem Jh{n b0 b1 b2 b3:Nat}(h:128<=b0):128<=(Lib.decodeN n b0 b1 b2 b3).1:=by
 unfold Lib.decodeN;rw[if_neg (by omega)]
 repeat' split
 all_goals(dsimp only;omega)
theorem E2{n b0 b1 b2 b3:Nat}(h:b0<128):Lib.decodeN n b0 b1 b2 b3=(b0,1):=by
 unfold Lib.decodeN;rw[if_pos h]
theorem yd(l:List UInt8):∀(f pos:Nat),l.length<=f+pos->decide (0<=Lib.idxFuncFrom Cb true (bs l) f pos)= !((l.drop pos).all nk)
 |0,pos,h=>by
  rw[zo (by omega)];rfl
 |f+1,pos,h=>by
  unfold Lib.idxFuncFrom
  by_cases hp:pos< (bs l).size
  .rw[if_pos hp]
   have ji:pos<l.length:=hp;have hd:l.drop pos=l[pos]::l.drop (pos+1):=List.drop_eq_getElem_cons ji;have hg:((bs l).get! pos)=l[pos]:=by
    simp[ByteArray.get!,ji]
   rw[Lib.decode_at,hg,hd,rX]
   by_cases hb:l[pos].toNat<128
   .rw[E2 hb]
    dsimp only
    by_cases ho:Cb l[pos].toNat=true
    .rw[if_pos ho]
     have:nk l[pos]=false:=by unfold nk;unfold Cb at ho;rw[ho];rfl
     rw[this];simp
    .rw[if_neg ho]
     have:nk l[pos]=true:=by unfold nk;unfold Cb at ho;rw[zw]at ho;rw[ho];rfl
     rw[this,Bool.true_and];exact yd l f (pos+1) (by omega)
   .have wI:=Jh (n:=(bs l).size-pos) (b0:=l[pos].toNat) (b1:=((bs l).get! (pos+1)).toNat) (b2:=((bs l).get! (pos+2)).toNat) (b3:=((bs l).get! (pos+3)).toNat) (by omega)
    have ho:Cb (Lib.decodeN ((bs l).size-pos) l[pos].toNat ((bs l).get! (pos+1)).toNat ((bs l).get! (pos+2)).toNat ((bs l).get! (pos+3)).toNat).1=true:=by
     unfold Cb;simp;omega
    rw[if_pos ho];have:nk l[pos]=false:=by unfold nk;simp;omega
    rw[this];simp
  .rw[if_neg hp]
   have ji:l.length<=pos:=by rw[lG]at hp;omega
   rw[zo ji];rfl
def vU(l:List UInt8):Bool:=decide (1<=l.length)&&decide (l.length<=64)&& !(l[0]?==some 32)&& !(l[l.length-1]?==some 32)&& !Ua l&&l.all nk
end Go.an.Day
namespace Go.an.ax.Pe
open Go Go.an Go.an.Day Go.Proofs Go.RowKit
theorem aj2(x:Nat)(hx:x<=1114111):Fn kg 270 [.int .i32 x] (.bool (Cb x)):=aH acU ⟨[],rfl,rfl,rfl⟩
theorem Hk{vs:Array Value}(h:2=vs.size):∃a b,vs=#[a,b]:=by
 match vs,h with
 |⟨[a,b]⟩,_=>exact⟨a,b,rfl⟩
theorem aj3(l:List UInt8)(hl:l.length<4294967281):Fn kg 271 [.str (bs l),.str ⟨#[32,32]⟩] (.bool (Ua l)):=by
 refine⟨⟨_,Tryz.func271,by kernel_rfl,by kernel_rfl⟩,λX w vs hw Ko hv=>?_⟩;obtain⟨a,b,rfl⟩:=Hk (by simpa using Ko);have e1:=VR.gD (hv 0 _ a rfl rfl);have e2:=VR.gD (hv 1 _ b rfl rfl);subst e1 e2;obtain⟨⟨m,hm⟩,_⟩:=hw;refine(Any.strings_Contains {Tryz.G8 with} (bs l) ⟨#[32,32]⟩ m w hl hm).mono ?_;rintro e w' ⟨rfl,rfl⟩;refine⟨_,rfl,?_,Below.refl _ _⟩;have:Lib.contains (bs l).data.toList (⟨#[32,32]⟩:ByteArray).data.toList=Ua l:=vT l;rw[this];exact .bool
theorem aj4(l:List UInt8):Fn kg 272 [.str (bs l),.func 270 []] (.bool (!(l.all nk))):=by
 refine⟨⟨_,Tryz.func272,by kernel_rfl,by kernel_rfl⟩,λX w vs hw Ko hv=>?_⟩;obtain⟨a,b,rfl⟩:=Hk (by simpa using Ko);have e1:=VR.gD (hv 0 _ a rfl rfl);obtain⟨cv,e2,hc,_⟩:=VR.fJ (hv 1 _ b rfl rfl);have:cv=#[]:=yG (by simpa using hc.symm);subst this e1 e2;have hp:PredGrows Tryz.prog 270 #[] Cb w:=by
  intro W x hx hb;have:=(aj2 x hx).2 (λ_=>False) W #[.int .i32 x] (hw.mono hb.size λg hg=>hb.block g hg) rfl (λj u c hu hc=>by
   cases j with
   |zero=>simp at hu hc;subst hu hc;exact .int
   |succ j=>simp at hu)
  refine this.mono ?_;rintro e w' ⟨v,rfl,hv,uB⟩;exact⟨by rw[VR.jn hv],uB⟩
 refine(Any.strings_ContainsFunc_grows Tryz.PH 270 #[] (enters_of Tryz.func270 (by kernel_rfl) rfl) Cb (bs l) w hp).mono ?_;rintro e w' ⟨rfl,uB⟩;refine⟨_,rfl,?_,uB⟩;have:decide (0<=Lib.idxFunc Cb true (bs l))= !(l.all nk):=by
  have:=yd l (bs l).size 0 (by rw[lG];omega);rw[List.drop_zero]at this;exact this
 rw[this];exact .bool
theorem aeE(b:UInt8):(((b.toNat:Nat):Int) !=32)= !(some b==some 32):=by
 by_cases h:b=32
 .subst h;rfl
 .have h1:(((b.toNat:Nat):Int) !=32)=true:=by
   rw[bne_iff_ne];intro e;apply h;apply UInt8.toNat_inj.1;rw[show(32:UInt8).toNat=32 by decide];omega
  rw[h1];simp[h]
theorem aj5(l:List UInt8)(hl:l.length<=9223372036854775807):Fn kg 189 [.str (bs l)] (.bool (vU l)):=by
 refine aH acg ?_
 by_cases h1:1<=l.length
 .by_cases h2:l.length<=64
  .refine⟨[(3,true),(8,true)],?_⟩
   have Fy:l[0]?=some l[0]:=by simp
   have hbz:l[l.length-1]?=some (l[l.length-1]'(by omega)):=by simp
   have U4:=Qd hbz;rw[show((l.length-1:Nat):Int)=(l.length:Int)-1 by omega]at U4;refine⟨by rw[lG];simp;omega,by rw[lG];simp;omega,_,Qd (i:=0) Fy,_,ah (by rw[lG];omega) (by rw[lG];omega),_,U4,_,aj3 l (by omega),_,aj4 l,rfl,rfl,?_⟩
   show AV.bool (vU l)=AV.bool (true&&((((l[0]).toNat:Nat):Int) !=32)&&(((l[l.length-1]'(by omega)).toNat:Int) !=32)&& !Ua l&& !(!(l.all nk)))
   rw[aeE,aeE,<-Fy,<-hbz,vU,Bool.not_not];simp[h1,h2]
  .have hn:vU l=false:=by unfold vU;simp[h2]
   rw[hn];refine⟨[(3,true),(8,false),(13,false),(21,false),(26,false)],?_⟩;exact⟨by rw[lG];simp;omega,by rw[lG];simp;omega,rfl,rfl,rfl,rfl,rfl,rfl⟩
 .have hn:vU l=false:=by unfold vU;simp[h1]
  rw[hn];refine⟨[(3,false),(8,false),(13,false),(21,false),(26,false)],?_⟩;exact⟨by rw[lG];simp;omega,rfl,rfl,rfl,rfl,rfl,rfl,rfl⟩
structure fT where
 id:Int
 name:List UInt8
 b:l5
 d:l5
 deriving DecidableEq
def gA(p:fT):List AV:=[I p.id,.str (bs p.name),I p.b.lo,I p.b.hi,I p.d.lo,I p.d.hi]
def fT.sz(p:fT):Prop:=p.name.length<=9223372036854775807
def cx(p:fT):Int:=if p.id<1∨p.id>1073741824 then 2 else if vU p.name=false then 4 else if nA p.b=false∨nA p.d=false then 1 else if p.b.lo>p.d.hi then 10 else 0
theorem aeF(p:fT)(hp:p.sz):Fn kg 126 [.agg (gA p)] (I (cx p)):=by
 refine aH abQ ⟨[],λh=>?_,λh=>?_⟩
 .have h:p.id<1∨p.id>1073741824:=by simpa using h
  rw[cx,if_pos h];exact⟨rfl,rfl,rfl⟩
 .have h:¬(p.id<1∨p.id>1073741824):=by simpa using h
  rw[cx,if_neg h];refine⟨_,aj5 p.name hp,λh=>?_,λh=>?_⟩
  .rw[if_pos (by simpa using h)]
   exact⟨rfl,rfl,rfl⟩
  .rw[if_neg (by simpa using h)]
   refine⟨[],_,kD p.b,_,kD p.d,λh=>?_,λh=>?_⟩
   .have h:((oq p.b !=0)||(oq p.d !=0))=true:=h
    rw[iA,iA]at h;rw[if_pos (by simpa using h)];exact⟨rfl,rfl,rfl⟩
   .have h:((oq p.b !=0)||(oq p.d !=0))=false:=h
    rw[iA,iA]at h;rw[if_neg (by simpa using h)];refine⟨λh=>?_,λh=>?_⟩
    .rw[if_pos (by simpa using h)]
     exact⟨rfl,rfl,rfl⟩
    .rw[if_neg (by simpa using h)]
     exact⟨rfl,rfl,rfl⟩
abbrev A(l:List fT):AV:=.aL 6 l.length (l.map gA)
abbrev fA(l:List fT):AV:=.dh true 142 6 l.length (l.map gA)
def qx(p:Option fT):List fT->Int
 |[]=>0
 |a::r=>if cx a≠0 then cx a else match p with
  |some q=>if a.id<=q.id then 5 else qx (some a) r
  |none=>qx (some a) r
theorem Bi(p:Option fT)(a:fT)(r:List fT):qx p (a::r)=if cx a≠0 then cx a else match p with
  |some q=>if a.id<=q.id then 5 else qx (some a) r
  |none=>qx (some a) r:=by cases p<;>rfl
def bg(l:List fT):Int:=if l.length>64 then 8 else qx none l
def cf(l:List fT)(i:Nat):Option fT:=if i=0 then none else l[i-1]?
theorem iP{l:List fT}(h:64<l.length):bg l=8:=if_pos h
theorem jP{l:List fT}(h:l.length<=64):bg l=qx none l:=if_neg (by omega)
theorem ik{l:List fT}(h:bg l=0):l.length<=64:=by
 by_cases hl:64<l.length
 .rw[iP hl]at h;cases h
 .omega
theorem YD(l:List fT)(hl:∀p∈l,p.sz):Fn kg 92 [A l] (I (bg l)):=by
 refine aH abx ⟨λh=>?_,λh=>?_⟩
 .simp at h
  exact⟨rfl,rfl,by rw[iP (by omega)];rfl⟩
 .simp at h
  rw[jP (by omega)];refine⟨λn c=>∃i:Nat,i<=l.length/\n=l.length-i/\c=⟨[(0,A l),(2,I 0),(9,A l),(10,I l.length),(11,I i)],[]⟩/\qx (cf l i) (l.drop i)=qx none l,⟨_,_,Wk.ad [0,2,9,10,11] [],0,by omega,rfl,rfl,by simp[cf]⟩,?_⟩;rintro n c ⟨i,hi,rfl,rfl,hI⟩;refine⟨λh=>?_,λh=>?_⟩
  .simp at h
   obtain⟨a,ha,hd,_⟩:=aq h;rw[hd,Bi]at hI;refine⟨by omega,gA a,by simp[ha],_,aeF a (hl a (ay ha)),λhf=>?_,λhf=>?_⟩
   .have hf:cx a≠0:=by simpa using hf
    rw[if_pos hf]at hI;rw[<-hI];exact⟨rfl,rfl,rfl⟩
   .have hf:cx a=0:=by simpa using hf
    rw[if_neg (by simpa using hf)]at hI
    by_cases h0:i=0
    .subst h0
     refine⟨[(2,false)],by simp,λh=>(by cases h),λh=>?_⟩;refine⟨_,ah,_,_,Wk.ad [0,2,9,10,11] [],by omega,1,by omega,rfl,rfl,?_⟩;simp only[cf]at hI;simpa[cf,ha]using hI
    .obtain⟨p,hp⟩:∃p,l[i-1]?=some p:=⟨l[i-1],by simp⟩
     have yR:(if a.id<=p.id then 5 else qx (some a) (l.drop (i+1)))=qx none l:=by simpa[cf,h0,hp]using hI
     refine⟨[(2,true)],by simp;omega,_,ah,by omega,gA p,get_map' hp (by omega),λh=>?_,λh=>?_⟩
     .simp at h
      rw[if_pos h]at yR;exact⟨rfl,rfl,by rw[<-yR];rfl⟩
     .simp at h
      rw[if_neg (by omega)]at yR;refine⟨_,ah,_,_,Wk.ad [0,2,9,10,11] [],by omega,i+1,by omega,rfl,rfl,?_⟩;simpa[cf,ha]using yR
  .simp at h
   have:i=l.length:=by omega
   subst this;simp[qx]at hI;exact⟨rfl,rfl,by rw[<-hI];rfl⟩
theorem Ji:∀(l:List fT)(p:Option fT),qx p l=0->∀a∈l,cx a=0
 |a::r,p,h,b,hb=>by
  rw[Bi]at h
  by_cases hf:cx a≠0
  .rw[if_pos hf]at h;exact absurd h hf
  .rw[if_neg hf]at h
   rcases bK.1 hb with rfl|hb
   .simpa using hf
   .cases p with
    |none=>exact Ji r _ h b hb
    |some q=>
     dsimp only at h
     split at h
     .cases h
     .exact Ji r _ h b hb
theorem Bj{l:List fT}(h:bg l=0):∀a∈l,cx a=0:=by
 rw[jP (ik h)]at h;exact Ji l none h
theorem Hl{p:fT}(h:cx p=0):nA p.b=true/\nA p.d=true/\p.b.lo<=p.d.hi/\(1<=p.id/\p.id<=1073741824)/\vU p.name=true:=by
 unfold cx at h
 split at h
 .cases h
 .split at h
  .cases h
  .split at h
   .cases h
   .split at h
    .cases h
    .rename_i h1 h2 h3 h4
     simp at h2 h3;exact⟨h3.1,h3.2,by omega,by omega,h2⟩
theorem aj6(a:fT)(id:Int):Fn kg 320 [.agg (gA a),.aw [I id] 0] (.bool (a.id==id)):=aH adq ⟨rfl,rfl,rfl⟩
theorem aeG(l:List fT)(hl:l.length<=9223372036854775807)(p:fT->Bool)(g:FuncId)(xs:List AV)(hp:∀a∈l,Fn kg g [.agg (gA a),.aw xs 0] (.bool (p a))):Fn kg 191 [A l,.func g [.aw xs 0]] (I (aQ p 0 l)):=by
 refine aH aci ?_;refine⟨λn c=>∃i:Nat,i<=l.length/\n=l.length-i/\c=⟨[(0,A l),(1,.func g [.aw xs 0]),(4,I 0),(7,I l.length),(8,I i)],[]⟩/\aQ p i (l.drop i)=aQ p 0 l,⟨_,_,Wk.ad [0,1,4,7,8] [],0,by omega,rfl,rfl,by simp⟩,?_⟩;rintro n c ⟨i,hi,rfl,rfl,hI⟩;refine⟨λh=>?_,λh=>?_⟩
 .simp at h
  obtain⟨a,ha,hd,_⟩:=aq h;rw[hd,aQ]at hI;refine⟨by omega,gA a,by simp[ha],_,hp a (ay ha),λhf=>?_,λhf=>?_⟩
  .rw[if_pos hf]at hI
   exact⟨rfl,rfl,by rw[<-hI];rfl⟩
  .rw[if_neg (by simp[hf])]at hI
   refine⟨_,ah,?_⟩;exact⟨_,_,Wk.ad [0,1,4,7,8] [],by omega,i+1,by omega,rfl,rfl,hI⟩
 .simp at h
  have:i=l.length:=by omega
  subst this;simp[aQ]at hI;exact⟨rfl,rfl,by rw[<-hI];rfl⟩
def KQ(l:List fT)(id:Int):Int:=aQ (λa=>a.id==id) 0 l
theorem aeH(l:List fT)(hl:l.length<=9223372036854775807)(id:Int):Fn kg 264 [A l,I id] (I (KQ l id)):=
 aH acP ⟨_,aeG l hl _ 320 [I id] (λa _=>aj6 a id),rfl,rfl,rfl⟩
theorem Ub(l:List fT)(id:Int):(KQ l id= -1/\∀a∈l,a.id≠id)∨∃(i:Nat)(a:fT),l[i]?=some a/\a.id=id/\KQ l id=i/\∀(j:Nat) b,j<i->l[j]?=some b->b.id≠id:=by
 rcases dH (λa:fT=>a.id==id) l 0 with⟨h1,h2⟩|⟨i,a,h1,h2,h3,h4⟩
 .exact .inl ⟨h1,λa ha=>by simpa using h2 a ha⟩
 .exact .inr ⟨i,a,h1,by simpa using h2,by rw[KQ,h3];simp,λj b hj hb=>by simpa using h4 j b hj hb⟩
end Go.an.ax.Pe
