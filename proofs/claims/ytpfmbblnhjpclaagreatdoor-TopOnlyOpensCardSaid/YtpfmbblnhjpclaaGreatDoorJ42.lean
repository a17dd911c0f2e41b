import Derived.Test.YtpfmbblnhjpclaaGreatDoorJ41
set_option linter.unusedVariables false
set_option linter.unusedSimpArgs false
set_option maxRecDepth 20000
namespace Go.an.ax.G
open Go Go.an Go.Proofs Go.RowKit Go.Lib
structure M2(b:Bt):Prop where
 id:eC b.id 1 1073741824=true
 aR:eC b.aR 0 1048575=true
 jR:eC b.jR 0 1024=true
 len:eC (b.us.length:Int) 1 60=true
 us:b.us.any (λn=> !eC n 1 1073741824)=false
 jd:eC b.jd 1 (b.us.length:Int)=true
 bX:eC b.bX 0 (b.jd-1)=true
theorem tz{n a c:Int}(h:eC n a c=true):a<=n/\n<=c:=by simp[eC]at h;exact h
theorem M2.aad{b:Bt}(h:M2 b):Ll b.id/\Ll b.jR/\(∀z∈b.us,Ll z)/\b.us.length<=60/\∃k:Nat,b.jd=k/\k<=b.us.length:=by
 have h1:=tz h.id;have h2:=tz h.jR;have h3:=tz h.len;have h4:=tz h.jd;refine⟨⟨by omega,by omega⟩,⟨by omega,by omega⟩,λz hz=>?_,by omega,b.jd.toNat,by omega,by omega⟩;have:=Xy.1 h.us z hz;have:=tz (by simpa using this);exact⟨by omega,by omega⟩
theorem W5(b:Bt)(h:M2 b):∃l:List Int,l.length<=60/\Fn kg 145 [.agg (aX b),I b.jR] (.dh true 3 1 l.length (l.map λn=>[I n])):=by
 obtain⟨h1,h2,h3,h4,k,hk,N8⟩:=h.aad;obtain⟨l,hl,hF⟩:=al8 b b.jR h1 h2 h3 (by omega) k hk N8;subst hl;exact⟨l,by omega,hF⟩
theorem aae(b:Bt)(hl:b.us.length<=100000)(h1:eC b.id 1 1073741824=false):Fn kg 100 [.agg (aX b)] (I 2):=by
 exact aH nN ⟨[(4,true),(10,true),(16,true),(23,true),(28,true),(37,true)],_,rA b.id,by simp only[h1];rfl,rfl,rfl,rfl,rfl,rfl,λ_=>⟨rfl,rfl,rfl⟩,λh=>(by cases h)⟩
theorem aaf(b:Bt)(hl:b.us.length<=100000)(h1:eC b.id 1 1073741824=true)(h2:eC b.aR 0 1048575=false):Fn kg 100 [.agg (aX b)] (I 2):=by
 exact aH nN ⟨[(4,false),(10,true),(16,true),(23,true),(28,true),(37,true)],_,rA b.id,by simp only[h1];rfl,_,eG b.aR 0 1048575,by simp only[h2];rfl,rfl,rfl,rfl,rfl,λ_=>⟨rfl,rfl,rfl⟩,λh=>(by cases h)⟩
theorem aag(b:Bt)(hl:b.us.length<=100000)(h1:eC b.id 1 1073741824=true)(h2:eC b.aR 0 1048575=true)(h3:eC b.jR 0 1024=false):Fn kg 100 [.agg (aX b)] (I 2):=by
 exact aH nN ⟨[(4,false),(10,false),(16,true),(23,true),(28,true),(37,true)],_,rA b.id,by simp only[h1];rfl,_,eG b.aR 0 1048575,by simp only[h2];rfl,_,eG b.jR 0 1024,by simp only[h3];rfl,rfl,rfl,rfl,λ_=>⟨rfl,rfl,rfl⟩,λh=>(by cases h)⟩
theorem aah(b:Bt)(hl:b.us.length<=100000)(h1:eC b.id 1 1073741824=true)(h2:eC b.aR 0 1048575=true)(h3:eC b.jR 0 1024=true)(h4:eC (b.us.length:Int) 1 60=false):Fn kg 100 [.agg (aX b)] (I 2):=by
 exact aH nN ⟨[(4,false),(10,false),(16,false),(23,true),(28,true),(37,true)],_,rA b.id,by simp only[h1];rfl,_,eG b.aR 0 1048575,by simp only[h2];rfl,_,eG b.jR 0 1024,by simp only[h3];rfl,_,eG b.us.length 1 60,by simp only[h4];rfl,rfl,rfl,λ_=>⟨rfl,rfl,rfl⟩,λh=>(by cases h)⟩
theorem aai(b:Bt)(hl:b.us.length<=100000)(h1:eC b.id 1 1073741824=true)(h2:eC b.aR 0 1048575=true)(h3:eC b.jR 0 1024=true)(h4:eC (b.us.length:Int) 1 60=true)(h5:b.us.any (λn=> !eC n 1 1073741824)=true):Fn kg 100 [.agg (aX b)] (I 2):=by
 exact aH nN ⟨[(4,false),(10,false),(16,false),(23,false),(28,true),(37,true)],_,rA b.id,by simp only[h1];rfl,_,eG b.aR 0 1048575,by simp only[h2];rfl,_,eG b.jR 0 1024,by simp only[h3];rfl,_,eG b.us.length 1 60,by simp only[h4];rfl,_,Ch b.us (by omega) (λn=> !eC n 1 1073741824) 142 (λa _=>B8 a),by simp only[h5];rfl,rfl,λ_=>⟨rfl,rfl,rfl⟩,λh=>(by cases h)⟩
theorem aaj(b:Bt)(hl:b.us.length<=100000)(h1:eC b.id 1 1073741824=true)(h2:eC b.aR 0 1048575=true)(h3:eC b.jR 0 1024=true)(h4:eC (b.us.length:Int) 1 60=true)(h5:b.us.any (λn=> !eC n 1 1073741824)=false)(h6:eC b.jd 1 (b.us.length:Int)=false):Fn kg 100 [.agg (aX b)] (I 2):=by
 exact aH nN ⟨[(4,false),(10,false),(16,false),(23,false),(28,false),(37,true)],_,rA b.id,by simp only[h1];rfl,_,eG b.aR 0 1048575,by simp only[h2];rfl,_,eG b.jR 0 1024,by simp only[h3];rfl,_,eG b.us.length 1 60,by simp only[h4];rfl,_,Ch b.us (by omega) (λn=> !eC n 1 1073741824) 142 (λa _=>B8 a),by simp only[h5];rfl,_,eG b.jd 1 b.us.length,by simp only[h6];rfl,λ_=>⟨rfl,rfl,rfl⟩,λh=>(by cases h)⟩
theorem aak(b:Bt)(hl:b.us.length<=100000)(h1:eC b.id 1 1073741824=true)(h2:eC b.aR 0 1048575=true)(h3:eC b.jR 0 1024=true)(h4:eC (b.us.length:Int) 1 60=true)(h5:b.us.any (λn=> !eC n 1 1073741824)=false)(h6:eC b.jd 1 (b.us.length:Int)=true)(h7:eC b.bX 0 (b.jd-1)=false):Fn kg 100 [.agg (aX b)] (I 2):=by
 have:=tz h6;have:=tz h4;exact aH nN ⟨[(4,false),(10,false),(16,false),(23,false),(28,false),(37,false)],_,rA b.id,by simp only[h1];rfl,_,eG b.aR 0 1048575,by simp only[h2];rfl,_,eG b.jR 0 1024,by simp only[h3];rfl,_,eG b.us.length 1 60,by simp only[h4];rfl,_,Ch b.us (by omega) (λn=> !eC n 1 1073741824) 142 (λa _=>B8 a),by simp only[h5];rfl,_,eG b.jd 1 b.us.length,by simp only[h6];rfl,_,au (y:=b.jd-1) (by omega),_,eG b.bX 0 (b.jd-1),λ_=>⟨rfl,rfl,rfl⟩,λh=>absurd h (by simp[h7])⟩
set_option maxHeartbeats 4000000 in
theorem ame(b:Bt)(hb:b.gE.length<=100000)(h:M2 b):∃er,Fn kg 100 [.agg (aX b)] (I er):=by
 obtain⟨q1,q2,q3,q4,k,hk,N8⟩:=h.aad;have r6:=tz h.jd;have r4:=tz h.len;have g7:(!eC b.bX 0 (b.jd-1))=false:=by rw[h.bX];rfl
 cases i1:yb b.us with
 |false=>exact⟨5,aH nN ⟨[(4,false),(10,false),(16,false),(23,false),(28,false),(37,false)],_,rA b.id,by simp only[h.id];rfl,_,eG b.aR 0 1048575,by simp only[h.aR];rfl,_,eG b.jR 0 1024,by simp only[h.jR];rfl,_,eG b.us.length 1 60,by simp only[h.len];rfl,_,Ch b.us (by omega) (λn=> !eC n 1 1073741824) 142 (λa _=>B8 a),by simp only[h.us];rfl,_,eG b.jd 1 b.us.length,by simp only[h.jd];rfl,_,au (y:=b.jd-1) (by omega),_,eG b.bX 0 (b.jd-1),λh=>absurd h (by rw[g7];simp),λ_=>⟨[(4,true)],_,rC b.us (by omega),by simp only[i1];rfl,λ_=>⟨rfl,rfl,rfl⟩,λh=>(by cases h)⟩⟩⟩
 |true=>
  cases i2:yb b.gE with
  |false=>exact⟨5,aH nN ⟨[(4,false),(10,false),(16,false),(23,false),(28,false),(37,false)],_,rA b.id,by simp only[h.id];rfl,_,eG b.aR 0 1048575,by simp only[h.aR];rfl,_,eG b.jR 0 1024,by simp only[h.jR];rfl,_,eG b.us.length 1 60,by simp only[h.len];rfl,_,Ch b.us (by omega) (λn=> !eC n 1 1073741824) 142 (λa _=>B8 a),by simp only[h.us];rfl,_,eG b.jd 1 b.us.length,by simp only[h.jd];rfl,_,au (y:=b.jd-1) (by omega),_,eG b.bX 0 (b.jd-1),λh=>absurd h (by rw[g7];simp),λ_=>⟨[(4,false)],_,rC b.us (by omega),by simp only[i1];rfl,_,rC b.gE hb,λ_=>⟨rfl,rfl,rfl⟩,λh=>absurd h (by simp[i2])⟩⟩⟩
  |true=>
   obtain⟨fr,UM⟩:=amd b;obtain⟨l,hl,JF⟩:=W5 b h;have JG:=ag1 l b.gE (by omega) hb
   by_cases Fy:b.gE.length=0
   .cases fr with
    |true=>exact⟨0,aH nN ⟨[(4,false),(10,false),(16,false),(23,false),(28,false),(37,false)],_,rA b.id,by simp only[h.id];rfl,_,eG b.aR 0 1048575,by simp only[h.aR];rfl,_,eG b.jR 0 1024,by simp only[h.jR];rfl,_,eG b.us.length 1 60,by simp only[h.len];rfl,_,Ch b.us (by omega) (λn=> !eC n 1 1073741824) 142 (λa _=>B8 a),by simp only[h.us];rfl,_,eG b.jd 1 b.us.length,by simp only[h.jd];rfl,_,au (y:=b.jd-1) (by omega),_,eG b.bX 0 (b.jd-1),λh=>absurd h (by rw[g7];simp),λ_=>⟨[(4,false)],_,rC b.us (by omega),by simp only[i1];rfl,_,rC b.gE hb,λh=>absurd h (by simp[i2]),λ_=>⟨[(4,false)],by simp[Fy],λh=>(by cases h),λ_=>⟨_,UM,λh=>(by cases h),λ_=>⟨rfl,rfl,rfl⟩⟩⟩⟩⟩⟩
    |false=>exact⟨11,aH nN ⟨[(4,false),(10,false),(16,false),(23,false),(28,false),(37,false)],_,rA b.id,by simp only[h.id];rfl,_,eG b.aR 0 1048575,by simp only[h.aR];rfl,_,eG b.jR 0 1024,by simp only[h.jR];rfl,_,eG b.us.length 1 60,by simp only[h.len];rfl,_,Ch b.us (by omega) (λn=> !eC n 1 1073741824) 142 (λa _=>B8 a),by simp only[h.us];rfl,_,eG b.jd 1 b.us.length,by simp only[h.jd];rfl,_,au (y:=b.jd-1) (by omega),_,eG b.bX 0 (b.jd-1),λh=>absurd h (by rw[g7];simp),λ_=>⟨[(4,false)],_,rC b.us (by omega),by simp only[i1];rfl,_,rC b.gE hb,λh=>absurd h (by simp[i2]),λ_=>⟨[(4,false)],by simp[Fy],λh=>(by cases h),λ_=>⟨_,UM,λ_=>⟨rfl,rfl,rfl⟩,λh=>(by cases h)⟩⟩⟩⟩⟩
   .cases hc:Q8 l b.gE with
    |false=>exact⟨7,aH nN ⟨[(4,false),(10,false),(16,false),(23,false),(28,false),(37,false)],_,rA b.id,by simp only[h.id];rfl,_,eG b.aR 0 1048575,by simp only[h.aR];rfl,_,eG b.jR 0 1024,by simp only[h.jR];rfl,_,eG b.us.length 1 60,by simp only[h.len];rfl,_,Ch b.us (by omega) (λn=> !eC n 1 1073741824) 142 (λa _=>B8 a),by simp only[h.us];rfl,_,eG b.jd 1 b.us.length,by simp only[h.jd];rfl,_,au (y:=b.jd-1) (by omega),_,eG b.bX 0 (b.jd-1),λh=>absurd h (by rw[g7];simp),λ_=>⟨[(4,false)],_,rC b.us (by omega),by simp only[i1];rfl,_,rC b.gE hb,λh=>absurd h (by simp[i2]),λ_=>⟨[(4,true)],by simp;omega,_,JF,true,_,JG,λ_=>⟨rfl,rfl,rfl⟩,λh=>absurd h (by simp[hc])⟩⟩⟩⟩
    |true=>
     cases fr with
     |true=>exact⟨0,aH nN ⟨[(4,false),(10,false),(16,false),(23,false),(28,false),(37,false)],_,rA b.id,by simp only[h.id];rfl,_,eG b.aR 0 1048575,by simp only[h.aR];rfl,_,eG b.jR 0 1024,by simp only[h.jR];rfl,_,eG b.us.length 1 60,by simp only[h.len];rfl,_,Ch b.us (by omega) (λn=> !eC n 1 1073741824) 142 (λa _=>B8 a),by simp only[h.us];rfl,_,eG b.jd 1 b.us.length,by simp only[h.jd];rfl,_,au (y:=b.jd-1) (by omega),_,eG b.bX 0 (b.jd-1),λh=>absurd h (by rw[g7];simp),λ_=>⟨[(4,false)],_,rC b.us (by omega),by simp only[i1];rfl,_,rC b.gE hb,λh=>absurd h (by simp[i2]),λ_=>⟨[(4,true)],by simp;omega,_,JF,true,_,JG,λh=>absurd h (by simp[hc]),λ_=>⟨_,UM,λh=>(by cases h),λ_=>⟨rfl,rfl,rfl⟩⟩⟩⟩⟩⟩
     |false=>exact⟨11,aH nN ⟨[(4,false),(10,false),(16,false),(23,false),(28,false),(37,false)],_,rA b.id,by simp only[h.id];rfl,_,eG b.aR 0 1048575,by simp only[h.aR];rfl,_,eG b.jR 0 1024,by simp only[h.jR];rfl,_,eG b.us.length 1 60,by simp only[h.len];rfl,_,Ch b.us (by omega) (λn=> !eC n 1 1073741824) 142 (λa _=>B8 a),by simp only[h.us];rfl,_,eG b.jd 1 b.us.length,by simp only[h.jd];rfl,_,au (y:=b.jd-1) (by omega),_,eG b.bX 0 (b.jd-1),λh=>absurd h (by rw[g7];simp),λ_=>⟨[(4,false)],_,rC b.us (by omega),by simp only[i1];rfl,_,rC b.gE hb,λh=>absurd h (by simp[i2]),λ_=>⟨[(4,true)],by simp;omega,_,JF,true,_,JG,λh=>absurd h (by simp[hc]),λ_=>⟨_,UM,λ_=>⟨rfl,rfl,rfl⟩,λh=>(by cases h)⟩⟩⟩⟩⟩
theorem Q9(b:Bt)(hu:b.us.length<=100000)(hb:b.gE.length<=100000):∃er,Fn kg 100 [.agg (aX b)] (I er)/\(er=0->M2 b):=by
 cases h1:eC b.id 1 1073741824 with
 |false=>exact⟨2,aae b hu h1,λh=>by cases h⟩
 |true=>
 cases h2:eC b.aR 0 1048575 with
 |false=>exact⟨2,aaf b hu h1 h2,λh=>by cases h⟩
 |true=>
 cases h3:eC b.jR 0 1024 with
 |false=>exact⟨2,aag b hu h1 h2 h3,λh=>by cases h⟩
 |true=>
 cases h4:eC (b.us.length:Int) 1 60 with
 |false=>exact⟨2,aah b hu h1 h2 h3 h4,λh=>by cases h⟩
 |true=>
 cases h5:b.us.any (λn=> !eC n 1 1073741824)with
 |true=>exact⟨2,aai b hu h1 h2 h3 h4 h5,λh=>by cases h⟩
 |false=>
 cases h6:eC b.jd 1 (b.us.length:Int)with
 |false=>exact⟨2,aaj b hu h1 h2 h3 h4 h5 h6,λh=>by cases h⟩
 |true=>
 cases h7:eC b.bX 0 (b.jd-1)with
 |false=>exact⟨2,aak b hu h1 h2 h3 h4 h5 h6 h7,λh=>by cases h⟩
 |true=>
 have ok:M2 b:=⟨h1,h2,h3,h4,h5,h6,h7⟩;obtain⟨er,h⟩:=ame b hb ok;exact⟨er,h,λ_=>ok⟩
abbrev RU:Bt:=⟨0,0,0,0,0,0,[],[]⟩
theorem mF:pK (.agg [I 0,I 0,I 0,I 0,I 0,I 0,.ai,.ai]) (.agg (aX RU)):=pK.EB ⟨.refl _,.refl _,.refl _,.refl _,.refl _,.refl _,.nil 1,.nil 1,trivial⟩
theorem zj(a b c d e f:Int)(us:List Int):pK (.agg [I a,I b,I c,I d,I e,I f,NS us,.ai]) (.agg (aX ⟨a,b,c,d,e,f,us,[]⟩)):=pK.EB ⟨.refl _,.refl _,.refl _,.refl _,.refl _,.refl _,.refl _,.nil 1,trivial⟩
theorem M3(us:List Int)(hl:us.length<=100000):Fn kg 64 [NS us] (.dh true 3 1 us.length (us.map λn=>[I n])):=by
 have a64:=Yi (us.map λn=>[I n]) (by simp;omega) (Mn us);rw[gB]at a64;exact a64
theorem amf(id aR jd bX:Int)(us:List Int)(hl:us.length<=100000):∃b er,Fn kg 250 [I id,I aR,NS us,I jd,I bX] (.bY [.agg (aX b),I er])/\b.us.length<=us.length/\b.gE.length=0:=by
 obtain⟨er,jU,_⟩:=Q9 ⟨id,aR,1,0,jd,bX,us,[]⟩ hl (by simp);have jU:=jU.gI (dj:=[.agg [I id,I aR,I 1,I 0,I jd,I bX,NS us,.ai]]) ⟨zj _ _ _ _ _ _ _,trivial⟩
 by_cases h0:er=0
 .subst h0
  refine⟨⟨id,aR,1,0,jd,bX,us,[]⟩,0,Fn.gi (aH VG ⟨_,M3 us hl,true,_,jU,λh=>(by cases h),λ_=>?_⟩) rfl rfl (zj _ _ _ _ _ _ _),bG _,rfl⟩;exact⟨_,_,rfl,⟨rfl,rfl⟩,rfl,rfl,trivial⟩
 .refine⟨RU,er,Fn.gi (aH VG ⟨_,M3 us hl,true,_,jU,λ_=>?_,λh=>absurd h (by simp[h0])⟩) rfl rfl mF,cF _,rfl⟩
  exact⟨_,_,rfl,⟨rfl,rfl⟩,rfl,rfl,trivial⟩
theorem ag2(b:Bt)(hu:b.us.length<=100000)(hb:b.gE.length<=100000):Fn kg 311 [.agg (aX b)] (.agg (aX b)):=
 aH adi ⟨_,M3 b.us hu,true,_,M3 b.gE hb,true,rfl,rfl,rfl⟩
theorem amg(b:Bt)(hu:b.us.length<=100000)(hb:b.gE.length<=100000):∃b' er,Fn kg 253 [.agg (aX b)] (.bY [.agg (aX b'),I er])/\b'.us.length<=b.us.length/\b'.gE.length<=b.gE.length:=by
 obtain⟨er,jU,kM⟩:=Q9 b hu hb;have Ra:=ag2 b hu hb
 by_cases h0:er=0
 .have ok:=kM h0
  subst h0;have hr:=tz ok.jR
  by_cases h1:b.st=1
  .by_cases h3:b.jR=1024
   .refine⟨RU,15,Fn.gi (aH C5 ⟨_,jU,λh=>(by cases h),λ_=>⟨[(3,false)],by simp[h1],λh=>(by cases h),λ_=>⟨λ_=>?_,λh=>absurd h (by simp[h3])⟩⟩⟩) rfl rfl mF,cF _,cF _⟩
    exact⟨_,_,rfl,⟨rfl,rfl⟩,rfl,rfl,trivial⟩
   .refine⟨⟨b.id,b.aR,2,b.jR+1,b.jd,b.bX,b.us,[]⟩,0,Fn.gi (aH C5 ⟨_,jU,λh=>(by cases h),λ_=>⟨[(3,false)],by simp[h1],λh=>(by cases h),λ_=>⟨λh=>absurd h (by simp[h3]),λ_=>⟨_,Ra,?_⟩⟩⟩⟩) rfl rfl (zj _ _ _ _ _ _ _),bG _,cF _⟩
    exact⟨_,au (y:=b.jR+1) (by omega),_,_,rfl,⟨rfl,rfl⟩,rfl,rfl,trivial⟩
  .by_cases h4:b.st=4
   .by_cases h3:b.jR=1024
    .refine⟨RU,15,Fn.gi (aH C5 ⟨_,jU,λh=>(by cases h),λ_=>⟨[(3,true)],by simp[h1],λh=>absurd h (by simp[h4]),λ_=>⟨λ_=>?_,λh=>absurd h (by simp[h3])⟩⟩⟩) rfl rfl mF,cF _,cF _⟩
     exact⟨_,_,rfl,⟨rfl,rfl⟩,rfl,rfl,trivial⟩
    .refine⟨⟨b.id,b.aR,2,b.jR+1,b.jd,b.bX,b.us,[]⟩,0,Fn.gi (aH C5 ⟨_,jU,λh=>(by cases h),λ_=>⟨[(3,true)],by simp[h1],λh=>absurd h (by simp[h4]),λ_=>⟨λh=>absurd h (by simp[h3]),λ_=>⟨_,Ra,?_⟩⟩⟩⟩) rfl rfl (zj _ _ _ _ _ _ _),bG _,cF _⟩
     exact⟨_,au (y:=b.jR+1) (by omega),_,_,rfl,⟨rfl,rfl⟩,rfl,rfl,trivial⟩
   .refine⟨RU,11,Fn.gi (aH C5 ⟨_,jU,λh=>(by cases h),λ_=>⟨[(3,true)],by simp[h1],λ_=>?_,λh=>absurd h (by simp[h4])⟩⟩) rfl rfl mF,cF _,cF _⟩
    exact⟨_,_,rfl,⟨rfl,rfl⟩,rfl,rfl,trivial⟩
 .refine⟨RU,1,Fn.gi (aH C5 ⟨_,jU,λ_=>?_,λh=>absurd h (by simp[h0])⟩) rfl rfl mF,cF _,cF _⟩
  exact⟨_,_,rfl,⟨rfl,rfl⟩,rfl,rfl,trivial⟩
theorem amh(b:Bt)(gE:List Int)(hu:b.us.length<=100000)(hb:b.gE.length<=100000)(hd:gE.length<=100000):∃b' er,Fn kg 255 [.agg (aX b),NS gE] (.bY [.agg (aX b'),I er])/\b'.us.length<=b.us.length/\b'.gE.length<=gE.length/\(er=0->b'.st=3∨b'.st=4):=by
 obtain⟨er,jU,kM⟩:=Q9 b hu hb;have Ra:=ag2 b hu hb
 by_cases h0:er=0
 .have ok:=kM h0
  subst h0;obtain⟨l,hl,JF⟩:=W5 b ok;have JG:=ag1 l gE (by omega) hd
  by_cases h1:b.st=2
  .cases i2:yb gE with
   |false=>
    refine⟨RU,5,Fn.gi (aH C7 ⟨_,jU,λh=>(by cases h),λ_=>⟨λh=>absurd h (by simp[h1]),λ_=>⟨_,rC gE hd,λ_=>?_,λh=>absurd h (by simp[i2])⟩⟩⟩) rfl rfl mF,cF _,cF _,λh=>by cases h⟩;exact⟨_,_,rfl,⟨rfl,rfl⟩,rfl,rfl,trivial⟩
   |true=>
    cases hc:Q8 l gE with
    |false=>
     refine⟨RU,7,Fn.gi (aH C7 ⟨_,jU,λh=>(by cases h),λ_=>⟨λh=>absurd h (by simp[h1]),λ_=>⟨_,rC gE hd,λh=>absurd h (by simp[i2]),λ_=>⟨_,JF,true,_,JG,λ_=>?_,λh=>absurd h (by simp[hc])⟩⟩⟩⟩) rfl rfl mF,cF _,cF _,λh=>by cases h⟩;exact⟨_,_,rfl,⟨rfl,rfl⟩,rfl,rfl,trivial⟩
    |true=>
     by_cases h5:(gE.length:Int)>b.bX
     .refine⟨⟨b.id,b.aR,4,b.jR,b.jd,b.bX,b.us,gE⟩,0,aH C7 ⟨_,jU,λh=>(by cases h),λ_=>⟨λh=>absurd h (by simp[h1]),λ_=>⟨_,rC gE hd,λh=>absurd h (by simp[i2]),λ_=>⟨_,JF,true,_,JG,λh=>absurd h (by simp[hc]),λ_=>?_⟩⟩⟩⟩,bG _,bG _,λ_=>.inr rfl⟩
      refine⟨_,Ra,_,M3 gE hd,true,λ_=>?_,λh=>absurd (j0 h) (by omega)⟩;exact⟨_,_,rfl,⟨rfl,rfl⟩,rfl,rfl,trivial⟩
     .refine⟨⟨b.id,b.aR,3,b.jR,b.jd,b.bX,b.us,gE⟩,0,aH C7 ⟨_,jU,λh=>(by cases h),λ_=>⟨λh=>absurd h (by simp[h1]),λ_=>⟨_,rC gE hd,λh=>absurd h (by simp[i2]),λ_=>⟨_,JF,true,_,JG,λh=>absurd h (by simp[hc]),λ_=>?_⟩⟩⟩⟩,bG _,bG _,λ_=>.inl rfl⟩
      refine⟨_,Ra,_,M3 gE hd,true,λh=>absurd (aP h) (by omega),λ_=>?_⟩;exact⟨_,_,rfl,⟨rfl,rfl⟩,rfl,rfl,trivial⟩
  .refine⟨RU,11,Fn.gi (aH C7 ⟨_,jU,λh=>(by cases h),λ_=>⟨λ_=>?_,λh=>absurd h (by simp[h1])⟩⟩) rfl rfl mF,cF _,cF _,λh=>by cases h⟩
   exact⟨_,_,rfl,⟨rfl,rfl⟩,rfl,rfl,trivial⟩
 .refine⟨RU,1,Fn.gi (aH C7 ⟨_,jU,λ_=>?_,λh=>absurd h (by simp[h0])⟩) rfl rfl mF,cF _,cF _,λh=>by cases h⟩
  exact⟨_,_,rfl,⟨rfl,rfl⟩,rfl,rfl,trivial⟩
abbrev LK:=Int×Int
def yo(l:List LK)(i:Nat)(x:LK):Prop:=eC x.1 1 1073741824=false∨eC x.2 1 1073741824=false∨(0<i/\∃q,l[i-1]?=some q/\x.1<=q.1)
noncomputable def M4(l:List LK):Bool:= @decide ((∀i x,l[i]?=some x->¬yo l i x)/\l.length<=1024) (Classical.propDecidable _)
theorem Rb{l:List LK}(h:¬((∀i x,l[i]?=some x->¬yo l i x)/\l.length<=1024)):M4 l=false:= @qA _ (Classical.propDecidable _) h
theorem aal{l:List LK}(h:M4 l=true):(∀i x,l[i]?=some x->¬yo l i x)/\l.length<=1024:= @aP _ (Classical.propDecidable _) h
set_option maxHeartbeats 1000000 in
theorem ami(l:List LK)(hl:l.length<=100000):Fn kg 315 [yi l] (B (M4 l)):=by
 refine aH adm ?_;refine⟨λn c=>∃i,i<=l.length/\n=l.length-i/\(∀j x,j<i->l[j]?=some x->¬yo l j x)/\c=⟨[(0,yi l),(2,B false),(5,yi l),(6,I l.length),(7,I (i:Nat))],[]⟩,⟨_,_,Wk.ad [0,2,5,6,7] [],0,by omega,rfl,λj x h=>(by omega),rfl⟩,?_⟩;rintro n c ⟨i,hi,rfl,hb,rfl⟩;refine⟨λaC=>?_,λaC=>?_⟩
 .simp at aC
  obtain⟨x,hx,_,_⟩:=aq aC;have aD:(l.map cO)[i]?=some (cO x):=by rw[aS,hx];rfl
  have gE:yo l i x->M4 l=false:=λh=>Rb λk=>k.1 i x hx h
  have next:¬yo l i x->∀j y,j<i+1->l[j]?=some y->¬yo l j y:=by
   intro h j y hj hy
   by_cases e:j=i
   .subst e;rw[hx]at hy;injection hy with hy;rw[<-hy];exact h
   .exact hb j y (by omega) hy
  have b1:=rA x.1;have b2:=rA x.2
  cases h1:eC x.1 1 1073741824 with
  |false=>
   rw[h1]at b1;refine⟨⟨by omega,by omega⟩,cO x,by simpa using aD,[(4,true),(10,true)],_,b1,rfl,rfl,λ_=>?_,λh=>(by cases h)⟩;rw[gE (.inl h1)];exact⟨rfl,rfl,rfl⟩
  |true=>
   rw[h1]at b1
   cases h2:eC x.2 1 1073741824 with
   |false=>
    rw[h2]at b2;refine⟨⟨by omega,by omega⟩,cO x,by simpa using aD,[(4,false),(10,true)],_,b1,rfl,_,b2,rfl,λ_=>?_,λh=>(by cases h)⟩;rw[gE (.inr (.inl h2))];exact⟨rfl,rfl,rfl⟩
   |true=>
    rw[h2]at b2
    by_cases Qv:i=0
    .subst Qv
     refine⟨⟨by omega,by omega⟩,cO x,by simpa using aD,[(4,false),(10,false),(13,false)],_,b1,rfl,_,b2,rfl,rfl,λh=>(by cases h),λ_=>?_⟩;refine⟨_,au (y:=((0+1:Nat):Int)) (by omega),?_⟩;exact⟨_,_,Wk.ad [0,2,5,6,7] [],by omega,0+1,by omega,rfl,next (λh=>by
      rcases h with h|h|⟨h,_⟩
      .rw[h1]at h;cases h
      .rw[h2]at h;cases h
      .omega),rfl⟩
    .obtain⟨q,hq⟩:∃q,l[i-1]?=some q:=⟨_,aW (by omega)⟩
     have Lm:(l.map cO)[i-1]?=some (cO q):=by rw[aS,hq];rfl
     refine⟨⟨by omega,by omega⟩,cO x,by simpa using aD,[(4,false),(10,false),(13,true)],_,b1,rfl,_,b2,rfl,by simp;omega,_,au (y:=((i-1:Nat):Int)) (by omega),⟨by omega,by omega⟩,cO q,by simpa using Lm,λh=>?_,λh=>?_⟩
     .have h:x.1<=q.1:=by simpa using h
      rw[gE (.inr (.inr ⟨by omega,q,hq,h⟩))];exact⟨rfl,rfl,rfl⟩
     .have h:¬x.1<=q.1:=by simpa using h
      refine⟨_,au (y:=((i+1:Nat):Int)) (by omega),?_⟩;exact⟨_,_,Wk.ad [0,2,5,6,7] [],by omega,i+1,by omega,rfl,next (λk=>by
       rcases k with k|k|⟨_,q',k1,k2⟩
       .rw[h1]at k;cases k
       .rw[h2]at k;cases k
       .rw[hq]at k1;injection k1 with k1;subst k1;exact h k2),rfl⟩
 .have og:i=l.length:=by simp at aC;omega
  subst og;have tX:∀j x,l[j]?=some x->¬yo l j x:=λj x hx=>hb j x (aE.1 hx).1 hx
  have:M4 l=decide ((l.length:Int)<=1024):=by
   by_cases h:l.length<=1024
   .rw[show decide ((l.length:Int)<=1024)=true from uG (by omega)]
    exact @uG _ (Classical.propDecidable _) ⟨tX,h⟩
   .rw[show decide ((l.length:Int)<=1024)=false from qA (by omega)]
    exact Rb λk=>h k.2
  rw[this];exact⟨rfl,rfl,rfl⟩
theorem amj(x:LK)(n:Int):Fn kg 314 [.agg (cO x),.aw [I n] 0] (B (x.2==n)):=aH adl ⟨rfl,rfl,rfl⟩
theorem amk(l:List LK)(hl:l.length<=100000)(p:LK->Bool)(g:FuncId)(xs:List AV)(hp:∀a∈l,Fn kg g [.agg (cO a),.aw xs 0] (B (p a))):Fn kg 356 [yi l,.func g [.aw xs 0]] (I (aQ p 0 l)):=by
 refine aH ady ?_;refine⟨λn c=>∃i:Nat,i<=l.length/\n=l.length-i/\c=⟨[(0,yi l),(1,.func g [.aw xs 0]),(4,I 0),(7,I l.length),(8,I i)],[]⟩/\aQ p i (l.drop i)=aQ p 0 l,⟨_,_,Wk.ad [0,1,4,7,8] [],0,by omega,rfl,rfl,by simp⟩,?_⟩;rintro n c ⟨i,hi,rfl,rfl,hI⟩;refine⟨λh=>?_,λh=>?_⟩
 .simp at h
  obtain⟨a,ha,hd,_⟩:=aq h;rw[hd,aQ]at hI;refine⟨⟨by omega,by omega⟩,cO a,by simp[ha],_,hp a (ay ha),λhf=>?_,λhf=>?_⟩
  .rw[if_pos hf]at hI
   exact⟨rfl,rfl,by rw[<-hI];rfl⟩
  .rw[if_neg (by simp[hf])]at hI
   refine⟨_,ah,?_⟩;exact⟨_,_,Wk.ad [0,1,4,7,8] [],by omega,i+1,by omega,rfl,rfl,hI⟩
 .simp at h
  have:i=l.length:=by omega
  subst this;simp[aQ]at hI;exact⟨rfl,rfl,by rw[<-hI];rfl⟩
theorem aml(l:List LK)(hl:l.length<=100000)(p:LK->Bool)(g:FuncId)(xs:List AV)(hp:∀a∈l,Fn kg g [.agg (cO a),.aw xs 0] (B (p a))):Fn kg 313 [yi l,.func g [.aw xs 0]] (B (l.any p)):=
 aH adk ⟨_,amk l hl p g xs hp,rfl,rfl,by rw[<-fj];rfl⟩
theorem amm(l:List LK)(hl:l.length<=100000)(n:Int):Fn kg 312 [I n,.aw [yi l] 0] (B (l.any λx=>x.2==n)):=
 aH adj ⟨_,aml l hl (λx=>x.2==n) 314 [I n] (λa _=>amj a n),rfl,rfl,rfl⟩
def xv(l:List LK)(f:Int)(us:List Int)(i:Nat):List LK:=l++(List.range i).map λj=>(f+(j:Nat),us.getD j 0)
theorem M5(l:List LK)(f:Int)(us:List Int)(i:Nat):xv l f us (i+1)=xv l f us i++[(f+(i:Nat),us.getD i 0)]:=by simp[xv,List.range_succ,cM]
theorem rL(l:List LK)(f:Int)(us:List Int)(i:Nat):(xv l f us i).length=l.length+i:=by simp[xv]
abbrev ag3:List Nat:=[0,1,2,3,4,6,7,8,9,10,11,13,22,26,38,53,58,69,70,71,72]
abbrev ag4(l:List LK)(b:Bt)(first:Int):aM:=⟨[(2,I first),(3,.af 48 0),(4,.af 64 0)],[(48,⟨47,1,.any,[[yi l]],[]⟩),(64,⟨97,8,.any,[aX b],[]⟩)]⟩
set_option maxHeartbeats 4000000 in
theorem t256(l:List LK)(b:Bt)(first:Int)(hl:l.length<=1024)(hu:b.us.length<=60)(hf1:1<=first)(hf2:first<=1073741900):
  mY kg tt 86 ag3 [] [14] [] (o0 3 (body Tryz.f256)) (ag4 l b first) (kq tt [.tmp 6,.tmp 7] (.bY [.dh true 166 2 (xv l first b.us b.us.length).length ((xv l first b.us b.us.length).map cO),I 0])):=by
 have a72:=c72 (l.map cO) (by simp;omega) (ZS l);rw[gB]at a72;refine⟨_,aj.refl _ _,_,a72,false,?_⟩;refine⟨λm c=>∃(i n:Nat)(aa:List (List AV)),i<=b.us.length/\m=b.us.length-i/\n=(xv l first b.us i).length/\aa=(xv l first b.us i).map cO/\c=⟨[(2,I first),(9,.bn 1072 2 n),(69,NS b.us),(70,I b.us.length),(71,I i)],[(1072,⟨166,2,.pure,aa,[]⟩)]⟩,
  ⟨_,_,aj.ad [2,9,69,70,71] [1072],0,_,_,by omega,rfl,by simp[xv],by simp[xv],rfl⟩,?_⟩
 rintro m c ⟨i,n,aa,hi,rfl,hn,aD,rfl⟩;have ny:n=l.length+i:=by rw[hn,rL]
 refine⟨λaC=>?_,λaC=>?_⟩
 .simp at aC
  obtain⟨x,hx,_,_⟩:=aq aC;refine⟨⟨by omega,by omega⟩,[I x],by simp[hx],_,au (y:=first+(i:Nat)) (by omega),⟨?_,?_⟩,?_⟩
  .show(n+1)*16<=_
   omega
  .show n+1<=_
   omega
  refine⟨_,au (y:=((i+1:Nat):Int)) (by omega),?_⟩;have hg:b.us.getD i 0=x:=by rw[lJ,hx];rfl
  refine⟨_,_,aj.ad [2,9,69,70,71] [1072],by omega,i+1,n+1,aa.take n++[[I (first+(i:Nat)),I x]],by omega,rfl,by rw[hn,rL,rL];omega,?_,rfl⟩;rw[M5,qB,hg,aD,ph (by rw[gB,hn];exact bG _)]
  rfl
 .have og:i=b.us.length:=by simp at aC;omega
  subst og;subst hn aD;exact⟨_,aj.ad [6,7] [1072],_,_,rfl,⟨_,rfl,rfl,by simp,.inl ⟨rfl,rfl⟩⟩,rfl,rfl,trivial⟩
def ag5(l:List LK)(b:Bt)(first:Int):Prop:=(∃er,er≠0/\Fn kg 256 [yi l,.agg (aX b),I first] (.bY [.ai,I er]))∨∃l':List LK,l'.length<=1024/\Fn kg 256 [yi l,.agg (aX b),I first] (.bY [.dh true 166 2 l'.length (l'.map cO),I 0])
set_option maxHeartbeats 4000000 in
theorem amn(l:List LK)(hl:l.length<=100000)(b:Bt)(hu:b.us.length<=100000)(hb:b.gE.length<=100000)(first:Int)(hf0: -9223372036854775808<=first):ag5 l b first:=by
 obtain⟨er,jU,kM⟩:=Q9 b hu hb;have wj:=ami l hl;have gE:∀{er:Int},er≠0->Fn kg 256 [yi l,.agg (aX b),I first] (.bY [.ai,I er])->ag5 l b first:=λh k=>.inl ⟨_,h,k⟩
 cases hk:M4 l with
 |false=>
  rw[hk]at wj;refine gE (er:=1) (by decide) (lX p0 [] [14] ⟨[(3,true)],_,wj,rfl,λ_=>?_,λh=>(by cases h)⟩);exact⟨_,aj.refl _ _,_,_,rfl,.inl rfl,rfl,rfl,trivial⟩
 |true=>
 rw[hk]at wj;have tY:=(aal hk).2
 by_cases h0:er≠0
 .refine gE (er:=1) (by decide) (lX p0 [] [14] ⟨[(3,false)],_,wj,rfl,_,jU,λ_=>?_,λh=>absurd h (by simp[h0])⟩)
  exact⟨_,aj.refl _ _,_,_,rfl,.inl rfl,rfl,rfl,trivial⟩
 have h0:er=0:=by omega
 have ok:=kM h0;subst h0;obtain⟨_,_,_,aam,_⟩:=ok.aad
 by_cases h3:¬b.st=3
 .refine gE (er:=11) (by decide) (lX p0 [] [14] ⟨[(3,false)],_,wj,rfl,_,jU,λh=>(by cases h),λ_=>⟨λ_=>?_,λh=>absurd h (by simp[h3])⟩⟩)
  exact⟨_,aj.refl _ _,_,_,rfl,.inl rfl,rfl,rfl,trivial⟩
 have h3:b.st=3:=LU.1 h3
 by_cases hf1:first<1
 .refine gE (er:=2) (by decide) (lX p0 [] [14] ⟨[(3,false)],_,wj,rfl,_,jU,λh=>(by cases h),λ_=>⟨λh=>absurd h (by simp[h3]),λ_=>⟨[(2,true)],by simp[hf1],λ_=>?_,λh=>(by cases h)⟩⟩⟩)
  exact⟨_,aj.refl _ _,_,_,rfl,.inl rfl,rfl,rfl,trivial⟩
 by_cases hf2:first>1073741824-(b.us.length:Int)+1
 .refine gE (er:=2) (by decide) (lX p0 [] [14] ⟨[(3,false)],_,wj,rfl,_,jU,λh=>(by cases h),λ_=>⟨λh=>absurd h (by simp[h3]),λ_=>⟨[(2,false)],by simp;omega,_,au (y:=1073741824-(b.us.length:Int)) (by omega),_,au (y:=1073741824-(b.us.length:Int)+1) (by omega),λ_=>?_,λh=>absurd (j0 h) (by omega)⟩⟩⟩)
  exact⟨_,aj.refl _ _,_,_,rfl,.inl rfl,rfl,rfl,trivial⟩
 have nz:=UL b.us (by omega) (λn=>l.any λx=>x.2==n) 312 [yi l] (λa _=>amm l hl a);have hul:=aam
 by_cases Qh:l.length=0
 .cases JH:b.us.any (λn=>l.any λx=>x.2==n)with
  |true=>
   refine gE (er:=6) (by decide) (lX p0 [] [14] ⟨[(3,false)],_,wj,rfl,_,jU,λh=>(by cases h),λ_=>⟨λh=>absurd h (by simp[h3]),λ_=>⟨[(2,false)],by simp;omega,_,au (y:=1073741824-(b.us.length:Int)) (by omega),_,au (y:=1073741824-(b.us.length:Int)+1) (by omega),λh=>absurd (aP h) (by omega),λ_=>?_⟩⟩⟩);refine⟨[(3,false)],by simp[Qh],λh=>(by cases h),λ_=>⟨_,nz,λ_=>?_,λh=>absurd h (by simp[JH])⟩⟩;exact⟨_,aj.refl _ _,_,_,rfl,.inl rfl,rfl,rfl,trivial⟩
  |false=>
   by_cases ag6:(l.length:Int)+b.us.length>1024
   .refine gE (er:=12) (by decide) (lX p0 [] [14] ⟨[(3,false)],_,wj,rfl,_,jU,λh=>(by cases h),λ_=>⟨λh=>absurd h (by simp[h3]),λ_=>⟨[(2,false)],by simp;omega,_,au (y:=1073741824-(b.us.length:Int)) (by omega),_,au (y:=1073741824-(b.us.length:Int)+1) (by omega),λh=>absurd (aP h) (by omega),λ_=>?_⟩⟩⟩)
    refine⟨[(3,false)],by simp[Qh],λh=>(by cases h),λ_=>⟨_,nz,λh=>absurd h (by simp[JH]),λ_=>⟨_,au (y:=(l.length:Int)+b.us.length) (by omega),λ_=>?_,λh=>absurd (j0 h) (by omega)⟩⟩⟩;exact⟨_,aj.refl _ _,_,_,rfl,.inl rfl,rfl,rfl,trivial⟩
   .refine .inr ⟨xv l first b.us b.us.length,by rw[rL];omega,lX p0 [] [14] ⟨[(3,false)],_,wj,rfl,_,jU,λh=>(by cases h),λ_=>⟨λh=>absurd h (by simp[h3]),λ_=>⟨[(2,false)],by simp;omega,_,au (y:=1073741824-(b.us.length:Int)) (by omega),_,au (y:=1073741824-(b.us.length:Int)+1) (by omega),λh=>absurd (aP h) (by omega),λ_=>?_⟩⟩⟩⟩
    refine⟨[(3,false)],by simp[Qh],λh=>(by cases h),λ_=>⟨_,nz,λh=>absurd h (by simp[JH]),λ_=>⟨_,au (y:=(l.length:Int)+b.us.length) (by omega),λh=>absurd (aP h) (by omega),λ_=>?_⟩⟩⟩;obtain⟨c',h1,h2⟩:=t256 l b first tY aam (by omega) (by omega)
    exact⟨c',aj.trans (aj.ad [2,3,4] [48,64]) h1,h2⟩
 .obtain⟨q,hq⟩:∃q,l[l.length-1]?=some q:=⟨_,aW (by omega)⟩
  have Lm:(l.map cO)[l.length-1]?=some (cO q):=by rw[aS,hq];rfl
  by_cases Vg:first<=q.1
  .refine gE (er:=5) (by decide) (lX p0 [] [14] ⟨[(3,false)],_,wj,rfl,_,jU,λh=>(by cases h),λ_=>⟨λh=>absurd h (by simp[h3]),λ_=>⟨[(2,false)],by simp;omega,_,au (y:=1073741824-(b.us.length:Int)) (by omega),_,au (y:=1073741824-(b.us.length:Int)+1) (by omega),λh=>absurd (aP h) (by omega),λ_=>?_⟩⟩⟩)
   refine⟨[(3,true)],by simp;omega,_,au (y:=((l.length-1:Nat):Int)) (by omega),⟨by omega,by omega⟩,cO q,by simpa using Lm,λ_=>?_,λh=>absurd Vg (j0 h)⟩;exact⟨_,aj.refl _ _,_,_,rfl,.inl rfl,rfl,rfl,trivial⟩
  .cases JH:b.us.any (λn=>l.any λx=>x.2==n)with
   |true=>
    refine gE (er:=6) (by decide) (lX p0 [] [14] ⟨[(3,false)],_,wj,rfl,_,jU,λh=>(by cases h),λ_=>⟨λh=>absurd h (by simp[h3]),λ_=>⟨[(2,false)],by simp;omega,_,au (y:=1073741824-(b.us.length:Int)) (by omega),_,au (y:=1073741824-(b.us.length:Int)+1) (by omega),λh=>absurd (aP h) (by omega),λ_=>?_⟩⟩⟩);refine⟨[(3,true)],by simp;omega,_,au (y:=((l.length-1:Nat):Int)) (by omega),⟨by omega,by omega⟩,cO q,by simpa using Lm,λh=>absurd (aP h) Vg,λ_=>⟨_,nz,λ_=>?_,λh=>absurd h (by simp[JH])⟩⟩;exact⟨_,aj.refl _ _,_,_,rfl,.inl rfl,rfl,rfl,trivial⟩
   |false=>
    by_cases ag6:(l.length:Int)+b.us.length>1024
    .refine gE (er:=12) (by decide) (lX p0 [] [14] ⟨[(3,false)],_,wj,rfl,_,jU,λh=>(by cases h),λ_=>⟨λh=>absurd h (by simp[h3]),λ_=>⟨[(2,false)],by simp;omega,_,au (y:=1073741824-(b.us.length:Int)) (by omega),_,au (y:=1073741824-(b.us.length:Int)+1) (by omega),λh=>absurd (aP h) (by omega),λ_=>?_⟩⟩⟩)
     refine⟨[(3,true)],by simp;omega,_,au (y:=((l.length-1:Nat):Int)) (by omega),⟨by omega,by omega⟩,cO q,by simpa using Lm,λh=>absurd (aP h) Vg,λ_=>⟨_,nz,λh=>absurd h (by simp[JH]),λ_=>⟨_,au (y:=(l.length:Int)+b.us.length) (by omega),λ_=>?_,λh=>absurd (j0 h) (by omega)⟩⟩⟩;exact⟨_,aj.refl _ _,_,_,rfl,.inl rfl,rfl,rfl,trivial⟩
    .refine .inr ⟨xv l first b.us b.us.length,by rw[rL];omega,lX p0 [] [14] ⟨[(3,false)],_,wj,rfl,_,jU,λh=>(by cases h),λ_=>⟨λh=>absurd h (by simp[h3]),λ_=>⟨[(2,false)],by simp;omega,_,au (y:=1073741824-(b.us.length:Int)) (by omega),_,au (y:=1073741824-(b.us.length:Int)+1) (by omega),λh=>absurd (aP h) (by omega),λ_=>?_⟩⟩⟩⟩
     refine⟨[(3,true)],by simp;omega,_,au (y:=((l.length-1:Nat):Int)) (by omega),⟨by omega,by omega⟩,cO q,by simpa using Lm,λh=>absurd (aP h) Vg,λ_=>⟨_,nz,λh=>absurd h (by simp[JH]),λ_=>⟨_,au (y:=(l.length:Int)+b.us.length) (by omega),λh=>absurd (aP h) (by omega),λ_=>?_⟩⟩⟩;obtain⟨c',h1,h2⟩:=t256 l b first tY aam (by omega) (by omega)
     exact⟨c',aj.trans (aj.ad [2,3,4] [48,64]) h1,h2⟩
end Go.an.ax.G
