import Derived.Test.YtpfmbblnhjpclaaGreatDoorJ20
import Derived.Test.YtpfmbblnhjpclaaGreatDoorJ31
set_option linter.unusedVariables false
set_option linter.unusedSimpArgs false
set_option maxRecDepth 20000
namespace Go.an.ax.Rq
open Go Go.an Go.Proofs
abbrev A(l:List dE):AV:=.aL 7 l.length (l.map cd)
abbrev fA(l:List dE):AV:=.dh true 159 7 l.length (l.map cd)
abbrev X(n:Int):AV:=.aw [I n] 0
def Um(n:Int):Bool:=decide (n>=1)&&decide (n<=1073741824)
def Un(n:Int):Bool:=decide (n>=0)&&decide (n<=1048575)
def Hz(r:dE):Bool:=(r.st==1)||(r.st==2)
def sI(r:dE):Bool:=Um r.id&&Um r.rd&&Um r.un&&Um r.bx&&Un r.dy&&decide (r.st>=1)&&decide (r.st<=5)&&decide (r.ch>=r.dy)&&Un r.ch&&((r.st !=1)||(r.ch==r.dy))
theorem HA(n:Int):Fn kg 197 [I n] (.bool (Um n)):=aH aco ⟨[],rfl,rfl,rfl⟩
theorem ZG(n:Int):Fn kg 198 [I n] (.bool (Un n)):=aH acp ⟨[],rfl,rfl,rfl⟩
theorem ZH(r:dE):Fn kg 137 [.agg (cd r)] (.bool (Hz r)):=aH ab0 ⟨[],rfl,rfl,rfl⟩
theorem ak0(r:dE):Fn kg 135 [.agg (cd r)] (.bool (sI r)):=aH abY ⟨[],_,HA r.id,_,HA r.rd,_,HA r.un,_,HA r.bx,_,ZG r.dy,_,ZG r.ch,rfl,rfl,rfl⟩
theorem FN(l:List dE):jm (l.map cd):=by
 intro row hr u hu;simp only[cK]at hr;obtain⟨a,_,rfl⟩:=hr;simp only[cd,bK,j5,or_false]at hu
 rcases hu with rfl|rfl|rfl|rfl|rfl|rfl|rfl<;>rfl
theorem Yk:Fn kg 69 [.ai] (fA []):=aH Ml ⟨λ_=>⟨rfl,.inr ⟨_,_,_,rfl⟩⟩,λh=>by cases h⟩
theorem Yl:Fn kg 69 [.nU] (fA []):=aH Ml ⟨λh=>(by cases h),λ_=>⟨by decide,rfl,_,rfl,rfl,rfl,.inl ⟨rfl,rfl⟩⟩⟩
theorem Tm(l:List dE)(h:l.length<=2000):Fn kg 69 [A l] (fA l):=by
 cases l with
 |nil=>exact eu Yk Yl
 |cons a l=>
  refine aH Ml ⟨by simp,λh=>(by cases h),λ_=>?_⟩;exact⟨⟨by simp at h⊢;omega,by simp at h⊢;omega⟩,FN (a::l),rfl,_,rfl,rfl,by simp,.inl ⟨rfl,by simp⟩⟩
theorem ak1(r:dE)(x y:Int):Fn kg 201 [.agg (cd r),X x,X y] (.bool (Hz r&&(r.rd==x)&&(r.un==y))):=aH acr ⟨[],_,ZH r,rfl,rfl,rfl⟩
theorem ak2(r:dE)(x:Int):Fn kg 200 [.agg (cd r),X x] (.bool ((r.st==2)&&(r.bx==x))):=aH acq ⟨[],rfl,rfl,rfl⟩
theorem ak3(r:dE)(x:Int):Fn kg 391 [.agg (cd r),X x] (.bool (r.id==x)):=aH adF ⟨rfl,rfl,rfl⟩
theorem ak4(r:dE)(x:Int):Fn kg 354 [.agg (cd r),X x] (.bool ((r.st==1)&&(r.bx==x))):=aH adw ⟨[],rfl,rfl,rfl⟩
theorem Db(l:List dE)(hl:l.length<=9223372036854775807)(p:dE->Bool)(g:FuncId)(xs:List AV)(hp:∀a∈l,Fn kg g [.agg (cd a),.aw xs 0] (.bool (p a))):Fn kg 274 [A l,.func g [.aw xs 0]] (I (aQ p 0 l)):=by
 refine aH Pp ?_;refine⟨λn c=>∃i:Nat,i<=l.length/\n=l.length-i/\c=⟨[(0,A l),(1,.func g [.aw xs 0]),(4,I 0),(7,I l.length),(8,I i)],[]⟩/\aQ p i (l.drop i)=aQ p 0 l,⟨_,_,Wk.ad [0,1,4,7,8] [],0,by omega,rfl,rfl,by simp⟩,?_⟩;rintro n c ⟨i,hi,rfl,rfl,hI⟩;refine⟨λh=>?_,λh=>?_⟩
 .simp at h
  obtain⟨a,ha,hd,_⟩:=aq h;rw[hd,aQ]at hI;refine⟨by omega,cd a,by simp[ha],_,hp a (ay ha),λhf=>?_,λhf=>?_⟩
  .rw[if_pos hf]at hI
   exact⟨rfl,rfl,by rw[<-hI];rfl⟩
  .rw[if_neg (by simp[hf])]at hI
   refine⟨_,ah,?_⟩;exact⟨_,_,Wk.ad [0,1,4,7,8] [],by omega,i+1,by omega,rfl,rfl,hI⟩
 .simp at h
  have:i=l.length:=by omega
  subst this;simp[aQ]at hI;exact⟨rfl,rfl,by rw[<-hI];rfl⟩
theorem afg(l:List dE)(hl:l.length<=9223372036854775807)(p:dE->Bool)(g:FuncId)(xs ys:List AV)(hp:∀a∈l,Fn kg g [.agg (cd a),.aw xs 0,.aw ys 0] (.bool (p a))):Fn kg 274 [A l,.func g [.aw xs 0,.aw ys 0]] (I (aQ p 0 l)):=by
 refine aH Pp ?_;refine⟨λn c=>∃i:Nat,i<=l.length/\n=l.length-i/\c=⟨[(0,A l),(1,.func g [.aw xs 0,.aw ys 0]),(4,I 0),(7,I l.length),(8,I i)],[]⟩/\aQ p i (l.drop i)=aQ p 0 l,⟨_,_,Wk.ad [0,1,4,7,8] [],0,by omega,rfl,rfl,by simp⟩,?_⟩;rintro n c ⟨i,hi,rfl,rfl,hI⟩;refine⟨λh=>?_,λh=>?_⟩
 .simp at h
  obtain⟨a,ha,hd,_⟩:=aq h;rw[hd,aQ]at hI;refine⟨by omega,cd a,by simp[ha],_,hp a (ay ha),λhf=>?_,λhf=>?_⟩
  .rw[if_pos hf]at hI
   exact⟨rfl,rfl,by rw[<-hI];rfl⟩
  .rw[if_neg (by simp[hf])]at hI
   refine⟨_,ah,?_⟩;exact⟨_,_,Wk.ad [0,1,4,7,8] [],by omega,i+1,by omega,rfl,rfl,hI⟩
 .simp at h
  have:i=l.length:=by omega
  subst this;simp[aQ]at hI;exact⟨rfl,rfl,by rw[<-hI];rfl⟩
theorem afh(l:List dE)(hl:l.length<=9223372036854775807)(p:dE->Bool)(g:FuncId)(xs:List AV)(hp:∀a∈l,Fn kg g [.agg (cd a),.aw xs 0] (.bool (p a))):Fn kg 199 [A l,.func g [.aw xs 0]] (.bool (l.any p)):=
 aH VC ⟨_,Db l hl p g xs hp,rfl,rfl,by rw[<-fj];rfl⟩
theorem afi(l:List dE)(hl:l.length<=9223372036854775807)(p:dE->Bool)(g:FuncId)(xs ys:List AV)(hp:∀a∈l,Fn kg g [.agg (cd a),.aw xs 0,.aw ys 0] (.bool (p a))):Fn kg 199 [A l,.func g [.aw xs 0,.aw ys 0]] (.bool (l.any p)):=
 aH VC ⟨_,afg l hl p g xs ys hp,rfl,rfl,by rw[<-fj];rfl⟩
def K7(l:List dE)(b:Int):Bool:=l.any λr=>(r.st==2)&&(r.bx==b)
def QA(l:List dE)(x y:Int):Bool:=l.any λr=>Hz r&&(r.rd==x)&&(r.un==y)
theorem ZI(l:List dE)(hl:l.length<=9223372036854775807)(b:Int):Fn kg 136 [A l,I b] (.bool (K7 l b)):=aH abZ ⟨_,afh l hl _ 200 [I b] (λa _=>ak2 a b),rfl,rfl,rfl⟩
theorem Uo(l:List dE)(hl:l.length<=9223372036854775807)(x y:Int):Fn kg 138 [A l,I x,I y] (.bool (QA l x y)):=aH ab1 ⟨_,afi l hl _ 201 [I x] [I y] (λa _=>ak1 a x y),rfl,rfl,rfl⟩
def pT(l:List dE)(n:Int):Int:=aQ (λr:dE=>r.id==n) 0 l
theorem ak5(l:List dE)(hl:l.length<=9223372036854775807)(n:Int):Fn kg 355 [A l,I n] (I (pT l n)):=aH adx ⟨_,Db l hl _ 391 [I n] (λa _=>ak3 a n),rfl,rfl,rfl⟩
def fN(l:List dE)(b:Int):Int:=if K7 l b=true then-1 else aQ (λr:dE=>(r.st==1)&&(r.bx==b)) 0 l
theorem ak6(l:List dE)(hl:l.length<=9223372036854775807)(b:Int):Fn kg 305 [A l,I b] (I (fN l b)):=by
 refine aH ada ⟨_,ZI l hl b,λh=>?_,λh=>?_⟩
 .rw[fN,if_pos h];exact⟨rfl,rfl,rfl⟩
 .rw[fN,if_neg (by simp[h])]
  exact⟨_,Db l hl _ 354 [I b] (λa _=>ak4 a b),rfl,rfl,rfl⟩
def rH(pre:List dE)(r:dE):Bool:=match pre.getLast? with
 |some q=>decide (r.id<=q.id)||decide (r.dy<q.dy)
 |none=>false
def MK(pre:List dE)(r:dE):Int:=
 if sI r=false then 2 else if rH pre r=true then 5 else if((r.st==2)&&K7 pre r.bx)=true then 11 else if(Hz r&&QA pre r.rd r.un)=true then 6 else 0
def qx(pre:List dE):List dE->Int
 |[]=>0
 |r::rest=>if MK pre r≠0 then MK pre r else qx (pre++[r]) rest
def bg(l:List dE):Int:=if l.length>256 then 8 else qx [] l
theorem iP{l:List dE}(h:256<l.length):bg l=8:=if_pos h
theorem jP{l:List dE}(h:l.length<=256):bg l=qx [] l:=if_neg (by omega)
theorem HB(r:dE):rH [] r=false:=rfl
theorem QB{l:List dE}{i:Nat}{p r:dE}(h0:i≠0)(hi:i<=l.length)(hp:l[i-1]?=some p):rH (l.take i) r=(decide (r.id<=p.id)||decide (r.dy<p.dy)):=by
 have:(l.take i).getLast?=some p:=by
  rw[uJ,aO,rS hi,bQ,if_pos (by omega)];exact hp
 simp only[rH,this]
theorem tkR(l:List dE)(i:Nat)(h:i<=l.length):(l.map cd).take i=(l.take i).map cd/\(l.take i).length=i:=by
 simp[zz];omega
theorem fnT{f:FuncId}{l:List dE}{i:Nat}(hi:i<=l.length){us:List AV}{r:AV}(h:Fn kg f (A (l.take i)::us) r):Fn kg f (.aL 7 i ((l.map cd).take i)::us) r:=by
 obtain⟨h1,h2⟩:=tkR l i hi;rw[h1];have:A (l.take i)=.aL 7 i ((l.take i).map cd):=by rw[A,h2]
 rw[<-this];exact h
theorem c98(l:List dE):Fn kg 98 [A l] (I (bg l)):=by
 refine aH abB ⟨λh=>?_,λh=>?_⟩
 .simp at h
  exact⟨rfl,rfl,by rw[iP (by omega)];rfl⟩
 .simp at h
  rw[jP (by omega)];refine⟨λn c=>∃i:Nat,i<=l.length/\n=l.length-i/\c=⟨[(0,A l),(2,I 0),(8,A l),(9,I l.length),(10,I i)],[]⟩/\qx (l.take i) (l.drop i)=qx [] l,⟨_,_,Wk.ad [0,2,8,9,10] [],0,by omega,rfl,rfl,by simp⟩,?_⟩;rintro n c ⟨i,hi,rfl,rfl,hI⟩;refine⟨λh=>?_,λh=>?_⟩
  .simp at h
   obtain⟨a,ha,hd,ht⟩:=aq h;rw[hd,qx,<-ht]at hI;refine⟨by omega,cd a,by simp[ha],_,ak0 a,λhf=>?_,λhf=>?_⟩
   .simp at hf
    rw[show MK (l.take i) a=2 by simp[MK,hf]]at hI;exact⟨rfl,rfl,by rw[<-hI];rfl⟩
   .simp at hf
    have e1:MK (l.take i) a=if rH (l.take i) a=true then 5 else if((a.st==2)&&K7 (l.take i) a.bx)=true then 11 else if(Hz a&&QA (l.take i) a.rd a.un)=true then 6 else 0:=by simp[MK,hf]
    by_cases h0:i=0
    .subst h0
     have e2:=e1;rw[if_neg (by simp[HB])]at e2;refine⟨[(2,false)],by simp,λh=>(by cases h),λh=>?_⟩;refine⟨[],by omega,_,fnT (i:=0) (by omega) (ZI (l.take 0) (by simp<;>omega) a.bx),λh2=>?_,λh2=>?_⟩
     .rw[if_pos h2]at e2
      rw[e2]at hI;exact⟨rfl,rfl,by rw[<-hI];rfl⟩
     .rw[if_neg (by rw[h2];simp)]at e2
      refine⟨[],_,ZH a,by omega,_,fnT (i:=0) (by omega) (Uo (l.take 0) (by simp<;>omega) a.rd a.un),λh3=>?_,λh3=>?_⟩
      .rw[if_pos h3]at e2
       rw[e2]at hI;exact⟨rfl,rfl,by rw[<-hI];rfl⟩
      .rw[if_neg (by rw[h3];simp)]at e2
       rw[e2]at hI;refine⟨_,ah,?_⟩;exact⟨_,_,Wk.ad [0,2,8,9,10] [],by omega,0+1,by omega,rfl,rfl,hI⟩
    .obtain⟨p,hp⟩:∃p,l[i-1]?=some p:=⟨l[i-1],by simp⟩
     rw[QB h0 (by omega) hp]at e1;have e2:=e1;refine⟨[(2,true)],by simp;omega,_,ah,by omega,cd p,get_map' hp (by omega),_,ah,by omega,cd p,get_map' hp (by omega),λh=>?_,λh=>?_⟩
     .rw[if_pos (by simpa using h)]at e2
      rw[e2]at hI;exact⟨rfl,rfl,by rw[<-hI];rfl⟩
     .rw[if_neg (by simpa using h)]at e2
      refine⟨[],by omega,_,fnT (i:=i) (by omega) (ZI (l.take i) (by simp<;>omega) a.bx),λh2=>?_,λh2=>?_⟩
      .rw[if_pos h2]at e2
       rw[e2]at hI;exact⟨rfl,rfl,by rw[<-hI];rfl⟩
      .rw[if_neg (by rw[h2];simp)]at e2
       refine⟨[],_,ZH a,by omega,_,fnT (i:=i) (by omega) (Uo (l.take i) (by simp<;>omega) a.rd a.un),λh3=>?_,λh3=>?_⟩
       .rw[if_pos h3]at e2
        rw[e2]at hI;exact⟨rfl,rfl,by rw[<-hI];rfl⟩
       .rw[if_neg (by rw[h3];simp)]at e2
        rw[e2]at hI;refine⟨_,ah,?_⟩;exact⟨_,_,Wk.ad [0,2,8,9,10] [],by omega,i+1,by omega,rfl,rfl,hI⟩
  .simp at h
   have:i=l.length:=by omega
   subst this;simp[qx]at hI;exact⟨rfl,rfl,by rw[<-hI];rfl⟩
theorem ik{l:List dE}(h:bg l=0):l.length<=256:=by
 by_cases hl:256<l.length
 .rw[iP hl]at h;cases h
 .omega
def ZJ(r:dE):Bool:= !Um r.id|| !Um r.rd|| !Um r.un|| !Um r.bx|| !Un r.dy
def QC(r:dE):dE:={r with st:=1,ch:=r.dy}
def bT(l:List dE)(r:dE):List dE×Int:=
 if bg l≠0 then([],1)else if ZJ r=true then([],2)else if rH l r=true then([],5)else if QA l r.rd r.un=true then([],6)else if l.length>=256 then([],12)else(l++[QC r],0)
theorem HD{l:List dE}{p r:dE}(hp:l[l.length-1]?=some p):rH l r=(decide (r.id<=p.id)||decide (r.dy<p.dy)):=by
 simp only[rH,uJ,hp]
theorem Up{l:List dE}{n:dE}:AV.dh true 159 7 (l++[n]).length ((l++[n]).map cd)=AV.dh true 159 7 (l.length+1) ((l.map cd).take l.length++[cd n]):=by
 rw[Et,be,qB];rfl
theorem QD{l:List dE}{n:dE}:l.length+1=((l.map cd).take l.length++[cd n]).length:=by simp
theorem afj(l:List dE)(r:dE):Fn kg 239 [A l,.agg (cd r)] (.bY [fA (bT l r).1,I (bT l r).2]):=by
 refine aH acI ⟨_,c98 l,λh=>?_,λh=>?_⟩
 .simp at h
  rw[bT,if_pos h];exact⟨_,_,rfl,.inr ⟨_,_,_,rfl⟩,rfl,rfl,trivial⟩
 .simp at h
  have hl:=ik h;rw[bT,if_neg (by simp[h])];refine⟨[],_,HA r.id,_,HA r.rd,_,HA r.un,_,HA r.bx,_,ZG r.dy,λhb=>?_,λhb=>?_⟩
  .have hb:ZJ r=true:=hb
   rw[if_pos hb];exact⟨_,_,rfl,.inr ⟨_,_,_,rfl⟩,rfl,rfl,trivial⟩
  .have hb:ZJ r=false:=hb
   rw[if_neg (by simp[hb])]
   by_cases h0:l.length=0
   .have Qh:l=[]:=bE h0
    subst Qh;rw[if_neg (by simp[HB])];refine⟨[(2,false)],by simp,λh=>(by cases h),λh=>⟨_,Uo [] (by simp) r.rd r.un,λh=>?_,λh=>?_⟩⟩
    .cases h
    .rw[if_neg (by simp[QA]),if_neg (by simp)]
     refine⟨λh=>(by cases h),λh=>⟨_,Tm [] (by simp),false,⟨by decide,by decide⟩,?_⟩⟩;exact⟨_,_,rfl,⟨_,rfl,rfl,rfl,.inl ⟨rfl,rfl⟩⟩,rfl,rfl,trivial⟩
   .obtain⟨p,hp⟩:∃p,l[l.length-1]?=some p:=⟨l[l.length-1],by simp⟩
    rw[HD hp];refine⟨[(2,true)],by simp;omega,_,ah,by omega,cd p,get_map' hp (by omega),_,ah,by omega,cd p,get_map' hp (by omega),λh=>?_,λh=>?_⟩
    .rw[if_pos (by simpa using h)]
     exact⟨_,_,rfl,.inr ⟨_,_,_,rfl⟩,rfl,rfl,trivial⟩
    .rw[if_neg (by simpa using h)]
     refine⟨_,Uo l (by omega) r.rd r.un,λh=>?_,λh=>?_⟩
     .rw[if_pos h]
      exact⟨_,_,rfl,.inr ⟨_,_,_,rfl⟩,rfl,rfl,trivial⟩
     .rw[if_neg (by simp[h])]
      refine⟨λh=>?_,λh=>?_⟩
      .simp at h
       rw[if_pos (by omega)];exact⟨_,_,rfl,.inr ⟨_,_,_,rfl⟩,rfl,rfl,trivial⟩
      .simp at h
       rw[if_neg (by omega)];refine⟨_,Tm l (by omega),false,⟨by show(_+1)*56<=_;omega,by omega⟩,?_⟩;exact⟨_,_,rfl,⟨_,rfl,rfl,QD (l:=l) (n:=QC r),.inl ⟨rfl,Up⟩⟩,rfl,rfl,trivial⟩
theorem ML{l:List dE}{n:Int}(h:0<=pT l n):∃(i:Nat)(b:dE),l[i]?=some b/\b.id=n/\pT l n=i:=by
 rcases dH (λr:dE=>r.id==n) l 0 with⟨h1,_⟩|⟨i,b,h1,h2,h3,_⟩
 .unfold pT at h;omega
 .exact⟨i,b,h1,by simpa using h2,by unfold pT;rw[h3];simp⟩
def tx(st:Int)(can:Nat->Bool)(l:List dE)(n d:Int):List dE×Int:=
 if bg l≠0 then([],1)else if pT l n<0 then([],7)else match l[(pT l n).toNat]? with
  |some b=>if(decide (d<b.ch)||decide (d>1048575))=true then([],2)else if can (pT l n).toNat=false then([],11)else(l.set (pT l n).toNat {b with st:=st,ch:=d},0)
  |none=>([],7)
theorem Bo{l:List dE}{i:Nat}{a:dE}:(l.map cd).set i (cd a)=(l.set i a).map cd:=by rw[oC]
theorem Uq{l:List dE}{i:Nat}{b1 b2:dE}:AV.dh true 159 7 (l.set i b2).length ((l.set i b2).map cd)=AV.dh true 159 7 l.length (((l.map cd).set i (cd b1)).set i (cd b2)):=by
 rw[List.set_set,Bo,zt]
theorem Ur{l:List dE}{i:Nat}{b1 b2:dE}:l.length=(((l.map cd).set i (cd b1)).set i (cd b2)).length:=by simp
theorem Ut(st:Int)(can:Nat->Bool)(g:FuncId)(l:List dE)(n d:Int)(hg:∀(i:Nat) b,l.length<=256->l[i]?=some b->Fn kg g [A l,I i] (.bool (can i))):
  Fn kg 306 [.agg [I st,.func g []],A l,I n,I d] (.bY [fA (tx st can l n d).1,I (tx st can l n d).2]):=by
 refine aH adb ⟨_,c98 l,λh=>?_,λh=>?_⟩
 .simp at h
  rw[tx,if_pos h];exact⟨_,_,rfl,.inr ⟨_,_,_,rfl⟩,rfl,rfl,trivial⟩
 .simp at h
  have hl:=ik h;rw[tx,if_neg (by simp[h])];refine⟨_,ak5 l (by omega) n,λh=>?_,λh=>?_⟩
  .simp at h
   rw[if_pos h];exact⟨_,_,rfl,.inr ⟨_,_,_,rfl⟩,rfl,rfl,trivial⟩
  .simp at h
   rw[if_neg (by omega)];obtain⟨i,b,hb,hbn,hi⟩:=ML h;have og:i<l.length:=(aE.1 hb).1;rw[hi];simp only[aY,hb];refine⟨[],by omega,cd b,get_map hb,λhf=>?_,λhf=>?_⟩
   .rw[if_pos hf]
    exact⟨_,_,rfl,.inr ⟨_,_,_,rfl⟩,rfl,rfl,trivial⟩
   .rw[if_neg (by simp[hf])]
    refine⟨_,hg i b hl hb,λhf=>?_,λhf=>?_⟩
    .simp at hf
     rw[if_pos hf];exact⟨_,_,rfl,.inr ⟨_,_,_,rfl⟩,rfl,rfl,trivial⟩
    .simp at hf
     rw[if_neg (by simp[hf])];refine⟨_,Tm l (by omega),false,by omega,cd b,get_map hb,by omega,cd {b with st:=st},?_,?_⟩
     .show((l.map cd).set i (cd {b with st:=st}))[i]?=_
      simp[og]
     .exact⟨_,_,rfl,⟨_,rfl,rfl,Ur (l:=l) (i:=i) (b1:={b with st:=st}) (b2:={b with st:=st,ch:=d}),.inl ⟨rfl,Uq (l:=l) (i:=i) (b1:={b with st:=st}) (b2:={b with st:=st,ch:=d})⟩⟩,rfl,rfl,trivial⟩
def zg(l:List dE)(i:Nat):Bool:=match l[i]? with|some b=>(fN l b.bx==(i:Int))|none=>false
def v8(l:List dE)(s:Int)(i:Nat):Bool:=match l[i]? with|some b=>(b.st==s)|none=>false
theorem ak7(l:List dE)(i:Nat)(b:dE)(hl:l.length<=256)(hb:l[i]?=some b):Fn kg 304 [A l,I i] (.bool (zg l i)):=by
 have og:i<l.length:=(aE.1 hb).1;refine aH ac9 ⟨by omega,cd b,get_map hb,_,ak6 l (by omega) b.bx,rfl,rfl,?_⟩;simp only[zg,hb];rfl
theorem ak8(l:List dE)(i:Nat)(b:dE)(hl:l.length<=256)(hb:l[i]?=some b):Fn kg 307 [A l,I i] (.bool (v8 l 2 i)):=by
 have og:i<l.length:=(aE.1 hb).1;refine aH ade ⟨by omega,cd b,get_map hb,rfl,rfl,?_⟩;simp only[v8,hb];rfl
theorem afk(l:List dE)(i:Nat)(b:dE)(hl:l.length<=256)(hb:l[i]?=some b):Fn kg 308 [A l,I i] (.bool (v8 l 1 i)):=by
 have og:i<l.length:=(aE.1 hb).1;refine aH adf ⟨by omega,cd b,get_map hb,rfl,rfl,?_⟩;simp only[v8,hb];rfl
def DF(l:List dE)(n d:Int):=tx 2 (zg l) l n d
def zh(l:List dE)(n d:Int):=tx 3 (v8 l 2) l n d
def ZK:Bool->Int|true=>4|false=>5
def mg(l:List dE)(n d:Int)(f:Bool):=tx (ZK f) (v8 l 1) l n d
theorem Fc{l:List dE}:l.length=(l.map cd).length:=by simp
theorem afl(l:List dE)(n d:Int):Fn kg 245 [A l,I n,I d] (.bY [fA (DF l n d).1,I (DF l n d).2]):=
 aH acL ⟨_,Ut 2 (zg l) 304 l n d (ak7 l),false,_,_,rfl,⟨_,rfl,rfl,Fc,.inl ⟨rfl,rfl⟩⟩,rfl,rfl,trivial⟩
theorem ak9(l:List dE)(n d:Int):Fn kg 246 [A l,I n,I d] (.bY [fA (zh l n d).1,I (zh l n d).2]):=
 aH acM ⟨_,Ut 3 (v8 l 2) 307 l n d (ak8 l),false,_,_,rfl,⟨_,rfl,rfl,Fc,.inl ⟨rfl,rfl⟩⟩,rfl,rfl,trivial⟩
theorem afm(l:List dE)(n d:Int)(f:Bool):Fn kg 247 [A l,I n,I d,.bool f] (.bY [fA (mg l n d f).1,I (mg l n d f).2]):=by
 refine aH acN ⟨λh=>?_,λh=>?_⟩
 .subst h
  exact⟨_,Ut 4 (v8 l 1) 308 l n d (afk l),false,_,_,rfl,⟨_,rfl,rfl,Fc,.inl ⟨rfl,rfl⟩⟩,rfl,rfl,trivial⟩
 .subst h
  exact⟨_,Ut 5 (v8 l 1) 308 l n d (afk l),false,_,_,rfl,⟨_,rfl,rfl,Fc,.inl ⟨rfl,rfl⟩⟩,rfl,rfl,trivial⟩
end Go.an.ax.Rq
namespace Go.an.ax.Aw
open Go Go.an Go.Proofs
theorem Uu(l:List Bx)(hl:l.length<=100000)(hc:∀b∈l,b.ma.length<=100000)(u:Int)(i:Nat)(k:Int)(b:Bx)(hw:v7 u 0 l=((i:Int),k))(hb:l[i]?=some b)(kM:jk l=0):
  Fn kg 233 [BS l,I u] (.bY [I b.id,I k,B true]):=by
 have Qy:=Qx l hl hc u;rw[hw]at Qy;have WA:=RG l (by omega) hc;rw[kM]at WA;have og:=(aE.1 hb).1;have aD:(l.map bj)[((i:Int)).toNat]?=some (bj b):=by rw[aY,aS,hb];rfl
 refine aH Ks ⟨_,Qy,[(2,false)],?_,_,WA,λh=>(by cases h),λ_=>⟨by omega,bj b,aD,_,_,rfl,⟨rfl,rfl⟩,rfl,rfl,rfl,rfl,trivial⟩⟩;exact qA (by omega)
theorem QE(u:Us)(n:Nat)(aa:List (List AV))(e:Ev)(rd un:Int)(g:Bool)(Tp:Fn kg 19 [.aL 3 n aa,.agg (pM u.yr),I rd,I un,I e.aR] (.bY [.agg [I rd,I un,I e.aR,B g,.ai],I 0])):
  Fn kg 238 [.aw (kC u (.aL 3 n aa) e) 0,I rd,I un] (B g):=
 aH Ph ⟨_,Tp,[(2,true)],rfl,rfl,rfl,rfl⟩
theorem HE(u:Us)(n:Nat)(aa:List (List AV))(e:Ev)(qs:List dE):fS kg 240 [.af 18 9,QS qs,I 0] (OD u (.aL 3 n aa) e) [18] (OD {u with qs:=qs} (.aL 3 n aa) e) (I 0):=
 dK Pt [] [] (eI _ _ _) ⟨λ_=>⟨_,aj.ad [6] [18],rfl,rfl,rfl⟩,λh=>(by cases h)⟩
theorem ZL(u:Us)(n:Nat)(aa:List (List AV))(qt kd id rd un:Int)(bx k:Int)(qs:List dE)(ala:Fn kg 233 [BS u.bs,I un] (.bY [I bx,I k,B true]))
  (Tp:Fn kg 19 [.aL 3 n aa,.agg (pM u.yr),I rd,I un,I 0] (.bY [.agg [I rd,I un,I 0,B true,.ai],I 0]))(Eg:Rq.bT u.qs ⟨id,rd,un,bx,0,0,0⟩=(qs,0)):
  fS kg 163 [.af 18 0] (OD u (.aL 3 n aa) ⟨qt,0,kd,[id,rd,un]⟩) [18] (OD {u with qs:=qs} (.aL 3 n aa) ⟨qt,0,kd,[id,rd,un]⟩) (I 0):=by
 have a226:=QE u n aa ⟨qt,0,kd,[id,rd,un]⟩ rd un true Tp;have a227:=Rq.afj u.qs ⟨id,rd,un,bx,0,0,0⟩;rw[Eg]at a227;refine dK Kv [(8,[6])] [] (eI _ _ _) ⟨⟨by decide,by simp⟩,[I un],rfl,_,ala,λh=>(by cases h),λ_=>?_⟩;refine⟨⟨by decide,by simp⟩,[I rd],rfl,⟨by decide,by simp⟩,[I un],rfl,_,a226,λh=>(by cases h),λ_=>?_⟩;refine⟨⟨by decide,by simp⟩,[I id],rfl,⟨by decide,by simp⟩,[I rd],rfl,⟨by decide,by simp⟩,[I un],rfl,_,a227,true,?_⟩;refine⟨_,aj.ad [65,66,67,68,69,70] [18],_,I 0,[18],(HE u n aa ⟨qt,0,kd,[id,rd,un]⟩ qs).as (by rfl) (by rfl) (by rfl),rfl,?_⟩;exact⟨_,aj.ad [2] [18],rfl,rfl,rfl⟩
end Go.an.ax.Aw
namespace Go.an
open Go.RowKit
def Fe(own:Nat->Option ak)(u:AV):Option AV:=
 match u with
 |.af b off=>gM own (.af b off)
 |u=>dQ own u
def wa(own:Nat->Option ak):List AV->Option (List AV)
 |[]=>some []
 |x::xs=>match Fe own x,wa own xs with
  |some y,some ys=>some (y::ys)
  |_,_=>none
def K8(own:Nat->Option ak)(u:AV):Option AV:=
 match u with
 |.af b off=>match own b with
  |some ae=>match ae.kd,ae.aa with
   |.any,[row]=>match wa own row with|some r=>some (.aw r off)|none=>none
   |_,_=>none
  |none=>none
 |u=>gM own u
def Bp(own:Nat->Option ak):List AV->Option (List AV)
 |[]=>some []
 |x::xs=>match K8 own x,Bp own xs with
  |some y,some ys=>some (y::ys)
  |_,_=>none
def Ff(own:Nat->Option ak)(u:AV):Option AV:=
 match u with
 |.func f dt=>match Bp own dt with|some cs=>some (.func f cs)|none=>none
 |u=>gM own u
def wb(own:Nat->Option ak):List AV->Option (List AV)
 |[]=>some []
 |x::xs=>match Ff own x,wb own xs with
  |some y,some ys=>some (y::ys)
  |_,_=>none
section
variable{P:Program} {E:Env} {K:KM} {c:aM} {a:Act} {w:World} {Y:Nat->Prop}
theorem Fg(hY:∀g,Y g->E.XF g/\g<E.w0.heap.size)(hs:bC E K c a w){u u':AV}{v:Value}(h:Fe (aK c.O) u=some u')(hv:VR w (XX E K c.O) K u v):VR w Y K0 u' v:=by
 unfold Fe at h
 split at h
 .exact ja hY hs h hv
 .exact ia hY hs h hv
theorem Bq{own:Nat->Option ak}:∀{us dj:List AV},wa own us=some dj->dj.length=us.length/\∀(j:Nat) u',dj[j]?=some u'->∃u,us[j]?=some u/\Fe own u=some u'
 |[],dj,h=>by simp[wa]at h;subst h;simp
 |x::xs,dj,h=>by
  simp only[wa]at h
  split at h
  .rename_i y ys hy mD
   injection h with h
   subst h;obtain⟨h1,h2⟩:=Bq mD;refine⟨by simp[h1],λj u' hj=>?_⟩
   cases j with
   |zero=>simp at hj;subst hj;exact⟨x,by simp,hy⟩
   |succ j=>obtain⟨u,q1,q2⟩:=h2 j u' (by simpa using hj);exact⟨u,by simpa using q1,q2⟩
  .cases h
theorem DG{own:Nat->Option ak}:∀{us dj:List AV},Bp own us=some dj->dj.length=us.length/\∀(j:Nat) u',dj[j]?=some u'->∃u,us[j]?=some u/\K8 own u=some u'
 |[],dj,h=>by simp[Bp]at h;subst h;simp
 |x::xs,dj,h=>by
  simp only[Bp]at h
  split at h
  .rename_i y ys hy mD
   injection h with h
   subst h;obtain⟨h1,h2⟩:=DG mD;refine⟨by simp[h1],λj u' hj=>?_⟩
   cases j with
   |zero=>simp at hj;subst hj;exact⟨x,by simp,hy⟩
   |succ j=>obtain⟨u,q1,q2⟩:=h2 j u' (by simpa using hj);exact⟨u,by simpa using q1,q2⟩
  .cases h
theorem Br{own:Nat->Option ak}:∀{us dj:List AV},wb own us=some dj->dj.length=us.length/\∀(j:Nat) u',dj[j]?=some u'->∃u,us[j]?=some u/\Ff own u=some u'
 |[],dj,h=>by simp[wb]at h;subst h;simp
 |x::xs,dj,h=>by
  simp only[wb]at h
  split at h
  .rename_i y ys hy mD
   injection h with h
   subst h;obtain⟨h1,h2⟩:=Br mD;refine⟨by simp[h1],λj u' hj=>?_⟩
   cases j with
   |zero=>simp at hj;subst hj;exact⟨x,by simp,hy⟩
   |succ j=>obtain⟨u,q1,q2⟩:=h2 j u' (by simpa using hj);exact⟨u,by simpa using q1,q2⟩
  .cases h
theorem HF(hY:∀g,Y g->E.XF g/\g<E.w0.heap.size)(hs:bC E K c a w){u u':AV}{v:Value}(h:K8 (aK c.O) u=some u')(hv:VR w (XX E K c.O) K u v):VR w Y K0 u' v:=by
 unfold K8 at h
 split at h
 .rename_i b off
  split at h
  .rename_i ae hb
   split at h
   .rename_i row fZ aD
    split at h
    .rename_i r' jV
     injection h with h
     subst h;obtain⟨g,hK,rfl⟩:=VR.jo hv
     rcases hs.own b ae hb with⟨k1,k2⟩|⟨g',k1,gx⟩
     .rw[show aG K b=none from by simp[aG,k1]]at hK;cases hK
     .have aC:=hs.fu (by simp[hb]) hK
      rw[aU k1]at hK;injection hK with hK;subst hK
      have ox:=gx.row (by rw[fZ];simp) (hs.aa b ae hb) (i:=0) (row:=row) (by rw[aD];rfl);simp only[ly]at ox;obtain⟨cs,c1,c2,c3,c4⟩:=ox.list;obtain⟨v1,v2⟩:=Bq jV;have:=VR.aw (w:=w) (X:=Y) (K:=K0) (xs:=r') (off:=off) (g:=g') (o:=0) (cs:=cs) (by rw[c1,v1]) c3 aC (hs.OF hY (by simp[hb]) (aU k1)) c2
       (λj u x hu hx=>by
        obtain⟨u0,q1,q2⟩:=v2 j u hu;exact Fg hY hs q2 (c4 j u0 x q1 hx))
      simpa using this
    .cases h
   .cases h
  .cases h
 .exact ja hY hs h hv
theorem Fh(hY:∀g,Y g->E.XF g/\g<E.w0.heap.size)(hs:bC E K c a w){u u':AV}{v:Value}(h:Ff (aK c.O) u=some u')(hv:VR w (XX E K c.O) K u v):VR w Y K0 u' v:=by
 unfold Ff at h
 split at h
 .rename_i f dt
  split at h
  .rename_i cs dM
   injection h with h
   subst h;obtain⟨vs,rfl,hl,hvv⟩:=VR.fJ hv;obtain⟨h1,h2⟩:=DG dM;refine .func (by rw[h1,hl]) λj u x hu hx=>?_
   obtain⟨u0,q1,q2⟩:=h2 j u hu;exact HF hY hs q2 (hvv j u0 x q1 hx)
  .cases h
 .exact ja hY hs h hv
theorem il{N:Nat}{ps:List Nat}{aB:Array Oper}{p:Nat}{o:Oper}{cl:Call}{f:Operand}{g:Nat}{dt us:List AV}{r:AV}(ho:aB[p]?=some o)(cq:o.op=.call cl)(GH:cl.callee=.value f)(hg:gX o=true)(hf:j8 c f=.func g dt)
  (hv:wb (aK c.O) (cl.args.toList.map (j8 c)++dt)=some us)(sv:pI (cl.args.toList.map (j8 c)++dt)=true)(FB:Fn P g us r)(hr:r.fp=true)(hd:fg N c o.dst=true):BN P N ps aB p c (λc'=>c'=⟨qi o.dst r c.fr,c.O⟩):=by
 rintro E a w Q hN hp ⟨K,hs⟩;have tZ:o.guard=none:=by unfold gX at hg;split at hg<;>first|assumption|cases hg
 obtain⟨⟨fn,OB,ek,mj⟩,Ab⟩:=FB;obtain⟨callee,args,ts⟩:=cl;simp only at GH hv sv;subst GH;have az:=fh hs;obtain⟨cv,ef,Ni,Sq⟩:=VR.fJ (az.at hf);obtain⟨ml,mv⟩:=mP az args;unfold wpOp;rw[ho];simp only;rw[if_pos (dS tZ)]
 left
 unfold Oper.wp;have Ck:(execOp a.eval o).run P w=.ok (.enter g (args.map a.eval++cv)) w:=by
  simp only[execOp,cq,resolve,ef,Deferred.ofValue,Sem.run_bind,Sem.run_pure,Result.andThen_ok,invoke,callFunc,run_program];simp[OB,ek,mj]
 rw[Ck,Oper.upon_enter];obtain⟨hl,hat⟩:=Br hv;have hY:∀g,(E.XF g/\g<E.w0.heap.size)->E.XF g/\g<E.w0.heap.size:=λ_ h=>h
 refine(Ab (λg=>E.XF g/\g<E.w0.heap.size) w _ (E.kS w hs.ext) (by rw[hl];simp[Ni]) λj u v hu hv=>?_).mono ?_
 .obtain⟨u0,q1,q2⟩:=hat j u hu
  have XI:=mX sv u0 (ay q1);refine Fh hY hs q2 ?_;have Ac:(args.toList.map (j8 c)).length=(args.map a.eval).size:=by simp
  rcases eJ j (args.toList.map (j8 c)).length with aC|kT
  .rw[bM aC]at q1
   rw[D1 (by omega)]at hv;exact FV.vr (mv j u0 v q1 (by simpa using hv)) XI
  .rw[cm kT]at q1
   rw[lC (by omega)]at hv;rw[Ac]at q1;exact Sq _ u0 v q1 hv
 .rintro e w' ⟨v,rfl,hrv,hb⟩
  have ZM:VR w' (XX E K c.O) K r v:=by
   cases r<;>first|(cases hr;done)|exact ui rfl hrv
  exact⟨_,rfl,K,(hs.move (uj hb)).put (dst:=o.dst) (u:=r) (v:=v) (by rw[hN];exact hd) λ_ _=>FV.of ZM⟩
end
end Go.an
namespace Go.an.ax.Aw
open Go Go.an Go.Proofs
theorem afn(r:dE)(n:Int):Fn kg 302 [.agg (cd r),.aw [I n] 0] (B (r.id==n)):=aH ac8 ⟨rfl,rfl,rfl⟩
theorem Uv(u:Us)(n:Nat)(aa:List (List AV))(e:Ev)(k:Int)(hq:u.qs.length<=100000)(j:Nat)(r:dE)(hj:aQ (λr:dE=>r.id==k) 0 u.qs=j)(hr:u.qs[j]?=some r):
  Fn kg 241 [.aw (kC u (.aL 3 n aa) e) 0,I k] (.bY [.agg (cd r),B true]):=by
 have afo:=Db u.qs (by omega) (λr=>r.id==k) 302 [I k] (λr _=>afn r k);rw[hj]at afo;have so:=(aE.1 hr).1;have aD:(u.qs.map cd)[((j:Int)).toNat]?=some (cd r):=by rw[aY,aS,hr];rfl
 refine aH Pj ⟨_,afo,λh=>?_,λ_=>⟨by omega,cd r,aD,_,_,rfl,⟨rfl,rfl⟩,rfl,rfl,trivial⟩⟩;have:=aP h;omega
def bkB(r:dE)(d:Int)(k:Bk):Bool:=(k.rd==r.rd)&&decide (k.jW<=d)&&decide (d<k.mK)
theorem afp(k:Bk)(r:dE)(d:Int):Fn kg 242 [.agg (ib k),.aw (cd r) 0,.aw [I d] 0] (B (bkB r d k)):=aH acJ ⟨[],rfl,rfl,rfl⟩
theorem ZN(u:Us)(n:Nat)(aa:List (List AV))(e:Ev)(r:dE)(c:Ct)(g:Bool)(Tp:Fn kg 19 [.aL 3 n aa,.agg (pM u.yr),I r.rd,I c.unit,I e.aR] (.bY [.agg [I r.rd,I c.unit,I e.aR,B g,.ai],I 0])):
  Fn kg 243 [.agg (eT c),.aw [.aw (kC u (.aL 3 n aa) e) 0] 0,.aw (cd r) 0] (B (!g)):=
 aH VF ⟨_,QE u n aa e r.rd c.unit g Tp,rfl,rfl,rfl⟩
theorem afq(l:List Ct)(hl:l.length<=9223372036854775807)(p:Ct->Bool)(g:FuncId)(xs ys:List AV)(hp:∀a∈l,Fn kg g [.agg (eT a),.aw xs 0,.aw ys 0] (B (p a))):Fn kg 273 [CS l,.func g [.aw xs 0,.aw ys 0]] (I (aQ p 0 l)):=by
 refine aH Pn ?_;refine⟨λn c=>∃i:Nat,i<=l.length/\n=l.length-i/\c=⟨[(0,CS l),(1,.func g [.aw xs 0,.aw ys 0]),(4,I 0),(7,I l.length),(8,I i)],[]⟩/\aQ p i (l.drop i)=aQ p 0 l,⟨_,_,Wk.ad [0,1,4,7,8] [],0,by omega,rfl,rfl,by simp⟩,?_⟩;rintro n c ⟨i,hi,rfl,rfl,hI⟩;refine⟨λh=>?_,λh=>?_⟩
 .simp at h
  obtain⟨a,ha,hd,_⟩:=aq h;rw[hd,aQ]at hI;refine⟨by omega,eT a,by simp[ha],_,hp a (ay ha),λhf=>?_,λhf=>?_⟩
  .rw[if_pos hf]at hI
   exact⟨rfl,rfl,by rw[<-hI];rfl⟩
  .rw[if_neg (by simp[hf])]at hI
   refine⟨_,ah,?_⟩;exact⟨_,_,Wk.ad [0,1,4,7,8] [],by omega,i+1,by omega,rfl,rfl,hI⟩
 .simp at h
  have:i=l.length:=by omega
  subst this;simp[aQ]at hI;exact⟨rfl,rfl,by rw[<-hI];rfl⟩
theorem WB(l:List Ct)(hl:l.length<=9223372036854775807)(p:Ct->Bool)(g:FuncId)(xs ys:List AV)(hp:∀a∈l,Fn kg g [.agg (eT a),.aw xs 0,.aw ys 0] (B (p a))):Fn kg 193 [CS l,.func g [.aw xs 0,.aw ys 0]] (B (l.any p)):=
 aH VB ⟨_,afq l hl p g xs ys hp,rfl,rfl,by rw[<-fj];rfl⟩
abbrev K9(u:Us)(sh:List (List AV)):List AV:=[Zs 5,Zs 6,Zs 6,I u.yr,Zs 6,Zs 6,BS u.bs,SS u.ls,MS u.ms,QS u.qs,I u.bV,KS u.ks,Zs 8,Zs 2,.aL 3 1 sh,I u.ch]
set_option maxHeartbeats 4000000 in
theorem ZO(u:Us)(n:Nat)(aa:List (List AV))(qt kd:Int)(hm:jl u.ms)(hb:u.bs.length<=1000)(hq:u.qs.length<=1000)(hk:u.ks.length<=1000)(j:Nat)(r:dE)(DH:Int)(hj:aQ (λr:dE=>r.id==DH) 0 u.qs=j)(hr:u.qs[j]?=some r)(alb:r.id=DH)
  (i:Nat)(b:Bx)(c:Ct)(Ui:BQ u.bs r.bx=i)(yz:u.bs[i]?=some b)(hc:b.ma=[c])(hid:cj r.bx=true)
  (Tp:Fn kg 19 [.aL 3 n aa,.agg (pM u.yr),I r.rd,I c.unit,I 0] (.bY [.agg [I r.rd,I c.unit,I 0,B true,.ai],I 0]))(Gc:u.ks.any (bkB r 0)=true)(Eg:(bT u.ms r.bx).1≠0)
  (qs':List dE)(eY:Rq.DF u.qs DH 0=(qs',0))(afr:uu u.ms (kQ u ⟨qt,0,kd,[DH]⟩ r.bx 3 r.rd)=0):
  fS kg 164 [.af 18 0] (OD u (.aL 3 n aa) ⟨qt,0,kd,[DH]⟩) [18] (Ce (K9 {u with ms:=u.ms++[kQ u ⟨qt,0,kd,[DH]⟩ r.bx 3 r.rd],qs:=qs'} [[I r.rd,I c.unit,I 0]]) (.aL 3 n aa) ⟨qt,0,kd,[DH]⟩) (I 0):=by
 have a229:=Uv u n aa ⟨qt,0,kd,[DH]⟩ DH (by omega) j r hj hr;have a56:=G2 u (by omega) r.bx;rw[Ui]at a56;have mE:=ZN u n aa ⟨qt,0,kd,[DH]⟩ r c true Tp;have og:=(aE.1 yz).1;have aD:(u.bs.map bj)[((i:Int)).toNat]?=some (bj b):=by rw[aY,aS,yz];rfl
 have afs:bj b=[I b.id,I b.bc,I b.room,I b.dZ,CS [c]]:=by unfold bj;rw[hc]
 rw[afs]at aD;refine dK Kw [(10,[2,2,2]),(19,[6])] [] (eI _ _ _) ⟨⟨by decide,by simp⟩,[I DH],rfl,_,a229,λh=>(by cases h),λ_=>?_⟩;refine⟨_,a56,λ_=>?_,λh=>?_⟩
 case _=>
  refine⟨by omega,_,aD,?_⟩;have alc:=WB [c] (by simp) (λ_=>false) 243 [.aw (kC u (.aL 3 n aa) ⟨qt,0,kd,[DH]⟩) 0] (cd r) (λx hx=>by rw[iw.1 hx];exact mE);refine⟨rfl,⟨[(1,.af 16 0),(2,I 0),(3,.af 48 0),(5,CS [c]),(7,.af 112 0),(8,.func 242 [.af 48 0,.af 112 0]),(53,CS [c]),(54,.func 243 [.af 16 0,.af 48 0])],[(18,⟨177,22,.any,[kC u (.aL 3 n aa) ⟨qt,0,kd,[DH]⟩],[]⟩),(16,⟨175,1,.any,[[.af 18 0]],[]⟩),(48,⟨159,7,.any,[cd r],[]⟩),(112,⟨3,1,.any,[[I 0]],[]⟩)]⟩,aj.ad [1,2,3,5,7,8,53,54] [18,16,48,112],_,il rfl rfl rfl rfl rfl rfl rfl alc rfl rfl,?_⟩;rintro c3 rfl;have a232:=Qt u.ks (by omega) (bkB r 0) 242 (cd r) [I 0] (λk _=>afp k r 0);rw[Gc]at a232;have a57:=sP u hm r.bx hid;have g57:((bT u.ms r.bx).1==0)=false:=by simpa using Eg
  have a233:=Rq.afl u.qs DH 0;rw[eY]at a233;refine⟨λh=>(by cases h),λ_=>⟨_,a232,λh=>(by cases h),λ_=>⟨_,a57,λh=>absurd (show((bT u.ms r.bx).1==0)=true from h) (by rw[g57];decide),λ_=>?_⟩⟩⟩;rw[<-alb]at a233;refine⟨_,a233,true,λh=>(by cases h),λ_=>?_⟩;have E9:=Qr u n aa ⟨qt,0,kd,[DH]⟩ hm r.bx hid 3 r.rd;have ald:E7 u (kQ u ⟨qt,0,kd,[DH]⟩ r.bx 3 r.rd)={u with ms:=u.ms++[kQ u ⟨qt,0,kd,[DH]⟩ r.bx 3 r.rd]}:=by unfold E7;rw[if_pos afr]
  rw[ald,afr]at E9;have fr:=E9.frame (R:=[(16,⟨175,1,.any,[[.af 18 0]],[]⟩),(48,⟨159,7,.any,[cd r],[]⟩),(112,⟨3,1,.any,[[I 0]],[]⟩)]) rfl rfl rfl rfl rfl;generalize kQ u ⟨qt,0,kd,[DH]⟩ r.bx 3 r.rd=mv at*;refine⟨_,aj.ad [1,2,3,5,7,9,90,92,95] [18,16,48,112],_,I 0,[18,16,48,112],fr.as (by rfl) (by rfl) (by rfl),rfl,λh=>(by cases h),λ_=>?_⟩;refine⟨1,rfl,λh=>absurd h (by decide),λ_=>?_⟩;refine⟨λm c'=>(m=1/\c'=⟨[(1,.af 16 0),(2,I 0),(3,.af 48 0),(7,.af 112 0),(115,CS [c]),(116,I 1),(117,I 0)],[(18,⟨177,22,.any,[kC {u with ms:=u.ms++[mv],qs:=qs'} (.aL 3 n aa) ⟨qt,0,kd,[DH]⟩],[]⟩),(16,⟨175,1,.any,[[.af 18 0]],[]⟩),(48,⟨159,7,.any,[cd r],[]⟩),(112,⟨3,1,.any,[[I 0]],[]⟩)]⟩)∨
    (m=0/\c'=⟨[(2,I 0),(115,CS [c]),(116,I 1),(117,I 1)],[(18,⟨177,22,.any,[Qw [Zs 5,Zs 6,Zs 6,I u.yr,Zs 6,Zs 6,BS u.bs,SS u.ls,MS (u.ms++[mv]),QS qs',I u.bV,KS u.ks,Zs 8,Zs 2,.bn 2144 3 1,I u.ch] (.aL 3 n aa) ⟨qt,0,kd,[DH]⟩],[]⟩),(2144,⟨169,3,.pure,[[I r.rd,I c.unit,I 0]],[]⟩)]⟩),
   ⟨_,_,aj.ad [1,2,3,7,115,116,117] [18,16,48,112],.inl ⟨rfl,rfl⟩⟩,?_⟩
  rintro m c' (⟨rfl,rfl⟩|⟨rfl,rfl⟩)
  .refine⟨λ_=>?_,λh=>absurd h (by decide)⟩
   refine⟨⟨by decide,by simp⟩,eT c,rfl,⟨by decide,by decide⟩,true,?_⟩;refine⟨1,rfl,?_⟩;exact⟨_,_,aj.ad [2,115,116,117] [18,2144],by omega,.inr ⟨rfl,rfl⟩⟩
  .refine⟨λh=>absurd h (by decide),λ_=>?_⟩
   exact⟨_,(aj.OV 2144 ⟨169,3,.pure,[[I r.rd,I c.unit,I 0]],[]⟩ rfl rfl).trans (aj.ad [2] [18]),rfl,rfl,rfl⟩
 case _=>
  have:=j0 h;omega
abbrev b0:Bx:=⟨1,100,90,0,[]⟩
abbrev s0:Sh:=⟨5,1,150,0⟩
abbrev k0:Ct:=⟨7,20⟩
abbrev b1:Bx:=⟨1,100,90,0,[⟨7,20⟩]⟩
abbrev m0:Mv:=⟨0,1,0,0,1,5⟩
abbrev m1:Mv:=⟨0,1,1,5,3,3⟩
abbrev kk0:Bk:=⟨1,3,0,10⟩
abbrev q0:dE:=⟨1,3,7,1,0,1,0⟩
abbrev q1:dE:=⟨1,3,7,1,0,2,0⟩
abbrev u3:Us:=⟨30,[b1],[s0],[],[],2,[],0⟩
abbrev u4:Us:=⟨30,[b1],[s0],[m0],[],2,[],0⟩
abbrev u5:Us:=⟨30,[b1],[s0],[m0],[],2,[kk0],0⟩
abbrev u6:Us:=⟨30,[b1],[s0],[m0],[q0],2,[kk0],0⟩
abbrev u7:Us:=⟨30,[b1],[s0],[m0,m1],[q1],2,[kk0],0⟩
abbrev La:Ev:=⟨1,0,48,[1,100,90,0]⟩
abbrev MM:Ev:=⟨2,0,51,[5,1,150,0]⟩
abbrev NA:Ev:=⟨3,0,49,[1,0,7,20]⟩
abbrev QF:Ev:=⟨4,0,52,[1,1,5]⟩
abbrev RS:Ev:=⟨5,0,56,[1,3,0,10]⟩
abbrev Uw:Ev:=⟨6,0,53,[1,3,7]⟩
abbrev WC:Ev:=⟨7,0,54,[1]⟩
abbrev RW:List (List AV):=Wj.map gL
theorem a17:Fn kg 19 [.aL 3 1 RW,.agg (pM 30),I 3,I 7,I 0] (.bY [.agg [I 3,I 7,I 0,B true,.ai],I 0]):=aes 30 0 3 (by decide) (by decide) (by decide) (by decide) rfl
theorem h1:fS kg 158 [.af 18 0] (Ce (o7 30 2) (.aL 3 1 RW) La) [18] (Ce (mf 30 2 b0) (.aL 3 1 RW) La) (I 0):=ZD 30 2 1 RW 1 48 b0 rfl (by decide)
theorem h2:fS kg 161 [.af 18 0] (Ce (mf 30 2 b0) (.aL 3 1 RW) MM) [18] (Ce (nn 30 2 b0 s0) (.aL 3 1 RW) MM) (I 0):=ZE 30 2 b0 1 RW 2 51 s0 (by decide)
theorem h3:fS kg 159 [.af 18 0] (Ce (nn 30 2 b0 s0) (.aL 3 1 RW) NA) [18] (Ce (aF u3) (.aL 3 1 RW) NA) (I 0):=ZF 30 2 b0 s0 rfl rfl (by decide) k0 rfl (by decide) 1 RW 3 49
theorem ms0:jl [m0]:=⟨by decide,by decide,by decide⟩
theorem h4:fS kg 162 [.af 18 0] (OD u3 (.aL 3 1 RW) QF) [18] (OD u4 (.aL 3 1 RW) QF) (I 0):=by
 have h:=Zy u3 1 RW 4 0 52 Js (by decide) (by decide) (by decide) 0 0 b1 s0 rfl rfl rfl rfl (by decide);have e1:Jo u3 ⟨4,0,52,[1,1,5]⟩ s0 b1=0:=by decide
 have e2:Jp u3 ⟨4,0,52,[1,1,5]⟩ s0 b1=u4:=by unfold Jp;rw[if_pos e1];rfl
 rw[e1,e2]at h;exact h
theorem h5:fS kg 166 [.af 18 0] (OD u4 (.aL 3 1 RW) RS) [18] (OD u5 (.aL 3 1 RW) RS) (I 0):=ZC u4 1 RW 5 56 1 3 0 10 rfl (by decide) (by decide) rfl rfl (by decide) (by decide)
theorem h6:fS kg 163 [.af 18 0] (OD u5 (.aL 3 1 RW) Uw) [18] (OD u6 (.aL 3 1 RW) Uw) (I 0):=
 ZL u5 1 RW 6 53 1 3 7 1 0 [q0] (Uu [b1] (by decide) (by decide) 7 0 0 b1 (by decide) rfl (by decide)) a17 (by decide)
theorem h7:fS kg 164 [.af 18 0] (OD u6 (.aL 3 1 RW) WC) [18] (Ce (K9 u7 [[I 3,I 7,I 0]]) (.aL 3 1 RW) WC) (I 0):=
 ZO u6 1 RW 7 54 ms0 (by decide) (by decide) (by decide) 0 q0 1 (by decide) rfl rfl 0 b1 k0 (by decide) rfl rfl rfl a17 (by decide) (by decide) [q1] (by decide) (by decide)
end Go.an.ax.Aw
