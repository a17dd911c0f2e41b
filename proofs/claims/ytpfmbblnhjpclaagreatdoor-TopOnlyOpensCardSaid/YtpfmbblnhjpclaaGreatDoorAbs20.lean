import Derived.Test.YtpfmbblnhjpclaaGreatDoorJ11
set_option linter.unusedVariables false
set_option linter.unusedSimpArgs false
namespace Go.an
open Go.RowKit
def wN(aB:List Oper)(bs:List Nat):Bool:=
 (List.range aB.length).all λj=>(List.range aB.length).all λi=> !(bs.getD j 0).testBit i||
  match aB[j]? with
  |some o=>o.after.toList.any λe=>Region.binds .any e&&(Nat.beq e.on i||(Nat.blt e.on j&&(bs.getD e.on 0).testBit i))
  |none=>false
def CO(aB:List Oper):Bool:=
 (List.range aB.length).all λj=>match aB[j]? with
  |some o=>o.after.toList.all λe=> !Region.binds .any e||Nat.blt e.on j
  |none=>true
def SF(aB:Array Oper)(bs:List Nat):Bool:=
 (List.range aB.size).all λj=>(List.range j).all λi=>FQ bs i j||
  match aB[i]?,aB[j]? with
  |some x,some y=>x.apart aB y
  |_,_=>true
def wP(aB:Array Oper):Bool:=wN aB.toList (pn aB.toList)&&CO aB.toList&&SF aB (pn aB.toList)
def ep(s:Nat->Bool):Nat->List Oper->List iS->aM->aM
 |i,o::l,r::rs,c=>ep s (i+1) l rs (if s i=true then c.app o.dst r else c)
 |_,_,_,c=>c
def NoP(r:iS):Prop:=r.pg=none∨r.nw=true
theorem Al{c:aM}{dst:Option Nat}{r:iS}(h:NoP r):(c.app dst r).fr=qi dst r.v c.fr:=by
 unfold aM.app
 cases hp:r.pg with
 |none=>rfl
 |some b=>
  rcases h with h|h
  .rw[hp]at h;cases h
  .rw[h]
theorem Am(b:Nat):∀(D O:List (Nat×ak)),aK (im D O) b=match aK D b with|some x=>some x|none=>aK O b
 |[],O=>rfl
 |(i,x)::D,O=>by
  rw[im,ba,aZ,Am b D O]
  by_cases e:i=b
  .rw[if_pos e,if_pos e]
  .rw[if_neg e,if_neg e]
theorem Ep{c:aM}{dst:Option Nat}{r:iS}(h:NoP r)(b:Nat):aK (c.app dst r).O b=match aK r.D b with|some x=>some x|none=>if r.pg=some b then none else aK c.O b:=by
 unfold aM.app
 cases hp:r.pg with
 |none=>simp only[Am];simp
 |some p=>
  rcases h with h|h
  .rw[hp]at h;cases h
  .rw[h]
   simp only[Am,kf];simp
theorem Oi{b:Nat}:∀{D:List (Nat×ak)}{p:Option Nat},b∉iD D p->aK D b=none/\p≠some b
 |[],none,_=>⟨rfl,by simp⟩
 |[],some q,h=>⟨rfl,by simp[iD]at h;intro e;injection e with e;exact h e.symm⟩
 |(i,x)::D,p,h=>by
  simp[iD]at h;obtain⟨h1,h2⟩:=Oi (D:=D) (p:=p) h.2;exact⟨by rw[aZ,if_neg (λe=>h.1 e.symm)];exact h1,h2⟩
theorem An{b:Nat}:∀{D:List (Nat×ak)}{p:Option Nat},b∈iD D p->(∃x,(b,x)∈D)∨p=some b
 |[],none,h=>by simp[iD]at h
 |[],some q,h=>by simp[iD]at h;exact .inr (by rw[h])
 |(i,x)::D,p,h=>by
  simp[iD]at h
  rcases h with rfl|h
  .exact .inl ⟨x,by simp⟩
  .rcases An h with⟨y,hy⟩|h
   .exact .inl ⟨y,by simp[hy]⟩
   .exact .inr h
theorem SG{b:Nat}{x:ak}:∀{D:List (Nat×ak)}{p:Option Nat},(b,x)∈D->b∈iD D p
 |(i,y)::D,p,h=>by
  rcases bK.1 h with e|h
  .injection e with e _;subst e;simp[iD]
  .simp[iD,SG h]
theorem yQ{b:Nat}{x:ak}:∀{D:List (Nat×ak)},aK D b=some x->(b,x)∈D
 |(i,y)::D,h=>by
  rw[aZ]at h
  by_cases e:i=b
  .rw[if_pos e]at h;injection h with h;subst e h;simp
  .rw[if_neg e]at h;simp[yQ h]
theorem J8{b:Nat}{x:ak}:∀{D:List (Nat×ak)},(b,x)∈D->∃y,aK D b=some y
 |(i,y)::D,h=>by
  rw[aZ]
  by_cases e:i=b
  .exact⟨y,by rw[if_pos e]⟩
  .rw[if_neg e]
   rcases bK.1 h with e'|h
   .injection e' with e' _;exact absurd e'.symm e
   .exact J8 h
theorem Gx{c:aM}{dst:Option Nat}{r:iS}(h:NoP r){b:Nat}(hb:b∉iD r.D r.pg):aK (c.app dst r).O b=aK c.O b:=by
 obtain⟨h1,h2⟩:=Oi hb;rw[Ep h,h1,if_neg h2]
theorem Ao{c c':aM}{dst ahI:Option Nat}{r:iS}(h:NoP r){b:Nat}(hb:b∈iD r.D r.pg):aK (c.app dst r).O b=aK (c'.app ahI r).O b:=by
 rw[Ep h,Ep h]
 cases hD:aK r.D b with
 |some x=>rfl
 |none=>
  rcases An hb with⟨x,hx⟩|hp
  .obtain⟨y,hy⟩:=J8 hx
   rw[hD]at hy;cases hy
  .simp[hp]
theorem ID{s s':Nat->Bool}:∀{l:List Oper}{rs:List iS}{i:Nat}{c:aM},(∀k,k<l.length->s (i+k)=s' (i+k))->ep s i l rs c=ep s' i l rs c
 |[],_,_,_,_=>by simp[ep]
 |o::l,[],_,_,_=>by simp[ep]
 |o::l,r::rs,i,c,h=>by
  simp only[ep];rw[show s i=s' i from h 0 (by simp)];exact ID λk hk=>by have:=h (k+1) (by simpa using hk);rw[show i+(k+1)=i+1+k by omega]at this;exact this
theorem Ap{c:aM}{dst:Option Nat}{r:iS}(Gt:NoP r)(t:Nat):lk (c.app dst r).fr t=if dst=some t then r.v else lk c.fr t:=by
 rw[Al Gt]
 cases dst with
 |none=>simp[qi]
 |some d=>simp only[qi,gC,Option.some.injEq]
theorem J9{s s':Nat->Bool}{t:Nat}:∀{l:List Oper}{rs:List iS}{i:Nat}{c c':aM},(∀r∈rs,NoP r)->(∀(k:Nat) o,l[k]?=some o->o.dst=some t->s (i+k)=s' (i+k))->lk c.fr t=lk c'.fr t->
  lk (ep s i l rs c).fr t=lk (ep s' i l rs c').fr t
 |[],_,_,_,_,_,_,h=>by simpa[ep]using h
 |o::l,[],_,_,_,_,_,h=>by simpa[ep]using h
 |o::l,r::rs,i,c,c',hp,hs,h=>by
  simp only[ep];refine J9 (λr' jV=>hp r' (by simp[jV])) (λk o' ho hd=>by have:=hs (k+1) o' (by simpa using ho) hd;rw[show i+(k+1)=i+1+k by omega]at this;exact this) ?_;have XN:=hp r (by simp)
  by_cases hd:o.dst=some t
  .have:=hs 0 o (by simp) hd
   simp only[ed]at this;rw[this]
   split
   .rw[Ap XN,Ap XN,if_pos hd,if_pos hd]
   .exact h
  .have e1:lk (if s i=true then c.app o.dst r else c).fr t=lk c.fr t:=by
    split
    .rw[Ap XN,if_neg hd]
    .rfl
   have e2:lk (if s' i=true then c'.app o.dst r else c').fr t=lk c'.fr t:=by
    split
    .rw[Ap XN,if_neg hd]
    .rfl
   rw[e1,e2,h]
theorem L0{s:Nat->Bool}{t:Nat}:∀{l:List Oper}{rs:List iS}{i j:Nat}{c:aM}{o:Oper}{r:iS},(∀r∈rs,NoP r)->l[j]?=some o->rs[j]?=some r->o.dst=some t->s (i+j)=true->
  (∀(k:Nat) o,j<k->l[k]?=some o->o.dst=some t->s (i+k)=false)->lk (ep s i l rs c).fr t=r.v
 |[],_,_,_,_,_,_,_,h,_,_,_,_=>by simp at h
 |o'::l,[],_,_,_,_,_,_,_,h,_,_,_=>by simp at h
 |o'::l,r'::rs,i,0,c,o,r,hp,ho,hr,hd,Nn,hk=>by
  simp at ho hr;subst ho hr;simp only[ep,ed]at Nn⊢;rw[if_pos Nn];have:=J9 (s:=s) (s':=λ_=>false) (t:=t) (l:=l) (rs:=rs) (i:=i+1) (c:=c.app o'.dst r') (c':=c.app o'.dst r') (λr hr=>hp r (by simp[hr]))
   (λk o'' IE BL=>by have:=hk (k+1) o'' (by omega) (by simpa using IE) BL;rw[show i+(k+1)=i+1+k by omega]at this;exact this) rfl
  rw[this];have none_:∀(l:List Oper)(rs:List iS)(i:Nat)(c:aM),ep (λ_=>false) i l rs c=c:=by
   intro l
   induction l with
   |nil=>intros;simp[ep]
   |cons x xs ih=>intro rs i c;cases rs with
    |nil=>simp[ep]
    |cons y ys=>simp[ep,ih]
  rw[none_,Ap (hp r' (by simp)),if_pos hd]
 |o'::l,r'::rs,i,j+1,c,o,r,hp,ho,hr,hd,Nn,hk=>by
  simp only[ep];refine L0 (i:=i+1) (j:=j) (λr hr=>hp r (by simp[hr])) (by simpa using ho) (by simpa using hr) hd (by rw[show i+1+j=i+(j+1)by omega];exact Nn) λk o'' aC IE BL=>?_
  have:=hk (k+1) o'' (by omega) (by simpa using IE) BL;rw[show i+(k+1)=i+1+k by omega]at this;exact this
theorem Gy{s s':Nat->Bool}{b:Nat}:∀{l:List Oper}{rs:List iS}{i:Nat}{c c':aM},(∀r∈rs,NoP r)->(∀(k:Nat) r,k<l.length->rs[k]?=some r->b∈iD r.D r.pg->s (i+k)=s' (i+k))->aK c.O b=aK c'.O b->
  aK (ep s i l rs c).O b=aK (ep s' i l rs c').O b
 |[],_,_,_,_,_,_,h=>by simpa[ep]using h
 |o::l,[],_,_,_,_,_,h=>by simpa[ep]using h
 |o::l,r::rs,i,c,c',hp,hs,h=>by
  simp only[ep];refine Gy (λr' jV=>hp r' (by simp[jV])) (λk r' hk hr hd=>by have:=hs (k+1) r' (by simpa using hk) (by simpa using hr) hd;rw[show i+(k+1)=i+1+k by omega]at this;exact this) ?_;have XN:=hp r (by simp)
  by_cases hd:b∈iD r.D r.pg
  .have:=hs 0 r (by simp) (by simp) hd
   simp only[ed]at this;rw[this]
   split
   .exact Ao XN hd
   .exact h
  .have e:∀(x:Bool)(c:aM),aK (if x=true then c.app o.dst r else c).O b=aK c.O b:=by
    intro x c
    split
    .exact Gx XN hd
    .rfl
   rw[e,e,h]
theorem B0{s:Nat->Bool}{b:Nat}:∀{l:List Oper}{rs:List iS}{i j:Nat}{c c':aM}{o:Oper}{r:iS}{dst:Option Nat},(∀r∈rs,NoP r)->l[j]?=some o->rs[j]?=some r->b∈iD r.D r.pg->s (i+j)=true->
  (∀(k:Nat) r,j<k->rs[k]?=some r->b∈iD r.D r.pg->s (i+k)=false)->aK (ep s i l rs c).O b=aK (c'.app dst r).O b
 |[],_,_,_,_,_,_,_,_,_,h,_,_,_,_=>by simp at h
 |o'::l,[],_,_,_,_,_,_,_,_,_,h,_,_,_=>by simp at h
 |o'::l,r'::rs,i,0,c,c',o,r,dst,hp,ho,hr,hd,Nn,hk=>by
  simp at ho hr;subst ho hr;simp only[ep,ed]at Nn⊢;rw[if_pos Nn];have:=Gy (s:=s) (s':=λ_=>false) (b:=b) (l:=l) (rs:=rs) (i:=i+1) (c:=c.app o'.dst r') (c':=c.app o'.dst r') (λr hr=>hp r (by simp[hr]))
   (λk r'' SH IF BL=>by have:=hk (k+1) r'' (by omega) (by simpa using IF) BL;rw[show i+(k+1)=i+1+k by omega]at this;exact this) rfl
  rw[this];have none_:∀(l:List Oper)(rs:List iS)(i:Nat)(c:aM),ep (λ_=>false) i l rs c=c:=by
   intro l
   induction l with
   |nil=>intros;simp[ep]
   |cons x xs ih=>intro rs i c;cases rs with
    |nil=>simp[ep]
    |cons y ys=>simp[ep,ih]
  rw[none_];exact Ao (hp r' (by simp)) hd
 |o'::l,r'::rs,i,j+1,c,c',o,r,dst,hp,ho,hr,hd,Nn,hk=>by
  simp only[ep];refine B0 (i:=i+1) (j:=j) (λr hr=>hp r (by simp[hr])) (by simpa using ho) (by simpa using hr) hd (by rw[show i+1+j=i+(j+1)by omega];exact Nn) λk r'' aC IF BL=>?_
  have:=hk (k+1) r'' (by omega) (by simpa using IF) BL;rw[show i+(k+1)=i+1+k by omega]at this;exact this
theorem wQ:∀(s:Nat->Bool)(l:List Oper)(rs:List iS)(i:Nat)(c:aM),(∀k,i<=k->s k=false)->ep s i l rs c=c
 |s,[],rs,i,c,_=>by simp[ep]
 |s,o::l,[],i,c,_=>by simp[ep]
 |s,o::l,r::rs,i,c,h=>by
  simp only[ep];rw[if_neg (by rw[h i (bG _)];simp)];exact wQ s l rs (i+1) c λk hk=>h k (by omega)
theorem L4{c:aM}{dst:Option Nat}{r:iS}{d:Nat}(Gt:NoP r)(h:iL d c.fr=true)(hv:∀w v,r.v≠.opt d w v):iL d (c.app dst r).fr=true:=by
 rw[Al Gt]
 cases dst with
 |none=>exact h
 |some e=>
  simp only[qi];unfold iL
  cases hr:r.v<;>simp only<;>first|exact h|skip
  rename_i d' w' v'
  split
  .rename_i hb
   have:=beq_true hb;subst this;exact absurd hr (hv w' v')
  .exact h
theorem B1{c:aM}{dst:Option Nat}{r:iS}{d:Nat}(Gt:NoP r)(h:iL d (c.app dst r).fr=true):iL d c.fr=true/\(dst≠none->∀w v,r.v≠.opt d w v):=by
 rw[Al Gt]at h
 cases dst with
 |none=>exact⟨h,λh=>absurd rfl h⟩
 |some e=>
  simp only[qi]at h;unfold iL at h
  cases hr:r.v<;>rw[hr]at h<;>simp only at h<;>first|exact⟨h,λ_ _ _ e=>by cases e⟩|skip
  rename_i d' w' v'
  split at h
  .cases h
  .rename_i hb
   refine⟨h,λ_ w v e=>?_⟩;injection e with e _ _
   subst e;exact beq_false hb rfl
theorem IG{s:Nat->Bool}{d:Nat}:∀{l:List Oper}{rs:List iS}{i:Nat}{c:aM},(∀r∈rs,NoP r)->iL d c.fr=true->(∀(k:Nat) o r,l[k]?=some o->rs[k]?=some r->s (i+k)=true->o.dst≠none->∀w v,r.v≠.opt d w v)->iL d (ep s i l rs c).fr=true
 |[],_,_,_,_,h,_=>by simpa[ep]using h
 |o::l,[],_,_,_,h,_=>by simpa[ep]using h
 |o::l,r::rs,i,c,hp,h,hv=>by
  simp only[ep];refine IG (λr' jV=>hp r' (by simp[jV])) ?_ (λk o' r' ho hr hs=>by have:=hv (k+1) o' r' (by simpa using ho) (by simpa using hr) (by rw[show i+(k+1)=i+1+k by omega];exact hs);exact this)
  split
  .rename_i hs
   by_cases hd:o.dst=none
   .have:(c.app o.dst r).fr=c.fr:=by rw[Al (hp r (by simp)),hd];rfl
    rw[this];exact h
   .exact L4 (hp r (by simp)) h (hv 0 o r (by simp) (by simp) (by simpa using hs) hd)
  .exact h
theorem IH{s:Nat->Bool}{d:Nat}:∀{l:List Oper}{rs:List iS}{i:Nat}{c:aM},(∀r∈rs,NoP r)->iL d (ep s i l rs c).fr=true->
  iL d c.fr=true/\(∀(k:Nat) o r,l[k]?=some o->rs[k]?=some r->s (i+k)=true->o.dst≠none->∀w v,r.v≠.opt d w v)
 |[],_,_,_,_,h=>⟨by simpa[ep]using h,λk o r ho=>by simp at ho⟩
 |o::l,[],_,_,_,h=>⟨by simpa[ep]using h,λk o r _ hr=>by simp at hr⟩
 |o::l,r::rs,i,c,hp,h=>by
  simp only[ep]at h;obtain⟨h1,h2⟩:=IH (λr' jV=>hp r' (by simp[jV])) h;have h0:iL d c.fr=true/\(s i=true->o.dst≠none->∀w v,r.v≠.opt d w v):=by
   by_cases hs:s i=true
   .rw[if_pos hs]at h1
    obtain⟨a1,a2⟩:=B1 (hp r (by simp)) h1;exact⟨a1,λ_=>a2⟩
   .rw[if_neg hs]at h1
    exact⟨h1,λe=>absurd e hs⟩
  refine⟨h0.1,λk o' r' ho hr hs hd=>?_⟩
  cases k with
  |zero=>simp at ho hr;subst ho hr;exact h0.2 (by simpa using hs) hd
  |succ k=>exact h2 k o' r' (by simpa using ho) (by simpa using hr) (by rw[show i+1+k=i+(k+1)by omega];exact hs) hd
def XO(P:Program)(T:dD)(N:Nat)(aB:Array Oper):Acc->Nat->List Oper->aM->List iS->Prop
 |_,_,[],_,[]=>True
 |A,i,o::l,c,r::rs=>kh true P T N aB o c r/\BU true aB A r.nw i (lL o c r.D r.pg r.v)=true/\XO P T N aB (A.push i (lL o c r.D r.pg r.v)) (i+1) l (c.app o.dst r) rs
 |_,_,_,_,_=>False
theorem II{P:Program}{T:dD}{N:Nat}{dm:List (Nat×Bool)}{aB:Array Oper}{Kk:aM->Prop}:∀{l:List Oper}{A:Acc}{i:Nat}{c:aM},cZ true P T N dm aB A i l c Kk->
  ∃rs:List iS,rs.length=l.length/\XO P T N aB A i l c rs/\Kk (ep (λk=>decide (k<i+l.length)) i l rs c)
 |[],A,i,c,h=>⟨[],rfl,trivial,by simpa[ep,cZ]using h⟩
 |o::l,A,i,c,h=>by
  obtain⟨r,cY,Oc,oQ⟩:=mS h;obtain⟨rs,cz,hj,hk⟩:=II oQ;refine⟨r::rs,by simp[cz],⟨cY,Oc,hj⟩,?_⟩;simp only[ep];rw[if_pos (by simp)];rw[show i+(o::l).length=i+1+l.length by simp;omega];exact hk
def CP(A:Acc):Prop:=∀q∈A.qs,iD q.2.D q.2.pg≠ [] ->q∈A.ws
theorem CP.push{A:Acc}(h:CP A)(i:Nat)(q:Rec):CP (A.push i q):=by
 intro p hp hw;unfold Acc.push at hp⊢
 cases hq:iD q.D q.pg with
 |nil=>
  rw[hq]at hp;simp only at hp⊢
  rcases bK.1 hp with rfl|hp
  .exact absurd hq hw
  .exact h p hp hw
 |cons x xs=>
  rw[hq]at hp;simp only at hp⊢
  rcases bK.1 hp with rfl|hp
  .simp
  .exact rM _ (h p hp hw)
theorem SJ(A:Acc)(i:Nat)(q:Rec):(A.push i q).qs=(i,q)::A.qs/\(A.push i q).c0=A.c0:=by
 unfold Acc.push
 split<;>exact⟨rfl,rfl⟩
theorem Oj{P:Program}{T:dD}{N:Nat}{aB:Array Oper}:∀{l:List Oper}{rs:List iS}{A:Acc}{i j:Nat}{c:aM}{o:Oper}{r:iS},XO P T N aB A i l c rs->CP A->l[j]?=some o->rs[j]?=some r->
  ∃B:Acc,CP B/\B.c0=A.c0/\(∀q∈A.qs,q∈B.qs)/\kh true P T N aB o (ep (λk=>decide (k<i+j)) i l rs c) r/\BU true aB B r.nw (i+j) (lL o (ep (λk=>decide (k<i+j)) i l rs c) r.D r.pg r.v)=true/\
   ∀(k:Nat) o' r',k<j->l[k]?=some o'->rs[k]?=some r'->(i+k,lL o' (ep (λm=>decide (m<i+k)) i l rs c) r'.D r'.pg r'.v)∈B.qs
 |[],_,_,_,_,_,_,_,_,_,h,_=>by simp at h
 |o'::l,[],_,_,_,_,_,_,_,_,_,h=>by simp at h
 |o'::l,r'::rs,A,i,0,c,o,r,h,hA,ho,hr=>by
  simp at ho hr;subst ho hr;obtain⟨h1,h2,_⟩:=h;have e:ep (λk=>decide (k<i+0)) i (o'::l) (r'::rs) c=c:=wQ _ _ _ _ _ λk hk=>by simp;omega
  rw[e];exact⟨A,hA,rfl,λq hq=>hq,h1,h2,λk _ _ hk=>by omega⟩
 |o'::l,r'::rs,A,i,j+1,c,o,r,h,hA,ho,hr=>by
  obtain⟨_,_,h3⟩:=h;obtain⟨B,b1,b2,b3,b4,b5,b6⟩:=Oj (j:=j) h3 (hA.push _ _) (by simpa using ho) (by simpa using hr);obtain⟨p1,p2⟩:=SJ A i (lL o' c r'.D r'.pg r'.v);have e:∀m,0<m->ep (λk=>decide (k<i+m)) i (o'::l) (r'::rs) c=ep (λk=>decide (k<i+m)) (i+1) l rs (c.app o'.dst r'):=by
   intro m hm;simp only[ep];rw[if_pos (by simp;omega)]
  refine⟨B,b1,b2.trans p2,λq hq=>b3 q (by rw[p1];exact rM _ hq),?_,?_,λk o'' r'' hk IE IF=>?_⟩
  .rw[e (j+1) (by omega),show i+(j+1)=i+1+j by omega];exact b4
  .rw[e (j+1) (by omega),show i+(j+1)=i+1+j by omega];exact b5
  .cases k with
   |zero=>
    simp at IE IF;subst IE IF;rw[wQ _ _ _ _ _ λk hk=>by simp;omega];exact b3 _ (by rw[p1];simp)
   |succ k=>
    have:=b6 k o'' r'' (by omega) (by simpa using IE) (by simpa using IF);rw[e (k+1) (by omega),show i+(k+1)=i+1+k by omega];exact this
theorem Ol{s:Rec}{b:Nat}(h:zG s b=false):s.v.has b=false/\yu b s.D=false/\b∉iD s.D s.pg:=by
 unfold zG at h
 cases h1:s.v.has b with
 |true=>rw[h1]at h;cases h
 |false=>
  rw[h1]at h
  cases h2:yu b s.D with
  |true=>rw[h2]at h;cases h
  |false=>
   rw[h2]at h;refine⟨rfl,rfl,λhb=>?_⟩
   rcases An hb with⟨x,hx⟩|hp
   .have:∀{D:List (Nat×ak)},(b,x)∈D->yu b D=true:=by
     intro D
     induction D with
     |nil=>intro h;cases h
     |cons p D ih=>
      intro h;obtain⟨j,y⟩:=p;unfold yu
      rcases bK.1 h with e|h
      .injection e with e1 _;subst e1
       rw[show Nat.beq b b=true from dz b]
      .rw[ih h]
       split
       .rfl
       .split
        .split<;>rfl
        .rfl
    rw[this hx]at h2;cases h2
   .rw[hp]at h
    simp only[isP]at h;rw[show Nat.beq b b=true from dz b]at h;cases h
def Ka(q s:Rec)(b:Nat):Prop:=tM s b=false/\b∉iD s.D s.pg/\((q.pg=none/\(aK q.O b).isSome=true)∨zG s b=false)
def Er(q s:Rec):Prop:=(∀b∈iD q.D q.pg,Ka q s b)/\∀b∈iD s.D s.pg,Ka s q b
theorem Aq{q s:Rec}:∀{l:List Nat},wB s l=true->∀b∈l,Ka q s b
 |x::l,h,b,hb=>by
  unfold wB at h
  cases h1:tM s x with
  |true=>rw[h1]at h;cases h
  |false=>
   rw[h1]at h
   cases h2:zG s x with
   |true=>rw[h2]at h;cases h
   |false=>
    rw[h2]at h
    rcases bK.1 hb with rfl|hb
    .exact⟨h1,(Ol h2).2.2,.inr h2⟩
    .exact Aq h b hb
theorem Gz{b:Nat}:∀{l:List Nat},R5 b l=false->b∉l
 |[],_,h=>by cases h
 |x::r,h,hm=>by
  unfold R5 at h
  cases hx:Nat.beq x b with
  |true=>rw[hx]at h;cases h
  |false=>
   rw[hx]at h
   rcases bK.1 hm with rfl|hm
   .simp at hx
   .exact Gz h hm
theorem wR{q s:Rec}:∀{l:List Nat},wC q s l=true->∀b∈l,Ka q s b
 |x::l,h,b,hb=>by
  unfold wC at h
  cases h1:tM s x with
  |true=>rw[h1]at h;cases h
  |false=>
   rw[h1]at h;simp only at h
   split at h
   .cases h
   .rename_i h2
    rcases bK.1 hb with rfl|hb
    .split at h2
     .rename_i hp ho
      exact⟨h1,Gz h2,.inl ⟨hp,by rw[ho];rfl⟩⟩
     .exact⟨h1,(Ol h2).2.2,.inr h2⟩
    .exact wR h b hb
theorem Om{q s:Rec}(h:D5 q s=true):Er q s:=by
 unfold D5 at h
 cases h1:wB s (iD q.D q.pg)with
 |false=>rw[h1]at h;cases h
 |true=>rw[h1]at h;exact⟨Aq h1,Aq h⟩
theorem L5{q s:Rec}(h:D6 q s=true):Er q s:=by
 unfold D6 at h
 cases h1:wC q s (iD q.D q.pg)with
 |false=>rw[h1]at h;cases h
 |true=>rw[h1]at h;exact⟨wR h1,wR h⟩
theorem wS{bs:List Nat}{i:Nat}{s:Rec}:∀{l:List (Nat×Rec)},Ih bs i s l=true->∀q∈l,FQ bs q.1 i=true∨Er q.2 s
 |(k,p)::l,h,q,hq=>by
  unfold Ih at h
  cases h1:FQ bs k i with
  |true=>
   rw[h1]at h
   rcases bK.1 hq with rfl|hq
   .exact .inl h1
   .exact wS h q hq
  |false=>
   rw[h1]at h
   cases h2:D5 p s with
   |false=>
    rw[h2]at h
    cases h3:D6 p s with
    |false=>rw[h3]at h;cases h
    |true=>
     rw[h3]at h
     rcases bK.1 hq with rfl|hq
     .exact .inr (L5 h3)
     .exact wS h q hq
   |true=>
    rw[h2]at h
    rcases bK.1 hq with rfl|hq
    .exact .inr (Om h2)
    .exact wS h q hq
theorem am0{b:Nat}:∀{l:List (Nat×Rec)},FR b l=true->∀q∈l,zG q.2 b=false
 |(k,p)::l,h,q,hq=>by
  unfold FR at h
  cases h1:zG p b with
  |true=>rw[h1]at h;cases h
  |false=>
   rw[h1]at h
   rcases bK.1 hq with rfl|hq
   .exact h1
   .exact am0 h q hq
theorem Vf{c0:aM}{qs:List (Nat×Rec)}:∀{D:List (Nat×ak)},R6 c0 qs D=true->∀b x,(b,x)∈D->eP b c0=true/\∀q∈qs,zG q.2 b=false
 |(i,y)::D,h,b,x,hb=>by
  unfold R6 at h
  cases h1:eP i c0 with
  |false=>rw[h1]at h;cases h
  |true=>
   rw[h1]at h
   cases h2:FR i qs with
   |false=>rw[h2]at h;cases h
   |true=>
    rw[h2]at h
    rcases bK.1 hb with e|hb
    .injection e with e _;subst e;exact⟨h1,am0 h2⟩
    .exact Vf h b x hb
theorem amX{aB:Array Oper}{A:Acc}{nw:Bool}{i:Nat}{s:Rec}(hA:CP A)(h:BU true aB A nw i s=true):
  (s.pg=none∨nw=true)/\(∀q∈A.qs,FQ (pn aB.toList) q.1 i=true∨Er q.2 s)/\(nw=true->∀b x,(b,x)∈s.D->eP b A.c0=true/\∀q∈A.qs,zG q.2 b=false):=by
 unfold BU at h;simp only at h
 cases hw:iD s.D s.pg with
 |nil=>
  have hD:s.D=[]:=by cases hd:s.D with|nil=>rfl|cons x xs=>rw[hd]at hw;obtain⟨i,y⟩:=x;simp[iD]at hw
  have hp:s.pg=none:=by rw[hD]at hw;cases hp:s.pg with|none=>rfl|some b=>rw[hp]at hw;simp[iD]at hw
  rw[hw]at h;simp only at h;refine⟨.inl hp,λq hq=>?_,λ_ b x hb=>by rw[hD]at hb;cases hb⟩
  by_cases hq0:iD q.2.D q.2.pg=[]
  .exact .inr ⟨λb hb=>(by rw[hq0]at hb;cases hb),λb hb=>(by rw[hw]at hb;cases hb)⟩
  .have hqw:=hA q hq hq0
   split at h
   .rename_i he;rw[he]at hqw;cases hqw
   .exact wS h q hqw
 |cons x xs=>
  rw[hw]at h;simp only at h
  split at h
  .rename_i h1
   exact⟨.inr rfl,wS h1,λ_=>Vf h⟩
  .rename_i h1 h2
   exact⟨.inl h2,wS h1,λh=>by cases h⟩
  .cases h
theorem xO{b i:Nat}{x:ak}(hi:b≠i)(hx:x.kd=.any->cw b x.aa=false):∀{O:List (Nat×ak)},gn b O=true->gn b (di i x O)=true
 |[],_=>by
  have h1:Nat.beq b i=false:=by cases h:Nat.beq b i with|false=>rfl|true=>exact absurd (beq_true h) hi
  simp only[di,gn,h1]
  cases hk:x.kd<;>simp only
  rw[hx hk]
 |(j,y)::r,h=>by
  have h1:Nat.beq b i=false:=by cases h:Nat.beq b i with|false=>rfl|true=>exact absurd (beq_true h) hi
  have hr:gn b r=true:=by
   simp only[gn]at h
   split at h
   .cases h
   .split at h
    .split at h
     .cases h
     .exact h
    .exact h
  simp only[di]
  cases hj:Nat.beq j i with
  |true=>
   simp only[gn,h1]
   cases hk:x.kd<;>simp only
   .exact hr
   .exact hr
   .rw[hx hk];exact hr
   .exact hr
  |false=>
   have ih:=xO hi hx hr
   cases hbj:Nat.beq b j with
   |true=>simp[gn,hbj]at h
   |false=>
    simp only[gn,hbj]at h⊢
    cases hk:y.kd with
    |pure=>exact ih
    |flat=>exact ih
    |map ag st=>exact ih
    |any=>
     simp only[hk]at h⊢
     cases jV:cw b y.aa with
     |true=>rw[jV]at h;cases h
     |false=>exact ih
theorem xP{b p:Nat}:∀{O:List (Nat×ak)},gn b O=true->gn b (iC p O)=true
 |[],_=>rfl
 |(j,y)::r,h=>by
  have hr:gn b r=true:=by
   simp only[gn]at h
   split at h
   .cases h
   .split at h
    .split at h
     .cases h
     .exact h
    .exact h
  have ih:=xP (p:=p) hr;simp only[iC]
  cases hj:Nat.beq j p with
  |true=>exact ih
  |false=>
   cases hbj:Nat.beq b j with
   |true=>simp[gn,hbj]at h
   |false=>
    simp only[gn,hbj]at h⊢
    cases hk:y.kd with
    |pure=>exact ih
    |flat=>exact ih
    |map ag st=>exact ih
    |any=>
     simp only[hk]at h⊢
     cases jV:cw b y.aa with
     |true=>rw[jV]at h;cases h
     |false=>exact ih
theorem ra{b:Nat}:∀{D O:List (Nat×ak)},yu b D=false->gn b O=true->gn b (im D O)=true
 |[],O,_,h=>h
 |(i,x)::D,O,hD,h=>by
  simp only[yu]at hD
  split at hD
  .cases hD
  .rename_i hi
   have hi:=beq_false hi;have key:yu b D=false/\(x.kd=.any->cw b x.aa=false):=by
    split at hD
    .split at hD
     .cases hD
     .rename_i hr;exact⟨hD,λ_=>hr⟩
    .rename_i hk;exact⟨hD,λnI=>absurd nI (by simpa using hk)⟩
   exact xO (λe=>hi e.symm) key.2 (ra key.1 h)
theorem L6{b:Nat}{c:aM}{dst:Option Nat}{r:iS}(hp:NoP r)(hv:r.v.has b=false)(hD:yu b r.D=false)(h:eP b c=true):eP b (c.app dst r)=true:=by
 simp only[eP,aA]at h⊢;obtain⟨h,H0⟩:=h;refine⟨⟨?_,?_⟩,H0⟩
 .rw[Al hp]
  cases dst with
  |none=>exact h.1
  |some d=>simp only[qi,zE,hv];exact h.1
 .unfold aM.app
  cases hq:r.pg with
  |none=>exact ra hD h.2
  |some p=>
   rcases hp with hp|hp
   .rw[hq]at hp;cases hp
   .rw[hp];exact ra hD (xP h.2)
theorem IJ{s:Nat->Bool}{b:Nat}:∀{l:List Oper}{rs:List iS}{i:Nat}{c:aM},(∀r∈rs,NoP r)->eP b c=true->(∀(k:Nat) o r,l[k]?=some o->rs[k]?=some r->s (i+k)=true->r.v.has b=false/\yu b r.D=false)->eP b (ep s i l rs c)=true
 |[],_,_,_,_,h,_=>by simpa[ep]using h
 |o::l,[],_,_,_,h,_=>by simpa[ep]using h
 |o::l,r::rs,i,c,hp,h,hv=>by
  simp only[ep];refine IJ (λr' jV=>hp r' (by simp[jV])) ?_ (λk o' r' ho hr hs=>hv (k+1) o' r' (by simpa using ho) (by simpa using hr) (by rw[show i+(k+1)=i+1+k by omega];exact hs))
  split
  .rename_i hs
   obtain⟨h1,h2⟩:=hv 0 o r (by simp) (by simp) (by simpa using hs);exact L6 (hp r (by simp)) h1 h2 h
  .exact h
theorem XP{aB:List Oper}{bs:List Nat}(hj:wN aB bs=true){L:Nat->Bool}(mR:∀(j:Nat) o,aB[j]?=some o->L j=true->∀e∈o.after,Region.binds .any e=true->L e.on=true):
  ∀(j:Nat)(o:Oper),aB[j]?=some o->(∀e∈o.after,Region.binds .any e=true->L e.on=true)->∀i,i<aB.length->FQ bs i j=true->L i=true:=by
 intro j
 induction j using Nat.strongRecOn with
 |_ j ih=>
  intro o ho hr i hi hb;have so:j<aB.length:=(aE.1 ho).1;have h1:=iT.1 hj j (iV.2 so);have h2:=iT.1 h1 i (iV.2 hi);rw[ho]at h2;unfold FQ at hb;rw[hb]at h2;simp only[mL,cX]at h2;obtain⟨e,he,hh⟩:=zm.1 h2;simp only[aA,pj]at hh;have eY:=hr e (by simpa using he) hh.1
  rcases hh.2 with h3|⟨h3,h4⟩
  .rw[<-beq_true h3];exact eY
  .have aC:e.on<j:=dn h3
   have hel:e.on<aB.length:=by omega
   exact ih e.on aC _ (aW hel) (mR e.on _ (aW hel) eY) i hi h4
end Go.an
