import Derived.Laws.BytesString
import Derived.Test.YtpfmbblnhjpclaaGreatDoorAbs16
set_option linter.unusedVariables false
set_option linter.unusedSimpArgs false
namespace Go.an
open Go.RowKit Go.MapKept
section
variable{P:Program} {T:dD} {E:Env} {K:KM} {c:aM} {a:Act} {w:World} {o:Oper} {r:iS} {val:Operand->AV} {X:Nat->Prop}
theorem XJ{d:TypeDesc}(h:tG.of d=.str):d=.string:=by
 cases d<;>simp[tG.of]at h
 rfl
theorem pF:∀{us:List AV}{cs:List Value},(∀u∈us,∃n,u=AV.int .u8 n)->cs.length=us.length->(∀(j:Nat) u v,us[j]?=some u->cs[j]?=some v->∃X K,VR w X K u v)->cs=(JQ us).map (Value.int .u8)
 |[],[],_,_,_=>rfl
 |[],_::_,_,h,_=>by simp at h
 |_::_,[],_,h,_=>by simp at h
 |u::us,v::cs,h1,h2,h3=>by
  obtain⟨n,rfl⟩:=h1 u (by simp);obtain⟨X,K,hv⟩:=h3 0 _ v rfl rfl;have:=VR.jA hv;subst this;simp only[JQ,cU];rw[<-pF (us:=us) (cs:=cs) (λu hu=>h1 u (by simp[hu])) (by simpa using h2) (λj u v hu hv=>h3 (j+1) u v (by simpa using hu) (by simpa using hv))]
theorem Sy(hT:br P T)(hs:bC E K c a w)(az:ey E K c a w val){s t:TypeId}{x:Operand}(ho:o.op=.convert s t x)
  (h:(wA T (aK c.O) s t (val x)).holds P (· =r)):o.wp P a w (bA E c r a o.dst) kK:=by
 unfold wA at h
 split at h
 .rename_i si ti hsi nY
  split at h
  .rename_i e hk nI
   obtain⟨⟨d,hd,eM⟩,_⟩:=hT.get hsi;rw[hk]at eM;have:=of_slice eM;subst this;obtain⟨⟨d2,hd2,aaY⟩,_⟩:=hT.get nY;rw[nI]at aaY;have:=XJ aaY;subst this
   split at h
   .rename_i ei lg
    split at h
    .rename_i FZ
     obtain⟨⟨d3,hd3,aaZ⟩,_⟩:=hT.get lg;rw[FZ]at aaZ;have:=of_int aaZ;subst this
     split at h
     .rename_i m aa kd _ iZ
      obtain⟨us,⟨cP,hu8⟩,h⟩:=h;have Gb:VR w (XX E K c.O) K (val x) (a.eval x):=(az x).vr (by rintro d bf u e';rw[e']at iZ;cases iZ);obtain⟨Ip,lp,A,cp,cg,e1,ny,cH,dC,CG⟩:=ig hs iZ Gb;rw[Nat.mul_one]at ny;have nt:aa.flatten=us:=by
       rw[cP];clear cP hu8 h
       induction us with
       |nil=>rfl
       |cons u us ih=>simp[ih]
      rw[nt]at CG;have cz:m=us.length:=by rw[Ip,cP];simp
      have vd:=pF (w:=w) hu8 (by rw[ny,cz]) λj u v hu hv=>⟨_,_,CG j u v hu hv⟩
      refine aT hs (vv:=.string (bytesOf (JQ us))) ?_ (aN h) .str;simp only[execOp,ho,e1,Sem.run_bind];rw[run_convert_bytes_string w s t e A m cp hd hd3 hd2]
      rcases mq m with h0|h0
      .subst h0
       have zP:us=[]:=bE cz.symm;subst zP
       cases A with
       |none=>simp[Conv.bytesToString,Sem.run_pure,bytesOf,JQ]
       |some A=>
        rw[run_bytesToString w A 0 cp [] (by simpa using run_loadCells_list (P:=P) w A [] (by simp))];simp[Sem.run_pure,bytesOf,JQ]
      .obtain⟨g,o',rfl,hc⟩:=cH h0
       have:=run_loadCells_list (P:=P) w ⟨g,o',none⟩ cg (λj v hv=>by
        rw[show(⟨g,o',none⟩:Addr).add j=⟨g,o'+j,none⟩from by unfold Addr.add;split<;>simp_all];exact hc j v hv)
       rw[ny]at this;rw[vd]at this;rw[run_bytesToString w ⟨g,o',none⟩ m cp (JQ us) (by rw[this])];simp[Sem.run_pure,bytesOf]
     .exact h.elim
    .exact h.elim
   .exact h.elim
  .exact h.elim
 .exact h.elim
end
section
variable{P:Program} {T:dD} {E:Env} {K:KM} {c:aM} {a:Act} {w:World} {o:Oper} {r:iS} {val:Operand->AV} {X:Nat->Prop}
theorem sy{a b:Bool}(h:FK a b=true):a=b:=by cases a<;>cases b<;>first|rfl|cases h
theorem of_map{d:TypeDesc}{k e:Nat}(h:tG.of d=.map k e):d=.map k e:=by
 cases d<;>simp[tG.of]at h
 obtain⟨rfl,rfl⟩:=h;rfl
theorem Iv{st:Bool}{sz:Nat}{k:AV}{cs:List AV}{e:MapEntry}{ag:Bool}(h:tL w X st sz (k::cs) e)(Nl:(∃vs,e.val=.agg vs)↔ag=true){v:AV}(hv:elemOf ag cs=some v):VR w X K v e.val:=by
 obtain⟨h1,h2,h3,h4,h5⟩:=h
 cases ag with
 |true=>
  injection hv with hv;subst hv
  obtain⟨vs,n9⟩:=Nl.2 rfl;rw[n9];have qP:j6 e=e.key::vs.toList:=by simp[j6,n9]
  rw[qP]at h3 h4 h5;refine .agg (by simp at h1 h3;omega) (λj c hc=>h4 c (by simp only[bK];exact .inr (rN.2 (rO hc)))) λj u c hu hc=>(h5 (j+1) u c (by simpa using hu) (by simpa using hc)).any K
 |false=>
  have qP:j6 e=[e.key,e.val]:=by
   unfold j6
   cases az:e.val with
   |agg vs=>exact absurd (Nl.1 ⟨vs,az⟩) (by simp)
   |_=>rfl
  rw[qP]at h3 h5
  cases cs with
  |nil=>cases hv
  |cons u r=>
   cases r with
   |nil=>injection hv with hv;subst hv;exact(h5 1 u e.val rfl rfl).any K
   |cons _ _=>cases hv
theorem vm(hs:bC E K c a w){m:AV}{v:Value}(hm:VR w (XX E K c.O) K m v){ag st:Bool}{sz:Nat}{aa:List (List AV)}
  (h:BT (aK c.O) m=some (ag,st,sz,aa)):∃g es,v=.map (some g)/\nW w (XX E K c.O) g ag st sz aa es:=by
 unfold BT at h
 split at h
 .rename_i b
  split at h
  .rename_i ae hb
   split at h
   .rename_i ag' st' fZ
    injection h with h;injection h with e1 h;injection h with e2 h;injection h with e3 e4
    subst e1 e2 e3 e4;obtain⟨g,hK,rfl⟩:=VR.oJ hm
    rcases hs.own b ae hb with⟨k1,_⟩|⟨g',k1,aJ,hc,_⟩
    .rw[show aG K b=none from by simp[aG,k1]]at hK;cases hK
    .rw[aU k1]at hK;injection hK with hK;subst hK
     unfold aV at hc;rw[fZ]at hc;obtain⟨_,_,es,nr⟩:=hc;exact⟨g',es,rfl,nr⟩
   .cases h
  .cases h
 .injection h with h;injection h with e1 h;injection h with e2 h;injection h with e3 e4
  subst e1 e2 e3 e4;obtain⟨g,rfl,h1,h2,h3,cs,h4,h5,h6,h7⟩:=VR.zL hm;obtain⟨es,h8⟩:=nW.of h4 h3 h5 h6 h7;exact⟨g,es,rfl,h8⟩
 .cases h
theorem N5(hT:br P T)(dC:∀t i,T.get t=some i->fH i.zero=true)(hs:bC E K c a w)(az:ey E K c a w val){t:TypeId}{m k:Operand}{ok:Bool}(ho:o.op=.lookup t m k ok)
  (h:(JP T (aK c.O) t (val m) (val k) ok).holds P (· =r)):o.wp P a w (bA E c r a o.dst) kK:=by
 unfold JP at h
 split at h
 .rename_i ti nY
  split at h
  .rename_i kt et hk
   obtain⟨⟨d,hd,eM⟩,_⟩:=hT.get nY;rw[hk]at eM;have:=of_map eM;subst this
   split at h
   .rename_i ki ei hki lg
    obtain⟨⟨dk,qR,N6⟩,_⟩:=hT.get hki;obtain⟨_,⟨je,kb,BK,_⟩,_⟩:=hT.get lg
    split at h
    .rename_i ag st sz aa N7
     split at h
     .rename_i yA
      simp only[aA]at yA;obtain⟨⟨⟨yO,hkt⟩,Nl⟩,bJ⟩:=yA;have Nl:=sy Nl;have:=tO hkt N6;subst this;have LM:VR w (XX E K c.O) K (val m) (a.eval m):=(az m).vr (by rintro d bf u e';rw[e']at N7;simp[BT]at N7);have Cu:VR w (XX E K c.O) K (val k) (a.eval k):=(az k).vr (by rintro d bf u e';rw[e']at yO;simp[fR]at yO);obtain⟨g,es,ev,nr⟩:=vm hs LM N7;obtain⟨vn,_⟩:=jM yO Cu;have qP:∀(i:Nat) row e,aa[i]?=some row->es.toList[i]?=some e->tL w (XX E K c.O) st sz row e:=λi row e h1 h2=>nr.FO i row e h1 (by simpa using h2)
      have Ve:=LV yO Cu es.toList aa 0 (by simpa using nr.size) qP;obtain⟨p,h⟩:=h
      cases p with
      |true=>
       obtain⟨row,gy,h⟩:=h
       rcases Ve with⟨_,h2,_⟩|⟨j,e,k',cs,h1,h2,h3,h4,h5,h6,h7,_⟩
       .rw[h2]at gy;cases gy
       .rw[h6]at gy;injection gy with gy;subst gy
        split at h
        .rename_i v hv
         have hev:VR w (XX E K c.O) K v e.val:=Iv (qP j _ e h4 h2) (nr.agg e (ay h2)) hv;have Ck:(Instr.lookup t (a.eval m) (a.eval k) ok).run P w=.ok (if ok then .tuple #[e.val,.bool true]else e.val) w:=by
          rw[ev];simp[Instr.lookup,run_underlying hd,rV nr.obj,uF qR vn,nE qR h1,Result.andThen]
         cases ok with
         |false=>exact aT hs (vv:=e.val) (by simp only[execOp,ho,Sem.run_bind,Ck,Result.andThen_ok,Sem.run_pure];rfl) (aN h) hev
         |true=>
          refine aT hs (vv:=.tuple #[e.val,.bool true]) (by simp only[execOp,ho,Sem.run_bind,Ck,Result.andThen_ok,Sem.run_pure];rfl) (aN h) (.bY rfl λj u c hu hc=>?_)
          match j with
          |0=>simp at hu hc;subst hu hc;exact hev
          |1=>simp at hu hc;subst hu hc;exact .bool
          |j+2=>simp at hu
        .exact h.elim
      |false=>
       obtain⟨gy,h⟩:=h
       rcases Ve with⟨h1,h2,_⟩|⟨j,e,k',cs,h1,h2,h3,h4,h5,h6,h7,_⟩
       .split at h
        .have hz1:(zeroValue et).run P w=.ok ei.zero w:=by simp[zeroValue,typeInfo,kb,BK]
         have XB:=gP w (XX E K c.O) K ei.zero (dC et ei lg);have Ck:(Instr.lookup t (a.eval m) (a.eval k) ok).run P w=.ok (if ok then .tuple #[ei.zero,.bool false]else ei.zero) w:=by
          rw[ev];simp[Instr.lookup,run_underlying hd,rV nr.obj,uF qR vn,nE qR h1,Result.andThen,hz1]
         cases ok with
         |false=>exact aT hs (vv:=ei.zero) (by simp only[execOp,ho,Sem.run_bind,Ck,Result.andThen_ok,Sem.run_pure];rfl) (aN h) XB
         |true=>
          refine aT hs (vv:=.tuple #[ei.zero,.bool false]) (by simp only[execOp,ho,Sem.run_bind,Ck,Result.andThen_ok,Sem.run_pure];rfl) (aN h) (.bY rfl λj u c hu hc=>?_)
          match j with
          |0=>simp at hu hc;subst hu hc;exact XB
          |1=>simp at hu hc;subst hu hc;exact .bool
          |j+2=>simp at hu
        .exact h.elim
       .rw[h6]at gy;cases gy
     .exact h.elim
    .exact h.elim
   .exact h.elim
  .exact h.elim
 .exact h.elim
theorem Iw(hs:bC E K c a w)(az:ey E K c a w val){x:Operand}(ho:o.op=.nilCheck x)
  (h:jh.holds P (match val x with
  |.aw xs off=>bu (.aw xs off)
  |.af b off=>bu (.af b off)
  |.dP b sz i off=>bu (.dP b sz i off)
  |_=>.no) (· =r)):o.wp P a w (bA E c r a o.dst) kK:=by
 have fin:∀{p:Addr},a.eval x=.pointer (some p)->(execOp a.eval o).run P w=.ok (.value (a.eval x)) w:=by
  intro p e1;simp only[execOp,ho,e1,Sem.run_pure]
 split at h
 .rename_i xs off hx
  have hv:=az.at hx;obtain⟨g,b,e1,_⟩:=VR.uT hv;exact aT hs (fin e1) (aN h) hv
 .rename_i b off hx
  have hv:=az.at hx;obtain⟨g,_,e1⟩:=VR.jo hv;exact aT hs (fin e1) (aN h) hv
 .rename_i b sz i off hx
  have hv:=az.at hx;obtain⟨g,_,e1⟩:=VR.uU hv;exact aT hs (fin e1) (aN h) hv
 .exact h.elim
theorem LN(hT:br P T)(hs:bC E K c a w){t:TypeId}(ho:o.op=.makeMap t none)(hf:fq c r.nw r.D=true)
  (h:jh.holds P (match T.get t with
  |some i=>match i.k with
   |.map kt et=>match T.get kt,T.get et with
    |some ki,some ei=>.ret {v:=.dX (cI o.dst 0),D:=[(cI o.dst 0,{e:=t,sz:=ei.size+1,kd:=.map ei.k.isAgg (zA true ki.k),aa:=[]})],nw:=true}
    |_,_=>.no
   |_=>.no
  |none=>.no) (· =r)):o.wp P a w (bA E c r a o.dst) kK:=by
 split at h
 .split at h
  .split at h
   .have hr:_=r:=h
    have tT:=hf;rw[<-hr]at tT;have jF:=gr tT;have cY:=Step.alloc (λ_=>False) w (.map #[] 0);refine nZ (vv:=.map (some w.heap.size)) (by simp[execOp,ho,Instr.makeMap,Result.andThen]) hr
     (oM (aJ:=#[]) hs jF cY (bG _) (by simp) ⟨rfl,rfl,#[],iN w _,by simp,by simp,by simp,rfl,by simp⟩ (by simp)) ?_
    exact .dX (iz _ _ _ _)
   .exact h.elim
  .exact h.elim
 .exact h.elim
theorem VR.Sz{X:Nat->Prop}{v:Value}(h:VR w X K .xx v):∃r g,v=.pointer (some ⟨r,0,none⟩)/\w.heap[r]?=some (.mapIter (some g) 0 #[] 0)/\w.heap[g]?=some (.map #[] 0):=by
 cases h with|xx h1 h2 h3 h4 h5 h6=>exact⟨_,_,rfl,h1,h2⟩
theorem LO{P:Program}{w:World}{r:Nat}{m:Option Nat}{s t:Nat}{l:Array Nat}(hb:w.heap[r]?=some (.mapIter m s l t)):(getObj r).run P w=.ok (.mapIter m s l t) w:=by
 simp[getObj,Sem.run,hb]
theorem map_empty{es:Array MapEntry}{ag st:Bool}{sz:Nat}(h:UU es ag st sz []):es=#[]:=by
 have:=h.cells
 cases hl:es.toList with
 |nil=>exact Array.toList_eq_nil_iff.1 hl
 |cons e r=>rw[hl]at this;simp[j6]at this
theorem SA(hT:br P T)(hs:bC E K c a w)(az:ey E K c a w val){t:TypeId}{x:Operand}(ho:o.op=.range t x)
  (h:jh.holds P (match T.get t with
  |some i=>match i.k with
   |.map _ _=>match val x with|.iB _ _ _ []=>.ret {v:=.xx,D:=[],nw:=true}|_=>.no
   |_=>.no
  |none=>.no) (· =r)):o.wp P a w (bA E c r a o.dst) kK:=by
 split at h
 .rename_i i nY
  split at h
  .rename_i kt et hk
   split at h
   .rename_i ag st sz hx
    have hv:=az.at hx;obtain⟨g,ev,h1,h2,h3,cs,h4,h5,h6,h7⟩:=VR.zL hv;have JW:cs=[]:=by simpa using h5
    subst JW;obtain⟨es,h8,h9⟩:=h4;have:=map_empty h9;subst this;obtain⟨⟨d,hd,eM⟩,_⟩:=hT.get nY;rw[hk]at eM;have:=of_map eM;subst this;have cY:=Step.alloc (λ_=>False) w (.mapIter (some g) 0 #[] 0);have hg0:w.heap[g]?=some (.map #[] 0):=h8;refine nZ (vv:=.pointer (some ⟨w.heap.size,0,none⟩)) ?_ h (hs.move cY) ?_
    .have hr:(Instr.range t (a.eval x)).run P w=.ok (.pointer (some ⟨w.heap.size,0,none⟩)) (w.alloc (.mapIter (some g) 0 #[] 0)):=by
      rw[ev];simp[Instr.range,run_underlying hd,rV hg0,Result.andThen]
     simp only[execOp,ho,Sem.run_bind,hr,Result.andThen_ok,Sem.run_pure]
    .refine .xx (iN w _) ((Below.heap_alloc w _ g h1).trans hg0) (by simp) (by simp;omega) (λhx=>?_) h2
     rcases hx with⟨b',jS,zO⟩|⟨_,hx⟩
     .exact DZ _ (hs.fu jS zO)
     .exact DZ _ (ew hx hs.ext.size)
   .exact h.elim
  .exact h.elim
 .exact h.elim
theorem XK(hs:bC E K c a w)(az:ey E K c a w val){it:Operand}(ho:o.op=.next it false)
  (h:jh.holds P (match val it with|.xx=>bu (.bY [.bool false])|_=>.no) (· =r)):o.wp P a w (bA E c r a o.dst) kK:=by
 split at h
 .rename_i hx
  have hv:=az.at hx;obtain⟨rr,g,e1,h1,h2⟩:=VR.Sz hv;refine aT (vv:=.tuple #[.bool false]) hs ?_ (aN h) ?_
  .have hr:(Instr.next (a.eval it) false o.type).run P w=.ok (.tuple #[.bool false]) w:=by
    rw[e1];simp[Instr.next,LO h1,rV h2,Result.andThen,Question.forced]
   simp only[execOp,ho,Sem.run_bind,hr,Result.andThen_ok,Sem.run_pure]
  .exact .bY (by simp) λj u c hu hc=>by
    cases j with
    |zero=>simp at hu hc;subst hu;subst hc;exact .bool
    |succ j=>simp at hu
 .exact h.elim
theorem qU{st:Bool}{k:AV}(h:fR st k=true):k.bq=true:=by
 cases k<;>simp[fR]at h<;>rfl
theorem oU(hs:bC E K c a w){b g:Nat}{ae:ak}{ag st:Bool}(hb:aK c.O b=some ae)(fZ:ae.kd=.map ag st)(hK:aG K b=some g){es Ru:Array MapEntry}{cl:Nat}{fF:List (List AV)}
  (hm:nW w (XX E K c.O) g ag st ae.sz ae.fF es)(Gf:nW (dY w g Ru cl) (XX E K c.O) g ag st ae.sz fF Ru):bC E K ⟨c.fr,di b {ae with fF:=fF} c.O⟩ a (dY w g Ru cl):=by
 have wH:ae.aa=[]:=by
  rcases hs.own b ae hb with⟨_,k2⟩|⟨g',k1,aJ,hc,_⟩
  .exact k2
  .unfold aV at hc
   rw[fZ]at hc;exact hc.2.1
 refine hs.write (ae:={ae with fF:=fF}) hb hK rfl (Step.dY hm.obj) (hs.aa b ae hb) ⟨#[],?_,λj u hj=>?_⟩
 .unfold aV
  dsimp only;rw[fZ];exact⟨rfl,wH,Ru,Gf⟩
 .dsimp only at hj
  rw[wH]at hj;simp at hj
theorem El{X:Nat->Prop}{st:Bool}{sz:Nat}{key v:AV}{kv vv:Value}{cs:List AV}(yO:fR st key=true)(Cu:VR w X K key kv)(dM:v.cellsOf=some cs)(hv:VR w X K v vv)(iE:∀(j:Nat) u,cs[j]?=some u->u.bq=true)(bJ:cs.length+1=sz)(n:Nat):
  tL w X st sz (key::cs) {key:=kv,val:=vv,born:=n}:=by
 obtain⟨h1,h2,h3⟩:=eF dM hv;have qP:j6 {key:=kv,val:=vv,born:=n}=kv::vv.cells.toList:=by
  unfold j6
  cases vv<;>rfl
 have N8:=(jM yO Cu).2;refine⟨by simpa using bJ,yO,by rw[qP];simp;omega,λx hx=>?_,λj u x hu hx=>?_⟩
 .rw[qP]at hx
  rcases bK.1 hx with rfl|hx
  .exact N8
  .obtain⟨i,hi⟩:=fQ hx
   exact h2 i x (by simpa using hi)
 .rw[qP]at hx
  cases j with
  |zero=>
   simp at hu hx;subst hu hx;exact eE Cu (qU yO) K0
  |succ j=>exact eE (h3 j u x (by simpa using hu) (by simpa using hx)) (iE j u (by simpa using hu)) K0
theorem wL{v:AV}{vv:Value}{cs:List AV}(dM:v.cellsOf=some cs)(hv:VR w X K v vv):(∃vs,vv=.agg vs)↔tI v=true:=by
 cases hv
 case lit=>obtain⟨rfl,rfl⟩:=wv dM;simp[tI]
 all_goals simp_all [tI,AV.cellsOf]
theorem Em{st:Bool}{v:Value}(h:IsKey (uV st) v):(st=true->∃s,v=.string s)/\(st=false->∃n,v=.int .i64 n):=by
 cases st
 .refine⟨λh=>(by cases h),λ_=>?_⟩
  cases v<;>simp[uV,IsKey]at h
  subst h;exact⟨_,rfl⟩
 .refine⟨λ_=>?_,λh=>(by cases h)⟩
  cases v<;>simp[uV,IsKey]at h
  exact⟨_,rfl⟩
theorem N9(hT:br P T)(hs:bC E K c a w)(az:ey E K c a w val){t:TypeId}{m k x:Operand}(ho:o.op=.mapUpdate t m k x∨o.op=.insert t m k x)
  (h:(zC T (aK c.O) t (val m) (val k) (val x)).holds P (· =r)):o.wp P a w (bA E c r a o.dst) kK:=by
 unfold zC at h
 split at h
 .rename_i ti nY
  split at h
  .rename_i kt et hk
   obtain⟨⟨d,hd,eM⟩,_⟩:=hT.get nY;rw[hk]at eM;have:=of_map eM;subst this
   split at h
   .rename_i ki ei b hki lg J5
    obtain⟨⟨dk,qR,N6⟩,_⟩:=hT.get hki
    split at h
    .rename_i ae cs hb dM
     split at h
     .rename_i ag st fZ
      split at h
      .rename_i yA
       simp only[aA]at yA;obtain⟨⟨⟨⟨⟨⟨yO,hkt⟩,Nl⟩,Af⟩,bJ⟩,mR⟩,iE⟩:=yA;have Nl:=sy Nl;have Af:=sy Af;have bJ:=beq_true bJ;have mR:=beq_true mR;have:=tO hkt N6;subst this;have LM:VR w (XX E K c.O) K (val m) (a.eval m):=(az m).vr (by rintro d bf u e';rw[e']at J5;cases J5);have Cu:VR w (XX E K c.O) K (val k) (a.eval k):=(az k).vr (by rintro d bf u e';rw[e']at yO;simp[fR]at yO);have Gb:VR w (XX E K c.O) K (val x) (a.eval x):=(az x).vr (by rintro d bf u e';rw[e']at dM;cases dM);obtain⟨g,es,ev,nr⟩:=vm (ag:=ag) (st:=st) (sz:=ae.sz) (aa:=ae.fF) hs LM (by rw[J5];simp[BT,hb,fZ]);have hK:aG K b=some g:=by
        rw[J5]at LM;obtain⟨g',hK,e⟩:=VR.oJ LM;rw[ev]at e;injection e with e;injection e with e;rw[e];exact hK
       obtain⟨vn,_⟩:=jM yO Cu;have qP:∀(i:Nat) row e,ae.fF[i]?=some row->es.toList[i]?=some e->tL w (XX E K c.O) st ae.sz row e:=λi row e h1 h2=>nr.FO i row e h1 (by simpa using h2)
       have hX:XX E K c.O g:=.inl ⟨b,by simp[hb],hK⟩;have qQ:=λn=>El (X:=XX E K c.O) (K:=K) (w:=w) (n:=n) yO Cu dM Gb (λj u hu=>gp iE hu) (by omega:cs.length+1=ae.sz)
       have hav:(∃vs,a.eval x=.agg vs)↔ag=true:=by rw[Af];exact wL dM Gb
       have hr:_=r:=h;have fin:∀w',(Instr.mapUpdate t (a.eval m) (a.eval k) (a.eval x)).run P w=.ok () w'->(execOp a.eval o).run P w=.ok .skip w':=by
        intro w' hw
        rcases ho with ho|ho<;>simp only[execOp,ho,Sem.run_bind,hw,Result.andThen_ok,Sem.run_pure]
       rcases LV yO Cu es.toList ae.fF 0 (by simpa using nr.size) qP with⟨h1,h2,_,h8,_⟩|⟨j,e,k',JU,h1,h2,h3,h4,h5,h6,h7,h8,_⟩
       .refine wp_skip_ (K:=K) (w':=dY w g (es.push {key:=a.eval k,val:=a.eval x,born:=es.size}) (es.size+1)) (fin _ ?_) hr ?_
        .rw[ev]
         simp[Instr.mapUpdate,run_underlying hd,rV nr.obj,uF qR vn,nE qR h1,rW _ nr.obj,Result.andThen,dY]
        .simp only[im]
         rw[h8 cs];exact oU hs hb fZ hK nr (nr.push hX rfl hav (Em vn) (qQ _))
       .have kb:es[j]?=some e:=by simpa using h2
        refine wp_skip_ (K:=K) (w':=dY w g (es.modify j λe=>{e with key:=a.eval k,val:=a.eval x}) es.size) (fin _ ?_) hr ?_
        .rw[ev]
         have od:Instr.findNow (uV st) (a.eval k) es.toList 0=some (some (j,e.val)):=by rw[h1];simp
         simp[Instr.mapUpdate,run_underlying hd,rV nr.obj,uF qR vn,nE qR od,kb,h3,Go.MapKept.run_keyThatStays vn,rW _ nr.obj,Result.andThen,dY]
        .simp only[im]
         rw[h8 cs];exact oU hs hb fZ hK nr (nr.modify (f:=λe=>{e with key:=a.eval k,val:=a.eval x}) hX kb rfl hav (Em vn) (qQ _))
      .exact h.elim
     .exact h.elim
    .exact h.elim
   .exact h.elim
  .exact h.elim
 .exact h.elim
theorem XL(hT:br P T)(dC:∀t i,T.get t=some i->fH i.zero=true)(hs:bC E K c a w)(az:ey E K c a w val){t:TypeId}{m k:Operand}(ho:o.op=.mapEntry t m k)
  (h:(Cm T (aK c.O) t (val m) (val k)).holds P (· =r)):o.wp P a w (bA E c r a o.dst) kK:=by
 unfold Cm at h
 split at h
 .rename_i ti nY
  split at h
  .rename_i kt et hk
   obtain⟨⟨d,hd,eM⟩,_⟩:=hT.get nY;rw[hk]at eM;have:=of_map eM;subst this
   split at h
   .rename_i ki ei b hki lg J5
    obtain⟨⟨dk,qR,N6⟩,_⟩:=hT.get hki;obtain⟨_,⟨je,kb,BK,_⟩,_⟩:=hT.get lg
    split at h
    .rename_i ae z hb hz
     split at h
     .rename_i ag st fZ
      split at h
      .rename_i yA
       simp only[aA]at yA;obtain⟨⟨⟨⟨⟨⟨yO,hkt⟩,Nl⟩,Af⟩,bJ⟩,mR⟩,iE⟩:=yA;have Nl:=sy Nl;have Af:=sy Af;have bJ:=beq_true bJ;have mR:=beq_true mR;have:=tO hkt N6;subst this;have LM:VR w (XX E K c.O) K (val m) (a.eval m):=(az m).vr (by rintro d bf u e';rw[e']at J5;cases J5);have Cu:VR w (XX E K c.O) K (val k) (a.eval k):=(az k).vr (by rintro d bf u e';rw[e']at yO;simp[fR]at yO);have XB:=gP w (XX E K c.O) K ei.zero (dC et ei lg);have hz1:(zeroValue et).run P w=.ok ei.zero w:=by simp[zeroValue,typeInfo,kb,BK]
       obtain⟨g,es,ev,nr⟩:=vm (ag:=ag) (st:=st) (sz:=ae.sz) (aa:=ae.fF) hs LM (by rw[J5];simp[BT,hb,fZ]);have hK:aG K b=some g:=by
        rw[J5]at LM;obtain⟨g',hK,e⟩:=VR.oJ LM;rw[ev]at e;injection e with e;injection e with e;rw[e];exact hK
       obtain⟨vn,_⟩:=jM yO Cu;have qP:∀(i:Nat) row e,ae.fF[i]?=some row->es.toList[i]?=some e->tL w (XX E K c.O) st ae.sz row e:=λi row e h1 h2=>nr.FO i row e h1 (by simpa using h2)
       have hX:XX E K c.O g:=.inl ⟨b,by simp[hb],hK⟩;have hr:_=r:=h;have bY:∀{w':World}{X':Nat->Prop}{v:Value}{n:Nat},VR w' X' K (.bY [.top,.int .i64 n]) (.tuple #[v,goInt n]):=by
        intro w' X' v n;refine .bY rfl λj u c hu hc=>?_
        match j with
        |0=>simp at hu;subst hu;exact .top
        |1=>simp[goInt]at hu hc;subst hu hc;exact .int
        |j+2=>simp at hu
       rcases LV yO Cu es.toList ae.fF 0 (by simpa using nr.size) qP with⟨h1,h2,h7,_,h8⟩|⟨j,e,k',JU,h1,h2,h3,h4,h5,h6,h7,_,h8⟩
       .rw[h7,<-nr.size]at hr
        refine nZ (K':=K) (w':=dY w g (es.push {key:=a.eval k,val:=ei.zero,born:=es.size}) (es.size+1)) (vv:=.tuple #[ei.zero,goInt es.size]) ?_ hr ?_ bY
        .simp only[execOp,ho,ev,Sem.run_bind]
         simp[Instr.mapEntry,run_underlying hd,rV nr.obj,uF qR vn,nE qR h1,rW _ nr.obj,hz1,Result.andThen,dY]
        .simp only[im]
         rw[h8 z];exact oU hs hb fZ hK nr (nr.push hX rfl (by rw[Af];exact wL hz XB) (Em vn) (El yO Cu hz XB (λj u hu=>BY (gp iE hu)) (by omega) _))
       .have En:es[j]?=some e:=by simpa using h2
        have aa0:=nr.born j e En;rw[h7]at hr;refine nZ (K':=K) (w':=dY w g (es.modify j λe=>{e with key:=a.eval k}) es.size) (vv:=.tuple #[e.val,goInt j]) ?_ hr ?_ bY
        .have od:Instr.findNow (uV st) (a.eval k) es.toList 0=some (some (j,e.val)):=by rw[h1];simp
         simp only[execOp,ho,ev,Sem.run_bind];simp[Instr.mapEntry,run_underlying hd,rV nr.obj,uF qR vn,nE qR od,En,h3,aa0,Go.MapKept.run_keyThatStays vn,rW _ nr.obj,Result.andThen,dY]
        .simp only[im]
         rw[h8 z];refine oU hs hb fZ hK nr (nr.modify (f:=λe=>{e with key:=a.eval k}) hX En rfl (nr.agg e (ay h2)) (Em vn) ?_);obtain⟨q1,q2,q3,q4,q5⟩:=qP j _ e h4 h2;have hee:({e with key:=a.eval k}:MapEntry)=e:=by rw[<-h3]
         rw[hee];refine⟨by simpa using q1,yO,q3,q4,λi u x hu hx=>?_⟩
         cases i with
         |zero=>
          simp at hu;subst hu;have:x=a.eval k:=by simp[j6,h3]at hx;exact hx.symm
          subst this;exact eE Cu (qU yO) K0
         |succ i=>exact q5 (i+1) u x (by simpa using hu) hx
      .exact h.elim
     .exact h.elim
    .exact h.elim
   .exact h.elim
  .exact h.elim
 .exact h.elim
theorem J6{v:List AV}:∀{aa:List (List AV)}{n:Nat}{row:List AV},aa[n]?=some row->FJ v n aa=aa.set n (row.take 1++v)
 |[],n,row,h=>by simp at h
 |r::rs,0,row,h=>by simp at h;subst h;rfl
 |r::rs,n+1,row,h=>by simp only[FJ,DY];rw[J6 (by simpa using h)]
theorem XM(hs:bC E K c a w)(az:ey E K c a w val){t:TypeId}{m j x:Operand}(ho:o.op=.entryStore t m j x)
  (h:(Cn (aK c.O) (val m) (val j) (val x)).holds P (· =r)):o.wp P a w (bA E c r a o.dst) kK:=by
 unfold Cn at h
 split at h
 .rename_i b n cs J5 hjo dM
  split at h
  .rename_i ae hb
   split at h
   .rename_i ag st fZ
    split at h
    .rename_i yA
     simp only[aA]at yA;obtain⟨⟨Af,bJ⟩,iE⟩:=yA;have Af:=sy Af;have bJ:=beq_true bJ;obtain⟨⟨LC,ny⟩,h⟩:=h;have LM:VR w (XX E K c.O) K (val m) (a.eval m):=(az m).vr (by rintro d bf u e';rw[e']at J5;cases J5);have Gb:VR w (XX E K c.O) K (val x) (a.eval x):=(az x).vr (by rintro d bf u e';rw[e']at dM;cases dM);have ej:=az.int hjo;obtain⟨g,es,ev,nr⟩:=vm (ag:=ag) (st:=st) (sz:=ae.sz) (aa:=ae.fF) hs LM (by rw[J5];simp[BT,hb,fZ]);have hK:aG K b=some g:=by
      rw[J5]at LM;obtain⟨g',hK,e⟩:=VR.oJ LM;rw[ev]at e;injection e with e;injection e with e;rw[e];exact hK
     have hX:XX E K c.O g:=.inl ⟨b,by simp[hb],hK⟩;obtain⟨i,rfl⟩:∃i:Nat,n=i:=⟨n.toNat,by omega⟩;have og:i<ae.fF.length:=by omega
     have U2:ae.fF[i]?=some ae.fF[i]:=aW og;obtain⟨e,lg⟩:∃e,es[i]?=some e:=⟨_,nD (by rw[nr.size];exact og)⟩;have H3:i<es.size:=(bd.1 lg).1;have SB:es.findIdx? (λe=>(e.born:Int)==(i:Int))=some i:=by
      rw[Array.findIdx?_eq_some_iff_getElem];refine⟨H3,?_,λk hk=>?_⟩
      .have:=nr.born i _ (nD H3)
       rw[this];simp
      .have:=nr.born k _ (nD (by omega))
       rw[this];simp;omega
     have hr:_=r:=h;obtain⟨q1,q2,q3,q4,q5⟩:=nr.FO i _ e U2 lg;refine wp_skip_ (K:=K) (w':=dY w g (es.modify i λe=>{e with val:=a.eval x}) es.size) ?_ hr ?_
     .simp only[execOp,ho,ev,ej,Sem.run_bind]
      simp[Instr.entryStore,rV nr.obj,asInt,asIntOf,SB,rW _ nr.obj,Result.andThen,dY]
     .simp only[im,aY]
      rw[J6 U2];refine oU hs hb fZ hK nr (nr.modify (f:=λe=>{e with val:=a.eval x}) hX lg rfl (by rw[Af];exact wL dM Gb) (nr.key e (rN.2 (rO lg))) ?_);obtain⟨key,rest,aD⟩:∃key rest,ae.fF[i]=key::rest:=by
       cases aD:ae.fF[i]with
       |nil=>rw[aD]at q2;cases q2
       |cons key rest=>exact⟨_,_,rfl⟩
      rw[aD]at q2 q5⊢;have yO:fR st key=true:=q2;have Cu:VR w (XX E K c.O) K0 key e.key:=q5 0 key e.key rfl rfl;exact El (K:=K) yO (Cu.any K) dM Gb (λj u hu=>gp iE hu) (by omega) _
    .exact h.elim
   .exact h.elim
  .exact h.elim
 .exact h.elim
end
end Go.an
namespace Go.an
open Go.RowKit
def bW(T:dD):Bool:=T.all λp=>fH p.2.zero&&(p.2.zero.cells.size==p.2.size)
theorem bW.get:∀{T:dD}{t:Nat}{i:JM},bW T=true->T.get t=some i->fH i.zero=true/\i.zero.cells.size=i.size
 |[],_,_,_,h=>by simp[dD.get]at h
 |(s,x)::r,t,i,ho,h=>by
  simp only[bW,rX,aA]at ho;unfold dD.get at h
  split at h
  .injection h with h;subst h;exact⟨ho.1.1,by simpa using ho.1.2⟩
  .exact bW.get (T:=r) (by simpa[bW]using ho.2) h
section
variable{P:Program} {T:dD} {E:Env} {K:KM} {c:aM} {a:Act} {w:World} {o:Oper} {r:iS} {val:Operand->AV} {X:Nat->Prop}
theorem ua{dr:Bool}(hT:br P T)(h1:bW T=true)(hs:bC E K c a w)(az:ey E K c a w val)(Ed:∀x b,eP b c=true->(val x).has b=false)(hf:fq c r.nw r.D=true)
  (h:(cQ dr T val (aK c.O) o).holds P (· =r)):o.wp P a w (bA E c r a o.dst) kK:=by
 unfold cQ at h
 split at h
 .exact NL hs az (.inl ‹_›) h
 .exact NL hs az (.inr ‹_›) h
 .rename_i x y z ho
  unfold UY at h
  split at h
  .exact aaz hs az ho h
  .exact ahv hs az ho h
  .exact h.elim
 .exact Sc hT hs ‹_› (λi hi=>(bW.get h1 hi).1) hf h
 .exact aaI hT hs az Ed ‹_› hf h
 .exact Xn hT hs az ‹_› h
 .exact Sb hT hs az ‹_› h
 .exact aaF hT hs az ‹_› h
 .exact aaA hs az ‹_› h
 .exact aaB hs az ‹_› h
 .exact aaC hs az ‹_› h
 .split at h
  .exact Sy hT hs az ‹_› h
  .exact Lx hT hs az ‹_› h
 .rename_i f first dt ho
  split at h
  .rename_i hl
   have:first=#[]:=by cases first;simp at hl;subst hl;rfl
   subst this;exact Ij hs az ho h
  .exact h.elim
 .exact F0 hT hs az ‹_› h
 .exact Sd hT hs az ‹_› h
 .exact F5 hT hs az ‹_› h
 .exact Ly hs az ‹_› h
 .exact Sg hT (λt i hi=>(bW.get h1 hi).1) hs az ‹_› h
 .exact Eh hT (λt i hi=>(bW.get h1 hi).1) hs az Ed ‹_› hf h
 .exact F8 hT (λt i hi=>(bW.get h1 hi).1) hs az ‹_› hf h
 .exact Se hT hs az ‹_› h
 .split at h
  .exact NQ hT hs az ‹_› ‹_› h
  .split at h
   .exact aaL hT hs az ‹_› h
   .exact Sf hT hs az ‹_› h
 .exact Xr hT hs az ‹_› h
 .rename_i cl ho
  obtain⟨callee,args,ts⟩:=cl;unfold xA at h
  split at h
  .rename_i hc
   split at h
   .rename_i vx t hx ht
    simp only at hc hx ht;subst hc;obtain⟨x,Oa,N3⟩:∃x,args.toList=[x] /\val x=vx:=by
     cases hl:args.toList with
     |nil=>rw[hl]at hx;cases hx
     |cons x xs=>
      rw[hl]at hx
      cases xs with
      |nil=>injection hx with hx _;exact⟨x,rfl,hx⟩
      |cons y ys=>injection hx with _ hx;cases hx
    subst N3;have hx:=Oa;have e1:args=#[x]:=by cases args;simp at hx;subst hx;rfl
    have e2:ts=#[t]:=by cases ts;simp at ht;subst ht;rfl
    subst e1 e2;exact aaJ hT hs az ho h
   .exact h.elim
  .rename_i hc
   split at h
   .rename_i vs vx t t' hx ht
    simp only at hc hx ht;subst hc;obtain⟨s,x,Oa,uz,N3⟩:∃s x,args.toList=[s,x] /\val s=vs/\val x=vx:=by
     cases hl:args.toList with
     |nil=>rw[hl]at hx;cases hx
     |cons s xs=>
      rw[hl]at hx
      cases xs with
      |nil=>injection hx with _ hx;cases hx
      |cons x ys=>
       injection hx with h1 hx
       injection hx with h2 hx
       cases ys with
       |nil=>exact⟨s,x,rfl,h1,h2⟩
       |cons z zs=>cases hx
    subst uz N3;have hx:=Oa;have e1:args=#[s,x]:=by cases args;simp at hx;subst hx;rfl
    have e2:ts=#[t,t']:=by cases ts;simp at ht;subst ht;rfl
    subst e1 e2
    split at h
    .rename_i ht
     have:=beq_true ht;subst this
     split at h
     .exact LI hT hs az ho h
     .exact NY hT (λt i hi=>bW.get h1 hi) hs az ho hf h
    .exact h.elim
   .exact h.elim
  .rename_i hc
   split at h
   .rename_i vx t hx ht
    simp only at hc hx ht;subst hc;obtain⟨x,Oa,N3⟩:∃x,args.toList=[x] /\val x=vx:=by
     cases hl:args.toList with
     |nil=>rw[hl]at hx;cases hx
     |cons x xs=>
      rw[hl]at hx
      cases xs with
      |nil=>injection hx with hx _;exact⟨x,rfl,hx⟩
      |cons y ys=>injection hx with _ hx;cases hx
    subst N3;have hx:=Oa;have e1:args=#[x]:=by cases args;simp at hx;subst hx;rfl
    have e2:ts=#[t]:=by cases ts;simp at ht;subst ht;rfl
    subst e1 e2;exact Sr hT (λt i hi=>bW.get h1 hi) hs az ho h
   .exact h.elim
  .rename_i hc;simp only at hc;subst hc;exact aaM hs az ho h
  .rename_i hc;simp only at hc;subst hc;exact aaN hs az ho h
  .rename_i hc;simp only at hc;subst hc
   split at h
   .exact Sx hs az ho h
   .split at h
    .exact Sv hs az ho hf h
    .exact s_call hs az ho hf h
  .exact h.elim
 .exact LN hT hs ‹_› hf h
 .exact N5 hT (λt i hi=>(bW.get h1 hi).1) hs az ‹_› h
 .exact N9 hT hs az (.inl ‹_›) h
 .exact N9 hT hs az (.inr ‹_›) h
 .exact XL hT (λt i hi=>(bW.get h1 hi).1) hs az ‹_› h
 .exact XM hs az ‹_› h
 .exact SA hT hs az ‹_› h
 .exact XK hs az ‹_› h
 .exact Iw hs az ‹_› h
 .exact h.elim
end
end Go.an
