/- The rule for drawn regions by what each slot is. No function of the program in sight. timetableref39.Same: its contract: are two series the same? timetableref40.SameEvent: its contract. timetableref40.SameEvents: its contract. timetableref41.Same and timetableref41.SameNotices: their contracts. subscriber.Valid, timetableref41.Valid and the law's short: their contracts. Stretches of events in memory: their cells and what they refer to. No function of the program in sight. Condition: none. An append of a stretch of events to a row of one's own. No function of the program in sight. Condition: none. Plain facts on the reference's Put: an event laid into a list in the order of the identifiers. No program in sight. Condition: none. -/
import Derived.Test.YtegjgjgoodekiaaGreatDoorQk8
import Derived.StillTailTactics
open Go.Value renaming int->ja,string->jc,slice->jd,bool->je
open Go.IntKind renaming i64->jb
open Go.Ending renaming returned->jh
open Go.Obj renaming cells->ji
open List renaming getElem?_eq_getElem->xa,getElem?_eq_none->xb,getElem?_eq_some_iff->xd,take_append_drop->xg,mem_cons_of_mem->xh,mem_cons_self->xj,length_take->xk,map_cons->xl
open Bool renaming and_eq_true->xc
open Nat renaming add_assoc->xe,zero_le->xi,zero_add->xm
open Option.some renaming inj->xf
set_option maxRecDepth 100000
set_option maxHeartbeats 40000000
namespace Go.Proofs.YtegjgjgoodekiaaGreatDoor
open Go.RowKit
section
variable {P:Program} {ops:Array Oper} {Q:Exit->Act->World->Prop}
theorem J1{id:Nat}{a:Act}{w:World}(hm:P.follows .mixedOrders=true)(J:Array Bool->Act->World->Prop)(O:JT ops=true)
  (F:J (Array.replicate ops.size false) a { w with drawn:=w.drawn+1 })
  (H: ∀listed a w,J listed a w->listed.size=ops.size)
  (A: ∀listed a w i,J listed a w->i<ops.size->listed.getD i true=false->(∀o,ops[i]?=some o-> ∀e∈o.after.toList,Region.binds .any e=true->listed.getD e.on false=true)->wpOp P ops Q i (J (listed.setIfInBounds i true)) a w)
  (D: ∀listed a w,J listed a w->(∀i,i<ops.size->listed.getD i true=true)->Q .normal a w):(Code.region id ops true).wp P Q a w:=by
 refine FA hm (fun listed a w=>J listed a w) F ?_ ?_
 ·intro listed a x i h hi;obtain⟨E,M,G⟩:=IW hi;exact A listed a x i h E M G
 ·intro listed a x h hr;exact D listed a x h (fun i hi=>JS hr (H _ _ _ h) O i hi)
end
structure GR (G:World->World->Prop):Prop where
 drew: ∀w,G w w.drew
 refl: ∀w,G w w
 trans: ∀{a b c:World},G a b->G b c->G a c
def To(v:Nat->Value)(i:Nat)(u:Value):Nat->Value:=fun j=>bif Nat.beq j i then u else v j
theorem LW(v:Nat->Value)(i:Nat)(u:Value):To v i u i=u:=by simp[To]
theorem Le(v:Nat->Value){i j:Nat}(u:Value)(h:j≠i):To v i u j=v j:=by
 have:Nat.beq j i=false:=by cases hb:Nat.beq j i with
  | false=>rfl
  | true=>exact absurd (Nat.eq_of_beq_eq_true hb) h
 simp[To,this]
def Ce:List Oper->Nat->(Nat->Value)->List Value->List Value
 | [],_,_,l=>l
 | o::os,i,v,l=>Ce os (i+1) v (match o.dst with | some d=>l.set d (v i) | none=>l)
def E7(v:Nat->Value):List Edge->List Value
 | []=>[]
 | e::es=>match e.ground with | .textOnly _=>E7 v es | .gcOnly _=>E7 v es | _=>v e.on::E7 v es
def A1:List Oper->List (List Value->Value->World->Prop)->(Nat->Value)->Nat->Nat->World->Prop
 | o::_,r::_,v,j,0,y=>r (E7 v o.after.toList) (v j) y
 | _::os,_::rs,v,j,n+1,y=>A1 os rs v j n y
 | _,_,_,_,_,_=>True
def A2(G:World->World->Prop)(os:List Oper)(R:List (List Value->Value->World->Prop))(v:Nat->Value)(x:World):List Edge->Prop
 | []=>True
 | e::es=>(match e.ground with | .textOnly _=>True | .gcOnly _=>True | _=> ∃y,A1 os R v e.on e.on y/\G y x)/\A2 G os R v x es
def V8:Option Tmp->Value->List Value->List Value
 | some d,u,l=>l.set d u
 | none,_,l=>l
def U7(P:Program)(qs:List Oper)(G:World->World->Prop)(R:List (List Value->Value->World->Prop))(F:(Nat->Value)->List Value)(df:List Deferred)(w:World):List Oper->List (List Value->Value->World->Prop)->Prop
 | _,[]=>True
 | [],_::_=>True
 | o::os,r::rs=>(∀(v:Nat->Value) (x:World),G w x->A2 G qs R v x o.after.toList-> ∀QQ:Exit->Act->World->Prop,(∀u y,r (E7 v o.after.toList) u y->y=x∨G x y->QQ .normal ⟨(V8 o.dst u (F v)).toArray,df⟩ y)->wpList P qs.toArray QQ [o] ⟨(F v).toArray,df⟩ x)/\U7 P qs G R F df w os rs
def Dt(G:World->World->Prop)(v:Nat->Value)(x:World):Nat->List Oper->List (List Value->Value->World->Prop)->Prop
 | _,_,[]=>True
 | _,[],_=>True
 | i,o::os,r::rs=>(∃y,r (E7 v o.after.toList) (v i) y/\G y x)/\Dt G v x (i+1) os rs
def Ci:List Oper->List (List Value->Value->World->Prop)->List Oper
 | os,[]=>os
 | [],_=>[]
 | _::os,_::rs=>Ci os rs
def JR:List Oper->Bool
 | []=>true
 | o::os=>(match o.dst with | some d=>os.all fun q=>q.dst !=some d | none=>true) && JR os
theorem KS: ∀(w:List Oper) (k i:Nat) (v:Nat->Value) (u:Value) (l:List Value),i<k->Ce w k (To v i u) l=Ce w k v l
 | [],_,_,_,_,_,_=>rfl
 | o::w,k,i,v,u,l,h=>by
  show Ce w (k+1) _ _=Ce w (k+1) _ _
  rw[Le v u (show k≠i by omega)];exact KS w (k+1) i v u _ (by omega)
theorem KT: ∀(w:List Oper) (k:Nat) (v:Nat->Value) (d:Nat) (u:Value) (l:List Value),(w.all fun q=>q.dst !=some d)=true->Ce w k v (l.set d u)=(Ce w k v l).set d u
 | [],_,_,_,_,_,_=>rfl
 | o::w,k,v,d,u,l,h=>by
  rw[List.all_cons,xc]at h;show Ce w (k+1) _ _=(Ce w (k+1) _ _).set d u
  rw[<-KT w (k+1) v d u _ h.2];cases hd:o.dst with
  | none=>rfl
  | some e=>
   have hne:d≠e:=by intro hh;subst hh;have:=h.1;rw[hd]at this;simp at this
   simp only[];rw[List.set_comm _ _ hne]
theorem Jy: ∀(A:List Oper) (k:Nat) (v:Nat->Value) (i:Nat) (u:Value) (o:Oper) (l:List Value),A[i]?=some o->JR A=true->
  Ce A k (To v (k+i) u) l=match o.dst with | some d=>(Ce A k v l).set d u | none=>Ce A k v l
 | [],_,_,_,_,_,_,h,_=>by simp at h
 | q::A,k,v,0,u,o,l,h,ha=>by
  have hq:q=o:=by simpa using h
  subst hq;show Ce A (k+1) (To v (k+0) u) _=_
  rw[KS A (k+1) (k+0) v u _ (by omega)];have w:=ha;unfold JR at w;rw[xc]at w;cases hd:q.dst with
  | none=>simp only[Ce,hd]
  | some d=>
   rw[hd]at w;simp only[Ce,hd,Nat.add_zero,LW];rw[<-KT A (k+1) v d u _ w.1,List.set_set]
 | q::A,k,v,i+1,u,o,l,h,ha=>by
  have w:=ha;unfold JR at w;rw[xc]at w;have D:A[i]?=some o:=by simpa using h
  show Ce A (k+1) _ _=_
  rw[show k+(i+1)=(k+1)+i by omega,Le v u (show k≠(k+1)+i by omega)];rw[Jy A (k+1) v i u o _ D w.2];rfl
theorem Og: ∀(w:List Oper) (k:Nat) (l:List Value),∃v:Nat->Value,∀l',l'.length=l.length->(∀i:Nat,l'[i]?=l[i]?)->Ce w k v l'=l
 | w,k,l=>by
  refine⟨fun j=>((w[j - k]?).bind fun o=>o.dst.bind fun d=>l[d]?).getD undef,fun l' _ hl=>?_⟩;have D:l'=l:=List.ext_getElem? hl;subst D;have E: ∀(A:List Oper) (m:Nat),(∀i:Nat,A[i]?=w[m+i]?)->Ce A (k+m) (fun j=>((w[j - k]?).bind fun o=>o.dst.bind fun d=>l'[d]?).getD undef) l'=l':=by
   intro A;induction A with
   | nil=>intro m _;rfl
   | cons q A ih=>
    intro m h;have hq:w[m]?=some q:=by have:=h 0;simpa using this.symm
    show Ce A (k+m+1) _ _=_
    have F:(match q.dst with | some d=>l'.set d (((w[k+m - k]?).bind fun o=>o.dst.bind fun d=>l'[d]?).getD undef) | none=>l')=l':=by
     cases hd:q.dst with
     | none=>rfl
     | some d=>
      simp only[show k+m - k=m by omega,hq,Option.bind_some,hd];cases hg:l'[d]? with
      | none=>exact List.set_eq_of_length_le (by simpa using hg)
      | some z=>
       have:=xd.1 hg;obtain⟨G,hz⟩:=this;subst hz;simp
    simp only[F];rw[show k+m+1=k+(m+1)by omega];exact ih (m+1) (fun i=>by have:=h (i+1);simpa[xe,Nat.add_comm 1 i]using this)
  exact E w 0 (fun i=>by simp)
theorem Mo: ∀(w:List Oper) (R:List (List Value->Value->World->Prop)) (v:Nat->Value) (j i:Nat) (o:Oper) (r:List Value->Value->World->Prop) (y:World),w[i]?=some o->R[i]?=some r->A1 w R v j i y=r (E7 v o.after.toList) (v j) y
 | [],_,_,_,_,_,_,_,h,_=>by simp at h
 | _::_,[],_,_,_,_,_,_,_,h=>by simp at h
 | o::_,r::_,v,j,0,p,s,y,h,k=>by
  have e1:o=p:=by simpa using h
  have e2:r=s:=by simpa using k
  subst e1;subst e2;rfl
 | _::w,_::rs,v,j,i+1,p,s,y,h,k=>Mo w rs v j i p s y (by simpa using h) (by simpa using k)
theorem Pe{G:World->World->Prop}{A:List Oper}{R:List (List Value->Value->World->Prop)}{v:Nat->Value}{x:World}: ∀es:List Edge,(∀e∈es,Region.binds .any e=true-> ∃y,A1 A R v e.on e.on y/\G y x)->A2 G A R v x es
 | [],_=>trivial
 | e::es,h=>by
  refine⟨?_,Pe es fun D he=>h D (xh _ he)⟩;have w:=h e (xj ..);unfold Region.binds at w;cases hg:e.ground<;>simp only[hg]at w ⊢<;>first | exact w trivial | trivial
theorem JE(v:Nat->Value)(i:Nat)(u:Value): ∀es:List Edge,(∀e∈es,Region.binds .any e=true->e.on≠i)->E7 (To v i u) es=E7 v es
 | [],_=>rfl
 | e::es,h=>by
  have ih:=JE v i u es fun A he=>h A (xh _ he)
  have w:=h e (xj ..);unfold Region.binds at w;unfold E7;cases hg:e.ground<;>simp only[hg,ih]at w ⊢<;>rw[Le v u (w trivial)]
theorem OX{P:Program}{E:List Oper}{G:World->World->Prop}{R:List (List Value->Value->World->Prop)}{F:(Nat->Value)->List Value}{D:List Deferred}{w:World}: ∀(A:List Oper) (rs:List (List Value->Value->World->Prop)),U7 P E G R F D w A rs-> ∀(i:Nat) (o:Oper) (r:List Value->Value->World->Prop),A[i]?=some o->rs[i]?=some r->
  ∀v x,G w x->A2 G E R v x o.after.toList-> ∀QQ:Exit->Act->World->Prop,(∀u y,r (E7 v o.after.toList) u y->y=x∨G x y->QQ .normal ⟨(V8 o.dst u (F v)).toArray,D⟩ y)->wpList P E.toArray QQ [o] ⟨(F v).toArray,D⟩ x
 | _,[],_,_,_,_,_,h=>by simp at h
 | [],_::_,_,_,_,_,h,_=>by simp at h
 | o::A,r::rs,h,0,q,s,h1,h2=>by
  have e1:o=q:=by simpa using h1
  have e2:r=s:=by simpa using h2
  subst e1;subst e2;exact h.1
 | o::A,r::rs,h,i+1,q,s,h1,h2=>OX A rs h.2 i q s (by simpa using h1) (by simpa using h2)
theorem Pq{G:World->World->Prop}{v:Nat->Value}{x:World}: ∀(rs:List (List Value->Value->World->Prop)) (w:List Oper) (k:Nat),(∀(i:Nat) (o:Oper) (r:List Value->Value->World->Prop),w[i]?=some o->rs[i]?=some r-> ∃y,r (E7 v o.after.toList) (v (k+i)) y/\G y x)->Dt G v x k w rs
 | [],_,_,_=>by unfold Dt;trivial
 | _::_,[],_,_=>trivial
 | r::rs,o::w,k,h=>⟨h 0 o r (by simp) (by simp),Pq rs w (k+1) fun i p s hp hs=>by
   have:=h (i+1) p s (by simpa using hp) (by simpa using hs);rwa [show k+(i+1)=k+1+i by omega]at this⟩
theorem Nd: ∀(w:List Oper) (R:List (List Value->Value->World->Prop)),R.length<=w.length->Ci w R=w.drop R.length
 | w,[],_=>by cases w<;>rfl
 | [],_::_,h=>by simp at h
 | _::w,_::rs,h=>by
  show Ci w rs=_
  rw[Nd w rs (by simpa using h)];simp
abbrev gE (a:Value):List Value->Value->World->Prop:=fun _ u _=>u=a
def gB(x y:World):Prop:=Below x.heap.size x y
theorem GR.below:GR gB:=⟨fun w=>Ac (Below.refl _ w),fun w=>Below.refl _ w,fun h k=>h.trans (k.mono h.size)⟩
def gI(I:World->Prop)(b g:Nat)(x y:World):Prop:=AO b x.heap.size x y/\(g<x.heap.size->I x->I y)
theorem GR.inv{I:World->Prop}{b g:Nat}(h: ∀w,g<w.heap.size->I w->I w.drew):GR (gI I b g):=⟨fun w=>⟨AO.of_below (Ac (Below.refl _ w)),h w⟩,fun w=>⟨AO.refl b _ w,fun _ h=>h⟩,fun p k=>⟨Ba p.1 k.1 p.1.size,fun hg d=>k.2 (Nat.lt_of_lt_of_le hg p.1.size) (p.2 hg d)⟩⟩
def gS(b:Nat)(x y:World):Prop:=AO b x.heap.size x y/\(BJ b x->BJ b y)
theorem GR.sofar(b:Nat):GR (gS b):=⟨fun w=>⟨AO.of_below (Ac (Below.refl _ w)),QO⟩,fun w=>⟨AO.refl b _ w,id⟩,fun h k=>⟨Ba h.1 k.1 h.1.size,fun d=>k.2 (h.2 d)⟩⟩
theorem gS.of{b:Nat}{x y:World}(h:Ai b x y):gS b x y:=⟨h.but,fun _=>h.dice⟩
theorem DE{P:Program}{ops:Array Oper}{Q:Exit->Act->World->Prop}{l:List Oper}{a:Act}{w:World}(h: ∀QQ:Exit->Act->World->Prop,QQ=Q->wpList P ops QQ l a w):wpList P ops Q l a w:=h Q rfl
theorem Cm{Q:Act->World->Prop}{a:Act}{w:World}(P:World->Prop)(h:P w)(k: ∀x,P x->Q a x):Q a w:=k w h
def VR(P:Program)(os:List Oper)(n:Nat)(l:List Value)(F:(Nat->Value)->List Value):Prop:=
 P.follows .mixedOrders=true/\(decide (n<=os.length) && (JT os.toArray && (Rh os.toArray n && JR (os.take n))))=true/\ ∀v,Ce (os.take n) 0 v l=F v
theorem EA{P:Program}{w:List Oper}{n:Nat}{l:List Value}{F:(Nat->Value)->List Value} (h:VR P w n l F:=by
  refine⟨by kernel_rfl,by kernel_rfl,fun v=>?_⟩;simp only[List.take_succ_cons,List.take_zero,Ce,List.set_cons_succ,List.set_cons_zero,Nat.reduceAdd];rfl):VR P w n l F:=h
theorem qE{p:Prop} (h:p:=by
  intro v x g h QQ K;simp only[A2,A1,exists_and_left,and_true]at h;try simp only[h]at K ⊢
  go_wp2_with fail;exact K _ _ rfl (.inl rfl)):p:=h
theorem AH{P:Program}{Q:Exit->Act->World->Prop}{id:Nat}{D:List Oper}{l:List Value}{df:List Deferred}{w:World}{G:World->World->Prop}{F:(Nat->Value)->List Value}
  (hG:GR G) (n:Nat) (R:List (List Value->Value->World->Prop)) (hn:R.length=n) (hk:VR P D n l F)
  (ho:U7 P D G R F df w D R)
  (ht: ∀v x,G w x->Dt G v x 0 D R->wpList P D.toArray Q (Ci D R) ⟨(F v).toArray,df⟩ x):
  (Code.region id D.toArray true).wp P Q ⟨l.toArray,df⟩ w:=by
 subst hn;obtain⟨hm,hc,hF⟩:=hk;simp only[xc,decide_eq_true_eq]at hc;obtain⟨hn,hw,hl,ha⟩:=hc;have hF:F=fun v=>Ce (D.take R.length) 0 v l:=funext fun v=>(hF v).symm
 subst hF;obtain⟨v0,aa⟩:=Og (D.take R.length) 0 l;have aa:=aa l rfl (fun _=>rfl);let J:Array Bool->Act->World->Prop:=fun A a x=>A.size=D.length/\(∀k,R.length<=k->k<D.length->A.getD k true=false)/\ ∃v,a=⟨(Ce (D.take R.length) 0 v l).toArray,df⟩/\G w x/\ ∀i o r,D[i]?=some o->R[i]?=some r->A.getD i false=true->(∀e∈o.after.toList,Region.binds .any e=true->A.getD e.on false=true)/\ ∃y,r (E7 v o.after.toList) (v i) y/\G y x
 have h0:J (Array.replicate D.toArray.size false) ⟨l.toArray,df⟩ { w with drawn:=w.drawn+1 }:=by
  refine⟨by simp,fun k _ hk=>by simp[Array.getD_eq_getD_getElem?,hk],v0,by rw[aa],hG.drew w,fun i o r _ _ h=>?_⟩;exfalso;rw[Array.getD_eq_getD_getElem?,Array.getElem?_replicate]at h;split at h<;>simp at h
 have O: ∀A a x i,J A a x->i<R.length->A.getD i true=false->(∀o,D.toArray[i]?=some o-> ∀e∈o.after.toList,Region.binds .any e=true->A.getD e.on false=true)->wpOp P D.toArray Q i (J (A.setIfInBounds i true)) a x:=by
  rintro A a x i ⟨h1,h2,v,rfl,h3,h4⟩ hi hu he;obtain⟨o,H⟩: ∃o,D[i]?=some o:=⟨D[i]'(by omega),xa _⟩
  obtain⟨r,hr⟩: ∃r,R[i]?=some r:=⟨R[i]'hi,xa _⟩
  have U:D.toArray[i]?=some o:=by simpa using H
  refine AJ U fun QQ hQ=>?_
  have M: ∀e∈o.after.toList,Region.binds .any e=true->e.on<i:=fun e E hb=>by
   have h5:=List.all_eq_true.1 hw i (List.mem_range.2 (by simp;omega));rw[U]at h5;simp only[Option.map_some,Option.getD_some]at h5;have h6:=List.all_eq_true.1 h5 e E;rw[hb]at h6;exact of_decide_eq_true (by simpa using h6)
  refine OX D R ho i o r H hr v x h3 (Pe _ fun e E hb=>?_) QQ ?_
  ·obtain⟨s,hs⟩: ∃s,R[e.on]?=some s:=⟨R[e.on]'(by have:=M e E hb;omega),xa _⟩
   obtain⟨p,hp⟩: ∃p,D[e.on]?=some p:=⟨D[e.on]'(by have:=M e E hb;omega),xa _⟩
   obtain⟨z,Z,ab⟩:=(h4 e.on p s hp hs (he o U e E hb)).2;exact⟨z,by rw[Mo D R v e.on e.on p s _ hp hs];exact Z,ab⟩
  ·intro u y ag T;have T:G x y:=by
    rcases T with rfl | h
    ·exact hG.refl _
    ·exact h
   have X: ∀k,A.getD k false=true->(A.setIfInBounds i true).getD k false=true:=fun k hk=>by
    rw[E5 _ (by omega)];split
    ·rfl
    ·exact hk
   refine hQ _ _ ⟨by simpa using h1,fun k ae ah=>?_,To v (0+i) u,?_,hG.trans h3 T,fun j p s hp hs ac=>?_⟩
   ·rw[E5 _ (by omega)];rw[if_neg (by omega)];exact h2 k ae ah
   ·rw[Jy (D.take R.length) 0 v i u o l (by rw[List.getElem?_take_of_lt hi];exact H) ha];cases o.dst<;>rfl
   ·rw[xm];by_cases Y:j=i
    ·subst Y;rw[LW];have e1:r=s:=by rw[hr]at hs;exact xf hs
     have e2:o=p:=by rw[H]at hp;exact xf hp
     subst e1;subst e2;refine⟨fun e E hb=>X _ (he o U e E hb),y,?_,hG.refl y⟩;rw[JE v j u _ fun e E hb=>by have:=M e E hb;omega];exact ag
    ·rw[Le v u Y];rw[E5 _ (by omega),if_neg (fun h=>Y h.symm)]at ac;obtain⟨hcl,z,Z,ab⟩:=h4 j p s hp hs ac;refine⟨fun e E hb=>X _ (hcl e E hb),z,?_,hG.trans ab T⟩;rw[JE v i u _ fun e E hb h=>by
      have h7:=Jr true (show e.on<A.size by omega) (hcl e E hb);rw[h,hu]at h7;cases h7]
     exact Z
 have V: ∀A a x,J A a x->(∀i,i<R.length->A.getD i true=true)->wpList P D.toArray Q (D.drop R.length) a x:=by
  rintro A a x ⟨h1,h2,v,rfl,h3,h4⟩ hall;rw[<-Nd D R hn];refine ht v x h3 (Pq R D 0 fun i o r H hr=>?_);rw[xm];have hi:i<R.length:=(xd.1 hr).1;exact(h4 i o r H hr (Jr false (by omega) (hall i hi))).2
 rcases Nat.lt_or_ge R.length D.length with M | af
 ·exact Dj R.length hm J (by simpa using M) hw hl h0 (fun _ _ _ h=>⟨by simpa using h.1,fun k h1 h2=>h.2.1 k h1 (by simpa using h2)⟩) O (fun A a x h hall=>by
   simpa using V A a x h hall)
 ·have ai:D.toArray.size=R.length:=by simp;omega
  refine J1 hm J hw h0 (fun _ _ _ h=>by simpa using h.1) (fun A a x i h hi=>O A a x i h (by omega)) (fun A a x h hall=>?_);have:=V A a x h (fun i hi=>hall i (by omega));rw[List.drop_eq_nil_of_le af]at this;exact this
theorem Jd{xs ys:List Int}{n:Nat}(hx:xs.length=n)(hy:ys.length=n)(h: ∀j,j<n->xs[j]?=ys[j]?):xs=ys:=by
 apply List.ext_getElem?
 intro j;rcases Nat.lt_or_ge j n with hj | hj
 ·exact h j hj
 ·rw[xb (by omega),xb (by omega)]
theorem NT(s t:Tt.Ser)(B:Nat)(w:World)(V U Y X:Option Addr)(c1 c2 c3 c4:Nat)(hB:B<=w.heap.size)(af:Ints B w V s.ex)(ag:Ints B w U s.xt)(ah:Ints B w Y t.ex)(ac:Ints B w X t.xt)(aq:s.ex.length<=4611686018427387903)(ap:s.xt.length<=4611686018427387903):
  Calls Tryz.prog 53 #[Bf s (jd V s.ex.length c1) (jd U s.xt.length c2),Bf t (jd Y t.ex.length c3) (jd X t.xt.length c4)] w fun e w'=>e=jh (je (decide (s=t)))/\Below w.heap.size w w':=by
 obtain⟨f,l,e,m,ex,xt⟩:=s;obtain⟨f',l',e',m',A,D⟩:=t;simp only at*;have ak:=Lh af;have al:=Lh ag;have am:=Lh ah;have aj:=Lh ac;clear af ag ah ac;unfold Bf;by_cases hq:f=f'/\l=l'/\e=e'/\m=m'/\ex.length=A.length/\xt.length=D.length
 ·obtain⟨rfl,rfl,rfl,rfl,hl1,hl2⟩:=hq;rw[<-hl1,<-hl2];obtain⟨n,hn⟩: ∃n,n=ex.length:=⟨_,rfl⟩
  obtain⟨o,ho⟩: ∃o,o=xt.length:=⟨_,rfl⟩
  rw[<-hn]at aq hl1 ⊢;rw[<-ho]at ap hl2 ⊢;have HN:=Lh hn;have HO:=Lh ho;have ab:=Lh hl1;have ae:=Lh hl2;clear hn ho hl1 hl2;have S0:Bu w.heap.size ⟨f,l,e,m,ex,xt⟩ (jd V n c1) (jd U o c2) (w.alloc (ji #[ja jb f,ja jb l,ja jb e,ja jb m,jd V n c1,jd U o c2] 59)):=heap_alloc_new w _;have T0:Bu (w.heap.size+1) ⟨f,l,e,m,A,D⟩ (jd Y n c3) (jd X o c4) ((w.alloc (ji #[ja jb f,ja jb l,ja jb e,ja jb m,jd V n c1,jd U o c2] 59)).alloc (ji #[ja jb f,ja jb l,ja jb e,ja jb m,jd Y n c3,jd X o c4] 59)):=by
   have:=heap_alloc_new (w.alloc (ji #[ja jb f,ja jb l,ja jb e,ja jb m,jd V n c1,jd U o c2] 59)) (ji #[ja jb f,ja jb l,ja jb e,ja jb m,jd Y n c3,jd X o c4] 59);simpa[Bu]using this
  have HB:=Lh ((Aa w (ji #[ja jb f,ja jb l,ja jb e,ja jb m,jd V n c1,jd U o c2] 59)).alloc (by simp) (ji #[ja jb f,ja jb l,ja jb e,ja jb m,jd Y n c3,jd X o c4] 59));have HS:=Lh (S0.block (w':=(w.alloc (ji #[ja jb f,ja jb l,ja jb e,ja jb m,jd V n c1,jd U o c2] 59)).alloc (ji #[ja jb f,ja jb l,ja jb e,ja jb m,jd Y n c3,jd X o c4] 59)) ((Aa _ _).block _ (by simp)));have HT:=Lh T0;clear S0 T0;go_enter Tryz.func53,Tryz.ntmps53;go_wp2_with fail;go_loopw [5] (fun Z wr=> ∃k:Nat,Z=ja jb k/\k<=n/\Hid (Below w.heap.size w wr)/\Hid (Bu w.heap.size ⟨f,l,e,m,ex,xt⟩ (jd V n c1) (jd U o c2) wr)/\Hid (Bu (w.heap.size+1) ⟨f,l,e,m,A,D⟩ (jd Y n c3) (jd X o c4) wr)/\Hid (∀j,j<k->ex[j]?=A[j]?)) (fun Z _=>n - (intOf Z).toNat)
  case atStart=>exact⟨0,rfl,xi _,HB,HS,HT,Lh (fun j h=>absurd h (Nat.not_lt_zero _))⟩
  case round=>
   obtain⟨k,rfl,hk,E,HA,O,HE⟩:=hrel;obtain⟨-, -, -, -,e4,e5⟩:=HA.o.cells;obtain⟨-, -, -, -,f4,f5⟩:=O.o.cells;by_cases M:k<n
   ·have hx:k<ex.length:=by rw[<-HN.o];exact M
    have hy:k<A.length:=by rw[<-ab.o];exact M
    obtain⟨a,rfl,ha,H⟩:=ak.o k _ (xa hx);obtain⟨a',rfl,ai,J⟩:=am.o k _ (xa hy);obtain⟨x,F⟩: ∃x,x=ex[k]:=⟨_,rfl⟩
    obtain⟨y,G⟩: ∃y,y=A[k]:=⟨_,rfl⟩
    rw[<-F]at H;rw[<-G]at J;have R:=Lh F;have T:=Lh G;clear F G;have H:=(E.o.cell (p:=a.add k) (by rw[AP];omega)).trans H;have J:=(E.o.cell (p:=a'.add k) (by rw[AP];omega)).trans J;have hlt2:(k:Int)<n:=by omega
    by_cases he:x=y
    ·have hb:(x !=y)=false:=by simp[he]
     have aa:=Lh (show ∀j,j<k+1->ex[j]?=A[j]? from by
      intro j hj;rcases Nat.lt_or_ge j k with h | h
      ·exact HE.o j h
      ·obtain rfl:j=k:=by omega
       rw[xa hx,xa hy,<-R.o,<-T.o,he])
     clear he;go_wp2_with fail;go_quiet (fail)
     go_wp2_with fail;go_roundw
     case rel=>exact⟨k+1,by go_num,by omega,Lh (Be E.o),Lh (HA.o.block (by simp)),Lh (O.o.block (by simp)),aa⟩
     case measure=>simp[intOf];omega
    ·have hb:(x !=y)=true:=by simp[he]
     have HD:=Lh (show decide ((⟨f,l,e,m,ex,xt⟩:Tt.Ser)=⟨f,l,e,m,A,D⟩)=false from by
      rw[decide_eq_false_iff_not];intro h;injection h with a1 a2 a3 a4 a5 a6
      exact he (by rw[R.o,T.o];simp[a5]))
     clear he;go_wp2_with fail;go_quiet (fail)
     go_wp2_with fail;go_ret;exact⟨Ag HD.o.symm,Be E.o⟩
   ·have hlt2: ¬(k:Int)<n:=by omega
    have HX:=Lh (show ex=A from Jd HN.o.symm ab.o.symm (fun j hj=>HE.o j (by omega)));clear HE hk M;go_wp2_with fail;go_loopw [6] (fun Z wq=> ∃k:Nat,Z=ja jb k/\k<=o/\Hid (Below w.heap.size w wq)/\Hid (Bu w.heap.size ⟨f,l,e,m,ex,xt⟩ (jd V n c1) (jd U o c2) wq)/\Hid (Bu (w.heap.size+1) ⟨f,l,e,m,A,D⟩ (jd Y n c3) (jd X o c4) wq)/\Hid (∀j,j<k->xt[j]?=D[j]?)) (fun Z _=>o - (intOf Z).toNat)
    case atStart=>exact⟨0,rfl,xi _,E,HA,O,Lh (fun j h=>absurd h (Nat.not_lt_zero _))⟩
    case round=>
     clear e4 e5 f4 f5;obtain⟨k,rfl,hk,E,HA,O,HE⟩:=hrel;obtain⟨-, -, -, -,e4,e5⟩:=HA.o.cells;obtain⟨-, -, -, -,f4,f5⟩:=O.o.cells;by_cases M:k<o
     ·have hx:k<xt.length:=by rw[<-HO.o];exact M
      have hy:k<D.length:=by rw[<-ae.o];exact M
      obtain⟨a,rfl,ha,H⟩:=al.o k _ (xa hx);obtain⟨a',rfl,ai,J⟩:=aj.o k _ (xa hy);obtain⟨x,F⟩: ∃x,x=xt[k]:=⟨_,rfl⟩
      obtain⟨y,G⟩: ∃y,y=D[k]:=⟨_,rfl⟩
      rw[<-F]at H;rw[<-G]at J;have R:=Lh F;have T:=Lh G;clear F G;have H:=(E.o.cell (p:=a.add k) (by rw[AP];omega)).trans H;have J:=(E.o.cell (p:=a'.add k) (by rw[AP];omega)).trans J;have hlt2:(k:Int)<o:=by omega
      by_cases he:x=y
      ·have hb:(x !=y)=false:=by simp[he]
       have aa:=Lh (show ∀j,j<k+1->xt[j]?=D[j]? from by
        intro j hj;rcases Nat.lt_or_ge j k with h | h
        ·exact HE.o j h
        ·obtain rfl:j=k:=by omega
         rw[xa hx,xa hy,<-R.o,<-T.o,he])
       clear he;go_wp2_with fail;go_quiet (fail)
       go_wp2_with fail;go_roundw
       case rel=>exact⟨k+1,by go_num,by omega,Lh (Be E.o),Lh (HA.o.block (by simp)),Lh (O.o.block (by simp)),aa⟩
       case measure=>simp[intOf];omega
      ·have hb:(x !=y)=true:=by simp[he]
       have HD:=Lh (show decide ((⟨f,l,e,m,ex,xt⟩:Tt.Ser)=⟨f,l,e,m,A,D⟩)=false from by
        rw[decide_eq_false_iff_not];intro h;injection h with a1 a2 a3 a4 a5 a6
        exact he (by rw[R.o,T.o];simp[a6]))
       clear he;go_wp2_with fail;go_quiet (fail)
       go_wp2_with fail;go_ret;exact⟨Ag HD.o.symm,Be E.o⟩
     ·have hlt2: ¬(k:Int)<o:=by omega
      have HY:=Lh (show xt=D from Jd HO.o.symm ae.o.symm (fun j hj=>HE.o j (by omega)));have HD:=Lh (show decide ((⟨f,l,e,m,ex,xt⟩:Tt.Ser)=⟨f,l,e,m,A,D⟩)=true from by rw[HX.o,HY.o];simp);go_wp2_with fail;go_ret;exact⟨Ag (by simpa using HD.o.symm),E.o⟩
 ·have HD:=Lh (show decide ((⟨f,l,e,m,ex,xt⟩:Tt.Ser)=⟨f',l',e',m',A,D⟩)=false from by
   rw[decide_eq_false_iff_not];intro h;injection h with a1 a2 a3 a4 a5 a6
   exact hq ⟨a1,a2,a3,a4,by rw[a5],by rw[a6]⟩)
  go_enter Tryz.func53,Tryz.ntmps53;go_wp2_with fail
  all_goals
   go_ret;exact⟨Ag HD.o.symm,(Aa _ _).trans ((Aa _ _).mono (by simp))⟩
deriving instance DecidableEq for Ev
theorem D9{x y:ByteArray}(he: ¬x=y):(x.toList==y.toList)=false:=by
 rw[beq_eq_false_iff_ne];intro h;rw[Lib.toList_data,Lib.toList_data]at h;exact he (ByteArray.ext (Array.toList_inj.mp h))
theorem Ij{a b:Ev}(h: ¬a=b):decide (a=b)=false:=by simpa using h
theorem Mk(a b:Ev)(B:Nat)(w:World)(R T U V:Option Addr)(c1 c2 c3 c4:Nat)(hB:B<=w.heap.size)(ac:Ints B w R a.days.ex)(Z:Ints B w T a.days.xt)(aa:Ints B w U b.days.ex)(ab:Ints B w V b.days.xt)(al:a.days.ex.length<=4611686018427387903)(aj:a.days.xt.length<=4611686018427387903):
  Calls Tryz.prog 30 #[AW a (jd R a.days.ex.length c1) (jd T a.days.xt.length c2),AW b (jd U b.days.ex.length c3) (jd V b.days.xt.length c4)] w fun e w'=>e=jh (je (decide (a=b)))/\Below w.heap.size w w':=by
 have M:=(Aa w (ji (Ae a (jd R a.days.ex.length c1) (jd T a.days.xt.length c2)) 61)).alloc (by simp) (ji (Ae b (jd U b.days.ex.length c3) (jd V b.days.xt.length c4)) 61);have S0:B5 w.heap.size a (jd R a.days.ex.length c1) (jd T a.days.xt.length c2) (w.alloc (ji (Ae a (jd R a.days.ex.length c1) (jd T a.days.xt.length c2)) 61)):=heap_alloc_new w _;have T0:B5 (w.heap.size+1) b (jd U b.days.ex.length c3) (jd V b.days.xt.length c4) ((w.alloc (ji (Ae a (jd R a.days.ex.length c1) (jd T a.days.xt.length c2)) 61)).alloc (ji (Ae b (jd U b.days.ex.length c3) (jd V b.days.xt.length c4)) 61)):=by
  have:=heap_alloc_new (w.alloc (ji (Ae a (jd R a.days.ex.length c1) (jd T a.days.xt.length c2)) 61)) (ji (Ae b (jd U b.days.ex.length c3) (jd V b.days.xt.length c4)) 61);simpa[B5]using this
 have HS:=Lh (S0.block (w':=(w.alloc (ji (Ae a (jd R a.days.ex.length c1) (jd T a.days.xt.length c2)) 61)).alloc (ji (Ae b (jd U b.days.ex.length c3) (jd V b.days.xt.length c4)) 61)) ((Aa _ _).block _ (by simp)));have HT:=Lh T0;have HB:=Lh M;have ag:=Lh (ac.below (M.mono hB));have ah:=Lh (Z.below (M.mono hB));have af:=Lh (aa.below (M.mono hB));have ae:=Lh (ab.below (M.mono hB));clear ac Z aa ab S0 T0 M;obtain⟨u,s,A,d,st,H,O,lo⟩:=a;obtain⟨u',s',nc,Y,G,E,D,lo'⟩:=b;unfold Ae at*;unfold AW Ae;simp only at*;by_cases h1:u=u'
 ·subst h1;by_cases h2:s=s'
  ·subst h2;by_cases h3:A=nc
   ·subst h3;have aq:(A==A)=true:=by simp
    go_enter Tryz.func30,Tryz.ntmps30;go_wp2_with fail;refine(NT d Y B _ R T U V c1 c2 c3 c4 (by simp;omega) ag.o ah.o af.o ae.o al aj).mono ?_;rintro e w1 ⟨rfl,hb1⟩;have ai:=Lh (HS.o.block (hb1.block _ (by simp;omega)));have ak:=Lh (HT.o.block (hb1.block _ (by simp)));have J:=Lh (HB.o.trans (hb1.mono (by simp;omega)));clear hb1;obtain⟨-, -, -, -, -, -, -, -, -,c9,au,av,am⟩:=ai.o.c;obtain⟨-, -, -, -, -, -, -, -, -,d9,ap,aw,ar⟩:=ak.o.c;by_cases h4:d=Y
    ·subst h4;have X:=Lh (show decide (d=d)=true from by simp);rw[X.o];by_cases h5:st=G
     ·subst h5;by_cases h6:H=E
      ·subst h6;by_cases h7:O=D
       ·subst h7;by_cases h8:lo=lo'
        ·subst h8;have F:=Lh (show decide ((⟨u,s,A,d,st,H,O,lo⟩:Ev)=⟨u,s,A,d,st,H,O,lo⟩)=true from by simp);go_wp2_with fail;go_ret;exact⟨Ag (by simp),J.o⟩
        ·have F:=Lh (Ij (a:=⟨u,s,A,d,st,H,O,lo⟩) (b:=⟨u,s,A,d,st,H,O,lo'⟩) (fun h=>by injection h;exact h8 (by assumption)));have hb:=D9 h8;clear h8;go_wp2_with fail;go_ret;exact⟨Ag F.o.symm,J.o⟩
       ·have F:=Lh (Ij (a:=⟨u,s,A,d,st,H,O,lo⟩) (b:=⟨u,s,A,d,st,H,D,lo'⟩) (fun h=>by injection h;exact h7 (by assumption)));have hb:=D9 h7;clear h7;go_wp2_with fail;go_ret;exact⟨Ag F.o.symm,J.o⟩
      ·have F:=Lh (Ij (a:=⟨u,s,A,d,st,H,O,lo⟩) (b:=⟨u,s,A,d,st,E,D,lo'⟩) (fun h=>by injection h;exact h6 (by assumption)));have hb:(H==E)=false:=by simpa using h6
       go_wp2_with fail;go_ret;exact⟨Ag F.o.symm,J.o⟩
     ·have F:=Lh (Ij (a:=⟨u,s,A,d,st,H,O,lo⟩) (b:=⟨u,s,A,d,G,E,D,lo'⟩) (fun h=>by injection h;exact h5 (by assumption)));have hb:(st==G)=false:=by simpa using h5
      go_wp2_with fail;go_ret;exact⟨Ag F.o.symm,J.o⟩
    ·have F:=Lh (Ij (a:=⟨u,s,A,d,st,H,O,lo⟩) (b:=⟨u,s,A,Y,G,E,D,lo'⟩) (fun h=>by injection h;exact h4 (by assumption)));have X:=Lh (show decide (d=Y)=false from by simpa using h4);rw[X.o];clear h4;go_wp2_with fail;go_ret;exact⟨Ag F.o.symm,J.o⟩
   ·have F:=Lh (Ij (a:=⟨u,s,A,d,st,H,O,lo⟩) (b:=⟨u,s,nc,Y,G,E,D,lo'⟩) (fun h=>by injection h;exact h3 (by assumption)));have hb:(A==nc)=false:=by simpa using h3
    go_enter Tryz.func30,Tryz.ntmps30;go_wp2_with fail;go_ret;exact⟨Ag F.o.symm,HB.o⟩
  ·have F:=Lh (Ij (a:=⟨u,s,A,d,st,H,O,lo⟩) (b:=⟨u,s',nc,Y,G,E,D,lo'⟩) (fun h=>by injection h;exact h2 (by assumption)));have hb:(s==s')=false:=by simpa using h2
   go_enter Tryz.func30,Tryz.ntmps30;go_wp2_with fail;go_ret;exact⟨Ag F.o.symm,HB.o⟩
 ·have F:=Lh (Ij (a:=⟨u,s,A,d,st,H,O,lo⟩) (b:=⟨u',s',nc,Y,G,E,D,lo'⟩) (fun h=>by injection h;exact h1 (by assumption)));have hb:=D9 h1;clear h1;go_enter Tryz.func30,Tryz.ntmps30;go_wp2_with fail;go_ret;exact⟨Ag F.o.symm,HB.o⟩
theorem MK{α:Type}{xs ys:List α}{n:Nat}(hx:xs.length=n)(hy:ys.length=n)(h: ∀j,j<n->xs[j]?=ys[j]?):xs=ys:=by
 apply List.ext_getElem?
 intro j;rcases Nat.lt_or_ge j n with hj | hj
 ·exact h j hj
 ·rw[xb (by omega),xb (by omega)]
theorem Qc(xs ys:List Ev)(ao bo:Option Addr)(c d:Nat)(B:Nat)(w:World)(F:B<=w.heap.size)(hX:GQ B w ao xs)(hY:GQ B w bo ys)(hn:xs.length<=4611686018427387903):
  Calls Tryz.prog 13 #[jd ao xs.length c,jd bo ys.length d] w fun e w'=>e=jh (je (decide (xs=ys)))/\Below w.heap.size w w':=by
 by_cases hl:xs.length=ys.length
 ·have HX:=Lh hX;have HY:=Lh hY;clear hX hY;obtain⟨n,V⟩: ∃n,n=xs.length:=⟨_,rfl⟩
  rw[<-hl];rw[<-V]at hn hl ⊢;have HN:=Lh V;have HL:=Lh hl;clear V hl;go_enter Tryz.func13,Tryz.ntmps13;go_wp2_with fail;go_loopw [5] (fun iv wr=> ∃k:Nat,k<=n/\iv=ja jb k/\Hid (Below w.heap.size w wr)/\Hid (∀j,j<k->xs[j]?=ys[j]?)) (fun iv _=>n - (intOf iv).toNat)
  case atStart=>exact⟨0,xi _,rfl,Lh (Below.refl _ _),Lh (fun j h=>absurd h (Nat.not_lt_zero _))⟩
  case round=>
   obtain⟨k,hk,rfl,A,HE⟩:=hrel;by_cases Y:k<n
   ·have hx:k<xs.length:=by rw[<-HN.o];exact Y
    have hy:k<ys.length:=by rw[<-HL.o];exact Y
    have af:(k:Int)<n:=by omega
    rcases HX.o with h | ⟨g,o,rfl,hg,Z⟩
    ·rw[h]at hx;simp at hx
    rcases HY.o with h | ⟨g',o',rfl,hg',aa⟩
    ·rw[h]at hy;simp at hy
    obtain⟨M,_,_,D,⟨ax,cx,rfl,J⟩,⟨ay,cy,rfl,O⟩⟩:=Z k _ (xa hx);obtain⟨ac,_,_,U,⟨bx,dx,rfl,R⟩,⟨bY,dy,rfl,E⟩⟩:=aa k _ (xa hy);obtain⟨x,G⟩: ∃x,x=xs[k]:=⟨_,rfl⟩
    obtain⟨y,H⟩: ∃y,y=ys[k]:=⟨_,rfl⟩
    rw[<-G]at M D J O;rw[<-H]at ac U R E;have ag:=Lh G;have ah:=Lh H;have al:=Lh (J.below (A.o.mono F));have am:=Lh (O.below (A.o.mono F));have ap:=Lh (R.below (A.o.mono F));have aj:=Lh (E.below (A.o.mono F));have ab:=Lh M;have aw:=A.o.size;have ae:=D.below hg (A.o.mono F);have ai:=U.below hg' (A.o.mono F);clear G H Z aa M ac D U J O R E;obtain⟨c0,c1,c2,c3,c4,c5,c6,c7,c8,c9,av,au,aA⟩:=ae;obtain⟨d0,d1,d2,d3,d4,d5,d6,d7,d8,d9,aq,az,ar⟩:=ai;go_wp2_with fail;go_still_tail 8,(by kernel_rfl)
    change wpList _ _ _ _ _ wr.drew;go_wp2_with fail;refine(Mk x y B _ ax ay bx bY cx cy dx dy (Nat.le_trans F A.o.drew.size) al.o am.o ap.o aj.o ab.o.ex ab.o.xt).mono ?_;rintro z w1 ⟨rfl,hb1⟩;have X:=Lh (AS A.o.drew hb1);clear hb1;by_cases he:x=y
    ·have ak:=Lh (show ∀j,j<k+1->xs[j]?=ys[j]? from by
      intro j hj;rcases Nat.lt_or_ge j k with h | h
      ·exact HE.o j h
      ·obtain rfl:j=k:=by omega
       rw[xa hx,xa hy,<-ag.o,<-ah.o,he])
     have T:=Lh (show decide (x=y)=true from by simpa using he);rw[T.o];clear he;go_wp2_with fail;go_roundw
     case rel=>exact⟨k+1,by omega,by go_num,X,ak⟩
     case measure=>simp[intOf];omega
    ·have T:=Lh (show decide (x=y)=false from by simpa using he);have HR:=Lh (show decide (xs=ys)=false from by
      rw[decide_eq_false_iff_not];intro e;exact he (by rw[ag.o,ah.o];simp[e]))
     rw[T.o];clear he;go_wp2_with fail;go_ret;exact⟨Ag HR.o.symm,X.o⟩
   ·have af: ¬(k:Int)<n:=by omega
    have T:=Lh (show decide (xs=ys)=true from by
     rw[decide_eq_true_iff];exact MK HN.o.symm HL.o.symm (fun j hj=>HE.o j (by omega)))
    go_wp2_with fail;go_ret;exact⟨Ag T.o.symm,A.o⟩
 ·have T:=Lh (show decide (xs=ys)=false from by
   rw[decide_eq_false_iff_not];intro e;exact hl (by rw[e]))
  have hb:((xs.length:Int) !=ys.length)=true:=by simp;omega
  go_enter Tryz.func13,Tryz.ntmps13;go_wp2_with fail;go_ret;exact⟨Ag T.o.symm,Below.refl _ _⟩
structure Nt where
 kind:Int
 uid:ByteArray
 seq:Int
 deriving DecidableEq
def Xa(B:Nat)(w:World)(ao:Option Addr)(ns:List Nt):Prop:=ns=[]∨ ∃b o,ao=some ⟨b,o,none⟩/\b<B/\ ∀(j:Nat) (n:Nt),ns[j]?=some n->w.cell? ⟨b,o+j*3,none⟩=some (ja jb n.kind)/\w.cell? ⟨b,o+j*3+1,none⟩=some (jc n.uid)/\w.cell? ⟨b,o+j*3+2,none⟩=some (ja jb n.seq)
def Cw(v:Int)(es:List Ev):Bool:=!decide (v<0∨64<v) && !decide (256<(es.length:Int)) && decide (Bn v none es=0)
theorem Uj(n:ByteArray)(v:Int)(es:List Ev)(hc:Tt.code n.data.toList=true):decide (Aq n v es=0)=Cw v es:=by
 unfold Aq Cw;rw[if_neg (by rw[hc];simp)];by_cases w:v<0∨64<v
 ·rw[if_pos w];simp[w]
 ·rw[if_neg w];by_cases A:256<(es.length:Int)
  ·rw[if_pos A];simp[A]
  ·rw[if_neg A];simp[w,A]
theorem ON(v s:Int)(es:List Ev)(ao:Option Addr)(c:Nat)(B:Nat)(w:World)(H:B<=w.heap.size)(G:GQ B w ao es)(hn:es.length<=4611686018427387903):
  Calls Tryz.prog 44 #[.agg #[ja jb v,ja jb s,jd ao es.length c]] w fun e w'=>e=jh (je (Cw v es))/\Below w.heap.size w w':=by
 have D:=Aa w (ji #[ja jb v,ja jb s,jd ao es.length c] 47);have J:=Lh D;have M:=Lh (G.below (D.mono H));clear G D;go_enter Tryz.func44,Tryz.ntmps44;go_wp2_with fail;refine(Gq ⟨#[114,101,97,100,101,114]⟩ v es ao c B _ (by simp;omega) M.o hn).mono ?_;rintro e O ⟨rfl,hb1⟩;have E:=Lh (J.o.trans (hb1.mono (by simp;try omega)));clear hb1;have F:=Lh (Uj ⟨#[114,101,97,100,101,114]⟩ v es (by decide));by_cases h:Aq ⟨#[114,101,97,100,101,114]⟩ v es=0
 ·have A:=Lh (show Cw v es=true from by rw[<-F.o];simpa using h);rw[h];clear h;go_wp2_with fail;go_ret;exact⟨Ag A.o.symm,E.o⟩
 ·have A:=Lh (show Cw v es=false from by rw[<-F.o];simpa using h);have hb:(Aq ⟨#[114,101,97,100,101,114]⟩ v es==0)=false:=by simpa using h
  clear h;go_wp2_with fail;go_ret;exact⟨Ag (by rw[A.o]),E.o⟩
def Kj(B:Nat)(w:World)(t:Ev × Value × Value):Prop:=ND t.1/\NC B w t.2.1 t.1.days.ex/\NC B w t.2.2 t.1.days.xt
theorem Kj.below{B:Nat}{w w':World}{t:Ev × Value × Value}(h:Kj B w t)(A:Below B w w'):Kj B w' t:=⟨h.1,h.2.1.below A,h.2.2.below A⟩
theorem Kj.mono{B A:Nat}{w:World}{t:Ev × Value × Value}(h:Kj B w t)(D:B<=A):Kj A w t:=⟨h.1,h.2.1.mono D,h.2.2.mono D⟩
structure Fv (B:Nat) (w:World) (ao:Option Addr) (ts:List (Ev × Value × Value)):Prop where
 at':ts=[]∨ ∃b o,ao=some ⟨b,o,none⟩/\b<B/\ ∀(j:Nat) (u:Value),(Ap ts)[j]?=some u->w.cell? ⟨b,o+j,none⟩=some u
 ref: ∀t∈ts,Kj B w t
theorem Fv.below{B:Nat}{w w':World}{ao:Option Addr}{ts:List (Ev × Value × Value)}(h:Fv B w ao ts)(A:Below B w w'):Fv B w' ao ts:=by
 refine⟨?_,fun t ht=>(h.ref t ht).below A⟩;rcases h.at' with h | ⟨b,o,ha,hb,hc⟩
 ·exact .inl h
 ·exact .inr ⟨b,o,ha,hb,fun j u hj=>(A.cell (p:=⟨b,o+j,none⟩) hb).trans (hc j u hj)⟩
theorem Fv.mono{B A:Nat}{w:World}{ao:Option Addr}{ts:List (Ev × Value × Value)}(h:Fv B w ao ts)(D:B<=A):Fv A w ao ts:=by
 refine⟨?_,fun t ht=>(h.ref t ht).mono D⟩;rcases h.at' with h | ⟨b,o,ha,hb,hc⟩
 ·exact .inl h
 ·exact .inr ⟨b,o,ha,by omega,hc⟩
theorem Fv.nil(B:Nat)(w:World)(ao:Option Addr):Fv B w ao []:=⟨.inl rfl,fun t h=>by cases h⟩
theorem AR(a b:List (Ev × Value × Value)):Ap (a++b)=Ap a++Ap b:=by unfold Ap;simp
theorem EG(ts:List (Ev × Value × Value))(k:Nat)(hk:k<=ts.length):Ap (ts.take k)=(Ap ts).take (k*13):=by
 have h:Ap ts=Ap (ts.take k)++Ap (ts.drop k):=by rw[<-AR,xg]
 rw[h,List.take_left' (by rw[Ea,xk,Nat.min_eq_left hk])]
theorem EH(ts:List (Ev × Value × Value))(k:Nat)(hk:k<=ts.length):Ap (ts.drop k)=(Ap ts).drop (k*13):=by
 have h:Ap ts=Ap (ts.take k)++Ap (ts.drop k):=by rw[<-AR,xg]
 rw[h,List.drop_left' (by rw[Ea,xk,Nat.min_eq_left hk])]
theorem Fv.take{B:Nat}{w:World}{ao:Option Addr}{ts:List (Ev × Value × Value)}(h:Fv B w ao ts)(k:Nat)(hk:k<=ts.length):Fv B w ao (ts.take k):=by
 refine⟨?_,fun t ht=>h.ref t (List.mem_of_mem_take ht)⟩;rcases h.at' with h | ⟨b,o,ha,hb,hc⟩
 ·exact .inl (by rw[h];simp)
 ·refine .inr ⟨b,o,ha,hb,fun j u hj=>hc j u ?_⟩;rw[EG ts k hk,List.getElem?_take]at hj;split at hj
  ·exact hj
  ·cases hj
theorem Fv.drop{B:Nat}{w:World}{b o:Nat}{ts:List (Ev × Value × Value)}(h:Fv B w (some ⟨b,o,none⟩) ts)(k:Nat)(hk:k<=ts.length):Fv B w (some ⟨b,o+k*13,none⟩) (ts.drop k):=by
 refine⟨?_,fun t ht=>h.ref t (List.mem_of_mem_drop ht)⟩;rcases h.at' with h | ⟨D,A,ha,hb,hc⟩
 ·exact .inl (by rw[h];simp)
 ·cases ha;refine .inr ⟨b,o+k*13,rfl,hb,fun j u hj=>?_⟩;rw[EH ts k hk,List.getElem?_drop]at hj;rw[xe];exact hc _ u hj
theorem Mj{w:World}{b o:Nat}{ts:List (Ev × Value × Value)}(h: ∀(j:Nat) (u:Value),(Ap ts)[j]?=some u->w.cell? ⟨b,o+j,none⟩=some u)(j:Nat)(t:Ev × Value × Value)(ht:ts[j]?=some t):Ps b (o+j*13) t.1 t.2.1 t.2.2 w:=by
 have hc: ∀i u,i<13->(Ae t.1 t.2.1 t.2.2).toList[i]?=some u->w.cell? ⟨b,o+j*13+i,none⟩=some u:=fun i u hi hu=>by
  rw[xe];exact h (j*13+i) u (by rw[Eb ts j i t ht hi];exact hu)
 refine⟨?_,?_,?_,?_,?_,?_,?_,?_,?_,?_,?_,?_,?_⟩
 ·exact hc 0 _ (by omega) rfl
 ·exact hc 1 _ (by omega) rfl
 ·exact hc 2 _ (by omega) rfl
 ·exact hc 3 _ (by omega) rfl
 ·exact hc 4 _ (by omega) rfl
 ·exact hc 5 _ (by omega) rfl
 ·exact hc 6 _ (by omega) rfl
 ·exact hc 7 _ (by omega) rfl
 ·exact hc 8 _ (by omega) rfl
 ·exact hc 9 _ (by omega) rfl
 ·exact hc 10 _ (by omega) rfl
 ·exact hc 11 _ (by omega) rfl
 ·exact hc 12 _ (by omega) rfl
theorem Fv.evs{B:Nat}{w:World}{ao:Option Addr}{ts:List (Ev × Value × Value)}(h:Fv B w ao ts):GQ B w ao (ts.map (·.1)):=by
 rcases h.at' with h | ⟨b,o,ha,hb,hc⟩
 ·exact .inl (by rw[h];rfl)
 ·refine .inr ⟨b,o,ha,hb,fun j e hj=>?_⟩;obtain⟨t,ht,he⟩: ∃t,ts[j]?=some t/\t.1=e:=by
   rw[List.getElem?_map]at hj;cases h2:ts[j]? with
   | none=>rw[h2]at hj;cases hj
   | some t=>rw[h2]at hj;exact⟨t,rfl,by simpa using hj⟩
  subst he;obtain⟨r1,r2,r3⟩:=h.ref t (List.mem_of_getElem? ht);exact⟨r1,t.2.1,t.2.2,Mj hc j t ht,r2,r3⟩
theorem Fv.one{B:Nat}{w:World}{ao:Option Addr}{ts:List (Ev × Value × Value)}(h:Fv B w ao ts): ∀u∈Ap ts,u.oneCell'=true:=by
 intro u hu;unfold Ap at hu;obtain⟨t,ht,A⟩:=List.mem_flatMap.1 hu;obtain⟨_,⟨D,F,e1,_⟩,⟨G,E,e2,_⟩⟩:=h.ref t ht;rw[e1,e2]at A;exact CB _ _ _ _ _ _ _ u A
theorem A5{P:Program}{w:World}{ops:Array Oper}{rest:List Oper}{o:Oper}{a:Act}{Q:Exit->Act->World->Prop}(M:o.guard=none)(s x:Operand)(t:TypeId)
  (ho:o.op=.call { callee:=.builtin .append,args:=#[s,x],argTypes:=#[t,t] })
  (base:Nat) (i:TypeInfo) (z:Value) (A:Nat) (ht:P.underlying t=some (.slice 61)) (hi:P.info? 61=some i) (hz:i.zero=some z)
  (G:i.size=13) (R:i.bytes=A) (O:z.cells.size=13)
  (v:Value) (n:Nat) (xs:List Value) (hs:a.eval s=v) (D:w.ownsRow base 61 13 v n xs)
  (B:Nat) (ao:Option Addr) (c:Nat) (ts:List (Ev × Value × Value)) (hx:a.eval x=jd ao ts.length c) (E:Fv B w ao ts) (J:ao=none->c=0)
  (T:n+ts.length<=maxLen) (F:(n+ts.length)*A<=140737488355328) (H:base<=w.heap.size)
  (h: ∀v' w',w'.ownsRow base 61 13 v' (n+ts.length) (xs++Ap ts)->w.grownBy w' v.ownBlock->(v'.ownBlock=v.ownBlock∨v'.ownBlock=some w.heap.size)->wpList P ops Q rest (a.put o.dst v') w'):
  wpList P ops Q (o::rest) a w:=by
 cases ao with
 | none=>
  have hn:ts=[]:=by
   rcases E.at' with h | ⟨b,o,ha,_⟩
   ·exact h
   ·cases ha
  subst hn;rw[J rfl]at hx;exact wpList_append_own_none M s x t ho base 61 i 13 ht hi v n xs hs D hx (h v w (by simpa[Ap]using D) (World.grownBy.refl w _) (.inl rfl))
 | some ad=>
  refine wpList_append_own_at w M s x t ho base 61 i z 13 A ht hi hz G R O (by decide) v n xs hs D ad ts.length c (Ap ts) hx (Ea ts) (fun j u hj=>?_) E.one T F H (fun v' w' a1 a2 _ a4=>h v' w' a1 a2 a4);rcases E.at' with h | ⟨b,o,ha,_,hc⟩
  ·rw[h]at hj;simp[Ap]at hj
  ·cases ha;rw[Addr.add_lit];exact hc j u hj
def A4(a b:ByteArray):Bool:=Op.bytesLess a.toList b.toList
def Cx(t:Ev × Value × Value):List (Ev × Value × Value)->List (Ev × Value × Value)
 | []=>[t]
 | s::r=>if A4 s.1.uid t.1.uid=true then s::Cx t r else if s.1.uid=t.1.uid then t::r else t::s::r
def Cl(e:Ev):List Ev->List Ev
 | []=>[e]
 | s::r=>if A4 s.uid e.uid=true then s::Cl e r else if s.uid=e.uid then e::r else e::s::r
theorem EP(t:Ev × Value × Value): ∀ts:List (Ev × Value × Value),(Cx t ts).map (·.1)=Cl t.1 (ts.map (·.1))
 | []=>rfl
 | s::r=>by
  unfold Cx;rw[xl];unfold Cl;by_cases w:A4 s.1.uid t.1.uid=true
  ·rw[if_pos w,if_pos w,xl,EP t r]
  ·rw[if_neg w,if_neg w];by_cases A:s.1.uid=t.1.uid
   ·rw[if_pos A,if_pos A];rfl
   ·rw[if_neg A,if_neg A];rfl
def Gm(t:Ev × Value × Value)(ts:List (Ev × Value × Value))(k:Nat):Prop:=∀j s,j<k->ts[j]?=some s->A4 s.1.uid t.1.uid=true
theorem IZ(t:Ev × Value × Value): ∀(ts:List (Ev × Value × Value)),Gm t ts ts.length->Cx t ts=ts++[t]
 | [],_=>rfl
 | s::r,h=>by
  unfold Cx;rw[if_pos (h 0 s (by simp) (by simp))];rw[IZ t r (fun j u hj hu=>h (j+1) u (by simp;omega) (by simpa using hu))];rfl
theorem G0(t:Ev × Value × Value): ∀(ts:List (Ev × Value × Value)) (k:Nat) (s:Ev × Value × Value),Gm t ts k->ts[k]?=some s->A4 s.1.uid t.1.uid=false->s.1.uid=t.1.uid->Cx t ts=ts.take k++t::ts.drop (k+1)
 | [],_,_,_,h,_,_=>by simp at h
 | s0::r,0,s,_,h,hl,he=>by
  simp at h;subst h;unfold Cx;rw[if_neg (by rw[hl];simp),if_pos he];rfl
 | s0::r,k+1,s,ha,h,hl,he=>by
  unfold Cx;rw[if_pos (ha 0 s0 (by omega) (by simp))];rw[G0 t r k s (fun j u hj hu=>ha (j+1) u (by omega) (by simpa using hu)) (by simpa using h) hl he];rfl
theorem IX(t:Ev × Value × Value): ∀(ts:List (Ev × Value × Value)) (k:Nat) (s:Ev × Value × Value),Gm t ts k->ts[k]?=some s->A4 s.1.uid t.1.uid=false-> ¬s.1.uid=t.1.uid->Cx t ts=ts.take k++t::ts.drop k
 | [],_,_,_,h,_,_=>by simp at h
 | s0::r,0,s,_,h,hl,he=>by
  simp at h;subst h;unfold Cx;rw[if_neg (by rw[hl];simp),if_neg he];rfl
 | s0::r,k+1,s,ha,h,hl,he=>by
  unfold Cx;rw[if_pos (ha 0 s0 (by omega) (by simp))];rw[IX t r k s (fun j u hj hu=>ha (j+1) u (by omega) (by simpa using hu)) (by simpa using h) hl he];rfl
