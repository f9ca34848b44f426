/- Blocks and rows in memory: what a store, an append and a draw of the dice leave as it was. No function of the program in sight. Condition: none. A buffer's put once more: what else lies in memory is kept, the buffer's own row apart. Dr in memory; feed.Valid and timetableref40.Valid: their contracts. timetablemore.Event: its contract: an event without fault in new memory, with bounds. Events in a row of their own, as a drawn feed holds them. No function of the program in sight. Condition: none. A region that draws its order, by an invariant: one goal for each operation. No function of the program in sight. Condition: none. A region that draws its order and ends in one operation that waits for all others: an invariant for those before it. No function of the program in sight. Condition: none. Regions that only make blocks; an event's block filled anew. No function of the program in sight. Condition: none. subscriber.told, timetableref41.kind, timetableref40.Find: their contracts. -/
import Derived.Test.YtegjgjgoodekiaaGreatDoorQk6
import Derived.Test.YtegjgjgoodekiaaGreatDoorQk7
import Derived.Maps.AppendAt
import Derived.Deep.RegionHeld3
import Derived.WalkLawsBesides
import Derived.Orders
import Derived.Deep.DeepCutAuto
import Derived.Laws.AppendOwnNone
open Go.Value renaming int->ja,string->jc,slice->jd,bool->je,pointer->jf,tuple->jg
open Go.IntKind renaming i64->jb
open Go.Ending renaming returned->jh
open Go.Obj renaming cells->ji
open Array renaming getElem?_eq_some_iff->xa
open List renaming eq_nil_of_length_eq_zero->xb,getElem?_eq_getElem->xe,mem_cons_of_mem->xg,mem_cons_self->xj,mem_cons->xk
open Nat renaming lt_of_lt_of_le->xc,le_refl->xd,le_trans->xh,zero_le->xi
open Bool renaming and_eq_true->xf
set_option maxRecDepth 100000
set_option maxHeartbeats 40000000
namespace Go.Proofs.YtegjgjgoodekiaaGreatDoor
open Go.RowKit
def Af(g:Nat)(cs:Array Value)(ty:TypeId)(w:World):Prop:=w.heap[g]?=some (ji cs ty (0,0))
theorem Af.lt{g:Nat}{cs:Array Value}{ty:TypeId}{w:World}(h:Af g cs ty w):g<w.heap.size:=(xa.1 h).1
theorem Af.new(w:World)(cs:Array Value)(ty:TypeId):Af w.heap.size cs ty (w.alloc (ji cs ty)):=heap_alloc_new w _
theorem Af.alloc{g:Nat}{cs:Array Value}{ty:TypeId}{w:World}(h:Af g cs ty w)(o:Obj):Af g cs ty (w.alloc o):=(Lib.alloc_old w o g h.lt).trans h
theorem Af.cell{g:Nat}{cs:Array Value}{ty:TypeId}{w:World}(h:Af g cs ty w)(i:Nat):w.cell? ⟨g,i,none⟩=cs[i]?:=by rw[Lib.cell_of_heap h]
theorem Af.frozen{g:Nat}{cs:Array Value}{ty:TypeId}{w:World}(h:Af g cs ty w)(i:Nat):w.frozen? ⟨g,i,none⟩=false:=by simp[World.frozen?,show w.heap[g]?=_ from h]
theorem Af.set{g:Nat}{cs:Array Value}{ty:TypeId}{w:World}(h:Af g cs ty w)(i:Nat)(u:Value):Af g (cs.setIfInBounds i u) ty (w.setCell ⟨g,i,none⟩ u):=by
 unfold Af at h ⊢;simp[World.setCell,Array.getElem?_modify,h]
theorem Af.set_other{g g':Nat}{cs:Array Value}{ty:TypeId}{w:World}(h:Af g cs ty w)(hne:g≠g')(i:Nat)(u:Value):Af g cs ty (w.setCell ⟨g',i,none⟩ u):=
 (Below.heap_setCell _ _ _ _ hne).trans h
theorem Af.only{b g:Nat}{cs:Array Value}{ty:TypeId}{w w':World}(h:Af g cs ty w)(ho:B7 b w w')(hne:g≠b):Af g cs ty w':=(ho.2.2.2.2 g hne).trans h
theorem Af.but{b g:Nat}{cs:Array Value}{ty:TypeId}{w w':World}(h:Af g cs ty w)(ho:AO b w.heap.size w w')(hne:g≠b):Af g cs ty w':=(ho.block g h.lt hne).trans h
theorem Af.below{B g:Nat}{cs:Array Value}{ty:TypeId}{w w':World}(h:Af g cs ty w)(ho:Below B w w')(A:g<B):Af g cs ty w':=(ho.block g A).trans h
theorem Af.draw{g:Nat}{cs:Array Value}{ty:TypeId}{w:World}(h:Af g cs ty w):Af g cs ty w.drew:=h
theorem Af.grown{g:Nat}{cs:Array Value}{ty:TypeId}{w w':World}(h:Af g cs ty w){B n k:Nat}{e:TypeId}{v:Value}{xs:List Value}(A:w.ownsRow B e k v n xs)(hg:w.grownBy w' v.ownBlock)(D:ty≠e):Af g cs ty w':=by
 refine(hg.block g h.lt ?_).trans h;intro e1;rcases A.2 with⟨rfl,_⟩ | ⟨g',cap,cur,rfl,_,hgb,_⟩
 ·cases e1
 ·simp only[Value.ownBlock,Option.some.injEq]at e1;subst e1;rw[show w.heap[g]?=_ from h]at hgb;simp only[Option.some.injEq,Obj.cells.injEq]at hgb;exact D hgb.2.1
theorem Af.ne{g g':Nat}{cs A:Array Value}{ty ty':TypeId}{w:World}(h:Af g cs ty w)(D:Af g' A ty' w)(hne:ty≠ty'):g≠g':=by
 intro e;subst e;have D:some (Obj.cells cs ty (0,0))=some (ji A ty' (0,0)):=(show w.heap[g]?=_ from h).symm.trans D;simp only[Option.some.injEq,Obj.cells.injEq]at D;exact hne D.2.1
theorem A7{w:World}{B k:Nat}{e:TypeId}{v:Value}{n:Nat}{xs:List Value}(h:w.ownsRow B e k v n xs){g:Nat}{cs:Array Value}{ty:TypeId}(hg:Af g cs ty w)(A:ty≠e)(i:Nat)(u:Value):(w.setCell ⟨g,i,none⟩ u).ownsRow B e k v n xs:=by
 refine⟨h.1,?_⟩;rcases h.2 with D | ⟨g',cap,cur,r1,r2,r3,r4⟩
 ·exact .inl D
 ·exact .inr ⟨g',cap,cur,r1,r2,(Below.heap_setCell _ _ _ _ (Ne.symm (hg.ne (ty':=e) r3 A))).trans r3,r4⟩
theorem AU{w:World}{B G k H:Nat}{e E:TypeId}{v v':Value}{n n':Nat}{xs A:List Value}(h:w.ownsRow B e k v n xs)(F:w.ownsRow G E H v' n' A)(D:e≠E):v.ownBlock=none∨v.ownBlock≠v'.ownBlock:=by
 rcases h.2 with⟨rfl,_⟩ | ⟨g,cap,cur,rfl,_,hgb,_⟩
 ·exact .inl rfl
 ·right
  rcases F.2 with⟨rfl,_⟩ | ⟨g',cap',cur',rfl,_,hgb',_⟩
  ·simp[Value.ownBlock]
  ·simp only[Value.ownBlock,ne_eq,Option.some.injEq];exact Af.ne (w:=w) hgb hgb' D
theorem Pl{b B g i:Nat}{w A:World}{u:Value}(h:AO b B w A)(hg:B<=g):AO b B w (A.setCell ⟨g,i,none⟩ u):=h.trans (AO.of_below ((Below.refl _ A).setCell hg _))
theorem Hi{b B:Nat}{w A:World}(h:AO b B w A)(D:B<=A.heap.size)(o:Obj):AO b B w (A.alloc o):=h.trans (AO.of_below ((Below.refl _ A).alloc D _))
theorem SY{b B:Nat}{w A w2:World}(h:AO b B w A)(ho:B7 b A w2):AO b B w w2:=h.trans ho.but
theorem Ba{b B:Nat}{w A w2:World}(h:AO b B w A)(k:AO b A.heap.size A w2)(D:B<=A.heap.size):AO b B w w2:=h.trans ⟨k.os,k.tape,k.output,k.size,fun i hi hne=>k.block i (xc hi D) hne⟩
theorem D4{b B n k:Nat}{w D w2:World}{e:TypeId}{v:Value}{xs:List Value}(h:AO b B w D)(A:D.ownsRow B e k v n xs)(E:B<=D.heap.size)(hg:D.grownBy w2 v.ownBlock):AO b B w w2:=
 h.trans (AO.of_below ((Below.refl _ D).grown hg E (fun k hk=>(A.lt k hk).1)))
theorem Ng{b g i:Nat}{w:World}{u:Value}(h:BJ b w)(hg:b<g):BJ b (w.setCell ⟨g,i,none⟩ u):=h.kept (Nat.lt_succ_self b) ((Below.refl _ w).setCell hg _)
theorem Ou{b:Nat}{w:World}(h:BJ b w)(o:Obj):BJ b (w.alloc o):=h.kept h.lt (Aa _ _)
theorem Ot{b B n k:Nat}{w w2:World}{e:TypeId}{v:Value}{xs:List Value}(h:BJ b w)(A:w.ownsRow B e k v n xs)(hb:b<B)(D:B<=w.heap.size)(hg:w.grownBy w2 v.ownBlock):BJ b w2:=
 h.kept hb ((Below.refl _ w).grown hg D (fun k hk=>(A.lt k hk).1))
theorem Am{b B k:Nat}{w w':World}{e:TypeId}{v:Value}{n:Nat}{xs:List Value}(h:w.ownsRow B e k v n xs)(hb:b<B)(ho:AO b w.heap.size w w'):w'.ownsRow B e k v n xs:=by
 refine⟨h.1,?_⟩;rcases h.2 with A | ⟨g,cap,cur,r1,r2,r3,r4⟩
 ·exact .inl A
 ·exact .inr ⟨g,cap,cur,r1,r2,(ho.block g (xa.1 r3).1 (by omega)).trans r3,r4⟩
def setAll(w:World)(g:Nat):Nat->List Value->World
 | _,[]=>w
 | o,v::r=>setAll (w.setCell ⟨g,o,none⟩ v) g (o+1) r
theorem Af.puts{g:Nat}{ty:TypeId}: ∀(E pre D A:List Value) (w:World),Af g (pre++D++A).toArray ty w->D.length=E.length->Af g (pre++E++A).toArray ty (setAll w g pre.length E)
 | [],pre,D,A,w,h,hl=>by
  rw[xb hl]at h;exact h
 | v::r,pre,[],A,w,h,hl=>by cases hl
 | v::r,pre,m::D,A,w,h,hl=>by
  have F:=h.set pre.length v;have e:(pre++(m::D)++A).toArray.setIfInBounds pre.length v=((pre++[v])++D++A).toArray:=by
   simp
  rw[e]at F;have G:=Af.puts r (pre++[v]) D A _ F (by simpa using hl);rw[show(pre++[v]).length=pre.length+1 by simp]at G;show Af g _ ty (setAll (w.setCell ⟨g,pre.length,none⟩ v) g (pre.length+1) r)
  simpa using G
theorem A0{B k:Nat}{e:TypeId}{v:Value}{n:Nat}{xs:List Value}{g:Nat}{ty:TypeId}(A:ty≠e): ∀(D:List Value) (o:Nat) (w:World) (cs:Array Value),w.ownsRow B e k v n xs->Af g cs ty w->(setAll w g o D).ownsRow B e k v n xs
 | [],_,_,_,h,_=>h
 | u::r,o,_,_,h,hg=>A0 A r (o+1) _ _ (A7 h hg A o u) (hg.set o u)
theorem Er{b B g:Nat}(hg:B<=g){w:World}: ∀(D:List Value) (o:Nat) (A:World),AO b B w A->AO b B w (setAll A g o D)
 | [],_,_,h=>h
 | _::r,o,_,h=>Er hg r (o+1) _ (Pl h hg)
theorem Ik{b g:Nat}(hg:b<g): ∀(A:List Value) (o:Nat) (w:World),BJ b w->BJ b (setAll w g o A)
 | [],_,_,h=>h
 | _::r,o,_,h=>Ik hg r (o+1) _ (Ng h hg)
theorem Es{B g:Nat}(hg:B<=g){w:World}: ∀(D:List Value) (o:Nat) (A:World),Below B w A->Below B w (setAll A g o D)
 | [],_,_,h=>h
 | _::r,o,_,h=>Es hg r (o+1) _ (h.setCell hg _)
def Ah(lo:Nat)(w:World)(v:Value)(xs:List Int):Prop:=w.ownsRow lo 3 1 v xs.length (xs.map (Value.int .i64))
theorem Ah.nil(lo:Nat)(w:World):Ah lo w (jd none 0 0) []:=World.ownsRow_nil _ _ _ _
theorem Ah.slice{lo:Nat}{w:World}{v:Value}{xs:List Int}(h:Ah lo w v xs): ∃ao c,v=jd ao xs.length c:=by
 rcases h.2 with⟨hv,h0⟩ | ⟨g,cap,cur,hv,_⟩
 ·exact⟨none,0,by rw[hv,h0]⟩
 ·exact⟨_,_,hv⟩
theorem Ah.ints{lo:Nat}{w:World}{v:Value}{xs:List Int}(h:Ah lo w v xs): ∃ao c,v=jd ao xs.length c/\Ints w.heap.size w ao xs:=by
 rcases h.2 with⟨hv,h0⟩ | ⟨g,cap,cur,hv,r2,r3,r4,r5,_⟩
 ·refine⟨none,0,by rw[hv,h0],fun j x hj=>?_⟩;rw[xb h0]at hj;simp at hj
 ·refine⟨_,cap,hv,fun j x hj=>⟨_,rfl,(xa.1 r3).1,?_⟩⟩;subst hv;exact h.cells (g:=g) rfl j _ (by simp[hj])
theorem Ah.snoc{lo:Nat}{w:World}{v:Value}{xs:List Int}{x:Int}(h:w.ownsRow lo 3 1 v (xs.length+1) (xs.map (Value.int .i64)++[ja jb x])):Ah lo w v (xs++[x]):=by
 unfold Ah;simpa using h
def B4(b:Nat)(w w':World):Prop:=∀g cs ty,ty≠9->g≠b->Af g cs ty w->Af g cs ty w'
theorem B4.trans{b:Nat}{w w' A:World}(h:B4 b w w')(k:B4 b w' A):B4 b w A:=fun g cs ty D E F=>k g cs ty D E (h g cs ty D E F)
theorem B4.made{b:Nat}{w w':World}(h:Below w.heap.size w w'):B4 b w w':=fun _ _ _ _ _ A=>A.below h A.lt
theorem TG{b B n g:Nat}{v u:Value}{ys:List Value}{x:Value}{w w' D:World}{cs:Array Value}{ty:TypeId}(h:Af g cs ty w)(ht:ty≠9)(hne:g≠b)(hb:Below w.drew.heap.size w.drew w')(A:w'.ownsRow B 9 1 v n ys)
  (hg:(w'.alloc (ji #[u] 9)).grownBy D v.ownBlock):Af g cs ty (D.setCell ⟨b,0,none⟩ x):=
 ((((h.draw).below hb h.draw.lt).alloc _).grown (A.alloc _) hg ht).set_other hne 0 x
theorem RD(b B:Nat)(xs A:List ByteArray)(O U c:Nat)(w:World)(hb:EC b B xs w)(hB:B<=w.heap.size)
  (hp: ∀(j:Nat) x,A[j]?=some x->w.cell? ⟨O,U+j,none⟩=some (jc x)) (Y:O<w.heap.size) (hc:A.length<=c) (hn:A.length<=1000)
  (H:(A.map (·.data.toList)).flatten.length<=140737488355328) (hx:xs.length<=1000000):
  Calls Tryz.prog 108 #[jf (some ⟨b,0,none⟩),jd (some ⟨O,U,none⟩) A.length c] w fun e w'=>e=jh (jg #[])/\EC b B (xs++[⟨((A.map (·.data.toList)).flatten).toArray⟩]) w'/\AO b B w w'/\B4 b w w':=by
 obtain⟨i1,hj,ab,aa,ac⟩:=info_parts Dn;obtain⟨v,F,G⟩:=hb.ex;have T:=hb.lt;have HJ:Hid (∀W:World,(∀(j:Nat) x,A[j]?=some x->W.cell? ⟨O,U+j,none⟩=some (jc x))->O<W.heap.size->Calls Tryz.prog 138 #[jd (some ⟨O,U,none⟩) A.length c,jc ⟨#[]⟩] W fun e w'=>e=jh (jc ⟨((A.map (·.data.toList)).flatten).toArray⟩)/\Below W.heap.size W w'):=by
  intro W h1 h2;have:=Tryz.strings_Join O U c A ⟨#[]⟩ W h1 h2 (by omega) hc (by rw[show(⟨#[]⟩:ByteArray).data.toList=[]from rfl,join_nil];exact H);rw[show(⟨#[]⟩:ByteArray).data.toList=[]from rfl,join_nil]at this;exact this
 have HP:=Lh hp;have V:=Lh G;have Z:=Lh F;have X:b<w.heap.size:=(xa.1 F).1;have c0:w.cell? ⟨b,0,none⟩=some v:=by rw[Lib.cell_of_heap F];rfl
 have f0:w.frozen? ⟨b,0,none⟩=false:=Lib.frozen_of_heap F 0;obtain⟨L,hL⟩: ∃L,L=(⟨((A.map (·.data.toList)).flatten).toArray⟩:ByteArray):=⟨_,rfl⟩
 rw[<-hL]at HJ;have ae:=Lh hL;clear hp G F H hL;go_enter Tryz.func108,Tryz.ntmps108;go_wp2_with fail;go_region_law (first | (refine step_append_lies _ (by rfl) _ _ _ (by rfl) B 9 i1 _ 1 16 Tryz.underlying134 hj ab aa ac rfl (by omega) v xs.length (xs.map Value.string) (by rfl) (D.alloc _) ⟨w'.heap.size,0,none⟩ 1 1 [jc L] (by rfl) (by rfl) (Bq _ _ _) (by simp[Value.oneCell']) (by omega) (by unfold maxLen;omega) (by omega) (by simp;omega) (w'.heap.size+1) (by simp) ?_;intro gg cap w1 R E ag af;obtain⟨cA,fA⟩:=RC J D T E) | (go_simp;go_at_call 138;refine(HJ.o _ (by simpa using HP.o) (by simpa using Y)).mono ?_;rintro e w' ⟨rfl,M⟩;obtain⟨D,J,cJ,fJ,sJ,oJ⟩:=RE V.o Z.o X M hB))
 all_goals
  go_end0
  refine⟨rfl,?_,?_,?_⟩
  ·rw[<-ae.o];exact TF J.o D T E R
  ·exact TE (b:=b) M D T hB E
  ·exact fun g cs ty ht hne h=>TG h ht hne M D E
theorem AK(b B F:Nat)(xs w:List ByteArray)(W:World)(E:F=W.heap.size)(hb:EC b B xs W)(M:B<=W.heap.size)(hn:w.length<=1000)
  (D:(w.map (·.data.toList)).flatten.length<=140737488355328) (hx:xs.length<=1000000):
  Calls Tryz.prog 108 #[jf (some ⟨b,0,none⟩),jd (some ⟨F,0,none⟩) w.length w.length] (W.alloc (ji (w.map Value.string).toArray 9)) fun e w'=>e=jh (jg #[])/\EC b B (xs++[str (w.map (·.data.toList)).flatten]) w'/\AO b B W w'/\B4 b W w':=by
 subst E;have A:Below W.heap.size W (W.alloc (ji (w.map Value.string).toArray 9)):=(Below.refl _ _).alloc (xd _) _;refine(RD b B xs w W.heap.size 0 w.length _ (hb.kept A) (by simp;omega) ?_ (by simp) (xd _) hn D hx).mono ?_
 ·intro j x hj;rw[Nat.zero_add,World.cell?_alloc_at _ _ _ _ rfl];simp[hj]
 ·rintro e w' ⟨G,O,J,H⟩;exact⟨G,O,(AO.of_below (A.mono M)).trans J,(B4.made A).trans H⟩
def NC(B:Nat)(w:World)(v:Value)(xs:List Int):Prop:=∃ao c,v=jd ao xs.length c/\Ints B w ao xs
theorem NC.below{B:Nat}{w w':World}{v:Value}{xs:List Int}(h:NC B w v xs)(D:Below B w w'):NC B w' v xs:=by
 obtain⟨ao,c,hv,A⟩:=h;exact⟨ao,c,hv,A.below D⟩
theorem NC.mono{B A:Nat}{w:World}{v:Value}{xs:List Int}(h:NC B w v xs)(E:B<=A):NC A w v xs:=by
 obtain⟨ao,c,hv,D⟩:=h;exact⟨ao,c,hv,D.mono E⟩
theorem Ps.below{B b p:Nat}{e:Ev}{v v':Value}{w w':World}(h:Ps b p e v v' w)(hb:b<B)(H:Below B w w'):Ps b p e v v' w':=by
 have k: ∀i,w'.cell? ⟨b,i,none⟩=w.cell? ⟨b,i,none⟩:=fun i=>H.cell (p:=⟨b,i,none⟩) hb
 obtain⟨c0,c1,c2,c3,c4,c5,c6,F,G,c9,D,A,E⟩:=h;exact⟨(k _).trans c0,(k _).trans c1,(k _).trans c2,(k _).trans c3,(k _).trans c4,(k _).trans c5,(k _).trans c6,(k _).trans F,(k _).trans G,(k _).trans c9,(k _).trans D,(k _).trans A,(k _).trans E⟩
structure ND (e:Ev):Prop where
 ex:e.days.ex.length<=4611686018427387903
 xt:e.days.xt.length<=4611686018427387903
 uid:e.uid.size<=4611686018427387904
 summ:e.summ.size<=4611686018427387904
 loc:e.loc.size<=4611686018427387904
def GQ(B:Nat)(w:World)(ao:Option Addr)(es:List Ev):Prop:=es=[]∨ ∃b o,ao=some ⟨b,o,none⟩/\b<B/\ ∀(j:Nat) (e:Ev),es[j]?=some e->ND e/\ ∃v v',Ps b (o+j*13) e v v' w/\NC B w v e.days.ex/\NC B w v' e.days.xt
theorem GQ.below{B:Nat}{w w':World}{ao:Option Addr}{es:List Ev}(h:GQ B w ao es)(A:Below B w w'):GQ B w' ao es:=by
 rcases h with h | ⟨b,o,ha,hb,hc⟩
 ·exact .inl h
 ·refine .inr ⟨b,o,ha,hb,fun j e hj=>?_⟩;obtain⟨D,v,v',G,F,E⟩:=hc j e hj;exact⟨D,v,v',G.below hb A,F.below A,E.below A⟩
theorem GQ.mono{B D:Nat}{w:World}{ao:Option Addr}{es:List Ev}(h:GQ B w ao es)(A:B<=D):GQ D w ao es:=by
 rcases h with h | ⟨b,o,ha,hb,hc⟩
 ·exact .inl h
 ·refine .inr ⟨b,o,ha,by omega,fun j e hj=>?_⟩;obtain⟨E,v,v',H,G,F⟩:=hc j e hj;exact⟨E,v,v',H,G.mono A,F.mono A⟩
theorem GQ.form{B:Nat}{w:World}{ao:Option Addr}{es:List Ev}(h:GQ B w ao es)(hne:0<es.length):
  ∃b o,ao=some ⟨b,o,none⟩/\b<B/\ ∀(j:Nat) (e:Ev),es[j]?=some e->ND e/\ ∃v v',Ps b (o+j*13) e v v' w/\NC B w v e.days.ex/\NC B w v' e.days.xt:=by
 rcases h with h | h
 ·rw[h]at hne;cases hne
 ·exact h
theorem Gq(n:ByteArray)(v:Int)(es:List Ev)(ao:Option Addr)(c:Nat)(B:Nat)(w:World)(hB:B<=w.heap.size)(hE:GQ B w ao es)(hn:es.length<=4611686018427387903):
  Calls Tryz.prog 74 #[.agg #[jc n,ja jb v,jd ao es.length c]] w fun e w'=>e=jh (ja jb (Aq n v es))/\Below w.heap.size w w':=by
 have HE:=Lh hE;clear hE;by_cases hc:Tt.code n.data.toList=false
 ·have E:=Lh (show Aq n v es=10 by unfold Aq;rw[if_pos hc]);have HC:=Lh hc;clear hc;go_enter Tryz.func74,Tryz.ntmps74;go_wp2_with (go_at_call 18;refine(BV _ _).mono ?_;rintro e w' ⟨rfl,rfl⟩;rw[HC.o]);go_ret;exact⟨Aj E.o.symm,Aa _ _⟩
 ·by_cases h1:v<0∨64<v
  ·have E:=Lh (show Aq n v es=3 by unfold Aq;rw[if_neg hc,if_pos h1]);have HC:=Lh (show Tt.code n.data.toList=true by simpa using hc);clear hc;rcases h1 with h1 | h1
   ·go_enter Tryz.func74,Tryz.ntmps74;go_wp2_with (go_at_call 18;refine(BV _ _).mono ?_;rintro e w' ⟨rfl,rfl⟩;rw[HC.o]);go_ret;exact⟨Aj E.o.symm,Aa _ _⟩
   ·have v1: ¬v<0:=by omega
    go_enter Tryz.func74,Tryz.ntmps74;go_wp2_with (go_at_call 18;refine(BV _ _).mono ?_;rintro e w' ⟨rfl,rfl⟩;rw[HC.o]);go_ret;exact⟨Aj E.o.symm,Aa _ _⟩
  ·by_cases h2:256<(es.length:Int)
   ·have E:=Lh (show Aq n v es=2 by unfold Aq;rw[if_neg hc,if_neg h1,if_pos h2]);have HC:=Lh (show Tt.code n.data.toList=true by simpa using hc);have v1: ¬v<0:=by omega
    have v2: ¬64<v:=by omega
    clear hc h1;go_enter Tryz.func74,Tryz.ntmps74;go_wp2_with (go_at_call 18;refine(BV _ _).mono ?_;rintro e w' ⟨rfl,rfl⟩;rw[HC.o]);go_ret;exact⟨Aj E.o.symm,Aa _ _⟩
   ·have v1: ¬v<0:=by omega
    have v2: ¬64<v:=by omega
    have HC:=Lh (show Tt.code n.data.toList=true by simpa using hc);have HV:=Lh (show Aq n v es=Iq v es 0 by unfold Aq;rw[if_neg hc,if_neg h1,if_neg h2];rfl);have F0:AF w.heap.size n v (jd ao es.length c) (w.alloc (ji #[jc n,ja jb v,jd ao es.length c] 41)):=heap_alloc_new w _;have aA:=Lh F0;clear hc h1 F0;go_enter Tryz.func74,Tryz.ntmps74;go_wp2_with (go_at_call 18;refine(BV _ _).mono ?_;rintro e w' ⟨rfl,rfl⟩;rw[HC.o]);go_loopw [28] (fun iv wr=> ∃k:Nat,iv=ja jb k/\k<=es.length/\Below w.heap.size w wr/\Hid (AF w.heap.size n v (jd ao es.length c) wr)/\Hid (Iq v es 0=Iq v es k)) (fun iv _=>es.length - (intOf iv).toNat)
    case atStart=>exact⟨0,rfl,xi _,Aa _ _,aA.o,rfl⟩
    case round=>
     obtain⟨k,rfl,hk,aq,HF,HK⟩:=hrel;have f0:=HF.o.c0;have f1:=HF.o.c1;have f2:=HF.o.c2;have ag:=HF.o.lt;by_cases az:k<es.length
     ·obtain⟨e,he⟩: ∃e,es[k]?=some e:=⟨_,xe az⟩
      obtain⟨b,o,ha,hb,ap⟩:=HE.o.form (by omega);subst ha;obtain⟨G,x,x',hC,hX,aC⟩:=ap k e he;have aE:=hC.below (w':=wr) hb (aq.mono hB);obtain⟨c0,c1,c2,c3,c4,c5,c6,c7,c8,c9,V,U,Y⟩:=aE;obtain⟨ax,cx,hx,hI⟩:=hX;obtain⟨ay,cy,hy,ar⟩:=aC;subst hx hy;have aD:=Lh ap;have aB:(k:Int)<(es.length:Int):=by omega
      clear ap;go_wp2_with fail;obtain⟨W,hW⟩: ∃W,W=wr.alloc (ji (Ae e (jd ax e.days.ex.length cx) (jd ay e.days.xt.length cy)) 61):=⟨_,rfl⟩
      have X:Below wr.heap.size wr W:=by rw[hW];exact Aa wr _
      have am:Hid (B5 wr.heap.size e (jd ax e.days.ex.length cx) (jd ay e.days.xt.length cy) W):=by rw[hW];exact heap_alloc_new wr _
      unfold Ae at hW;rw[<-hW];clear hW;refine(TB e.uid W G.uid).mono ?_;rintro z w1 ⟨rfl,hb1⟩;have F:=AS (AS aq X) hb1;have Z:=Lh (am.o.block (hb1.block _ am.o.lt));have O:=Lh (HF.o.block ((hb1.block _ (xc ag X.size)).trans (X.block _ ag)));have au:=Z.o.lt;have ab:=Lh (QG v es k e he);have ah:Hid (Below wr.heap.size wr w1):=X.trans (hb1.mono X.size);clear X hb1 am HF c0 c1 c2 c3 c4 c5 c6 c7 c8 c9 V U Y f0 f1 f2;obtain⟨c0,c1,c2,c3,c4,c5,c6,c7,c8,c9,V,U,Y⟩:=Z.o.c;have f0:=O.o.c0;have f1:=O.o.c1;have f2:=O.o.c2;cases hr:A8 e.uid.data.toList
      ·have E:=Lh (show Aq n v es=4 from HV.o.trans (HK.o.trans (ab.o.trans (if_pos hr))));clear hr;go_wp2_with fail;go_ret;exact⟨Aj E.o.symm,F⟩
      ·have af:=Lh (ab.o.trans (if_neg (by rw[hr];simp)));clear hr;cases k with
       | zero=>
        go_wp2_with fail;go_quiet (fail)
        obtain⟨w2,ae,T,al,R⟩:=DG w1 nq;have A:=F.trans (T _);have ak:=Lh (Z.o.block (R _));have H:=Lh (O.o.block (R _));have aj:Hid (Below wr.heap.size wr w2):=ah.o.trans (T _);rw[<-ae];clear ae T al R c0 c1 c2 c3 c4 c5 c6 c7 c8 c9 V U Y f0 f1 f2 Z O au F ah;obtain⟨c0,c1,c2,c3,c4,c5,c6,c7,c8,c9,V,U,Y⟩:=ak.o.c;have f0:=H.o.c0;have f1:=H.o.c1;have f2:=H.o.c2;have J:=Lh (af.o.trans (if_neg (by show ¬(false=true);simp)));go_wp2_with fail;refine(Pj e v B w2 ax ay cx cy (xh hB A.size) (hI.below (A.mono hB)) (ar.below (A.mono hB)) G.ex G.xt G.summ G.loc).mono ?_;rintro z w3 ⟨rfl,ac⟩;have M:=AS A ac;have ai:=Lh (H.o.block (ac.block _ (xc ag aj.o.size)));by_cases D:Ax e v=0
        ·have E:=Lh (show Iq v es 0=Iq v es (0+1)from J.o.trans (if_neg (by simp[D])));rw[D];clear D;go_wp2_with fail;go_roundw
         case rel=>exact⟨0+1,by go_num,by omega,M,ai.o,E.o⟩
         case measure=>simp[intOf];omega
        ·have E:=Lh (show Aq n v es=Ax e v from HV.o.trans (J.o.trans (if_pos D)));have av:(Ax e v !=0)=true:=by simp[D]
         clear D;go_wp2_with fail;go_ret;exact⟨Aj E.o.symm,M⟩
       | succ j=>
        obtain⟨p,hp⟩: ∃p,es[j]?=some p:=⟨_,xe (by omega)⟩
        obtain⟨_,y,y',aw,_,_⟩:=aD.o j p hp;have p0:=(aw.below (w':=w1) hb (F.mono hB)).c0;clear aw;go_wp2_with fail;go_quiet (fail)
        obtain⟨w2,ae,T,al,R⟩:=DG w1 nq;have A:=F.trans (T _);have ak:=Lh (Z.o.block (R _));have H:=Lh (O.o.block (R _));have aj:Hid (Below wr.heap.size wr w2):=ah.o.trans (T _);rw[<-ae];clear ae T al R c0 c1 c2 c3 c4 c5 c6 c7 c8 c9 V U Y f0 f1 f2 Z O au F ah p0;obtain⟨c0,c1,c2,c3,c4,c5,c6,c7,c8,c9,V,U,Y⟩:=ak.o.c;have f0:=H.o.c0;have f1:=H.o.c1;have f2:=H.o.c2;have aa:=Lh (I2 es j p hp);cases hlt2:(Op.bytesLess e.uid.toList p.uid.toList || e.uid.toList==p.uid.toList)
        case true=>
         have E:=Lh (show Aq n v es=63 from HV.o.trans (HK.o.trans (af.o.trans (if_pos (by rw[aa.o];exact hlt2)))));clear hlt2 hp;go_wp2_with fail;go_ret;exact⟨Aj E.o.symm,A⟩
        have J:=Lh (af.o.trans (if_neg (by rw[aa.o];show ¬(_=true);rw[show Ia (some p.uid) e.uid=false from hlt2];simp)));clear hlt2 hp;go_wp2_with fail;refine(Pj e v B w2 ax ay cx cy (xh hB A.size) (hI.below (A.mono hB)) (ar.below (A.mono hB)) G.ex G.xt G.summ G.loc).mono ?_;rintro z w3 ⟨rfl,ac⟩;have M:=AS A ac;have ai:=Lh (H.o.block (ac.block _ (xc ag aj.o.size)));by_cases D:Ax e v=0
        ·have E:=Lh (show Iq v es 0=Iq v es ((j+1)+1)from HK.o.trans (J.o.trans (if_neg (by simp[D]))));rw[D];clear D;go_wp2_with fail;go_roundw
         case rel=>exact⟨(j+1)+1,by go_num,by omega,M,ai.o,E.o⟩
         case measure=>simp[intOf];omega
        ·have E:=Lh (show Aq n v es=Ax e v from HV.o.trans (HK.o.trans (J.o.trans (if_pos D))));have av:(Ax e v !=0)=true:=by simp[D]
         clear D;go_wp2_with fail;go_ret;exact⟨Aj E.o.symm,M⟩
     ·have aB: ¬(k:Int)<(es.length:Int):=by omega
      have E:=Lh (show Aq n v es=0 from HV.o.trans (HK.o.trans (Sx v es k (by omega))));go_wp2_with fail;go_ret;exact⟨Aj E.o.symm,aq⟩
end Go.Proofs.YtegjgjgoodekiaaGreatDoor
-- RowEv
namespace Go.Proofs.YtegjgjgoodekiaaGreatDoor
open Go.RowKit
def Ap(ts:List (Ev × Value × Value)):List Value:=ts.flatMap fun t=>(Ae t.1 t.2.1 t.2.2).toList
theorem Ea: ∀ts:List (Ev × Value × Value),(Ap ts).length=ts.length*13
 | []=>rfl
 | t::r=>by
  show((Ae t.1 t.2.1 t.2.2).toList++Ap r).length=_
  rw[List.length_append,Ea r,List.length_cons];show 13+_=_
  omega
theorem Eb: ∀(ts:List (Ev × Value × Value)) (j i:Nat) (t:Ev × Value × Value),ts[j]?=some t->i<13->(Ap ts)[j*13+i]?=(Ae t.1 t.2.1 t.2.2).toList[i]?
 | [],_,_,_,h,_=>by simp at h
 | t0::r,0,i,t,h,hi=>by
  simp at h;subst h;show((Ae t0.1 t0.2.1 t0.2.2).toList++Ap r)[0*13+i]?=_
  rw[show 0*13+i=i by omega,List.getElem?_append_left (by show i<13;exact hi)]
 | t0::r,j+1,i,t,h,hi=>by
  show((Ae t0.1 t0.2.1 t0.2.2).toList++Ap r)[(j+1)*13+i]?=_
  rw[List.getElem?_append_right (by show 13<=_;omega),show(j+1)*13+i - (Ae t0.1 t0.2.1 t0.2.2).toList.length=j*13+i by show _ - 13=_;omega];exact Eb r j i t (by simpa using h) hi
theorem Ma(ts:List (Ev × Value × Value))(t:Ev × Value × Value):Ap (ts++[t])=Ap ts++(Ae t.1 t.2.1 t.2.2).toList:=by
 unfold Ap;simp
end Go.Proofs.YtegjgjgoodekiaaGreatDoor
-- Inv
namespace Go.Proofs.YtegjgjgoodekiaaGreatDoor
open Go.RowKit
theorem Jw{α:Type}(p q:α->Bool): ∀l:List α,(∀x∈l,q x=true->p x=true)->(l.filter q).length<=(l.filter p).length
 | [],_=>xd _
 | x::r,h=>by
  have ih:=Jw p q r (fun y hy=>h y (xg _ hy));have w:=h x (xj ..);cases hq:q x<;>cases hp:p x<;>simp[hq,hp]at w ⊢<;>omega
theorem Jv{α:Type}(p q:α->Bool)(i:α)(hp:p i=true)(hq:q i=false): ∀l:List α,(∀x∈l,q x=true->p x=true)->i∈l->(l.filter q).length<(l.filter p).length
 | [],_,hi=>by cases hi
 | x::r,h,hi=>by
  have w:=h x (xj ..);rcases xk.1 hi with e | hi
  ·subst e;have ih:=Jw p q r (fun y hy=>h y (xg _ hy));simp[hp,hq];omega
  ·have ih:=Jv p q i hp hq r (fun y hy=>h y (xg _ hy)) hi;cases hq2:q x<;>cases hp2:p x<;>simp[hq2,hp2]at w ⊢<;>omega
def Lg(ops:Array Oper)(listed:Array Bool):Nat:=((List.range ops.size).filter fun i=>!listed.getD i true).length
section
variable {P:Program} {ops:Array Oper} {Q:Exit->Act->World->Prop} {md:Region.Mode}
theorem GZ{w:Array Bool}{i:Nat}(h:i∈Region.ready md ops w):i∈List.range ops.size/\w.getD i true=false:=by
 unfold Region.ready at h;have:=List.mem_filter.1 h;refine⟨this.1,?_⟩;have A:=this.2;cases hl:w.getD i true<;>simp[hl]at A ⊢
theorem IW{w:Array Bool}{i:Nat}(h:i∈Region.ready md ops w):i<ops.size/\w.getD i true=false/\ ∀o,ops[i]?=some o-> ∀e∈o.after.toList,Region.binds md e=true->w.getD e.on false=true:=by
 obtain⟨D,F⟩:=GZ h;refine⟨List.mem_range.1 D,F,fun o ho e he hb=>?_⟩;unfold Region.ready at h;have A:=(List.mem_filter.1 h).2;rw[ho]at A;simp only[Option.map_some,Option.getD_some,xf]at A;have E:=(Array.all_eq_true_iff_forall_mem.1 A.2) e (Array.mem_toList_iff.1 he);simpa[hb]using E
theorem Kl{J:Array Bool->Act->World->Prop}
  (F: ∀A a w i,J A a w->i∈Region.ready md ops A->wpOp P ops Q i (J (A.setIfInBounds i true)) a w)
  (D: ∀A a w,J A a w->Region.ready md ops A=[]->Q .normal a w):
  ∀(E:Nat) (A:Array Bool) (a:Act) (w:World),J A a w->Lg ops A<=E->wpAny P md ops Q E A a w
 | 0,A,a,w,hJ,hf=>by
  have hr:Region.ready md ops A=[]:=by
   refine List.eq_nil_iff_forall_not_mem.2 fun i hi=>?_
   obtain⟨M,H⟩:=GZ hi;have:i∈(List.range ops.size).filter fun i=>!A.getD i true:=List.mem_filter.2 ⟨M,by simp[H]⟩
   have hp:=List.length_pos_of_mem this;unfold Lg at hf;omega
  exact⟨hr,D A a w hJ hr⟩
 | E+1,A,a,w,hJ,hf=>by
  refine⟨D A a w hJ,fun i hi=>wpOp_mono (fun R w' O=>Kl F D E _ R w' O ?_) (F A a w i hJ hi)⟩;obtain⟨M,H⟩:=GZ hi;have G:i<A.size:=by
   rcases Nat.lt_or_ge i A.size with h | h
   ·exact h
   ·rw[Array.getD_eq_getD_getElem?,Array.getElem?_eq_none h]at H;cases H
  have:=Jv (fun i=>!A.getD i true) (fun j=>!(A.setIfInBounds i true).getD j true) i (by simp[H]) (by simp[G]) (List.range ops.size)
   (fun x _ hx=>by
    by_cases e:i=x
    ·subst e;simp[G]at hx
    ·simpa[Array.getD_eq_getD_getElem?,Array.getElem?_setIfInBounds_ne e]using hx) M
  unfold Lg at hf ⊢;omega
def N4(Q:Exit->Act->World->Prop)(K:Act->World->Prop):Exit->Act->World->Prop
 | .normal,a,w=>K a w
 | e,a,w=>Q e a w
theorem EX{K:Act->World->Prop}(h:LetsOut (N4 Q K)):LetsOut Q:=h
theorem Pt{o:Oper}{a:Act}{w:World}{K:Act->World->Prop}(hh:o.wp P a w K (N4 Q K)):o.wp P a w K Q:=by
 unfold Oper.wp at*;generalize (execOp a.eval o).run P w=r at*;cases r with
 | ok n w'=>
  cases n<;>simp only[Oper.upon]at hh ⊢<;>
   first
    | exact hh
    | exact Calls.mono hh (fun e A he=>by cases e<;>first | exact he | exact EX he)
    | exact Rows.mono hh (fun _ _ he=>he)
 | halt x w'=>cases x<;>simp only[Oper.upon]at hh ⊢<;>exact hh
theorem La{o:Oper}{i:Nat}{a:Act}{w:World}{K:Act->World->Prop}(ho:ops[i]?=some o)(h:wpList P ops (N4 Q K) [o] a w):wpOp P ops Q i K a w:=by
 unfold wpOp;rw[ho];unfold wpList at h;split at h
 ·rename_i A
  simp only[A,if_true];exact h.imp (fun h=>Pt h) (fun h=>⟨h.1,EX h.2⟩)
 ·rename_i A
  simp only[A];exact h
theorem AJ{o:Oper}{i:Nat}{a:Act}{w:World}{K:Act->World->Prop}(ho:ops[i]?=some o)(h: ∀QQ:Exit->Act->World->Prop,(∀a w,K a w->QQ .normal a w)->wpList P ops QQ [o] a w):wpOp P ops Q i K a w:=
 La ho (h _ (fun _ _ h=>h))
theorem FA{id:Nat}{a:Act}{w:World}(hm:P.follows .mixedOrders=true)(J:Array Bool->Act->World->Prop)
  (E:J (Array.replicate ops.size false) a { w with drawn:=w.drawn+1 })
  (A: ∀listed a w i,J listed a w->i∈Region.ready .any ops listed->wpOp P ops Q i (J (listed.setIfInBounds i true)) a w)
  (D: ∀listed a w,J listed a w->Region.ready .any ops listed=[]->Q .normal a w):(Code.region id ops true).wp P Q a w:=
 wp_region_any hm (Kl A D _ _ _ _ E (by
  unfold Lg;refine xh (List.length_filter_le _ _) ?_;simp))
end
end Go.Proofs.YtegjgjgoodekiaaGreatDoor
-- Cond
namespace Go.Proofs.YtegjgjgoodekiaaGreatDoor
open Go.RowKit
def JT(ops:Array Oper):Bool:=(List.range ops.size).all fun i=>((ops[i]?).map (·.after.toList.all fun e=>!Region.binds .any e || decide (e.on<i))).getD true
def I5(ops:Array Oper):Nat->Nat->Nat->Bool
 | 0,_,_=>false
 | f+1,i,k=>((ops[i]?).map fun o=>(o.after.toList.any fun e=>Region.binds .any e && e.on==k) || (o.after.toList.any fun e=>Region.binds .any e && I5 ops f e.on k)).getD false
def Rh(ops:Array Oper)(n:Nat):Bool:=(List.range (ops.size - n)).all fun j=>(List.range (n+j)).all fun k=>I5 ops ops.size (n+j) k
section
variable {P:Program} {ops:Array Oper} {Q:Exit->Act->World->Prop} {md:Region.Mode}
theorem Qh{w:Array Bool}(h:Region.ready md ops w=[])(i:Nat)(hi:i<ops.size)
  (he: ∀o,ops[i]?=some o-> ∀e∈o.after.toList,Region.binds md e=true->w.getD e.on false=true):w.getD i true=true:=by
 cases hl:w.getD i true with
 | true=>rfl
 | false=>
  exfalso;have hm:i∈Region.ready md ops w:=by
   unfold Region.ready;refine List.mem_filter.2 ⟨List.mem_range.2 hi,?_⟩;have ho:ops[i]?=some ops[i]:=Array.getElem?_eq_getElem hi;rw[ho];simp only[Option.map_some,Option.getD_some,xf,hl,Bool.not_false,true_and];refine Array.all_eq_true_iff_forall_mem.2 fun e hh=>?_
   cases hb:Region.binds md e with
   | false=>simp
   | true=>rw[he _ ho e (Array.mem_toList_iff.2 hh) hb];simp
  rw[h]at hm;cases hm
theorem JS{w:Array Bool}(h:Region.ready .any ops w=[])(hs:w.size=ops.size)(G:JT ops=true): ∀i,i<ops.size->w.getD i true=true:=by
 intro i;induction i using Nat.strongRecOn with
 | _ i ih=>
  intro hi;refine Qh h i hi fun o ho e hh hb=>?_
  have D:=List.all_eq_true.1 G i (List.mem_range.2 hi);rw[ho]at D;simp only[Option.map_some,Option.getD_some]at D;have A:=List.all_eq_true.1 D e hh;rw[hb]at A;have A:=of_decide_eq_true (by simpa using A);have E:=ih e.on A (by omega);have F:e.on<w.size:=by omega
  simp only[Array.getD_eq_getD_getElem?,Array.getElem?_eq_getElem F,Option.getD_some]at E ⊢;exact E
def IG(ops:Array Oper)(listed:Array Bool):Prop:=∀i,i<ops.size->listed.getD i false=true-> ∀o,ops[i]?=some o-> ∀e∈o.after.toList,Region.binds .any e=true->listed.getD e.on false=true
theorem Gw{w:Array Bool}(hc:IG ops w)(G:JT ops=true): ∀(f i k:Nat),i<ops.size->I5 ops f i k=true->
  (∀o,ops[i]?=some o-> ∀e∈o.after.toList,Region.binds .any e=true->w.getD e.on false=true)->w.getD k false=true
 | 0,_,_,_,h,_=>by cases h
 | f+1,i,k,hi,h,he=>by
  have ho:ops[i]?=some ops[i]:=Array.getElem?_eq_getElem hi;unfold I5 at h;rw[ho]at h;simp only[Option.map_some,Option.getD_some,Bool.or_eq_true]at h;rcases h with h | h
  ·obtain⟨e,D,A⟩:=List.any_eq_true.1 h;rw[xf]at A;have:=he _ ho e D A.1;rwa [beq_iff_eq.1 A.2]at this
  ·obtain⟨e,D,A⟩:=List.any_eq_true.1 h;rw[xf]at A;have H:=he _ ho e D A.1;have E:=List.all_eq_true.1 G i (List.mem_range.2 hi);rw[ho]at E;simp only[Option.map_some,Option.getD_some]at E;have F:=List.all_eq_true.1 E e D;rw[A.1]at F;have F:=of_decide_eq_true (by simpa using F);exact Gw hc G f e.on k (by omega) A.2 (hc e.on (by omega) H)
theorem NL{n:Nat}(hl:Rh ops n=true){m k:Nat}(hn:n<=m)(hm:m<ops.size)(hk:k<m):I5 ops ops.size m k=true:=by
 have w:=List.all_eq_true.1 hl (m - n) (List.mem_range.2 (by omega));rw[show n+(m - n)=m by omega]at w;exact List.all_eq_true.1 w k (List.mem_range.2 hk)
theorem Jr{w:Array Bool}{k:Nat}{c:Bool}(d:Bool)(hk:k<w.size)(h:w.getD k c=true):w.getD k d=true:=by
 simp only[Array.getD_eq_getD_getElem?,Array.getElem?_eq_getElem hk,Option.getD_some]at h ⊢;exact h
theorem E5{w:Array Bool}{i k:Nat}(c:Bool)(hi:i<w.size):(w.setIfInBounds i true).getD k c=if i=k then true else w.getD k c:=by
 simp only[Array.getD_eq_getD_getElem?,Array.getElem?_setIfInBounds];split
 ·rename_i h;subst h;simp
 ·rfl
theorem OA{w:Array Bool}{i:Nat}(hs:w.size=ops.size)(hc:IG ops w)(hi:i<ops.size)
  (he: ∀o,ops[i]?=some o-> ∀e∈o.after.toList,Region.binds .any e=true->w.getD e.on false=true):IG ops (w.setIfInBounds i true):=by
 intro j hj hl o ho e A D;rw[E5 _ (by omega)]at hl ⊢;split
 ·rfl
 ·split at hl
  ·rename_i h;subst h;exact he o ho e A D
  ·exact hc j hj hl o ho e A D
theorem L8{l:List Oper}{a:Act}{w:World}(D:Act->World->Prop)(A: ∀a w,D a w->Q .normal a w)(h: ∀QQ:Exit->Act->World->Prop,(∀a w,D a w->QQ .normal a w)->wpList P ops QQ l a w):wpList P ops Q l a w:=h Q A
theorem Dj{id:Nat}{a:Act}{w:World}(n:Nat)(hm:P.follows .mixedOrders=true)(J:Array Bool->Act->World->Prop)
  (hn:n<ops.size) (hw:JT ops=true) (hl:Rh ops n=true)
  (h0:J (Array.replicate ops.size false) a { w with drawn:=w.drawn+1 })
  (hJ: ∀listed a w,J listed a w->listed.size=ops.size/\ ∀k,n<=k->k<ops.size->listed.getD k true=false)
  (Z: ∀listed a w i,J listed a w->i<n->listed.getD i true=false->(∀o,ops[i]?=some o-> ∀e∈o.after.toList,Region.binds .any e=true->listed.getD e.on false=true)->wpOp P ops Q i (J (listed.setIfInBounds i true)) a w)
  (X: ∀listed a w,J listed a w->(∀i,i<n->listed.getD i true=true)->wpList P ops Q (ops.toList.drop n) a w):(Code.region id ops true).wp P Q a w:=by
 have aa: ∀listed a w,J listed a w->(∀i,i<n->listed.getD i true=true)->wpOps P ops Q (List.range' n (ops.size - n)) a w:=by
  intro listed a w h h2;have:=wpOps_eq_wpList (P:=P) (ops:=ops) (Q:=Q) (ops.toList.drop n) n (by intro j;simp);rw[List.length_drop,Array.length_toList]at this;rw[this];exact X listed a w h h2
 refine FA hm (fun listed a w=>IG ops listed/\listed.size=ops.size/\(J listed a w∨ ∃m,n<=m/\m<=ops.size/\(∀k,k<ops.size->listed.getD k true=decide (k<m))/\wpOps P ops Q (List.range' m (ops.size - m)) a w)) ?_ ?_ ?_
 ·refine⟨?_,by simp,.inl h0⟩;intro i hi hl2;exfalso;rw[Array.getD_eq_getD_getElem?,Array.getElem?_eq_getElem (by simpa using hi)]at hl2;simp at hl2
 ·rintro listed a x i ⟨hc,hs,h⟩ hi;obtain⟨G,h2,h3⟩:=IW hi;have hc':=OA hs hc G h3;have H:(listed.setIfInBounds i true).size=ops.size:=by simpa using hs
  -- an operation of the tail comes up behind all ahead of it
  have F:n<=i-> ∀k,k<i->listed.getD k true=true:=fun U k hk=>Jr true (by omega) (Gw hc hw ops.size i k G (NL hl U G hk) h3)
  have R: ∀m,n<=m->m<ops.size->(∀k,k<ops.size->listed.getD k true=decide (k<m))->i=m:=by
   intro m Y M A;have h4:=A i G;rw[h2]at h4;have h5:m<=i:=by have:=(decide_eq_false_iff_not.1 h4.symm);omega
   rcases Nat.lt_or_ge m i with h6 | h6
   ·have h7:=F (by omega) m h6;rw[A m M]at h7;exact absurd (of_decide_eq_true h7) (Nat.lt_irrefl _)
   ·omega
  have D: ∀m,i=m->m<ops.size->(∀k,k<ops.size->listed.getD k true=decide (k<m))-> ∀k,k<ops.size->(listed.setIfInBounds i true).getD k true=decide (k<m+1):=by
   intro m T M A k hk;rw[E5 _ (by omega)];split
   ·rename_i h;subst h;subst T;simp
   ·rename_i hne
    rw[A k hk];have:(k<m) ↔ (k<m+1):=by omega
    simp[this]
  rcases h with h | ⟨m,Y,M,A,E⟩
  ·rcases Nat.lt_or_ge i n with ab | U
   ·exact wpOp_mono (fun _ _ h=>⟨hc',H,.inl h⟩) (Z listed a x i h ab h2 h3)
   ·have A: ∀k,k<ops.size->listed.getD k true=decide (k<n):=by
     intro k hk;rcases Nat.lt_or_ge k n with V | V
     ·rw[F U k (by omega)];simp[V]
     ·rw[(hJ _ _ _ h).2 k V hk];simp;omega
    have ac:=R n (xd _) hn A;have hr:=aa listed a x h (fun k hk=>by rw[A k (by omega)];simp[hk]);rw[show ops.size - n=(ops.size - (n+1))+1 by omega,List.range'_succ,wpOps_cons]at hr;rw[ac]at D hc' H ⊢;exact wpOp_mono (fun _ _ h=>⟨hc',H,.inr ⟨n+1,by omega,by omega,D n rfl hn A,h⟩⟩) hr
  ·have O:m<ops.size:=by
    rcases Nat.lt_or_ge m ops.size with h | h
    ·exact h
    ·have:=A i G;rw[h2]at this;have:=decide_eq_false_iff_not.1 this.symm;omega
   have T:=R m Y O A;rw[show ops.size - m=(ops.size - (m+1))+1 by omega,List.range'_succ,wpOps_cons]at E;rw[T]at D hc' H ⊢;exact wpOp_mono (fun _ _ h=>⟨hc',H,.inr ⟨m+1,by omega,by omega,D m rfl O A,h⟩⟩) E
 ·rintro listed a x ⟨-,hs,h⟩ hr;have hall:=JS hr hs hw;rcases h with h | ⟨m,Y,M,A,E⟩
  ·have G:=(hJ _ _ _ h).2 n (xd _) hn;rw[hall n hn]at G;cases G
  ·have O:m=ops.size:=by
    rcases Nat.lt_or_ge m ops.size with h | h
    ·have G:=hall m h;rw[A m h]at G;exact absurd (of_decide_eq_true G) (Nat.lt_irrefl _)
    ·omega
   subst O;simpa[wpOps]using E
end
def Kept(B:Nat)(w w':World):Prop:=∀g cs ty,B<=g->Af g cs ty w->Af g cs ty w'
theorem Kept.only{b B:Nat}{w w':World}(h:B7 b w w')(hb:b<B):Kept B w w':=fun _ _ _ hg hk=>hk.only h (by omega)
theorem Kept.but{b B:Nat}{w w':World}(h:AO b w.heap.size w w')(hb:b<B):Kept B w w':=fun _ _ _ hg hk=>hk.but h (by omega)
structure Ai (b:Nat) (w w':World):Prop where
 but:AO b w.heap.size w w'
 dice:BJ b w'
theorem QO{b:Nat}{w:World}(h:BJ b w):BJ b w.drew:=h.kept h.lt (Ac (Below.refl _ w))
theorem Nw{b B:Nat}{w A:World}(h:AO b B w A):AO b B w A.drew:=h.trans (AO.of_below (Ac (Below.refl _ A)))
theorem Ai.refl{b:Nat}{w:World}(h:BJ b w):Ai b w w:=⟨AO.refl b _ w,h⟩
theorem Ai.alloc{b:Nat}{w w':World}(h:Ai b w w')(o:Obj):Ai b w (w'.alloc o):=⟨Hi h.but h.but.size o,Ou h.dice o⟩
theorem Ai.only{b:Nat}{w w' A:World}(h:Ai b w w')(hd:BJ b A)(ho:B7 b w' A):Ai b w A:=⟨SY h.but ho,hd⟩
theorem Ai.then{b:Nat}{w w' A:World}(h:Ai b w w')(hd:BJ b A)(ho:AO b w'.heap.size w' A):Ai b w A:=⟨Ba h.but ho h.but.size,hd⟩
theorem Ai.set{b g:Nat}{w w':World}(h:Ai b w w')(hg:w.heap.size<=g)(hb:b<g)(i:Nat)(u:Value):Ai b w (w'.setCell ⟨g,i,none⟩ u):=⟨Pl h.but hg,Ng h.dice hb⟩
theorem Ai.blk{b g:Nat}{w w':World}{cs:Array Value}{ty:TypeId}(h:Ai b w w')(hk:Af g cs ty w)(hg:g≠b):Af g cs ty w':=hk.but h.but hg
theorem Ai.trans{b:Nat}{w w' A:World}(h:Ai b w w')(k:Ai b w' A):Ai b w A:=⟨Ba h.but k.but h.but.size,k.dice⟩
theorem Af.new'{g:Nat}(w:World)(cs:Array Value)(ty:TypeId)(h:g=w.heap.size):Af g cs ty (w.alloc (ji cs ty)):=by subst h;exact Af.new w cs ty
theorem BR{w w':World}{B k:Nat}{e:TypeId}{v:Value}{n:Nat}{xs:List Value}(h:w.ownsRow B e k v n xs)(hk:Kept B w w'):w'.ownsRow B e k v n xs:=by
 refine⟨h.1,?_⟩;rcases h.2 with A | ⟨g,cap,cur,r1,r2,r3,r4⟩
 ·exact .inl A
 ·exact .inr ⟨g,cap,cur,r1,r2,hk g _ _ r2 r3,r4⟩
theorem Ai.grown0{b:Nat}{w w' A:World}(h:Ai b w w')(hg:w'.grownBy A none):Ai b w A:=by
 have hb:Below w'.heap.size w' A:=⟨hg.os,hg.tape,hg.output,hg.size,fun k hk=>hg.block k hk (by simp)⟩
 exact⟨Ba h.but (AO.of_below hb) h.but.size,h.dice.kept h.dice.lt hb⟩
theorem Du{P:Program}{w:World}{ops:Array Oper}{rest:List Oper}{o:Oper}{a:Act}{Q:Exit->Act->World->Prop}(O:o.guard=none)(s x:Operand)(t:TypeId)
  (ho:o.op=.call { callee:=.builtin .append,args:=#[s,x],argTypes:=#[t,t] })
  (base:Nat) (e:TypeId) (i:TypeInfo) (z:Value) (size D:Nat) (ht:P.underlying t=some (.slice e)) (hi:P.info? e=some i) (hz:i.zero=some z)
  (H:i.size=size) (U:i.bytes=D) (T:z.cells.size=size) (V:0<size)
  (v:Value) (n:Nat) (xs:List Value) (hs:a.eval s=v) (F:w.ownsRow base e size v n xs)
  (J:Nat) (R:Value) (m:Nat) (A:List Value) (hx:a.eval x=R) (E:w.ownsRow J e size R m A) (Y: ∀u∈A,u.oneCell'=true)
  (X:n+m<=maxLen) (G:(n+m)*D<=140737488355328) (M:base<=w.heap.size)
  (h: ∀v' w',w'.ownsRow base e size v' (n+m) (xs++A)->w.grownBy w' v.ownBlock->(v'.ownBlock=v.ownBlock∨v'.ownBlock=some w.heap.size)->wpList P ops Q rest (a.put o.dst v') w'):
  wpList P ops Q (o::rest) a w:=by
 rcases E.2 with⟨rfl,rfl⟩ | ⟨g,cap,cur,rfl,_,_,_⟩
 ·have hn:A=[]:=xb (by simpa using E.1);subst hn;exact wpList_append_own_none O s x t ho base e i size ht hi v n xs hs F hx (h v w (by simpa using F) (World.grownBy.refl w _) (.inl rfl))
 ·exact wpList_append_own_at w O s x t ho base e i z size D ht hi hz H U T V v n xs hs F ⟨g,0,none⟩ m cap A hx E.1 (fun j u hj=>E.cells (g:=g) rfl j u hj) Y X G M (fun v' w' a1 a2 _ a4=>h v' w' a1 a2 a4)
theorem CB(e:Ev)(p w:Option Addr)(n n' c c':Nat): ∀u∈(Ae e (jd p n c) (jd w n' c')).toList,u.oneCell'=true:=by
 intro u hu;simp only[Ae,xk,List.not_mem_nil,or_false]at hu;rcases hu with rfl | rfl | rfl | rfl | rfl | rfl | rfl | rfl | rfl | rfl | rfl | rfl | rfl<;>rfl
theorem Lv:(Tryz.prog.info? 61).map (fun i=>(i.zero,i.size,i.bytes))=some (some (.agg #[jc ⟨#[]⟩,ja jb 0,je false,ja jb 0,ja jb 0,ja jb 0,ja jb 0,jd none 0 0,jd none 0 0,ja jb 0,ja jb 0,jc ⟨#[]⟩,jc ⟨#[]⟩]),13,160):=by kernel_rfl
theorem Eh{w:World}{g:Nat}{c:UInt8}(h:Af g #[.int .u8 c.toNat] 5 w):(convert 88 9 (jd (some ⟨g,0,none⟩) 1 1)).run Tryz.prog w=.ok (jc ⟨#[c]⟩) w:=
 CT (B:=0) (l:=[c]) ⟨rfl,.inr ⟨g,1,_,rfl,xi _,h,xd _,by decide,rfl,rfl⟩⟩
theorem Ux(m:Int)(A:0<=m)(w:m<256):m=((UInt8.ofNat m.toNat).toNat:Int):=by
 rw[UInt8.toNat_ofNat_of_lt' (show m.toNat<UInt8.size by show m.toNat<256;omega)];omega
theorem Bd{w:World}{g:Nat}{cs:Array Value}{ty:TypeId}(h:Af g cs ty w)(j:Nat)(u:Value)(hj:cs.toList[j]?=some u):w.cell? ((⟨g,0,none⟩:Addr).add j)=some u:=by
 rw[Addr.add_lit,h.cell];simpa using hj
structure Made (w w':World):Prop where
 below:Below w.heap.size w w'
theorem Made.then{w A w2:World}(h:Made w A)(k:Below A.heap.size A w2):Made w w2:=⟨AS h.below k⟩
theorem Made.blk{w A:World}(h:Made w A){g:Nat}{cs:Array Value}{ty:TypeId}(k:Af g cs ty w):Af g cs ty A:=k.below h.below k.lt
theorem Ay{w w':World}{B k:Nat}{e:TypeId}{v:Value}{n:Nat}{xs:List Value}(h:w.ownsRow B e k v n xs)(hb:Below w.heap.size w w'):w'.ownsRow B e k v n xs:=by
 refine⟨h.1,?_⟩;rcases h.2 with A | ⟨g,cap,cur,r1,r2,r3,r4⟩
 ·exact .inl A
 ·exact .inr ⟨g,cap,cur,r1,r2,(hb.block g (xa.1 r3).1).trans r3,r4⟩
theorem Jz{g:Nat}{w:World}{R J V H M U T F G O A E D:Value}(h:Af g #[R,J,V,H,M,U,T,F,G,O,A,E,D] 61 w)(e:Ev)(v v':Value):
  ∃W,W=((((((((((((w.setCell ⟨g,0,none⟩ (jc e.uid)).setCell ⟨g,1,none⟩ (ja jb e.seq)).setCell ⟨g,2,none⟩ (je e.canc)).setCell ⟨g,3,none⟩ (ja jb e.days.first)).setCell ⟨g,4,none⟩ (ja jb e.days.last)).setCell ⟨g,5,none⟩ (ja jb e.days.every)).setCell ⟨g,6,none⟩ (ja jb e.days.wd)).setCell ⟨g,7,none⟩ v).setCell ⟨g,8,none⟩ v').setCell ⟨g,9,none⟩ (ja jb e.start)).setCell ⟨g,10,none⟩ (ja jb e.mins)).setCell ⟨g,11,none⟩ (jc e.summ)).setCell ⟨g,12,none⟩ (jc e.loc)/\
   Af g (Ae e v v') 61 W/\(∀lo v xs,Ah lo w v xs->Ah lo W v xs)/\(∀B w0,B<=g->Below B w0 w->Below B w0 W):=
 ⟨setAll w g 0 (Ae e v v').toList,rfl,Af.puts (Ae e v v').toList [] [R,J,V,H,M,U,T,F,G,O,A,E,D] [] w h rfl,fun _ _ _ hx=>A0 (by decide) _ 0 w _ hx h,fun _ _ X hb=>Es X _ 0 w hb⟩
def C4(old now:Bool):Int:=if now && old then 0 else if now then 3 else if old then 1 else 2
theorem Re(o n:Ev)(J U G M:Option Addr)(O A T F c1 c2 c3 c4:Nat)(w:World):
  Calls Tryz.prog 85 #[AW o (jd J O c1) (jd U A c2),AW n (jd G T c3) (jd M F c4)] w fun e w'=>e=jh (ja jb (C4 o.canc n.canc))/\Below w.heap.size w w':=by
 obtain⟨u,s,E,d,st,X,su,lo⟩:=o;obtain⟨u',Y,R,Z,V,H,D,lo'⟩:=n;unfold AW Ae;cases E<;>cases R
 all_goals
  go_enter Tryz.func85,Tryz.ntmps85;go_wp2_with fail;go_ret;exact⟨rfl,(Aa _ _).trans ((Aa _ _).mono (by simp))⟩
def Aw(u:ByteArray):List Ev->Int->Int
 | [],_=> -1
 | e::r,k=>if e.uid=u then k else Aw u r (k+1)
theorem Vz(u:ByteArray)(es:List Ev)(ao:Option Addr)(c:Nat)(B:Nat)(w:World)(M:GQ B w ao es)(hn:es.length<=4611686018427387903):
  Calls Tryz.prog 38 #[jd ao es.length c,jc u] w fun e w'=>e=jh (ja jb (Aw u es 0))/\w'=w:=by
 have T:=Lh M;clear M;obtain⟨n,hne⟩: ∃n,n=es.length:=⟨_,rfl⟩
 rw[<-hne]at hn ⊢;have J:=Lh hne;clear hne;go_enter Tryz.func38,Tryz.ntmps38;go_wp2_with fail;go_loop [5] (fun H=> ∃k:Nat,k<=n/\H=ja jb k/\Hid (Aw u es 0=Aw u (es.drop k) k)) (fun H=>n - (intOf H).toNat)
 case atStart=>exact⟨0,xi _,rfl,Lh rfl⟩
 case round=>
  obtain⟨k,hk,rfl,O⟩:=hrel;by_cases G:k<n
  ·have F:(k:Int)<n:=by omega
   have A:k<es.length:=by rw[<-J.o];exact G
   rcases T.o with h | ⟨g,o,rfl,hg,hc⟩
   ·rw[h]at A;simp at A
   ·obtain⟨-,v,v',hv, -, -⟩:=hc k _ (xe A);have c0:=hv.c0;clear hv hc;obtain⟨e,D⟩: ∃e,e=es[k]:=⟨_,rfl⟩
    rw[<-D]at c0;have R:=Lh (show Aw u es 0=if e.uid=u then(k:Int)else Aw u (es.drop (k+1)) ((k:Int)+1)from by rw[O.o,List.drop_eq_getElem_cons A,<-D];rfl);clear D;by_cases he:e.uid=u
    ·have hb:(e.uid.toList==u.toList)=true:=by rw[he];simp
     have E:=Lh (show Aw u es 0=(k:Int)from by rw[R.o,if_pos he]);clear he;go_wp2_with fail;go_ret;exact⟨by rw[E.o];rfl,rfl⟩
    ·have hb:(e.uid.toList==u.toList)=false:=by
      rw[beq_eq_false_iff_ne];intro h;rw[Lib.toList_data,Lib.toList_data]at h;exact he (ByteArray.ext (Array.toList_inj.mp h))
     have E:=Lh (show Aw u es 0=Aw u (es.drop (k+1)) ((k+1:Nat):Int)from by rw[R.o,if_neg he];rfl);clear he;go_wp2_with fail;go_round
     case rel=>exact⟨k+1,by omega,by go_num,E⟩
     case measure=>simp[intOf];omega
  ·have F: ¬(k:Int)<n:=by omega
   have E:=Lh (show Aw u es 0= -1 from by rw[O.o,List.drop_eq_nil_of_le (by rw[<-J.o];omega)];rfl);go_wp2_with fail;go_ret;exact⟨by rw[E.o];rfl,rfl⟩
