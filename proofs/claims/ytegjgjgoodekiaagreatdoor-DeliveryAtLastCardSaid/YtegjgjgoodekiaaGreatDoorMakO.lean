/- The reference's Make: the feed of a timetable's versions. -/
import Derived.Test.YtegjgjgoodekiaaGreatDoorQk23
import Derived.Test.YtegjgjgoodekiaaGreatDoorQk13
import Derived.Test.YtegjgjgoodekiaaGreatDoorPut85
import Derived.Test.YtegjgjgoodekiaaGreatDoorQk9
import Derived.Test.YtegjgjgoodekiaaGreatDoorQk20
import Derived.Test.YtegjgjgoodekiaaGreatDoorQk6
import Derived.Deep.RegionHeld3
import Derived.RegionTactic
import Derived.ChangeAlike
import Derived.BigRegion
open Go.Value renaming int->ja,string->jc,slice->jd,bool->je,pointer->jf,tuple->jg
open Go.IntKind renaming i64->jb
open Go.Ending renaming returned->jh
open Go.Obj renaming cells->ji
open Go.World.ownsRow renaming alloc->xa
open List renaming getElem?_eq_getElem->xb,length_map->xe,foldl_append->xg,foldl_cons->xh,append_nil->xi,mem_of_getElem?->xj,getElem?_map->xl
open Nat renaming zero_add->xc,zero_le->xd,le_refl->xf,lt_of_lt_of_le->xk,le_of_lt->xm
namespace Go.Proofs.YtegjgjgoodekiaaGreatDoor
open Go.RowKit
def WI(N:Nat)(E:Ev)(g:Nat)(x:World):Prop:=∃p pp ka kb,Af g (Ae E (jd p E.days.ex.length ka) (jd pp E.days.xt.length kb)) 61 x/\Ah N x (jd p E.days.ex.length ka) E.days.ex/\Ah N x (jd pp E.days.xt.length kb) E.days.xt
def gF(N:Nat)(E:Ev)(x y:World):Prop:=Below N x y/\(∀v xs,Ah N x v xs->Ah N y v xs)/\(∀g cs,Af g cs 61 x->cs.size=13-> ∃cs',Af g cs' 61 y/\cs'.size=13)/\ ∀g,WI N E g x->WI N E g y
theorem gF.of{N:Nat}{E:Ev}{x y:World}(w:N<=x.heap.size)(h:Below x.heap.size x y):gF N E x y:=⟨h.mono w,fun _ _ hr=>Ay hr h,fun _ cs hb hc=>⟨cs,hb.below h hb.lt,hc⟩,fun _ ⟨p,D,A,kb,hb,hx,hy⟩=>⟨p,D,A,kb,hb.below h hb.lt,Ay hx h,Ay hy h⟩⟩
theorem GR.f(N:Nat)(E:Ev):GR (gF N E):=⟨fun w=>⟨Ac (Below.refl _ w),fun _ _ hr=>Ay hr (Ac (Below.refl _ w)),fun _ cs hb hc=>⟨cs,hb.draw,hc⟩,fun _ ⟨p,F,D,kb,hb,hx,hy⟩=>⟨p,F,D,kb,hb.draw,Ay hx (Ac (Below.refl _ w)),Ay hy (Ac (Below.refl _ w))⟩⟩,fun w=>⟨Below.refl _ w,fun _ _ h=>h,fun _ cs hb hc=>⟨cs,hb,hc⟩,fun _ h=>h⟩,fun h k=>⟨h.1.trans k.1,fun v xs hr=>k.2.1 v xs (h.2.1 v xs hr),fun g cs hb hc=>by obtain⟨c1,G,A⟩:=h.2.2.1 g cs hb hc;exact k.2.2.1 g c1 G A,fun g he=>k.2.2.2 g (h.2.2.2 g he)⟩⟩
theorem Kx{lo n c g m:Nat}{w:World}{xs:List Value}(h:w.ownsRow lo 61 13 (jd (some ⟨g,0,none⟩) n c) m xs)(i:Nat):w.frozen? ⟨g,i,none⟩=false:=by
 rcases h.2 with⟨hv,_⟩ | ⟨g',cap,cur,hv,_,hb,_⟩
 ·cases hv
 ·injection hv with A D E
  injection A with A
  injection A with A
  subst A;simp[World.frozen?,hb]
set_option maxHeartbeats 32000000 in
set_option maxRecDepth 100000 in
theorem Wf(g:Tt.Grd)(t:Tt.Trm)(ao:Option Addr)(c:Nat)(nm:ByteArray)(ls:List (List Az))(pl:Option Addr)(cl:Nat)(w:World)(hI:Ints w.heap.size w ao t.hols)(hn:t.hols.length<=4611686018427387903)(hS:DC w.heap.size w pl ls)(em:ls.length<=4611686018427387903):
  Calls Tryz.prog 17 #[.agg #[ja jb g.days,ja jb g.slots,ja jb g.begin_,ja jb g.mins],.agg #[ja jb t.first,ja jb t.weeks,jd ao t.hols.length c],jc nm,jd pl ls.length cl] w fun e w'=>VU g t nm ls w.heap.size e w'/\Below w.heap.size w w':=by
 obtain⟨G,hG⟩: ∃x,x=w.heap.size:=⟨_,rfl⟩
 obtain⟨T,hT⟩: ∃x,x=w.heap.size+1:=⟨_,rfl⟩
 obtain⟨R,hR⟩: ∃x,x=w.heap.size+1+1:=⟨_,rfl⟩
 obtain⟨w0,aU⟩: ∃x,x=((w.alloc (ji #[ja jb g.days,ja jb g.slots,ja jb g.begin_,ja jb g.mins] 65)).alloc (ji #[ja jb t.first,ja jb t.weeks,jd ao t.hols.length c] 68)).alloc (ji #[jc ⟨#[]⟩,ja jb 0,jd none 0 0] 41):=⟨_,rfl⟩
 have bf:=Lh (show Below w.heap.size w w0 from by rw[aU];exact(Aa w _).trans (((Aa _ _).mono (by simp)).trans ((Aa _ _).mono (by simp;omega))));have ap:=Lh (show Af G #[ja jb g.days,ja jb g.slots,ja jb g.begin_,ja jb g.mins] 65 w0 from by rw[aU,hG];exact((Af.new w _ _).alloc _).alloc _);have aR:=Lh (show Af T #[ja jb t.first,ja jb t.weeks,jd ao t.hols.length c] 68 w0 from by rw[aU,hT];exact(Af.new' _ _ _ (by simp)).alloc _);have aT:=Lh (show Af R #[jc ⟨#[]⟩,ja jb 0,jd none 0 0] 41 w0 from by rw[aU,hR];exact Af.new' _ _ _ (by simp));have bj:=Lh (fun X=>Lw g X);have aW:=Lh (show ∀X,Below w.heap.size w X->Calls Tryz.prog 34 #[.agg #[ja jb t.first,ja jb t.weeks,jd ao t.hols.length c]] X fun e w'=>e=jh (ja jb (Tt.trmV t))/\Below X.heap.size X w' from fun X hX=>NJ t ao c w.heap.size X hX.size (hI.below hX) hn);unfold Cj at bj;obtain⟨e1,aH⟩: ∃e,e=Tt.gridV g:=⟨_,rfl⟩
 obtain⟨e2,b7⟩: ∃e,e=Tt.trmV t:=⟨_,rfl⟩
 rw[<-aH]at bj;rw[<-b7]at aW;have HI:=Lh hI;have HS:=Lh hS;have eV:G<w0.heap.size:=ap.o.lt;have eC:T<w0.heap.size:=aR.o.lt;have eU:R<w0.heap.size:=aT.o.lt;have au:w.heap.size<=R:=by omega
 have eQ:G<R:=by omega
 have ei:T<R:=by omega
 have aQ:=Lh aH;have aV:=Lh b7;clear hI hS aH b7;go_enter Tryz.func17,Tryz.ntmps17;go_upto_region 1 with(fail);rw[<-aU,<-hR,<-hT,<-hG];clear aU hG hT hR;have x0:w0.cell? ⟨G,0,none⟩=some (ja jb g.days):=ap.o.cell 0;have x1:w0.cell? ⟨G,1,none⟩=some (ja jb g.slots):=ap.o.cell 1;have x2:w0.cell? ⟨G,2,none⟩=some (ja jb g.begin_):=ap.o.cell 2;have x3:w0.cell? ⟨G,3,none⟩=some (ja jb g.mins):=ap.o.cell 3;go_cut [30]from 23 to 29 (fun s wx=>s=je (!(decide (e1=0) && decide (e2=0)))/\Hid (Af G #[ja jb g.days,ja jb g.slots,ja jb g.begin_,ja jb g.mins] 65 wx)/\Hid (Af T #[ja jb t.first,ja jb t.weeks,jd ao t.hols.length c] 68 wx)/\Hid (Af R #[jc ⟨#[]⟩,ja jb 0,jd none 0 0] 41 wx)/\Hid (Below w.heap.size w wx))
 case first=>
  by_cases h1:e1=0
  ·subst h1;go_wp2_with (first | (go_at_call 33;(with_reducible refine(bj.o _).mono ?_);rintro e w1 ⟨rfl,h1⟩;have df:=Lh h1;have aP:=Lh (ap.o.below h1 ap.o.lt);have ai:=Lh (aR.o.below h1 aR.o.lt);have aS:=Lh (aT.o.below h1 aT.o.lt);have aD:=Lh (bf.o.trans (h1.mono bf.o.size));have y0:w1.cell? ⟨T,0,none⟩=some (ja jb t.first):=ai.o.cell 0;have y1:w1.cell? ⟨T,1,none⟩=some (ja jb t.weeks):=ai.o.cell 1;have y2:w1.cell? ⟨T,2,none⟩=some (jd ao t.hols.length c):=ai.o.cell 2;clear h1) | (go_at_call 34;(with_reducible refine(aW.o _ aD.o).mono ?_);rintro e w2 ⟨rfl,h2⟩;have cF:=Lh (aS.o.below h2 aS.o.lt);have ci:=Lh (aP.o.below h2 aP.o.lt);have cj:=Lh (ai.o.below h2 ai.o.lt);have cu:=Lh (aD.o.trans (h2.mono aD.o.size));clear h2));go_meet
   case rel=>exact⟨congrArg Value.bool (by by_cases h:e2=0<;>simp[h]),ci,cj,cF,cu⟩
  ·go_wp2_with (first | (go_at_call 33;(with_reducible refine(bj.o _).mono ?_);rintro e w1 ⟨rfl,h1⟩;have df:=Lh h1;have aP:=Lh (ap.o.below h1 ap.o.lt);have ai:=Lh (aR.o.below h1 aR.o.lt);have aS:=Lh (aT.o.below h1 aT.o.lt);have aD:=Lh (bf.o.trans (h1.mono bf.o.size));have y0:w1.cell? ⟨T,0,none⟩=some (ja jb t.first):=ai.o.cell 0;have y1:w1.cell? ⟨T,1,none⟩=some (ja jb t.weeks):=ai.o.cell 1;have y2:w1.cell? ⟨T,2,none⟩=some (jd ao t.hols.length c):=ai.o.cell 2;clear h1) | (go_at_call 34;(with_reducible refine(aW.o _ aD.o).mono ?_);rintro e w2 ⟨rfl,h2⟩;have cF:=Lh (aS.o.below h2 aS.o.lt);have ci:=Lh (aP.o.below h2 aP.o.lt);have cj:=Lh (ai.o.below h2 ai.o.lt);have cu:=Lh (aD.o.trans (h2.mono aD.o.size));clear h2));go_meet
   case rel=>exact⟨congrArg Value.bool (by simp[h1]),aP,ai,aS,aD⟩
 case rest=>
  obtain⟨rfl,HG,HT,HR,HL⟩:=hcut;clear ap aR aT bf bj aW;have bu:=Lh (fun W=>JK nm W);obtain⟨cd,b5⟩: ∃b,b=Tt.code nm.data.toList:=⟨_,rfl⟩
  rw[<-b5]at bu;have aF:=Lh b5;clear b5;by_cases hb:e1=0/\e2=0;rotate_left
  ·have hd:(!(decide (e1=0) && decide (e2=0)))=true:=by
    by_cases h1:e1=0
    ·have h2: ¬e2=0:=fun h=>hb ⟨h1,h⟩
     simp[h2]
    ·simp[h1]
   rw[hd];obtain⟨Y,hY,aa,hE⟩:=KU HR.o HL.o au [jc ⟨#[]⟩,ja jb 0,jd none 0 0] rfl;have a8:=fun i=>HR.o.frozen i;have q0:wc.cell? ⟨R,0,none⟩=some (jc ⟨#[]⟩):=HR.o.cell 0
   have q1:wc.cell? ⟨R,1,none⟩=some (ja jb 0):=HR.o.cell 1;have q2:wc.cell? ⟨R,2,none⟩=some (jd none 0 0):=HR.o.cell 2;simp only[setAll,xc,Nat.reduceAdd]at hY;go_wp2_with (fail);rw[<-hY];clear hY;have r0:=aa.c3;exact bodyPost_ret (v:=jg #[.agg #[jc ⟨#[]⟩,ja jb 0,jd none 0 0],ja jb 1]) (by simp[results,Tryz.results17,go_sem,r0]) rfl ⟨EW (Vd (by rw[<-aQ.o,<-aV.o];by_cases h1:e1=0;exact .inr (fun h=>hb ⟨h1,h⟩);exact .inl h1)) (by decide),hE⟩
  obtain⟨rfl,rfl⟩:=hb;have hd:(!(decide ((0:Int)=0) && decide ((0:Int)=0)))=false:=rfl;rw[hd];clear hd;cases cd
  ·obtain⟨Y,hY,aa,hE⟩:=KU HR.o HL.o au [jc ⟨#[]⟩,ja jb 0,jd none 0 0] rfl;have a8:=fun i=>HR.o.frozen i;have q0:wc.cell? ⟨R,0,none⟩=some (jc ⟨#[]⟩):=HR.o.cell 0
   have q1:wc.cell? ⟨R,1,none⟩=some (ja jb 0):=HR.o.cell 1;have q2:wc.cell? ⟨R,2,none⟩=some (jd none 0 0):=HR.o.cell 2;simp only[setAll,xc,Nat.reduceAdd]at hY;go_wp2_with (go_at_call 35;(with_reducible refine(bu.o _).mono ?_);rintro e w3 ⟨rfl,aG⟩;rw[aG];clear aG w3);rw[<-hY];clear hY;have r0:=aa.c3;exact bodyPost_ret (v:=jg #[.agg #[jc ⟨#[]⟩,ja jb 0,jd none 0 0],ja jb 10]) (by simp[results,Tryz.results17,go_sem,r0]) rfl ⟨EW (TU aQ.o.symm aV.o.symm aF.o.symm) (by decide),hE⟩
  by_cases bX:64<(ls.length:Int)
  ·obtain⟨Y,hY,aa,hE⟩:=KU HR.o HL.o au [jc ⟨#[]⟩,ja jb 0,jd none 0 0] rfl;have a8:=fun i=>HR.o.frozen i;have q0:wc.cell? ⟨R,0,none⟩=some (jc ⟨#[]⟩):=HR.o.cell 0
   have q1:wc.cell? ⟨R,1,none⟩=some (ja jb 0):=HR.o.cell 1;have q2:wc.cell? ⟨R,2,none⟩=some (jd none 0 0):=HR.o.cell 2;simp only[setAll,xc,Nat.reduceAdd]at hY;go_wp2_with (go_at_call 35;(with_reducible refine(bu.o _).mono ?_);rintro e w3 ⟨rfl,aG⟩;rw[aG];clear aG w3);rw[<-hY];clear hY;have r0:=aa.c3;exact bodyPost_ret (v:=jg #[.agg #[jc ⟨#[]⟩,ja jb 0,jd none 0 0],ja jb 2]) (by simp[results,Tryz.results17,go_sem,r0]) rfl ⟨EW (Vc aQ.o.symm aV.o.symm aF.o.symm bX) (by decide),hE⟩
  have cD:=Lh (HS.o.below HL.o);have bE:=Lh bX;have bv:w.heap.size<=wc.heap.size:=HL.o.size;go_wp2_with (go_at_call 35;(with_reducible refine(bu.o _).mono ?_);rintro e w3 ⟨rfl,aG⟩;rw[aG];clear aG w3);clear bX;go_loopw [10] (fun iv wr=> ∃k:Nat,iv=ja jb k/\k<=ls.length/\Hid (C8 t.weeks ls=C8 t.weeks (ls.drop k))/\Hid (Below wc.heap.size wc wr)) (fun iv _=>ls.length - (intOf iv).toNat)
  case atStart=>exact⟨0,rfl,xd _,Lh rfl,Lh (Below.refl _ _)⟩
  case round=>
   obtain⟨k,rfl,hk,HK,HB⟩:=hrel;by_cases bh:k<ls.length
   ·have bt:(k:Int)<(ls.length:Int):=by omega
    have dT:(0:Int)<=(k:Int):=by omega
    obtain⟨l,hl⟩: ∃l,ls[k]?=some l:=⟨_,xb bh⟩
    obtain⟨b,o,p,q,ha,d7,hcell,b4,bR,hl1,bi⟩:=cD.o.at_ hl;subst ha;have ck:b<wc.heap.size:=by omega
    have dC:b<wr.heap.size:=xk ck HB.o.size;have dn:T<wr.heap.size:=xk HT.o.lt HB.o.size;have x0:wr.cell? ⟨b,o+k,none⟩=some (jd p l.length q):=(HB.o.cell (p:=⟨b,o+k,none⟩) ck).trans hcell;have y1:wr.cell? ⟨T,1,none⟩=some (ja jb t.weeks):=(HB.o.cell (p:=⟨T,1,none⟩) HT.o.lt).trans (HT.o.cell 1);have aO:=Lh (show ∀W',Below wr.heap.size wr W'->W'.cell? ⟨b,o+k,none⟩=some (jd p l.length q)/\W'.cell? ⟨T,1,none⟩=some (ja jb t.weeks)from fun W' h=>⟨(h.cell (p:=⟨b,o+k,none⟩) dC).trans x0,(h.cell (p:=⟨T,1,none⟩) dn).trans y1⟩);have HC:=Lh (show ∀W,Below wr.heap.size wr W->Calls Tryz.prog 36 #[jd p l.length q,ja jb t.weeks] W fun e w'=>e=jh (ja jb (C3 l t.weeks))/\Below W.heap.size W w' from fun W hW=>VL l t.weeks p q w.heap.size W (by have:=HB.o.size;have:=hW.size;omega) ((bi.below (HB.o.mono bv)).below (hW.mono (by have:=HB.o.size;omega))) (by omega));have A:=Lh (HK.o.trans (OC t.weeks ls k l hl));obtain⟨cv,cp⟩: ∃x,x=C3 l t.weeks:=⟨_,rfl⟩
    rw[<-cp]at A HC;clear cp bi b4 bR hl1 hcell hl;go_upto_region 10 with(fail)
    go_region_held3 (fun W'=>W'.cell? ⟨b,o+k,none⟩=some (jd p l.length q)/\W'.cell? ⟨T,1,none⟩=some (ja jb t.weeks)) (first | exact aO.o _ (Below.refl _ _) | exact aO.o _ (Ac (Below.refl _ _)) | exact aO.o _ h5) (first | (go_at_call 36;(with_reducible refine(HC.o _ ?_).mono ?_);(first | exact Below.refl _ _ | exact Ac (Below.refl _ _));rintro e w5 ⟨rfl,bO⟩;have h5:Below wr.heap.size wr w5:=by first | exact bO | exact(Ac (Below.refl _ wr)).trans bO))
    have bF:=Lh (HB.o.trans (h5.mono HB.o.size));clear h5 bO aO HC;by_cases hz:cv=0
    ·subst hz;go_wp2_with fail;go_roundw
     case rel=>exact⟨k+1,by go_num,by omega,Lh (A.o.trans (if_neg (by simp))),bF⟩
     case measure=>simp[intOf];omega
    ·have cc:=Lh (A.o.trans (if_pos hz));have bk:=Lh (HR.o.below bF.o HR.o.lt);have dE:=Lh (HL.o.trans (bF.o.mono bv));obtain⟨Y,hY,aa,hE⟩:=KU bk.o dE.o au [jc ⟨#[]⟩,ja jb 0,jd none 0 0] rfl;have a8:=fun i=>bk.o.frozen i;have q0:w5.cell? ⟨R,0,none⟩=some (jc ⟨#[]⟩):=bk.o.cell 0
     have q1:w5.cell? ⟨R,1,none⟩=some (ja jb 0):=bk.o.cell 1;have q2:w5.cell? ⟨R,2,none⟩=some (jd none 0 0):=bk.o.cell 2;simp only[setAll,xc,Nat.reduceAdd]at hY;go_wp2_with (fail);rw[<-hY];clear hY;have r0:=aa.c3;exact bodyPost_ret (v:=jg #[.agg #[jc ⟨#[]⟩,ja jb 0,jd none 0 0],ja jb cv]) (by simp[results,Tryz.results17,go_sem,r0]) rfl ⟨EW ((Vb aQ.o.symm aV.o.symm aF.o.symm (by have:=bE.o;omega) (by rw[cc.o];exact hz)).trans cc.o) (hz),hE⟩
   obtain rfl:k=ls.length:=by omega
   have bt: ¬(ls.length:Int)<(ls.length:Int):=by omega
   rw[List.drop_length]at HK;have bL:=Lh (show C8 t.weeks ls=0 from HK.o);clear HK hk bh;obtain⟨wA,cX⟩: ∃q,q=wr:=⟨_,rfl⟩
   rw[<-cX]at HB ⊢;clear cX;have b9:=Lh (HG.o.below HB.o HG.o.lt);have cC:=Lh (HT.o.below HB.o HT.o.lt);have cY:=Lh (HR.o.below HB.o HR.o.lt);have bp:=Lh (HL.o.trans (HB.o.mono bv));have di:=Lh (HS.o.below bp.o);have dq:=Lh (HI.o.below bp.o);clear HG HT HR HL HB cD HS HI bv;obtain⟨F,hF⟩: ∃x,x=wA.heap.size:=⟨_,rfl⟩
   obtain⟨w1,br⟩: ∃x,x=wA.alloc (ji #[jc nm,ja jb (ls.length:Int),jd none 0 0] 41):=⟨_,rfl⟩
   have cS:=Lh (show Ki wA w1 F nm (ls.length:Int) (jd none 0 0) [] [] (jd none 0 0)from⟨by rw[br,hF];exact Af.new wA _ _,Av.nil _ _,Fz.nil _ _,by rw[br,hF];exact Aa wA _⟩);have dK:G<F:=by rw[hF];exact b9.o.lt
   have dt:T<F:=by rw[hF];exact cC.o.lt
   have dI:R<F:=by rw[hF];exact cY.o.lt
   have aX:w.heap.size<=F:=by rw[hF];exact bp.o.size
   go_upto_region 14 with(fail);rw[<-br,<-hF];have ey:=Lh hF;clear br hF bt;go_wp2_with fail;go_loopw [13] (fun iv wr=> ∃(k:Nat) (fv:Value) (ts:List Hk),iv=ja jb ((k:Int)+1)/\k<=ls.length/\ts.length<=96*k/\Hid (Ki wA wr F nm (ls.length:Int) fv ts [] (jd none 0 0))/\Hid (ts.map (·.1)=Bp g t 1 (ls.take k) [])) (fun iv _=>ls.length+1 - (intOf iv).toNat)
   case atStart=>exact⟨0,_,[],rfl,xd _,xd _,cS,Lh rfl⟩
   case round=>
    clear cS;obtain⟨k,fv,ts,rfl,hk,bW,A,V⟩:=hrel;have ez:(ls.length:Int)<=64:=by have:=bE.o;omega
    by_cases bh:k<ls.length
    rotate_left
    ·have bt: ¬(k:Int)+1<=(ls.length:Int):=by omega
     obtain rfl:k=ls.length:=by omega
     rw[List.take_length]at V;clear hk bh;obtain⟨wB,cm⟩: ∃q,q=wr:=⟨_,rfl⟩
     rw[<-cm]at A ⊢;clear cm;obtain⟨av,cv,aZ,aA,aw⟩:=A.o.row.seg;subst aZ;clear aw aA;have ag:=Lh (cY.o.below A.o.bel dI);have cM:=Lh (bp.o.trans (A.o.bel.mono aX));have cR:=Lh (show ts.length=(Bp g t 1 ls []).length from by rw[<-V.o,xe]);have f0:wB.cell? ⟨F,0,none⟩=some (jc nm):=A.o.box.cell 0;have f1:wB.cell? ⟨F,1,none⟩=some (ja jb (ls.length:Int)):=A.o.box.cell 1;have f2:wB.cell? ⟨F,2,none⟩=some (jd av ts.length cv):=A.o.box.cell 2;by_cases bC:256<(ts.length:Int)
     ·obtain⟨Y,hY,aa,hE⟩:=KU ag.o cM.o au [jc ⟨#[]⟩,ja jb 0,jd none 0 0] rfl;have a8:=fun i=>ag.o.frozen i;have q0:wB.cell? ⟨R,0,none⟩=some (jc ⟨#[]⟩):=ag.o.cell 0
      have q1:wB.cell? ⟨R,1,none⟩=some (ja jb 0):=ag.o.cell 1;have q2:wB.cell? ⟨R,2,none⟩=some (jd none 0 0):=ag.o.cell 2;simp only[setAll,xc,Nat.reduceAdd]at hY;go_wp2_with (fail);rw[<-hY];clear hY;have r0:=aa.c3;exact bodyPost_ret (v:=jg #[.agg #[jc ⟨#[]⟩,ja jb 0,jd none 0 0],ja jb 2]) (by simp[results,Tryz.results17,go_sem,r0]) rfl ⟨EW (Va aQ.o.symm aV.o.symm aF.o.symm (by omega) bL.o (by rw[<-cR.o];exact bC)) (by decide),hE⟩
     have dj:=Lh (RX aQ.o.symm aV.o.symm aF.o.symm (show ¬64<(ls.length:Int)by omega) bL.o (show ¬256<((Bp g t 1 ls []).length:Int)by rw[<-cR.o];exact bC));obtain⟨Y,hY,aa,hE⟩:=KU ag.o cM.o au [jc nm,ja jb (ls.length:Int),jd av ts.length cv] rfl;have ca:Av w.heap.size Y (jd av ts.length cv) ts:=by
      rw[hY];exact⟨A0 (by decide) _ 0 wB _ (Ab A.o.row.row aX) ag.o,fun x hx=>⟨(A.o.row.ref x hx).1,A0 (by decide) _ 0 wB _ (Ab (A.o.row.ref x hx).2.1 aX) ag.o,A0 (by decide) _ 0 wB _ (Ab (A.o.row.ref x hx).2.2 aX) ag.o⟩⟩
     have aM:=Lh ca;clear ca;have a8:=fun i=>ag.o.frozen i;have q0:wB.cell? ⟨R,0,none⟩=some (jc ⟨#[]⟩):=ag.o.cell 0
     have q1:wB.cell? ⟨R,1,none⟩=some (ja jb 0):=ag.o.cell 1;have q2:wB.cell? ⟨R,2,none⟩=some (jd none 0 0):=ag.o.cell 2;simp only[setAll,xc,Nat.reduceAdd]at hY;go_wp2_with (fail);rw[<-hY];clear hY;have r0:=aa.c3;exact bodyPost_ret (v:=jg #[.agg #[jc nm,ja jb (ls.length:Int),jd av ts.length cv],ja jb 0]) (by simp[results,Tryz.results17,go_sem,r0]) rfl ⟨TT dj.o aM.o V.o,hE⟩
    have bt:(k:Int)+1<=(ls.length:Int):=by omega
    have dT:(0:Int)<=(k:Int):=by omega
    have eG:(k:Int)<(ls.length:Int):=by omega
    have eI:IntKind.i64.wrap ((k:Int)+1 - 1)=(k:Int):=by rw[IntKind.wrap_i64];omega
    have ee:IntKind.i64.wrap (k:Int)=(k:Int):=by rw[IntKind.wrap_i64];omega
    have eP:((k:Int)).toNat=k:=by omega
    obtain⟨l,hl⟩: ∃l,ls[k]?=some l:=⟨_,xb bh⟩
    obtain⟨b,o,p,q,ha,d7,hcell,b4,bR,hl1,bi⟩:=di.o.at_ hl;subst ha;have ec:l.length<=96:=SQ (JQ _ _ bL.o l (xj hl));have dA:b<F:=by omega
    have b8:=Lh (show ∀W,Below F wA W->W.cell? ⟨b,o+k,none⟩=some (jd p l.length q)from fun W h=>(h.cell (p:=⟨b,o+k,none⟩) dA).trans hcell);have dV:=Lh (show ∀W,Below F wA W->D6 F W p l from fun W h=>(bi.mono aX).below h);obtain⟨e0,bq⟩: ∃e,e=Bp g t 1 (ls.take k) []:=⟨_,rfl⟩
    rw[<-bq]at V;have dW:=Lh (show Bp g t 1 (ls.take (k+1)) []=Gh g t ((k:Int)+1) l e0 from by rw[bq];exact Gb g t ls k l hl);have eb:=Lh (show BG e0 from by rw[bq];exact Gl g t _ _ _ List.Pairwise.nil);clear bq bi b4 bR hl1 hcell hl;obtain⟨wK,cA⟩: ∃q,q=wr:=⟨_,rfl⟩
    rw[<-cA]at A ⊢;clear cA;go_wp2_with fail;go_loopw [14,15] (fun sv iv wr=> ∃(i:Nat) (fv:Value) (ts:List Hk) (D:List ByteArray),iv=ja jb i/\i<=l.length/\ts.length<=96*k+i/\D.length<=i/\Hid (Ki wA wr F nm (ls.length:Int) fv ts D sv)/\Hid (ts.map (·.1)=(Ca g t ((k:Int)+1) (l.take i)).foldl (CK ((k:Int)+1)) e0)/\Hid (D=(Ca g t ((k:Int)+1) (l.take i)).map (·.uid))) (fun _ iv _=>l.length - (intOf iv).toNat)
    case atStart=>exact⟨0,fv,ts,[],rfl,xd _,by omega,xf _,A,V,Lh rfl⟩
    case round=>
     clear A V bW;obtain⟨i,fv,ts,D,rfl,hi,bW,eN,A,V,bz⟩:=hrel;obtain⟨ps,cs,dd⟩:=A.o.seen.slice;subst dd;have x0:=b8.o wr A.o.bel;by_cases cT:i<l.length
     rotate_left
     ·have dS: ¬(i:Int)<(l.length:Int):=by omega
      obtain rfl:i=l.length:=by omega
      rw[List.take_length]at V bz;obtain⟨e1,aH⟩: ∃e,e=(Ca g t ((k:Int)+1) l).foldl (CK ((k:Int)+1)) e0:=⟨_,rfl⟩
      rw[<-aH]at V;have cZ:=Lh (show Gh g t ((k:Int)+1) l e0=e1.map (Dp ((k:Int)+1) D)from by rw[aH,bz.o];rfl);clear aH hi cT;have a6:ts.length=e1.length:=by rw[<-V.o,xe]
      have er:e1.length<=96*(k+1):=by omega
      have cK:=Lh (show ts.map (·.1)=(e1.take 0).map (Dp ((k:Int)+1) D)++e1.drop 0 from by rw[V.o];simp);go_wp2_with fail;clear x0 bW;go_loopw [20] (fun iv wr=> ∃(j:Nat) (fv:Value) (ts:List Hk),iv=ja jb j/\j<=e1.length/\ts.length=e1.length/\Hid (Ki wA wr F nm (ls.length:Int) fv ts D (jd ps D.length cs))/\Hid (ts.map (·.1)=(e1.take j).map (Dp ((k:Int)+1) D)++e1.drop j)) (fun iv _=>e1.length - (intOf iv).toNat)
      case atStart=>exact⟨0,fv,ts,rfl,xd _,a6,A,cK⟩
      case round=>
       clear A V cK a6;obtain⟨j,fv,ts,rfl,hj,a6,A,V⟩:=hrel;obtain⟨av,cv,aZ,aA,aw⟩:=A.o.row.seg;subst aZ;clear aw aA;have f2:wr.cell? ⟨F,2,none⟩=some (jd av ts.length cv):=A.o.box.cell 2;by_cases cW:j<e1.length
       rotate_left
       ·have cE: ¬(j:Int)<(ts.length:Int):=by omega
        obtain rfl:j=e1.length:=by omega
        rw[List.take_length,List.drop_length,xi]at V;have d0:=Lh (show ts.map (·.1)=Bp g t 1 (ls.take (k+1)) []from by rw[dW.o,cZ.o];exact V.o);have da:=Lh A.o.fresh;go_wp2_with fail;go_roundw
        case rel=>exact⟨k+1,_,ts,by go_num,by omega,by omega,da,d0⟩
        case measure=>simp[intOf];omega
       have cE:(j:Int)<(ts.length:Int):=by omega
       have dM:(0:Int)<=(j:Int):=by omega
       have dG:((j:Int)).toNat=j:=by omega
       obtain⟨ej,bJ⟩: ∃e,e1[j]?=some e:=⟨_,xb cW⟩
       obtain⟨tj,Z,aK⟩: ∃t,ts[j]?=some t/\t.1=ej:=by
        have h2:=Ub (f:=(Dp ((k:Int)+1) D)) bJ;rw[<-V.o,xl]at h2;cases hq:ts[j]? with
        | none=>rw[hq]at h2;cases h2
        | some t=>rw[hq]at h2;exact⟨t,rfl,by simpa using h2⟩
       have cf:=Lh bJ;have aL:=Lh Z;have bK:=Lh aK;obtain⟨gg,bU⟩:=A.o.row.ptr (by omega);subst bU;have c0:wr.cell? ⟨gg,j*13,none⟩=some (jc ej.uid):=A.o.row.one13 (i:=0) Z (by decide) (by rw[<-aK];rfl);have c2:wr.cell? ⟨gg,j*13+2,none⟩=some (je ej.canc):=A.o.row.one13 (i:=2) Z (by decide) (by rw[<-aK];rfl);clear bJ Z aK;have bZ:gg<wr.heap.size:=World.block_lt_of_cell? _ ⟨gg,j*13,none⟩ c0;have cP:=A.o.lt;obtain⟨wN,cL⟩: ∃q,q=wr:=⟨_,rfl⟩
       rw[<-cL]at A f2 c0 c2 bZ cP ⊢;clear cL;have dY:=Lh c0;have aW:=Lh c2;have dr:=Lh f2;go_wp2_with fail;clear c0 c2 f2;go_loopw [21,22] (fun hv iv wr=> ∃i:Nat,hv=je (ej.canc || (D.take i).any (fun u=>decide (u=ej.uid)))/\iv=ja jb i/\i<=D.length/\Hid (Below wN.heap.size wN wr)) (fun _ iv _=>D.length - (intOf iv).toNat)
       case atStart=>exact⟨0,by simp,rfl,xd _,Lh (Below.refl _ _)⟩
       case round=>
        obtain⟨i,rfl,rfl,eM,M⟩:=hrel;have f2:wr.cell? ⟨F,2,none⟩=some (jd (some ⟨gg,0,none⟩) ts.length cv):=(M.o.cell (p:=⟨F,2,none⟩) cP).trans dr.o;have c0:wr.cell? ⟨gg,j*13,none⟩=some (jc ej.uid):=(M.o.cell (p:=⟨gg,j*13,none⟩) bZ).trans dY.o;by_cases cI:i<D.length
        rotate_left
        ·have cz: ¬(i:Int)<(D.length:Int):=by omega
         obtain rfl:i=D.length:=by omega
         rw[List.take_length];have H:=Lh (A.o.made M.o);obtain⟨gb,hgb⟩: ∃b,b=(ej.canc || D.any (fun u=>decide (u=ej.uid))):=⟨_,rfl⟩
         rw[<-hgb];have ce:=Lh hgb;clear hgb;cases gb
         ·have c2:wr.cell? ⟨gg,j*13+2,none⟩=some (je ej.canc):=(M.o.cell (p:=⟨gg,j*13+2,none⟩) bZ).trans aW.o;have c1:wr.cell? ⟨gg,j*13+1,none⟩=some (ja jb ej.seq):=H.o.row.one13 (i:=1) aL.o (by decide) (by rw[<-bK.o];rfl);have bV: ∀i,wr.frozen? ⟨gg,i,none⟩=false:=fun i=>Kx H.o.row.row i
          have dy:=bV (j*13+2);have c7:=bV (j*13+1);have bo:=H.o.row.row.stored (j*13+2) (je true);have dU:=Lh (H.o.box.grown H.o.row.row (show wr.grownBy _ (Value.ownBlock (jd (some ⟨gg,0,none⟩) ts.length cv))from bo.2) (by decide));have dg:(wr.setCell ⟨gg,j*13+2,none⟩ (je true)).cell? ⟨F,2,none⟩=some (jd (some ⟨gg,0,none⟩) ts.length cv):=dU.o.cell 2;have dL:(wr.setCell ⟨gg,j*13+2,none⟩ (je true)).cell? ⟨gg,j*13+1,none⟩=some (ja jb ej.seq):=by
           have h3:=bo.1.cells (g:=gg) rfl (j*13+1) (ja jb ej.seq) (by rw[List.getElem?_set_ne (by omega),Eb ts j 1 tj aL.o (by decide),<-bK.o];rfl);rw[Addr.add_lit,xc]at h3;exact h3
          have dH:(wr.setCell ⟨gg,j*13+2,none⟩ (je true)).frozen? ⟨gg,j*13+1,none⟩=false:=Kx bo.1 _;clear bo bV;go_upto_region 39 with(fail)
          go_region
          clear dg dL dH dy c7 c1 c2 f2 c0;have dv:=Lh (H.o.flag (k:=((k:Int)+1)) rfl aL.o);have al:=Lh (show(ts.set j (Kh ((k:Int)+1) tj)).map (·.1)=(e1.take (j+1)).map (Dp ((k:Int)+1) D)++e1.drop (j+1)from by
           rw[List.map_set,V.o,show(Kh ((k:Int)+1) tj).1=(Dp ((k:Int)+1) D) ej from by rw[Ua ce.o.symm,<-bK.o];rfl];exact Sk cf.o)
          have dP:(ts.set j (Kh ((k:Int)+1) tj)).length=ts.length:=List.length_set;go_wp2_with fail;refine⟨⟨j+1,_,_,by go_num,by omega,dP.trans a6,Lh (dv.o.made (Ac (Below.refl _ _))),al⟩,by simp[intOf];omega⟩
         ·have al:=Lh (show ts.map (·.1)=(e1.take (j+1)).map (Dp ((k:Int)+1) D)++e1.drop (j+1)from by rw[V.o];exact QB cf.o (Sj ce.o.symm));go_wp2_with fail;go_roundw
          case rel=>exact⟨j+1,_,ts,by go_num,by omega,a6,H,al⟩
          case measure=>simp[intOf];omega
        have cz:(i:Int)<(D.length:Int):=by omega
        have eg:(0:Int)<=(i:Int):=by omega
        have ed:((i:Int)).toNat=i:=by omega
        obtain⟨y,hy⟩: ∃y,D[i]?=some y:=⟨_,xb cI⟩
        obtain⟨gs,dJ,cy⟩:=(A.o.made M.o).seen.at_ hy;subst dJ;have ch:=Lh (P1 D ej.uid y i hy);obtain⟨fb,bY⟩: ∃b,b=(ej.canc || (D.take i).any (fun u=>decide (u=ej.uid))):=⟨_,rfl⟩
        rw[<-bY];have cO:=Lh bY;clear bY hy;cases fb
        ·go_upto_region 37 with(fail);go_region;go_wp2_with fail;go_roundw
         case rel=>exact⟨i+1,congrArg Value.bool (by rw[ch.o,<-Bool.or_assoc,<-cO.o,Fq];simp),by go_num,by omega,Lh (by first | exact M.o | exact Ac M.o)⟩
         case measure=>simp[intOf];omega
        ·go_upto_region 37 with(fail);go_region;go_wp2_with fail;go_roundw
         case rel=>exact⟨i+1,congrArg Value.bool (by rw[ch.o,<-Bool.or_assoc,<-cO.o];rfl),by go_num,by omega,Lh (by first | exact M.o | exact Ac M.o)⟩
         case measure=>simp[intOf];omega
     have dS:(i:Int)<(l.length:Int):=by omega
     have eK:(0:Int)<=(i:Int):=by omega
     have eH:((i:Int)).toNat=i:=by omega
     obtain⟨y,hy⟩: ∃y,l[i]?=some y:=⟨_,xb cT⟩
     obtain⟨b2,o2,dD,ar,aI⟩:=(dV.o wr A.o.bel).form (by omega);subst dD;have aC:F<wr.heap.size:=A.o.lt;have az:=Lh (b9.o.below A.o.bel dK);have aJ:=Lh (cC.o.below A.o.bel dt);have aO:=Lh (show ∀W',Below wr.heap.size wr W'->W'.cell? ⟨b,o+k,none⟩=some (jd (some ⟨b2,o2,none⟩) l.length q)/\W'.cell? ⟨G,0,none⟩=some (ja jb g.days)/\W'.cell? ⟨G,1,none⟩=some (ja jb g.slots)/\W'.cell? ⟨G,2,none⟩=some (ja jb g.begin_)/\W'.cell? ⟨G,3,none⟩=some (ja jb g.mins)/\W'.cell? ⟨T,0,none⟩=some (ja jb t.first)/\W'.cell? ⟨T,1,none⟩=some (ja jb t.weeks)/\W'.cell? ⟨T,2,none⟩=some (jd ao t.hols.length c)/\W'.cell? ⟨b2,o2+i*6,none⟩=some (jc y.cls)/\W'.cell? ⟨b2,o2+i*6+1,none⟩=some (ja jb y.tim.weeks)/\W'.cell? ⟨b2,o2+i*6+2,none⟩=some (ja jb y.tim.day)/\W'.cell? ⟨b2,o2+i*6+3,none⟩=some (ja jb y.tim.start)/\W'.cell? ⟨b2,o2+i*6+4,none⟩=some (ja jb y.tim.len)/\W'.cell? ⟨b2,o2+i*6+5,none⟩=some (jc y.room)from fun W' h=>⟨b8.o W' (A.o.bel.trans (h.mono (xm aC))),(az.o.below h az.o.lt).cell 0,(az.o.below h az.o.lt).cell 1,(az.o.below h az.o.lt).cell 2,(az.o.below h az.o.lt).cell 3,(aJ.o.below h aJ.o.lt).cell 0,(aJ.o.below h aJ.o.lt).cell 1,(aJ.o.below h aJ.o.lt).cell 2,(h.cell (p:=⟨b2,o2+i*6,none⟩) (Nat.lt_trans ar aC)).trans (aI i 0 y _ hy rfl),(h.cell (p:=⟨b2,o2+i*6+1,none⟩) (Nat.lt_trans ar aC)).trans (aI i 1 y _ hy rfl),(h.cell (p:=⟨b2,o2+i*6+2,none⟩) (Nat.lt_trans ar aC)).trans (aI i 2 y _ hy rfl),(h.cell (p:=⟨b2,o2+i*6+3,none⟩) (Nat.lt_trans ar aC)).trans (aI i 3 y _ hy rfl),(h.cell (p:=⟨b2,o2+i*6+4,none⟩) (Nat.lt_trans ar aC)).trans (aI i 4 y _ hy rfl),(h.cell (p:=⟨b2,o2+i*6+5,none⟩) (Nat.lt_trans ar aC)).trans (aI i 5 y _ hy rfl)⟩);obtain⟨E,hE⟩: ∃E,E=Oj g t y ((k:Int)+1):=⟨_,rfl⟩
     obtain⟨bb,hbb⟩: ∃x,x=On g t y:=⟨_,rfl⟩
     have aF:=Lh (show ∀W,Below wr.heap.size wr W->Calls Tryz.prog 37 #[.agg #[ja jb g.days,ja jb g.slots,ja jb g.begin_,ja jb g.mins],.agg #[ja jb t.first,ja jb t.weeks,jd ao t.hols.length c],.agg #[jc y.cls,ja jb y.tim.weeks,ja jb y.tim.day,ja jb y.tim.start,ja jb y.tim.len,jc y.room],ja jb ((k:Int)+1)] W (UB E bb W)from fun W hW=>by rw[hE,hbb];exact WR g t y ((k:Int)+1) ao c W.heap.size W (xf _) ((dq.o.below ((A.o.bel.trans (hW.mono (xm aC))).mono aX)).mono (by have:=hW.size;omega)) hn);have aq:=Lh (show Ca g t ((k:Int)+1) (l.take (i+1))=Ca g t ((k:Int)+1) (l.take i)++(if bb=true then[GJ g t y ((k:Int)+1)]else[])from by rw[hbb,List.take_add_one,hy,Option.toList_some,NS]);have dk:=Lh hE;have cn:=Lh hbb;clear hE hbb aI;go_upto_region 21 with(fail)
     clear x0;have hP:=fun x (h:gF wr.heap.size E wr x)=>aO.o x h.1
     refine AH (GR.f wr.heap.size E) 17 [gE _,gE _,gE _,gE _,gE _,gE _,gE _,gE _,gE _,gE _,gE _,fun _ u x=> ∃p pp ka kb,u=jg #[AW E (jd p E.days.ex.length ka) (jd pp E.days.xt.length kb),je bb]/\Ah wr.heap.size x (jd p E.days.ex.length ka) E.days.ex/\Ah wr.heap.size x (jd pp E.days.xt.length kb) E.days.xt,fun _ u x=> ∃p pp ka kb,u=jg #[AW E (jd p E.days.ex.length ka) (jd pp E.days.xt.length kb),je bb]/\Ah wr.heap.size x (jd p E.days.ex.length ka) E.days.ex/\Ah wr.heap.size x (jd pp E.days.xt.length kb) E.days.xt,fun _ u x=> ∃p pp ka kb,u=AW E (jd p E.days.ex.length ka) (jd pp E.days.xt.length kb)/\Ah wr.heap.size x (jd p E.days.ex.length ka) E.days.ex/\Ah wr.heap.size x (jd pp E.days.xt.length kb) E.days.xt,gE _,fun _ u x=> ∃S,u=jf (some ⟨S,0,none⟩)/\wr.heap.size<=S/\ ∃cs,cs.size=13/\Af S cs 61 x,fun d _ x=> ∃S,d.head?=some (jf (some ⟨S,0,none⟩))/\WI wr.heap.size E S x] rfl EA ⟨qE,qE,qE,qE,qE,qE,qE,qE,qE,qE,qE,by
      intro v x h0 h QQ K;simp only[A2,A1,gE,exists_and_left,and_true]at h;simp only[h]at K ⊢;go_wp2_with fail;refine(aF.o x h0.1).mono ?_;rintro _ z ⟨p,pp,ka,kb,rfl,hx,hy,hb⟩;go_wp2_with fail;exact K _ _ ⟨p,pp,ka,kb,rfl,Ab hx h0.1.size,Ab hy h0.1.size⟩ (.inr (.of h0.1.size hb)),by
      intro v x h0 h QQ K;simp only[A2,A1]at h;obtain⟨⟨z,⟨p,pp,ka,kb,e,hx,hy⟩,gz⟩, -⟩:=h;simp only[e]at K ⊢;go_wp2_with fail;exact K _ _ ⟨p,pp,ka,kb,rfl,gz.2.1 _ _ hx,gz.2.1 _ _ hy⟩ (.inl rfl),by
      intro v x h0 h QQ K;simp only[A2,A1]at h;obtain⟨⟨z,⟨p,pp,ka,kb,e,hx,hy⟩,gz⟩, -⟩:=h;simp only[e]at K ⊢;go_wp2_with fail;exact K _ _ ⟨p,pp,ka,kb,rfl,gz.2.1 _ _ hx,gz.2.1 _ _ hy⟩ (.inl rfl),by
      intro v x h0 h QQ K;simp only[A2,A1]at h;obtain⟨⟨z,⟨p,pp,ka,kb,e,hx,hy⟩,gz⟩, -⟩:=h;simp only[e]at K ⊢;go_wp2_with fail;exact K _ _ rfl (.inl rfl),by
      intro v x h0 h QQ K;go_wp2_with fail;exact K _ _ ⟨_,rfl,h0.1.size,_,rfl,Af.new x _ _⟩ (.inr (.of h0.1.size (Aa x _))),by
      intro v x h0 h QQ K;simp only[A2,A1]at h;obtain⟨⟨z1,⟨S,eS,hS,cs,hc,hB⟩,g1⟩,⟨z2,⟨p,pp,ka,kb,e,hx,hy⟩,g2⟩, -⟩:=h;obtain⟨cs,hB,hc⟩:=g1.2.2.1 S cs hB hc;obtain⟨x0,x1,x2,x3,x4,x5,x6,x7,U,x9,ep,el,eO,rfl⟩:=Wo hc;have f:=fun i=>hB.frozen i
      have y:=hB.c13;obtain⟨Y,hY,aa,hr,hE⟩:=Jz hB E (jd p E.days.ex.length ka) (jd pp E.days.xt.length kb);have hx:=g2.2.1 _ _ hx;have hy:=g2.2.1 _ _ hy;have ho: ∀g' cs,g'≠S->Af g' cs 61 x->Af g' cs 61 Y:=fun g' cs hne h=>by rw[show Y=setAll x S 0 (Ae E (jd p E.days.ex.length ka) (jd pp E.days.xt.length kb)).toList from hY];exact Gs hne _ _ _ h
      simp only[eS,e,AW,Ae,E7]at K ⊢;go_wp2_with fail;rw[<-hY];clear hY f y;exact K (ja jb 0) _ ⟨S,rfl,p,pp,ka,kb,aa,hr _ _ _ hx,hr _ _ _ hy⟩ (.inr ⟨hE _ _ hS (Below.refl _ _),hr _,fun g' cs h hc=>by
       by_cases hne:g'=S
       ·subst hne;exact⟨_,aa,rfl⟩
       ·exact⟨cs,ho g' cs hne h,hc⟩,fun g' ⟨p',dN,dZ,dQ,h,dc,d5⟩=>by
       by_cases hne:g'=S
       ·subst hne;exact⟨p,pp,ka,kb,aa,hr _ _ _ hx,hr _ _ _ hy⟩
       ·exact⟨p',dN,dZ,dQ,ho g' _ hne h,hr _ _ _ dc,hr _ _ _ d5⟩⟩),trivial⟩ ?_
     intro v x h0 h;simp only[Dt,gE,exists_and_left,Nat.reduceAdd]at h;obtain⟨-, -, -, -, -, -, -, -, -, -, -, -, -, -,⟨cN, -⟩,⟨z,⟨S,bM, -⟩, -⟩,⟨z',⟨S1,cH,hF⟩,gz⟩, -⟩:=h;simp only[E7,List.head?_cons,bM,Option.some.injEq,Value.pointer.injEq,Addr.mk.injEq,and_true]at cH;subst cH;obtain⟨p,pp,ka,kb,aa,hx,hy⟩:=gz.2.2.2 _ hF;have hb:=h0.1;simp only[cN,bM,Ci];clear cN bM gz hF hP;go_upto_region 22 with(fail);obtain⟨wb,cx⟩: ∃Q,Q=x:=⟨_,rfl⟩
     rw[<-cx]at aa hx hy hb ⊢;clear cx;have bG:=Lh aa;have cU:=Lh (show Ah wr.heap.size wb (jd p E.days.ex.length ka) E.days.ex from hx);have cw:=Lh (show Ah wr.heap.size wb (jd pp E.days.xt.length kb) E.days.xt from hy);have aN:=Lh (A.o.made hb);clear aa hx hy hb az aJ aO aF A;cases bb
     ·have al:=Lh (show ts.map (·.1)=(Ca g t ((k:Int)+1) (l.take (i+1))).foldl (CK ((k:Int)+1)) e0 from by rw[aq.o,if_neg (by decide),xi];exact V.o);have aY:=Lh (show D=(Ca g t ((k:Int)+1) (l.take (i+1))).map (·.uid)from by rw[aq.o,if_neg (by decide),xi];exact bz.o);go_wp2_with fail;go_roundw
      case rel=>exact⟨i+1,fv,ts,D,by go_num,by omega,by omega,by omega,aN,al,aY⟩
      case measure=>simp[intOf];omega
     ·have db:=Lh ((Pd _ _ _).1 cn.o.symm);have aB:=Lh (show E=GJ g t y ((k:Int)+1)from by rw[dk.o,SB cn.o.symm]);have cG:=Lh (show ND E from by rw[aB.o];exact VD db.o ((k:Int)+1));obtain⟨i9,dz,dF,dx,dX⟩:=info_parts Sf;have k0:wb.cell? ⟨S,0,none⟩=some (jc E.uid):=bG.o.cell 0;have eD:=bG.o.lt;have eW:=aN.o.lt;go_wp2_with (at_builtin;refine wpList_append_own_at _ rfl (.tmp 94) (.tmp 97) 98 rfl F 9 i9 (jc ⟨#[]⟩) 1 16 Tryz.underlying98 dz dF dx dX rfl (by decide) _ _ _ rfl (xa aN.o.seen _) ⟨wb.heap.size,0,none⟩ 1 1 [jc E.uid] rfl rfl (Bq _ _ _) (by intro u hu;simp at hu;subst hu;rfl) (by unfold maxLen;omega) (by omega) (by simp;omega) ?_);intro v8 U a7 am _ cB;have H:=Lh ((aN.o.made (Aa wb _)).app am a7);have M:=Lh ((bG.o.alloc _).grown (xa aN.o.seen _) am (by decide));have co:=Lh (World.ownsRow.kept (xa cU.o (ji #[jc E.uid] 9)) am (AU (xa cU.o (ji #[jc E.uid] 9)) (xa aN.o.seen (ji #[jc E.uid] 9)) (by decide)));have cQ:=Lh (World.ownsRow.kept (xa cw.o (ji #[jc E.uid] 9)) am (AU (xa cw.o (ji #[jc E.uid] 9)) (xa aN.o.seen (ji #[jc E.uid] 9)) (by decide)));obtain⟨p8,q8,dR⟩:=H.o.seen.slice;subst dR;clear am a7 cB k0;obtain⟨aj,bw⟩: ∃h,h=D++[E.uid]:=⟨_,rfl⟩
      rw[<-bw]at H ⊢;have ba:aj.length<=i+1:=by rw[bw];simp;omega
      have aY:=Lh (show aj=(Ca g t ((k:Int)+1) (l.take (i+1))).map (·.uid)from by rw[bw,aq.o,if_pos trivial,List.map_append,<-bz.o,<-aB.o];rfl);clear bw;obtain⟨av,cv,aZ,aA,aw⟩:=H.o.row.seg;subst aZ;obtain⟨fd,bI⟩: ∃f,f=Aw E.uid (ts.map (·.1)) 0:=⟨_,rfl⟩
      have bD:=Lh (show Calls Tryz.prog 38 #[jd av ts.length cv,jc E.uid] U fun e w'=>e=jh (ja jb fd)/\w'=U from by
       have h:=Vz E.uid (ts.map (·.1)) av cv U.heap.size U aw.evs (by rw[xe];omega);rw[xe,<-bI]at h;exact h)
      clear aw aA;have cJ:=Lh bI;clear bI;have f2:U.cell? ⟨F,2,none⟩=some (jd av ts.length cv):=H.o.box.cell 2;have k0:U.cell? ⟨S,0,none⟩=some (jc E.uid):=M.o.cell 0;have et:=H.o.lt;go_upto_region 25 with(go_at_call 38;(with_reducible refine bD.o.mono ?_);rintro e w9 ⟨rfl,cb⟩;rw[cb];clear cb w9)
      clear bD;rcases M1 E.uid (ts.map (·.1)) 0 (Int.le_refl 0)with⟨h1,hg⟩ | ⟨j,o,h1,h2,h3⟩
      ·rw[<-cJ.o]at h1;have eh: ¬0<=fd:=by omega
       have bm:=Lh hg;clear hg;have cV:=Lh H.o.box;have aM:=Lh (show Cf F U (E,(jd p E.days.ex.length ka),(jd pp E.days.xt.length kb))from⟨cG.o,Ab co.o (by omega),Ab cQ.o (by omega)⟩);have dl:=H.o.lt;obtain⟨b6,bP,be,bl,bc⟩:=H.o.row.seg;have bN:av=b6/\cv=bP:=by injection be with h1 h2 h3;exact⟨h1,h3⟩
       obtain⟨rfl,rfl⟩:=bN;have HP:=Lh (UG E p pp ka kb av cv ts U.heap.size U (xf _) bc bl H.o.row.cap2 (by omega) (aM.o.s));unfold AW Ae at HP;clear bc bl be;have al:=Lh (show(Cx (E,(jd p E.days.ex.length ka),(jd pp E.days.xt.length kb)) ts).map (·.1)=(Ca g t ((k:Int)+1) (l.take (i+1))).foldl (CK ((k:Int)+1)) e0 from by rw[EP,aq.o,if_pos trivial,xg,xh,List.foldl_nil,<-V.o,<-aB.o];exact(Q4 bm.o).symm);have dB:=IY (E,(jd p E.days.ex.length ka),(jd pp E.days.xt.length kb)) ts;have f2:U.cell? ⟨F,2,none⟩=some (jd av ts.length cv):=cV.o.cell 2;have k0:U.cell? ⟨S,0,none⟩=some (jc E.uid):=M.o.cell 0;have k1:U.cell? ⟨S,1,none⟩=some (ja jb E.seq):=M.o.cell 1;have k2:U.cell? ⟨S,2,none⟩=some (je E.canc):=M.o.cell 2;have k3:U.cell? ⟨S,3,none⟩=some (ja jb E.days.first):=M.o.cell 3;have k4:U.cell? ⟨S,4,none⟩=some (ja jb E.days.last):=M.o.cell 4;have k5:U.cell? ⟨S,5,none⟩=some (ja jb E.days.every):=M.o.cell 5;have k6:U.cell? ⟨S,6,none⟩=some (ja jb E.days.wd):=M.o.cell 6;have k7:U.cell? ⟨S,7,none⟩=some (jd p E.days.ex.length ka):=M.o.cell 7;have k8:U.cell? ⟨S,8,none⟩=some (jd pp E.days.xt.length kb):=M.o.cell 8;have k9:U.cell? ⟨S,9,none⟩=some (ja jb E.start):=M.o.cell 9;have dO:U.cell? ⟨S,10,none⟩=some (ja jb E.mins):=M.o.cell 10;have c8:U.cell? ⟨S,11,none⟩=some (jc E.summ):=M.o.cell 11;have dm:U.cell? ⟨S,12,none⟩=some (jc E.loc):=M.o.cell 12;go_wp2_with (go_at_call 39;(with_reducible refine HP.o.mono ?_);rintro e w7 ⟨u7,rfl,ae,ay⟩;obtain⟨p7,q7,bQ⟩:=AM ae;subst bQ;have bH:=Lh (H.o.put aM.o ae ay);have f7:w7.cell? ⟨F,2,none⟩=some (jd av ts.length cv):=(H.o.made ay).box.cell 2;have dw:=(H.o.made ay).box.frozen 2;clear ae ay);go_roundw
       case rel=>exact⟨i+1,_,Cx (E,(jd p E.days.ex.length ka),(jd pp E.days.xt.length kb)) ts,aj,by go_num,by omega,by omega,ba,bH,al,aY⟩
       case measure=>simp[intOf];omega
      ·obtain⟨tj,Z,aK⟩: ∃t,ts[j]?=some t/\t.1=o:=by
        rw[xl]at h2;cases hq:ts[j]? with
        | none=>rw[hq]at h2;cases h2
        | some t=>rw[hq]at h2;exact⟨t,rfl,by simpa using h2⟩
       rw[<-cJ.o]at h1;have d8:fd=(j:Int):=by omega
       clear h1 h2;subst d8;have cW:=(List.getElem?_eq_some_iff.1 Z).1;obtain⟨gg,bU⟩:=H.o.row.ptr (by omega);subst bU;have aL:=Lh (H.o.row.ref tj (xj Z));obtain⟨p4,p5,k4,k5,ac⟩:=aL.o.form;obtain⟨J,b1⟩: ∃e,e=tj.1:=⟨_,rfl⟩
       rw[<-b1]at ac;have bm:=Lh (show Cp E.uid (ts.map (·.1))=some J from by rw[b1,aK];exact h3);clear h3 aK b1;rw[ac]at aL;have y0:U.cell? ⟨gg,j*13,none⟩=some (jc J.uid):=H.o.row.one13 (i:=0) Z (by decide) (by rw[ac];rfl);have y1:U.cell? ⟨gg,j*13+1,none⟩=some (ja jb J.seq):=H.o.row.one13 (i:=1) Z (by decide) (by rw[ac];rfl);have y2:U.cell? ⟨gg,j*13+2,none⟩=some (je J.canc):=H.o.row.one13 (i:=2) Z (by decide) (by rw[ac];rfl);have y3:U.cell? ⟨gg,j*13+3,none⟩=some (ja jb J.days.first):=H.o.row.one13 (i:=3) Z (by decide) (by rw[ac];rfl);have y4:U.cell? ⟨gg,j*13+4,none⟩=some (ja jb J.days.last):=H.o.row.one13 (i:=4) Z (by decide) (by rw[ac];rfl);have y5:U.cell? ⟨gg,j*13+5,none⟩=some (ja jb J.days.every):=H.o.row.one13 (i:=5) Z (by decide) (by rw[ac];rfl);have y6:U.cell? ⟨gg,j*13+6,none⟩=some (ja jb J.days.wd):=H.o.row.one13 (i:=6) Z (by decide) (by rw[ac];rfl);have y7:U.cell? ⟨gg,j*13+7,none⟩=some (jd p4 J.days.ex.length k4):=H.o.row.one13 (i:=7) Z (by decide) (by rw[ac];rfl);have y8:U.cell? ⟨gg,j*13+8,none⟩=some (jd p5 J.days.xt.length k5):=H.o.row.one13 (i:=8) Z (by decide) (by rw[ac];rfl);have y9:U.cell? ⟨gg,j*13+9,none⟩=some (ja jb J.start):=H.o.row.one13 (i:=9) Z (by decide) (by rw[ac];rfl);have d6:U.cell? ⟨gg,j*13+10,none⟩=some (ja jb J.mins):=H.o.row.one13 (i:=10) Z (by decide) (by rw[ac];rfl);have de:U.cell? ⟨gg,j*13+11,none⟩=some (jc J.summ):=H.o.row.one13 (i:=11) Z (by decide) (by rw[ac];rfl);have dp:U.cell? ⟨gg,j*13+12,none⟩=some (jc J.loc):=H.o.row.one13 (i:=12) Z (by decide) (by rw[ac];rfl);clear ac Z;have dM:(0:Int)<=(j:Int):=by omega
       have cE:(j:Int)<(ts.length:Int):=by omega
       have dG:((j:Int)).toNat=j:=by omega
       obtain⟨O,hO⟩: ∃z,z=U.heap.size:=⟨_,rfl⟩
       obtain⟨wO,bn⟩: ∃z,z=U.alloc (ji #[jc J.uid,ja jb J.seq,je J.canc,ja jb J.days.first,ja jb J.days.last,ja jb J.days.every,ja jb J.days.wd,jd p4 J.days.ex.length k4,jd p5 J.days.xt.length k5,ja jb J.start,ja jb J.mins,jc J.summ,jc J.loc] 61):=⟨_,rfl⟩
       have cg:=Lh (show Below U.heap.size U wO from by rw[bn];exact Aa U _);have HO:=Lh (show Af O #[jc J.uid,ja jb J.seq,je J.canc,ja jb J.days.first,ja jb J.days.last,ja jb J.days.every,ja jb J.days.wd,jd p4 J.days.ex.length k4,jd p5 J.days.xt.length k5,ja jb J.start,ja jb J.mins,jc J.summ,jc J.loc] 61 wO from by rw[bn,hO];exact Af.new U _ _);go_upto_region 27 with(fail);rw[<-bn,<-hO];have dh:=Lh hO;clear hO bn y0 y1 y2 y3 y4 y5 y6 y7 y8 y9 d6 de dp;have v1:wO.cell? ⟨O,1,none⟩=some (ja jb J.seq):=HO.o.cell 1;have vf:=HO.o.frozen 1;go_upto_region 28 with(fail)
       obtain⟨wP,bA⟩: ∃z,z=wO.setCell ⟨O,1,none⟩ (ja jb ((k:Int)+1)):=⟨_,rfl⟩
       rw[<-bA];have ah:=Lh (show Af O #[jc J.uid,ja jb ((k:Int)+1),je J.canc,ja jb J.days.first,ja jb J.days.last,ja jb J.days.every,ja jb J.days.wd,jd p4 J.days.ex.length k4,jd p5 J.days.xt.length k5,ja jb J.start,ja jb J.mins,jc J.summ,jc J.loc] 61 wP from by rw[bA];exact HO.o.set 1 _);have bg:=Lh (show Below U.heap.size U wP from by rw[bA];exact cg.o.setCell (show U.heap.size<=(⟨O,1,none⟩:Addr).block from Nat.le_of_eq dh.o.symm) _);clear bA v1 vf HO cg;have b0:=Lh (H.o.made bg.o);have ab:=Lh (M.o.below bg.o M.o.lt);have bT:=Lh (Ay co.o bg.o);have b3:=Lh (Ay cQ.o bg.o);have bx:=Lh (aL.o.made bg.o);obtain⟨bs,bS⟩: ∃b,b=decide ({ J with seq:=((k:Int)+1) }=E):=⟨_,rfl⟩
       have aE:=Lh (Mk { J with seq:=((k:Int)+1) } E wP.heap.size wP p4 p5 p pp k4 k5 ka kb (xf _) (Ah.ao bx.o.2.1) (Ah.ao bx.o.2.2) (Ah.ao bT.o) (Ah.ao b3.o) bx.o.1.ex bx.o.1.xt);rw[<-bS]at aE;unfold AW Ae at aE;dsimp only at aE
       have bB:=Lh bS;clear bS;have v0:wP.cell? ⟨O,0,none⟩=some (jc J.uid):=ah.o.cell 0;have v1:wP.cell? ⟨O,1,none⟩=some (ja jb ((k:Int)+1)):=ah.o.cell 1;have v2:wP.cell? ⟨O,2,none⟩=some (je J.canc):=ah.o.cell 2;have v3:wP.cell? ⟨O,3,none⟩=some (ja jb J.days.first):=ah.o.cell 3;have v4:wP.cell? ⟨O,4,none⟩=some (ja jb J.days.last):=ah.o.cell 4;have v5:wP.cell? ⟨O,5,none⟩=some (ja jb J.days.every):=ah.o.cell 5;have v6:wP.cell? ⟨O,6,none⟩=some (ja jb J.days.wd):=ah.o.cell 6;have v7:wP.cell? ⟨O,7,none⟩=some (jd p4 J.days.ex.length k4):=ah.o.cell 7;have v8:wP.cell? ⟨O,8,none⟩=some (jd p5 J.days.xt.length k5):=ah.o.cell 8;have v9:wP.cell? ⟨O,9,none⟩=some (ja jb J.start):=ah.o.cell 9;have eu:wP.cell? ⟨O,10,none⟩=some (ja jb J.mins):=ah.o.cell 10;have ew:wP.cell? ⟨O,11,none⟩=some (jc J.summ):=ah.o.cell 11;have eE:wP.cell? ⟨O,12,none⟩=some (jc J.loc):=ah.o.cell 12;have en:wP.cell? ⟨S,0,none⟩=some (jc E.uid):=ab.o.cell 0;have eA:wP.cell? ⟨S,1,none⟩=some (ja jb E.seq):=ab.o.cell 1;have eL:wP.cell? ⟨S,2,none⟩=some (je E.canc):=ab.o.cell 2;have eY:wP.cell? ⟨S,3,none⟩=some (ja jb E.days.first):=ab.o.cell 3;have eJ:wP.cell? ⟨S,4,none⟩=some (ja jb E.days.last):=ab.o.cell 4;have eF:wP.cell? ⟨S,5,none⟩=some (ja jb E.days.every):=ab.o.cell 5;have eX:wP.cell? ⟨S,6,none⟩=some (ja jb E.days.wd):=ab.o.cell 6;have eq:wP.cell? ⟨S,7,none⟩=some (jd p E.days.ex.length ka):=ab.o.cell 7;have ek:wP.cell? ⟨S,8,none⟩=some (jd pp E.days.xt.length kb):=ab.o.cell 8;have eR:wP.cell? ⟨S,9,none⟩=some (ja jb E.start):=ab.o.cell 9;have ef:wP.cell? ⟨S,10,none⟩=some (ja jb E.mins):=ab.o.cell 10;have d9:wP.cell? ⟨S,11,none⟩=some (jc E.summ):=ab.o.cell 11;have ea:wP.cell? ⟨S,12,none⟩=some (jc E.loc):=ab.o.cell 12;have eB:=b0.o.lt;cases bs
       ·have hne: ¬{ J with seq:=((k:Int)+1) }=E:=of_decide_eq_false bB.o.symm;have du:=Lh hne;clear hne;go_upto_region 29 with(go_at_call 30;(with_reducible refine aE.o.mono ?_);rintro e w9 ⟨rfl,ak⟩;have ax:=Lh (b0.o.made ak);have af:=Lh (ab.o.below ak ab.o.lt);have ct:=Lh (Ay bT.o ak);have cq:=Lh (Ay b3.o ak);clear ak)
        have cr:=Lh ax.o.box;have aM:=Lh (show Cf F w9 (E,(jd p E.days.ex.length ka),(jd pp E.days.xt.length kb))from⟨cG.o,Ab ct.o (by omega),Ab cq.o (by omega)⟩);have dl:=ax.o.lt;obtain⟨b6,bP,be,bl,bc⟩:=ax.o.row.seg;have bN:(some ⟨gg,0,none⟩)=b6/\cv=bP:=by injection be with h1 h2 h3;exact⟨h1,h3⟩
        obtain⟨rfl,rfl⟩:=bN;have HP:=Lh (UG E p pp ka kb (some ⟨gg,0,none⟩) cv ts w9.heap.size w9 (xf _) bc bl ax.o.row.cap2 (by omega) (aM.o.s));unfold AW Ae at HP;clear bc bl be;have al:=Lh (show(Cx (E,(jd p E.days.ex.length ka),(jd pp E.days.xt.length kb)) ts).map (·.1)=(Ca g t ((k:Int)+1) (l.take (i+1))).foldl (CK ((k:Int)+1)) e0 from by rw[EP,aq.o,if_pos trivial,xg,xh,List.foldl_nil,<-V.o,<-aB.o];exact(Td bm.o du.o).symm);have dB:=IY (E,(jd p E.days.ex.length ka),(jd pp E.days.xt.length kb)) ts;have f2:w9.cell? ⟨F,2,none⟩=some (jd (some ⟨gg,0,none⟩) ts.length cv):=cr.o.cell 2;have k0:w9.cell? ⟨S,0,none⟩=some (jc E.uid):=af.o.cell 0;have k1:w9.cell? ⟨S,1,none⟩=some (ja jb E.seq):=af.o.cell 1;have k2:w9.cell? ⟨S,2,none⟩=some (je E.canc):=af.o.cell 2;have k3:w9.cell? ⟨S,3,none⟩=some (ja jb E.days.first):=af.o.cell 3;have k4:w9.cell? ⟨S,4,none⟩=some (ja jb E.days.last):=af.o.cell 4;have k5:w9.cell? ⟨S,5,none⟩=some (ja jb E.days.every):=af.o.cell 5;have k6:w9.cell? ⟨S,6,none⟩=some (ja jb E.days.wd):=af.o.cell 6;have k7:w9.cell? ⟨S,7,none⟩=some (jd p E.days.ex.length ka):=af.o.cell 7;have k8:w9.cell? ⟨S,8,none⟩=some (jd pp E.days.xt.length kb):=af.o.cell 8;have k9:w9.cell? ⟨S,9,none⟩=some (ja jb E.start):=af.o.cell 9;have dO:w9.cell? ⟨S,10,none⟩=some (ja jb E.mins):=af.o.cell 10;have c8:w9.cell? ⟨S,11,none⟩=some (jc E.summ):=af.o.cell 11;have dm:w9.cell? ⟨S,12,none⟩=some (jc E.loc):=af.o.cell 12;go_wp2_with (go_at_call 39;(with_reducible refine HP.o.mono ?_);rintro e w7 ⟨u7,rfl,ae,ay⟩;obtain⟨p7,q7,bQ⟩:=AM ae;subst bQ;have bH:=Lh (ax.o.put aM.o ae ay);have f7:w7.cell? ⟨F,2,none⟩=some (jd (some ⟨gg,0,none⟩) ts.length cv):=(ax.o.made ay).box.cell 2;have dw:=(ax.o.made ay).box.frozen 2;clear ae ay);go_roundw
        case rel=>exact⟨i+1,_,Cx (E,(jd p E.days.ex.length ka),(jd pp E.days.xt.length kb)) ts,aj,by go_num,by omega,by omega,ba,bH,al,aY⟩
        case measure=>simp[intOf];omega
       ·have al:=Lh (show ts.map (·.1)=(Ca g t ((k:Int)+1) (l.take (i+1))).foldl (CK ((k:Int)+1)) e0 from by rw[aq.o,if_pos trivial,xg,xh,List.foldl_nil,<-V.o,<-aB.o];exact(Q3 bm.o (of_decide_eq_true bB.o.symm)).symm);go_wp2_with (go_at_call 30;(with_reducible refine aE.o.mono ?_);rintro e w9 ⟨rfl,ak⟩;have ax:=Lh (b0.o.made ak);have af:=Lh (ab.o.below ak ab.o.lt);have ct:=Lh (Ay bT.o ak);have cq:=Lh (Ay b3.o ak);clear ak);go_roundw
        case rel=>exact⟨i+1,_,ts,aj,by go_num,by omega,by omega,ba,ax,al,aY⟩
        case measure=>simp[intOf];omega
