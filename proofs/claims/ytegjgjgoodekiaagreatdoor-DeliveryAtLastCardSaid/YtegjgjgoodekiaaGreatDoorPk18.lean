/- The lines of a feed, and feed.written for every valid feed. feed.Format for every feed: its contract. A text cut at commas; the numbers in a stamp. -/
import Derived.Test.YtegjgjgoodekiaaGreatDoorQk10
import Derived.Test.YtegjgjgoodekiaaGreatDoorQk7
open Go.Value renaming int->ja,string->jc,slice->jd,pointer->jf,tuple->jg
open Go.IntKind renaming i64->jb
open Go.Ending renaming returned->jh
open Go.Obj renaming cells->ji
open List renaming length_append->xa,length_cons->xb,length_nil->xc,flatten_cons->xd,append_nil->xe,flatten_nil->xf,map_cons->xg,map_nil->xh,mem_cons_self->xj,cons_append->xk,nil_append->xl,flatMap_cons->xm,mem_singleton->xn,not_mem_nil->xo,length_map->xp,mem_cons_of_mem->xq,mem_cons->xr,mem_append->xu,getElem?_eq_getElem->xv,map_append->xy
open Nat renaming le_trans->xi,zero_le->xw,le_refl->xx
open Bool renaming and_eq_true->xs
set_option maxRecDepth 100000
set_option maxHeartbeats 40000000
namespace Go.Proofs.YtegjgjgoodekiaaGreatDoor
open Go.RowKit
def CI(n:List UInt8)(v:Int):List (List UInt8):=[[66,69,71,73,78,58,86,67,65,76,69,78,68,65,82],[86,69,82,83,73,79,78,58,50,46,48],[80,82,79,68,73,68,58,45,47,47,116,105,109,101,116,97,98,108,101,47,47,69,78],[78,65,77,69,58]++n,[82,69,86,73,83,73,79,78,58]++Lib.decDigits v.toNat]
def AI(n:List UInt8)(v:Int)(es:List Ev)(z:List UInt8):List (List UInt8):=CI n v++es.flatMap (fun e=>Ao e z)++[[69,78,68,58,86,67,65,76,69,78,68,65,82]]
theorem M6(e:Ev)(z:List UInt8):(Ao e z).length<=13:=by
 unfold Ao;simp only[xa];have w:(Ke e z).length=6:=rfl;have D:(JX e z).length<=1:=by unfold JX;split<;>simp
 have F:(JY e z).length<=1:=by unfold JY;split<;>simp
 have A:(Oi e).length=1:=rfl;have E:(Ly e).length<=1:=by unfold Ly;split<;>simp
 have G:(LN e).length=2:=rfl;omega
theorem GF(z:List UInt8): ∀es:List Ev,(es.flatMap fun e=>Ao e z).length<=13*es.length
 | []=>xx _
 | e::r=>by
  rw[xm,xa,xb];have:=GF z r;have:=M6 e z;omega
theorem Ef{u:ByteArray}(h:A8 u.data.toList=true):u.size<=1000:=by
 rw[Lib.size_eq];generalize u.data.toList=l at h;by_cases hm:(64:UInt8)∈l
 ·obtain⟨a,b,rfl,ha⟩:=Tt.first_split l hm;unfold A8 Tt.rightP at h;rw[Tt.cut_first a b ha]at h;simp only[Bool.true_and,xs]at h;obtain⟨hc,hn⟩:=h;have A:a.length<=16:=by
   cases a with
   | nil=>simp
   | cons c r=>
    unfold Tt.code at hc;simp only[xs,decide_eq_true_eq]at hc;exact hc.1.1
  have w:b.length<=5:=by
   unfold Tt.numFrom at hn;rw[decide_eq_true_iff]at hn;obtain⟨j,hj, -,rfl⟩:=hn;exact Tt.dec_len 4 j (by omega)
  simp only[xa,xb];omega
 ·rw[show A8 l=false from Tt.rightP_none _ _ hm]at h;cases h
theorem CC{z:ByteArray}(h:Tt.code z.data.toList=true):z.size<=16:=by
 rw[Lib.size_eq];generalize z.data.toList=l at h;cases l with
 | nil=>simp
 | cons c r=>
  unfold Tt.code at h;simp only[xs,decide_eq_true_eq]at h;exact h.1.1
theorem FQ(n:ByteArray)(v:Int)(af:Option Addr)(cf:Nat)(es:List Ev)(z:ByteArray)(BB:Nat)(w:World)(ak:BB<=w.heap.size)(hE:GQ BB w af es)(hv:Aq n v es=0)(hz:Tt.code z.data.toList=true)(hL:CD w)(hP:Pow w)(h6:6<w.heap.size):
  Calls Tryz.prog 76 #[.agg #[jc n,ja jb v,jd af es.length cf],jc z] w fun e w'=> ∃g cap,e=jh (jd (some ⟨g,0,none⟩) (AI n.data.toList v es z.data.toList).length cap)/\BW w' (some ⟨g,0,none⟩) ((AI n.data.toList v es z.data.toList).map str)/\w.heap.size<=g/\g<w'.heap.size/\(AI n.data.toList v es z.data.toList).length<=cap/\Below w.heap.size w w':=by
 obtain⟨v0,v1,aI,aK⟩:=BC hv;have bG:=CC hz;have bI:n.size<=16:=by
  unfold Aq at hv;split at hv
  ·cases hv
  ·rename_i hc
   exact CC (by simpa using hc)
 have bA:=Lh (By v es none aK);have HE:=Lh hE;have HL:=Lh hL;have HP:=Lh hP;obtain⟨W0,ac⟩: ∃W0,W0=(w.alloc (ji #[jc n,ja jb v,jd af es.length cf] 41)).alloc (ji #[jd none 0 0] 176):=⟨_,rfl⟩
 have HS:=J0 n v (jd af es.length cf) w;rw[<-ac]at HS;obtain⟨aB,aQ,aF,aT⟩:=HS;have ar:=Lh aF;have G:=Lh aB;have aa:=Lh aQ;have bk:w.heap.size+2<=W0.heap.size:=by omega
 have T:=Lh (AO.refl (w.heap.size+1) (w.heap.size+2) W0);have bC:=Lh aT;obtain⟨m,au⟩: ∃m,m=es.length:=⟨_,rfl⟩
 have HM:=Lh au;obtain⟨b,hb⟩: ∃b,b=w.heap.size+1:=⟨_,rfl⟩
 obtain⟨B,hB⟩: ∃B,B=w.heap.size+2:=⟨_,rfl⟩
 obtain⟨F,hF⟩: ∃F,F=w.heap.size:=⟨_,rfl⟩
 have J:F<b:=by omega
 have bJ:b<B:=by omega
 have M:F<B:=by omega
 have E:B<=W0.heap.size:=by omega
 have bp:6<b:=by omega
 have bH:w.heap.size<=b:=by omega
 have bE:w.heap.size<=B:=by omega
 have bB:w.heap.size<b:=by omega
 rw[<-hF]at G;rw[<-hb,<-hB]at aa T;rw[<-au]at ac G aI ⊢;clear hE hL hP aB aQ aF aT aK hv au hB;go_enter Tryz.func76,Tryz.ntmps76;go_upto_region 2 with(fail);rw[<-ac,<-hb,<-hF];clear ac hb hF bk;obtain⟨y0,X⟩: ∃y:List ByteArray,y=[]:=⟨_,rfl⟩
 have a7:=Lh X;have aN:=Lh (show y0.length<=0 from by rw[X];exact xx _);rw[<-X]at aa;clear X;go_wp2_with fail;refine(AK b B W0.heap.size y0 [⟨#[66,69,71,73,78,58,86,67,65,76,69,78,68,65,82]⟩] W0 rfl aa.o (xi E T.o.size) (by simp) (by simp only[xg,xh,xd,xf,xe,xb,xc];omega) (by have:=aN.o;omega)).mono ?_;rintro x W1 ⟨rfl,hf,hk, -⟩;obtain⟨y1,hy⟩: ∃y,y=y0++[str ([66,69,71,73,78,58,86,67,65,76,69,78,68,65,82])]:=⟨_,rfl⟩
 have az:=Lh (show EC b B y1 W1 from by rw[hy];simpa only[xg,xh,xd,xf,xe,xk,xl]using hf);have a6:=Lh hy;have aw:=Lh (show y1.length<=1 from by rw[hy,xa];have:=aN.o;simp only[xb,xc];omega);have av:=Lh (T.o.trans hk);have ag:=Lh (G.o.but hk M (Nat.ne_of_lt J));clear hf hy hk aa T G;go_wp2_with fail;refine(AK b B W1.heap.size y1 [⟨#[86,69,82,83,73,79,78,58,50,46,48]⟩] W1 rfl az.o (xi E av.o.size) (by simp) (by simp only[xg,xh,xd,xf,xe,xb,xc];omega) (by have:=aw.o;omega)).mono ?_;rintro x W2 ⟨rfl,hf,hk, -⟩;obtain⟨y2,hy⟩: ∃y,y=y1++[str ([86,69,82,83,73,79,78,58,50,46,48])]:=⟨_,rfl⟩
 have a8:=Lh (show EC b B y2 W2 from by rw[hy];simpa only[xg,xh,xd,xf,xe,xk,xl]using hf);have aC:=Lh hy;have aY:=Lh (show y2.length<=2 from by rw[hy,xa];have:=aw.o;simp only[xb,xc];omega);have aj:=Lh (av.o.trans hk);have ai:=Lh (ag.o.but hk M (Nat.ne_of_lt J));clear hf hy hk az av ag;go_wp2_with fail;refine(AK b B W2.heap.size y2 [⟨#[80,82,79,68,73,68,58,45,47,47,116,105,109,101,116,97,98,108,101,47,47,69,78]⟩] W2 rfl a8.o (xi E aj.o.size) (by simp) (by simp only[xg,xh,xd,xf,xe,xb,xc];omega) (by have:=aY.o;omega)).mono ?_;rintro x W3 ⟨rfl,hf,hk, -⟩;obtain⟨y3,hy⟩: ∃y,y=y2++[str ([80,82,79,68,73,68,58,45,47,47,116,105,109,101,116,97,98,108,101,47,47,69,78])]:=⟨_,rfl⟩
 have aM:=Lh (show EC b B y3 W3 from by rw[hy];simpa only[xg,xh,xd,xf,xe,xk,xl]using hf);have aS:=Lh hy;have aU:=Lh (show y3.length<=3 from by rw[hy,xa];have:=aY.o;simp only[xb,xc];omega);have al:=Lh (aj.o.trans hk);have D:=Lh (ai.o.but hk M (Nat.ne_of_lt J));clear hf hy hk a8 aj ai;have f0:=D.o.c0;have f1:=D.o.c1;have f2:=D.o.c2;go_wp2_with fail;refine(AK b B W3.heap.size y3 [⟨#[78,65,77,69,58]⟩,n] W3 rfl aM.o (xi E al.o.size) (by simp) (by simp only[xg,xh,xd,xf,xe,xa,xb,xc,<-Lib.size_eq];omega) (by have:=aU.o;omega)).mono ?_;rintro x W4 ⟨rfl,hf,hk, -⟩;obtain⟨y4,hy⟩: ∃y,y=y3++[str ([78,65,77,69,58]++n.data.toList)]:=⟨_,rfl⟩
 have aJ:=Lh (show EC b B y4 W4 from by rw[hy];simpa only[xg,xh,xd,xf,xe,xk,xl]using hf);have aX:=Lh hy;have aO:=Lh (show y4.length<=4 from by rw[hy,xa];have:=aU.o;simp only[xb,xc];omega);have R:=Lh (al.o.trans hk);have A:=Lh (D.o.but hk M (Nat.ne_of_lt J));clear hf hy hk aM al D f0 f1 f2;have f0:=A.o.c0;have f1:=A.o.c1;have f2:=A.o.c2;go_wp2_with fail;refine(Fl v W4 (HP.o.below h6 (ar.o.trans (R.o.below (by omega) (by omega)))) (by omega) (by omega)).mono ?_;rintro x W5 ⟨rfl,hb⟩;obtain⟨t5,ht⟩: ∃t,t=(⟨(Lib.decDigits v.toNat).toArray⟩:ByteArray):=⟨_,rfl⟩
 have bD:t5.size<=5:=by rw[ht,size_mk];exact Tt.dec_len 4 _ (by omega)
 rw[<-ht];have bx:=Lh (show t5.data.toList=Lib.decDigits v.toNat from by rw[ht]);clear ht f0 f1 f2;have aV:=Lh (aJ.o.kept hb);have am:=Lh (R.o.trans (AO.of_below (hb.mono (xi E R.o.size))));have ah:=Lh (A.o.but (AO.of_below (b:=b) (hb.mono (xi E R.o.size))) M (Nat.ne_of_lt J));clear hb aJ R A;go_wp2_with fail;refine(AK b B W5.heap.size y4 [⟨#[82,69,86,73,83,73,79,78,58]⟩,t5] W5 rfl aV.o (xi E am.o.size) (by simp) (by simp only[xg,xh,xd,xf,xe,xa,xb,xc,<-Lib.size_eq];omega) (by have:=aO.o;omega)).mono ?_;rintro x W6 ⟨rfl,hf,hk, -⟩;obtain⟨y6,hy⟩: ∃y,y=y4++[str ([82,69,86,73,83,73,79,78,58]++Lib.decDigits v.toNat)]:=⟨_,rfl⟩
 have aG:=Lh (show EC b B y6 W6 from by rw[hy];simpa only[xg,xh,xd,xf,xe,xk,xl,bx.o]using hf);have aR:=Lh hy;have bF:=Lh (show y6.length<=5 from by rw[hy,xa];have:=aO.o;simp only[xb,xc];omega);have aP:=Lh (am.o.trans hk);have H:=Lh (ah.o.but hk M (Nat.ne_of_lt J));clear hf hy hk aV am ah;have aD:=Lh (show y6=(CI n.data.toList v).map str from by rw[aR.o,aX.o,aS.o,aC.o,a6.o,a7.o];rfl);clear aR aX aS aC a6 a7;have f0:=H.o.c0;have f1:=H.o.c1;have f2:=H.o.c2;go_wp2_with fail;clear f0 f1 f2;go_loopw [33] (fun iv wr=> ∃(i:Nat) (y:List ByteArray),iv=ja jb i/\i<=m/\Hid (y=(CI n.data.toList v++(es.take i).flatMap fun e=>Ao e z.data.toList).map str)/\Hid (EC b B y wr)/\Hid (AO b B W0 wr)) (fun iv _=>m - (intOf iv).toNat)
 case atStart=>exact⟨0,y6,rfl,xw _,Lh (by rw[aD.o];simp),aG,aP⟩
 case round=>
  clear aD aG aP H;obtain⟨i,y,rfl,hi,HY,HF,HK⟩:=hrel;have HN:=Lh (show y.length<=4000 from by
   rw[HY.o,xp,xa];have h1:=GF z.data.toList (es.take i);have h2:(CI n.data.toList v).length=5:=rfl;rw[List.length_take]at h1;omega)
  have aq:=xi E HK.o.size;have U:=Lh (show Below w.heap.size w wr from ar.o.trans (HK.o.below (by omega) (by omega)));by_cases bc:i<m
  ·have hx:i<es.length:=by rw[<-HM.o];exact bc
   have aH:(i:Int)<m:=by omega
   obtain⟨bo,oo,bn,aW,hcell⟩:=HE.o.form (by omega);subst bn;obtain⟨e,Y⟩: ∃e,e=es[i]:=⟨_,rfl⟩
   have aA:es[i]?=some e:=by rw[Y];exact xv hx
   obtain⟨bj,x,x',hC,hX,bg⟩:=hcell i e aA;have ap:=bA.o e (by rw[Y];exact List.getElem_mem hx);have HT:=Lh (show es.take (i+1)=es.take i++[e]from by rw[List.take_succ_eq_append_getElem hx,Y]);obtain⟨c0,c1,c2,c3,c4,c5,c6,c7,c8,c9,V,Z,ab⟩:=hC.below (w':=wr) aW (U.o.mono ak);obtain⟨ax,cx,bw,hI⟩:=hX;obtain⟨ay,cy,be,aL⟩:=bg;subst bw be;have HI:=Lh (hI.below (U.o.mono ak));have bi:=Lh (aL.below (U.o.mono ak));have bs:=Lh ap;have bz:=Lh (Ef ap.1);clear hcell Y aA bj hC hI aL ap aW;go_upto_region 10 with(fail)
   obtain⟨W,hW⟩: ∃W,W=wr.alloc (ji (Ae e (jd ax e.days.ex.length cx) (jd ay e.days.xt.length cy)) 61):=⟨_,rfl⟩
   obtain⟨g,hg⟩: ∃g,g=wr.heap.size:=⟨_,rfl⟩
   have O:=Lh (show Below wr.heap.size wr W from by rw[hW];exact Aa wr _);have bv:=Lh (show Af g (Ae e (jd ax e.days.ex.length cx) (jd ay e.days.xt.length cy)) 61 W from by rw[hW,hg];exact Af.new wr _ 61);unfold Ae at hW;rw[<-hW,<-hg];clear hW hg c0 c1 c2 c3 c4 c5 c6 c7 c8 c9 V Z ab;obtain⟨c0,c1,c2,c3,c4,c5,c6,c7,c8,c9,V,Z,ab⟩:=B5.c (e:=e) (v:=jd ax e.days.ex.length cx) (v':=jd ay e.days.xt.length cy) bv.o;simp only[Nat.zero_add]at c0 c1 c2 c3 c4 c5 c6 c7 c8 c9 V Z ab;have bu:=xi aq O.o.size;have aZ:=Lh (show Below w.heap.size w W from U.o.trans (O.o.mono (by omega)));have HC:Hid (Calls Tryz.prog 110 #[jf (some ⟨b,0,none⟩),AW e (jd ax e.days.ex.length cx) (jd ay e.days.xt.length cy),jc z] W fun x w'=>x=jh (jg #[])/\EC b B (y++(Ao e z.data.toList).map str) w'/\AO b B W w'/\B4 b W w'):=Lh (Sy b B y e v ax ay cx cy z W (HF.o.kept O.o) bu bp (by have:=HN.o;omega) bs.o.2 (by omega) bz.o (by omega) ((HI.o.below (O.o.mono (by omega))).mono (by omega)) ((bi.o.below (O.o.mono (by omega))).mono (by omega)) (HL.o.below (by omega) aZ.o) (HP.o.below h6 aZ.o));unfold AW Ae at HC;go_wp2_with fail;refine HC.o.mono ?_;rintro x W9 ⟨rfl,hf,hk, -⟩;have bf:=Lh hf;have br:=Lh (HK.o.trans ((AO.of_below (b:=b) (O.o.mono aq)).trans hk));clear hf hk HC c0 c1 c2 c3 c4 c5 c6 c7 c8 c9 V Z ab;go_wp2_with fail;go_roundw
   case rel=>exact⟨i+1,y++(Ao e z.data.toList).map str,by go_num,by omega,Lh (by rw[HY.o,HT.o,List.flatMap_append,xm,List.flatMap_nil,xe,<-List.append_assoc,xy (l₁:=_++_)]),bf,br⟩
   case measure=>simp[intOf];omega
  ·have aH: ¬(i:Int)<m:=by omega
   have bt:=Lh (show es.take i=es from List.take_of_length_le (by rw[<-HM.o];omega));obtain⟨yr,bl⟩: ∃q,q=y:=⟨_,rfl⟩
   go_wp2_with fail;refine(AK b B wr.heap.size y [⟨#[69,78,68,58,86,67,65,76,69,78,68,65,82]⟩] wr rfl HF.o aq (by simp) (by simp only[xg,xh,xd,xf,xe,xb,xc];omega) (by have:=HN.o;omega)).mono ?_;rintro x W9 ⟨rfl,hf,hk, -⟩;have bh:=Lh (HK.o.trans hk);have bq:=Lh (show y++[str [69,78,68,58,86,67,65,76,69,78,68,65,82]]=(AI n.data.toList v es z.data.toList).map str from by rw[HY.o,bt.o];unfold AI;rw[xy (l₂:=[_])];rfl);have bm:=Lh (show EC b B ((AI n.data.toList v es z.data.toList).map str) W9 from by rw[<-bq.o];simpa only[xg,xh,xd,xf,xe]using hf);clear hf hk bl;obtain⟨u,h6,o6⟩:=bm.o.ex;have cb:W9.cell? ⟨b,0,none⟩=some u:=by rw[Lib.cell_of_heap h6];rfl
   have ba:0<(AI n.data.toList v es z.data.toList).length:=by unfold AI;rw[xa];simp
   rw[xp]at o6;obtain⟨g,cap,hu,ae⟩: ∃g cap,u=jd (some ⟨g,0,none⟩) (AI n.data.toList v es z.data.toList).length cap/\(AI n.data.toList v es z.data.toList).length<=cap:=by
    rcases o6.2 with⟨_,h0⟩ | ⟨g,cap,cur,hv,_,_,h5,_⟩
    ·omega
    ·exact⟨g,cap,hv,by omega⟩
   rw[hu]at cb o6;have HO:=Lh o6;have aE:=Lh ae;clear hu h6 o6 ba ae;go_wp2_with fail;go_ret;refine⟨g,cap,rfl,?_,?_,(HO.o.lt g rfl).2,aE.o,ar.o.trans (bh.o.below (by omega) (by omega))⟩
   ·intro j x hx;exact⟨_,rfl,HO.o.cells (g:=g) rfl j (jc x) (by rw[List.getElem?_map,hx];rfl)⟩
   ·have:=(HO.o.lt g rfl).1;omega
def BU(n:List UInt8)(v:Int)(es:List Ev)(z:List UInt8):List UInt8:=(AI n v es z).flatMap Tt.fold
def Bh(n:ByteArray)(v:Int)(es:List Ev)(z:ByteArray):List UInt8 × Int:=
 if Aq n v es≠0 then([],Aq n v es)
 else if Tt.code z.data.toList=false then([],10)
 else if 262144<((BU n.data.toList v es z.data.toList).length:Int)then([],2)
 else(BU n.data.toList v es z.data.toList,0)
theorem Ss(ls:List (List UInt8)):(ls.map str).flatMap (fun l=>Tt.fold l.data.toList)=ls.flatMap Tt.fold:=by
 induction ls with
 | nil=>rfl
 | cons a r ih=>rw[xg,xm,xm,ih];rfl
theorem Ju(k:Nat): ∀ls:List ByteArray,(∀x∈ls,x.size<=k)->(ls.flatMap (fun l=>Tt.fold l.data.toList)).length<=ls.length*(5*k+2)
 | [],_=>xw _
 | a::r,h=>by
  rw[xm,xa,xb,Nat.succ_mul];have w:=Tt.fold_length a.data.toList;have A:=Ju k r (fun x hx=>h x (xq _ hx));have D:=h a (xj ..);rw[<-Lib.size_eq]at w;omega
theorem R5{e:Ev}{v:Int}{z:List UInt8}(hr:A8 e.uid.data.toList=true)(hc:Ax e v=0)(hv:v<=64)(hz:z.length<=16): ∀l∈Ao e z,l.length<=3000:=by
 obtain⟨Y,q1,D, -,H,J,O,M, -,G,E⟩:=CS hc;have A:=Co G;have w:=Co E;have hh:=((Tt.serV_zero e.days).1 D).1;have F:=Ef hr;rw[Lib.size_eq]at A w F;have U:=Tt.dec_len 4 e.seq.toNat (by omega);have h2:=Tt.dec_len 4 e.mins.toNat (by omega);have T:=IT hh;have V:=Tt.stampsL_len e.start e.days.ex;have h5:=Tt.stampsL_len e.start e.days.xt;have h6:=Tt.esc_length e.summ.data.toList;have X:=Tt.esc_length e.loc.data.toList;have R:=hh.n;have Z:=Tt.stampL_len e.days.first e.start;intro l hl;unfold Ao at hl;simp only[xu]at hl;rcases hl with((((hl | hl) | hl) | hl) | hl) | hl
 ·unfold Ke at hl;simp only[xr,xo,or_false]at hl;rcases hl with rfl | rfl | rfl | rfl | rfl | rfl<;>(simp only[xa,xb,xc];omega)
 ·unfold JX at hl;split at hl
  ·cases hl
  ·rw[xn]at hl;subst hl;simp only[xa,xb,xc];omega
 ·unfold JY at hl;split at hl
  ·cases hl
  ·rw[xn]at hl;subst hl;simp only[xa,xb,xc];omega
 ·unfold Oi at hl;rw[xn]at hl;subst hl;simp only[xa,xb,xc];omega
 ·unfold Ly at hl;split at hl
  ·cases hl
  ·rw[xn]at hl;subst hl;simp only[xa,xb,xc];omega
 ·unfold LN at hl;simp only[xr,xo,or_false]at hl;rcases hl with rfl | rfl
  ·split<;>decide
  ·decide
theorem Dz{n z:ByteArray}{v:Int}{es:List Ev}(hv:Aq n v es=0)(hz:Tt.code z.data.toList=true):(∀x∈(AI n.data.toList v es z.data.toList).map str,x.size<=3000)/\((AI n.data.toList v es z.data.toList).map str).length<=4000:=by
 obtain⟨v0,G,E,D⟩:=BC hv;have w:=CC hz;have A:n.size<=16:=by
  unfold Aq at hv;split at hv
  ·cases hv
  ·rename_i hc
   exact CC (by simpa using hc)
 rw[Lib.size_eq]at w A;constructor
 ·intro x hx;obtain⟨l,hl,rfl⟩:=List.mem_map.1 hx;rw[show(str l).size=l.length from size_mk l];unfold AI CI at hl;simp only[xu,xr,xo,or_false]at hl;have F:=Tt.dec_len 4 v.toNat (by omega);rcases hl with((rfl | rfl | rfl | rfl | rfl) | hl) | rfl
  ·decide
  ·decide
  ·decide
  ·simp only[xa,xb,xc];omega
  ·simp only[xa,xb,xc];omega
  ·obtain⟨e,he,hl⟩:=List.mem_flatMap.1 hl;have hk:=By v es none D e he;exact R5 hk.1 hk.2 G w l hl
  ·decide
 ·rw[xp];unfold AI;rw[xa,xa];have F:=GF z.data.toList es;have H:(CI n.data.toList v).length=5:=rfl;simp only[xb,xc];omega
theorem Sr(n:ByteArray)(v:Int)(af:Option Addr)(cf:Nat)(es:List Ev)(z:ByteArray)(BB:Nat)(w:World)(aF:BB<=w.heap.size)(hE:GQ BB w af es)(hn:es.length<=4611686018427387903)(hL:CD w)(hP:Pow w)(h6:6<w.heap.size):
  Calls Tryz.prog 45 #[.agg #[jc n,ja jb v,jd af es.length cf],jc z] w fun e w'=>e=jh (jg #[jc (str (Bh n v es z).1),ja jb (Bh n v es z).2])/\Below w.heap.size w w':=by
 obtain⟨U,E⟩: ∃U,U=w.alloc (ji #[jc n,ja jb v,jd af es.length cf] 41):=⟨_,rfl⟩
 have F0:=Lh (show Ew w.heap.size n v (jd af es.length cf) U from by rw[E];exact VQ n v _ w);have L0:=Lh (show Below w.heap.size w U from by rw[E];exact Aa w _);have s0:w.heap.size+1<=U.heap.size:=by rw[E];simp
 have ap:=Lh (hE.below (L0.o.mono aF));have HV:=Lh (Gq n v es af cf BB U (by omega) ap.o hn);have aC:=Lh (hL.below (by omega) L0.o);have az:=Lh (hP.below h6 L0.o);have HR:Hid (Bh n v es z=if Aq n v es≠0 then([],Aq n v es)else if Tt.code z.data.toList=false then([],10)else if 262144<((BU n.data.toList v es z.data.toList).length:Int)then([],2)else(BU n.data.toList v es z.data.toList,0)):=rfl;have ag:Hid (∀W:World,Below U.heap.size U W->Aq n v es=0->Tt.code z.data.toList=true->Calls Tryz.prog 76 #[.agg #[jc n,ja jb v,jd af es.length cf],jc z] W fun e w'=> ∃g cap,e=jh (jd (some ⟨g,0,none⟩) (AI n.data.toList v es z.data.toList).length cap)/\BW w' (some ⟨g,0,none⟩) ((AI n.data.toList v es z.data.toList).map str)/\W.heap.size<=g/\g<w'.heap.size/\(AI n.data.toList v es z.data.toList).length<=cap/\Below W.heap.size W w'):=Lh (fun W hW hv hz=>FQ n v af cf es z BB W (by have:=hW.size;omega) (ap.o.below (hW.mono (by omega))) hv hz (aC.o.below (by omega) hW) (az.o.below (by omega) hW) (by have:=hW.size;omega));obtain⟨m,av⟩: ∃m,m=es.length:=⟨_,rfl⟩
 rw[<-av]at E F0 HV ag ⊢;obtain⟨F,hF⟩: ∃F,F=w.heap.size:=⟨_,rfl⟩
 rw[<-hF]at F0;have aK:F<U.heap.size:=by omega
 have f0:=F0.o.c0;have f1:=F0.o.c1;have f2:=F0.o.c2;clear av hE hL hP hn ap aC az;go_enter Tryz.func45,Tryz.ntmps45;go_upto_region 1 with(fail);rw[<-E,<-hF];clear E hF;go_wp2_with fail;refine HV.o.mono ?_;rintro e M ⟨rfl,hb1⟩;have F1:=Lh (F0.o.below hb1 aK);have L1:=Lh (L0.o.trans (hb1.mono (by omega)));have O:=Lh hb1;have s1:w.heap.size+1<=M.heap.size:=xi s0 hb1.size;clear f0 f1 f2 hb1 HV F0 L0;obtain⟨fv,ai⟩: ∃fv,fv=Aq n v es:=⟨_,rfl⟩
 rw[<-ai];have ac:=Lh ai;clear ai;by_cases V:fv=0
 ·have Y:=Lh (ac.o.symm.trans V);subst V;go_wp2_with fail;refine(BV _ _).mono ?_;rintro e aN ⟨rfl,hw⟩;rw[hw];clear hw aN;cases hz:Tt.code z.data.toList
  ·have HX:=Lh (show Bh n v es z=([],10)from by rw[HR.o,if_neg (by rw[Y.o];decide),if_pos hz]);go_wp2_with fail;go_ret2;exact⟨by rw[HX.o];rfl,L1.o⟩
  ·have HX:=Lh (show Bh n v es z=if 262144<((BU n.data.toList v es z.data.toList).length:Int)then([],2)else(BU n.data.toList v es z.data.toList,0)from by rw[HR.o,if_neg (by rw[Y.o];decide),if_neg (by rw[hz];decide)]);have X:=Lh (Dz Y.o hz);have aB:=Lh (show BU n.data.toList v es z.data.toList=((AI n.data.toList v es z.data.toList).map str).flatMap (fun l=>Tt.fold l.data.toList)from(Ss _).symm);have R:=Lh (fun W hW=>ag.o W hW Y.o hz);obtain⟨ls,am⟩: ∃ls,ls=(AI n.data.toList v es z.data.toList).map str:=⟨_,rfl⟩
   have aA:(AI n.data.toList v es z.data.toList).length=ls.length:=by rw[am,xp]
   rw[<-am]at X aB R;rw[aA]at R;have aH:=X.o.2;have au:=Lh X.o.1;have aL:=Lh (Ju 3000 ls au.o);clear am aA ag X;have hf:=FO.fresh M (M.heap.size+1) (by omega);have T:=Lh ((Below.refl _ M).alloc (xx _) (ji #[jf none,jd none 0 0] 147));have F2:=Lh (F1.o.below T.o (by have:=O.o.size;omega));have L2:=Lh (L1.o.trans (T.o.mono (by omega)));have ax:=Lh (R.o (M.alloc (ji #[jf none,jd none 0 0] 147)) (O.o.trans (T.o.mono O.o.size)));have f0:=F2.o.c0;have f1:=F2.o.c1;have f2:=F2.o.c2;go_wp2_with fail;refine ax.o.mono ?_;rintro e w2 ⟨g,cap,rfl,Z,ay,aG, -,G⟩;have H:=G.size;have hB:FO M.heap.size w2.heap.size [] w2:=by
    obtain⟨p,v,hp,hb,_⟩:=(hf.kept G).ex;refine⟨by simp at H;omega,p,jd none 0 0,hp,?_,World.ownsRow_nil _ _ _ _⟩;rw[G.block _ (by simp),heap_alloc_new];have:=hb;rw[G.block _ (by simp),heap_alloc_new]at this;simp at this;rw[<-this.1]
   have L3:=Lh (L2.o.trans (G.mono (by simp;omega)));have s2:M.heap.size+1<=w2.heap.size:=by simpa using H
   have hgb:M.heap.size+1<=g:=by simpa using ay
   have aq:=Lh Z;clear f0 f1 f2 F1 F2 L1 L2 hf G H ay Z R ax T O;go_wp2_with fail;go_loopw [22] (fun i wr=> ∃(k:Nat) (D:List UInt8),k<=ls.length/\i=ja jb k/\FO M.heap.size w2.heap.size D wr/\AO M.heap.size w2.heap.size w2 wr/\D.length<=4000*15002/\Hid (D=(ls.take k).flatMap (fun l=>Tt.fold l.data.toList))) (fun i _=>ls.length - (intOf i).toNat)
   case atStart=>exact⟨0,[],xw _,rfl,hB,AO.refl _ _ _,by simp,rfl⟩
   case round=>
    obtain⟨k,D,hk,rfl,ab,A,aO,HA⟩:=hrel;have aP:=A.size;by_cases aD:k<ls.length
    ·obtain⟨x,hx⟩: ∃x,ls[k]?=some x:=⟨_,xv aD⟩
     obtain⟨a,ha,aa⟩:=aq.o k x hx;have aT:wr.cell? ⟨g,k,none⟩=some (jc x):=by
      rw[A.cell (p:=⟨g,k,none⟩) aG (by simp;omega)];cases ha;rw[addr_add]at aa;exact aa
     have aS:=au.o x (List.mem_of_getElem? hx);have J:=Ts ls (k+1);have ah:=MV ls k x hx;rw[ah,<-HA.o,xa]at J;have ak:D.length+(Tt.fold x.data.toList).length<=4000*15002:=xi J (xi aL.o (Nat.mul_le_mul_right _ aH));have aJ:=Lh ah;clear hx ha aa J ah;have aQ:(k:Int)<(ls.length:Int):=by omega
     go_wp2_with fail;refine(Su _ _ (by omega)).mono ?_;rintro e w3 ⟨rfl,ae⟩;have s3:=ae.size;have aE:=ab.kept ae;go_wp2_with fail;refine(Cr _ _ _ _ _ aE (by rw[Lib.size_eq];simp only[];omega) (by omega)).mono ?_;rintro e w4 ⟨rfl,aI,al⟩;go_wp2_with fail;go_roundw
     case rel=>
      refine⟨k+1,_,by omega,by go_num,aI,A.trans ((AO.of_below (ae.mono (by omega))).trans al),by rw[xa];exact ak,?_⟩;show _=_
      rw[aJ.o,HA.o]
     case measure=>simp[intOf];omega
    ·have aw:k=ls.length:=by omega
     have HK:=Lh aw;have aj:=Lh (show D=BU n.data.toList v es z.data.toList from by rw[HA.o,HK.o,List.take_length,aB.o]);clear aw;go_wp2_with fail;refine(TV _ _ _ _ ab).mono ?_;rintro e w5 ⟨rfl,hw⟩;rw[hw];clear hw w5;by_cases ar:(262144:Int)<(D.length:Int)
     ·have HY:=Lh (show Bh n v es z=([],2)from by rw[HX.o,if_pos (by rw[<-aj.o];exact ar)]);go_wp2_with fail;go_ret2;exact⟨by rw[HY.o];rfl,L3.o.trans (A.below (by omega) (by omega))⟩
     ·have HY:=Lh (show Bh n v es z=(D,0)from by rw[HX.o,if_neg (by rw[<-aj.o];exact ar),aj.o]);go_wp2_with fail;refine(Ec _ _ _ _ ab).mono ?_;rintro e w6 ⟨rfl,aM⟩;go_wp2_with fail;go_ret2;exact⟨by rw[HY.o];rfl,(L3.o.trans (A.below (by omega) (by omega))).trans (aM.mono (by omega))⟩
 ·have aR:(fv !=0)=true:=by simp[V]
  have HX:=Lh (show Bh n v es z=([],fv)from by rw[HR.o,if_pos (by rw[<-ac.o];exact V),ac.o]);go_wp2_with fail;go_ret2;exact⟨by rw[HX.o];rfl,L1.o⟩
end Go.Proofs.YtegjgjgoodekiaaGreatDoor
namespace Tt
open Go Go.Lib Go.Proofs.YtegjgjgoodekiaaGreatDoor
theorem FI(c:UInt8)(r:List UInt8): ∀a:List UInt8,c ∉ a->indexByte (a++c::r) c=a.length
 | [],_=>by rw[xl,indexByte];simp
 | b::a,h=>by
  have w:b≠c:=fun e=>h (by rw[e];exact xj ..)
  have ih:=FI c r a (fun m=>h (xq _ m));rw[xk,indexByte,ih,if_neg (by simpa using w),if_neg (by rw[beq_iff_eq];omega),xb];omega
theorem PS(c:UInt8)(a r:List UInt8)(h:c ∉ a):split (a++c::r) [c]=a::split r [c]:=by
 have hc:(a++c::r).count c=r.count c+1:=by
  rw[List.count_append,List.count_eq_zero_of_not_mem h,List.count_cons_self];omega
 have hi:index (a++c::r) [c]=a.length:=by rw[index_one,FI c r a h]
 unfold split;rw[count_one,count_one,hc,splitK,hi,if_neg (by rw[beq_iff_eq];omega)];rw[show((a.length:Int).toNat+0)=a.length from by omega,List.take_left,show((a.length:Int).toNat+[c].length)=(a++[c]).length from by simp,show a++c::r=(a++[c])++r from by simp,List.drop_left]
theorem NN(c:UInt8)(a:List UInt8)(h:c ∉ a):split a [c]=[a]:=by
 unfold split;rw[count_one,List.count_eq_zero_of_not_mem h];rfl
theorem RO{n:Nat}(h:n<10):UInt8.ofNat (48+n)≠44:=by
 match n,h with
 | 0,_ | 1,_ | 2,_ | 3,_ | 4,_ | 5,_ | 6,_ | 7,_ | 8,_ | 9,_=>decide
theorem Hq{day start:Int}(hy:(yOf day).toNat<10000)(hm:(mOf day).toNat<100)(hd:(dOf day).toNat<100)(A:0<=start)(w:start<1440):(44:UInt8) ∉ stampL day start:=by
 intro h;simp only[stampL,dateL,d4,d2,xu,xr,xo,or_false]at h;have e: ∀n:Nat,n<10->(44:UInt8)≠UInt8.ofNat (48+n):=fun n hn e=>RO hn e.symm
 rcases h with((((((h | h | h | h) | h | h) | h | h) | h) | h | h) | h | h) | h | h
 all_goals first
  | exact absurd h (by decide)
  | exact e _ (by omega) h
theorem stampsL_split(start:Int)(A:0<=start)(w:start<1440): ∀ds:List Int,ds≠[]->(∀d∈ds,0<=d/\d<=36524)->split (stampsL start ds) [44]=ds.map fun d=>stampL d start
 | [],h,_=>absurd rfl h
 | [d],_,hd=>by
  obtain⟨G,F,H,E,D,d1⟩:=date_toNat (hd d (xj ..)).1 (hd d (xj ..)).2;exact NN _ _ (Hq (by omega) (by omega) (by omega) A w)
 | d::e::r,_,hd=>by
  obtain⟨G,F,H,E,D,d1⟩:=date_toNat (hd d (xj ..)).1 (hd d (xj ..)).2;rw[stampsL,PS _ _ _ (Hq (by omega) (by omega) (by omega) A w),stampsL_split start A w (e::r) (by simp) (fun x hx=>hd x (xq _ hx))];rfl
theorem atoi_d2: ∀n:Nat,n<100->Lib.atoi (d2 n)=some (n:Int):=by decide
set_option maxRecDepth 10000 in
theorem SZ: ∀n:Nat,n<100->Lib.atoi (d4 (2000+n))=some ((2000+n:Nat):Int):=by decide
theorem atoi_d4{n:Nat}(A:2000<=n)(w:n<=2099):Lib.atoi (d4 n)=some (n:Int):=by
 have:=SZ (n - 2000) (by omega);rwa [show 2000+(n - 2000)=n from by omega]at this
end Tt
namespace Go.Proofs.YtegjgjgoodekiaaGreatDoor
open Go.RowKit
theorem J4{s:ByteArray}{start:Int}{ds:List Int}(hs:s.data.toList=Tt.stampsL start ds)(hne:ds≠[])(hd: ∀d∈ds,0<=d/\d<=36524)(A:0<=start)(w:start<1440):
  Lib.splitB ⟨#[44]⟩ 0 (Lib.countB s ⟨#[44]⟩) s=ds.map fun d=>str (Tt.stampL d start):=by
 refine Ei ?_;rw[Lib.splitB_data,List.map_map];show Lib.split s.data.toList [44]=_
 rw[hs,Tt.stampsL_split start A w ds hne hd];rfl
