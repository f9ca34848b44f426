/- The reference's series of days: with, weekdays, Exceptions. The reference's series of any ascending days: Of (141). The event of a session, in plain words. -/
import Derived.Test.YtegjgjgoodekiaaGreatDoorQk20
import Derived.Test.YtegjgjgoodekiaaGreatDoorQk13
import Derived.BigQuiet
import Derived.Deep.RegionWith
import Derived.Test.YtegjgjgoodekiaaGreatDoorQk7
open Go.Value renaming int->ja,string->jc,slice->jd,bool->je,pointer->jf,tuple->jg
open Go.IntKind renaming i64->jb
open Go.Ending renaming returned->jh
open Go.Obj renaming cells->ji
open Go.World.ownsRow renaming alloc->xa
open Nat renaming le_refl->xb,le_trans->xc,le_of_lt->xh,add_zero->xi,zero_le->xk
open List renaming getElem?_eq_some_iff->xd,getElem?_eq_getElem->xe,getElem?_cons_zero->xf,getElem?_cons_succ->xg,getElem?_toArray->xj,mem_singleton->xl,length_append->xm
set_option maxRecDepth 100000
set_option maxHeartbeats 40000000
namespace Go.Proofs.YtegjgjgoodekiaaGreatDoor
open Go.RowKit
theorem Et.new{S lo:Nat}{ds:List Int}{e m:Int}{w:World}(h:Af S #[ja jb (Tt.fstD ds),ja jb (Tt.lstD ds),ja jb e,ja jb m,jd none 0 0,jd none 0 0] 59 w):Et S lo (Tt.serK ds e m 0) (jd none 0 0) (jd none 0 0) w:=
 ⟨h,Ah.nil _ _,Ah.nil _ _,.inl rfl⟩
def Ws(s:Tt.Ser)(w:World)(x:Ending)(w':World):Prop:=∃(p p':Option Addr) (c c':Nat),x=jh (Bf s (jd p s.ex.length c) (jd p' s.xt.length c'))/\Ah w.heap.size w' (jd p s.ex.length c) s.ex/\Ah w.heap.size w' (jd p' s.xt.length c') s.xt/\Below w.heap.size w w'
theorem Tl(ds:List Int)(ao:Option Addr)(c B:Nat)(e m:Int)(w:World)(hd:Tt.DsOk ds)(hB:B<=w.heap.size)(hI:Ints B w ao ds)(aY:1<=e)(aK:e<=4)(aW:0<=m)(aX:m<=127):Calls Tryz.prog 92 #[jd ao ds.length c,ja jb e,ja jb m] w (Ws (Tt.serK ds e m (Tt.spanN ds)) w):=by
 obtain⟨i0,aD,aI,aE,aF⟩:=info_parts Dy;obtain⟨f0,f1,l0,l1⟩:=hd.bd;have aL:=hd.le;have aM:=hd.sp;obtain⟨aC,bc⟩:=hd.span;obtain⟨b,o,ha,hb,ap⟩:=hI.form hd.pos;subst ha;have h1:=ap 0 _ hd.first;have h2:=ap _ _ hd.last;rw[xi]at h1;have HI:=Lh hI;have bk:=Lh hd;have aS:=hd.len;obtain⟨j,hj⟩: ∃j,ds.length=j+1:=⟨ds.length - 1,by have:=hd.pos;omega⟩
 rw[hj,Nat.add_sub_cancel]at h2;obtain⟨F,hF⟩: ∃F,F=Tt.fstD ds:=⟨_,rfl⟩
 obtain⟨L,hL⟩: ∃L,L=Tt.lstD ds:=⟨_,rfl⟩
 have M:=Lh hF;have T:=Lh hL;have bf:(0:Int)<=(j:Int):=by omega
 have bi:(j:Int)<(j:Int)+1:=by omega
 have bj:(0:Int)<(j:Int)+1:=by omega
 have bm:j<=1000000:=by omega
 have HJ:=Lh hj;rw[<-hF,<-hL]at aC aL aM;rw[<-hF]at f0 f1 h1;rw[<-hL]at l0 l1 h2;rw[hj];obtain⟨R,hR⟩: ∃R,R=w.heap.size:=⟨_,rfl⟩
 obtain⟨W0,ah⟩: ∃W0,W0=w.alloc (ji #[ja jb 0,ja jb 0,ja jb 0,ja jb 0,jd none 0 0,jd none 0 0] 59):=⟨_,rfl⟩
 have V:=Lh (show Below w.heap.size w W0 from by rw[ah];exact Aa w _);have au:=Lh (show Af R #[ja jb 0,ja jb 0,ja jb 0,ja jb 0,jd none 0 0,jd none 0 0] 59 W0 from by rw[ah,hR];exact Af.new w _ _);have g1:=(V.o.cell (p:=⟨b,o,none⟩) (show b<w.heap.size by omega)).trans h1;have g2:=(V.o.cell (p:=⟨b,o+j,none⟩) (show b<w.heap.size by omega)).trans h2;have aQ:=Lh hR;have be:=Lh hB;have bl:b<w.heap.size:=by omega
 have a6:b<W0.heap.size:=by have:=V.o.size;omega
 have aH:b≠W0.heap.size:=by omega
 clear hd hI hj hF hL ap h1 h2 aS;go_enter Tryz.func92,Tryz.ntmps92;go_upto_region 1 with(fail);rw[<-ah,<-hR];clear ah hR;go_region;obtain⟨S,hS⟩: ∃S,S=W0.heap.size:=⟨_,rfl⟩
 obtain⟨W1,ae⟩: ∃W,W=(W0.alloc (ji #[ja jb F,ja jb L,ja jb e,ja jb m,jd none 0 0,jd none 0 0] 59)).drew:=⟨_,rfl⟩
 have aA:=Lh (show Af S #[ja jb F,ja jb L,ja jb e,ja jb m,jd none 0 0,jd none 0 0] 59 W1 from by rw[ae,hS];exact Af.draw (Af.new W0 _ _));have aB:=Lh (show Below w.heap.size w W1 from by rw[ae];exact(V.o.trans ((Aa W0 _).mono V.o.size)).drew);have ac:=Lh (show R<S/\w.heap.size<=S from⟨by rw[hS];exact au.o.lt,by rw[hS];exact V.o.size⟩);rw[<-ae,<-hS];have a7:=Lh (show Af R #[ja jb 0,ja jb 0,ja jb 0,ja jb 0,jd none 0 0,jd none 0 0] 59 W1 from by rw[ae];exact Af.draw (au.o.alloc _));clear ae hS au V g1 g2 a6 aH;have c0:W1.cell? ⟨S,0,none⟩=some (ja jb F):=aA.o.cell 0;have az:=Lh (show Et S (S+1) (Tt.serK ds e m 0) (jd none 0 0) (jd none 0 0) W1 from Et.new (by have h:=aA.o;rw[M.o,T.o]at h;exact h));have aO:=Lh (show ∀X,Below S W1 X->Ints B X (some ⟨b,o,none⟩) ds from fun X hX=>HI.o.below ((aB.o.mono hB).trans (hX.mono (by have:=ac.o.2;omega))));have aP:=Lh (show ∀(k:Nat) (hk:k<Tt.spanN ds) (p G:Option Addr) (n n' c c':Nat) (X:World),Calls Tryz.prog 120 #[.agg #[ja jb F,ja jb L,ja jb e,ja jb m,jd p n c,jd G n' c'],ja jb (F+k)] X fun x w'=>x=jh (je (Tt.regB (Tt.headS ds e m) (F+k)))/\Below X.heap.size X w' from fun k hk p G n n' c c' X=>by rw[M.o,T.o];exact IV (Tt.headS ds e m) _ X ((Tt.isD_iff _).2 ⟨by show 0<=Tt.fstD ds;rw[<-M.o];exact f0,by show Tt.fstD ds<=_;rw[<-M.o];exact f1⟩) ((Tt.isD_iff _).2 ⟨by rw[<-M.o];omega,by rw[<-M.o];omega⟩) (by show Tt.fstD ds<=_;omega) (by show _<=Tt.lstD ds;rw[<-M.o,<-T.o];omega) aY aK aW aX p G n n' c c');have aR:=Lh (show ∀(x:Int) (X:World),Below S W1 X->Calls Tryz.prog 121 #[jd (some ⟨b,o,none⟩) (j+1) c,ja jb x] X fun y w'=>y=jh (je (decide (x∈ds)))/\w'=X from fun x X hX=>by have h:=UK B (some ⟨b,o,none⟩) c ds x X (aO.o X hX) (by rw[HJ.o];omega);rw[HJ.o]at h;exact h);go_wp2_with fail;go_loopw [8] (fun iv wr=> ∃(k:Nat) (p G:Option Addr) (H A:Nat),iv=ja jb (F+k)/\k<=Tt.spanN ds/\Hid (Et S (S+1) (Tt.serK ds e m k) (jd p (Tt.exK ds (Tt.headS ds e m) k).length H) (jd G (Tt.xtK ds (Tt.headS ds e m) k).length A) wr)/\Hid (Below S W1 wr)) (fun iv _=>(L+1 - intOf iv).toNat)
 case atStart=>exact⟨0,none,none,0,0,by simp,xk _,az,Lh (Below.refl _ _)⟩
 case round=>
  clear c0 az;obtain⟨k,p,G,H,A,rfl,hk,HM,HB⟩:=hrel;have a8:S<wr.heap.size:=HM.o.box.lt;have c0:wr.cell? ⟨S,0,none⟩=some (ja jb F):=((show Af S #[ja jb F,ja jb L,ja jb e,ja jb m,jd p (Tt.exK ds (Tt.headS ds e m) k).length H,jd G (Tt.xtK ds (Tt.headS ds e m) k).length A] 59 wr from by rw[M.o,T.o];exact HM.o.box)).cell 0;have c1:wr.cell? ⟨S,1,none⟩=some (ja jb L):=((show Af S #[ja jb F,ja jb L,ja jb e,ja jb m,jd p (Tt.exK ds (Tt.headS ds e m) k).length H,jd G (Tt.xtK ds (Tt.headS ds e m) k).length A] 59 wr from by rw[M.o,T.o];exact HM.o.box)).cell 1;have c2:wr.cell? ⟨S,2,none⟩=some (ja jb e):=((show Af S #[ja jb F,ja jb L,ja jb e,ja jb m,jd p (Tt.exK ds (Tt.headS ds e m) k).length H,jd G (Tt.xtK ds (Tt.headS ds e m) k).length A] 59 wr from by rw[M.o,T.o];exact HM.o.box)).cell 2;have c3:wr.cell? ⟨S,3,none⟩=some (ja jb m):=((show Af S #[ja jb F,ja jb L,ja jb e,ja jb m,jd p (Tt.exK ds (Tt.headS ds e m) k).length H,jd G (Tt.xtK ds (Tt.headS ds e m) k).length A] 59 wr from by rw[M.o,T.o];exact HM.o.box)).cell 3;have c4:wr.cell? ⟨S,4,none⟩=some (jd p (Tt.exK ds (Tt.headS ds e m) k).length H):=((show Af S #[ja jb F,ja jb L,ja jb e,ja jb m,jd p (Tt.exK ds (Tt.headS ds e m) k).length H,jd G (Tt.xtK ds (Tt.headS ds e m) k).length A] 59 wr from by rw[M.o,T.o];exact HM.o.box)).cell 4;have c5:wr.cell? ⟨S,5,none⟩=some (jd G (Tt.xtK ds (Tt.headS ds e m) k).length A):=((show Af S #[ja jb F,ja jb L,ja jb e,ja jb m,jd p (Tt.exK ds (Tt.headS ds e m) k).length H,jd G (Tt.xtK ds (Tt.headS ds e m) k).length A] 59 wr from by rw[M.o,T.o];exact HM.o.box)).cell 5;by_cases aG:k<Tt.spanN ds
  rotate_left
  ·have aJ: ¬(F+(k:Int)<=L):=by omega
   obtain rfl:k=Tt.spanN ds:=by omega
   have af:=Lh (a7.o.below HB.o ac.o.1);have r0:=fun i=>af.o.frozen i;have z0:=af.o.c6
   go_wp2_with fail;obtain⟨Y,hY,aV,hE⟩:=CR af.o rfl (aB.o.trans (HB.o.mono ac.o.2)) (by rw[aQ.o];exact xb _) (ja jb F) (ja jb L) (ja jb e) (ja jb m) (jd p (Tt.exK ds (Tt.headS ds e m) (Tt.spanN ds)).length H) (jd G (Tt.xtK ds (Tt.headS ds e m) (Tt.spanN ds)).length A);have hX:=A0 (by decide) [ja jb F,ja jb L,ja jb e,ja jb m,jd p (Tt.exK ds (Tt.headS ds e m) (Tt.spanN ds)).length H,jd G (Tt.xtK ds (Tt.headS ds e m) (Tt.spanN ds)).length A] 0 wr _ HM.o.ex af.o;have av:=A0 (by decide) [ja jb F,ja jb L,ja jb e,ja jb m,jd p (Tt.exK ds (Tt.headS ds e m) (Tt.spanN ds)).length H,jd G (Tt.xtK ds (Tt.headS ds e m) (Tt.spanN ds)).length A] 0 wr _ HM.o.xt af.o;rw[show setAll wr R 0 [ja jb F,ja jb L,ja jb e,ja jb m,jd p (Tt.exK ds (Tt.headS ds e m) (Tt.spanN ds)).length H,jd G (Tt.xtK ds (Tt.headS ds e m) (Tt.spanN ds)).length A]=Y from by rw[hY];rfl]at hX av;have HX:=Lh (Ab hX (by have:=ac.o.2;omega:w.heap.size<=S+1));have aT:=Lh (Ab av (by have:=ac.o.2;omega:w.heap.size<=S+1));rw[<-hY];clear hY hX av r0 z0 c0 c1 c2 c3 c4 c5;have r0:=aV.c6;refine bodyPost_ret (v:=.agg #[ja jb F,ja jb L,ja jb e,ja jb m,jd p (Tt.exK ds (Tt.headS ds e m) (Tt.spanN ds)).length H,jd G (Tt.xtK ds (Tt.headS ds e m) (Tt.spanN ds)).length A]) (by simp[results,Tryz.results92,go_sem,r0]) rfl ?_;exact⟨p,G,H,A,by rw[M.o,T.o];rfl,HX.o,aT.o,hE⟩
  have aJ:F+(k:Int)<=L:=by omega
  have bg:(0:Int)<=(k:Int):=by omega
  have bh:(k:Int)<=141:=by omega
  have ai:=Lh aG;go_wp2_with fail;refine(aP.o k aG p G _ _ H A _).mono ?_;rintro q1 w2 ⟨rfl,aw⟩;have U:=Lh (HB.o.trans (aw.mono (xh a8)));have O:=Lh (HM.o.made aw);have al:S<w2.heap.size:=O.o.box.lt;clear aw HB HM c0 c1 c2 c3 c4 c5;have c0:w2.cell? ⟨S,0,none⟩=some (ja jb F):=((show Af S #[ja jb F,ja jb L,ja jb e,ja jb m,jd p (Tt.exK ds (Tt.headS ds e m) k).length H,jd G (Tt.xtK ds (Tt.headS ds e m) k).length A] 59 w2 from by rw[M.o,T.o];exact O.o.box)).cell 0;have c1:w2.cell? ⟨S,1,none⟩=some (ja jb L):=((show Af S #[ja jb F,ja jb L,ja jb e,ja jb m,jd p (Tt.exK ds (Tt.headS ds e m) k).length H,jd G (Tt.xtK ds (Tt.headS ds e m) k).length A] 59 w2 from by rw[M.o,T.o];exact O.o.box)).cell 1;have c2:w2.cell? ⟨S,2,none⟩=some (ja jb e):=((show Af S #[ja jb F,ja jb L,ja jb e,ja jb m,jd p (Tt.exK ds (Tt.headS ds e m) k).length H,jd G (Tt.xtK ds (Tt.headS ds e m) k).length A] 59 w2 from by rw[M.o,T.o];exact O.o.box)).cell 2;have c3:w2.cell? ⟨S,3,none⟩=some (ja jb m):=((show Af S #[ja jb F,ja jb L,ja jb e,ja jb m,jd p (Tt.exK ds (Tt.headS ds e m) k).length H,jd G (Tt.xtK ds (Tt.headS ds e m) k).length A] 59 w2 from by rw[M.o,T.o];exact O.o.box)).cell 3;have c4:w2.cell? ⟨S,4,none⟩=some (jd p (Tt.exK ds (Tt.headS ds e m) k).length H):=((show Af S #[ja jb F,ja jb L,ja jb e,ja jb m,jd p (Tt.exK ds (Tt.headS ds e m) k).length H,jd G (Tt.xtK ds (Tt.headS ds e m) k).length A] 59 w2 from by rw[M.o,T.o];exact O.o.box)).cell 4;have c5:w2.cell? ⟨S,5,none⟩=some (jd G (Tt.xtK ds (Tt.headS ds e m) k).length A):=((show Af S #[ja jb F,ja jb L,ja jb e,ja jb m,jd p (Tt.exK ds (Tt.headS ds e m) k).length H,jd G (Tt.xtK ds (Tt.headS ds e m) k).length A] 59 w2 from by rw[M.o,T.o];exact O.o.box)).cell 5;obtain⟨g,hg⟩: ∃g,g=Tt.regB (Tt.headS ds e m) (F+k):=⟨_,rfl⟩
  rw[<-hg];have HG:=Lh (show Tt.regB (Tt.headS ds e m) ((Tt.headS ds e m).first+k)=g from by rw[hg,M.o];rfl);clear hg;obtain⟨i,hi⟩: ∃i,i=decide (F+(k:Int)∈ds):=⟨_,rfl⟩
  have aN:=Lh (show(decide ((Tt.headS ds e m).first+(k:Int)∈ds))=i from by rw[hi,M.o];rfl);have aj:=Lh (show Calls Tryz.prog 121 #[jd (some ⟨b,o,none⟩) (j+1) c,ja jb (F+k)] w2 fun y w'=>y=jh (je i)/\w'=w2 from by rw[hi];exact aR.o _ _ U.o);clear hi;have aU:=(Tt.exK_len ds (Tt.headS ds e m) k).1;have ba:=(Tt.exK_len ds (Tt.headS ds e m) k).2;obtain⟨X,ag⟩: ∃X,X=Tt.exK ds (Tt.headS ds e m) k:=⟨_,rfl⟩
  obtain⟨Y,ak⟩: ∃Y,Y=Tt.xtK ds (Tt.headS ds e m) k:=⟨_,rfl⟩
  have E:=Lh (show Et S (S+1) ⟨Tt.fstD ds,Tt.lstD ds,e,m,X,Y⟩ (jd p X.length H) (jd G Y.length A) w2 from by rw[ag,ak];exact O.o);have HK:=Lh (show Tt.serK ds e m (k+1)=⟨Tt.fstD ds,Tt.lstD ds,e,m,(if g=true/\i=false then X++[F+(k:Int)]else X),(if g=false/\i=true then Y++[F+(k:Int)]else Y)⟩from by
   unfold Tt.serK;rw[Tt.exK,Tt.xtK,HG.o,<-ag,<-ak];rw[show((Tt.headS ds e m).first+(k:Int))=F+k from by rw[M.o];rfl];have h:=aN.o;rw[show((Tt.headS ds e m).first+(k:Int))=F+k from by rw[M.o];rfl]at h;cases g<;>cases i<;>simp_all)
  rw[<-ag]at c4 aU;rw[<-ak]at c5 ba;clear ag ak O;have am:=Lh (show Ah (S+1) w2 (jd p X.length H) X from E.o.ex);have ax:=Lh (show Ah (S+1) w2 (jd G Y.length A) Y from E.o.xt);cases g;rotate_left
  ·go_wp2_with fail;refine aj.o.mono ?_;rintro q3 w3 ⟨rfl,hx⟩;rw[hx];clear hx w3 aj;cases i
   ·skip
    go_wp2_with (at_builtin;refine wpList_append_own_at _ rfl (.tmp 41) (.tmp 43) 22 rfl (S+1) 3 i0 (ja jb 0) 1 8 Tryz.underlying22 aD aI aE aF rfl (by decide) _ _ _ rfl (xa am.o _) ⟨w2.heap.size,0,none⟩ 1 1 [ja jb (F+(k:Int))] rfl rfl (Bq _ _ _) (by intro u hu;simp at hu;subst hu;rfl) (by unfold maxLen;omega) (by omega) (by simp;omega) ?_);intro v2 x8 J D _ ab;obtain⟨p2,Z,hv2⟩:=AM J;subst hv2;have aq:=Lh ((E.o.made (Aa w2 _)).addX J D (ab.imp id (fun h=>by rw[h];simp)));have ar:=Lh ((Ak (U.o.trans ((Aa w2 _).mono (xh al))) (xa E.o.ex _) (by omega) (by simp;omega) D).setCell (p:=⟨S,4,none⟩) (xb S) (jd p2 (X.length+1) Z));have ay:=((E.o.made (Aa w2 (ji #[ja jb (F+(k:Int))] 3))).box.grown (xa E.o.ex (ji #[ja jb (F+(k:Int))] 3)) D (by decide)).cell 4;have aZ:=((E.o.made (Aa w2 (ji #[ja jb (F+(k:Int))] 3))).box.grown (xa E.o.ex (ji #[ja jb (F+(k:Int))] 3)) D (by decide)).frozen 4;simp only[xj,xf,xg]at ay;clear J D ab c0 c1 c2 c3 c4 c5 E U;go_wp2_with fail;have aa:=Lh (show Et S (S+1) (Tt.serK ds e m (k+1)) (jd p2 (Tt.exK ds (Tt.headS ds e m) (k+1)).length Z) (jd G (Tt.xtK ds (Tt.headS ds e m) (k+1)).length A) _ from by
     rw[show Tt.exK ds (Tt.headS ds e m) (k+1)=(Tt.serK ds e m (k+1)).ex from rfl,show Tt.xtK ds (Tt.headS ds e m) (k+1)=(Tt.serK ds e m (k+1)).xt from rfl,HK.o];exact by rw[if_pos ⟨by trivial,by trivial⟩,if_neg (fun h=>by cases h.1)];rw[xm];exact aq.o)
    go_roundw
    case rel=>exact⟨k+1,p2,G,Z,A,by go_num,by have:=ai.o;omega,aa,ar⟩
    case measure=>simp[intOf];omega
   ·go_wp2_with fail;have aa:=Lh (show Et S (S+1) (Tt.serK ds e m (k+1)) (jd p (Tt.exK ds (Tt.headS ds e m) (k+1)).length H) (jd G (Tt.xtK ds (Tt.headS ds e m) (k+1)).length A) _ from by
     rw[show Tt.exK ds (Tt.headS ds e m) (k+1)=(Tt.serK ds e m (k+1)).ex from rfl,show Tt.xtK ds (Tt.headS ds e m) (k+1)=(Tt.serK ds e m (k+1)).xt from rfl,HK.o];exact by rw[if_neg (fun h=>by cases h.2),if_neg (fun h=>by cases h.1)];exact E.o)
    go_roundw
    case rel=>exact⟨k+1,p,G,H,A,by go_num,by have:=ai.o;omega,aa,U⟩
    case measure=>simp[intOf];omega
  ·go_wp2_with fail;refine aj.o.mono ?_;rintro q3 w3 ⟨rfl,hx⟩;rw[hx];clear hx w3 aj;cases i;rotate_left
   ·skip
    go_wp2_with (at_builtin;refine wpList_append_own_at _ rfl (.tmp 54) (.tmp 56) 22 rfl (S+1) 3 i0 (ja jb 0) 1 8 Tryz.underlying22 aD aI aE aF rfl (by decide) _ _ _ rfl (xa ax.o _) ⟨w2.heap.size,0,none⟩ 1 1 [ja jb (F+(k:Int))] rfl rfl (Bq _ _ _) (by intro u hu;simp at hu;subst hu;rfl) (by unfold maxLen;omega) (by omega) (by simp;omega) ?_);intro v2 x8 J D _ ab;obtain⟨p2,Z,hv2⟩:=AM J;subst hv2;have aq:=Lh ((E.o.made (Aa w2 _)).addY J D (ab.imp id (fun h=>by rw[h];simp)));have ar:=Lh ((Ak (U.o.trans ((Aa w2 _).mono (xh al))) (xa E.o.xt _) (by omega) (by simp;omega) D).setCell (p:=⟨S,5,none⟩) (xb S) (jd p2 (Y.length+1) Z));have ay:=((E.o.made (Aa w2 (ji #[ja jb (F+(k:Int))] 3))).box.grown (xa E.o.xt (ji #[ja jb (F+(k:Int))] 3)) D (by decide)).cell 5;have aZ:=((E.o.made (Aa w2 (ji #[ja jb (F+(k:Int))] 3))).box.grown (xa E.o.xt (ji #[ja jb (F+(k:Int))] 3)) D (by decide)).frozen 5;simp only[xj,xf,xg]at ay;clear J D ab c0 c1 c2 c3 c4 c5 E U;go_wp2_with fail;have aa:=Lh (show Et S (S+1) (Tt.serK ds e m (k+1)) (jd p (Tt.exK ds (Tt.headS ds e m) (k+1)).length H) (jd p2 (Tt.xtK ds (Tt.headS ds e m) (k+1)).length Z) _ from by
     rw[show Tt.exK ds (Tt.headS ds e m) (k+1)=(Tt.serK ds e m (k+1)).ex from rfl,show Tt.xtK ds (Tt.headS ds e m) (k+1)=(Tt.serK ds e m (k+1)).xt from rfl,HK.o];exact by rw[if_neg (fun h=>by cases h.1),if_pos ⟨by trivial,by trivial⟩];rw[xm];exact aq.o)
    go_roundw
    case rel=>exact⟨k+1,p,p2,H,Z,by go_num,by have:=ai.o;omega,aa,ar⟩
    case measure=>simp[intOf];omega
   ·go_wp2_with fail;have aa:=Lh (show Et S (S+1) (Tt.serK ds e m (k+1)) (jd p (Tt.exK ds (Tt.headS ds e m) (k+1)).length H) (jd G (Tt.xtK ds (Tt.headS ds e m) (k+1)).length A) _ from by
     rw[show Tt.exK ds (Tt.headS ds e m) (k+1)=(Tt.serK ds e m (k+1)).ex from rfl,show Tt.xtK ds (Tt.headS ds e m) (k+1)=(Tt.serK ds e m (k+1)).xt from rfl,HK.o];exact by rw[if_neg (fun h=>by cases h.1),if_neg (fun h=>by cases h.2)];exact E.o)
    go_roundw
    case rel=>exact⟨k+1,p,G,H,A,by go_num,by have:=ai.o;omega,aa,U⟩
    case measure=>simp[intOf];omega
theorem FK(s:Tt.Ser)(p A:Option Addr)(n n' c c':Nat)(w:World)(E:n<=1000000000)(F:n'<=1000000000):Calls Tryz.prog 94 #[Bf s (jd p n c) (jd A n' c')] w fun e w'=>e=jh (ja jb ((n:Int)+n'))/\Below w.heap.size w w':=by
 have D:=Lh (Aa w (ji #[ja jb s.first,ja jb s.last,ja jb s.every,ja jb s.wd,jd p n c,jd A n' c'] 59));unfold Bf;go_enter Tryz.func94,Tryz.ntmps94;go_wp2_with fail;go_ret;exact⟨rfl,D.o⟩
theorem U2{ds:List Int}(hd:Tt.DsOk ds)(e:Int)(j k:Nat)(hj:j<7)(hk:k<Tt.spanN ds):Tt.regB (Tt.headS ds e ((2 ^ j:Nat):Int)) (Tt.fstD ds+k)=Tt.onB ds e j (Tt.fstD ds+k):=by
 obtain⟨w, -⟩:=hd.span;obtain⟨w0,A⟩:=Tt.wk_bd (Tt.fstD ds+k);obtain⟨x,hx⟩: ∃x:Nat,Tt.wk (Tt.fstD ds+k)=x:=⟨(Tt.wk (Tt.fstD ds+k)).toNat,by omega⟩
 show(decide (Tt.fstD ds<=Tt.fstD ds+k) && decide (Tt.fstD ds+k<=Tt.lstD ds) && Tt.bit ((2 ^ j:Nat):Int) (Tt.wk (Tt.fstD ds+k)) && Tt.cnt (Tt.fstD ds) e (Tt.fstD ds+k))=(decide (Tt.wk (Tt.fstD ds+k)=j) && Tt.cnt (Tt.fstD ds) e (Tt.fstD ds+k))
 rw[decide_eq_true (show Tt.fstD ds<=Tt.fstD ds+k by omega),decide_eq_true (show Tt.fstD ds+k<=Tt.lstD ds by omega),hx,Tt.bit_pow j hj x (by omega)];rfl
theorem Qg(ds:List Int)(e:Int)(hd:Tt.DsOk ds)(D:1<=e)(E:e<=4)(j k:Nat)(hj:j<7)(hk:k<Tt.spanN ds)(w:Nat)(A:w=2 ^ j)(F L:Int)(G:F=Tt.fstD ds)(J:L=Tt.lstD ds)(X:World):Calls Tryz.prog 120 #[.agg #[ja jb F,ja jb L,ja jb e,ja jb w,jd none 0 0,jd none 0 0],ja jb (F+k)] X fun x w'=>x=jh (je (Tt.onB ds e j (F+k)))/\Below X.heap.size X w':=by
 obtain⟨f0,H,R,M⟩:=hd.bd;obtain⟨O, -⟩:=hd.span;have hp:w<=64:=by rw[A];exact Nat.pow_le_pow_right (n:=2) (by decide) (show j<=6 by omega)
 have hr:=U2 hd e j k hj hk;rw[<-A]at hr;subst G J;have h:=IV (Tt.headS ds e (w:Int)) (Tt.fstD ds+k) X ((Tt.isD_iff _).2 ⟨f0,H⟩) ((Tt.isD_iff _).2 ⟨by omega,by omega⟩) (show Tt.fstD ds<=Tt.fstD ds+k by omega) (show Tt.fstD ds+k<=Tt.lstD ds by omega) D E (show(0:Int)<=(w:Int)by omega) (show(w:Int)<=127 by omega) none none 0 0 0 0;rw[hr]at h;exact h
theorem LS(ds:List Int)(ao:Option Addr)(c B:Nat)(e:Int)(w:World)(hd:Tt.DsOk ds)(hB:B<=w.heap.size)(hI:Ints B w ao ds)(aI:1<=e)(aw:e<=4):Calls Tryz.prog 93 #[jd ao ds.length c,ja jb e] w (fun x w'=>x=jh (ja jb (Tt.wdK ds e 7))/\Below w.heap.size w w'):=by
 obtain⟨i0,aQ,aY,aT,aV⟩:=info_parts Dy;obtain⟨f0,f1,l0,l1⟩:=hd.bd;have az:=hd.le;have aA:=hd.sp;obtain⟨ag,aL⟩:=hd.span;obtain⟨b,o,ha,hb,Z⟩:=hI.form hd.pos;subst ha;have h1:=Z 0 _ hd.first;have h2:=Z _ _ hd.last;rw[xi]at h1;have HI:=Lh hI;have aH:=Lh hd;have aE:=hd.len;obtain⟨j,hj⟩: ∃j,ds.length=j+1:=⟨ds.length - 1,by have:=hd.pos;omega⟩
 rw[hj,Nat.add_sub_cancel]at h2;obtain⟨F,hF⟩: ∃F,F=Tt.fstD ds:=⟨_,rfl⟩
 obtain⟨L,hL⟩: ∃L,L=Tt.lstD ds:=⟨_,rfl⟩
 have HF:=Lh hF;have HL:=Lh hL;have aP:(0:Int)<=(j:Int):=by omega
 have aU:(j:Int)<(j:Int)+1:=by omega
 have aW:(0:Int)<(j:Int)+1:=by omega
 have aX:j<=1000000:=by omega
 have HJ:=Lh hj;rw[<-hF,<-hL]at ag az aA;rw[<-hF]at f0 f1 h1;rw[<-hL]at l0 l1 h2;rw[hj];have am:b<w.heap.size:=by omega
 have av:=Lh h1;have aC:=Lh h2;have aN:=Lh hB;clear hd hI hj hF hL Z h1 h2 aE;have aD:=Lh (show ∀(x:Int) (X:World),Below w.heap.size w X->Calls Tryz.prog 121 #[jd (some ⟨b,o,none⟩) (j+1) c,ja jb x] X fun y w'=>y=jh (je (decide (x∈ds)))/\w'=X from fun x X hX=>by have h:=UK B (some ⟨b,o,none⟩) c ds x X (HI.o.below (hX.mono hB)) (by rw[HJ.o];omega);rw[HJ.o]at h;exact h);go_enter Tryz.func93,Tryz.ntmps93;go_wp2_with fail;go_loopw [5,6] (fun sv U wr=> ∃D:Nat,U=ja jb D/\sv=ja jb (Tt.wdK ds e D)/\D<=7/\Hid (Below w.heap.size w wr)) (fun _ U _=>7 - (intOf U).toNat)
 case atStart=>exact⟨0,rfl,rfl,by omega,Lh (Below.refl _ _)⟩
 case round=>
  obtain⟨D,rfl,rfl,aG,HB⟩:=hrel;by_cases G:D<7;rotate_left
  ·have ax: ¬(D:Int)<7:=by omega
   obtain rfl:D=7:=by omega
   go_wp2_with fail;go_ret;exact⟨rfl,HB.o⟩
  have ax:(D:Int)<7:=by omega
  have aM: ¬((D:Int)<0):=by omega
  have aK:(0:Int)<=(D:Int):=by omega
  have ah:=Tt.wdK_lt ds e D aG;obtain⟨V,hV⟩: ∃V,V=Tt.wdK ds e D:=⟨_,rfl⟩
  rw[<-hV]at ah ⊢;have HV:=Lh hV;clear hV;obtain⟨H,J⟩: ∃H:Nat,H=2 ^ D:=⟨_,rfl⟩
  have aO:H<=64:=by rw[J];exact Nat.pow_le_pow_right (n:=2) (by decide) (show D<=6 by omega)
  have aj:=Lh J;have ay:RowKit.wrap64 (2 ^ D)=(H:Int):=by rw[show((2:Int) ^ D)=((2 ^ D:Nat):Int)by simp,<-J];unfold RowKit.wrap64;omega
  have ae:bits BinOp.or IntKind.i64 (V:Int) (H:Int)=((V ||| H:Nat):Int):=by have h:=Tt.or_any D G V ah;rw[ay]at h;rw[h,J]
  have aF:=Lh ae;have aJ:b<wr.heap.size:=by have:=HB.o.size;omega
  have ar:b≠wr.heap.size:=by omega
  have g1:=(HB.o.cell (p:=⟨b,o,none⟩) am).trans av.o;have g2:=(HB.o.cell (p:=⟨b,o+j,none⟩) am).trans aC.o;have ac:=Lh G;clear J ae G;go_upto_region 5 with(fail)
  go_region
  obtain⟨S,hS⟩: ∃S,S=wr.heap.size:=⟨_,rfl⟩
  obtain⟨W1,R⟩: ∃W,W=(wr.alloc (ji #[ja jb F,ja jb L,ja jb e,ja jb H,jd none 0 0,jd none 0 0] 59)).drew:=⟨_,rfl⟩
  have A:=Lh (show Af S #[ja jb F,ja jb L,ja jb e,ja jb H,jd none 0 0,jd none 0 0] 59 W1 from by rw[R,hS];exact Af.draw (Af.new wr _ _));have O:=Lh (show Below w.heap.size w W1 from by rw[R];exact(HB.o.trans ((Aa wr _).mono HB.o.size)).drew);rw[<-R,<-hS];clear R hS g1 g2 aJ ar;have c0:W1.cell? ⟨S,0,none⟩=some (ja jb F):=A.o.cell 0;have aB:=Lh (show ∀(k:Nat) (hk:k<Tt.spanN ds) (X:World),Calls Tryz.prog 120 #[.agg #[ja jb F,ja jb L,ja jb e,ja jb H,jd none 0 0,jd none 0 0],ja jb (F+k)] X fun x w'=>x=jh (je (Tt.onB ds e D (F+k)))/\Below X.heap.size X w' from fun k hk X=>Qg ds e aH.o aI aw D k ac.o hk H aj.o F L HF.o HL.o X);go_wp2_with fail;clear c0;go_loopw [8,9,10] (fun hv mv U wy=> ∃k:Nat,U=ja jb (F+k)/\hv=ja jb (Tt.hitK ds e D k)/\mv=ja jb (Tt.missK ds e D k)/\k<=Tt.spanN ds/\Hid (Below W1.heap.size W1 wy)) (fun _ _ U _=>(L+1 - intOf U).toNat)
  case atStart=>exact⟨0,by simp,rfl,rfl,xk _,Lh (Below.refl _ _)⟩
  case round=>
   obtain⟨k,rfl,rfl,rfl,hk,M⟩:=hrel;have c0:wr.cell? ⟨S,0,none⟩=some (ja jb F):=(A.o.below M.o A.o.lt).cell 0;have c1:wr.cell? ⟨S,1,none⟩=some (ja jb L):=(A.o.below M.o A.o.lt).cell 1;have c2:wr.cell? ⟨S,2,none⟩=some (ja jb e):=(A.o.below M.o A.o.lt).cell 2;have c3:wr.cell? ⟨S,3,none⟩=some (ja jb H):=(A.o.below M.o A.o.lt).cell 3;have c4:wr.cell? ⟨S,4,none⟩=some (jd none 0 0):=(A.o.below M.o A.o.lt).cell 4;have c5:wr.cell? ⟨S,5,none⟩=some (jd none 0 0):=(A.o.below M.o A.o.lt).cell 5;obtain⟨t0,t1,t2,t3⟩:=Tt.hitK_bd ds e D k;obtain⟨X,hX⟩: ∃X,X=Tt.hitK ds e D k:=⟨_,rfl⟩
   obtain⟨Y,hY⟩: ∃Y,Y=Tt.missK ds e D k:=⟨_,rfl⟩
   rw[<-hX]at t0 t1 ⊢;rw[<-hY]at t2 t3 ⊢;have HX:=Lh hX;have aq:=Lh hY;clear hX hY;by_cases G:k<Tt.spanN ds;rotate_left
   ·have au: ¬(F+(k:Int)<=L):=by omega
    obtain rfl:k=Tt.spanN ds:=by omega
    have ak:=Lh (O.o.trans (M.o.mono O.o.size));have HW:=Lh (show Tt.wdK ds e (D+1)=if Y<X then V ||| H else V from by rw[Tt.wdK,<-HX.o,<-aq.o,<-HV.o,<-aj.o]);by_cases ai:Y<X
    ·have aa:=Lh (show Tt.wdK ds e (D+1)=V ||| H from by rw[HW.o,if_pos ai]);have ae:=aF.o;go_wp2_with fail;go_roundw
     case rel=>exact⟨D+1,by go_num,by rw[aa.o],by have:=ac.o;omega,ak⟩
     case measure=>simp[intOf];omega
    ·have aa:=Lh (show Tt.wdK ds e (D+1)=V from by rw[HW.o,if_neg ai]);go_wp2_with fail;go_roundw
     case rel=>exact⟨D+1,by go_num,by rw[aa.o],by have:=ac.o;omega,ak⟩
     case measure=>simp[intOf];omega
   have au:F+(k:Int)<=L:=by omega
   have aR:(0:Int)<=(k:Int):=by omega
   have aS:(k:Int)<=141:=by omega
   have af:=Lh G;go_wp2_with fail;refine(aB.o k G _).mono ?_;rintro q1 w2 ⟨rfl,ap⟩;have E:=Lh (M.o.trans (ap.mono M.o.size));clear ap M c0 c1 c2 c3 c4 c5;have c0:w2.cell? ⟨S,0,none⟩=some (ja jb F):=(A.o.below E.o A.o.lt).cell 0;have c1:w2.cell? ⟨S,1,none⟩=some (ja jb L):=(A.o.below E.o A.o.lt).cell 1;have c2:w2.cell? ⟨S,2,none⟩=some (ja jb e):=(A.o.below E.o A.o.lt).cell 2;have c3:w2.cell? ⟨S,3,none⟩=some (ja jb H):=(A.o.below E.o A.o.lt).cell 3;have c4:w2.cell? ⟨S,4,none⟩=some (jd none 0 0):=(A.o.below E.o A.o.lt).cell 4;have c5:w2.cell? ⟨S,5,none⟩=some (jd none 0 0):=(A.o.below E.o A.o.lt).cell 5;obtain⟨g,hg⟩: ∃g,g=Tt.onB ds e D (F+k):=⟨_,rfl⟩
   obtain⟨i,hi⟩: ∃i,i=decide (F+(k:Int)∈ds):=⟨_,rfl⟩
   rw[<-hg];have al:=Lh (show Calls Tryz.prog 121 #[jd (some ⟨b,o,none⟩) (j+1) c,ja jb (F+k)] w2 fun y w'=>y=jh (je i)/\w'=w2 from by rw[hi];exact aD.o _ _ (O.o.trans (E.o.mono O.o.size)));have T:=Lh (show Tt.hitK ds e D (k+1)=X+(if g=true/\i=true then 1 else 0)from by rw[Tt.hitK,<-HX.o,hg,hi,HF.o];simp);have ab:=Lh (show Tt.missK ds e D (k+1)=Y+(if g=true/\i=false then 1 else 0)from by rw[Tt.missK,<-aq.o,hg,hi,HF.o];simp);clear hg hi G;cases g
   ·go_wp2_with fail;go_roundw
    case rel=>exact⟨k+1,by go_num,by rw[T.o];simp,by rw[ab.o];simp,by have:=af.o;omega,E⟩
    case measure=>simp[intOf];omega
   ·go_wp2_with fail;refine al.o.mono ?_;rintro q3 w3 ⟨rfl,hx⟩;rw[hx];clear hx w3 al;cases i
    ·go_wp2_with fail;go_roundw
     case rel=>exact⟨k+1,by go_num,by rw[T.o];simp,by rw[ab.o];simp,by have:=af.o;omega,E⟩
     case measure=>simp[intOf];omega
    ·go_wp2_with fail;go_roundw
     case rel=>exact⟨k+1,by go_num,by rw[T.o];simp,by rw[ab.o];simp,by have:=af.o;omega,E⟩
     case measure=>simp[intOf];omega
end Go.Proofs.YtegjgjgoodekiaaGreatDoor
namespace Tt
def Wi(s:Ser):Int:=(s.ex.length:Int)+s.xt.length
def bestK(ds:List Int):Nat->Ser
 | 0=>withV ds 1
 | k+1=>if Wi (withV ds ((k:Int)+2))<Wi (bestK ds k)then withV ds ((k:Int)+2)else bestK ds k
def ofV(ds:List Int):Ser:=bestK ds 3
theorem with_len(ds:List Int)(h:spanN ds<=141)(e:Int):(withV ds e).ex.length<=141/\(withV ds e).xt.length<=141:=by
 have:=exK_len ds (headS ds e (wdK ds e 7)) (spanN ds);exact⟨xc this.1 h,xc this.2 h⟩
theorem best_len(ds:List Int)(h:spanN ds<=141): ∀k,(bestK ds k).ex.length<=141/\(bestK ds k).xt.length<=141
 | 0=>with_len ds h 1
 | k+1=>by
  rw[bestK];split
  ·exact with_len ds h _
  ·exact best_len ds h k
def AscD(ds:List Int):Prop:=∀(k:Nat) (a b:Int),ds[k]?=some a->ds[k+1]?=some b->a<b
end Tt
namespace Go.Proofs.YtegjgjgoodekiaaGreatDoor
open Go.RowKit
structure NA (T lo:Nat) (s:Tt.Ser) (p p':Option Addr) (c c':Nat) (w:World):Prop where
 box:Af T #[ja jb s.first,ja jb s.last,ja jb s.every,ja jb s.wd,jd p s.ex.length c,jd p' s.xt.length c'] 59 w
 ex:Ah lo w (jd p s.ex.length c) s.ex
 xt:Ah lo w (jd p' s.xt.length c') s.xt
theorem NA.made{T lo:Nat}{s:Tt.Ser}{p A:Option Addr}{c c':Nat}{w w':World}(h:NA T lo s p A c c' w)(hb:Below w.heap.size w w'):NA T lo s p A c c' w':=
 ⟨h.box.below hb h.box.lt,AD h.ex hb,AD h.xt hb⟩
def Wt(s:Tt.Ser)(cd:Int)(w:World)(x:Ending)(w':World):Prop:=∃(p p':Option Addr) (c c':Nat),x=jh (jg #[Bf s (jd p s.ex.length c) (jd p' s.xt.length c'),ja jb cd])/\Ah w.heap.size w' (jd p s.ex.length c) s.ex/\Ah w.heap.size w' (jd p' s.xt.length c') s.xt/\Below w.heap.size w w'
theorem Wc(ds:List Int)(ao:Option Addr)(c B:Nat)(w:World)(hd:Tt.DsOk ds)(aK:Tt.AscD ds)(hB:B<=w.heap.size)(hI:Ints B w ao ds):Calls Tryz.prog 64 #[jd ao ds.length c] w (Wt (Tt.ofV ds) 0 w):=by
 obtain⟨f0,f1,l0,l1⟩:=hd.bd;have a8:=hd.le;have bi:=hd.sp;have ae:=Lh hd.span;obtain⟨b,o,ha,hb,aq⟩:=hI.form hd.pos;subst ha;have h1:=aq 0 _ hd.first;have h2:=aq _ _ hd.last;rw[xi]at h1;have HI:=Lh hI;have aF:=Lh hd;have bp:=hd.len;have aT:=Lh aq;have bv:=Lh aK;obtain⟨n,hn⟩: ∃n,n=ds.length:=⟨_,rfl⟩
 have bS:0<n:=by rw[hn];exact hd.pos
 rw[<-hn]at bp h2 ⊢;have HN:=Lh hn;obtain⟨j,hj⟩: ∃j,n=j+1:=⟨n - 1,by omega⟩
 rw[hj,Nat.add_sub_cancel]at h2;obtain⟨F,hF⟩: ∃F,F=Tt.fstD ds:=⟨_,rfl⟩
 obtain⟨L,hL⟩: ∃L,L=Tt.lstD ds:=⟨_,rfl⟩
 rw[<-hF,<-hL]at a8 bi;rw[<-hF]at f0 f1 h1;rw[<-hL]at l0 l1 h2;have bM:(0:Int)<=(j:Int):=by omega
 have bU:(j:Int)<(j:Int)+1:=by omega
 have bW:(0:Int)<(j:Int)+1:=by omega
 have b1:j<=1000000:=by omega
 have az:b<w.heap.size:=by omega
 have am:=Lh hB;have aX:=Lh h1;have bm:=Lh h2;subst hj;have bL:((j:Int)+1==0)=false:=beq_eq_false_iff_ne.2 (by omega);obtain⟨R,hR⟩: ∃R,R=w.heap.size:=⟨_,rfl⟩
 obtain⟨W0,ap⟩: ∃W0,W0=w.alloc (ji #[ja jb 0,ja jb 0,ja jb 0,ja jb 0,jd none 0 0,jd none 0 0] 59):=⟨_,rfl⟩
 have aZ:=Lh (show Below w.heap.size w W0 from by rw[ap];exact Aa w _);have bB:=Lh (show Af R #[ja jb 0,ja jb 0,ja jb 0,ja jb 0,jd none 0 0,jd none 0 0] 59 W0 from by rw[ap,hR];exact Af.new w _ _);have bo:=Lh hR;clear hd aK hI hn hF hL aq h1 h2;go_enter Tryz.func64,Tryz.ntmps64;go_upto_region 1 with(fail);rw[<-ap,<-hR];clear ap hR;go_wp2_with fail;go_loopw [4] (fun iv wr=> ∃k:Nat,iv=ja jb k/\k<=j+1/\Hid (Below w.heap.size w wr)/\Hid (Af R #[ja jb 0,ja jb 0,ja jb 0,ja jb 0,jd none 0 0,jd none 0 0] 59 wr)) (fun iv _=>j+1 - (intOf iv).toNat)
 case atStart=>exact⟨0,rfl,xk _,aZ,bB⟩
 case round=>
  obtain⟨k,rfl,hk,V,ac⟩:=hrel;by_cases aU:k<j+1
  ·obtain⟨d,au⟩: ∃d,ds[k]?=some d:=⟨_,xe (by have:=HN.o;omega)⟩
   have aW:(k:Int)<(j:Int)+1:=by omega
   have bI:(0:Int)<=(k:Int):=by omega
   have aO:=(V.o.cell (p:=⟨b,o+k,none⟩) az).trans (aT.o k d au);have HD:=Lh (show Tt.isD d=true from(Tt.isD_iff _).2 (aF.o.d d (List.mem_of_getElem? au)));cases k with
   | zero=>
    have aO:wr.cell? ⟨b,o,none⟩=some (ja jb d):=by simpa using aO
    go_wp2_with fail;refine(Sc _ _).mono ?_;rintro e w1 ⟨rfl,hx⟩;rw[hx,HD.o];clear hx w1;go_wp2_with fail;go_quiet (fail)
    go_wp2_with fail;go_roundw
    case rel=>exact⟨1,by go_num,by omega,Lh (V.o.trans ⟨rfl,rfl,rfl,xb _,fun k hk=>rfl⟩),ac⟩
    case measure=>simp[intOf]
   | succ k=>
    obtain⟨d2,aC⟩: ∃d2,ds[k]?=some d2:=⟨_,xe (by have:=HN.o;omega)⟩
    have bV:=(V.o.cell (p:=⟨b,o+k,none⟩) az).trans (aT.o k d2 aC);have bK: ¬d<=d2:=by have:=bv.o k d2 d aC au;omega
    have bX:((k:Int)+1).toNat=k+1:=by omega
    have bR:(0:Int)<=(k:Int)+1:=by omega
    have bT:(k:Int)<(j:Int)+1:=by omega
    have bY:(0:Int)<(k:Int)+1:=by omega
    have bN:(0:Int)<=(k:Int):=by omega
    have bJ:(k:Int)+1<(j:Int)+1:=by omega
    clear aC au;go_wp2_with fail;refine(Sc _ _).mono ?_;rintro e w1 ⟨rfl,hx⟩;rw[hx,HD.o];clear hx w1;go_wp2_with fail;go_quiet (fail)
    go_wp2_with fail;go_roundw
    case rel=>exact⟨k+1+1,by go_num,by omega,Lh (V.o.trans ⟨rfl,rfl,rfl,xb _,fun k hk=>rfl⟩),ac⟩
    case measure=>simp[intOf];omega
  ·have aW: ¬(k:Int)<(j:Int)+1:=by omega
   have g1:=(V.o.cell (p:=⟨b,o,none⟩) az).trans aX.o;have g2:=(V.o.cell (p:=⟨b,o+j,none⟩) az).trans bm.o;have bH: ¬F+140<L:=by omega
   go_upto_region 10 with(fail);go_quiet (fail)
   obtain⟨O,ay⟩: ∃O,O=wr.drewN nq:=⟨_,rfl⟩
   have Z:=Lh (show Below w.heap.size w O from by rw[ay];exact V.o.trans ⟨rfl,rfl,rfl,xb _,fun k hk=>rfl⟩);have aV:=Lh (show Af R #[ja jb 0,ja jb 0,ja jb 0,ja jb 0,jd none 0 0,jd none 0 0] 59 O from by rw[ay];exact ac.o);rw[<-ay];clear ay g1 g2 ac;have aI:=Lh (show ∀(e:Int) (X:World),1<=e->e<=4->Below w.heap.size w X->Calls Tryz.prog 93 #[jd (some ⟨b,o,none⟩) (j+1) c,ja jb e] X fun x w'=>x=jh (ja jb (Tt.wdK ds e 7))/\Below X.heap.size X w' from fun e X h0 h1 hX=>by have h:=LS ds (some ⟨b,o,none⟩) c B e X aF.o (xc am.o hX.size) (HI.o.below (hX.mono am.o)) h0 h1;rw[<-HN.o]at h;exact h);have aH:=Lh (show ∀(e:Int) (X:World),1<=e->e<=4->Below w.heap.size w X->Calls Tryz.prog 92 #[jd (some ⟨b,o,none⟩) (j+1) c,ja jb e,ja jb (Tt.wdK ds e 7)] X (Ws (Tt.withV ds e) X)from fun e X h0 h1 hX=>by have h:=Tl ds (some ⟨b,o,none⟩) c B e (Tt.wdK ds e 7) X aF.o (xc am.o hX.size) (HI.o.below (hX.mono am.o)) h0 h1 (by omega) (by have:=Tt.wdK_lt ds e 7 (by omega);omega);rw[<-HN.o]at h;exact h);go_wp2_with fail;refine(aI.o 1 _ (by omega) (by omega) Z.o).mono ?_;rintro e w2 ⟨rfl,ab⟩;have E:=Lh (Z.o.trans (ab.mono Z.o.size));have G:=Lh ab;clear ab;go_wp2_with fail;refine(aH.o 1 _ (by omega) (by omega) E.o).mono ?_;rintro e w3 ⟨pa,pb,ca,cb,rfl,hx,hy,af⟩;have bs:=Lh (E.o.trans (af.mono E.o.size));have H:=Lh (G.o.trans (af.mono G.o.size));have al:=Lh (Ab hx G.o.size);have aw:=Lh (Ab hy G.o.size);clear af hx hy;unfold Bf;go_upto_region 13 with(fail);obtain⟨T,hT⟩: ∃T,T=w3.heap.size:=⟨_,rfl⟩
   obtain⟨W4,ax⟩: ∃W4,W4=w3.alloc (ji #[ja jb (Tt.withV ds 1).first,ja jb (Tt.withV ds 1).last,ja jb (Tt.withV ds 1).every,ja jb (Tt.withV ds 1).wd,jd pa (Tt.withV ds 1).ex.length ca,jd pb (Tt.withV ds 1).xt.length cb] 59):=⟨_,rfl⟩
   have aS:=Lh (show NA T O.heap.size (Tt.bestK ds 0) pa pb ca cb W4 from by rw[ax,hT];exact⟨Af.new w3 _ _,xa al.o _,xa aw.o _⟩);have M:=Lh (show Below O.heap.size O W4 from by rw[ax];exact H.o.trans ((Aa w3 _).mono H.o.size));have bx:=Lh (show O.heap.size<=T from by rw[hT];exact H.o.size);rw[<-ax,<-hT];clear ax hT al aw H bs E G;go_wp2_with fail;have be:=Lh (show O.heap.size<=T from bx.o);go_loopw [6] (fun iv wr=> ∃(e:Nat) (p p':Option Addr) (cc D:Nat),iv=ja jb ((e:Int)+2)/\e<=3/\Hid (NA T O.heap.size (Tt.bestK ds e) p p' cc D wr)/\Hid (Below O.heap.size O wr)) (fun iv _=>5 - (intOf iv).toNat)
   case atStart=>exact⟨0,pa,pb,ca,cb,rfl,by omega,aS,M⟩
   case round=>
    clear aS M;obtain⟨e,p,p',cc,D,rfl,he,HQ,HX⟩:=hrel;have ar:=Lh (Z.o.trans (HX.o.mono Z.o.size));by_cases aU:e<3
    rotate_left
    ·have bD: ¬(e:Int)+2<=4:=by omega
     obtain rfl:e=3:=by omega
     have c0:wr.cell? ⟨T,0,none⟩=some (ja jb (Tt.bestK ds 3).first):=HQ.o.box.cell 0;have c1:wr.cell? ⟨T,1,none⟩=some (ja jb (Tt.bestK ds 3).last):=HQ.o.box.cell 1;have c2:wr.cell? ⟨T,2,none⟩=some (ja jb (Tt.bestK ds 3).every):=HQ.o.box.cell 2;have c3:wr.cell? ⟨T,3,none⟩=some (ja jb (Tt.bestK ds 3).wd):=HQ.o.box.cell 3;have c4:wr.cell? ⟨T,4,none⟩=some (jd p (Tt.bestK ds 3).ex.length cc):=HQ.o.box.cell 4;have c5:wr.cell? ⟨T,5,none⟩=some (jd p' (Tt.bestK ds 3).xt.length D):=HQ.o.box.cell 5;have ak:=Lh (aV.o.below HX.o aV.o.lt);have r0:=fun i=>ak.o.frozen i;have z0:=ak.o.c6
     go_wp2_with fail;obtain⟨Y,hY,av,hE⟩:=CR ak.o rfl ar.o (by rw[bo.o];exact xb _) (ja jb (Tt.bestK ds 3).first) (ja jb (Tt.bestK ds 3).last) (ja jb (Tt.bestK ds 3).every) (ja jb (Tt.bestK ds 3).wd) (jd p (Tt.bestK ds 3).ex.length cc) (jd p' (Tt.bestK ds 3).xt.length D);have hX:=A0 (by decide) [ja jb (Tt.bestK ds 3).first,ja jb (Tt.bestK ds 3).last,ja jb (Tt.bestK ds 3).every,ja jb (Tt.bestK ds 3).wd,jd p (Tt.bestK ds 3).ex.length cc,jd p' (Tt.bestK ds 3).xt.length D] 0 wr _ HQ.o.ex ak.o;have aa:=A0 (by decide) [ja jb (Tt.bestK ds 3).first,ja jb (Tt.bestK ds 3).last,ja jb (Tt.bestK ds 3).every,ja jb (Tt.bestK ds 3).wd,jd p (Tt.bestK ds 3).ex.length cc,jd p' (Tt.bestK ds 3).xt.length D] 0 wr _ HQ.o.xt ak.o;rw[show setAll wr R 0 [ja jb (Tt.bestK ds 3).first,ja jb (Tt.bestK ds 3).last,ja jb (Tt.bestK ds 3).every,ja jb (Tt.bestK ds 3).wd,jd p (Tt.bestK ds 3).ex.length cc,jd p' (Tt.bestK ds 3).xt.length D]=Y from by rw[hY];rfl]at hX aa;have bt:=Lh (Ab hX Z.o.size);have aP:=Lh (Ab aa Z.o.size);rw[<-hY];clear hY hX aa r0 z0 c0 c1 c2 c3 c4 c5;have r0:=av.c6;refine bodyPost_ret (v:=jg #[.agg #[ja jb (Tt.bestK ds 3).first,ja jb (Tt.bestK ds 3).last,ja jb (Tt.bestK ds 3).every,ja jb (Tt.bestK ds 3).wd,jd p (Tt.bestK ds 3).ex.length cc,jd p' (Tt.bestK ds 3).xt.length D],ja jb 0]) (by simp[results,Tryz.results64,go_sem,r0]) rfl ?_;exact⟨p,p',cc,D,rfl,bt.o,aP.o,hE⟩
    have bD:(e:Int)+2<=4:=by omega
    have bZ:(0:Int)<=(e:Int):=by omega
    have aJ:=Lh aU;go_upto_region 16 with(fail)
    go_cut [7]from 56 to 65 (fun uv wx=> ∃(U:Nat) (qa qb:Option Addr) (d1 d2:Nat),uv=jf (some ⟨U,0,none⟩)/\Hid (NA U O.heap.size (Tt.withV ds ((e:Int)+2)) qa qb d1 d2 wx)/\Hid (Below wr.heap.size wr wx)/\Hid (T≠U))
    case first=>
     go_wp2_with fail;refine(aI.o ((e:Int)+2) _ (by omega) (by omega) ar.o).mono ?_;rintro e1 w2 ⟨rfl,ab⟩;have E:=Lh (ar.o.trans (ab.mono ar.o.size));have G:=Lh ab;clear ab;go_wp2_with fail;refine(aH.o ((e:Int)+2) _ (by omega) (by omega) E.o).mono ?_;rintro e1 w3 ⟨qa,qb,d1,d2,rfl,hx,hy,af⟩;have H:=Lh (G.o.trans (af.mono G.o.size));have aD:=HX.o.size;have aj:=G.o.size;have al:=Lh (Ab hx (xc aD aj));have aw:=Lh (Ab hy (xc aD aj));clear af hx hy aD aj;unfold Bf;go_wp2_with fail;go_meet;exact⟨_,qa,qb,d1,d2,rfl,Lh ⟨Af.new w3 _ _,xa al.o _,xa aw.o _⟩,Lh (H.o.trans ((Aa w3 _).mono H.o.size)),Lh (by have:=HQ.o.box.lt;have:=H.o.size;omega)⟩
    case rest=>
    obtain⟨U,qa,qb,d1,d2,rfl,ag,M,bQ⟩:=hcut;obtain⟨W4,aG⟩: ∃W4,W4=wc:=⟨_,rfl⟩
    rw[<-aG]at ag M ⊢;clear aG wc;have ai:=Lh (HQ.o.made M.o);clear HQ;obtain⟨s,hs⟩: ∃s,s=Tt.withV ds ((e:Int)+2):=⟨_,rfl⟩
    rw[<-hs]at ag;have bh:=Lh hs;have bC:=(Tt.with_len ds ae.o.2 ((e:Int)+2)).1;have aM:=(Tt.with_len ds ae.o.2 ((e:Int)+2)).2;rw[<-hs]at bC aM;clear hs;obtain⟨t,ht⟩: ∃t,t=Tt.bestK ds e:=⟨_,rfl⟩
    have br:=Lh ht;have bF:=(Tt.best_len ds ae.o.2 e).1;have aR:=(Tt.best_len ds ae.o.2 e).2;rw[<-ht]at bF aR ai;clear ht;go_upto_region 17 with(fail)
    have b0:=fun x (qz:gB W4 x)=>(ag.o.box.below (Made.mk qz).below ag.o.box.lt).c6
    have bP:=fun x (qz:gB W4 x)=>(ai.o.box.below (Made.mk qz).below ai.o.box.lt).c6
    refine AH GR.below 3 [gE _,gE _,gE _] rfl EA ⟨qE,by
     intro v x qz h QQ K;have HS:=Lh (Made.mk qz);simp only[A2,A1]at h;obtain⟨⟨_,e0,_⟩, -⟩:=h;simp only[e0]at K ⊢;go_wp2_with fail;refine(show Calls Tryz.prog 94 #[.agg #[ja jb s.first,ja jb s.last,ja jb s.every,ja jb s.wd,jd qa s.ex.length d1,jd qb s.xt.length d2]] x _ from FK s _ _ _ _ _ _ x (by omega) (by omega)).mono ?_;rintro y x1 ⟨rfl,hb1⟩;have aE:=hb1;clear hb1;go_wp2_with fail;exact K _ _ rfl (.inr aE),
     qE,trivial⟩ ?_
    intro v x qz h;have HS:=Lh (Made.mk qz);simp only[Dt,Nat.reduceAdd]at h;obtain⟨-,⟨_,e1,_⟩,⟨_,e2,_⟩, -⟩:=h;refine DE fun QQ aQ=>?_
    have HQ:=Lh aQ;clear aQ;simp only[e1,e2,Ci];go_wp2_with fail;refine(show Calls Tryz.prog 94 #[.agg #[ja jb t.first,ja jb t.last,ja jb t.every,ja jb t.wd,jd p t.ex.length cc,jd p' t.xt.length D]] x _ from FK t _ _ _ _ _ _ x (by omega) (by omega)).mono ?_;rintro y x1 ⟨rfl,hb1⟩;have aE:=Lh (HS.o.then hb1);clear hb1;go_wp2_with fail;rw[HQ.o];refine Cm (fun x=>(_:Value)=je (decide ((s.ex.length:Int)+s.xt.length<(t.ex.length:Int)+t.xt.length))/\Below W4.heap.size W4 x) (by exact⟨rfl,aE.o.below⟩) ?_;clear HQ;intro x aA;obtain⟨⟨⟩,ah⟩:=aA;have bO:=Lh ah;have A:=Lh (ai.o.made ah);have J:=Lh (ag.o.made ah);have aL:=Lh (M.o.trans (ah.mono M.o.size));clear ah ai ag M;have aN:=Lh (show Tt.bestK ds (e+1)=if(s.ex.length:Int)+s.xt.length<(t.ex.length:Int)+t.xt.length then s else t from by rw[Tt.bestK,<-br.o,<-bh.o];rfl);by_cases hlt2:(s.ex.length:Int)+s.xt.length<(t.ex.length:Int)+t.xt.length
    rotate_left
    ·have E:=Lh (show t=Tt.bestK ds (e+1)from by rw[aN.o,if_neg hlt2]);have aB:=Lh (show NA T O.heap.size (Tt.bestK ds (e+1)) p p' cc D x from by rw[<-E.o];exact A.o);go_wp2_with fail;go_roundw
     case rel=>exact⟨e+1,p,p',cc,D,by go_num,by have:=aJ.o;omega,aB,Lh (HX.o.trans (aL.o.mono HX.o.size))⟩
     case measure=>simp[intOf];omega
    ·have E:=Lh (show s=Tt.bestK ds (e+1)from by rw[aN.o];exact(if_pos hlt2).symm);have bq:x.cell? ⟨U,0,none⟩=some (ja jb s.first):=J.o.box.cell 0;have bA:x.cell? ⟨U,1,none⟩=some (ja jb s.last):=J.o.box.cell 1;have bg:x.cell? ⟨U,2,none⟩=some (ja jb s.every):=J.o.box.cell 2;have aY:x.cell? ⟨U,3,none⟩=some (ja jb s.wd):=J.o.box.cell 3;have bk:x.cell? ⟨U,4,none⟩=some (jd qa s.ex.length d1):=J.o.box.cell 4;have a6:x.cell? ⟨U,5,none⟩=some (jd qb s.xt.length d2):=J.o.box.cell 5;have bG:x.cell? ⟨T,0,none⟩=some (ja jb t.first):=A.o.box.cell 0;have bu:x.cell? ⟨T,1,none⟩=some (ja jb t.last):=A.o.box.cell 1;have t20:x.cell? ⟨T,2,none⟩=some (ja jb t.every):=A.o.box.cell 2;have bE:x.cell? ⟨T,3,none⟩=some (ja jb t.wd):=A.o.box.cell 3;have bw:x.cell? ⟨T,4,none⟩=some (jd p t.ex.length cc):=A.o.box.cell 4;have ba:x.cell? ⟨T,5,none⟩=some (jd p' t.xt.length D):=A.o.box.cell 5;have bj:=A.o.box.frozen 0;have bz:=A.o.box.frozen 1;have bn:=A.o.box.frozen 2;have bf:=A.o.box.frozen 3;have a7:=A.o.box.frozen 4;have bc:=A.o.box.frozen 5;go_wp2_with fail;obtain⟨Y,hY,av,hE⟩:=CR (w0:=O) A.o.box rfl (HX.o.trans (aL.o.mono HX.o.size)) (be.o) (ja jb s.first) (ja jb s.last) (ja jb s.every) (ja jb s.wd) (jd qa s.ex.length d1) (jd qb s.xt.length d2);have hX:=A0 (by decide) [ja jb s.first,ja jb s.last,ja jb s.every,ja jb s.wd,jd qa s.ex.length d1,jd qb s.xt.length d2] 0 x _ J.o.ex A.o.box;have aa:=A0 (by decide) [ja jb s.first,ja jb s.last,ja jb s.every,ja jb s.wd,jd qa s.ex.length d1,jd qb s.xt.length d2] 0 x _ J.o.xt A.o.box;rw[show setAll x T 0 [ja jb s.first,ja jb s.last,ja jb s.every,ja jb s.wd,jd qa s.ex.length d1,jd qb s.xt.length d2]=Y from by rw[hY];rfl]at hX aa;rw[<-hY];have aB:=Lh (show NA T O.heap.size (Tt.bestK ds (e+1)) qa qb d1 d2 Y from by rw[<-E.o];exact⟨av,hX,aa⟩);have bl:=Lh hE;clear hY hX aa av hE bq bG bj bA bu bz bg t20 bn aY bE bf bk bw a7 a6 ba bc;go_wp2_with fail;go_roundw
     case rel=>exact⟨e+1,qa,qb,d1,d2,by go_num,by have:=aJ.o;omega,aB,bl⟩
     case measure=>simp[intOf];omega
end Go.Proofs.YtegjgjgoodekiaaGreatDoor
namespace Tt
theorem Fs(t:Trm)(x:Tim): ∀(k:Nat) (d:Int),d∈daysK t x k-> ∃j:Nat,j<k/\d=atD t ((j:Int)+1) x.day/\atB t ((j:Int)+1) x.day=true
 | 0,d,h=>by cases h
 | k+1,d,h=>by
  rw[daysK]at h;split at h
  ·rename_i hb
   rcases List.mem_append.1 h with h | h
   ·obtain⟨j,A,w⟩:=Fs t x k d h;exact⟨j,by omega,w⟩
   ·rw[xl]at h;exact⟨k,by omega,h,hb.2⟩
  ·obtain⟨j,A,w⟩:=Fs t x k d h;exact⟨j,by omega,w⟩
theorem Q1{t:Trm}{k d:Int}(h:atB t k d=true):trmV t=0/\1<=k/\k<=t.weeks/\0<=d/\d<7:=by
 unfold atB at h;rw[Bool.and_eq_true]at h;exact of_decide_eq_true h.1
theorem E8(t:Trm)(x:Tim){d:Int}(h:d∈daysK t x 20):0<=d/\d<=36524/\t.first+x.day<=d/\d<=t.first+x.day+133:=by
 obtain⟨j,J,w,A⟩:=Fs t x 20 d h;obtain⟨g1,g2,g3,g4,G⟩:=Q1 A;obtain⟨f0,E,F,f3,D,H⟩:=trmV_ok g1;unfold atD at w;unfold lastT at D;omega
theorem Em(t:Trm)(x:Tim): ∀k:Nat,(daysK t x k).Pairwise (· < ·)
 | 0=>List.Pairwise.nil
 | k+1=>by
  have ih:=Em t x k;rw[daysK];split
  ·rw[List.pairwise_append];refine⟨ih,List.pairwise_singleton _ _,?_⟩;intro a ha b hb;rw[xl]at hb;obtain⟨j,A,w,D⟩:=Fs t x k a ha;subst hb;rw[w];unfold atD;omega
  ·exact ih
theorem daysK_asc(t:Trm)(x:Tim)(k:Nat):AscD (daysK t x k):=by
 intro j a b ha hb;have h:=List.pairwise_iff_getElem.1 (Em t x k);obtain⟨a1,a2⟩:=xd.1 ha;obtain⟨w,A⟩:=xd.1 hb;have:=h j (j+1) a1 w (by omega);rw[a2,A]at this;exact this
theorem daysK_ok(t:Trm)(x:Tim)(h:daysK t x 20≠[]):DsOk (daysK t x 20):=by
 have hp:0<(daysK t x 20).length:=List.length_pos_iff.2 h;have hl:=daysK_len t x 20;have D:fstD (daysK t x 20)∈daysK t x 20:=by
  unfold fstD;cases hd:daysK t x 20 with
  | nil=>exact absurd hd h
  | cons a r=>exact List.mem_cons_self
 have w:lstD (daysK t x 20)∈daysK t x 20:=by
  unfold lstD;rw[List.getLastD_eq_getLast?,List.getLast?_eq_some_getLast h];exact List.getLast_mem h
 have E:=E8 t x D;have F:=E8 t x w;refine⟨h,fun d hd=>by have:=E8 t x hd;omega,?_,by omega,by omega⟩;have hq:=Em t x 20;obtain⟨a,r,hd⟩: ∃a r,daysK t x 20=a::r:=by
  cases hd:daysK t x 20 with
  | nil=>exact absurd hd h
  | cons a r=>exact⟨a,r,rfl⟩
 rw[hd]at hq w ⊢;have A:=List.pairwise_cons.1 hq;show a<=_
 rcases List.mem_cons.1 w with e | e
 ·omega
 ·have:=A.1 _ e;omega
def lowB(w:Int):Nat->Nat->Nat
 | 0,k=>k
 | n+1,k=>if bit w (k:Nat)=true then k else lowB w n (k+1)
theorem lowB_end(w:Int)(k:Nat)(hk:k<20)(h:bit w (k:Nat)=true):lowB w (20 - k) k=k:=by
 obtain⟨n,hn⟩: ∃n,20 - k=n+1:=⟨20 - k - 1,by omega⟩
 rw[hn,lowB,if_pos h]
theorem lowB_step(w:Int)(k:Nat)(hk:k<20)(h:bit w (k:Nat)=false):lowB w (20 - k) k=lowB w (20 - (k+1)) (k+1):=by
 obtain⟨n,hn⟩: ∃n,20 - k=n+1:=⟨20 - k - 1,by omega⟩
 rw[hn,lowB,if_neg (by rw[h];decide),show 20 - (k+1)=n by omega]
theorem weeks_some{w:Int}(h:weeksB w 20=true): ¬ ∀i:Nat,i<20->bit w (i:Nat)=false:=by
 intro hall;unfold weeksB at h;have h:=of_decide_eq_true h;obtain⟨-, -,E,D⟩:=h;have D:w<1048576:=D;obtain⟨m,rfl⟩: ∃m:Nat,w=m:=⟨w.toNat,by omega⟩
 obtain⟨i,hi⟩:=Nat.exists_testBit_of_ne_zero (show m≠0 by omega);have A:i<20:=by
  apply Decidable.byContradiction
  intro hc;have:m<2 ^ i:=Nat.lt_of_lt_of_le (show m<2 ^ 20 by omega) (Nat.pow_le_pow_right (by omega) (by omega));rw[Nat.testBit_lt_two_pow this]at hi;cases hi
 have hf:=hall i A;unfold bit at hf;have hf:=of_decide_eq_false hf;rw[Nat.testBit_eq_decide_div_mod_eq]at hi;have hi:=of_decide_eq_true hi;apply hf;rw[show((i:Nat):Int).toNat=i from Int.toNat_natCast i];rw[show((m:Int) / 2 ^ i % 2)=((m / 2 ^ i % 2:Nat):Int)by simp,hi];rfl
theorem fits_parts{g:Grd}{n:Int}{x:Tim}(h:fitsV g n x=0):soundB x=true/\x.start+x.len<=g.slots:=by
 unfold fitsV at h;split at h
 ·split at h
  ·rename_i w;exact⟨w.1,w.2.2.2⟩
  ·cases h
 ·cases h
theorem grid_parts{g:Grd}(h:gridV g=0):1<=g.slots/\g.slots<=24/\0<=g.begin_/\g.begin_<1440/\5<=g.mins/\g.mins<=120:=by
 unfold gridV at h;split at h
 ·cases h
 ·omega
theorem mul_bd{s m:Int}(A:0<=s)(w:s<=24)(E:5<=m)(D:m<=120):0<=s*m/\s*m<=2880:=by
 constructor
 ·exact Int.mul_nonneg A (by omega)
 ·calc s*m<=24*m:=Int.mul_le_mul_of_nonneg_right w (by omega)
   _<=24*120:=Int.mul_le_mul_of_nonneg_left D (by omega)
theorem weeks_bd{w:Int}(h:weeksB w 20=true):1<=w/\w<1048576:=by
 unfold weeksB at h;have h:=of_decide_eq_true h;exact⟨h.2.2.1,h.2.2.2⟩
end Tt
namespace Go.Proofs.YtegjgjgoodekiaaGreatDoor
open Go.RowKit
structure Az where
 cls:ByteArray
 tim:Tt.Tim
 room:ByteArray
def AE(s:Az):Array Value:=#[jc s.cls,ja jb s.tim.weeks,ja jb s.tim.day,ja jb s.tim.start,ja jb s.tim.len,jc s.room]
def Cv(s:Az):Value:=.agg (AE s)
def SC:Ev:=⟨⟨#[]⟩,0,false,⟨0,0,0,0,[],[]⟩,0,0,⟨#[]⟩,⟨#[]⟩⟩
def EN(r:ByteArray):Bool:=r.data.toList.isEmpty || Tt.code r.data.toList
def On(g:Tt.Grd)(t:Tt.Trm)(s:Az):Bool:=decide (Tt.gridV g=0) && (decide (Tt.trmV t=0) && (Tt.code s.cls.data.toList && (EN s.room && (decide (Tt.fitsV g t.weeks s.tim=0) && !decide (Tt.daysK t s.tim 20=[])))))
def IJ(s:Az):ByteArray:=s.cls++⟨#[64]⟩++⟨(Lib.decDigits (Tt.lowB s.tim.weeks 20 0+1)).toArray⟩
def GJ(g:Tt.Grd)(t:Tt.Trm)(s:Az)(q:Int):Ev:=⟨IJ s,q,false,Tt.ofV (Tt.daysK t s.tim 20),g.begin_+s.tim.start*g.mins,s.tim.len*g.mins,s.cls,s.room⟩
def Oj(g:Tt.Grd)(t:Tt.Trm)(s:Az)(q:Int):Ev:=if On g t s=true then GJ g t s q else SC
def UB(e:Ev)(b:Bool)(w:World)(x:Ending)(w':World):Prop:=∃(p p':Option Addr) (c c':Nat),x=jh (jg #[AW e (jd p e.days.ex.length c) (jd p' e.days.xt.length c'),je b])/\Ah w.heap.size w' (jd p e.days.ex.length c) e.days.ex/\Ah w.heap.size w' (jd p' e.days.xt.length c') e.days.xt/\Below w.heap.size w w'
