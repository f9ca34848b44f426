/- The small generators of grids, weeks and times: their contracts. The generators of times and terms: their contracts. -/
import Derived.Test.YtegjgjgoodekiaaGreatDoorQk21
import Derived.Test.YtegjgjgoodekiaaGreatDoorQk8
import Derived.Test.YtegjgjgoodekiaaGreatDoorQk13
open Go.Value renaming int->ja,slice->jd,pointer->jf
open Go.IntKind renaming i64->jb
open Go.Ending renaming returned->jh
open Go.Obj renaming cells->ji
open Go.World.ownsRow renaming alloc->xa
open Nat renaming zero_add->xb
open List renaming mem_singleton->xc,length_append->xd
set_option maxRecDepth 100000
set_option maxHeartbeats 40000000
namespace Go.Proofs.YtegjgjgoodekiaaGreatDoor
open Go.RowKit
theorem Pa{b g:Nat}{ty:TypeId}{cs:Array Value}{w0 w:World}(h:Af g cs ty w)(hs:Ai b w0 w)(hg:w0.heap.size<=g)(hb:b<g)(A:List Value)(hl:cs.size=A.length): ∃Y,Y=setAll w g 0 A/\Af g A.toArray ty Y/\Ai b w0 Y:=by
 refine⟨_,rfl,?_,⟨Er hg A 0 w hs.but,Ik hb A 0 w hs.dice⟩⟩;have:=Af.puts (g:=g) (ty:=ty) A [] cs.toList [] w (by simpa using h) (by simpa using hl);simpa using this
theorem Tt.grid_ok{a b c d:Int}(a0:0<=a)(a1:a<5)(E:0<=b)(D:b<7)(c0:0<=c)(c1:c<8)(A:0<=d)(d1:d<3):Tt.gridV ⟨1+a,2+b,480+15*c,30+15*d⟩=0:=by
 have w:(2+b)*(30+15*d)<=8*60:=Int.le_trans (Int.mul_le_mul_of_nonneg_right (show 2+b<=8 by omega) (by omega)) (Int.mul_le_mul_of_nonneg_left (show 30+15*d<=60 by omega) (by omega));unfold Tt.gridV;rw[if_neg];show ¬(1+a<1∨7<1+a∨2+b<1∨24<2+b∨480+15*c<0∨1440<=480+15*c∨30+15*d<5∨120<30+15*d∨1440<480+15*c+(2+b)*(30+15*d))
 omega
theorem T5(b:Nat)(w:World)(hd:BJ b w):Calls Tryz.prog 14 #[jf (some ⟨b,0,none⟩)] w fun e w'=> ∃g:Tt.Grd,e=jh (Cj g)/\Tt.gridV g=0/\1<=g.days/\g.days<=5/\2<=g.slots/\g.slots<=8/\Ai b w w':=by
 have ah:=hd.lt;obtain⟨R,hR⟩: ∃g,g=w.heap.size:=⟨_,rfl⟩
 obtain⟨w0,T⟩: ∃X,X=(w.alloc (ji #[ja jb 0,ja jb 0,ja jb 0,ja jb 0] 65)):=⟨_,rfl⟩
 have G:=Lh (show Ai b w w0 from by rw[T];exact((Ai.refl hd).alloc _));have O:=Lh (show Af R #[ja jb 0,ja jb 0,ja jb 0,ja jb 0] 65 w0 from by rw[T,hR];exact Af.new' _ _ _ (by simp));have lR:w.heap.size<=R:=by omega
 have bR:b<R:=by omega
 go_enter Tryz.func14,Tryz.ntmps14;go_upto_region 1 with(fail);rw[<-T,<-hR];clear T hR;go_wp2_with fail;refine(As b 5 _ G.o.dice (by omega) (by omega)).mono ?_;rintro e w1 ⟨a1,rfl,l1,u1, -,hd,ho⟩;have u1:=u1 (by omega);have D:=Lh (G.o.only hd ho);have M:=Lh (O.o.only ho (by omega));clear hd ho G O;go_wp2_with fail;refine(As b 7 _ D.o.dice (by omega) (by omega)).mono ?_;rintro e w2 ⟨a2,rfl,l2,Z, -,hd,ho⟩;have Z:=Z (by omega);have E:=Lh (D.o.only hd ho);have H:=Lh (M.o.only ho (by omega));clear hd ho D M;go_wp2_with fail;refine(As b 8 _ E.o.dice (by omega) (by omega)).mono ?_;rintro e w3 ⟨a3,rfl,l3,u3, -,hd,ho⟩;have u3:=u3 (by omega);have F:=Lh (E.o.only hd ho);have J:=Lh (H.o.only ho (by omega));clear hd ho E H;go_wp2_with fail;refine(As b 3 _ F.o.dice (by omega) (by omega)).mono ?_;rintro e V ⟨a4,rfl,l4,u4, -,hd,ho⟩;have u4:=u4 (by omega);have U:=Lh (F.o.only hd ho);have A:=Lh (J.o.only ho (by omega));clear hd ho F J;have aa:V.cell? ⟨R,0,none⟩=some (ja jb 0):=A.o.cell 0;have ae:V.cell? ⟨R,1,none⟩=some (ja jb 0):=A.o.cell 1;have ag:V.cell? ⟨R,2,none⟩=some (ja jb 0):=A.o.cell 2;have af:V.cell? ⟨R,3,none⟩=some (ja jb 0):=A.o.cell 3;have ab:=fun i=>A.o.frozen i;go_wp2_with fail
 obtain⟨Y,hY,ac,hE⟩:=Pa A.o U.o lR (by omega) [ja jb (1+a1),ja jb (2+a2),ja jb (480+15*a3),ja jb (30+15*a4)] rfl;simp only[setAll,xb]at hY;rw[<-hY];clear aa ae ag af ab;clear hY;have r0:=ac.c4;refine bodyPost_ret (v:=.agg #[ja jb (1+a1),ja jb (2+a2),ja jb (480+15*a3),ja jb (30+15*a4)]) (by simp[results,Tryz.results14,go_sem,r0]) rfl ?_;exact⟨⟨1+a1,2+a2,480+15*a3,30+15*a4⟩,rfl,Tt.grid_ok l1 u1 l2 Z l3 u3 l4 u4,by show 1<=1+a1;omega,by show 1+a1<=5;omega,by show 2<=2+a2;omega,by show 2+a2<=8;omega,hE⟩
theorem Rs(b:Nat)(w:World)(hd:BJ b w):Calls Tryz.prog 54 #[jf (some ⟨b,0,none⟩),ja jb 1] w fun e w'=> ∃x:Int,e=jh (ja jb x)/\1<=x/\x<2/\Ai b w w':=by
 have D:=Lh (Ai.refl hd);go_enter Tryz.func54,Tryz.ntmps54;go_wp2_with fail;refine(As b 4 _ D.o.dice (by omega) (by omega)).mono ?_;rintro e O ⟨a1,rfl,M,G, -,hd,ho⟩;have G:=G (by omega);have A:=Lh (D.o.only hd ho);clear hd ho D ;rcases(show a1=0∨a1=1∨2<=a1 by omega)with rfl | rfl | H
 ·go_wp2_with fail;go_ret;exact⟨_,rfl,by decide,by decide,A.o⟩
 ·go_wp2_with fail;go_ret;exact⟨_,rfl,by decide,by decide,A.o⟩
 ·have g0:(a1==0)=false:=beq_eq_false_iff_ne.2 (by omega);have g1:(a1==1)=false:=beq_eq_false_iff_ne.2 (by omega);go_wp2_with fail;refine(As b 1 _ A.o.dice (by omega) (by omega)).mono ?_;rintro e w2 ⟨a2,rfl,J,F, -,hd,ho⟩;have F:=F (by omega);have E:=Lh (A.o.only hd ho);clear hd ho A ;go_wp2_with fail;go_ret;exact⟨_,rfl,by omega,by omega,E.o⟩
theorem Rr(b:Nat)(w:World)(hd:BJ b w):Calls Tryz.prog 54 #[jf (some ⟨b,0,none⟩),ja jb 2] w fun e w'=> ∃x:Int,e=jh (ja jb x)/\1<=x/\x<4/\Ai b w w':=by
 have D:=Lh (Ai.refl hd);go_enter Tryz.func54,Tryz.ntmps54;go_wp2_with fail;refine(As b 4 _ D.o.dice (by omega) (by omega)).mono ?_;rintro e O ⟨a1,rfl,M,G, -,hd,ho⟩;have G:=G (by omega);have A:=Lh (D.o.only hd ho);clear hd ho D ;rcases(show a1=0∨a1=1∨2<=a1 by omega)with rfl | rfl | H
 ·go_wp2_with fail;go_ret;exact⟨_,rfl,by decide,by decide,A.o⟩
 ·go_wp2_with fail;go_ret;exact⟨_,rfl,by decide,by decide,A.o⟩
 ·have g0:(a1==0)=false:=beq_eq_false_iff_ne.2 (by omega);have g1:(a1==1)=false:=beq_eq_false_iff_ne.2 (by omega);go_wp2_with fail;refine(As b 3 _ A.o.dice (by omega) (by omega)).mono ?_;rintro e w2 ⟨a2,rfl,J,F, -,hd,ho⟩;have F:=F (by omega);have E:=Lh (A.o.only hd ho);clear hd ho A ;go_wp2_with fail;go_ret;exact⟨_,rfl,by omega,by omega,E.o⟩
theorem Rq(b:Nat)(w:World)(hd:BJ b w):Calls Tryz.prog 54 #[jf (some ⟨b,0,none⟩),ja jb 3] w fun e w'=> ∃x:Int,e=jh (ja jb x)/\1<=x/\x<8/\Ai b w w':=by
 have D:=Lh (Ai.refl hd);go_enter Tryz.func54,Tryz.ntmps54;go_wp2_with fail;refine(As b 4 _ D.o.dice (by omega) (by omega)).mono ?_;rintro e O ⟨a1,rfl,M,G, -,hd,ho⟩;have G:=G (by omega);have A:=Lh (D.o.only hd ho);clear hd ho D ;rcases(show a1=0∨a1=1∨2<=a1 by omega)with rfl | rfl | H
 ·go_wp2_with fail;go_ret;exact⟨_,rfl,by decide,by decide,A.o⟩
 ·go_wp2_with fail;go_ret;exact⟨_,rfl,by decide,by decide,A.o⟩
 ·have g0:(a1==0)=false:=beq_eq_false_iff_ne.2 (by omega);have g1:(a1==1)=false:=beq_eq_false_iff_ne.2 (by omega);go_wp2_with fail;refine(As b 7 _ A.o.dice (by omega) (by omega)).mono ?_;rintro e w2 ⟨a2,rfl,J,F, -,hd,ho⟩;have F:=F (by omega);have E:=Lh (A.o.only hd ho);clear hd ho A ;go_wp2_with fail;go_ret;exact⟨_,rfl,by omega,by omega,E.o⟩
theorem Rp(b:Nat)(w:World)(hd:BJ b w):Calls Tryz.prog 54 #[jf (some ⟨b,0,none⟩),ja jb 4] w fun e w'=> ∃x:Int,e=jh (ja jb x)/\1<=x/\x<16/\Ai b w w':=by
 have D:=Lh (Ai.refl hd);go_enter Tryz.func54,Tryz.ntmps54;go_wp2_with fail;refine(As b 4 _ D.o.dice (by omega) (by omega)).mono ?_;rintro e O ⟨a1,rfl,M,G, -,hd,ho⟩;have G:=G (by omega);have A:=Lh (D.o.only hd ho);clear hd ho D ;rcases(show a1=0∨a1=1∨2<=a1 by omega)with rfl | rfl | H
 ·go_wp2_with fail;go_ret;exact⟨_,rfl,by decide,by decide,A.o⟩
 ·go_wp2_with fail;go_ret;exact⟨_,rfl,by decide,by decide,A.o⟩
 ·have g0:(a1==0)=false:=beq_eq_false_iff_ne.2 (by omega);have g1:(a1==1)=false:=beq_eq_false_iff_ne.2 (by omega);go_wp2_with fail;refine(As b 15 _ A.o.dice (by omega) (by omega)).mono ?_;rintro e w2 ⟨a2,rfl,J,F, -,hd,ho⟩;have F:=F (by omega);have E:=Lh (A.o.only hd ho);clear hd ho A ;go_wp2_with fail;go_ret;exact⟨_,rfl,by omega,by omega,E.o⟩
theorem Ro(b:Nat)(w:World)(hd:BJ b w):Calls Tryz.prog 54 #[jf (some ⟨b,0,none⟩),ja jb 5] w fun e w'=> ∃x:Int,e=jh (ja jb x)/\1<=x/\x<32/\Ai b w w':=by
 have D:=Lh (Ai.refl hd);go_enter Tryz.func54,Tryz.ntmps54;go_wp2_with fail;refine(As b 4 _ D.o.dice (by omega) (by omega)).mono ?_;rintro e O ⟨a1,rfl,M,G, -,hd,ho⟩;have G:=G (by omega);have A:=Lh (D.o.only hd ho);clear hd ho D ;rcases(show a1=0∨a1=1∨2<=a1 by omega)with rfl | rfl | H
 ·go_wp2_with fail;go_ret;exact⟨_,rfl,by decide,by decide,A.o⟩
 ·go_wp2_with fail;go_ret;exact⟨_,rfl,by decide,by decide,A.o⟩
 ·have g0:(a1==0)=false:=beq_eq_false_iff_ne.2 (by omega);have g1:(a1==1)=false:=beq_eq_false_iff_ne.2 (by omega);go_wp2_with fail;refine(As b 31 _ A.o.dice (by omega) (by omega)).mono ?_;rintro e w2 ⟨a2,rfl,J,F, -,hd,ho⟩;have F:=F (by omega);have E:=Lh (A.o.only hd ho);clear hd ho A ;go_wp2_with fail;go_ret;exact⟨_,rfl,by omega,by omega,E.o⟩
theorem Rn(b:Nat)(w:World)(hd:BJ b w):Calls Tryz.prog 54 #[jf (some ⟨b,0,none⟩),ja jb 6] w fun e w'=> ∃x:Int,e=jh (ja jb x)/\1<=x/\x<64/\Ai b w w':=by
 have D:=Lh (Ai.refl hd);go_enter Tryz.func54,Tryz.ntmps54;go_wp2_with fail;refine(As b 4 _ D.o.dice (by omega) (by omega)).mono ?_;rintro e O ⟨a1,rfl,M,G, -,hd,ho⟩;have G:=G (by omega);have A:=Lh (D.o.only hd ho);clear hd ho D ;rcases(show a1=0∨a1=1∨2<=a1 by omega)with rfl | rfl | H
 ·go_wp2_with fail;go_ret;exact⟨_,rfl,by decide,by decide,A.o⟩
 ·go_wp2_with fail;go_ret;exact⟨_,rfl,by decide,by decide,A.o⟩
 ·have g0:(a1==0)=false:=beq_eq_false_iff_ne.2 (by omega);have g1:(a1==1)=false:=beq_eq_false_iff_ne.2 (by omega);go_wp2_with fail;refine(As b 63 _ A.o.dice (by omega) (by omega)).mono ?_;rintro e w2 ⟨a2,rfl,J,F, -,hd,ho⟩;have F:=F (by omega);have E:=Lh (A.o.only hd ho);clear hd ho A ;go_wp2_with fail;go_ret;exact⟨_,rfl,by omega,by omega,E.o⟩
theorem Rm(b:Nat)(w:World)(hd:BJ b w):Calls Tryz.prog 54 #[jf (some ⟨b,0,none⟩),ja jb 7] w fun e w'=> ∃x:Int,e=jh (ja jb x)/\1<=x/\x<128/\Ai b w w':=by
 have D:=Lh (Ai.refl hd);go_enter Tryz.func54,Tryz.ntmps54;go_wp2_with fail;refine(As b 4 _ D.o.dice (by omega) (by omega)).mono ?_;rintro e O ⟨a1,rfl,M,G, -,hd,ho⟩;have G:=G (by omega);have A:=Lh (D.o.only hd ho);clear hd ho D ;rcases(show a1=0∨a1=1∨2<=a1 by omega)with rfl | rfl | H
 ·go_wp2_with fail;go_ret;exact⟨_,rfl,by decide,by decide,A.o⟩
 ·go_wp2_with fail;go_ret;exact⟨_,rfl,by decide,by decide,A.o⟩
 ·have g0:(a1==0)=false:=beq_eq_false_iff_ne.2 (by omega);have g1:(a1==1)=false:=beq_eq_false_iff_ne.2 (by omega);go_wp2_with fail;refine(As b 127 _ A.o.dice (by omega) (by omega)).mono ?_;rintro e w2 ⟨a2,rfl,J,F, -,hd,ho⟩;have F:=F (by omega);have E:=Lh (A.o.only hd ho);clear hd ho A ;go_wp2_with fail;go_ret;exact⟨_,rfl,by omega,by omega,E.o⟩
theorem Rl(b:Nat)(w:World)(hd:BJ b w):Calls Tryz.prog 54 #[jf (some ⟨b,0,none⟩),ja jb 8] w fun e w'=> ∃x:Int,e=jh (ja jb x)/\1<=x/\x<256/\Ai b w w':=by
 have D:=Lh (Ai.refl hd);go_enter Tryz.func54,Tryz.ntmps54;go_wp2_with fail;refine(As b 4 _ D.o.dice (by omega) (by omega)).mono ?_;rintro e O ⟨a1,rfl,M,G, -,hd,ho⟩;have G:=G (by omega);have A:=Lh (D.o.only hd ho);clear hd ho D ;rcases(show a1=0∨a1=1∨2<=a1 by omega)with rfl | rfl | H
 ·go_wp2_with fail;go_ret;exact⟨_,rfl,by decide,by decide,A.o⟩
 ·go_wp2_with fail;go_ret;exact⟨_,rfl,by decide,by decide,A.o⟩
 ·have g0:(a1==0)=false:=beq_eq_false_iff_ne.2 (by omega);have g1:(a1==1)=false:=beq_eq_false_iff_ne.2 (by omega);go_wp2_with fail;refine(As b 255 _ A.o.dice (by omega) (by omega)).mono ?_;rintro e w2 ⟨a2,rfl,J,F, -,hd,ho⟩;have F:=F (by omega);have E:=Lh (A.o.only hd ho);clear hd ho A ;go_wp2_with fail;go_ret;exact⟨_,rfl,by omega,by omega,E.o⟩
theorem UY(b:Nat)(n:Int)(w:World)(hd:BJ b w)(D:1<=n)(A:n<=8):Calls Tryz.prog 54 #[jf (some ⟨b,0,none⟩),ja jb n] w fun e w'=> ∃x:Int,e=jh (ja jb x)/\1<=x/\x<((2 ^ n.toNat:Nat):Int)/\Ai b w w':=by
 rcases(show n=1∨n=2∨n=3∨n=4∨n=5∨n=6∨n=7∨n=8 by omega)with rfl | rfl | rfl | rfl | rfl | rfl | rfl | rfl
 ·exact Rs b w hd
 ·exact Rr b w hd
 ·exact Rq b w hd
 ·exact Rp b w hd
 ·exact Ro b w hd
 ·exact Rn b w hd
 ·exact Rm b w hd
 ·exact Rl b w hd
theorem Ai.grow{b lo n k:Nat}{w0 w w2:World}{e:TypeId}{v:Value}{xs:List Value}(h:Ai b w0 w)(A:w.ownsRow lo e k v n xs)(hl:w0.heap.size<=lo)(hb:b<lo)(D:lo<=w.heap.size)(hg:w.grownBy w2 v.ownBlock):Ai b w0 w2:=
 ⟨D4 h.but (Ab A hl) h.but.size hg,Ot h.dice A hb D hg⟩
structure Tt.TimOk (g:Tt.Grd) (n:Int) (x:Tt.Tim):Prop where
 w0:1<=x.weeks
 w1:x.weeks<((2 ^ n.toNat:Nat):Int)
 d0:0<=x.day
 d1:x.day<g.days
 s0:0<=x.start
 l0:1<=x.len
 l1:x.start+x.len<=g.slots
theorem Tt.TimOk.fits{g:Tt.Grd}{n:Int}{x:Tt.Tim}(h:Tt.TimOk g n x)(hg:Tt.gridV g=0)(w:1<=n)(A:n<=20):Tt.fitsV g n x=0:=by
 obtain⟨w0,H,G,d1,s0,F,J⟩:=h;have E:Tt.weeksB x.weeks n=true:=by unfold Tt.weeksB;exact decide_eq_true ⟨w,A,w0,H⟩
 have M:((2 ^ n.toNat:Nat):Int)<=((2 ^ (20:Int).toNat:Nat):Int):=by
  have:2 ^ n.toNat<=2 ^ (20:Int).toNat:=Nat.pow_le_pow_right (by omega) (by show n.toNat<=20;omega);omega
 have D:Tt.weeksB x.weeks 20=true:=by unfold Tt.weeksB;exact decide_eq_true ⟨by omega,by omega,w0,by omega⟩
 have hb:g.days<=7/\g.slots<=24:=by
  unfold Tt.gridV at hg;split at hg
  ·cases hg
  ·omega
 unfold Tt.fitsV;rw[if_pos ⟨hg,w,A⟩,if_pos ⟨(Tt.soundB_iff x).2 ⟨D,G,by omega,s0,by omega,F,by omega⟩,E,d1,J⟩]
def Tt.HolP(f k d:Int)(xs:List Int):Prop:=f<=d/\xs.Pairwise (· < ·)/\ ∀h∈xs,f<=h/\h<d/\h<f+7*k
theorem Tt.HolP.start(f k:Int):Tt.HolP f k f []:=⟨Int.le_refl _,List.Pairwise.nil,fun h hh=>by cases hh⟩
theorem Tt.HolP.step{f k d a:Int}{xs:List Int}(h:Tt.HolP f k d xs)(ha:0<=a)(hl: ¬f+7*k<=d+a):Tt.HolP f k (d+a+1) (xs++[d+a]):=by
 obtain⟨D,A,w⟩:=h;refine⟨by omega,?_,?_⟩
 ·rw[List.pairwise_append];exact⟨A,List.pairwise_singleton _ _,fun x hx y hy=>by rw[xc]at hy;have:=w x hx;omega⟩
 ·intro x hx;rcases List.mem_append.1 hx with e | e
  ·have:=w x e;omega
  ·rw[xc]at e;omega
theorem Tt.holV_zero(a b:Int): ∀(l:List Int) (p:Option Int),l.Pairwise (· < ·)->(∀h∈l,a<=h/\h<=b)->(∀q,p=some q-> ∀h∈l,q<h)->Tt.holV a b p l=0
 | [],_,_,_,_=>rfl
 | x::r,p,hs,hb,hp=>by
  rw[List.pairwise_cons]at hs;have hx:=hb x (by simp);rw[Tt.holV,if_neg (by omega),if_neg]
  ·exact Tt.holV_zero a b r (some x) hs.2 (fun h hh=>hb h (by simp[hh])) (fun q hq h hh=>by cases hq;exact hs.1 h hh)
  ·cases p with
   | none=>simp
   | some q=>have:=hp q rfl x (by simp);simp;omega
theorem Tt.trm_ok{f k d m:Int}{xs:List Int}(h:Tt.HolP f k d xs)(hm:f=2+7*m)(D:0<=m)(F:m<5000)(E:1<=k)(k1:k<=8)(hl:xs.length<=50):Tt.trmV ⟨f,k,xs⟩=0:=by
 obtain⟨g1,g2,g3⟩:=h;have e1:Tt.isD f=true:=(Tt.isD_iff f).2 ⟨by omega,by omega⟩;have e2:Tt.wkdV f=0:=by unfold Tt.wkdV Tt.wk;rw[if_pos e1];omega
 have w:Tt.lastT ⟨f,k,xs⟩=f+7*k - 1:=rfl;have A:Tt.isD (f+7*k - 1)=true:=(Tt.isD_iff _).2 ⟨by omega,by omega⟩;unfold Tt.trmV;rw[if_neg (by show ¬Tt.wkdV f≠0;omega),if_neg (by show ¬(k<1∨20<k);omega),w,if_neg (by rw[A];decide),if_neg (by show ¬64<(xs.length:Int);omega)];exact Tt.holV_zero f (f+7*k - 1) xs none g2 (fun h hh=>by have:=g3 h hh;omega) (fun q hq=>by cases hq)
theorem Tq(b:Nat)(g:Tt.Grd)(n:Int)(w:World)(hd:BJ b w)(ba:1<=n)(aN:n<=8)(g0:1<=g.days)(g1:g.days<=5)(g2:2<=g.slots)(g3:g.slots<=8):Calls Tryz.prog 31 #[jf (some ⟨b,0,none⟩),Cj g,ja jb n] w fun e w'=> ∃x:Tt.Tim,e=jh (D8 x)/\Tt.TimOk g n x/\Ai b w w':=by
 unfold Cj;have bj:=hd.lt;obtain⟨P,hP⟩: ∃g,g=w.heap.size:=⟨_,rfl⟩
 obtain⟨R,hR⟩: ∃g,g=w.heap.size+1:=⟨_,rfl⟩
 obtain⟨w0,ab⟩: ∃X,X=((w.alloc (ji #[ja jb g.days,ja jb g.slots,ja jb g.begin_,ja jb g.mins] 65)).alloc (ji #[ja jb 0,ja jb 0,ja jb 0,ja jb 0] 90)):=⟨_,rfl⟩
 have F:=Lh (show Ai b w w0 from by rw[ab];exact(((Ai.refl hd).alloc _).alloc _));have G:=Lh (show Af P #[ja jb g.days,ja jb g.slots,ja jb g.begin_,ja jb g.mins] 65 w0 from by rw[ab,hP];exact(Af.new' _ _ _ (by simp)).alloc _);have lP:w.heap.size<=P:=by omega
 have V:=Lh (show Af R #[ja jb 0,ja jb 0,ja jb 0,ja jb 0] 90 w0 from by rw[ab,hR];exact Af.new' _ _ _ (by simp));have lR:w.heap.size<=R:=by omega
 have br:R≠P:=by omega
 have bP:b<P:=by omega
 have bR:b<R:=by omega
 go_enter Tryz.func31,Tryz.ntmps31;go_upto_region 1 with(fail);rw[<-ab,<-hR,<-hP];clear ab hP hR;have aC:P≠b:=by omega
 have be:R≠b:=by omega
 have aP:b<w0.heap.size:=F.o.dice.lt;have aO:=F.o.but.size;have U:=Lh (F.o.dice);have bx: ∀x,gS b w0 x->x.cell? ⟨P,0,none⟩=some (ja jb g.days):=fun x J=>((Ai.mk J.1 (J.2 U.o)).blk G.o aC).cell 0
 have bq: ∀x,gS b w0 x->x.cell? ⟨P,1,none⟩=some (ja jb g.slots):=fun x J=>((Ai.mk J.1 (J.2 U.o)).blk G.o aC).cell 1
 refine AH (GR.sofar b) 13 [gE _,gE _,fun _ u x=> ∃(m:Int),u=ja jb m/\1<=m/\m<((2 ^ n.toNat:Nat):Int),gE _,gE _,gE _,fun _ u x=> ∃(m:Int),u=ja jb m/\0<=m/\m<g.days,gE _,gE _,gE _,fun _ u x=> ∃(n:Int),u=ja jb n/\0<=n/\n<g.slots,fun _ u x=> ∃(p:Int) (q:Int) (r:Int),u=.agg #[ja jb p,ja jb q,ja jb r,ja jb 0]/\0<=r/\r<g.slots/\0<=q/\q<g.days/\1<=p/\p<((2 ^ n.toNat:Nat):Int),fun _ u x=> ∃(S:Nat),u=jf (some ⟨S,0,none⟩)/\w0.heap.size<=S/\Af S #[ja jb 0,ja jb 0,ja jb 0,ja jb 0] 90 x] rfl EA ⟨qE,qE,by
  intro v x J h QQ K;have Z:=Lh (Ai.mk J.1 (J.2 U.o));simp only[A2,A1]at h;obtain⟨⟨_,e0,_⟩,⟨_,e1,_⟩, -⟩:=h;simp only[e0,e1]at K ⊢;go_wp2_with fail;refine(UY b n _ Z.o.dice ba aN).mono ?_;rintro e x1 ⟨v,rfl,v0,v1,aF⟩;have ah:=gS.of aF;clear aF;go_wp2_with fail;exact K _ _ ⟨_,rfl,v0,v1⟩ (.inr ah),
  qE,qE,qE,by
  intro v x J h QQ K;have Z:=Lh (Ai.mk J.1 (J.2 U.o));simp only[A2,A1]at h;obtain⟨⟨_,e3,_⟩,⟨_,e5,_⟩, -⟩:=h;simp only[e3,e5]at K ⊢;go_wp2_with fail;refine(As b g.days _ Z.o.dice (by omega) (by omega)).mono ?_;rintro e x1 ⟨v,rfl,h0,h1, -,ag,aj⟩;have h1:=h1 (by omega);have ah:=gS.of ((Ai.refl Z.o.dice).only ag aj);clear aj ag;go_wp2_with fail;exact K _ _ ⟨_,rfl,h0,h1⟩ (.inr ah),
  qE,qE,qE,by
  intro v x J h QQ K;have Z:=Lh (Ai.mk J.1 (J.2 U.o));simp only[A2,A1]at h;obtain⟨⟨_,e7,_⟩,⟨_,e9,_⟩, -⟩:=h;simp only[e7,e9]at K ⊢;go_wp2_with fail;refine(As b g.slots _ Z.o.dice (by omega) (by omega)).mono ?_;rintro e x1 ⟨v,rfl,h0,h1, -,ag,aj⟩;have h1:=h1 (by omega);have ah:=gS.of ((Ai.refl Z.o.dice).only ag aj);clear aj ag;go_wp2_with fail;exact K _ _ ⟨_,rfl,h0,h1⟩ (.inr ah),
  by
  intro v x J h QQ K;have Z:=Lh (Ai.mk J.1 (J.2 U.o));simp only[A2,A1]at h;obtain⟨⟨bv,⟨m2,e2,aL,aH⟩,z2⟩,⟨bA,⟨m6,e6,aG,aM⟩,z6⟩,⟨bl,⟨bw,a8,ay,az⟩,bB⟩, -⟩:=h;simp only[e2,e6,a8]at K ⊢;go_wp2_with fail;exact K _ _ ⟨_,_,_,rfl,ay,az,aG,aM,aL,aH⟩ (.inl rfl),
  by
  intro v x J h QQ K;have Z:=Lh (Ai.mk J.1 (J.2 U.o));go_wp2_with fail;exact K _ _ ⟨_,rfl,Z.o.but.size,Af.new x _ _⟩ (.inr (gS.of ((Ai.refl Z.o.dice).alloc _))),
  trivial⟩ ?_
 intro v x J h;have Z:=Lh (Ai.mk J.1 (J.2 U.o));simp only[Dt,Nat.reduceAdd]at h;obtain⟨-, -, -, -, -, -, -, -, -, -, -,⟨bi,⟨bn,bp,bz,aT,aA,aw,aE,aB,ax,au⟩,bs⟩,⟨bk,⟨ae,aV,H,A⟩,aR⟩, -⟩:=h;have A:=A.but aR.1 (by omega);have f0:x.cell? ⟨ae,0,none⟩=some (ja jb 0):=A.cell 0;have f1:x.cell? ⟨ae,1,none⟩=some (ja jb 0):=A.cell 1;have f2:x.cell? ⟨ae,2,none⟩=some (ja jb 0):=A.cell 2;have f3:x.cell? ⟨ae,3,none⟩=some (ja jb 0):=A.cell 3;have z0:=fun i=>A.frozen i
 refine DE fun QQ aJ=>?_
 have HQ:=Lh aJ;clear aJ;simp only[aT,aV,Ci];go_wp2_with fail;rw[HQ.o];refine Cm (fun x=> ∃(Q:Nat) (p q r:Int),(_:Value)=jf (some ⟨Q,0,none⟩)/\0<=r/\r<g.slots/\(0<=q/\q<g.days/\1<=p/\p<((2 ^ n.toNat:Nat):Int))/\w0.heap.size<=Q/\Af Q #[ja jb p,ja jb q,ja jb r,ja jb 0] 90 x/\Ai b w0 x) (by exact⟨_,_,_,_,rfl,aA,aw,⟨aE,aB,ax,au⟩,H,(((A.set 0 _).set 1 _).set 2 _).set 3 _,(((Z.o.set H (by omega) 0 _).set H (by omega) 1 _).set H (by omega) 2 _).set H (by omega) 3 _⟩) ?_;clear HQ;intro x av;obtain⟨Q,p,q,r,⟨⟩,aU,bm,aI,bo,aK,hs⟩:=av;obtain⟨Q,rfl⟩: ∃Q,Q=ae:=⟨_,rfl⟩
 have aq:=Lh aI;clear aI;have af:=Lh (F.o.trans hs);have O:=Lh (hs.blk G.o aC);have ar:=Lh (hs.blk V.o be);have M:=Lh aK;have lQ:w.heap.size<=Q:=by omega
 have bu:Q≠P:=by have:=G.o.lt;omega
 have bt:Q≠R:=by have:=V.o.lt;omega
 clear aK hs F G V aP aO;have aS:x.cell? ⟨P,0,none⟩=some (ja jb g.days):=O.o.cell 0;have bg:x.cell? ⟨P,1,none⟩=some (ja jb g.slots):=O.o.cell 1;have bh:x.cell? ⟨P,2,none⟩=some (ja jb g.begin_):=O.o.cell 2;have aZ:x.cell? ⟨P,3,none⟩=some (ja jb g.mins):=O.o.cell 3;have am:x.cell? ⟨Q,0,none⟩=some (ja jb p):=M.o.cell 0;have al:x.cell? ⟨Q,1,none⟩=some (ja jb q):=M.o.cell 1;have ak:x.cell? ⟨Q,2,none⟩=some (ja jb r):=M.o.cell 2;have ap:x.cell? ⟨Q,3,none⟩=some (ja jb 0):=M.o.cell 3;go_wp2_with fail;clear aS bg bh aZ;clear am al ak ap;refine(As b (g.slots - r) _ af.o.dice (by omega) (by omega)).mono ?_;rintro e w1 ⟨a1,rfl,l1,u1, -,hd,ho⟩;have u1:=u1 (by omega);have aa:=Lh (af.o.only hd ho);have ai:=Lh (O.o.only ho (by omega));have ac:=Lh (ar.o.only ho (by omega));have D:=Lh (M.o.only ho (by omega));clear hd ho af O ar M;have am:w1.cell? ⟨Q,0,none⟩=some (ja jb p):=D.o.cell 0;have al:w1.cell? ⟨Q,1,none⟩=some (ja jb q):=D.o.cell 1;have ak:w1.cell? ⟨Q,2,none⟩=some (ja jb r):=D.o.cell 2;have ap:w1.cell? ⟨Q,3,none⟩=some (ja jb 0):=D.o.cell 3;have bf:=fun i=>D.o.frozen i
 go_upto_region 3 with(fail);clear am al ak ap bf;obtain⟨w2,hw⟩: ∃X,X=w1.setCell ⟨Q,3,none⟩ (ja jb (1+a1)):=⟨_,rfl⟩
 have aD:=Lh (show Ai b w w2 from by rw[hw];exact aa.o.set lQ (by omega) _ _);have a7:=Lh (show Af P #[ja jb g.days,ja jb g.slots,ja jb g.begin_,ja jb g.mins] 65 w2 from by rw[hw];exact ai.o.set_other (by omega) _ _);have E:=Lh (show Af R #[ja jb 0,ja jb 0,ja jb 0,ja jb 0] 90 w2 from by rw[hw];exact ac.o.set_other (by omega) _ _);have T:=Lh (show Af Q #[ja jb p,ja jb q,ja jb r,ja jb (1+a1)] 90 w2 from by rw[hw];exact D.o.set 3 _);rw[<-hw];clear hw aa ai ac D;have am:w2.cell? ⟨Q,0,none⟩=some (ja jb p):=T.o.cell 0;have al:w2.cell? ⟨Q,1,none⟩=some (ja jb q):=T.o.cell 1;have ak:w2.cell? ⟨Q,2,none⟩=some (ja jb r):=T.o.cell 2;have ap:w2.cell? ⟨Q,3,none⟩=some (ja jb (1+a1)):=T.o.cell 3;have bc:w2.cell? ⟨R,0,none⟩=some (ja jb 0):=E.o.cell 0;have aQ:w2.cell? ⟨R,1,none⟩=some (ja jb 0):=E.o.cell 1;have a6:w2.cell? ⟨R,2,none⟩=some (ja jb 0):=E.o.cell 2;have aY:w2.cell? ⟨R,3,none⟩=some (ja jb 0):=E.o.cell 3;have aW:=fun i=>E.o.frozen i
 go_wp2_with fail;obtain⟨Y,hY,aX,hE⟩:=Pa E.o aD.o lR (by omega) [ja jb p,ja jb q,ja jb r,ja jb (1+a1)] rfl;simp only[setAll,xb]at hY;rw[<-hY];clear bc aQ a6 aY aW;clear hY;have r0:=aX.c4;refine bodyPost_ret (v:=.agg #[ja jb p,ja jb q,ja jb r,ja jb (1+a1)]) (by simp[results,Tryz.results31,go_sem,r0]) rfl ?_;exact⟨⟨p,q,r,1+a1⟩,rfl,⟨aq.o.2.2.1,aq.o.2.2.2,aq.o.1,aq.o.2.1,aU,by show 1<=1+a1;omega,by show r+(1+a1)<=g.slots;omega⟩,hE⟩
theorem Tr(b:Nat)(w:World)(hd:BJ b w):Calls Tryz.prog 15 #[jf (some ⟨b,0,none⟩)] w fun e w'=> ∃(t:Tt.Trm) (v:Value),e=jh (Cu t v)/\Ah w.heap.size w' v t.hols/\t.hols.length<=50/\2<=t.first/\t.first<=35002/\1<=t.weeks/\t.weeks<=8/\Tt.trmV t=0/\Ai b w w':=by
 obtain⟨i0,aN,aS,aR,aT⟩:=info_parts Dy;have aD:=hd.lt;obtain⟨R,hR⟩: ∃g,g=w.heap.size:=⟨_,rfl⟩
 obtain⟨w0,am⟩: ∃X,X=(w.alloc (ji #[ja jb 0,ja jb 0,jd none 0 0] 68)):=⟨_,rfl⟩
 have V:=Lh (show Ai b w w0 from by rw[am];exact((Ai.refl hd).alloc _));have aj:=Lh (show Af R #[ja jb 0,ja jb 0,jd none 0 0] 68 w0 from by rw[am,hR];exact Af.new' _ _ _ (by simp));have lR:w.heap.size<=R:=by omega
 have bR:b<R:=by omega
 go_enter Tryz.func15,Tryz.ntmps15;go_upto_region 1 with(fail);rw[<-am,<-hR];clear am hR;go_wp2_with fail;refine(As b 5000 _ V.o.dice (by omega) (by omega)).mono ?_;rintro e w1 ⟨a1,rfl,l1,u1, -,hd,ho⟩;have u1:=u1 (by omega);have T:=Lh (V.o.only hd ho);have af:=Lh (aj.o.only ho (by omega));clear hd ho V aj;go_wp2_with fail;refine(As b 8 _ T.o.dice (by omega) (by omega)).mono ?_;rintro e w2 ⟨a2,rfl,l2,u2, -,hd,ho⟩;have u2:=u2 (by omega);have Z:=Lh (T.o.only hd ho);have aa:=Lh (af.o.only ho (by omega));clear hd ho T af;obtain⟨Q,hQ⟩: ∃g,g=w2.heap.size:=⟨_,rfl⟩
 obtain⟨w3,hw⟩: ∃X,X=w2.alloc (ji #[ja jb (2+7*a1),ja jb (1+a2),jd none 0 0] 68):=⟨_,rfl⟩
 have ab:=Lh (show Ai b w w3 from by rw[hw];exact Z.o.alloc _);have ak:=Lh (show Af R #[ja jb 0,ja jb 0,jd none 0 0] 68 w3 from by rw[hw];exact aa.o.alloc _);have F:=Lh (show Af Q #[ja jb (2+7*a1),ja jb (1+a2),jd none 0 0] 68 w3 from by rw[hw,hQ];exact Af.new w2 _ _);have lQ:w.heap.size<=Q:=by have:=Z.o.but.size;omega
 have bg:Q≠R:=by have:=aa.o.lt;omega
 go_upto_region 2 with(fail);rw[<-hw,<-hQ];clear hw hQ;clear Z aa;obtain⟨f,hf⟩: ∃f,f=2+7*a1:=⟨_,rfl⟩
 obtain⟨k,hk⟩: ∃k,k=1+a2:=⟨_,rfl⟩
 rw[<-hf,<-hk]at F;have aH:2<=f:=by omega
 have be:f<=34995:=by omega
 have ap:1<=k:=by omega
 have aq:k<=8:=by omega
 have ac:=Lh (show f=2+7*a1/\0<=a1/\a1<5000 from⟨hf,l1,u1⟩);clear hf hk;have ai:w3.cell? ⟨Q,0,none⟩=some (ja jb f):=F.o.cell 0;have ah:w3.cell? ⟨Q,1,none⟩=some (ja jb k):=F.o.cell 1;have ae:w3.cell? ⟨Q,2,none⟩=some (jd none 0 0):=F.o.cell 2;go_wp2_with fail;clear ai ah ae;refine(As b 5 _ ab.o.dice (by omega) (by omega)).mono ?_;rintro e w4 ⟨a4,rfl,l4,u4, -,hd,ho⟩;have u4:=u4 (by omega);have ar:=Lh (ab.o.only hd ho);have au:=Lh (ak.o.only ho (by omega));have aB:=Lh (F.o.only ho (by omega));clear hd ho ab ak F;have aV:b<Q:=by omega
 have aG:b<w.heap.size:=aD;go_wp2_with fail;go_loopw [4,5] (fun dv nv wr=> ∃(d n:Int) (p:Option Addr) (c:Nat) (xs:List Int),dv=ja jb d/\nv=ja jb n/\0<=n/\n<=4/\0<=d/\d<=100000 - 100*n/\xs.length+n<=5/\Hid (Tt.HolP f k d xs)/\Hid (Ah w.heap.size wr (jd p xs.length c) xs)/\Hid (Af Q #[ja jb f,ja jb k,jd p xs.length c] 68 wr)/\Hid (Af R #[ja jb 0,ja jb 0,jd none 0 0] 68 wr)/\Hid (Ai b w wr)) (fun _ nv _=>(intOf nv).toNat)
 case atStart=>exact⟨f,a4,none,0,[],rfl,rfl,by omega,by omega,by omega,by omega,by simp;omega,Lh (Tt.HolP.start f k),Lh (Ah.nil _ _),aB,au,ar⟩
 case round=>
  obtain⟨d,n,p,c,xs,rfl,rfl,bh,a6,a8,bc,aQ,az,HX,J,E,M⟩:=hrel;have bf:=Lh aQ;by_cases aW:0<n;rotate_left
  ·obtain rfl:n=0:=by omega
   have ai:wr.cell? ⟨Q,0,none⟩=some (ja jb f):=J.o.cell 0;have ah:wr.cell? ⟨Q,1,none⟩=some (ja jb k):=J.o.cell 1;have ae:wr.cell? ⟨Q,2,none⟩=some (jd p xs.length c):=J.o.cell 2;have aC:wr.cell? ⟨R,0,none⟩=some (ja jb 0):=E.o.cell 0;have av:wr.cell? ⟨R,1,none⟩=some (ja jb 0):=E.o.cell 1;have aA:wr.cell? ⟨R,2,none⟩=some (jd none 0 0):=E.o.cell 2;have ax:=fun i=>E.o.frozen i;go_wp2_with fail
   obtain⟨Y,hY,ay,hE⟩:=Pa E.o M.o lR (by omega) [ja jb f,ja jb k,jd p xs.length c] rfl;have aw:=Lh (show Ah w.heap.size Y (jd p xs.length c) xs from by rw[hY];exact A0 (by decide) _ 0 _ _ HX.o E.o);simp only[setAll,xb]at hY;rw[<-hY];clear aC av aA ax;clear hY;have r0:=ay.c3;refine bodyPost_ret (v:=.agg #[ja jb f,ja jb k,jd p xs.length c]) (by simp[results,Tryz.results15,go_sem,r0]) rfl ?_;exact⟨⟨f,k,xs⟩,_,rfl,aw.o,by show xs.length<=50;omega,aH,by show f<=35002;omega,ap,aq,Tt.trm_ok az.o ac.o.1 ac.o.2.1 ac.o.2.2 ap aq (by omega),hE⟩
  go_wp2_with fail;refine(As b 20 _ M.o.dice (by omega) (by omega)).mono ?_;rintro e H ⟨a21,rfl,ba,aF, -,hd,ho⟩;have aF:=aF (by omega);have G:=Lh (M.o.only hd ho);have A:=Lh (J.o.only ho (by omega));have D:=Lh (E.o.only ho (by omega));have ag:=Lh (show Ah w.heap.size H (jd p xs.length c) xs from Am HX.o aG ho.but);clear hd ho M J E;obtain⟨dd,a7⟩: ∃x,x=d+a21:=⟨_,rfl⟩
  have aY:0<=dd:=by omega
  have aX:dd<=100000 - 100*n+20:=by omega
  by_cases aZ:f+7*k<=d+a21
  ·have ai:H.cell? ⟨Q,0,none⟩=some (ja jb f):=A.o.cell 0;have ah:H.cell? ⟨Q,1,none⟩=some (ja jb k):=A.o.cell 1;have ae:H.cell? ⟨Q,2,none⟩=some (jd p xs.length c):=A.o.cell 2;have aC:H.cell? ⟨R,0,none⟩=some (ja jb 0):=D.o.cell 0;have av:H.cell? ⟨R,1,none⟩=some (ja jb 0):=D.o.cell 1;have aA:H.cell? ⟨R,2,none⟩=some (jd none 0 0):=D.o.cell 2;have ax:=fun i=>D.o.frozen i;go_wp2_with fail
   obtain⟨Y,hY,ay,hE⟩:=Pa D.o G.o lR (by omega) [ja jb f,ja jb k,jd p xs.length c] rfl;have aw:=Lh (show Ah w.heap.size Y (jd p xs.length c) xs from by rw[hY];exact A0 (by decide) _ 0 _ _ ag.o D.o);simp only[setAll,xb]at hY;rw[<-hY];clear aC av aA ax;clear hY;have r0:=ay.c3;refine bodyPost_ret (v:=.agg #[ja jb f,ja jb k,jd p xs.length c]) (by simp[results,Tryz.results15,go_sem,r0]) rfl ?_;exact⟨⟨f,k,xs⟩,_,rfl,aw.o,by show xs.length<=50;omega,aH,by show f<=35002;omega,ap,aq,Tt.trm_ok az.o ac.o.1 ac.o.2.1 ac.o.2.2 ap aq (by omega),hE⟩
  ·have ai:H.cell? ⟨Q,0,none⟩=some (ja jb f):=A.o.cell 0;have ah:H.cell? ⟨Q,1,none⟩=some (ja jb k):=A.o.cell 1;have ae:H.cell? ⟨Q,2,none⟩=some (jd p xs.length c):=A.o.cell 2;have aU:=fun i=>A.o.frozen i;go_wp2_with (at_builtin;refine wpList_append_own_at _ rfl (.tmp 35) (.tmp 37) 22 rfl w.heap.size 3 i0 (ja jb 0) 1 8 Tryz.underlying22 aN aS aR aT rfl (by decide) _ _ _ rfl (xa ag.o _) ⟨H.heap.size,0,none⟩ 1 1 [ja jb (d+a21)] rfl rfl (Bq _ _ _) (by intro u hu;simp at hu;subst hu;rfl) (by unfold maxLen;omega) (by omega) (by have:=G.o.but.size;simp;omega) ?_)
   intro v2 x8 U O _ aO;obtain⟨p2,c2,hv2⟩:=AM U;subst hv2;clear ai ah ae aU;have al:=Lh ((A.o.alloc (ji #[ja jb (d+a21)] 3)).grown (xa ag.o _) O (by decide));have aI:=Lh ((D.o.alloc (ji #[ja jb (d+a21)] 3)).grown (xa ag.o _) O (by decide));have aE:=Lh ((G.o.alloc (ji #[ja jb (d+a21)] 3)).grow (xa ag.o _) (Nat.le_refl _) aG (by have:=G.o.but.size;simp;omega) O);have aJ:Ah w.heap.size x8 (jd p2 (xs.length+1) c2) (xs++[d+a21]):=Ah.snoc U;have fz:x8.frozen? ⟨Q,2,none⟩=false:=al.o.frozen 2;have cz:x8.cell? ⟨Q,2,none⟩=some (jd p xs.length c):=al.o.cell 2;have aP:=Lh (A7 aJ al.o (by decide) 2 (jd p2 (xs.length+1) c2));have aK:=Lh (al.o.set 2 (jd p2 (xs.length+1) c2));have aM:=Lh (aI.o.set_other (show R≠Q by omega) 2 (jd p2 (xs.length+1) c2));have aL:=Lh (aE.o.set lQ aV 2 (jd p2 (xs.length+1) c2));clear aJ U O aO al aI aE;go_wp2_with fail;go_roundw
   case rel=>exact⟨d+a21+1,n - 1,p2,c2,xs++[d+a21],by go_num,by go_num,by omega,by omega,by omega,by omega,by simp;omega,Lh (az.o.step (by omega) (by omega)),Lh (by rw[xd];exact aP.o),Lh (by rw[xd];exact aK.o),aM,aL⟩
   case measure=>simp[intOf];omega
