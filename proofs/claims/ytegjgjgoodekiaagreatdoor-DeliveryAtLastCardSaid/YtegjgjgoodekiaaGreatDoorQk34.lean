/- Drawn steps of deliveries (law.steps): its contract. Deliveries of the versions of one timetable: the plain law. No function of the program in sight. Condition: none. Deliveries of the versions of one timetable: what is always so. No function of the program in sight. Condition: none. Deliveries of the versions of one timetable: each step keeps what is always so. No function of the program in sight. Condition: none. Deliveries of the versions of one timetable: the last delivery, and the notes. No function of the program in sight. Condition: none. A world in a box, while law.DeliveryAtLast runs. Condition: none. -/
import Derived.Test.YtegjgjgoodekiaaGreatDoorQk33
import Derived.Test.YtegjgjgoodekiaaGreatDoorQk32
import Derived.Deep.CutBlock
open Go.Value renaming int->ja,string->jc,slice->jd,pointer->jf
open Go.IntKind renaming i64->jb
open Go.Ending renaming returned->jh
open List renaming length_append->xa,flatMap_cons->xb,length_cons->xc,getElem?_eq_getElem->xd,length_nil->xg,getElem?_eq_some_iff->xi,mem_of_getElem?->xj,flatMap_append->xk,mem_append->xm,append_nil->xn,mem_singleton->xo,nil_append->xp,length_map->xq
open Nat renaming le_refl->xe,zero_le->xf
open Option.some renaming inj->xh
open Go.World.ownsRow renaming alloc->xl
namespace Go.Proofs.YtegjgjgoodekiaaGreatDoor
open Go.RowKit
def JU(fs:List Fd)(x:Fu):Prop:=
 1<=x.s.kind/\x.s.kind<=7/\((x.s.kind=1/\x.s.fn=⟨#[120]⟩/\ ∃f∈fs,x.s.fv=f.1/\f.2.1=jd x.af x.s.es.length x.cf/\x.s.es=f.2.2.map (·.1))∨(x.s.kind≠1/\x.s.es=[]/\x.af=none/\x.cf=0))
def V5(fs:List Fd)(S:Nat)(w:World):Prop:=∃x:Fu,Af S (JW x).toArray 43 w/\JU fs x
def Lr:Array Value:=#[ja jb 1,ja jb 1,ja jb 2,ja jb 2,ja jb 2,ja jb 3,ja jb 3,ja jb 3,ja jb 3,ja jb 4,ja jb 4,ja jb 4,ja jb 5,ja jb 6,ja jb 7]
theorem TY(v:Nat)(h:v<15): ∃k:Int,Lr[v]?=some (ja jb k)/\1<=k/\k<=7:=by
 obtain rfl | rfl | rfl | rfl | rfl | rfl | rfl | rfl | rfl | rfl | rfl | rfl | rfl | rfl | rfl:v=0∨v=1∨v=2∨v=3∨v=4∨v=5∨v=6∨v=7∨v=8∨v=9∨v=10∨v=11∨v=12∨v=13∨v=14:=by omega
 all_goals exact⟨_,rfl,by decide,by decide⟩
theorem TZ:(Tryz.prog.info? 43).map (fun i=>(i.zero,i.size,i.bytes))=some (some (.agg #[ja jb 0,ja jb 0,ja jb 0,jc ⟨#[]⟩,ja jb 0,jd none 0 0]),6,72):=by kernel_rfl
def Tk(b B:Nat)(w:World)(g:Nat)(fs:List Fd):Prop:=g<B/\g≠b/\ ∀(j:Nat) (f:Fd),fs[j]?=some f-> ∃p q,f.2.1=jd p f.2.2.length q/\w.cell? ⟨g,j*3,none⟩=some (jc ⟨#[120]⟩)/\w.cell? ⟨g,j*3+1,none⟩=some (ja jb f.1)/\w.cell? ⟨g,j*3+2,none⟩=some (jd p f.2.2.length q)
theorem Tk.but{b B g:Nat}{w w':World}{fs:List Fd}(h:Tk b B w g fs)(hb:AO b B w w'):Tk b B w' g fs:=⟨h.1,h.2.1,fun j f hj=>by
 obtain⟨p,q,E,D,A,F⟩:=h.2.2 j f hj;exact⟨p,q,E,(hb.cell h.1 h.2.1).trans D,(hb.cell h.1 h.2.1).trans A,(hb.cell h.1 h.2.1).trans F⟩⟩
set_option maxHeartbeats 16000000 in
set_option maxRecDepth 100000 in
theorem UW(b:Nat)(w:World)(hd:BJ b w)(fs:List Fd)(gl n cl:Nat)(hf:Tk b w.heap.size w gl fs)(hn:n=fs.length)(bc:1<=n)(aX:n<=1000)(be:n<=cl)(hcl:cl<=9223372036854775807):Calls Tryz.prog 9 #[jf (some ⟨b,0,none⟩),jd (some ⟨gl,0,none⟩) n cl,ja jb 3,ja jb 40] w fun e w'=> ∃(u:Value) (zs:List Fu),e=jh u/\Rw JW 6 43 w.heap.size w' u zs/\zs.length<=40/\(∀x∈zs,JU fs x)/\Ai b w w':=by
 have HD:=Lh hd;have HF:=Lh hf;have HN:=Lh hn;have hb:=hd.lt;obtain⟨i2,aD,aM,aI,hq2⟩:=info_parts TZ;clear hd hf hn;go_enter Tryz.func9,Tryz.ntmps9;go_wp2_with fail;refine(As b 41 w HD.o (by omega) (by omega)).mono ?_;rintro e w1 ⟨ax,rfl,h0,h1, -,D,A⟩;have h1:=h1 (by omega);have R:=Lh ((Ai.refl HD.o).only D A);clear D A;obtain⟨c0,aJ⟩: ∃c0:Nat,ax=(c0:Int):=⟨ax.toNat,by omega⟩
 subst aJ;go_wp2_with fail;go_loopw [9,10,11,12] (fun ov nv yv cv wr=> ∃(V wy cn:Nat) (zs:List Fu),nv=ja jb V/\yv=ja jb wy/\cv=ja jb cn/\V<n/\zs.length+cn<=40/\wy<=zs.length/\Hid (Rw JW 6 43 w.heap.size wr ov zs)/\Hid (∀x∈zs,JU fs x)/\Hid (Ai b w wr)) (fun _ _ _ cv _=>(intOf cv).toNat)
 case atStart=>exact⟨0,0,c0,[],rfl,rfl,rfl,by omega,by simp;omega,xe _,Lh (Rw.nil _ _ _ _ _),Lh (fun x hx=>by cases hx),R⟩
 case round=>
  obtain⟨V,wy,cn,zs,rfl,rfl,rfl,aN,aG,aL,HZ,HO,J⟩:=hrel;obtain⟨pz,cz,aK, -, -⟩:=HZ.o.form;subst aK;obtain⟨zl,ak⟩: ∃zl,zl=zs.length:=⟨_,rfl⟩
  rw[<-ak]at aG aL HZ ⊢;have ac:=Lh ak;clear ak;by_cases bg:0<cn
  ·have aq:(0:Int)<(cn:Int):=by omega
   go_upto_region 6 with(fail);have bf:=J.o.dice.lt;have T:=Lh J.o.dice;refine AH (GR.sofar b) 11 [fun _ u x=> ∃g,u=jd (some ⟨g,0,none⟩) 15 15/\wr.heap.size<=g/\Af g Lr 3 x,gE _,fun _ u x=> ∃v:Nat,u=ja jb v/\v<15,fun _ u x=> ∃(g v:Nat),u=jf (some ⟨g,v,none⟩)/\v<15/\wr.heap.size<=g/\Af g Lr 3 x,fun _ u x=> ∃k:Int,u=ja jb k/\1<=k/\k<=7,gE _,gE _,gE _,fun _ u x=> ∃m:Int,u=ja jb m,fun _ u x=> ∃k m:Int,u=.agg #[ja jb k,ja jb m,ja jb 0,jc ⟨#[]⟩,ja jb 0,jd none 0 0]/\1<=k/\k<=7,fun _ u x=> ∃S,u=jf (some ⟨S,0,none⟩)/\wr.heap.size<=S/\Af S #[ja jb 0,ja jb 0,ja jb 0,jc ⟨#[]⟩,ja jb 0,jd none 0 0] 43 x] rfl EA ⟨by
    intro v x qz h QQ K;have J:=Lh (Ai.mk qz.1 (qz.2 T.o));go_wp2_with fail;exact K _ _ ⟨_,rfl,J.o.but.size,Af.new x _ _⟩ (.inr (gS.of ((Ai.refl J.o.dice).alloc _))),qE,by
    intro v x qz h QQ K;have J:=Lh (Ai.mk qz.1 (qz.2 T.o));simp only[A2,A1]at h;obtain⟨⟨_,e0,_⟩, -⟩:=h;simp only[e0]at K ⊢;go_wp2_with fail;refine(As b 15 _ J.o.dice (by omega) (by omega)).mono ?_;rintro e x1 ⟨v,rfl,h0,h1, -,D,A⟩;have h1:=h1 (by omega);have R:=gS.of ((Ai.refl J.o.dice).only D A);clear A D;obtain⟨v,rfl⟩: ∃c0:Nat,v=(c0:Int):=⟨v.toNat,by omega⟩
    go_wp2_with fail;exact K _ _ ⟨_,rfl,by omega⟩ (.inr R),by
    intro v x qz h QQ K;simp only[A2,A1]at h;obtain⟨⟨y1,⟨g,e1,hg,hB⟩,z1⟩,⟨y2,⟨j,e2,hj⟩,z2⟩, -⟩:=h;have HB:=Lh (hB.but z1.1 (by omega));have a7:(0:Int)<=(j:Int):=by omega
    have ba:(j:Int)<15:=by omega
    simp only[e1,e2]at K ⊢;go_wp2_with fail;exact K _ _ ⟨g,j,by simp,hj,hg,HB.o⟩ (.inl rfl),by
    intro v x qz h QQ K;simp only[A2,A1]at h;obtain⟨⟨y1,⟨g,j,e1,hj,hg,hB⟩,z1⟩, -⟩:=h;obtain⟨k,hk,k0,k1⟩:=TY j hj;have hc:x.cell? ⟨g,j,none⟩=some (ja jb k):=by rw[(hB.but z1.1 (by omega)).cell j];exact hk
    simp only[e1]at K ⊢;go_wp2_with fail;exact K _ _ ⟨_,rfl,k0,k1⟩ (.inl rfl),qE,qE,qE,by
    intro v x qz h QQ K;have J:=Lh (Ai.mk qz.1 (qz.2 T.o));simp only[A2,A1]at h;obtain⟨⟨_,e0,_⟩,⟨_,e1,_⟩, -⟩:=h;simp only[e0,e1]at K ⊢;go_wp2_with fail;refine(As b _ _ J.o.dice (by omega) (by omega)).mono ?_;rintro e x1 ⟨v,rfl,h0,h1, -,D,A⟩;have R:=gS.of ((Ai.refl J.o.dice).only D A);clear A D;go_wp2_with fail;exact K _ _ ⟨_,rfl⟩ (.inr R),by
    intro v x qz h QQ K;simp only[A2,A1]at h;obtain⟨⟨_,⟨k,e0,k0,k1⟩,_⟩,⟨_,⟨m,e1⟩,_⟩, -⟩:=h;simp only[e0,e1]at K ⊢;go_wp2_with fail;exact K _ _ ⟨_,_,rfl,k0,k1⟩ (.inl rfl),by
    intro v x qz h QQ K;have J:=Lh (Ai.mk qz.1 (qz.2 T.o));go_wp2_with fail;exact K _ _ ⟨_,rfl,J.o.but.size,Af.new x _ _⟩ (.inr (gS.of ((Ai.refl J.o.dice).alloc _))),trivial⟩ ?_
   intro v x h0 h;simp only[Dt,Nat.reduceAdd]at h;obtain⟨-, -, -, -, -, -, -, -, -,⟨z,⟨k,m,e9,k0,k1⟩, -⟩,⟨z',⟨S,aC,hS,hB⟩,aB⟩, -⟩:=h;have hB:=hB.but aB.1 (by omega);have hy:=hB.c6;have f:=fun i=>hB.frozen i
   simp only[e9,aC,Ci];have R:=Lh (J.o.trans (Ai.mk h0.1 (h0.2 T.o)));go_upto_region 7 with(fail);obtain⟨X,hX⟩: ∃X,X=((((((x.setCell ⟨S,0,none⟩ (ja jb k)).setCell ⟨S,1,none⟩ (ja jb m)).setCell ⟨S,2,none⟩ (ja jb 0)).setCell ⟨S,3,none⟩ (jc ⟨#[]⟩)).setCell ⟨S,4,none⟩ (ja jb 0)).setCell ⟨S,5,none⟩ (jd none 0 0)):=⟨_,rfl⟩
   have aW:w.heap.size<=S:=by have:=J.o.but.size;omega
   have O:=Lh (show Af S #[ja jb k,ja jb m,ja jb 0,jc ⟨#[]⟩,ja jb 0,jd none 0 0] 43 X from by rw[hX];exact(((((hB.set 0 _).set 1 _).set 2 _).set 3 _).set 4 _).set 5 _);have F:b<S:=by omega
   have E:wr.heap.size<=S:=hS;have G:=Lh (show Ai b wr X from by rw[hX];exact((((((Ai.mk h0.1 (h0.2 T.o)).set E F 0 _).set E F 1 _).set E F 2 _).set E F 3 _).set E F 4 _).set E F 5 _);rw[<-hX];clear hX hy f e9 aC h0 hB aB R T;have y:=O.o.c6;go_upto_block 2 with(fail)
   go_cut [10,11]from 18 to 79 (fun nv yv wx=> ∃ag ah:Nat,nv=ja jb ag/\yv=ja jb ah/\ag<n/\ah<=zl+1/\Hid (V5 fs S wx)/\Hid (Ai b wr wx))
   case first=>
    obtain rfl | hk:k=1∨k≠1:=by omega
    ·obtain⟨f,hf⟩: ∃f,fs[V]?=some f:=⟨_,xd (by rw[<-HN.o];exact aN)⟩
     obtain⟨p,q,f0,f1,f2,f3⟩:=(HF.o.but (J.o.trans G.o).but).2.2 V f hf;have aQ:=f3;have aH:=Lh f0;have aS:=Lh (xj hf);clear f0 hf;have z:=fun i=>O.o.frozen i
     have aY:(V:Int)<(n:Int):=by omega
     have aU:(0:Int)<=(V:Int):=by omega
     go_upto_region 10 with(fail);obtain⟨Y,hY⟩: ∃Y,Y=(((X.setCell ⟨S,3,none⟩ (jc ⟨#[120]⟩)).setCell ⟨S,4,none⟩ (ja jb f.1)).setCell ⟨S,5,none⟩ (jd p f.2.2.length q)):=⟨_,rfl⟩
     have aF:=Lh (show V5 fs S Y from⟨⟨⟨1,m,0,⟨#[120]⟩,f.1,f.2.2.map (·.1)⟩,p,q⟩,by rw[hY];exact(show(JW ⟨⟨1,m,0,⟨#[120]⟩,f.1,f.2.2.map (·.1)⟩,p,q⟩)=[ja jb 1,ja jb m,ja jb 0,jc ⟨#[120]⟩,ja jb f.1,jd p f.2.2.length q]from by simp[JW])▸((O.o.set 3 _).set 4 _).set 5 _,Int.le_refl _,show(1:Int)<=7 by decide,.inl ⟨rfl,rfl,f,aS.o,rfl,by rw[aH.o];simp,rfl⟩⟩);have ay:=Lh (show Ai b wr Y from by rw[hY];exact((G.o.set E F 3 _).set E F 4 _).set E F 5 _);rw[<-hY];clear hY y z f1 f2 f3 O G aQ;go_wp2_with fail;refine(As b 2 _ ay.o.dice (by omega) (by omega)).mono ?_;rintro e Z ⟨r,rfl,r0,r1, -,D,A⟩;have r1:=r1 (by omega);have M:=Lh (ay.o.only D A);have aa:=Lh (show V5 fs S Z from by obtain⟨x,h1,h2⟩:=aF.o;exact⟨x,h1.but (B7.but A (B:=Y.heap.size)) (by omega),h2⟩);clear D A;obtain⟨nz,aR⟩: ∃nz:Nat,min ((V:Int)+r) ((n:Int) - 1)=nz:=⟨(min ((V:Int)+r) ((n:Int) - 1)).toNat,by omega⟩
     go_wp2_with fail;go_meet;exact⟨nz,wy,rfl,rfl,by omega,by omega,aa,M⟩
    ·have HK: ∀(Y:World) (pos nn:Int),Af S #[ja jb k,ja jb pos,ja jb nn,jc ⟨#[]⟩,ja jb 0,jd none 0 0] 43 Y->Hid (V5 fs S Y):=fun Y pos nn h=>Lh ⟨⟨⟨k,pos,nn,⟨#[]⟩,0,[]⟩,none,0⟩,h,k0,k1,.inr ⟨hk,rfl,rfl,rfl⟩⟩
     have al:=HK _ _ _ O.o;obtain rfl | a8:k=2∨k≠2:=by omega
     ·go_wp2_with fail;refine(As b 4 _ G.o.dice (by omega) (by omega)).mono ?_;rintro e Z ⟨r,rfl,r0,r1, -,D,A⟩;have M:=Lh (G.o.only D A);have U:=O.o.but (B7.but A (B:=X.heap.size)) (by omega);clear D A y;have y:=U.c6;have z:=fun i=>U.frozen i
      go_wp2_with fail;go_meet;exact⟨V,wy+1,rfl,by go_num,by omega,by omega,HK _ _ _ (U.set 1 _),Lh (M.o.set E F 1 _)⟩
     obtain aw | aw:(k=4∨k=5)∨ ¬(k=4∨k=5):=by omega
     ·obtain⟨nz,aR⟩: ∃nz:Nat,max ((wy:Int) - 1) 0=nz:=⟨(max ((wy:Int) - 1) 0).toNat,by omega⟩
      rcases aw with rfl | rfl
      all_goals
       go_wp2_with fail;go_meet;exact⟨V,nz,rfl,rfl,by omega,by omega,al,G⟩
     obtain rfl | a6:k=6∨k≠6:=by omega
     ·go_wp2_with fail;go_meet;exact⟨V,wy+1,rfl,by go_num,by omega,by omega,al,G⟩
     obtain rfl | rfl:k=7∨k=3:=by omega
     ·go_wp2_with fail;refine(As b 900 _ G.o.dice (by omega) (by omega)).mono ?_;rintro e Z ⟨r,rfl,r0,r1, -,D,A⟩;have M:=Lh (G.o.only D A);have U:=O.o.but (B7.but A (B:=X.heap.size)) (by omega);clear D A y;have y:=U.c6;have z:=fun i=>U.frozen i
      go_wp2_with fail;go_meet;exact⟨V,wy,rfl,rfl,by omega,by omega,HK _ _ _ (U.set 2 _),Lh (M.o.set E F 2 _)⟩
     ·go_wp2_with fail;go_meet;exact⟨V,wy,rfl,rfl,by omega,by omega,al,G⟩
   case rest=>
    obtain⟨ag,ah,rfl,rfl,au,aV,av,am⟩:=hcut;go_wp2_with fail;refine(Lo b 30 _ am.o.dice (by omega) (by omega)).mono ?_;rintro e Z ⟨bb,rfl,D,A⟩;have M:=Lh (am.o.only D A);have aa:Hid (V5 fs S Z):=Lh (by obtain⟨x,h1,h2⟩:=av.o;exact⟨x,h1.but (B7.but A (B:=wc.heap.size)) (by omega),h2⟩);clear D A O G av am y;go_upto_if 74 with(fail)
    go_cut []from 75 to 75 (fun wx=>Hid (V5 fs S wx)/\Hid (Ai b wr wx))
    case first=>
     cases bb with
     | false=>
      go_wp2_with fail;go_meet;exact⟨aa,M⟩
     | true=>
      obtain⟨xx,H,ai⟩:=aa.o;have H:Af S #[ja jb xx.s.kind,ja jb xx.s.pos,ja jb xx.s.n,jc xx.s.fn,ja jb xx.s.fv,jd xx.af xx.s.es.length xx.cf] 43 Z:=H;have y:=H.c6;have z:=fun i=>H.frozen i
      go_wp2_with fail;go_meet;exact⟨Lh ⟨⟨⟨xx.s.kind, -1,xx.s.n,xx.s.fn,xx.s.fv,xx.s.es⟩,xx.af,xx.cf⟩,H.set 1 _,ai⟩,Lh (M.o.set E F 1 _)⟩
    case rest=>
     obtain⟨ap,aj⟩:=hcut;clear aa M;obtain⟨xx,H,ai⟩:=ap.o;have aP:=Lh ai;have H:Af S #[ja jb xx.s.kind,ja jb xx.s.pos,ja jb xx.s.n,jc xx.s.fn,ja jb xx.s.fv,jd xx.af xx.s.es.length xx.cf] 43 wc:=H;have y:=H.c6;obtain⟨W,hW⟩: ∃q,q=wc:=⟨_,rfl⟩
     rw[<-hW]at y aj ⊢;have az:=Lh (show W.ownsRow w.heap.size 43 6 (jd pz zl cz) zl (gC JW zs)from by
      have h:=Am HZ.o hb aj.o.but;rw[ac.o];rw[ac.o]at h;exact h)
     have ar:=Lh (J.o.trans aj.o);have aZ:=ar.o.but.size;clear hW H ai ap aj HZ J;go_wp2_with (at_builtin;refine wpList_append_own_at _ rfl (.tmp 76) (.tmp 78) 37 rfl w.heap.size 43 i2 _ 6 72 Tryz.underlying37 aD aM aI hq2 rfl (by decide) (jd pz zl cz) zl (gC JW zs) rfl (xl az.o _) ⟨W.heap.size,0,none⟩ 1 1 (JW xx) rfl (Li xx) (Bd (Af.new W (JW xx).toArray 43)) (by intro u hu;simp[JW]at hu;rcases hu with rfl | rfl | rfl | rfl | rfl | rfl<;>rfl) (by unfold maxLen;omega) (by omega) (by simp;omega) ?_);intro v8 x8 ab ae _ _;have aT:=Lh (show Rw JW 6 43 w.heap.size x8 v8 (zs++[xx])from Rw.snoc (by rw[<-ac.o];exact ab));have aE:=Lh ((ar.o.alloc _).grow (xl az.o _) (xe _) hb (by simp;omega) ae);have aO:=Lh (show ∀x∈zs++[xx],JU fs x from fun x hx=>by
      rcases xm.1 hx with hx | hx
      ·exact HO.o x hx
      ·rw[xo.1 hx];exact aP.o)
     have aA:=Lh (show(zs++[xx]).length=zl+1 from by rw[xa,ac.o];rfl);obtain⟨cn,rfl⟩: ∃c',cn=c'+1:=⟨cn - 1,by omega⟩
     clear ab ae y;go_wp2_with fail;go_roundw
     case rel=>exact⟨ag,ah,cn,zs++[xx],rfl,rfl,by go_num,au,by rw[aA.o];omega,by rw[aA.o];omega,aT,aO,aE⟩
     case measure=>simp[intOf]
  ·have aq: ¬(0:Int)<(cn:Int):=by omega
   go_wp2_with fail;go_ret;exact⟨_,rfl,zs,HZ.o,by have:=ac.o;omega,HO.o,J.o⟩
/-! ### The text of a version is not long -/
theorem MW: ∀ls:List (List UInt8),74*(ls.flatMap Tt.fold).length<=77*(ls.flatMap id).length+148*ls.length
 | []=>by simp
 | a::r=>by
  have A:=MY a;have w:=MW r;simp only[xb,xa,xc,id]at w ⊢;omega
theorem VC{e:Ev}{v:Int}{z:List UInt8}(hr:A8 e.uid.data.toList=true)(hc:Ax e v=0)(hv:v<=64)(hz:z.length<=16):((Ao e z).flatMap id).length<=3900/\(Ao e z).length<=13:=by
 obtain⟨U,q1,A, -,H,J,O,M, -,E,G⟩:=CS hc;have F:=Co E;have w:=Co G;have hh:=((Tt.serV_zero e.days).1 A).1;have D:=Ef hr;rw[Lib.size_eq]at F w D;have h1:=Tt.dec_len 4 e.seq.toNat (by omega);have R:=Tt.dec_len 4 e.mins.toNat (by omega);have Y:=IT hh;have h4:=Tt.stampsL_len e.start e.days.ex;have T:=Tt.stampsL_len e.start e.days.xt;have Z:=Tt.esc_length e.summ.data.toList;have h7:=Tt.esc_length e.loc.data.toList;have X:=hh.n;have h9:=Tt.stampL_len e.days.first e.start;have a1:((Ke e z).flatMap id).length<=1200/\(Ke e z).length=6:=by
  unfold Ke;refine⟨?_,rfl⟩;simp only[xb,List.flatMap_nil,id,xa,xc,xg];omega
 have a2:((JX e z).flatMap id).length<=30+16*e.days.ex.length/\(JX e z).length<=1:=by
  unfold JX;split
  ·simp
  ·simp only[xb,List.flatMap_nil,id,xa,xc,xg];omega
 have a3:((JY e z).flatMap id).length<=30+16*e.days.xt.length/\(JY e z).length<=1:=by
  unfold JY;split
  ·simp
  ·simp only[xb,List.flatMap_nil,id,xa,xc,xg];omega
 have a4:((Oi e).flatMap id).length<=140/\(Oi e).length=1:=by
  unfold Oi;refine⟨?_,rfl⟩;simp only[xb,List.flatMap_nil,id,xa,xc,xg];omega
 have a5:((Ly e).flatMap id).length<=140/\(Ly e).length<=1:=by
  unfold Ly;split
  ·simp
  ·simp only[xb,List.flatMap_nil,id,xa,xc,xg];omega
 have V:((LN e).flatMap id).length<=40/\(LN e).length=2:=by
  unfold LN;split<;>exact⟨by decide,rfl⟩
 unfold Ao;simp only[xk,xa];omega
theorem Pc{v:Int}{z:List UInt8}(hv:v<=64)(hz:z.length<=16): ∀es:List Ev,(∀e∈es,A8 e.uid.data.toList=true/\Ax e v=0)->((es.flatMap (fun e=>Ao e z)).flatMap id).length<=3900*es.length/\(es.flatMap (fun e=>Ao e z)).length<=13*es.length
 | [],_=>by simp
 | e::r,h=>by
  have w:=h e (List.mem_cons_self ..);have D:=VC w.1 w.2 hv hz;have A:=Pc hv hz r (fun x hx=>h x (List.mem_cons_of_mem _ hx));simp only[xb,xk,xa,xc]at A ⊢;omega
theorem Sv{n z:ByteArray}{v:Int}{es:List Ev}(hv:Aq n v es=0)(hz:Tt.code z.data.toList=true)(hl:es.length<=48):(BU n.data.toList v es z.data.toList).length<=262144:=by
 obtain⟨v0,F,E,D⟩:=BC hv;have w:=CC hz;have A:n.size<=16:=by
  unfold Aq at hv;split at hv
  ·cases hv
  ·rename_i hc
   exact CC (by simpa using hc)
 rw[Lib.size_eq]at w A;have M:=Tt.dec_len 4 v.toNat (by omega);have G:=Pc F w es (By v es none D);have J:=MW (AI n.data.toList v es z.data.toList);have O:((CI n.data.toList v).flatMap id).length<=200/\(CI n.data.toList v).length=5:=by
  unfold CI;refine⟨?_,rfl⟩;simp only[xb,List.flatMap_nil,id,xa,xc,xg];omega
 have H:((AI n.data.toList v es z.data.toList).flatMap id).length<=187500/\(AI n.data.toList v es z.data.toList).length<=640:=by
  unfold AI;simp only[xk,xa,xb,List.flatMap_nil,xc,xg,id];omega
 unfold BU;omega
theorem Qt{g:Tt.Grd}{t:Tt.Trm}{ls:List (List Az)}{k j:Nat}{A:ByteArray}{tag:Int}(hk:k<=ls.length)(hj:j<=ls.length)(hl:ls.length<=64)(w:(AX g t ls k).length<=256)(D:(AX g t ls j).length<=256)(hf:Aq A (j:Int) (AX g t ls j)=0):
  BK (k:Int) tag (AX g t ls k) A (j:Int) (AX g t ls j)=(((max k j:Nat):Int),tag,AX g t ls (max k j),(if k<j then(AX g t ls j).flatMap (BO (AX g t ls k))else[]),0):=by
 have hr:Cw (k:Int) (AX g t ls k)=true:=(BT _ _).2 ⟨by omega,by omega,w,Gc g t ls k hk⟩;unfold BK;rw[if_neg (by rw[hr];decide),if_neg (by rw[hf];decide)];by_cases hle:(j:Int)<=k
 ·rw[if_pos hle,Nat.max_eq_left (by omega),if_neg (by omega)]
 ·rw[if_neg hle,TP (by omega) hj,if_neg (by show ¬(256:Int)<((AX g t ls j).length:Int);omega),Nat.max_eq_right (by omega),if_pos (by omega)]
section
variable (g:Tt.Grd) (t:Tt.Trm) (ls:List (List Az)) (z:ByteArray)
def TL(k:Nat):List UInt8:=BU [120] (k:Int) (AX g t ls k) z.data.toList
def TX(k:Nat):ByteArray:=str (TL g t ls z k)
def GX(k:Nat):Int:=BH (TX g t ls z k) (k:Int)
def FN(m:Hl):Prop:=0<=m.rd/\m.rd<3/\(m.body=⟨#[]⟩∨(m.ans=true/\ ∃k,k<=ls.length/\ ∃i,m.body=str ((TL g t ls z k).take i)/\m.tag=GX g t ls z k))
def CU(ns:List Bt)(i:Nat):List Nt:=(ns.filter (fun n=>decide (n.rd=(i:Int)))).map (·.nt)
def VS(ns:List Bt)(i:Nat)(r:Ti)(k:Nat):Prop:=k<=ls.length/\r.v=(k:Int)/\r.es=AX g t ls k/\(r.tag=0∨r.tag=GX g t ls z k)/\Told (AX g t ls) k (CU ns i)
structure At (W:A3) (ns:List Bt):Prop where
 zone:W.zone=z
 cur:W.cur=⟨#[]⟩∨ ∃k,k<=ls.length/\W.cur=TX g t ls z k
 len:W.way.length<=64
 way: ∀m∈W.way,FN g t ls z m
 rds:W.rds.length=3
 rd: ∀(i:Nat) (r:Ti),W.rds[i]?=some r-> ∃k,VS g t ls z ns i r k
 nts: ∀n∈ns,0<=n.rd/\n.rd<3
end
section
variable {g:Tt.Grd} {t:Tt.Trm} {ls:List (List Az)} {z:ByteArray}
theorem LZ(h:Bk g t ls)(hz:Tt.code z.data.toList=true){k:Nat}(hk:k<=ls.length):(TL g t ls z k).length<=262144:=Sv (n:=⟨#[120]⟩) (h.valid hk) hz (h.small k)
theorem Dk(h:Bk g t ls)(hz:Tt.code z.data.toList=true){k:Nat}(hk:k<=ls.length):Al (TX g t ls z k) z=((⟨#[120]⟩,(k:Int),AX g t ls k),0):=Hv (n:=⟨#[120]⟩) (h.valid hk) hz (LZ h hz hk)
theorem UE(h:Bk g t ls)(hz:Tt.code z.data.toList=true){k:Nat}(hk:k<=ls.length):TX g t ls z k≠⟨#[]⟩:=fun e=>by
 have w:=Dk h hz hk;rw[e]at w;exact Gv z (by rw[w])
theorem OO(h:Bk g t ls)(hz:Tt.code z.data.toList=true){k:Nat}(hk:k<=ls.length):Bh ⟨#[120]⟩ (k:Int) (AX g t ls k) z=(TL g t ls z k,0):=by
 have A:=LZ h hz hk;have w:BU [120] (k:Int) (AX g t ls k) z.data.toList=TL g t ls z k:=rfl;unfold Bh;rw[if_neg (by simp[h.valid hk]),if_neg (by simp[hz]),show((⟨#[120]⟩:ByteArray).data.toList)=[120]from rfl,w,if_neg (by omega)]
theorem UN(h:Bk g t ls)(hz:Tt.code z.data.toList=true){k i:Nat}(hk:k<=ls.length):(Al (str ((TL g t ls z k).take i)) z).2≠0∨str ((TL g t ls z k).take i)=TX g t ls z k:=by
 by_cases hi:i<(TL g t ls z k).length
 ·obtain⟨c,hc,hp⟩:=N0 (n:=⟨#[120]⟩) (y:=z) (h.valid hk) hz i hi;exact .inl (by rw[show str ((TL g t ls z k).take i)=_ from rfl];unfold TL;rw[hp];exact hc)
 ·exact .inr (by unfold TX;rw[List.take_of_length_le (by omega)])
theorem Vj(k:Nat):1<=GX g t ls z k:=by
 have:=EI (TX g t ls z k).data.toList;unfold GX BH;omega
theorem Si{k j:Nat}(h:GX g t ls z k=GX g t ls z j):k=j:=by
 have w:=EI (TX g t ls z k).data.toList;have A:=EI (TX g t ls z j).data.toList;unfold GX BH at h;omega
theorem At.valid{W:A3}{A:List Bt}(h:Bk g t ls)(hz:Tt.code z.data.toList=true)(a:At g t ls z W A):BF W:=by
 refine⟨by rw[a.zone];exact hz,a.len,by rw[a.rds];decide,by rw[a.rds];decide,?_,fun m hm=>?_,fun r hr=>?_⟩
 ·rcases a.cur with e | ⟨k,hk,e⟩
  ·exact .inl e
  ·exact .inr (by rw[e,a.zone,Dk h hz hk])
 ·obtain⟨D,E,w⟩:=a.way m hm;unfold CM;rw[a.rds];rcases w with w | ⟨w, -⟩
  ·simp[w];omega
  ·simp[w];omega
 ·obtain⟨i,hi⟩:=List.getElem?_of_mem hr;obtain⟨k,hk,hv,he, -⟩:=a.rd i r hi;rw[hv,he];exact h.rd hk
theorem At.start:At g t ls z (MD z 3) []:=by
 refine⟨rfl,.inl rfl,by show 0<=64;decide,fun m hm=>(by cases hm),rfl,fun i r hr=>⟨0,xf _,?_⟩,fun n hn=>by cases hn⟩;have:=List.eq_of_mem_replicate (xj hr);subst this;exact⟨rfl,rfl,.inl rfl,NK g t ls⟩
def K7(g:Tt.Grd)(t:Tt.Trm)(ls:List (List Az))(s:D7):Prop:=1<=s.kind/\s.kind<=7/\(s.kind=1->s.fn=⟨#[120]⟩/\ ∃k,k<=ls.length/\s.fv=(k:Int)/\s.es=AX g t ls k)
end
theorem Ni(l:List UInt8)(n:Int): ∃j,Ir (str l) n=str (l.take j):=by
 have hs:(str l).size=l.length:=size_mk l;refine⟨(min (max n 0) (l.length:Int)).toNat,?_⟩;unfold Ir;rw[hs];apply ByteArray.ext
 simp[str]
section
variable {g:Tt.Grd} {t:Tt.Trm} {ls:List (List Az)} {z:ByteArray} {W:A3} {ns:List Bt}
def Gi(W W':A3):Prop:=∀(i:Nat) (r r':Ti),W.rds[i]?=some r->W'.rds[i]?=some r'->r.v<=r'.v
theorem Gi.same{W W':A3}(h:W'.rds=W.rds):Gi W W':=fun i r r' A w=>by
 rw[h,A]at w;rw[xh w];exact Int.le_refl _
theorem At.move(a:At g t ls z W ns){W':A3}(hz:W'.zone=W.zone)(hc:W'.cur=W.cur)(hr:W'.rds=W.rds)(hl:W'.way.length<=64)(w: ∀m∈W'.way,FN g t ls z m):At g t ls z W' ns:=
 ⟨by rw[hz];exact a.zone,by rw[hc];exact a.cur,hl,w,by rw[hr];exact a.rds,by rw[hr];exact a.rd,a.nts⟩
theorem FN.cut{m:Hl}(h:FN g t ls z m)(n:Int):FN g t ls z { m with body:=Ir m.body n }:=by
 refine⟨h.1,h.2.1,?_⟩;rcases h.2.2 with h | ⟨w,k,hk,i,hb,ht⟩
 ·obtain⟨j,hj⟩:=Ni [] n;left;show Ir m.body n=_
  rw[h,show(⟨#[]⟩:ByteArray)=str []from rfl,hj,List.take_nil]
 ·obtain⟨j,hj⟩:=Ni ((TL g t ls z k).take i) n;right;refine⟨w,k,hk,min j i,?_,ht⟩;show Ir m.body n=_
  rw[hb,hj,List.take_take]
theorem GC{α:Type}{l:List α}{i:Nat}{d:α}(h:i<l.length):l.getD i d∈l:=by
 rw[List.getD_eq_getElem?_getD,xd h];exact List.getElem_mem h
theorem IE{W:A3}{i:Int}(h: ¬Gd W i=false):0<=i/\i.toNat<W.way.length:=by
 unfold Gd at h;simp only[decide_eq_false_iff_not,Decidable.not_not]at h;omega
theorem PX(a:At g t ls z W ns)(h:Bk g t ls)(hz:Tt.code z.data.toList=true){m:Hl}(hm:FN g t ls z m)(ha:m.ans=false):FN g t ls z (Cc W m):=by
 have hb:m.body=⟨#[]⟩:=by
  rcases hm.2.2 with h | ⟨w, -⟩
  ·exact h
  ·rw[ha]at w;cases w
 refine⟨hm.1,hm.2.1,?_⟩;unfold Cc;dsimp only
 by_cases ht:m.tag=J7 W
 ·rw[if_pos ht];exact .inl hb
 ·rw[if_neg ht];rcases a.cur with e | ⟨k,hk,e⟩
  ·exact .inl e
  ·refine .inr ⟨rfl,k,hk,(TL g t ls z k).length,by rw[e,List.take_length];rfl,?_⟩;unfold J7 DM;rw[if_neg (by rw[e];exact UE h hz hk),e,a.zone,Dk h hz hk];rfl
theorem H7(xs ys:List Bt)(i:Nat):CU (xs++ys) i=CU xs i++CU ys i:=by unfold CU;rw[List.filter_append,List.map_append]
theorem Lp(xs:List Nt)(r:Int)(i:Nat)(h:r=(i:Int)):CU (xs.map (Bt.mk r)) i=xs:=by
 unfold CU;rw[List.filter_eq_self.2 (fun n hn=>by obtain⟨x,_,rfl⟩:=List.mem_map.1 hn;simpa using h),List.map_map];exact List.map_id xs
theorem J8(xs:List Nt)(r:Int)(i:Nat)(h:r≠(i:Int)):CU (xs.map (Bt.mk r)) i=[]:=by
 unfold CU;rw[List.filter_eq_nil_iff.2 (fun n hn=>by obtain⟨x,_,rfl⟩:=List.mem_map.1 hn;simpa using h)];rfl
theorem Qm(es:List Ev)(e:Ev):(BO es e).length<=1:=by
 have hn: ∀c,(Bo c e []).length<=1:=fun c=>by unfold Bo;split<;>simp
 unfold BO;split
 ·exact hn _
 ·split
  ·exact hn _
  ·simp
theorem KC(es:List Ev): ∀fs:List Ev,(fs.flatMap (BO es)).length<=fs.length
 | []=>xe _
 | e::r=>by
  have w:=Qm es e;have A:=KC es r;rw[xb,xa,xc];omega
theorem At.del(a:At g t ls z W ns)(h:Bk g t ls)(hz:Tt.code z.data.toList=true){m:Hl}(hm:FN g t ls z m):At g t ls z (Cz W m).1 (ns++(Cz W m).2)/\Gi W (Cz W m).1/\(Cz W m).2.length<=48/\(Cz W m).1.way=W.way/\ ∀k,k<=ls.length->m.body=TX g t ls z k->m.tag=GX g t ls z k-> ∀r,(Cz W m).1.rds[m.rd.toNat]?=some r-> ∃j,VS g t ls z (ns++(Cz W m).2) m.rd.toNat r j/\k<=j:=by
 by_cases hp:(Al m.body W.zone).2≠0∨ ¬BH m.body (Al m.body W.zone).1.2.1=m.tag
 ·rw[IF hp];rw[a.zone]at hp;refine⟨by rw[xn];exact a,Gi.same rfl,by simp,rfl,fun k hk hb ht=>?_⟩;rw[hb,Dk h hz hk]at hp;rcases hp with hp | hp
  ·exact absurd rfl hp
  ·exact absurd ht.symm hp
 ·have hb: ∃k,k<=ls.length/\m.body=TX g t ls z k/\m.tag=GX g t ls z k:=by
   rcases hm.2.2 with hb | ⟨_,k,hk,i,hb,ht⟩
   ·exact absurd (.inl (by rw[hb];exact Gv _)) hp
   ·rcases UN (i:=i) h hz hk with hc | hc
    ·exact absurd (.inl (by rw[a.zone,hb];exact hc)) hp
    ·exact⟨k,hk,hb.trans hc,ht⟩
  obtain⟨k,hk,hb,ht⟩:=hb;obtain⟨i,hi⟩: ∃i:Nat,i=m.rd.toNat:=⟨_,rfl⟩
  have O:m.rd=(i:Int):=by have:=hm.1;omega
  have A:i<W.rds.length:=by rw[a.rds];have:=hm.2.1;omega
  obtain⟨o,ho⟩: ∃o,W.rds[i]?=some o:=⟨_,xd A⟩
  obtain⟨D,J,U,V,ot,oT⟩:=a.rd i o ho;have X:=h.len;have G:=Qt (tag:=o.tag) J hk (by omega) (by have:=h.small D;omega) (by have:=h.small k;omega) (h.valid hk);rw[<-U,<-V]at G;have hP:(Al m.body W.zone).1=(⟨#[120]⟩,(k:Int),AX g t ls k):=by rw[hb,a.zone,Dk h hz hk]
  have hd:=K0 hp (by rw[<-hi];exact ho) hP G;rw[if_neg (by decide)]at hd;rw[hd];obtain⟨N,M⟩: ∃N,N=if D<k then(AX g t ls k).flatMap (BO (AX g t ls D))else[]:=⟨_,rfl⟩
  rw[V];rw[<-M];have T:=Rc oT hk;rw[<-M]at T;have E:VS g t ls z (ns++N.map (Bt.mk m.rd)) i ⟨((max D k:Nat):Int),if o.v<=(k:Int)then m.tag else o.tag,AX g t ls (max D k)⟩ (max D k):=by
   refine⟨by omega,rfl,rfl,?_,by rw[H7,Lp _ _ _ O];exact T⟩;dsimp only
   by_cases hle:o.v<=(k:Int)
   ·rw[if_pos hle,ht,Nat.max_eq_right (by omega)];exact .inr rfl
   ·rw[if_neg hle,Nat.max_eq_left (by omega)];exact ot
  refine⟨⟨a.zone,a.cur,a.len,a.way,by show(W.rds.set _ _).length=3;rw[List.length_set];exact a.rds,fun j r hr=>?_,fun n hn=>by
   rcases xm.1 hn with hn | hn
   ·exact a.nts n hn
   ·obtain⟨x,_,rfl⟩:=List.mem_map.1 hn;exact⟨hm.1,hm.2.1⟩⟩,fun j r r' R F=>?_,?_,rfl,fun k' aa Z H r hr=>?_⟩
  ·have hr:(W.rds.set m.rd.toNat _)[j]?=some r:=hr;rw[<-hi]at hr;by_cases w:j=i
   ·subst w;rw[List.getElem?_set_self A]at hr;rw[<-xh hr];exact⟨_,E⟩
   ·rw[List.getElem?_set_ne (fun h=>w h.symm)]at hr;obtain⟨kj,q1,q2,q3,Y,q5⟩:=a.rd j r hr;exact⟨kj,q1,q2,q3,Y,by rw[H7,J8 _ _ _ (by omega),xn];exact q5⟩
  ·have F:(W.rds.set m.rd.toNat _)[j]?=some r':=F;rw[<-hi]at F;by_cases w:j=i
   ·subst w;rw[List.getElem?_set_self A]at F;rw[ho]at R;rw[<-xh F,<-xh R,U];show(D:Int)<=((max D k:Nat):Int)
    omega
   ·rw[List.getElem?_set_ne (fun h=>w h.symm),R]at F;rw[xh F];exact Int.le_refl _
  ·show(N.map (Bt.mk m.rd)).length<=48
   rw[xq,M];have:=h.small k;split
   ·exact Nat.le_trans (KC _ _) this
   ·exact xf _
  ·have hr:(W.rds.set m.rd.toNat _)[m.rd.toNat]?=some r:=hr;rw[<-hi,List.getElem?_set_self A]at hr;rw[<-hi,<-xh hr];have:k'=k:=Si (H.symm.trans ht);exact⟨_,E,by omega⟩
theorem OQ(a:At g t ls z W ns){m:Hl}(hm:FN g t ls z m)(w:(C6 W m).2=0):At g t ls z (C6 W m).1 ns/\Gi W (C6 W m).1:=by
 unfold C6 at w ⊢;by_cases hl:W.way.length=64
 ·rw[if_pos hl]at w;cases w
 ·rw[if_neg hl];have:=a.len;refine⟨a.move rfl rfl rfl (by simp;omega) (fun x hx=>?_),Gi.same rfl⟩;rcases xm.1 hx with hx | hx
  ·exact a.way x hx
  ·rw[xo.1 hx];exact hm
theorem At.step(a:At g t ls z W ns)(h:Bk g t ls)(hz:Tt.code z.data.toList=true){s:D7}(hs:K7 g t ls s)(E:(Ds W s).2=0):At g t ls z (Ds W s).1.1 (ns++(Ds W s).1.2)/\Gi W (Ds W s).1.1/\(Ds W s).1.2.length<=48:=by
 have V:=a.valid h hz;obtain⟨s1,Z,sp⟩:=hs;have hd:Ds W s=if(Cn W s).2≠0 then((Lb,[]),(Cn W s).2)else Cn W s:=by
  unfold Ds;rw[if_neg (by rw[(CN W).2 V];decide),if_neg (by omega)]
 have w:(Cn W s).2=0:=by
  rw[hd]at E;by_cases hm:(Cn W s).2=0
  ·exact hm
  ·rw[if_pos hm]at E;exact absurd E hm
 rw[hd,if_neg (by rw[w];decide)];have A: ∀X:A3 × Int,At g t ls z X.1 ns/\Gi W X.1->At g t ls z (((X.1,([]:List Bt)),X.2):(A3 × List Bt) × Int).1.1 (ns++(((X.1,([]:List Bt)),X.2):(A3 × List Bt) × Int).1.2)/\Gi W (((X.1,([]:List Bt)),X.2):(A3 × List Bt) × Int).1.1/\((((X.1,([]:List Bt)),X.2):(A3 × List Bt) × Int).1.2).length<=48:=fun X H=>⟨by rw[xn];exact H.1,H.2,by simp⟩
 unfold Cn at w ⊢;by_cases k1:s.kind=1
 ·rw[if_pos k1]at w ⊢;refine A _ ?_;obtain⟨T,k,hk,U,f3⟩:=sp k1;have w:(DP W s).2=0:=w;unfold DP at w ⊢;rw[T,U,f3,a.zone,OO h hz hk,if_neg (fun e=>e rfl)]at w ⊢;have M:At g t ls z ⟨z,str (TL g t ls z k),W.way,W.rds⟩ ns/\Gi W ⟨z,str (TL g t ls z k),W.way,W.rds⟩:=⟨⟨rfl,.inr ⟨k,hk,rfl⟩,a.len,a.way,a.rds,a.rd,a.nts⟩,Gi.same rfl⟩
  split
  ·exact M
  ·rename_i hc
   rw[if_neg hc]at w;split
   ·rename_i hb
    rw[if_pos hb]at w;cases w
   ·exact M
 rw[if_neg k1]at w ⊢;by_cases k2:s.kind=2
 ·rw[if_pos k2]at w ⊢;refine A _ ?_;have w:(GM W s).2=0:=w;unfold GM at w ⊢;by_cases hb:s.pos<0∨(W.rds.length:Int)<=s.pos
  ·rw[if_pos hb]at w;cases w
  ·rw[if_neg hb]at w ⊢;refine OQ a ⟨by show 0<=s.pos;omega,by show s.pos<3;have:=a.rds;omega,.inl rfl⟩ w
 rw[if_neg k2]at w ⊢;by_cases J:s.kind=3
 ·rw[if_pos J]at w ⊢;refine A _ ?_;have w:(Cb W s).2=0:=w;unfold Cb at w ⊢;by_cases hb:Gd W s.pos=false
  ·rw[if_pos hb]at w;cases w
  rw[if_neg hb]at w ⊢;by_cases ha:(W.way.getD s.pos.toNat ⟨0,false,0,⟨#[]⟩⟩).ans=true
  ·rw[if_pos ha]at w;cases w
  rw[if_neg ha];have D:=IE hb;refine⟨a.move rfl rfl rfl (by simp;exact a.len) (fun x hx=>?_),Gi.same rfl⟩;rcases List.mem_or_eq_of_mem_set hx with hx | hx
  ·exact a.way x hx
  ·rw[hx];exact PX a h hz (a.way _ (GC D.2)) (by simpa using ha)
 rw[if_neg J]at w ⊢;by_cases G:s.kind=4
 ·rw[if_pos G]at w ⊢;unfold JF at w ⊢;by_cases hb:Gd W s.pos=false
  ·rw[if_pos hb]at w;cases w
  rw[if_neg hb]at w ⊢;by_cases ha:(W.way.getD s.pos.toNat ⟨0,false,0,⟨#[]⟩⟩).ans=false
  ·rw[if_pos ha]at w;cases w
  rw[if_neg ha];have D:=IE hb;have Y:At g t ls z { W with way:=W.way.eraseIdx s.pos.toNat } ns:=a.move rfl rfl rfl (by have:=a.len;have:=List.length_eraseIdx_le W.way s.pos.toNat;show(W.way.eraseIdx _).length<=64;omega) (fun x hx=>a.way x (List.mem_of_mem_eraseIdx hx));have F:=Y.del h hz (a.way _ (GC (d:=⟨0,false,0,⟨#[]⟩⟩) D.2));rw[xp];exact⟨F.1,F.2.1,F.2.2.1⟩
 rw[if_neg G]at w ⊢;by_cases R:s.kind=5
 ·rw[if_pos R]at w ⊢;refine A _ ?_;have w:(DW W s).2=0:=w;unfold DW at w ⊢;by_cases hb:Gd W s.pos=false
  ·rw[if_pos hb]at w;cases w
  rw[if_neg hb];exact⟨a.move rfl rfl rfl (by have:=a.len;have:=List.length_eraseIdx_le W.way s.pos.toNat;show(W.way.eraseIdx _).length<=64;omega) (fun x hx=>a.way x (List.mem_of_mem_eraseIdx hx)),Gi.same rfl⟩
 rw[if_neg R]at w ⊢;by_cases O:s.kind=6
 ·rw[if_pos O]at w ⊢;refine A _ ?_;have w:(Lm W s).2=0:=w;unfold Lm at w ⊢;by_cases hb:Gd W s.pos=false
  ·rw[if_pos hb]at w;cases w
  rw[if_neg hb]at w ⊢;exact OQ a (a.way _ (GC (IE hb).2)) w
 rw[if_neg O]at w ⊢;refine A _ ?_;have w:(Kf W s).2=0:=w;unfold Kf at w ⊢;by_cases hb:Gd W s.pos=false
 ·rw[if_pos hb]at w;cases w
 rw[if_neg hb]at w ⊢;by_cases ha:(W.way.getD s.pos.toNat ⟨0,false,0,⟨#[]⟩⟩).ans=false
 ·rw[if_pos ha]at w;cases w
 rw[if_neg ha];have D:=IE hb;refine⟨a.move rfl rfl rfl (by simp;exact a.len) (fun x hx=>?_),Gi.same rfl⟩;rcases List.mem_or_eq_of_mem_set hx with hx | hx
 ·exact a.way x hx
 ·rw[hx];exact(a.way _ (GC D.2)).cut _
end
def B6(k p:Int):D7:=⟨k,p,0,⟨#[]⟩,0,[]⟩
section
variable {g:Tt.Grd} {t:Tt.Trm} {ls:List (List Az)} {z:ByteArray} {W:A3} {ns:List Bt}
theorem Ul(a:At g t ls z W ns)(h:Bk g t ls)(hz:Tt.code z.data.toList=true)(hl:0<W.way.length):Ds W (B6 5 0)=(({ W with way:=W.way.eraseIdx 0 },[]),0)/\At g t ls z { W with way:=W.way.eraseIdx 0 } ns/\(W.way.eraseIdx 0).length=W.way.length - 1:=by
 have hv:DW W (B6 5 0)=({ W with way:=W.way.eraseIdx 0 },0):=by
  unfold DW Gd;have hb:decide (0<=(B6 5 0).pos/\(B6 5 0).pos<(W.way.length:Int))=true:=decide_eq_true ⟨Int.le_refl _,by show(0:Int)<_;omega⟩;rw[hb,if_neg (by decide)];rfl
 have hd:Ds W (B6 5 0)=(({ W with way:=W.way.eraseIdx 0 },[]),0):=by
  refine El (a.valid h hz) (by show(1:Int)<=5;decide) (by show(5:Int)<=7;decide) ?_ rfl;show(((DW W (B6 5 0)).1,[]),(DW W (B6 5 0)).2)=_
  rw[hv]
 have hs:=a.step h hz (s:=B6 5 0) ⟨by show(1:Int)<=5;decide,by show(5:Int)<=7;decide,fun e=>by cases e⟩ (by rw[hd]);rw[hd]at hs;exact⟨hd,by simpa using hs.1,by rw[List.length_eraseIdx,if_pos hl]⟩
def fin(g:Tt.Grd)(t:Tt.Trm)(ls:List (List Az))(r k:Nat):List D7:=[DF ⟨#[120]⟩ (ls.length:Int) (AX g t ls ls.length),B6 2 r,B6 3 k,B6 4 k]
theorem MU{α:Type}(l:List α)(x d:α):(l++[x]).getD l.length d=x:=by
 rw[List.getD_eq_getElem?_getD,List.getElem?_append_right (xe _),Nat.sub_self];rfl
theorem Ty{α:Type}(l:List α)(x y:α):(l++[x]).set l.length y=l++[y]:=by
 rw[List.set_append_right _ _ (xe _),Nat.sub_self];rfl
theorem QK{α:Type}(l:List α)(x:α):(l++[x]).eraseIdx l.length=l:=by
 rw[List.eraseIdx_append_of_length_le (xe _),Nat.sub_self];simp
theorem Ui(a:At g t ls z W ns)(h:Bk g t ls)(hz:Tt.code z.data.toList=true)(hl:W.way.length<=60){r:Nat}(hr:r<3):
  (A6 W (fin g t ls r W.way.length)).2=[0,0,0,0]/\At g t ls z (A6 W (fin g t ls r W.way.length)).1.1 (ns++(A6 W (fin g t ls r W.way.length)).1.2)/\(A6 W (fin g t ls r W.way.length)).1.2.length<=48/\(∃o,(A6 W (fin g t ls r W.way.length)).1.1.rds[r]?=some o/\o.v=(ls.length:Int)/\o.es=AX g t ls ls.length)/\
  (∀i,i<=4->BF (A6 W ((fin g t ls r W.way.length).take i)).1.1/\(A6 W ((fin g t ls r W.way.length).take i)).1.2.length<=48)/\ ∀i s,(fin g t ls r W.way.length)[i]?=some s->(Ds (A6 W ((fin g t ls r W.way.length).take i)).1.1 s).1.2.length<=48:=by
 obtain⟨L,hL⟩: ∃L,L=ls.length:=⟨_,rfl⟩
 obtain⟨k,hk⟩: ∃k,k=W.way.length:=⟨_,rfl⟩
 obtain⟨w,e1⟩: ∃s,s=DF ⟨#[120]⟩ (ls.length:Int) (AX g t ls ls.length):=⟨_,rfl⟩
 obtain⟨o,ho⟩: ∃o,W.rds[r]?=some o:=⟨_,xd (by rw[a.rds];exact hr)⟩
 obtain⟨k0,q1,q2,q3,q4,q5⟩:=a.rd r o ho;obtain⟨A,D⟩: ∃X:A3,X=⟨z,TX g t ls z ls.length,W.way,W.rds⟩:=⟨_,rfl⟩
 have M:K7 g t ls w:=by rw[e1];exact⟨by show(1:Int)<=1;decide,by show(1:Int)<=7;decide,fun _=>⟨rfl,ls.length,xe _,rfl,rfl⟩⟩
 have aa: ∀c p:Int,2<=c->c<=7->K7 g t ls (B6 c p):=fun c p h1 h2=>⟨by show 1<=c;omega,h2,fun e=>by have e:c=1:=e;omega⟩
 have d1:Ds W w=((A,[]),0):=by
  have hp:DP W w=(A,0):=by
   unfold DP;have f1:w.fn=⟨#[120]⟩:=by rw[e1];rfl
   have f2:w.fv=(ls.length:Int):=by rw[e1];rfl
   have f3:w.es=AX g t ls ls.length:=by rw[e1];rfl
   rw[f1,f2,f3,a.zone,OO h hz (xe _),if_neg (fun e=>e rfl)];have hX:str (TL g t ls z ls.length)=TX g t ls z ls.length:=rfl;split
   ·rw[D];rw[hX]
   ·rename_i hc
    have ab: ¬((ls.length:Int)<DM W∨(ls.length:Int)=DM W/\ ¬str (TL g t ls z ls.length)=W.cur):=by
     rcases a.cur with e | ⟨j,hj,e⟩
     ·exact absurd e hc
     ·have ag:DM W=(j:Int):=by unfold DM;rw[e,a.zone,Dk h hz hj]
      rw[ag];rintro(hb | ⟨hb,hn⟩)
      ·omega
      ·have:ls.length=j:=by omega
       exact hn (by rw[e,<-this];rfl)
    rw[if_neg ab,D];rfl
  refine El (a.valid h hz) M.1 M.2.1 ?_ rfl;rw[UJ (by rw[e1];rfl),hp]
 have a1:At g t ls z A ns:=by
  have:=(a.step h hz M (by rw[d1])).1;rw[d1]at this;simpa using this
 obtain⟨E,F⟩: ∃X:A3,X=⟨z,TX g t ls z ls.length,W.way++[⟨(r:Int),false,o.tag,⟨#[]⟩⟩],W.rds⟩:=⟨_,rfl⟩
 have d2:Ds A (B6 2 r)=((E,[]),0):=by
  have hp:GM A (B6 2 r)=(E,0):=by
   unfold GM;rw[if_neg (by rw[a1.rds];show ¬((r:Int)<0∨((3:Nat):Int)<=(r:Int));omega)];have hg:(A.rds.getD (B6 2 r).pos.toNat ⟨0,0,[]⟩).tag=o.tag:=by
    rw[show(B6 2 r).pos.toNat=r from rfl,D];show(W.rds.getD r ⟨0,0,[]⟩).tag=_
    rw[List.getD_eq_getElem?_getD,ho];rfl
   rw[hg];unfold C6;rw[if_neg (by rw[D];show ¬W.way.length=64;omega),D,F];rfl
  refine El (a1.valid h hz) (by show(1:Int)<=2;decide) (by show(2:Int)<=7;decide) ?_ rfl;show(((GM A (B6 2 r)).1,[]),(GM A (B6 2 r)).2)=_
  rw[hp]
 have a2:At g t ls z E ns:=by
  have:=(a1.step h hz (aa 2 r (by decide) (by decide)) (by rw[d2])).1;rw[d2]at this;simpa using this
 obtain⟨m,V⟩: ∃m:Hl,m=⟨(r:Int),true,GX g t ls z ls.length,if o.tag=GX g t ls z ls.length then⟨#[]⟩else TX g t ls z ls.length⟩:=⟨_,rfl⟩
 obtain⟨G,U⟩: ∃X:A3,X=⟨z,TX g t ls z ls.length,W.way++[m],W.rds⟩:=⟨_,rfl⟩
 have O:E.way=W.way++[⟨(r:Int),false,o.tag,⟨#[]⟩⟩]:=by rw[F]
 have R:G.way=W.way++[m]:=by rw[U]
 have d3:Ds E (B6 3 k)=((G,[]),0):=by
  have ai:E.way.getD (B6 3 k).pos.toNat ⟨0,false,0,⟨#[]⟩⟩=⟨(r:Int),false,o.tag,⟨#[]⟩⟩:=by
   rw[show(B6 3 k).pos.toNat=k from rfl,O,hk,MU]
  have hp:Cb E (B6 3 k)=(G,0):=by
   unfold Cb;rw[if_neg (by unfold Gd;rw[O,xa];show ¬decide (0<=(k:Int)/\(k:Int)<((W.way.length+1:Nat):Int))=false;simp;omega),ai,if_neg (fun e=>by cases e)];have hn:J7 E=GX g t ls z ls.length:=by
    unfold J7 DM;rw[F];show(if TX g t ls z ls.length=⟨#[]⟩then 0 else BH (TX g t ls z ls.length) (Al (TX g t ls z ls.length) z).1.2.1)=_
    rw[if_neg (UE h hz (xe _)),Dk h hz (xe _)];rfl
   have hm:Cc E ⟨(r:Int),false,o.tag,⟨#[]⟩⟩=m:=by
    unfold Cc;rw[hn,V,F]
   rw[hm,show(B6 3 k).pos.toNat=k from rfl,O,hk,Ty,F,U]
  refine El (a2.valid h hz) (by show(1:Int)<=3;decide) (by show(3:Int)<=7;decide) ?_ rfl;show(((Cb E (B6 3 k)).1,[]),(Cb E (B6 3 k)).2)=_
  rw[hp]
 have a3:At g t ls z G ns:=by
  have:=(a2.step h hz (aa 3 k (by decide) (by decide)) (by rw[d3])).1;rw[d3]at this;simpa using this
 have ac:JF G [] (B6 4 k)=(Cz A m,0):=by
  unfold JF;rw[if_neg (by unfold Gd;rw[R,xa];show ¬decide (0<=(k:Int)/\(k:Int)<((W.way.length+1:Nat):Int))=false;simp;omega),show(B6 4 k).pos.toNat=k from rfl,R,hk,MU,QK,if_neg (by rw[V];exact fun e=>by cases e)];have:({ G with way:=W.way }:A3)=A:=by rw[U,D]
  rw[this,xp]
 have d4:Ds G (B6 4 k)=(Cz A m,0):=by
  refine El (a3.valid h hz) (by show(1:Int)<=4;decide) (by show(4:Int)<=7;decide) ?_ rfl;rw[UI rfl,ac]
 have af:FN g t ls z m:=a3.way m (by rw[R];simp);have T:=a1.del h hz af;have hR: ∃H,(Cz A m).1.rds[r]?=some H/\H.v=(ls.length:Int)/\H.es=AX g t ls ls.length:=by
  by_cases ht:o.tag=GX g t ls z ls.length
  ·have Y:k0=ls.length:=by
    rcases q4 with q4 | q4
    ·have:=Vj (g:=g) (t:=t) (ls:=ls) (z:=z) ls.length;omega
    ·exact Si (q4.symm.trans ht)
   rw[IF (.inl (by rw[V,if_pos ht];exact Gv _)),D];exact⟨o,ho,by rw[q2,Y],by rw[q3,Y]⟩
  ·have hb:m.body=TX g t ls z ls.length:=by rw[V,if_neg ht]
   have ah:m.rd.toNat=r:=by rw[V];rfl
   have J:=T.1.rds;obtain⟨H,Z⟩: ∃H,(Cz A m).1.rds[r]?=some H:=⟨_,xd (by rw[J];exact hr)⟩
   obtain⟨j,hj,aj⟩:=T.2.2.2.2 ls.length (xe _) hb (by rw[V]) H (by rw[ah];exact Z);have:j=ls.length:=by have:=hj.1;omega
   subst this;exact⟨H,Z,hj.2.1,hj.2.2.1⟩
 have r0:A6 W []=((W,[]),[]):=rfl;have r1:A6 W [w]=((A,[]),[0]):=by rw[show[w]=[]++[w]from rfl,Bw,r0,Ck d1 rfl];rfl
 have r2:A6 W [w,B6 2 r]=((E,[]),[0,0]):=by rw[show[w,B6 2 r]=[w]++[B6 2 r]from rfl,Bw,r1,Ck d2 rfl];rfl
 have r3:A6 W [w,B6 2 r,B6 3 k]=((G,[]),[0,0,0]):=by rw[show[w,B6 2 r,B6 3 k]=[w,B6 2 r]++[B6 3 k]from rfl,Bw,r2,Ck d3 rfl];rfl
 have r4:A6 W [w,B6 2 r,B6 3 k,B6 4 k]=(((Cz A m).1,(Cz A m).2),[0,0,0,0]):=by rw[show[w,B6 2 r,B6 3 k,B6 4 k]=[w,B6 2 r,B6 3 k]++[B6 4 k]from rfl,Bw,r3,Ck d4 rfl];rfl
 have ae:fin g t ls r W.way.length=[w,B6 2 r,B6 3 k,B6 4 k]:=by rw[e1,hk];rfl
 rw[ae,r4];refine⟨rfl,T.1,T.2.2.1,hR,fun i hi=>?_,fun i s hs=>?_⟩
 ·obtain rfl | rfl | rfl | rfl | rfl:i=0∨i=1∨i=2∨i=3∨i=4:=by omega
  ·exact⟨a.valid h hz,xf _⟩
  ·show BF (A6 W [w]).1.1/\(A6 W [w]).1.2.length<=48
   rw[r1];exact⟨a1.valid h hz,xf _⟩
  ·show BF (A6 W [w,B6 2 r]).1.1/\(A6 W [w,B6 2 r]).1.2.length<=48
   rw[r2];exact⟨a2.valid h hz,xf _⟩
  ·show BF (A6 W [w,B6 2 r,B6 3 k]).1.1/\(A6 W [w,B6 2 r,B6 3 k]).1.2.length<=48
   rw[r3];exact⟨a3.valid h hz,xf _⟩
  ·show BF (A6 W [w,B6 2 r,B6 3 k,B6 4 k]).1.1/\(A6 W [w,B6 2 r,B6 3 k,B6 4 k]).1.2.length<=48
   rw[r4];exact⟨T.1.valid h hz,T.2.2.1⟩
 ·have hi:i<4:=(xi.1 hs).1;obtain rfl | rfl | rfl | rfl:i=0∨i=1∨i=2∨i=3:=by omega
  ·cases hs;show(Ds W w).1.2.length<=48
   rw[d1];exact xf _
  ·cases hs;show(Ds (A6 W [w]).1.1 (B6 2 r)).1.2.length<=48
   rw[r1,d2];exact xf _
  ·cases hs;show(Ds (A6 W [w,B6 2 r]).1.1 (B6 3 k)).1.2.length<=48
   rw[r2,d3];exact xf _
  ·cases hs;show(Ds (A6 W [w,B6 2 r,B6 3 k]).1.1 (B6 4 k)).1.2.length<=48
   rw[r3,d4];exact T.2.2.1
theorem At.once(a:At g t ls z W ns){i j:Nat}{x y:Bt}(F:j<i)(hx:ns[i]?=some x)(hy:ns[j]?=some y)(hr:x.rd=y.rd)(hu:x.nt.uid=y.nt.uid):y.nt.seq<x.nt.seq:=by
 have G:=a.nts x (xj hx);obtain⟨q,hq⟩: ∃q:Nat,x.rd=(q:Int):=⟨x.rd.toNat,by omega⟩
 obtain⟨o,ho⟩: ∃o,W.rds[q]?=some o:=⟨_,xd (by rw[a.rds];omega)⟩
 obtain⟨k, -, -, -, -,H⟩:=a.rd q o ho;have hp:=H.once;unfold CU at hp;rw[List.pairwise_map,List.pairwise_filter]at hp;rw[List.pairwise_iff_getElem]at hp;obtain⟨E,w⟩:=xi.1 hx;obtain⟨D,A⟩:=xi.1 hy;have:=hp j i D E F;rw[w,A]at this;exact this (by simp[<-hr,hq]) (by simp[hq]) hu.symm
end
structure GO (lo:Nat) (w5 wr:World) (P:Nat) (W:A3) (ns:List Bt) (vw vr vn:Value) (xs:List BZ):Prop where
 own:Own lo wr W ns vw vr vn xs
 nts:Rw BM 4 56 w5.heap.size wr vn ns
 box:Af P (Fw W vw vr) 32 wr
 but:AO P w5.heap.size w5 wr
theorem GO.made{lo P:Nat}{w wr w':World}{W:A3}{E:List Bt}{vw A D:Value}{xs:List BZ}(h:GO lo w wr P W E vw A D xs)(hb:Below wr.heap.size wr w'):GO lo w w' P W E vw A D xs:=
 ⟨h.own.made hb,h.nts.made hb,h.box.below hb h.box.lt,Ba h.but (AO.of_below hb) h.but.size⟩
theorem GO.take{lo P:Nat}{E wr:World}{W:A3}{G:List Bt}{vw M F:Value}{xs:List BZ}(h:GO lo E wr P W G vw M F xs){D:A3}{H:List Bt}{w A J:Value}{ys:List BZ}(ho:Own lo wr D H w A J ys):
  GO lo E ((((wr.setCell ⟨P,0,none⟩ (jc D.zone)).setCell ⟨P,1,none⟩ (jc D.cur)).setCell ⟨P,2,none⟩ w).setCell ⟨P,3,none⟩ A) P D G w A F ys:=by
 have B:=h.box;unfold Fw at B;have k:AB 32 wr ((((wr.setCell ⟨P,0,none⟩ (jc D.zone)).setCell ⟨P,1,none⟩ (jc D.cur)).setCell ⟨P,2,none⟩ w).setCell ⟨P,3,none⟩ A):=
  (((AB.set B).trans (AB.set (B.set 0 _))).trans (AB.set ((B.set 0 _).set 1 _))).trans (AB.set (((B.set 0 _).set 1 _).set 2 _))
 refine⟨⟨AG ho.way k (by decide),AG ho.rds k (by decide),AG h.own.nts k (by decide),fun x hx=>(ho.evs x hx).keptT k (by decide) (by decide),ho.rmap⟩,AG h.nts k (by decide),(((B.set 0 (jc D.zone)).set 1 (jc D.cur)).set 2 w).set 3 A,?_⟩;have hs: ∀(x:World) (i:Nat) (u:Value),AO P E.heap.size E x->AO P E.heap.size E (x.setCell ⟨P,i,none⟩ u):=fun x i u hx=>hx.trans (B7.but (AN x P i u))
 exact hs _ _ _ (hs _ _ _ (hs _ _ _ (hs _ _ _ h.but)))
theorem GO.kept{lo P:Nat}{w wr:World}{W:A3}{F:List Bt}{vw D E:Value}{xs:List BZ}{cs:Array Value}(h:GO lo w wr P W F vw D E xs)(A:Af P cs 32 w):AB 32 w wr:=AB.but A h.but
theorem Own.butb{lo b:Nat}{w w':World}{W:A3}{E:List Bt}{vw A D:Value}{xs:List BZ}(h:Own lo w W E vw A D xs)(hb:b<lo)(ho:AO b w.heap.size w w'):Own lo w' W E vw A D xs:=
 ⟨Am h.way hb ho,Am h.rds hb ho,Am h.nts hb ho,fun x hx=>(h.evs x hx).butT hb ho,h.rmap⟩
theorem UU{lo:Nat}{w:World}{v:Value}{F:ByteArray}{g:Tt.Grd}{t:Tt.Trm}{ls:List (List Az)}{fs:List Fd}(h:Dr lo w v F g t ls fs)(hl:fs.length=ls.length+1){x:Fu}(hx:JU fs x):K7 g t ls x.s:=by
 obtain⟨H,G,A⟩:=hx;refine⟨H,G,fun hk=>?_⟩;rcases A with⟨-,hn,f,hf,hv, -,he⟩ | ⟨hne, -⟩
 ·obtain⟨j,hj⟩:=List.getElem?_of_mem hf;obtain⟨J,E⟩:=h.ver j f hj;have D:=(xi.1 hj).1;exact⟨hn,j,by omega,by rw[hv,J],by rw[he,E]⟩
 ·exact absurd hk hne
theorem Tw{w:World}{fs:List Fd}{lo:Nat}(h: ∀f∈fs,Av lo w f.2.1 f.2.2){x:Fu}(hx:JU fs x):GQ w.heap.size w x.af x.s.es:=by
 obtain⟨-, -,D⟩:=hx;rcases D with⟨-, -,f,hf, -,hv,he⟩ | ⟨-,he, -⟩
 ·have A:=h f hf;rw[hv,show x.s.es.length=f.2.2.length from by rw[he,xq]]at A;rw[he];exact(Av.sgE A).evs
 ·rw[he];exact .inl rfl
theorem Tv{g:Tt.Grd}{t:Tt.Trm}{ls:List (List Az)}(h:Bk g t ls){x:Fu}{fs:List Fd}(hx:JU fs x)(hs:K7 g t ls x.s):x.s.es.length<=48:=by
 rcases hx.2.2 with⟨hk, -⟩ | ⟨-,he, -⟩
 ·obtain⟨-,k, -, -,he⟩:=hs.2.2 hk;rw[he];exact h.small k
 ·rw[he];exact xf _
