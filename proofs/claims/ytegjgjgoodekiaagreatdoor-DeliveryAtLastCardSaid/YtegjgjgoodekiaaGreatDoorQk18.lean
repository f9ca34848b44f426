/- feed.Parse (function 50) on any text: no feed, or a valid feed whose lines these are. The reference's Parse (function 53) on any text: exact. Both parsers of feeds, the program's and the reference's, answer alike on any text. Notices in a row of one's own; events that lie still or in a row of one's own; what a reference to an event finds. No function of the program in sight. Condition: none. subscriber.twin: its contract: the same event, its lists in new memory. -/
import Derived.Test.YtegjgjgoodekiaaGreatDoorQk15
import Derived.Test.YtegjgjgoodekiaaGreatDoorPrs50
import Derived.Test.YtegjgjgoodekiaaGreatDoorQk13
import Derived.Test.YtegjgjgoodekiaaGreatDoorQk16
import Derived.Test.YtegjgjgoodekiaaGreatDoorPk18
import Derived.Test.YtegjgjgoodekiaaGreatDoorQk7
import Derived.Test.YtegjgjgoodekiaaGreatDoorUnfoldAll
import Derived.Test.YtegjgjgoodekiaaGreatDoorQk8
import Derived.Test.YtegjgjgoodekiaaGreatDoorQk12
import Derived.Test.YtegjgjgoodekiaaGreatDoorQk10
open Go.Value renaming int->ja,string->jc,slice->jd,bool->je,pointer->jf,tuple->jg
open Go.IntKind renaming i64->jb
open Go.Ending renaming returned->jh
open Go.Obj renaming cells->ji
open Nat renaming le_refl->xa,le_trans->xf,lt_of_lt_of_le->xj,le_of_lt->xl
open List renaming length_append->xb,getElem_cons_zero->xc,getElem_toArray->xd,getElem_cons_succ->xe,length_cons->xg,length_map->xi
open Go.World.ownsRow renaming alloc->xh,cells->xk
open Option.some renaming inj->xm
set_option maxRecDepth 100000
set_option maxHeartbeats 40000000
namespace Go.Proofs.YtegjgjgoodekiaaGreatDoor
open Go.RowKit
structure It (p g M:Nat) (x0:ByteArray) (rr:List ByteArray) (z:ByteArray) (l:Bool) (w x:World):Prop where
 ahead:l=false-> ∃o cap,Bl p g o cap (x0::rr) z false x
 after:l=true-> ∃us bd o cap,Left M rr us/\Bl p g o cap us z bd x
 but:AO p w.heap.size w x
section
variable {p g M:Nat} {x0:ByteArray} {rr:List ByteArray} {z:ByteArray} {l:Bool} {w x:World}
theorem It.start(h: ∃o cap,Bl p g o cap (x0::rr) z false w):It p g M x0 rr z false w w.drew:=by
 obtain⟨o,cap,hp⟩:=h;exact⟨fun _=>⟨o,cap,hp.other rfl rfl⟩,fun h=>(by cases h),Nw (AO.refl p _ w)⟩
theorem It.alloc(h:It p g M x0 rr z l w x)(o:Obj)(hg:g<w.heap.size):It p g M x0 rr z l w (x.alloc o):=by
 have A:=xj hg h.but.size;refine⟨fun hl=>?_,fun hl=>?_,Hi h.but h.but.size o⟩
 ·obtain⟨q,cap,hp⟩:=h.ahead hl;exact⟨q,cap,hp.below (Aa x _) A⟩
 ·obtain⟨us,bd,q,cap,D,hp⟩:=h.after hl;exact⟨us,bd,q,cap,D,hp.below (Aa x _) A⟩
theorem It.feed{n:ByteArray}{v:Int}{ev:Value}(h:It p g M x0 rr z l w x)(hf:AF (p+1) n v ev w):AF (p+1) n v ev x:=hf.block (h.but.block (p+1) hf.lt (by omega))
theorem It.ev{m:Int}(h:It p g M x0 rr z l w x)(hu:l=false)(J:Lib.hasPrefix x0.data.toList [66,69,71,73,78,58,86,69,86,69,78,84]=true)(hM: ∀x∈rr,x.size<=M)(O:M<=262144)(hg:g<w.heap.size)(T:3<p)(hL:CD w)(V:Gk w)(hm:w.cell? ⟨0,0,none⟩=some (ja jb m))(hz:z.size<=1000)(hp:p<w.heap.size):
  Calls Tryz.prog 73 #[jf (some ⟨p,0,none⟩)] x fun e x1=> ∃(ev:Ev) (D G:Option Addr) (F E:Nat),e=jh (AW ev (jd D ev.days.ex.length F) (jd G ev.days.xt.length E))/\ND ev/\Ah x.heap.size x1 (jd D ev.days.ex.length F) ev.days.ex/\Ah x.heap.size x1 (jd G ev.days.xt.length E) ev.days.xt/\It p g M x0 rr z true w x1/\AO p x.heap.size x x1:=by
 obtain⟨o,cap,A⟩:=h.ahead hu;have hb:=h.but.below (xa p) (xl hp);refine(QH p g o cap M x0 rr m z x A J hM O (xj hg h.but.size) T (hL.below T hb) (V.below (by omega) hb) ((hb.cell (p:=⟨0,0,none⟩) (by show 0<p;omega)).trans hm) hz).mono ?_;rintro e x1 ⟨ev,D,G,F,E,us,bd,rfl,H,U,X,hl,⟨Y,c2,Z⟩,R⟩;exact⟨ev,D,G,F,E,rfl,H,U,X,⟨fun h=>(by cases h),fun _=>⟨us,bd,Y,c2,hl,Z⟩,Ba h.but R h.but.size⟩,R⟩
end
structure JZ (w0:World) (R p g M:Nat) (xs us:List ByteArray) (z:ByteArray) (bad:Bool) (n:ByteArray) (v:Int) (ev:Value) (w:World):Prop where
 par: ∃o cap,Bl p g o cap us z bad w
 left:Left M xs us
 feed:AF (p+1) n v ev w
 res:AF R ⟨#[]⟩ 0 (jd none 0 0) w
 txt:BW w (some ⟨g,0,none⟩) xs
 below:Below R w0 w
 size:p+2<=w.heap.size
section
variable {w0 w:World} {R p g M:Nat} {xs us:List ByteArray} {z n:ByteArray} {bad:Bool} {v:Int} {ev:Value}
theorem JZ.kept{w':World}{D:List ByteArray}{A:Bool}(h:JZ w0 R p g M xs us z bad n v ev w)(E:R<g)(hg:g<p)(hb:AO p w.heap.size w w')(hp: ∃o cap,Bl p g o cap D z A w')(hl:Left M us D):JZ w0 R p g M xs D z A n v ev w':=by
 have hs:=h.size;exact⟨hp,h.left.trans hl,h.feed.block (hb.block _ h.feed.lt (by omega)),h.res.block (hb.block _ h.res.lt (by omega)),Bm h.txt (hb.block g (by omega) (by omega)),h.below.trans (hb.below (by omega) (by omega)),xf hs hb.size⟩
theorem JZ.take(h:JZ w0 R p g M xs us z bad n v ev w)(D:R<g)(hg:g<p)(E: ∀x∈xs,x.size<=M)(K:ByteArray):
  Calls Tryz.prog 70 #[jf (some ⟨p,0,none⟩),jc K] w fun e w'=> ∃(r:ByteArray) (A:List ByteArray) (c:Bool),e=jh (jc r)/\r.size<=M/\JZ w0 R p g M xs A z c n v ev w':=by
 obtain⟨o,cap,hp⟩:=h.par;refine(L5 p g o cap M us z K bad w hp (h.left.sz E)).mono ?_;rintro e w' ⟨r,A,c,rfl,hr,hl,hc,hq,ho⟩;exact⟨r,A,c,rfl,hr,h.kept D hg ho.but hq hl⟩
theorem JZ.num(h:JZ w0 R p g M xs us z bad n v ev w)(D:R<g)(hg:g<p)(s:ByteArray)(hs:s.size<=281474976710656)(A:Gk w):
  Calls Tryz.prog 71 #[jf (some ⟨p,0,none⟩),jc s] w fun e w'=> ∃(k:Int) (c:Bool),e=jh (ja jb k)/\JZ w0 R p g M xs us z c n v ev w':=by
 obtain⟨o,cap,hp⟩:=h.par;have hz:=h.size;refine(Ga p g o cap us z s bad w hp (by omega) hs A).mono ?_;rintro e w' ⟨k,c,rfl,hc,hq,ho⟩;exact⟨k,c,rfl,h.kept D hg ho ⟨_,_,hq⟩ (Left.refl _ _)⟩
theorem JZ.setf{n':ByteArray}{v':Int}{ev':Value}(h:JZ w0 R p g M xs us z bad n v ev w)(A:R<g)(hg:g<p)(i:Nat)(u:Value)(hf:AF (p+1) n' v' ev' (w.setCell ⟨p+1,i,none⟩ u)):JZ w0 R p g M xs us z bad n' v' ev' (w.setCell ⟨p+1,i,none⟩ u):=by
 obtain⟨o,cap,hp⟩:=h.par;have q: ∀k,k≠p+1->(w.setCell ⟨p+1,i,none⟩ u).heap[k]?=w.heap[k]?:=fun k hk=>Below.heap_setCell _ _ _ _ hk
 exact⟨⟨o,cap,hp.set (by omega) (by omega) i u⟩,h.left,hf,h.res.block (q R (by omega)),Bm h.txt (q g (by omega)),h.below.setCell (show R<=p+1 by omega) _,by simpa[World.setCell]using h.size⟩
theorem JZ.badc(h:JZ w0 R p g M xs us z bad n v ev w):w.cell? ⟨p,2,none⟩=some (je bad):=by
 obtain⟨o,cap,hp⟩:=h.par;exact hp.c2
theorem JZ.see(h:JZ w0 R p g M xs us z bad n v ev w)(K:ByteArray):
  Calls Tryz.prog 72 #[jf (some ⟨p,0,none⟩),jc K] w fun e w'=> ∃(q:ByteArray) (c:Bool),e=jh (jg #[jc q,je c])/\w'=w/\(c=true-> ∃x r,us=x::r/\Lib.hasPrefix x.data.toList K.data.toList=true):=by
 obtain⟨o,cap,hp⟩:=h.par;cases us with
 | nil=>exact(Lk p g o cap z K bad w hp).mono fun e w' hh=>⟨_,_,hh.1,hh.2,fun h=>(by cases h)⟩
 | cons x r=>exact(Dv p g o cap x r z K bad w hp).mono fun e w' hh=>⟨_,_,hh.1,hh.2,fun h=>⟨x,r,rfl,h⟩⟩
end
def Fk(p:Nat)(w:World):Nat:=match w.cell? ⟨p,0,none⟩with
 | some (jd _ k _)=>k
 | _=>0
theorem FH{p g o cap:Nat}{us:List ByteArray}{z:ByteArray}{bad:Bool}{w:World}(h:Bl p g o cap us z bad w):Fk p w=us.length:=by
 unfold Fk;rw[h.c0]
def UC(z:ByteArray)(xs:List ByteArray)(w:World)(x:Ending)(w':World):Prop:=
 (x=jh (jg #[.agg #[jc ⟨#[]⟩,ja jb 0,jd none 0 0],ja jb 15])/\Below w.heap.size w w')∨
 ∃(n:ByteArray) (v:Int) (pu:Option Addr) (cu:Nat) (ts:List (Ev × Value × Value)),x=jh (jg #[.agg #[jc n,ja jb v,jd pu ts.length cu],ja jb 0])/\Aq n v (ts.map (·.1))=0/\(AI n.data.toList v (ts.map (·.1)) z.data.toList).map str=xs/\Av w.heap.size w' (jd pu ts.length cu) ts/\Below w.heap.size w w'
theorem RI(s z:ByteArray)(m:Int)(ls:List (List UInt8))(w:World)(hs:s.size<=262144)(bz:Tt.code z.data.toList=true)(hu:Tt.unf s.data.toList=some ls)(hm:w.cell? ⟨0,0,none⟩=some (ja jb m))(hL:CD w)(hE:Gk w)(cl:Pow w)(h6:6<w.heap.size):
  Calls Tryz.prog 43 #[jc s,jc z] w (UC z (AA (ls.map str)) w):=by
 have HZ:=Lh bz;have hz:z.size<=1000:=xf (CC bz) (by decide);obtain⟨xs,aW⟩: ∃xs,xs=AA (ls.map str):=⟨_,rfl⟩
 obtain⟨M,cn⟩: ∃M,M=s.size:=⟨_,rfl⟩
 have dc:M<=262144:=by omega
 have aj:=Lh (show ∀x∈xs,x.size<=M from by
  intro x hx;rw[aW]at hx;obtain⟨l,hl,rfl⟩:=List.mem_map.1 (List.mem_filter.1 hx).1;rw[show(str l).size=l.length from size_mk _,cn,Lib.size_eq];exact Tt.unf_bound hu l hl)
 have df:=Lh (show AA (ls.map str)=xs from aW.symm);rw[<-aW];have HU:=Lh hu;have bU:=Lh hL;have bX:=Lh hE;have dl:=Lh cl;have HM:=Lh hm;have H6:=Lh h6;have L0:Below w.heap.size w (w.alloc (ji #[jc ⟨#[]⟩,ja jb 0,jd none 0 0] 41)):=(Below.refl _ w).alloc (xa _) _;have R0:AF w.heap.size ⟨#[]⟩ 0 (jd none 0 0) (w.alloc (ji #[jc ⟨#[]⟩,ja jb 0,jd none 0 0] 41)):=heap_alloc_new w _;have bV:=(L0.cell (p:=⟨0,0,none⟩) (show 0<w.heap.size by omega)).trans hm;have dE: ¬((262144:Int)<(s.size:Int)):=by omega
 clear bz hu hm hL hE cl aW cn;go_enter Tryz.func43,Tryz.ntmps43;go_wp2_with fail;refine(BV _ _).mono ?_;rintro e w1 ⟨rfl,hw⟩;rw[hw];clear hw w1;rw[HZ.o];go_wp2_with fail;refine(FT s (by omega) _ m bV).mono ?_;rintro e w1 ⟨hU,hb1⟩;obtain⟨g,cap,ys,bC,rfl,V,dj,al,cq,dA,cp⟩: ∃(g cap:Nat) (ys:List ByteArray),ys=ls.map str/\e=jh (jg #[jd (some ⟨g,0,none⟩) ys.length cap,je true])/\BW w1 (some ⟨g,0,none⟩) ys/\w.heap.size+1<=g/\g<w1.heap.size/\ys.length<=cap/\ys.length<=s.size+1/\ ∀j,w1.frozen? ⟨g,j,none⟩=false:=by
  rcases hU with⟨h1,_⟩ | ⟨g,cap,ys,h1,h2,h3,h4,h5,h6,h7,t,cs,h8⟩
  ·rw[HU.o]at h1;cases h1
  ·rw[HU.o]at h1;exact⟨g,cap,ys,Ei (by rw[<-xm h1];simp[List.map_map,Function.comp_def,str]),h2,h3,by simpa using h4,h5,h6,by rw[Lib.size_eq];exact h7,fun j=>Lib.frozen_of_heap h8 j⟩
 have dw:=Lh bC;have b2:AA ys=xs:=by rw[bC];exact df.o
 have aw:=Lh V;have L1:=L0.trans (hb1.mono (by simp));have R1:AF w.heap.size ⟨#[]⟩ 0 (jd none 0 0) w1:=(hb1.block _ (by simp)).trans R0;have s1:w.heap.size+1<=w1.heap.size:=by have:=hb1.size;simpa using this
 have cy:=Lh cp;have bt:=Lh b2;clear V bV L0 R0 hb1 hU bC cp b2;go_wp2_with fail;refine(KZ g cap ys _ (by omega) cq aw.o cy.o).mono ?_;rintro e w2 ⟨rfl,V,ar⟩;rw[bt.o]at V ⊢;have dx:xs.length<=ys.length:=by rw[<-bt.o];exact List.length_filter_le _ _
 have L1:=L1.trans (ar.below (show w.heap.size<=g by omega));have R1:=R1.block (ar.2.2.2.2 w.heap.size (by omega));have al:g<w2.heap.size:=by rw[ar.2.2.2.1];exact al
 have s1:w.heap.size+1<=w2.heap.size:=by rw[ar.2.2.2.1];exact s1
 obtain⟨w1,aZ⟩: ∃q,q=w2:=⟨_,rfl⟩
 rw[<-aZ]at V L1 R1 al s1 ⊢;have aw:=Lh V;clear V ar aZ cy bt;go_wp2_with fail;obtain⟨W,hW,P0,F0,R2,L2,T2,s2⟩:=Hu w.heap.size g cap xs z w w1 0 dj al (by omega) aw.o L1 R1;rw[show w1.drewN 0=w1 from rfl]at hW;have HW:=Lh hW;obtain⟨p,hp⟩: ∃p,p=w1.heap.size:=⟨_,rfl⟩
 have bY:=Lh hp;rw[<-bY.o]at P0 F0 s2 s1 al;have X:w.heap.size<g:=by omega
 have H:g<p:=al;have ce:=Lh (show JZ w w.heap.size p g M xs xs z false ⟨#[]⟩ 0 (jd none 0 0) W from⟨⟨0,cap,P0⟩,Left.refl _ _,F0,R2,T2,L2,s2⟩);clear hW hp P0 L1 R1 F0 R2 L2 T2 s2;rw[<-HW.o,<-bY.o];refine(ce.o.take X H aj.o _).mono ?_;rintro e w3 ⟨r3,y3,b3,rfl,du,hs⟩;have cr:=Lh hs;clear hs ce;go_wp2_with fail;refine(cr.o.take X H aj.o _).mono ?_;rintro e w4 ⟨r4,y4,b4,rfl,dy,hs⟩;have b1:=Lh hs;clear hs cr;go_wp2_with fail;refine(b1.o.take X H aj.o _).mono ?_;rintro e w5 ⟨r5,y5,b5,rfl,dv,hs⟩;have cz:=Lh hs;clear hs b1;go_wp2_with fail;refine(cz.o.take X H aj.o _).mono ?_;rintro e w6 ⟨r6,y6,b6,rfl,dG,hs⟩;have aG:=Lh hs;clear hs cz;have hf:=aG.o.feed.fr 0;have cf:=aG.o.feed.c0;go_wp2_with fail;obtain⟨w7,br⟩: ∃w7,w7=w6.setCell ⟨p+1,0,none⟩ (jc r6):=⟨_,rfl⟩
 rw[<-br];have bN:=Lh (show JZ w w.heap.size p g M xs y6 z b6 r6 0 (jd none 0 0) w7 from by rw[br];exact aG.o.setf X H 0 _ aG.o.feed.name);clear hf cf br aG;refine(bN.o.take X H aj.o _).mono ?_;rintro e w8 ⟨r8,y8,b8,rfl,dF,hs⟩;have bw:=Lh hs;clear hs bN;go_wp2_with fail;refine(bw.o.num X H _ (by omega) (bX.o.below (by omega) bw.o.below)).mono ?_;rintro e w9 ⟨v,b9,rfl,hs⟩;have av:=Lh hs;clear hs bw;have hf:=av.o.feed.fr 1;have cf:=av.o.feed.c1;go_upto_block 1 with fail
 obtain⟨bE,az⟩: ∃bE,bE=w9.setCell ⟨p+1,1,none⟩ (ja jb v):=⟨_,rfl⟩
 rw[<-az];obtain⟨n,hn⟩: ∃n,n=r6:=⟨_,rfl⟩
 have dz:=Lh hn;have aM:=Lh (show JZ w w.heap.size p g M xs y8 z b9 n v (jd none 0 0) bE from by rw[az,hn];exact av.o.setf X H 1 _ av.o.feed.rev);clear hf cf az av hn;obtain⟨i0,hi,cR,cH,dm⟩:=info_parts Lv;have c8:p+1≠g:=by omega
 have de:3<p:=by omega
 go_loopw [] (fun wx=> ∃(pu:Option Addr) (cu:Nat) (ts:List (Ev × Value × Value)) (us:List ByteArray) (bd:Bool),ts.length+us.length<=300000/\Hid (JZ w w.heap.size p g M xs us z bd n v (jd pu ts.length cu) wx)/\Hid (Av (p+2) wx (jd pu ts.length cu) ts)) (fun wx=>Fk p wx)
 case atStart=>exact⟨none,0,[],y8,b9,by have:=aM.o.left.le;simp;omega,aM,Lh (Av.nil _ _)⟩
 case round=>
  clear aM;obtain⟨pu,cu,ts,us,bd,a6,F,HT⟩:=hrel;have bD:=F.o.size;have a8:=F.o.badc;cases bd
  ·go_wp2_with fail;refine(F.o.see _).mono ?_;rintro e wq ⟨q,c,rfl,hx,hc⟩;rw[hx];have bu:=Lh hc;clear hx wq hc;cases c
   ·obtain⟨es,ct⟩: ∃es,es=ts.map (·.1):=⟨_,rfl⟩
    have aX:=Lh ct;clear ct;obtain⟨pa,ca,dp, -,bl⟩:=HT.o.seg;cases dp;have ba:Hid (GQ wr.heap.size wr pu es):=Lh (by rw[aX.o];exact bl.evs);have bQ:ts.length=es.length:=by rw[aX.o,xi]
    have bs:=Lh bQ;clear bl bQ bu;obtain⟨E,hE⟩: ∃E,E=Aq n v es:=⟨_,rfl⟩
    have da:=Lh hE;have HV:Hid (∀W,Below wr.heap.size wr W->Calls Tryz.prog 74 #[.agg #[jc n,ja jb v,jd pu ts.length cu]] W fun e w'=>e=jh (ja jb E)/\Below W.heap.size W w'):=Lh (fun W hW=>by
     have h:=Gq n v es pu cu wr.heap.size W hW.size (ba.o.below hW) (by have:=bs.o;omega);rw[<-hE,<-bs.o]at h;exact h)
    clear hE;have aS:=F.o.feed.c0;have aF:=F.o.feed.c1;have aK:=F.o.feed.c2;have bv:Hid (∀W,Below wr.heap.size wr W->JZ w w.heap.size p g M xs us z false n v (jd pu ts.length cu) W):=Lh (fun W hW=>by obtain⟨o,c,h⟩:=F.o.par;exact F.o.kept X H (AO.of_below hW) ⟨o,c,h.below hW (by omega)⟩ (Left.refl _ _));go_wp2_with fail;refine(HV.o _ (Below.refl _ _)).mono ?_;rintro e ak ⟨rfl,aR⟩;have J:=Lh (bv.o ak aR);have ai:=Lh aR;clear aR aS aF aK HV a8;by_cases bx:E=0
    ·subst bx;have bB:=Lh (show Aq n v es=0 from da.o.symm);obtain⟨cW,ck⟩:=Dz (n:=n) bB.o HZ.o;obtain⟨fs,bp⟩: ∃fs,fs=(AI n.data.toList v es z.data.toList).map str:=⟨_,rfl⟩
     have ck:fs.length<=4000:=by rw[bp];exact ck
     have bn:=Lh bp;clear cW bp;have cg:Hid (Calls Tryz.prog 76 #[.agg #[jc n,ja jb v,jd pu ts.length cu],jc z] ak fun e w'=> ∃g cap,e=jh (jd (some ⟨g,0,none⟩) fs.length cap)/\BW w' (some ⟨g,0,none⟩) fs/\Below ak.heap.size ak w'):=Lh (by
      have h:=FQ n v pu cu es z wr.heap.size ak ai.o.size (ba.o.below ai.o) bB.o HZ.o (bU.o.below (by omega) J.o.below) (dl.o.below H6.o J.o.below) (by have:=J.o.size;omega);rw[show es.length=ts.length from bs.o.symm]at h;refine h.mono ?_;rintro e w' ⟨g2,cap2,rfl,h1,_,_,_,h2⟩;refine⟨g2,cap2,?_,by rw[bn.o];exact h1,h2⟩;rw[bn.o,xi])
     have aS:=J.o.feed.c0;have aF:=J.o.feed.c1;have aK:=J.o.feed.c2;go_wp2_with fail;refine cg.o.mono ?_;rintro e aU ⟨g2,cap2,rfl,bP,aY⟩;have aC:=Lh (ai.o.trans (aY.mono ai.o.size));have b7:=Lh bP;have be:=Lh (bv.o aU aC.o);clear aS aF aK aY bP cg;have cG:=F.o.left;go_wp2_with fail;refine(KW _ _ _ _ _ _ fs xs rfl rfl (by omega) (by omega) aU b7.o be.o.txt).mono ?_;rintro e Z ⟨rfl,q2,hw⟩;rw[hw];clear hw Z cG;have ax:Hid (Below wr.heap.size wr (aU.drewN q2)):=Lh (aC.o.trans ⟨rfl,rfl,rfl,xa _,fun k hk=>rfl⟩);obtain⟨Z,hw⟩: ∃Z,Z=aU.drewN q2:=⟨_,rfl⟩
     rw[<-hw]at ax ⊢;have T:=Lh (bv.o Z ax.o);have ci:=Lh (HT.o.made ax.o);clear hw b7 aC be J;by_cases aL:fs=xs
     ·rw[decide_eq_true aL];have cZ:=Lh aL;clear aL;have aS:=T.o.feed.c0;have aF:=T.o.feed.c1;have aK:=T.o.feed.c2;have A:=T.o.res;have bA:=A.c0;have bG:=A.c1;have bH:=A.c2;have cC:=A.fr 0;have dr:=A.fr 1;have cM:=A.fr 2;go_wp2_with fail;obtain⟨aP,hw⟩: ∃aP,aP=((Z.setCell ⟨w.heap.size,0,none⟩ (jc n)).setCell ⟨w.heap.size,1,none⟩ (ja jb v)).setCell ⟨w.heap.size,2,none⟩ (jd pu ts.length cu):=⟨_,rfl⟩
      rw[<-hw];have bm:AF w.heap.size n v (jd pu ts.length cu) aP:=by rw[hw];exact A.name.rev.evs
      have cT:Below w.heap.size w aP:=by rw[hw];exact((T.o.below.setCell (xa _) _).setCell (xa _) _).setCell (xa _) _
      have cX:Av (p+2) aP (jd pu ts.length cu) ts:=by rw[hw];exact((ci.o.set (show Af w.heap.size _ 41 Z from A) (by decide) (by decide) 0 _).set (show Af w.heap.size _ 41 _ from A.name) (by decide) (by decide) 1 _).set (show Af w.heap.size _ 41 _ from A.name.rev) (by decide) (by decide) 2 _
      clear hw aS aF aK bA bG bH cC dr cM A;have bA:=bm.c0;have bG:=bm.c1;have bH:=bm.c2;refine bodyPost_ret (v:=jg #[.agg #[jc n,ja jb v,jd pu ts.length cu],ja jb 0]) (by simp[results,Tryz.results43,go_sem,bA,bG,bH]) rfl ?_;exact .inr ⟨n,v,pu,cu,ts,rfl,by rw[<-aX.o];exact bB.o,by rw[<-aX.o,<-bn.o];exact cZ.o,cX.mono (by omega),cT⟩
     ·rw[decide_eq_false aL];clear aL;have A:=T.o.res;have aH:=A.fr 0;have aQ:=A.fr 1;have aD:=A.fr 2;have aJ:=A.c0;have aN:=A.c1;have aA:=A.c2;go_wp2_with fail;obtain⟨Y,hY⟩: ∃Y,Y=(((Z.setCell ⟨w.heap.size,0,none⟩ (jc ⟨#[]⟩)).setCell ⟨w.heap.size,1,none⟩ (ja jb 0)).setCell ⟨w.heap.size,2,none⟩ (jd none 0 0)):=⟨_,rfl⟩
      rw[<-hY];have hB:AF w.heap.size ⟨#[]⟩ 0 (jd none 0 0) Y:=by rw[hY];exact A.name.rev.evs
      have hE:Below w.heap.size w Y:=by rw[hY];exact((T.o.below.setCell (xa _) _).setCell (xa _) _).setCell (xa _) _
      clear hY A aH aQ aD aJ aN aA;have aO:=hB.c0;have aB:=hB.c1;have aq:=hB.c2;refine bodyPost_ret (v:=jg #[.agg #[jc ⟨#[]⟩,ja jb 0,jd none 0 0],ja jb 15]) (by simp[results,Tryz.results43,go_sem,aO,aB,aq]) rfl ?_;exact .inl ⟨rfl,hE⟩
    ·have dD:(E !=0)=true:=by simp[bx]
     clear bx;have A:=J.o.res;have aH:=A.fr 0;have aQ:=A.fr 1;have aD:=A.fr 2;have aJ:=A.c0;have aN:=A.c1;have aA:=A.c2;go_wp2_with fail;obtain⟨Y,hY⟩: ∃Y,Y=(((ak.setCell ⟨w.heap.size,0,none⟩ (jc ⟨#[]⟩)).setCell ⟨w.heap.size,1,none⟩ (ja jb 0)).setCell ⟨w.heap.size,2,none⟩ (jd none 0 0)):=⟨_,rfl⟩
     rw[<-hY];have hB:AF w.heap.size ⟨#[]⟩ 0 (jd none 0 0) Y:=by rw[hY];exact A.name.rev.evs
     have hE:Below w.heap.size w Y:=by rw[hY];exact((J.o.below.setCell (xa _) _).setCell (xa _) _).setCell (xa _) _
     clear hY A aH aQ aD aJ aN aA;have aO:=hB.c0;have aB:=hB.c1;have aq:=hB.c2;refine bodyPost_ret (v:=jg #[.agg #[jc ⟨#[]⟩,ja jb 0,jd none 0 0],ja jb 15]) (by simp[results,Tryz.results43,go_sem,aO,aB,aq]) rfl ?_;exact .inl ⟨rfl,hE⟩
   ·go_upto_region 19 with(fail);obtain⟨x0,rr,cQ,bM⟩:=bu.o (by first | rfl | trivial);subst cQ;have cB:=Lh bM;have HP:=Lh F.o.par;have HF:=Lh F.o.feed;have cY:=Lh (fun x hx=>F.o.left.sz aj.o x (List.mem_cons_of_mem _ hx));have bR:p<wr.heap.size:=by omega
    have bf:p<=wr.heap.size:=by omega
    have bK:=Lh (show g<wr.heap.size by omega);have cm:=Lh (bU.o.below (by omega) F.o.below);have bZ:=Lh (bX.o.below (by omega) F.o.below);have cc:=Lh ((F.o.below.cell (p:=⟨0,0,none⟩) (show 0<w.heap.size by omega)).trans HM.o);have dB:ts.length<=300000:=by omega
    have dk:=Lh (show Fk p wr=rr.length+1 from by obtain⟨o,c,h⟩:=HP.o;exact FH h);have hl2:ts.length+(rr.length+1)<=300000:=a6;have aT:=Lh (show Left M xs (x0::rr)/\AF w.heap.size ⟨#[]⟩ 0 (jd none 0 0) wr/\BW wr (some ⟨g,0,none⟩) xs/\Below w.heap.size w wr from⟨F.o.left,F.o.res,F.o.txt,F.o.below⟩);clear F bM a8 bu a6;refine Dj 5 (by kernel_rfl) (fun R a x=> ∃(l0 l1 l2 l3 l4:Bool) (aa af ae ab ac:Value),R=#[l0,l1,l2,l3,l4,false,false,false]/\a=⟨(jc s::jc z::undef::undef::jf (some ⟨w.heap.size,0,none⟩)::ja jb 0::jd (some ⟨g,0,none⟩) xs.length cap::je true::jf (some ⟨p,0,none⟩)::jf (some ⟨p+1,0,none⟩)::jc q::je true::jc s::ja jb s.size::je false::undef::jc z::je true::je false::undef::jg #[jd (some ⟨g,0,none⟩) ys.length cap,je true]::jc s::jg #[jd (some ⟨g,0,none⟩) ys.length cap,je true]::jd (some ⟨g,0,none⟩) ys.length cap::je true::je true::je false::undef::jd (some ⟨g,0,none⟩) ys.length cap::jd (some ⟨g,0,none⟩) xs.length cap::jd (some ⟨g,0,none⟩) xs.length cap::jc z::.agg #[jd (some ⟨g,0,none⟩) xs.length cap,jc z,je false]::jf (some ⟨p,0,none⟩)::jf (some ⟨p,0,none⟩)::jc r3::jf (some ⟨p,0,none⟩)::jc r4::jf (some ⟨p,0,none⟩)::jc r5::jf (some ⟨p,0,none⟩)::jc r6::jf (some ⟨p+1,0,none⟩)::jf (some ⟨p,0,none⟩)::jf (some ⟨p,0,none⟩)::jc r8::ja jb v::jf (some ⟨p+1,1,none⟩)::jf (some ⟨p,0,none⟩)::jf (some ⟨p,0,none⟩)::jf (some ⟨p,2,none⟩)::je false::je true::jg #[jc q,je true]::jf (some ⟨p,0,none⟩)::jg #[jc q,je true]::jc q::je true::je true::je false::aa::af::ae::ab::ac::u65::u66::undef::undef::undef::undef::undef::undef::undef::undef::undef::undef::undef::undef::undef::undef::undef::undef::undef::undef::undef::[]).toArray,[]⟩/\Hid (l0=true->aa=jf (some ⟨p+1,2,none⟩))/\Hid (l1=true->af=jd pu ts.length cu)/\Hid (l2=true->ae=jf (some ⟨p,0,none⟩))/\Hid (l3=true->l4=false-> ∃(ev:Ev) (pv:Option Addr) (cv:Nat) (pw:Option Addr) (cw:Nat),ab=AW ev (jd pv ev.days.ex.length cv) (jd pw ev.days.xt.length cw)/\Ah wr.heap.size x (jd pv ev.days.ex.length cv) ev.days.ex/\Ah wr.heap.size x (jd pw ev.days.xt.length cw) ev.days.xt/\ND ev)/\Hid (l4=true-> ∃(ev:Ev) (pv:Option Addr) (cv:Nat) (pw:Option Addr) (cw:Nat) (gg:Nat),ac=jd (some ⟨gg,0,none⟩) 1 1/\wr.heap.size<=gg/\Af gg (Ae ev (jd pv ev.days.ex.length cv) (jd pw ev.days.xt.length cw)) 61 x/\Ah wr.heap.size x (jd pv ev.days.ex.length cv) ev.days.ex/\Ah wr.heap.size x (jd pw ev.days.xt.length cw) ev.days.xt/\ND ev)/\Hid (It p g M x0 rr z l3 wr x)) (by decide) (by kernel_rfl) (by kernel_rfl) ?_ ?_ ?_ ?_
    ·exact⟨false,false,false,false,false,_,_,_,_,_,rfl,rfl,Lh (fun h=>by cases h),Lh (fun h=>by cases h),Lh (fun h=>by cases h),Lh (fun h=>by cases h),Lh (fun h=>by cases h),Lh (It.start HP.o)⟩
    ·intro R a x hj;obtain⟨l0,hj⟩:=hj;obtain⟨l1,hj⟩:=hj;obtain⟨l2,hj⟩:=hj;obtain⟨l3,hj⟩:=hj;obtain⟨l4,hj⟩:=hj;obtain⟨aa,hj⟩:=hj;obtain⟨af,hj⟩:=hj;obtain⟨ae,hj⟩:=hj;obtain⟨ab,hj⟩:=hj;obtain⟨ac,hj⟩:=hj;obtain⟨h1, -⟩:=hj;subst h1;exact⟨rfl,fun k h1 h2=>by(have h2:k<8:=h2);rcases(show k=5∨k=6∨k=7 by omega)with rfl | rfl | rfl<;>rfl⟩
    ·intro R a x i hj cN hu G;obtain⟨l0,hj⟩:=hj;obtain⟨l1,hj⟩:=hj;obtain⟨l2,hj⟩:=hj;obtain⟨l3,hj⟩:=hj;obtain⟨l4,hj⟩:=hj;obtain⟨aa,hj⟩:=hj;obtain⟨af,hj⟩:=hj;obtain⟨ae,hj⟩:=hj;obtain⟨ab,hj⟩:=hj;obtain⟨ac,hj⟩:=hj;obtain⟨bq,hj⟩:=hj;obtain⟨aI,hj⟩:=hj;obtain⟨H0,hj⟩:=hj;obtain⟨H1,hj⟩:=hj;obtain⟨H2,hj⟩:=hj;obtain⟨H3,hj⟩:=hj;obtain⟨H4,hj⟩:=hj;have F:=hj;clear hj;subst bq;subst aI;rcases(show ∀i:Nat,i<5->(i=0∨i=1∨i=2∨i=3∨i=4)by decide) i cN with rfl | rfl | rfl | rfl | rfl
     ·have G:=G _ rfl;clear G;have hu:l0=false:=hu;refine AJ rfl fun QQ hQ=>?_
      have U:=Lh hQ;clear hQ;simp only[xd,xc];go_wp2_with fail;exact U.o _ _ ⟨true,l1,l2,l3,l4,_,_,_,_,_,rfl,rfl,Lh (fun _=>rfl),H1,H2,H3,H4,F⟩
     ·have G:=G _ rfl;have q0:l0=true:=G ⟨0,Go.Ground.data⟩ (by simp) rfl;clear G;have hu:l1=false:=hu;have e0:=(H0.o q0)
      subst e0;clear H0;have hc:=(F.o.feed HF.o).c2;refine AJ rfl fun QQ hQ=>?_
      have U:=Lh hQ;clear hQ;simp only[xd,xc,xe];go_wp2_with fail;exact U.o _ _ ⟨l0,true,l2,l3,l4,_,_,_,_,_,rfl,rfl,Lh (fun _=>rfl),Lh (fun _=>rfl),H2,H3,H4,F⟩
     ·have G:=G _ rfl;clear G;have hu:l2=false:=hu;refine AJ rfl fun QQ hQ=>?_
      have U:=Lh hQ;clear hQ;simp only[xd,xc,xe];go_wp2_with fail;exact U.o _ _ ⟨l0,l1,true,l3,l4,_,_,_,_,_,rfl,rfl,H0,H1,Lh (fun _=>rfl),H3,H4,F⟩
     ·have G:=G _ rfl;have q2:l2=true:=G ⟨2,Go.Ground.data⟩ (by simp) rfl;clear G;have hu:l3=false:=hu;have e2:=(H2.o q2)
      subst e2;clear H2;refine AJ rfl fun QQ hQ=>?_
      have U:=Lh hQ;clear hQ;simp only[xd,xc,xe];go_wp2_with fail;refine(F.o.ev hu cB.o cY.o dc bK.o de cm.o bZ.o cc.o hz bR).mono ?_;rintro e x1 ⟨ev,pv,pw,cv,cw,rfl,bS,hX,hY,bT,ch⟩;have hk:=Kept.but ch bR;have bo:=Lh (show Ah wr.heap.size x1 (jd pv ev.days.ex.length cv) ev.days.ex from Ab hX F.o.but.size);have bF:=Lh (show Ah wr.heap.size x1 (jd pw ev.days.xt.length cw) ev.days.xt from Ab hY F.o.but.size);have dg:=Lh bT;have aE:=Lh bS;clear hX hY bT ch bS;go_wp2_with fail;exact U.o _ _ ⟨l0,l1,l2,true,l4,_,_,_,_,_,rfl,rfl,H0,H1,Lh (fun _=>rfl),Lh (fun _ _=>⟨ev,pv,cv,pw,cw,rfl,bo.o,bF.o,aE.o⟩),Lh (fun h=>(by obtain⟨ev,pv,cv,pw,cw,gg,e,c0,c1,c2,c3,c4⟩:=H4.o h;exact⟨ev,pv,cv,pw,cw,gg,e,c0,(hk _ _ _ c0 c1),(BR c2 hk),(BR c3 hk),c4⟩)),dg⟩
     ·have G:=G _ rfl;have q3:l3=true:=G ⟨3,Go.Ground.data⟩ (by simp) rfl;clear G;have hu:l4=false:=hu;obtain⟨cP,cD,cS,cE,cJ,e3,bc,bj,bk⟩:=(H3.o q3 hu)
      subst e3;clear H3;unfold AW Ae;have bo:=Lh bc;have bF:=Lh bj;have aE:=Lh bk;clear bc bj bk;refine AJ rfl fun QQ hQ=>?_
      have U:=Lh hQ;clear hQ;simp only[xd,xc,xe];go_wp2_with fail;exact U.o _ _ ⟨l0,l1,l2,l3,true,_,_,_,_,_,rfl,rfl,H0,H1,H2,Lh (fun _ h=>by cases h),Lh (fun _=>⟨cP,cD,cS,cE,cJ,_,rfl,F.o.but.size,Af.new x _ _,xh bo.o _,xh bF.o _,aE.o⟩),Lh (F.o.alloc _ bK.o)⟩
    ·intro R a x hj hall;obtain⟨l0,hj⟩:=hj;obtain⟨l1,hj⟩:=hj;obtain⟨l2,hj⟩:=hj;obtain⟨l3,hj⟩:=hj;obtain⟨l4,hj⟩:=hj;obtain⟨aa,hj⟩:=hj;obtain⟨af,hj⟩:=hj;obtain⟨ae,hj⟩:=hj;obtain⟨ab,hj⟩:=hj;obtain⟨ac,hj⟩:=hj;obtain⟨bq,hj⟩:=hj;obtain⟨aI,hj⟩:=hj;obtain⟨H0,hj⟩:=hj;obtain⟨H1,hj⟩:=hj;obtain⟨H2,hj⟩:=hj;obtain⟨H3,hj⟩:=hj;obtain⟨H4,hj⟩:=hj;have F:=hj;clear hj;subst bq;subst aI;have q1:l1=true:=hall 1 (by omega);have q3:l3=true:=hall 3 (by omega);have q4:l4=true:=hall 4 (by omega);clear hall;have e1:=(H1.o q1)
     subst e1;obtain⟨aV,cI,cO,dh,dn,cK,e4,cj,bi,bg,a7,bh⟩:=(H4.o q4)
     subst e4;have ap:=Lh (HT.o.butT (Nat.lt_add_of_pos_right (by decide)) F.o.but);have bW:=F.o.feed HF.o;have cx:=F.o.but.size;have db:p+2<=x.heap.size:=xf bD cx;have b0:Cf (p+2) x (aV,(jd cI aV.days.ex.length cO),(jd dh aV.days.xt.length dn)):=⟨bh,Ab bg bD,Ab a7 bD⟩
     obtain⟨ah,am,o1,dt,cd,cb⟩:=F.o.after q3;have bL:=Lh cd;have bI:=F.o.but;clear bg a7 bh cd;refine L8 (fun a x=> ∃(aa af ae ab ac bO bJ:Value),a=⟨(jc s::jc z::undef::undef::jf (some ⟨w.heap.size,0,none⟩)::ja jb 0::jd (some ⟨g,0,none⟩) xs.length cap::je true::jf (some ⟨p,0,none⟩)::jf (some ⟨p+1,0,none⟩)::jc q::je true::jc s::ja jb s.size::je false::undef::jc z::je true::je false::undef::jg #[jd (some ⟨g,0,none⟩) ys.length cap,je true]::jc s::jg #[jd (some ⟨g,0,none⟩) ys.length cap,je true]::jd (some ⟨g,0,none⟩) ys.length cap::je true::je true::je false::undef::jd (some ⟨g,0,none⟩) ys.length cap::jd (some ⟨g,0,none⟩) xs.length cap::jd (some ⟨g,0,none⟩) xs.length cap::jc z::.agg #[jd (some ⟨g,0,none⟩) xs.length cap,jc z,je false]::jf (some ⟨p,0,none⟩)::jf (some ⟨p,0,none⟩)::jc r3::jf (some ⟨p,0,none⟩)::jc r4::jf (some ⟨p,0,none⟩)::jc r5::jf (some ⟨p,0,none⟩)::jc r6::jf (some ⟨p+1,0,none⟩)::jf (some ⟨p,0,none⟩)::jf (some ⟨p,0,none⟩)::jc r8::ja jb v::jf (some ⟨p+1,1,none⟩)::jf (some ⟨p,0,none⟩)::jf (some ⟨p,0,none⟩)::jf (some ⟨p,2,none⟩)::je false::je true::jg #[jc q,je true]::jf (some ⟨p,0,none⟩)::jg #[jc q,je true]::jc q::je true::je true::je false::aa::af::ae::ab::ac::bO::bJ::undef::undef::undef::undef::undef::undef::undef::undef::undef::undef::undef::undef::undef::undef::undef::undef::undef::undef::undef::[]).toArray,[]⟩/\ ∃(ay:Option Addr) (au:Nat) (t:Ev × Value × Value) (ah:List ByteArray) (am:Bool),AF (p+1) n v (jd ay (ts.length+1) au) x/\Av (p+2) x (jd ay (ts.length+1) au) (ts++[t])/\Left M rr ah/\(∃o cap,Bl p g o cap ah z am x)/\Below p wr x/\p+2<=x.heap.size) ?_ fun QQ hQ=>?_
     ·intro a x D;obtain⟨aa,D⟩:=D;obtain⟨af,D⟩:=D;obtain⟨ae,D⟩:=D;obtain⟨ab,D⟩:=D;obtain⟨ac,D⟩:=D;obtain⟨bO,D⟩:=D;obtain⟨bJ,D⟩:=D;obtain⟨aI,D⟩:=D;subst aI;obtain⟨ay,au,t,ah,am,p1,p2,p3,⟨o5,c5,p4⟩,p5,p6⟩:=D;have HQ:=Lh (show JZ w w.heap.size p g M xs ah z am n v (jd ay (ts.length+1) au) x from⟨⟨o5,c5,p4⟩,(aT.o.1.trans (Left.tail M x0 rr)).trans p3,p1,aT.o.2.1.block (p5.block _ (by omega)),Bm aT.o.2.2.1 (p5.block g H),aT.o.2.2.2.trans (p5.mono (by omega)),p6⟩);have co:=Lh p3.le;have cV:=Lh (FH p4);have cL:=Lh p2;clear p1 p2 p3 p4 p5 p6;go_wp2_with fail;go_roundw
      case rel=>exact⟨ay,au,ts++[t],ah,am,by have:=co.o;simp;omega,Lh (by rw[xb];exact HQ.o),Lh (by rw[xb];exact cL.o)⟩
      case measure=>rw[cV.o,dk.o];have:=co.o;omega
     have U:=Lh hQ;clear hQ;simp only[List.drop_succ_cons,List.drop_zero];go_wp2_with (at_builtin;refine wpList_append_own_at _ rfl (.tmp 61) (.tmp 64) 39 rfl (p+2) 61 i0 _ 13 160 Tryz.underlying39 hi cR cH dm rfl (by decide) _ _ _ rfl ap.o.row ⟨cK,0,none⟩ 1 1 _ rfl rfl (Bd bi) (CB _ _ _ _ _ _ _) (by unfold maxLen;omega) (by omega) (by omega) ?_);intro v' x8 ag O _ cF;obtain⟨p8,q8,dd⟩:=AM ag;subst dd;have T8:=ap.o.snoc b0 O ag;have F8:=bW.grownT ap.o.row (Nat.lt_succ_self _) O;have P8:=cb.grownT ap.o.row (by omega) H O;have K8:=Ak (bI.below (xa p) bf) ap.o.row (by omega) (xf bf cx) O;have hc:=F8.c2;have dC:=F8.fr 2;have cU:=Lh (F8.evs (ev':=jd p8 (ts.length+1) q8));have cA:=Lh (T8.set (show Af (p+1) _ 41 x8 from F8) (by decide) (by decide) 2 (jd p8 (ts.length+1) q8));have dq:=Lh (P8.set (show p+1≠p by omega) c8 2 (jd p8 (ts.length+1) q8));have di:=Lh (K8.setCell (p:=⟨p+1,2,none⟩) (show p<=p+1 by omega) (jd p8 (ts.length+1) q8));have c7:=Lh (show p+2<=x8.heap.size from xf db O.size);clear O ag cF T8 F8 P8 K8 bW ap b0 cb bI cj bi;go_wp2_with fail;exact U.o _ _ ⟨_,_,_,_,_,_,_,rfl,_,_,(aV,_,_),ah,am,cU.o,cA.o,bL.o,⟨_,_,dq.o⟩,di.o,by simpa[World.setCell]using c7.o⟩
  ·skip
   have A:=F.o.res;have aH:=A.fr 0;have aQ:=A.fr 1;have aD:=A.fr 2;have aJ:=A.c0;have aN:=A.c1;have aA:=A.c2;go_wp2_with fail;obtain⟨Y,hY⟩: ∃Y,Y=(((wr.setCell ⟨w.heap.size,0,none⟩ (jc ⟨#[]⟩)).setCell ⟨w.heap.size,1,none⟩ (ja jb 0)).setCell ⟨w.heap.size,2,none⟩ (jd none 0 0)):=⟨_,rfl⟩
   rw[<-hY];have hB:AF w.heap.size ⟨#[]⟩ 0 (jd none 0 0) Y:=by rw[hY];exact A.name.rev.evs
   have hE:Below w.heap.size w Y:=by rw[hY];exact((F.o.below.setCell (xa _) _).setCell (xa _) _).setCell (xa _) _
   clear hY A aH aQ aD aJ aN aA;have aO:=hB.c0;have aB:=hB.c1;have aq:=hB.c2;refine bodyPost_ret (v:=jg #[.agg #[jc ⟨#[]⟩,ja jb 0,jd none 0 0],ja jb 15]) (by simp[results,Tryz.results43,go_sem,aO,aB,aq]) rfl ?_;exact .inl ⟨rfl,hE⟩
section
variable {P:Nat} {wP:World} {n:ByteArray} {v:Int} {pu:Option Addr} {cu:Nat} {ts:List (Ev × Value × Value)} {x:World}
end
theorem Sw{R:Nat}{w0 w:World}{n:ByteArray}{v:Int}{ev:Value}(h:AF R n v ev w)(hb:Below R w0 w)(n':ByteArray)(v':Int)(ev':Value):
  ∃Y,Y=((w.setCell ⟨R,0,none⟩ (jc n')).setCell ⟨R,1,none⟩ (ja jb v')).setCell ⟨R,2,none⟩ ev'/\AF R n' v' ev' Y/\Below R w0 Y:=
 ⟨_,rfl,h.name.rev.evs,((hb.setCell (p:=⟨R,0,none⟩) (xa R) _).setCell (p:=⟨R,1,none⟩) (xa R) _).setCell (p:=⟨R,2,none⟩) (xa R) _⟩
theorem QJ{e:Ev}{v:Int}(hr:A8 e.uid.data.toList=true)(h:Ax e v=0):ND e:=by
 obtain⟨-, -,D, -, -, -, -, -, -,A,w⟩:=CS h;obtain⟨hh, -, -⟩:=(Tt.serV_zero e.days).1 D;have hn:=hh.n;have a:=Ef hr;have b:=Co A;have c:=Co w;exact⟨by omega,by omega,by omega,by omega,by omega⟩
theorem KR(z:List UInt8): ∀es:List Ev,es.length<=(es.flatMap fun e=>Ao e z).length
 | []=>xa _
 | e::r=>by
  rw[List.flatMap_cons,xb,xg];have:=KR z r;have w:1<=(Ao e z).length:=by unfold Ao Ke;simp only[xb,xg];omega
  omega
theorem Qe{n:ByteArray}{v:Int}{es:List Ev}{z:List UInt8}{xs:List ByteArray}(h:Aq n v es=0)(hx:(AI n.data.toList v es z).map str=xs):CO z xs.length xs (⟨#[]⟩,0,[])=(n,v,es):=by
 have w:es.length+6<=xs.length:=by
  rw[<-hx,xi];unfold AI CI;have:=KR z es;simp only[xb,xg,List.length_nil];omega
 have A:=Qf h z xs.length w;rwa [hx]at A
def OL(F:(ByteArray × Int × List Ev) × Int)(w:World)(x:Ending)(w':World):Prop:=
 ∃(pu:Option Addr) (cu:Nat) (ts:List (Ev × Value × Value)),x=jh (jg #[.agg #[jc F.1.1,ja jb F.1.2.1,jd pu ts.length cu],ja jb F.2])/\ts.map (·.1)=F.1.2.2/\Av w.heap.size w' (jd pu ts.length cu) ts/\Below w.heap.size w w'
theorem OL.empty(c:Int){w w':World}(hb:Below w.heap.size w w'):OL ((⟨#[]⟩,0,[]),c) w (jh (jg #[.agg #[jc ⟨#[]⟩,ja jb 0,jd none 0 0],ja jb c])) w':=
 ⟨none,0,[],rfl,rfl,Av.nil _ _,hb⟩
theorem Wl(s z:ByteArray)(w:World)(hs:262144<s.size):Calls Tryz.prog 43 #[jc s,jc z] w fun e w'=>e=jh (jg #[.agg #[jc ⟨#[]⟩,ja jb 0,jd none 0 0],ja jb 2])/\Below w.heap.size w w':=by
 obtain⟨R,E⟩: ∃R,R=w.heap.size:=⟨_,rfl⟩
 have L0:Below R w (w.alloc (ji #[jc ⟨#[]⟩,ja jb 0,jd none 0 0] 41)):=by rw[E];exact Aa w _
 have R0:AF R ⟨#[]⟩ 0 (jd none 0 0) (w.alloc (ji #[jc ⟨#[]⟩,ja jb 0,jd none 0 0] 41)):=by rw[E];exact heap_alloc_new w _
 obtain⟨W0,D⟩: ∃W0,W0=w.alloc (ji #[jc ⟨#[]⟩,ja jb 0,jd none 0 0] 41):=⟨_,rfl⟩
 rw[<-D]at L0 R0;have T:=Lh E;have aa:(262144:Int)<(s.size:Int):=by omega
 clear hs;go_enter Tryz.func43,Tryz.ntmps43;go_upto_region 1 with(fail);rw[<-D,<-E];clear D E;have A:=R0;have F:=A.fr 0;have O:=A.fr 1;have U:=A.fr 2;have J:=A.c0;have H:=A.c1;have Z:=A.c2;go_wp2_with fail;obtain⟨Y,hY,V,hE⟩:=Sw A L0 ⟨#[]⟩ 0 (jd none 0 0);rw[<-hY];clear hY A F O U J H Z;have X:=V.c0;have M:=V.c1;have G:=V.c2;refine bodyPost_ret (v:=jg #[.agg #[jc ⟨#[]⟩,ja jb 0,jd none 0 0],ja jb 2]) (by simp[results,Tryz.results43,go_sem,X,M,G]) rfl ?_;exact⟨rfl,by rw[<-T.o];exact hE⟩
theorem U9(s z:ByteArray)(m:Int)(w:World)(hs:s.size<=262144)(H:Tt.code z.data.toList=true)(hu:Tt.unf s.data.toList=none)(hm:w.cell? ⟨0,0,none⟩=some (ja jb m))(h0:0<w.heap.size):Calls Tryz.prog 43 #[jc s,jc z] w fun e w'=>e=jh (jg #[.agg #[jc ⟨#[]⟩,ja jb 0,jd none 0 0],ja jb 4])/\Below w.heap.size w w':=by
 obtain⟨R,F⟩: ∃R,R=w.heap.size:=⟨_,rfl⟩
 have G:Below R w (w.alloc (ji #[jc ⟨#[]⟩,ja jb 0,jd none 0 0] 41)):=by rw[F];exact Aa w _
 have E:AF R ⟨#[]⟩ 0 (jd none 0 0) (w.alloc (ji #[jc ⟨#[]⟩,ja jb 0,jd none 0 0] 41)):=by rw[F];exact heap_alloc_new w _
 obtain⟨W0,D⟩: ∃W0,W0=w.alloc (ji #[jc ⟨#[]⟩,ja jb 0,jd none 0 0] 41):=⟨_,rfl⟩
 rw[<-D]at G E;have ab:=Lh F;have HZ:=Lh H;have HU:=Lh hu;have ae: ¬((262144:Int)<(s.size:Int)):=by omega
 have J:=(G.cell (p:=⟨0,0,none⟩) (show 0<R by omega)).trans hm;have HM:=Lh J;clear hm J;clear H hu;go_enter Tryz.func43,Tryz.ntmps43;go_upto_region 1 with(fail);rw[<-D,<-F];clear D F;go_wp2_with fail;refine(BV _ _).mono ?_;rintro q1 w1 ⟨rfl,hx⟩;rw[hx,HZ.o];clear hx w1;go_wp2_with fail;refine(FT s (by omega) _ m HM.o).mono ?_;rintro e w1 ⟨hU,hb1⟩;rcases hU with⟨-,rfl⟩ | ⟨g,cap,ys,h1, -⟩
 rotate_left
 ·rw[HU.o]at h1;cases h1
 have G:=G.trans (hb1.mono (xl E.lt));have E:=E.block (hb1.block R E.lt);clear hb1;have A:=E;have M:=A.fr 0;have X:=A.fr 1;have Z:=A.fr 2;have T:=A.c0;have O:=A.c1;have ac:=A.c2;go_wp2_with fail;obtain⟨Y,hY,hB,hE⟩:=Sw A G ⟨#[]⟩ 0 (jd none 0 0);rw[<-hY];clear hY A M X Z T O ac;have aa:=hB.c0;have V:=hB.c1;have U:=hB.c2;refine bodyPost_ret (v:=jg #[.agg #[jc ⟨#[]⟩,ja jb 0,jd none 0 0],ja jb 4]) (by simp[results,Tryz.results43,go_sem,aa,V,U]) rfl ?_;exact⟨rfl,by rw[<-ab.o];exact hE⟩
theorem Vh:(Tryz.prog.info? 54).map (fun i=>(i.zero,i.size,i.bytes))=some (some (.agg #[ja jb 0,jc ⟨#[]⟩,ja jb 0]),3,32):=by kernel_rfl
def DI(ns:List Nt):List Value:=ns.flatMap fun n=>[ja jb n.kind,jc n.uid,ja jb n.seq]
theorem I6: ∀(w:List Nt) (j i:Nat) (n:Nt),w[j]?=some n->i<3->(DI w)[j*3+i]?=[ja jb n.kind,jc n.uid,ja jb n.seq][i]?
 | [],_,_,_,h,_=>by simp at h
 | n0::r,0,i,n,h,hi=>by
  simp at h;subst h;show([ja jb n0.kind,jc n0.uid,ja jb n0.seq]++DI r)[0*3+i]?=_
  rw[show 0*3+i=i by omega,List.getElem?_append_left (by show i<3;exact hi)]
 | n0::r,j+1,i,n,h,hi=>by
  show([ja jb n0.kind,jc n0.uid,ja jb n0.seq]++DI r)[(j+1)*3+i]?=_
  rw[List.getElem?_append_right (by show 3<=_;omega),show(j+1)*3+i - [ja jb n0.kind,jc n0.uid,ja jb n0.seq].length=j*3+i by show _ - 3=_;omega];exact I6 r j i n (by simpa using h) hi
theorem MF(w:List Nt)(n:Nt):DI (w++[n])=DI w++[ja jb n.kind,jc n.uid,ja jb n.seq]:=by
 unfold DI;simp
def CZ(lo:Nat)(w:World)(v:Value)(ns:List Nt):Prop:=w.ownsRow lo 54 3 v ns.length (DI ns)
theorem CZ.nil(lo:Nat)(w:World):CZ lo w (jd none 0 0) []:=World.ownsRow_nil _ _ _ _
theorem CZ.snoc{lo:Nat}{w:World}{v:Value}{A:List Nt}{n:Nt}(h:w.ownsRow lo 54 3 v (A.length+1) (DI A++[ja jb n.kind,jc n.uid,ja jb n.seq])):CZ lo w v (A++[n]):=by
 unfold CZ;rw[MF,xb];exact h
theorem CZ.nts{lo:Nat}{w:World}{v:Value}{A:List Nt}(h:CZ lo w v A): ∃ao c,v=jd ao A.length c/\Xa w.heap.size w ao A:=by
 rcases(show w.ownsRow lo 54 3 v A.length (DI A)from h).2 with⟨hv,h0⟩ | ⟨g,cap,cur,hv,r2,r3,r4,r5,_⟩
 ·have:A=[]:=List.eq_nil_of_length_eq_zero h0;subst this;exact⟨none,0,hv,.inl rfl⟩
 ·have hc: ∀(j i:Nat) (n:Nt) (u:Value),A[j]?=some n->i<3->[ja jb n.kind,jc n.uid,ja jb n.seq][i]?=some u->w.cell? ⟨g,0+j*3+i,none⟩=some u:=fun j i n u hj hi hu=>by
   have:=xk h (g:=g) (by rw[hv];rfl) (j*3+i) u (by rw[I6 A j i n hj hi];exact hu);rw[Addr.add_lit]at this;rw[<-this,show 0+j*3+i=0+(j*3+i)by omega]
  exact⟨_,cap,hv,.inr ⟨g,0,rfl,(Array.getElem?_eq_some_iff.1 r3).1,fun j n hj=>⟨hc j 0 n _ hj (by omega) rfl,hc j 1 n _ hj (by omega) rfl,hc j 2 n _ hj (by omega) rfl⟩⟩⟩
def Twin(e:Ev)(w:World)(x:Ending)(w':World):Prop:=∃(q:Option Addr) (d:Nat) (q2:Option Addr) (d2:Nat),x=jh (AW e (jd q e.days.ex.length d) (jd q2 e.days.xt.length d2))/\Ah w.heap.size w' (jd q e.days.ex.length d) e.days.ex/\Ah w.heap.size w' (jd q2 e.days.xt.length d2) e.days.xt/\Below w.heap.size w w'
theorem Rb(e:Ev)(p Y:Option Addr)(c c2:Nat)(w:World)(hI:Ints w.heap.size w p e.days.ex)(ak:Ints w.heap.size w Y e.days.xt)(hn:e.days.ex.length<=1000000)(aq:e.days.xt.length<=1000000):
  Calls Tryz.prog 82 #[AW e (jd p e.days.ex.length c) (jd Y e.days.xt.length c2)] w (Twin e w):=by
 have U:=Lh ((Af.new w (Ae e (jd p e.days.ex.length c) (jd Y e.days.xt.length c2)) 61).alloc (ji #[jc ⟨#[]⟩,ja jb 0,je false,ja jb 0,ja jb 0,ja jb 0,ja jb 0,jd none 0 0,jd none 0 0,ja jb 0,ja jb 0,jc ⟨#[]⟩,jc ⟨#[]⟩] 61));have HR:=Lh (Af.new (w.alloc (ji (Ae e (jd p e.days.ex.length c) (jd Y e.days.xt.length c2)) 61)) #[jc ⟨#[]⟩,ja jb 0,je false,ja jb 0,ja jb 0,ja jb 0,ja jb 0,jd none 0 0,jd none 0 0,ja jb 0,ja jb 0,jc ⟨#[]⟩,jc ⟨#[]⟩] 61);have HR:=Lh (show Af (w.heap.size+1) #[jc ⟨#[]⟩,ja jb 0,je false,ja jb 0,ja jb 0,ja jb 0,ja jb 0,jd none 0 0,jd none 0 0,ja jb 0,ja jb 0,jc ⟨#[]⟩,jc ⟨#[]⟩] 61 _ from by simpa using HR.o);have HL:=Lh ((Aa w (ji (Ae e (jd p e.days.ex.length c) (jd Y e.days.xt.length c2)) 61)).alloc (by simp) (ji #[jc ⟨#[]⟩,ja jb 0,je false,ja jb 0,ja jb 0,ja jb 0,ja jb 0,jd none 0 0,jd none 0 0,ja jb 0,ja jb 0,jc ⟨#[]⟩,jc ⟨#[]⟩] 61));have HI:=Lh ((hI.below HL.o).mono HL.o.size);have ai:=Lh ((ak.below HL.o).mono HL.o.size);have Z:w.heap.size<=((w.alloc (ji (Ae e (jd p e.days.ex.length c) (jd Y e.days.xt.length c2)) 61)).alloc (ji #[jc ⟨#[]⟩,ja jb 0,je false,ja jb 0,ja jb 0,ja jb 0,ja jb 0,jd none 0 0,jd none 0 0,ja jb 0,ja jb 0,jc ⟨#[]⟩,jc ⟨#[]⟩] 61)).heap.size:=by simp;omega
 obtain⟨w0,V⟩: ∃w0,w0=(w.alloc (ji (Ae e (jd p e.days.ex.length c) (jd Y e.days.xt.length c2)) 61)).alloc (ji #[jc ⟨#[]⟩,ja jb 0,je false,ja jb 0,ja jb 0,ja jb 0,ja jb 0,jd none 0 0,jd none 0 0,ja jb 0,ja jb 0,jc ⟨#[]⟩,jc ⟨#[]⟩] 61):=⟨_,rfl⟩
 rw[<-V]at U HR HL HI ai Z;clear hI ak;unfold AW;unfold Ae at V ⊢;have aj:=Lh V;clear V;go_enter Tryz.func82,Tryz.ntmps82;go_upto_region 1 with(fail);rw[<-aj.o];clear aj;have aC: ∀x,gB w0 x->x.cell? ⟨w.heap.size,7,none⟩=some (jd p e.days.ex.length c):=fun x X=>((Made.mk X).blk U.o).cell 7
 have aE: ∀x,gB w0 x->x.cell? ⟨w.heap.size,8,none⟩=some (jd Y e.days.xt.length c2):=fun x X=>((Made.mk X).blk U.o).cell 8
 refine AH GR.below 10 [gE _,gE _,gE _,fun _ u x=> ∃(pq:Option Addr) (cq:Nat),u=jd pq e.days.ex.length cq/\Ah w0.heap.size x (jd pq e.days.ex.length cq) e.days.ex,gE _,gE _,gE _,fun _ u x=> ∃(pq:Option Addr) (cq:Nat),u=jd pq e.days.xt.length cq/\Ah w0.heap.size x (jd pq e.days.xt.length cq) e.days.xt,gE _,gE _] rfl EA ⟨qE,qE,qE,by
  intro v x X h QQ K;have D:=Lh (Made.mk X);simp only[A2,A1]at h;obtain⟨⟨_,e2,_⟩, -⟩:=h;simp only[e2]at K ⊢;go_wp2_with fail;refine(JL x.heap.size _ _ _ x ((HI.o.below D.o.below).mono D.o.below.size) hn).mono ?_;rintro y x1 ⟨u,rfl,R,hb1⟩;have ab:=hb1;have R:Ah w0.heap.size x1 u _:=Ab R D.o.below.size;obtain⟨pq,cq,hv⟩:=R.slice;subst hv;have ae:=Lh R;clear R hb1;go_wp2_with fail;exact K _ _ ⟨_,_,rfl,ae.o⟩ (.inr ab),
  qE,qE,qE,by
  intro v x X h QQ K;have D:=Lh (Made.mk X);simp only[A2,A1]at h;obtain⟨⟨_,e6,_⟩, -⟩:=h;simp only[e6]at K ⊢;go_wp2_with fail;refine(JL x.heap.size _ _ _ x ((ai.o.below D.o.below).mono D.o.below.size) aq).mono ?_;rintro y x1 ⟨u,rfl,R,hb1⟩;have ab:=hb1;have R:Ah w0.heap.size x1 u _:=Ab R D.o.below.size;obtain⟨pq,cq,hv⟩:=R.slice;subst hv;have ae:=Lh R;clear R hb1;go_wp2_with fail;exact K _ _ ⟨_,_,rfl,ae.o⟩ (.inr ab),
  qE,qE,trivial⟩ ?_
 intro v x X h;have D:=Lh (Made.mk X);simp only[Dt,Nat.reduceAdd]at h;obtain⟨-, -, -,⟨aB,⟨E,J,e3,O⟩,z3⟩, -, -, -,⟨aD,⟨F,G,e7,T⟩,z7⟩, -,⟨_,e9,_⟩, -⟩:=h;have O:=Ay O z3;have T:=Ay T z7;have f7:x.cell? ⟨w.heap.size,7,none⟩=some (jd p e.days.ex.length c):=(D.o.blk U.o).cell 7;have f8:x.cell? ⟨w.heap.size,8,none⟩=some (jd Y e.days.xt.length c2):=(D.o.blk U.o).cell 8;have z7:=(D.o.blk U.o).frozen 7;have z8:=(D.o.blk U.o).frozen 8;have B1:=(D.o.blk U.o).set 7 (jd E e.days.ex.length J);have ap:=Lh (show Af w.heap.size (Ae e (jd E e.days.ex.length J) (jd F e.days.xt.length G)) 61 _ from B1.set 8 (jd F e.days.xt.length G));have au:=Lh (((D.o.blk HR.o).set_other (show w.heap.size+1≠w.heap.size by omega) 7 (jd E e.days.ex.length J)).set_other (show w.heap.size+1≠w.heap.size by omega) 8 (jd F e.days.xt.length G));have al:=Lh (show Ah w.heap.size _ (jd E e.days.ex.length J) e.days.ex from A7 (A7 (Ab O (by omega)) (D.o.blk U.o) (by decide) 7 (jd E e.days.ex.length J)) B1 (by decide) 8 (jd F e.days.xt.length G));have ax:=Lh (show Ah w.heap.size _ (jd F e.days.xt.length G) e.days.xt from A7 (A7 (Ab T (by omega)) (D.o.blk U.o) (by decide) 7 (jd E e.days.ex.length J)) B1 (by decide) 8 (jd F e.days.xt.length G));have ar:=Lh (((HL.o.trans (D.o.below.mono Z)).setCell (show w.heap.size<=(⟨w.heap.size,7,none⟩:Addr).block from xa _) (jd E e.days.ex.length J)).setCell (show w.heap.size<=(⟨w.heap.size,8,none⟩:Addr).block from xa _) (jd F e.days.xt.length G));clear B1;refine DE fun QQ ah=>?_
 have HQ:=Lh ah;clear ah;simp only[e3,e7,e9,Ci];go_wp2_with fail;rw[HQ.o];refine Cm (fun x=> ∃(q q2:Option Addr) (d d2:Nat),Af w.heap.size (Ae e (jd q e.days.ex.length d) (jd q2 e.days.xt.length d2)) 61 x/\Af (w.heap.size+1) #[jc ⟨#[]⟩,ja jb 0,je false,ja jb 0,ja jb 0,ja jb 0,ja jb 0,jd none 0 0,jd none 0 0,ja jb 0,ja jb 0,jc ⟨#[]⟩,jc ⟨#[]⟩] 61 x/\Ah w.heap.size x (jd q e.days.ex.length d) e.days.ex/\Ah w.heap.size x (jd q2 e.days.xt.length d2) e.days.xt/\Below w.heap.size w x) (by exact⟨_,_,_,_,ap.o,au.o,al.o,ax.o,ar.o⟩) ?_;clear HQ;intro x aa;obtain⟨q,q2,d,d2,H,A,b3,b4,b5⟩:=aa;have y0:x.cell? ⟨w.heap.size,0,none⟩=some (jc e.uid):=H.cell 0;have y1:x.cell? ⟨w.heap.size,1,none⟩=some (ja jb e.seq):=H.cell 1;have y2:x.cell? ⟨w.heap.size,2,none⟩=some (je e.canc):=H.cell 2;have y3:x.cell? ⟨w.heap.size,3,none⟩=some (ja jb e.days.first):=H.cell 3;have y4:x.cell? ⟨w.heap.size,4,none⟩=some (ja jb e.days.last):=H.cell 4;have y5:x.cell? ⟨w.heap.size,5,none⟩=some (ja jb e.days.every):=H.cell 5;have y6:x.cell? ⟨w.heap.size,6,none⟩=some (ja jb e.days.wd):=H.cell 6;have y7:x.cell? ⟨w.heap.size,7,none⟩=some (jd q e.days.ex.length d):=H.cell 7;have y8:x.cell? ⟨w.heap.size,8,none⟩=some (jd q2 e.days.xt.length d2):=H.cell 8;have y9:x.cell? ⟨w.heap.size,9,none⟩=some (ja jb e.start):=H.cell 9;have ay:x.cell? ⟨w.heap.size,10,none⟩=some (ja jb e.mins):=H.cell 10;have aw:x.cell? ⟨w.heap.size,11,none⟩=some (jc e.summ):=H.cell 11;have aA:x.cell? ⟨w.heap.size,12,none⟩=some (jc e.loc):=H.cell 12;have r0:x.cell? ⟨w.heap.size+1,0,none⟩=some (jc ⟨#[]⟩):=A.cell 0;have r1:x.cell? ⟨w.heap.size+1,1,none⟩=some (ja jb 0):=A.cell 1;have r2:x.cell? ⟨w.heap.size+1,2,none⟩=some (je false):=A.cell 2;have r3:x.cell? ⟨w.heap.size+1,3,none⟩=some (ja jb 0):=A.cell 3;have r4:x.cell? ⟨w.heap.size+1,4,none⟩=some (ja jb 0):=A.cell 4;have r5:x.cell? ⟨w.heap.size+1,5,none⟩=some (ja jb 0):=A.cell 5;have r6:x.cell? ⟨w.heap.size+1,6,none⟩=some (ja jb 0):=A.cell 6;have r7:x.cell? ⟨w.heap.size+1,7,none⟩=some (jd none 0 0):=A.cell 7;have r8:x.cell? ⟨w.heap.size+1,8,none⟩=some (jd none 0 0):=A.cell 8;have r9:x.cell? ⟨w.heap.size+1,9,none⟩=some (ja jb 0):=A.cell 9;have ac:x.cell? ⟨w.heap.size+1,10,none⟩=some (ja jb 0):=A.cell 10;have af:x.cell? ⟨w.heap.size+1,11,none⟩=some (jc ⟨#[]⟩):=A.cell 11;have ag:x.cell? ⟨w.heap.size+1,12,none⟩=some (jc ⟨#[]⟩):=A.cell 12;have z0:=A.frozen 0;have z1:=A.frozen 1;have z2:=A.frozen 2;have z3:=A.frozen 3;have z4:=A.frozen 4;have z5:=A.frozen 5;have z6:=A.frozen 6;have z7:=A.frozen 7;have z8:=A.frozen 8;have z9:=A.frozen 9;have az:=A.frozen 10;have am:=A.frozen 11;have av:=A.frozen 12;have h1:=Lh H;have h2:=Lh A;have h3:=Lh b3;have h4:=Lh b4;have h5:=Lh b5;clear H A b3 b4 b5;go_wp2_with fail;obtain⟨W,hW,M,fX,fK⟩:=Jz h2.o e (jd q e.days.ex.length d) (jd q2 e.days.xt.length d2);rw[<-hW];have X9:=fX _ _ _ h3.o;have Y9:=fX _ _ _ h4.o;have L9:=fK w.heap.size w (by omega) h5.o;clear hW fX fK y0 r0 z0 y1 r1 z1 y2 r2 z2 y3 r3 z3 y4 r4 z4 y5 r5 z5 y6 r6 z6 y7 r7 z7 y8 r8 z8 y9 r9 z9 ay ac az aw af am aA ag av;have r0:W.cell? ⟨w.heap.size+1,0,none⟩=some (jc e.uid):=M.cell 0;have r1:W.cell? ⟨w.heap.size+1,1,none⟩=some (ja jb e.seq):=M.cell 1;have r2:W.cell? ⟨w.heap.size+1,2,none⟩=some (je e.canc):=M.cell 2;have r3:W.cell? ⟨w.heap.size+1,3,none⟩=some (ja jb e.days.first):=M.cell 3;have r4:W.cell? ⟨w.heap.size+1,4,none⟩=some (ja jb e.days.last):=M.cell 4;have r5:W.cell? ⟨w.heap.size+1,5,none⟩=some (ja jb e.days.every):=M.cell 5;have r6:W.cell? ⟨w.heap.size+1,6,none⟩=some (ja jb e.days.wd):=M.cell 6;have r7:W.cell? ⟨w.heap.size+1,7,none⟩=some (jd q e.days.ex.length d):=M.cell 7;have r8:W.cell? ⟨w.heap.size+1,8,none⟩=some (jd q2 e.days.xt.length d2):=M.cell 8;have r9:W.cell? ⟨w.heap.size+1,9,none⟩=some (ja jb e.start):=M.cell 9;have ac:W.cell? ⟨w.heap.size+1,10,none⟩=some (ja jb e.mins):=M.cell 10;have af:W.cell? ⟨w.heap.size+1,11,none⟩=some (jc e.summ):=M.cell 11;have ag:W.cell? ⟨w.heap.size+1,12,none⟩=some (jc e.loc):=M.cell 12;refine bodyPost_ret (v:=AW e (jd q e.days.ex.length d) (jd q2 e.days.xt.length d2)) (by simp[results,Tryz.results82,go_sem,r0,r1,r2,r3,r4,r5,r6,r7,r8,r9,ac,af,ag,AW,Ae]) rfl ?_;exact⟨q,d,q2,d2,rfl,X9,Y9,L9⟩
