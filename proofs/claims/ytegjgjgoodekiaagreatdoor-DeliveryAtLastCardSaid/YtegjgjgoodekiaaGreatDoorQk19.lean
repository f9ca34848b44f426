/- subscriber.Merge: its contract. What a row's condition says of the laid tables: the lengths of months and the powers of ten. The lines of a valid feed hold no ends of lines and begin with no blank; so they are what the text of a feed is unfolded to. No program in sight. timetablemore.Feed: its contract: a feed without fault in new memory. Plain facts on zones: which are valid, the instants at which clocks show a local time, and what a local time means. No program in sight. Condition: none. Zones in memory; zone.Valid and timetableref38.Valid: their contracts. Shifts in a row of their own, as a drawn zone holds them. No function of the program in sight. Condition: none. Events in a row of the call's own: one cell of one event written; one event more. No function of the program in sight. Condition: none. timetablelaw40.short over one event: its contract: an answer. timetableref17.SameInts: its contract. The law's awake: its contract. FeedTexts: the walk. The reference's Format for every feed: its contract. A reader's and a feed's events in memory. No function of the program in sight. Condition: none. timetablelaw40.some: its contract: a feed in new memory, sometimes an odd one. FeedFormats: the walk of the law. -/
import Derived.Test.YtegjgjgoodekiaaGreatDoorQk18
import Derived.Test.YtegjgjgoodekiaaGreatDoorQk13
import Derived.Deep.CutBlock
import Derived.Test.YtegjgjgoodekiaaGreatDoorQk7
import Derived.Test.YtegjgjgoodekiaaGreatDoorQk4
import Derived.Lib.LaidTab
import Derived.MakeChecks
import Derived.Test.YtegjgjgoodekiaaGreatDoorPk18
import Derived.Test.YtegjgjgoodekiaaGreatDoorQk8
import Derived.Test.YtegjgjgoodekiaaGreatDoorPk1
import Derived.StillTailTactics
import Derived.Test.YtegjgjgoodekiaaGreatDoorQk6
import Derived.Test.YtegjgjgoodekiaaGreatDoorUnfoldAll
import Derived.Test.YtegjgjgoodekiaaGreatDoorQk12
import Derived.Test.YtegjgjgoodekiaaGreatDoorPrs50
import Derived.Test.YtegjgjgoodekiaaGreatDoorQk9
open Go.Value renaming int->ja,string->jc,slice->jd,bool->je,pointer->jf,tuple->jg
open Go.IntKind renaming i64->jb
open Go.Ending renaming returned->jh
open Go.Obj renaming cells->ji
open List renaming length_map->xa,mem_singleton->xb,mem_cons->xc,mem_of_getElem?->xd,mem_cons_self->xe,not_mem_nil->xi,mem_append->xk,mem_cons_of_mem->xm,getElem?_map->xo,map_append->xp
open Go.World.ownsRow renaming alloc->xf
open Bool renaming and_eq_true->xg,or_eq_true->xl
open Option.some renaming inj->xh
open Nat renaming le_refl->xj,zero_le->xn
set_option maxRecDepth 100000
namespace Go.Proofs.YtegjgjgoodekiaaGreatDoor
open Go.RowKit
def OM(rv tag:Int)(es:List Ev)(n:ByteArray)(v:Int)(fs:List Ev)(w:World)(x:Ending)(w':World):Prop:=
 ∃(v' tag' c:Int) (pu:Option Addr) (cu:Nat) (us:List (Ev × Value × Value)) (pn:Option Addr) (cn:Nat) (ns:List Nt),
  x=jh (jg #[.agg #[ja jb v',ja jb tag',jd pu us.length cu],jd pn ns.length cn,ja jb c])/\
  (v',tag',us.map (·.1),ns,c)=BK rv tag es n v fs/\Av w.heap.size w' (jd pu us.length cu) us/\CZ w.heap.size w' (jd pn ns.length cn) ns/\Below w.heap.size w w'
structure LP (w0:World) (S:Nat) (v t:Int) (pu:Option Addr) (cu:Nat) (us:List (Ev × Value × Value)) (pn:Option Addr) (cn:Nat) (ns:List Nt) (W:World):Prop where
 box:Af S #[ja jb v,ja jb t,jd pu us.length cu] 47 W
 ge:w0.heap.size<=S
 row:Av w0.heap.size W (jd pu us.length cu) us
 nts:CZ w0.heap.size W (jd pn ns.length cn) ns
 low:Below w0.heap.size w0 W
section
variable {w0 W W':World} {S:Nat} {v t:Int} {pu:Option Addr} {cu:Nat} {us:List (Ev × Value × Value)} {pn:Option Addr} {cn:Nat} {ns:List Nt}
theorem LP.made(h:LP w0 S v t pu cu us pn cn ns W)(hb:Below W.heap.size W W'):LP w0 S v t pu cu us pn cn ns W':=⟨h.box.below hb h.box.lt,h.ge,h.row.made hb,Ay h.nts hb,h.low.trans (hb.mono h.low.size)⟩
theorem LP.put(h:LP w0 S v t pu cu us pn cn ns W)(hg:W.grownBy W' (Value.slice pu us.length cu).ownBlock){p:Option Addr}{c n:Nat}{A:List (Ev × Value × Value)}(hn:n=A.length)(hr:Av w0.heap.size W' (jd p n c) A):LP w0 S v t p c A pn cn ns (W'.setCell ⟨S,2,none⟩ (jd p n c)):=by
 subst hn;have w:=h.box.grown h.row.row hg (by decide);exact⟨w.set 2 _,h.ge,hr.set w (by decide) (by decide) 2 _,A7 (World.ownsRow.kept (show W.ownsRow w0.heap.size 54 3 _ _ _ from h.nts) hg (AU (show W.ownsRow w0.heap.size 54 3 _ _ _ from h.nts) h.row.row (by decide))) w (by decide) 2 _,(Ak h.low h.row.row (xj _) h.low.size hg).setCell (show w0.heap.size<=(⟨S,2,none⟩:Addr).block from h.ge) _⟩
theorem LP.over(h:LP w0 S v t pu cu us pn cn ns W)(hg:W.grownBy W' (Value.slice pu us.length cu).ownBlock){w:List (Ev × Value × Value)}(hn:w.length=us.length)(hr:Av w0.heap.size W' (jd pu us.length cu) w):LP w0 S v t pu cu w pn cn ns W':=by
 have A:W.ownsRow w0.heap.size 54 3 _ _ _:=h.nts;exact⟨by rw[hn];exact h.box.grown h.row.row hg (by decide),h.ge,by rw[hn];exact hr,World.ownsRow.kept A hg (AU A h.row.row (by decide)),Ak h.low h.row.row (xj _) h.low.size hg⟩
theorem LP.note(h:LP w0 S v t pu cu us pn cn ns W){n:Nt}{u:Value}(hg:W.grownBy W' (Value.slice pn ns.length cn).ownBlock){p:Option Addr}{c:Nat}(hu:u=jd p (ns.length+1) c)(hr:W'.ownsRow w0.heap.size 54 3 u (ns.length+1) (DI ns++[ja jb n.kind,jc n.uid,ja jb n.seq])):LP w0 S v t pu cu us p c (ns++[n]) W':=by
 subst hu;have w:W.ownsRow w0.heap.size 54 3 _ _ _:=h.nts;have kept: ∀{e k:Nat} {z:Value} {m:Nat} {xs:List Value},W.ownsRow w0.heap.size e k z m xs->e≠54->W'.ownsRow w0.heap.size e k z m xs:=fun hz he=>World.ownsRow.kept hz hg (AU hz w he)
 exact⟨h.box.grown w hg (by decide),h.ge,⟨kept h.row.row (by decide),fun s hs=>⟨(h.row.ref s hs).1,kept (h.row.ref s hs).2.1 (by decide),kept (h.row.ref s hs).2.2 (by decide)⟩⟩,by have:=CZ.snoc hr;simpa using this,Ak h.low w (xj _) h.low.size hg⟩
end
theorem M3{w W:World}{z:Array Value}(hz:z.size=3)(A:Af (w.heap.size+1+1) z 47 W)(F:Below w.heap.size w W)(a b c:Value): ∃Y,Y=((W.setCell ⟨w.heap.size+1+1,0,none⟩ a).setCell ⟨w.heap.size+1+1,1,none⟩ b).setCell ⟨w.heap.size+1+1,2,none⟩ c/\Y.cell? ⟨w.heap.size+1+1,0,none⟩=some a/\Y.cell? ⟨w.heap.size+1+1,1,none⟩=some b/\Y.cell? ⟨w.heap.size+1+1,2,none⟩=some c/\Below w.heap.size w Y/\(∀lo v us,Av lo W v us->Av lo Y v us)/\(∀lo v ns,CZ lo W v ns->CZ lo Y v ns):=by
 have s0:=A.set 0 a;have D:=s0.set 1 b;have E:=D.set 2 c;have hg: ∀i,w.heap.size<=(⟨w.heap.size+1+1,i,none⟩:Addr).block:=fun _=>by show _<=w.heap.size+1+1;omega
 refine⟨_,rfl,?_,?_,?_,((F.setCell (hg 0) a).setCell (hg 1) b).setCell (hg 2) c,fun lo v us h=>((h.set A (by decide) (by decide) 0 a).set s0 (by decide) (by decide) 1 b).set D (by decide) (by decide) 2 c,fun lo v ns h=>A7 (A7 (A7 h A (by decide) 0 a) s0 (by decide) 1 b) D (by decide) 2 c⟩
 ·rw[E.cell];simp[hz]
 ·rw[E.cell];simp[hz]
 ·rw[E.cell];simp[hz]
set_option maxHeartbeats 16000000 in
theorem O0(rv tag:Int)(ar:Option Addr)(cr:Nat)(rs:List (Ev × Value × Value))(fn:ByteArray)(U:Int)(af:Option Addr)(cf:Nat)(fs:List (Ev × Value × Value))(w:World)(hR:Fv w.heap.size w ar rs)(hF:Fv w.heap.size w af fs)
  (bj:rs.length<=1000000000) (bh:fs.length<=1000000000) (aP: ∀t∈rs,t.1.days.ex.length<=1000000/\t.1.days.xt.length<=1000000) (aG: ∀t∈fs,t.1.days.ex.length<=1000000/\t.1.days.xt.length<=1000000):
  Calls Tryz.prog 51 #[.agg #[ja jb rv,ja jb tag,jd ar rs.length cr],.agg #[jc fn,ja jb U,jd af fs.length cf]] w (OM rv tag (rs.map (·.1)) fn U (fs.map (·.1)) w):=by
 obtain⟨i1,aZ,aY,aX,ak⟩:=info_parts Vh;obtain⟨i0,hi,bg,aW,a6⟩:=info_parts Lv;obtain⟨w0,aF,HR,HF,HO,HL,aL⟩:=VM w #[ja jb rv,ja jb tag,jd ar rs.length cr] #[jc fn,ja jb U,jd af fs.length cf] #[ja jb 0,ja jb 0,jd none 0 0] 47 41 47;have V1: ∀W,Below w0.heap.size w0 W->Calls Tryz.prog 44 #[.agg #[ja jb rv,ja jb tag,jd ar rs.length cr]] W fun e w'=>e=jh (je (Cw rv (rs.map (·.1))))/\Below W.heap.size W w':=fun W h=>by
  have h:=ON rv tag (rs.map (·.1)) ar cr w.heap.size W (by have:=h.size;omega) ((hR.below HL).below (h.mono (by omega))).evs (by rw[xa];omega);rw[xa]at h;exact h
 have V2: ∀W,Below w0.heap.size w0 W->Calls Tryz.prog 74 #[.agg #[jc fn,ja jb U,jd af fs.length cf]] W fun e w'=>e=jh (ja jb (Aq fn U (fs.map (·.1))))/\Below W.heap.size W w':=fun W h=>by
  have h:=Gq fn U (fs.map (·.1)) af cf w.heap.size W (by have:=h.size;omega) ((hF.below HL).below (h.mono (by omega))).evs (by rw[xa];omega);rw[xa]at h;exact h
 have HV:=Lh (And.intro V1 V2);clear V1 V2;have HS:=Lh aL;clear aL;go_enter Tryz.func51,Tryz.ntmps51;go_upto_region 1 with(fail);rw[<-aF];clear aF;have y:=HR.c3;go_wp2_with fail;refine(HV.o.1 _ (Below.refl _ _)).mono ?_;rintro e w1 ⟨rfl,b1⟩;obtain⟨ok,av⟩: ∃b,Cw rv (rs.map (·.1))=b:=⟨_,rfl⟩
 have ac:=Lh av;rw[av];clear av y;cases ok
 ·have z:=(HO.below b1 HO.lt).c3;go_wp2_with fail;obtain⟨Y,F,y0,y1,y2,L, -, -⟩:=M3 rfl (HO.below b1 HO.lt) (HL.trans (b1.mono HL.size)) (ja jb 0) (ja jb 0) (jd none 0 0);rw[<-F];clear F z;refine bodyPost_ret (v:=jg #[.agg #[ja jb 0,ja jb 0,jd none 0 0],jd none 0 0,ja jb 1]) (by simp[results,Tryz.results51,go_sem,y0,y1,y2]) rfl ?_;exact⟨0,0,1,none,0,[],none,0,[],rfl,by unfold BK;rw[if_pos ac.o];rfl,Av.nil _ _,CZ.nil _ _,L⟩
 ·have y:=(HF.below b1 HF.lt).c3;go_wp2_with fail;refine(HV.o.2 _ b1).mono ?_;rintro e w2 ⟨rfl,b2⟩;have b2:=b1.trans (b2.mono b1.size);clear b1 y HV;obtain⟨E,hE⟩: ∃x,Aq fn U (fs.map (·.1))=x:=⟨_,rfl⟩
  have HE:=Lh hE;rw[hE];clear hE;by_cases h0:E=0
  ·subst h0;have bk:rs.length<=256/\fs.length<=256:=by
    have h1:=(BT _ _).1 ac.o;have h2:=BC HE.o;rw[xa]at h1 h2;exact⟨h1.2.2.1,h2.2.2.1⟩
   have y:=(HR.below b2 HR.lt).c3;obtain⟨S,hS⟩: ∃S,S=w2.heap.size:=⟨_,rfl⟩
   obtain⟨w3,ax⟩: ∃w3,w3=w2.alloc (ji #[ja jb rv,ja jb tag,jd none 0 0] 47):=⟨_,rfl⟩
   have M:=Lh (show LP w0 S rv tag none 0 [] none 0 [] w3 from by rw[ax,hS];exact⟨Af.new w2 _ _,b2.size,Av.nil _ _,CZ.nil _ _,b2.alloc b2.size _⟩);go_upto_region 7 with(fail);rw[<-ax,<-hS];clear ax hS y b2;have y:=(HR.below M.o.low HR.lt).c3;go_wp2_with fail;clear y;go_loopw [35] (fun iv W=> ∃(k:Nat) (pu:Option Addr) (O:Nat) (ts:List (Ev × Value × Value)),iv=ja jb k/\k<=rs.length/\Hid (LP w0 S rv tag pu O ts none 0 [] W)/\Hid (ts.map (·.1)=(rs.take k).map (·.1))) (fun iv _=>rs.length - (intOf iv).toNat)
   case atStart=>exact⟨0,none,0,[],rfl,xn _,M,Lh rfl⟩
   case round=>
    clear M;obtain⟨k,pu,O,ts,rfl,hk,M,HM⟩:=hrel;by_cases aA:k<rs.length
    ·obtain⟨e,pe,ke,pf,kf,b,o,ht,bf,hb,hE,ay,ap,hc⟩:=hR.one' aA;subst bf;have aR:(k:Int)<rs.length:=by omega
     have hl:=HL.trans (M.o.low.mono (show w.heap.size<=w0.heap.size by have:=HS.o;omega));have y:=(hc.below hb hl).all;have TW:Hid (∀x,Below w.heap.size w x->Calls Tryz.prog 82 #[AW e (jd pe e.days.ex.length ke) (jd pf e.days.xt.length kf)] x (Twin e x)):=Lh fun x hx=>Rb e pe pf ke kf x ((ay.below hx).mono hx.size) ((ap.below hx).mono hx.size) (aP _ (xd ht)).1 (aP _ (xd ht)).2
     obtain⟨X,G⟩: ∃X,X=wr.alloc (ji (Ae e (jd pe e.days.ex.length ke) (jd pf e.days.xt.length kf)) 61):=⟨_,rfl⟩
     have ab:Below wr.heap.size wr X:=by rw[G];exact Aa wr _
     have H:=Lh (show Af wr.heap.size (Ae e (jd pe e.days.ex.length ke) (jd pf e.days.xt.length kf)) 61 X from by rw[G];exact Af.new wr _ _);have MX:=Lh (M.o.made ab);have hl:=Lh (hl.trans (ab.mono hl.size));simp only[Ae]at G;go_upto_region 10 with(fail);rw[<-G];clear G y M ab hc;have HC: ∀x,gB X x->x.cell? ⟨S,2,none⟩=some (jd pu ts.length O):=fun x h=>(MX.o.made h).box.c3.2.2.1
     have HD: ∀x,gB X x->_:=fun x h=>(H.o.below h H.o.lt).ev.all
     refine AH GR.below 5 [gE _,gE _,gE _,fun _ u x=> ∃q d A d2,u=AW e (jd q e.days.ex.length d) (jd A e.days.xt.length d2)/\Ah X.heap.size x (jd q e.days.ex.length d) e.days.ex/\Ah X.heap.size x (jd A e.days.xt.length d2) e.days.xt,fun _ u x=> ∃q d A d2 g,u=jd (some ⟨g,0,none⟩) 1 1/\X.heap.size<=g/\Af g (Ae e (jd q e.days.ex.length d) (jd A e.days.xt.length d2)) 61 x/\Ah X.heap.size x (jd q e.days.ex.length d) e.days.ex/\Ah X.heap.size x (jd A e.days.xt.length d2) e.days.xt] rfl EA ⟨qE,qE,qE,by
      intro v x g h QQ K;simp only[A2,A1,gE,exists_and_left,and_true]at h;simp only[h]at K ⊢;go_wp2_with fail;refine(show Calls _ _ _ _ _ from TW.o x (hl.o.trans (g.mono hl.o.size))).mono ?_;rintro _ y ⟨q,d,A,d2,rfl,G,F,hb⟩;go_wp2_with fail;exact K _ _ ⟨q,d,A,d2,rfl,Ab G g.size,Ab F g.size⟩ (.inr hb),by
      intro v x g h QQ K;simp only[A2,A1]at h;obtain⟨⟨y,⟨q,d,A,d2,e3,G,F⟩,gy⟩, -⟩:=h;simp only[e3,AW,Ae]at K ⊢;go_wp2_with fail;exact K _ _ ⟨q,d,A,d2,_,rfl,g.size,Af.new x _ _,xf (Ay G gy) _,xf (Ay F gy) _⟩ (.inr (Aa x _)),trivial⟩ ?_
     intro v x g h;simp only[Dt,gE,exists_and_left]at h;obtain⟨-,⟨e1, -⟩, -, -,⟨y,⟨q,d,A,d2,gb,e4, -,hB,G,F⟩,gy⟩, -⟩:=h;have R:=Lh (MX.o.made g);have hB:=hB.below gy hB.lt;have ai:Cf w0.heap.size x (e,jd q e.days.ex.length d,jd A e.days.xt.length d2):=⟨hE,Ab (Ay G gy) (MX.o.low.size),Ab (Ay F gy) (MX.o.low.size)⟩
     have hA:ts.length+1<=maxLen/\(ts.length+1)*160<=140737488355328:=by
      have h:=congrArg List.length HM.o;simp only[xa,List.length_take]at h;unfold maxLen;omega
     simp only[e1,e4,Ci];clear e1 e4;go_wp2_with (at_builtin;refine wpList_append_own_at _ rfl (.tmp 40) (.tmp 43) 39 rfl w0.heap.size 61 i0 _ 13 160 Tryz.underlying39 hi bg aW a6 rfl (by decide) _ _ _ rfl R.o.row.row ⟨gb,0,none⟩ 1 1 _ rfl rfl (Bd hB) (CB _ _ _ _ _ _ _) hA.1 hA.2 R.o.low.size ?_);intro v' x8 D hg _ _;obtain⟨p8,q8,rfl⟩:=AM D;have M9:=Lh (R.o.put hg (by simp) (R.o.row.snoc ai hg D));have z:=(R.o.box.grown R.o.row.row hg (by decide)).c3;clear hg D;go_wp2_with fail;go_roundw
     case rel=>exact⟨k+1,p8,q8,_,by go_num,by omega,M9,Lh (by rw[xp,HM.o,List.take_add_one,ht,xp];rfl)⟩
     case measure=>simp[intOf];omega
    ·have a7:k=rs.length:=by omega
     subst a7;have HM:=Lh (show ts.map (·.1)=rs.map (·.1)from by rw[HM.o,List.take_length]);have y:=(HF.below M.o.low HF.lt).c3;have y':=(HR.below M.o.low HR.lt).c3;have aO:=M.o.box.c3;have HN:=Lh (show w.heap.size<=w0.heap.size from HL.size);by_cases hle:U<=rv
     ·have z:=(HO.below M.o.low HO.lt).c3;go_wp2_with fail;obtain⟨Y,F,y0,y1,y2,L,kt,kn⟩:=M3 rfl (HO.below M.o.low HO.lt) (HL.trans (M.o.low.mono HL.size)) (ja jb rv) (ja jb tag) (jd pu ts.length O);rw[<-F];clear F z y y' aO;refine bodyPost_ret (v:=jg #[.agg #[ja jb rv,ja jb tag,jd pu ts.length O],jd none 0 0,ja jb 0]) (by simp[results,Tryz.results51,go_sem,y0,y1,y2]) rfl ?_;exact⟨rv,tag,0,pu,O,ts,none,0,[],rfl,by unfold BK;rw[if_neg (by rw[ac.o];simp),if_neg (by rw[HE.o];simp),if_pos hle,HM.o],(kt _ _ _ M.o.row).mono HN.o,CZ.nil _ _,L⟩
     ·obtain⟨w4,am⟩: ∃w4,w4=wr.setCell ⟨S,0,none⟩ (ja jb U):=⟨_,rfl⟩
      have M4:=Lh (show LP w0 S U tag pu O ts none 0 [] w4 from by rw[am];exact⟨M.o.box.set 0 _,M.o.ge,M.o.row.set M.o.box (by decide) (by decide) 0 _,CZ.nil _ _,M.o.low.setCell (show w0.heap.size<=(⟨S,0,none⟩:Addr).block from M.o.ge) _⟩);have HX:=Lh (show Bn U none (fs.map (·.1))=0/\Bn rv none (rs.map (·.1))=0/\rv<=U from⟨(BC HE.o).2.2.2,((BT _ _).1 ac.o).2.2.2,by omega⟩);go_upto_region 15 with(fail);rw[<-am];clear am y y' aO M;have y:=(HF.below M4.o.low HF.lt).c3;go_wp2_with fail;clear y;go_loopw [11,59] (fun u iv W=> ∃(j:Nat) (pu:Option Addr) (O:Nat) (ts:List (Ev × Value × Value)) (pn:Option Addr) (cn:Nat) (T:List Nt),u=jd pn T.length cn/\iv=ja jb j/\j<=fs.length/\Hid (LP w0 S U tag pu O ts pn cn T W)/\Hid ((ts.map (·.1),T)=DV (rs.map (·.1)) ((fs.map (·.1)).take j))) (fun _ iv _=>fs.length - (intOf iv).toNat)
      case atStart=>exact⟨0,pu,O,ts,none,0,[],rfl,rfl,xn _,M4,Lh (by rw[HM.o];rfl)⟩
      case round=>
       clear M4 HM;obtain⟨j,pu,O,ts,pn,cn,T,rfl,rfl,hj,M,HM⟩:=hrel;have HQ:=Lh (show ts.length<=600/\T.length<=600 from by
        have h:=Fj (rs.map (·.1)) (fs.map (·.1)) j (by rw[xa];exact hj);rw[<-HM.o,xa]at h;have h1:=h.1;have h2:=h.2;simp only[xa]at h1 h2;omega)
       by_cases aA:j<fs.length
       ·obtain⟨e,pe,ke,pf,kf,b,o,ht,aU,hb,hE,ay,ap,hc⟩:=hF.one' aA;subst aU;have aR:(j:Int)<fs.length:=by omega
        have hl:=HL.trans (M.o.low.mono HN.o);have y:=(hc.below hb hl).all;have TW:Hid (∀x,Below w.heap.size w x->Calls Tryz.prog 82 #[AW e (jd pe e.days.ex.length ke) (jd pf e.days.xt.length kf)] x (Twin e x)):=Lh fun x hx=>Rb e pe pf ke kf x ((ay.below hx).mono hx.size) ((ap.below hx).mono hx.size) (aG _ (xd ht)).1 (aG _ (xd ht)).2
        obtain⟨X,G⟩: ∃X,X=wr.alloc (ji (Ae e (jd pe e.days.ex.length ke) (jd pf e.days.xt.length kf)) 61):=⟨_,rfl⟩
        have ab:Below wr.heap.size wr X:=by rw[G];exact Aa wr _
        have H:=Lh (show Af wr.heap.size (Ae e (jd pe e.days.ex.length ke) (jd pf e.days.xt.length kf)) 61 X from by rw[G];exact Af.new wr _ _);have MX:=Lh (M.o.made ab);have hl:=Lh (hl.trans (ab.mono hl.size));have aq:=Lh (show ∀g,(Value.slice pu ts.length O).ownBlock=some g->g<wr.heap.size from fun g hg=>(M.o.row.row.lt g hg).2);have aV:=M.o.box.lt;have aw:=Lh (show(fs.map (·.1))[j]?=some e from by rw[xo,ht];rfl);simp only[Ae]at G;go_upto_region 19 with(fail);rw[<-G];clear G y M ab hc ht;have aD:=Lh (show V4 (ts.map (·.1))from Uk U none _ (by have h:=RU HX.o.2.2 HX.o.2.1 HX.o.1 j;rw[<-HM.o]at h;exact h));have HC:Hid (Calls Tryz.prog 83 #[jd pu ts.length O,jc e.uid] X (OK (ts.map (·.1)) e.uid X)):=Lh (by
         obtain⟨a2,c2,h1,h2,h3⟩:=MX.o.row.seg;simp only[Value.slice.injEq]at h1;obtain⟨rfl, -,rfl⟩:=h1;have h:=VA (ts.map (·.1)) e.uid pu O X h3.evs (by rw[xa];have:=HQ.o.1;omega) (OH aD.o e.uid);rw[xa]at h;exact h)
        have y:=MX.o.box.c3;have y':=H.o.ev.all;go_wp2_with fail;refine HC.o.mono ?_;rintro x X1 ⟨i,f,rfl,aj,aC,aM,aE,hb1⟩;rw[xa]at aj;have HI:=Lh (And.intro aj (And.intro aC (And.intro aM aE)));have H:=Lh (H.o.below hb1 H.o.lt);have M:=Lh (MX.o.made hb1);have hl:=Lh (hl.o.trans (hb1.mono hl.o.size));have HZ:=Lh (And.intro aV H.o.lt);clear aC aM aE hb1 y y' HC MX;go_upto_block 4 with fail
        go_cut [14] (fun u W=> ∃(K:Int) (ag:Option Addr) (ae:Nat) (us:List (Ev × Value × Value)),u=ja jb K/\Hid (LP w0 S U tag ag ae us pn cn T W)/\Hid (Af wr.heap.size (Ae e (jd pe e.days.ex.length ke) (jd pf e.days.xt.length kf)) 61 W)/\Hid ((us.map (·.1),Bo K e T)=DV (rs.map (·.1)) ((fs.map (·.1)).take (j+1))))
        case first=>
         cases f
         ·have HA: ∀x,gB X1 x->_:=fun x h=>And.intro (M.o.made h).box.c3.2.2.1 (H.o.below h H.o.lt).ev.all
          go_wp2_with fail;refine AH GR.below 6 [gE _,gE _,gE _,gE _,fun _ u x=> ∃q d A d2,u=AW e (jd q e.days.ex.length d) (jd A e.days.xt.length d2)/\Ah X1.heap.size x (jd q e.days.ex.length d) e.days.ex/\Ah X1.heap.size x (jd A e.days.xt.length d2) e.days.xt,fun _ u x=> ∃q d A d2 g,u=jd (some ⟨g,0,none⟩) 1 1/\X1.heap.size<=g/\Af g (Ae e (jd q e.days.ex.length d) (jd A e.days.xt.length d2)) 61 x/\Ah X1.heap.size x (jd q e.days.ex.length d) e.days.ex/\Ah X1.heap.size x (jd A e.days.xt.length d2) e.days.xt] rfl EA ⟨qE,qE,qE,qE,by
           intro v x g h QQ K;simp only[A2,A1,gE,exists_and_left,and_true]at h;simp only[h]at K ⊢;go_wp2_with fail;refine(show Calls _ _ _ _ _ from TW.o x (hl.o.trans (g.mono hl.o.size))).mono ?_;rintro _ y ⟨q,d,A,d2,rfl,G,F,hb⟩;go_wp2_with fail;exact K _ _ ⟨q,d,A,d2,rfl,Ab G g.size,Ab F g.size⟩ (.inr hb),by
           intro v x g h QQ K;simp only[A2,A1]at h;obtain⟨⟨y,⟨q,d,A,d2,e3,G,F⟩,gy⟩, -⟩:=h;simp only[e3,AW,Ae]at K ⊢;go_wp2_with fail;exact K _ _ ⟨q,d,A,d2,_,rfl,g.size,Af.new x _ _,xf (Ay G gy) _,xf (Ay F gy) _⟩ (.inr (Aa x _)),trivial⟩ ?_
          intro v x g h;simp only[Dt,gE,exists_and_left]at h;obtain⟨-,⟨e1, -⟩,⟨e2, -⟩, -, -,⟨y,⟨q,d,A,d2,gb,e5,bi,hB,G,F⟩,gy⟩, -⟩:=h;have R:=Lh (M.o.made g);have ah:=Lh (H.o.below g H.o.lt);have ai:Cf w0.heap.size x (e,jd q e.days.ex.length d,jd A e.days.xt.length d2):=⟨hE,Ab (Ay G gy) M.o.low.size,Ab (Ay F gy) M.o.low.size⟩
          have HK:=Lh (Se w0.heap.size (jd pu ts.length O) ts.length i gb (Ap ts) (Ae e (jd q e.days.ex.length d) (jd A e.days.xt.length d2)).toList x R.o.row.row aj (by have:=HQ.o.1;omega) R.o.low.size (by rw[Array.toArray_toList];exact hB.below gy hB.lt) (fun h=>by have:=aq.o _ h;have:=HZ.o.2;omega) rfl (CB _ _ _ _ _ _ _) R.o.row.one);simp only[e1,e2,e5,Ci];clear e1 e2 e5 HA;go_wp2_with fail;refine HK.o.mono ?_;rintro _ x8 ⟨v',rfl,D,hg, -⟩;obtain⟨p8,q8,rfl⟩:=AM D;have hp:=NZ (t:=(e,jd q e.days.ex.length d,jd A e.days.xt.length d2)) aj HI.o.2.1 HI.o.2.2.1 (fun h=>by have:=HI.o.2.2.2.2 h;cases this);have M9:=Lh (R.o.put hg (by simp;omega) (R.o.row.ins ai hg i aj D));have hz:=(R.o.box.grown R.o.row.row hg (by decide)).c3;have E9:=Lh (Af.set_other (show Af wr.heap.size _ 61 x8 from(hg.block wr.heap.size ah.o.lt (fun h=>by have:=aq.o _ h.symm;omega)).trans ah.o) (show wr.heap.size≠S by have:=HZ.o.1;omega) 2 (jd p8 (ts.length+1) q8));have V:=Lh (show((ts.take i++(e,jd q e.days.ex.length d,jd A e.days.xt.length d2)::ts.drop i).map (·.1),Bo (C4 true e.canc) e T)=DV (rs.map (·.1)) ((fs.map (·.1)).take (j+1))from by
           rw[Gx _ _ j e aw.o,<-HM.o,<-hp,EP,IP (Mh aD.o HI.o.2.1 HI.o.2.2.1 (fun h=>by have:=HI.o.2.2.2.2 h;cases this))])
          have y:=E9.o.ev.all;clear hg D hp;go_wp2_with fail;refine(Re (⟨⟨#[]⟩,0,true,⟨0,0,0,0,[],[]⟩,0,0,⟨#[]⟩,⟨#[]⟩⟩:Ev) e none none pe pf 0 0 _ _ 0 0 ke kf _).mono ?_;rintro _ x9 ⟨rfl,az⟩;have M9:=Lh (M9.o.made az);have E9:=Lh (E9.o.below az E9.o.lt);clear az y hz;go_wp2_with fail;go_meet;exact⟨_,p8,q8,_,rfl,M9,E9,V⟩
         ·obtain⟨o1,aa,au⟩:=HI.o.2.2.2.1 rfl;obtain⟨⟨o,va,vb⟩,ht,rfl⟩: ∃t,ts[i]?=some t/\t.1=o1:=by
           rw[xo]at aa;cases h:ts[i]? with
           | none=>rw[h]at aa;cases aa
           | some t=>rw[h]at aa;exact⟨t,rfl,by simpa using aa⟩
          obtain⟨-,aK,ak⟩:=M.o.row.ref _ (xd ht);obtain⟨po,ko,aS⟩:=aK.slice;obtain⟨pp,kp,aJ⟩:=ak.slice;simp only at aS aJ au;subst aS;subst aJ;have aH:i<ts.length:=(List.getElem?_eq_some_iff.1 ht).1;have ba:(i:Int)<ts.length:=by omega
          obtain⟨g,rfl⟩:=M.o.row.ptr (by omega);have a8: ¬wr.heap.size=g:=by have:=aq.o g rfl;omega
          have J:=Lh (And.intro ht (And.intro aa au));have HA: ∀x,gB X1 x->_:=fun x h=>And.intro (M.o.made h).box.c3.2.2.1 (And.intro ((M.o.made h).row.ev i _ J.o.1).all (H.o.below h H.o.lt).ev.all)
          have y:=HA X1 (Below.refl _ _);clear ht aa au aK ak;by_cases al:o.seq<e.seq
          ·go_wp2_with fail;go_quiet (fail);have h2:gB X1 (X1.drewN nq):=below_drewN (Below.refl _ _) _;obtain⟨X2,aB⟩: ∃X2,X2=X1.drewN nq:=⟨_,rfl⟩
           try rw[<-aB]
           rw[<-aB]at h2;clear aB y;have HB:=fun x (h:gB X2 x)=>HA x (GR.below.trans h2 h)
           have bc:=Lh al;clear al;go_wp2_with fail;refine AH GR.below 8 [gE _,gE _,gE _,gE _,gE _,gE _,gE _,gE _] rfl EA ⟨qE,qE,qE,qE,qE,qE,by
            intro v x g h QQ K;simp only[A2,A1,gE,exists_and_left,and_true]at h;simp only[h]at K ⊢;go_wp2_with fail;refine(Re o e po pp pe pf _ _ _ _ ko kp ke kf x).mono ?_;rintro _ y ⟨rfl,hb⟩;go_wp2_with fail;exact K _ _ rfl (.inr hb),qE,trivial⟩ ?_
           intro v X3 h3 h;simp only[Dt,gE,exists_and_left]at h;obtain⟨-, -, -, -, -, -, -,⟨e7, -⟩, -⟩:=h;simp only[e7,Ci];have HC:=fun x (h:gB X3 x)=>HB x (GR.below.trans h3 h)
           go_wp2_with fail;refine AH GR.below 5 [gE _,gE _,gE _,gE _,fun _ u x=> ∃q d A d2,u=AW e (jd q e.days.ex.length d) (jd A e.days.xt.length d2)/\Ah X3.heap.size x (jd q e.days.ex.length d) e.days.ex/\Ah X3.heap.size x (jd A e.days.xt.length d2) e.days.xt] rfl EA ⟨qE,qE,qE,qE,by
            intro v x g h QQ K;simp only[A2,A1,gE,exists_and_left,and_true]at h;simp only[h]at K ⊢;go_wp2_with fail;have gx:=GR.below.trans h2 (GR.below.trans h3 g);refine(show Calls _ _ _ _ _ from TW.o x (hl.o.trans (Below.mono gx hl.o.size))).mono ?_;rintro _ y ⟨q,d,A,d2,rfl,G,F,hb⟩;go_wp2_with fail;exact K _ _ ⟨q,d,A,d2,rfl,Ab G g.size,Ab F g.size⟩ (.inr hb),trivial⟩ ?_
           intro v x g4 h;simp only[Dt,gE,exists_and_left]at h;obtain⟨-,⟨e1, -⟩,⟨e2, -⟩, -,⟨y,⟨q,d,A,d2,e4,G,F⟩,gy⟩, -⟩:=h;have gx:=GR.below.trans h2 (GR.below.trans h3 g4);have R:=Lh (M.o.made gx);have ah:=Lh (H.o.below gx H.o.lt);have aQ:w0.heap.size<=X3.heap.size:=(M.o.made (GR.below.trans h2 h3)).low.size;have ai:Cf w0.heap.size x (e,jd q e.days.ex.length d,jd A e.days.xt.length d2):=⟨hE,Ab (Ay G gy) aQ,Ab (Ay F gy) aQ⟩
           obtain⟨Y,F,T9,G9⟩:=R.o.row.store rfl i e (jd q e.days.ex.length d) (jd A e.days.xt.length d2) aH ai;have M9:=Lh (R.o.over G9 List.length_set T9);have E9:=Lh (show Af wr.heap.size (Ae e (jd pe e.days.ex.length ke) (jd pf e.days.xt.length kf)) 61 Y from(G9.block wr.heap.size ah.o.lt (fun h=>by cases h;exact a8 rfl)).trans ah.o);have hp:=NY (t:=(e,jd q e.days.ex.length d,jd A e.days.xt.length d2)) HI.o.2.1 J.o.1 J.o.2.2;have V:=Lh (show((ts.set i (e,jd q e.days.ex.length d,jd A e.days.xt.length d2)).map (·.1),Bo (C4 o.canc e.canc) e T)=DV (rs.map (·.1)) ((fs.map (·.1)).take (j+1))from by
            rw[Gx _ _ j e aw.o,<-HM.o,<-hp,EP,FX (Hr HI.o.2.1 J.o.2.1 J.o.2.2) J.o.2.1,if_pos bc.o])
           have aT:=Lh F;have z:=(R.o.row.ev i _ J.o.1).all;have z':=fun k=>World.ownsRow.frozenAt R.o.row.row k
           simp only[e1,e2,e4,Ci,AW,Ae];clear e1 e2 e4 HA HB HC F T9 G9 hp;go_wp2_with fail;rw[<-aT.o];go_meet;exact⟨_,_,O,_,rfl,M9,E9,V⟩
          ·have V:=Lh (show(ts.map (·.1),Bo 0 e T)=DV (rs.map (·.1)) ((fs.map (·.1)).take (j+1))from by rw[Gx _ _ j e aw.o,<-HM.o,FX (Hr HI.o.2.1 J.o.2.1 J.o.2.2) J.o.2.1,if_neg (by omega)];rfl);go_wp2_with fail;go_quiet (fail);go_wp2_with fail;go_meet;exact⟨0,_,O,ts,rfl,Lh (M.o.made (below_drewN (Below.refl _ _) _)),Lh (H.o.below (below_drewN (Below.refl _ _) _) H.o.lt),V⟩
        case rest=>
         clear M H hl;obtain⟨K,ag,ae,us,rfl,M,H,V⟩:=hcut;by_cases hK:K=0
         ·subst hK;go_wp2_with fail;go_roundw
          case rel=>exact⟨j+1,ag,ae,us,pn,cn,T,rfl,by go_num,by omega,M,V⟩
          case measure=>simp[intOf];omega
         ·have aN:=Lh (show(us.map (·.1),T++[⟨K,e.uid,e.seq⟩])=DV (rs.map (·.1)) ((fs.map (·.1)).take (j+1))from by have h:=V.o;unfold Bo at h;rwa [if_neg hK]at h);clear V;have y:=H.o.ev.all;have hA:T.length+1<=maxLen/\(T.length+1)*32<=140737488355328:=by have:=HQ.o.2;unfold maxLen;omega
          obtain⟨Z,hZ⟩: ∃Z,Z=wc.alloc (ji #[ja jb K,jc e.uid,ja jb e.seq] 54):=⟨_,rfl⟩
          have HB:=Af.new wc #[ja jb K,jc e.uid,ja jb e.seq] 54;have MZ:=Lh (M.o.made (Aa wc (ji #[ja jb K,jc e.uid,ja jb e.seq] 54)));go_wp2_with (at_builtin;refine wpList_append_own_at _ rfl (.tmp 110) (.tmp 117) 116 rfl w0.heap.size 54 i1 _ 3 32 Tryz.underlying116 aZ aY aX ak rfl (by decide) _ _ _ rfl MZ.o.nts ⟨wc.heap.size,0,none⟩ 1 1 [ja jb K,jc e.uid,ja jb e.seq] rfl rfl (Bd HB) (by intro u hu;simp only[xc,xi,or_false]at hu;rcases hu with rfl | rfl | rfl<;>rfl) hA.1 hA.2 MZ.o.low.size ?_);intro v' x8 D hg _ _;obtain⟨p8,q8,rfl⟩:=AM D;have M8:=Lh (show LP w0 S U tag ag ae us p8 q8 (T++[⟨K,e.uid,e.seq⟩]) x8 from MZ.o.note hg rfl D);clear hg D y HB;go_wp2_with fail;go_roundw
          case rel=>exact⟨j+1,ag,ae,us,p8,q8,T++[⟨K,e.uid,e.seq⟩],by simp,by go_num,by omega,M8,aN⟩
          case measure=>simp[intOf];omega
       ·have be:j=fs.length:=by omega
        subst be;have HM:=Lh (show(ts.map (·.1),T)=DV (rs.map (·.1)) (fs.map (·.1))from by have h:=HM.o;rwa [List.take_of_length_le (by simp)]at h);have y:=M.o.box.c3;have z:=(HO.below M.o.low HO.lt).c3;by_cases aI:256<(ts.length:Int)
        ·go_wp2_with fail;obtain⟨Y,F,y0,y1,y2,L, -, -⟩:=M3 rfl (HO.below M.o.low HO.lt) (HL.trans (M.o.low.mono HL.size)) (ja jb 0) (ja jb 0) (jd none 0 0);rw[<-F];clear F z y;refine bodyPost_ret (v:=jg #[.agg #[ja jb 0,ja jb 0,jd none 0 0],jd none 0 0,ja jb 2]) (by simp[results,Tryz.results51,go_sem,y0,y1,y2]) rfl ?_;exact⟨0,0,2,none,0,[],none,0,[],rfl,by unfold BK;rw[if_neg (by rw[ac.o];simp),if_neg (by rw[HE.o];simp),if_neg (by omega),<-HM.o,if_pos (by rw[xa];exact aI)];rfl,Av.nil _ _,CZ.nil _ _,L⟩
        ·go_wp2_with fail;obtain⟨Y,F,y0,y1,y2,L,kt,kn⟩:=M3 rfl (HO.below M.o.low HO.lt) (HL.trans (M.o.low.mono HL.size)) (ja jb U) (ja jb tag) (jd pu ts.length O);rw[<-F];clear F z y;refine bodyPost_ret (v:=jg #[.agg #[ja jb U,ja jb tag,jd pu ts.length O],jd pn T.length cn,ja jb 0]) (by simp[results,Tryz.results51,go_sem,y0,y1,y2]) rfl ?_;exact⟨U,tag,0,pu,O,ts,pn,cn,T,rfl,by unfold BK;rw[if_neg (by rw[ac.o];simp),if_neg (by rw[HE.o];simp),if_neg (by omega),<-HM.o,if_neg (by rw[xa];omega)],(kt _ _ _ M.o.row).mono HN.o,Ab (kn _ _ _ M.o.nts) HN.o,L⟩
  ·have z:=(HO.below b2 HO.lt).c3;go_wp2_with fail;obtain⟨Y,F,y0,y1,y2,L, -, -⟩:=M3 rfl (HO.below b2 HO.lt) (HL.trans (b2.mono HL.size)) (ja jb 0) (ja jb 0) (jd none 0 0);rw[<-F];clear F z;refine bodyPost_ret (v:=jg #[.agg #[ja jb 0,ja jb 0,jd none 0 0],jd none 0 0,ja jb E]) (by simp[results,Tryz.results51,go_sem,y0,y1,y2]) rfl ?_;exact⟨0,0,E,none,0,[],none,0,[],rfl,by unfold BK;rw[if_neg (by rw[ac.o];simp),HE.o,if_pos h0];rfl,Av.nil _ _,CZ.nil _ _,L⟩
theorem Ld{P:Program}{w:World}: ∀{l:List (String × DataW Unit)} {A:List MemPlace},DataW.LaidVars P w l A-> ∀{i:Nat} {x:String × DataW Unit},l[i]?=some x->
  ∃g t cs fuel p,P.globalNamed x.1=some g/\(P.globals[g]?).map (·.type)=some t/\w.var? P x.1=some cs/\DataW.trod (fun _=>()) P w 0 (fun _=>true) false fuel t cs.toList=some (x.2,p)
 | [],_,_,i,x,hx=>by simp at hx
 | (n,d)::r,A,h,i,x,hx=>by
  obtain⟨g,t,cs,fuel,p,q,D,E,G,F,hr,_⟩:=h;cases i with
  | zero=>
   simp only[List.getElem?_cons_zero,Option.some.injEq]at hx;subst hx;exact⟨g,t,cs,fuel,p,D,E,G,F⟩
  | succ i=>exact Ld hr (by simpa using hx)
theorem Je{W:World}{l:List (String × DataW Unit)}(h:laidMet Tryz.prog l W){i g n:Nat}{t e:TypeId}{k:IntKind}{zs:List Int}{x:String × DataW Unit}(hx:l[i]?=some x)(hd:x.2=Lib.tabData k zs)(hg:Tryz.prog.globalNamed x.1=some g)(E:(Tryz.prog.globals[g]?).map (·.type)=some t)
  (ht:Tryz.prog.underlying t=some (.array n e)) (he:Tryz.prog.underlying e=some (.int k)) (F:Tryz.prog.cellsOf e=1) (D:Tryz.prog.cellsOf t=n): ∃u fr,W.heap[g]?=some (ji (zs.map fun z=>Value.int k z).toArray u fr):=by
 obtain⟨R,hl,_⟩:=h;obtain⟨g',T,cs,J,p,G,M,w,H⟩:=Ld hl hx;obtain rfl:=xh (hg.symm.trans G);obtain rfl:=xh (E.symm.trans M);rw[hd]at H;have hc:=Lib.cells_of_tab ht he F D H;unfold World.var? at w;rw[G]at w;simp only[Option.bind_some]at w;split at w
 ·rename_i O u fr A
  simp only[Option.some.injEq]at w;subst w;exact⟨u,fr,by rw[A,<-hc]⟩
 ·cases w
theorem Qx{W:World}{l:List (String × DataW Unit)}(h:laidMet Tryz.prog l W){i:Nat}{x:String × DataW Unit}(hx:l[i]?=some x)(hd:x.2=Lib.tabData .i64 [31,28,31,30,31,30,31,31,30,31,30,31])(hg:Tryz.prog.globalNamed x.1=some 3):CD W:=by
 obtain⟨u,fr,hh⟩:=Je (g:=3) (t:=240) (e:=3) (n:=12) h hx hd hg (by kernel_rfl) (by kernel_rfl) (by kernel_rfl) (by kernel_rfl) (by kernel_rfl);intro j hj;have:W.cell? ⟨3,j,none⟩=(([31,28,31,30,31,30,31,31,30,31,30,31]:List Int).map fun z=>ja jb z).toArray[j]?:=by simp[World.cell?,hh]
 rw[this];exact(show ∀j:Nat,j<12->(([31,28,31,30,31,30,31,31,30,31,30,31]:List Int).map fun z=>ja jb z).toArray[j]?=some (ja jb (([31,28,31,30,31,30,31,31,30,31,30,31]:List Int).getD j 0))from fun j hj=>by
  rcases(show j=0∨j=1∨j=2∨j=3∨j=4∨j=5∨j=6∨j=7∨j=8∨j=9∨j=10∨j=11 by omega)with rfl | rfl | rfl | rfl | rfl | rfl | rfl | rfl | rfl | rfl | rfl | rfl<;>rfl) j hj
theorem RG{W:World}{l:List (String × DataW Unit)}(h:laidMet Tryz.prog l W){i:Nat}{x:String × DataW Unit}(hx:l[i]?=some x)(hd:x.2=Lib.tabData .u64 Lib.pow10Tab)(hg:Tryz.prog.globalNamed x.1=some 4):Pow W/\4<W.heap.size:=by
 obtain⟨u,fr,hh⟩:=Je (g:=4) (t:=263) (e:=234) (n:=20) h hx hd hg (by kernel_rfl) (by kernel_rfl) (by kernel_rfl) (by kernel_rfl) (by kernel_rfl);exact⟨⟨u,fr,hh⟩,(Array.getElem?_eq_some_iff.1 hh).1⟩
theorem iface_of_trod{P:Program}{w:World}{A t:Nat}{cs:List Value}{r:DataW Unit × List MemPlace}{m}(ht:P.underlying t=some (.interface m))(h:DataW.trod (fun _=>()) P w 0 (fun _=>true) false A t cs=some r):cs=[.nilIface]∨ ∃te pe,cs=[.iface te pe]:=by
 cases A with
 | zero=>cases h
 | succ n=>
  unfold DataW.trod at h;rw[ht]at h;split at h<;>simp_all
def isIface(P:Program)(t:TypeId):Bool:=match P.underlying t with | some (.interface _)=>true | _=>false
theorem Sh{P:Program}{t:TypeId}(ht:isIface P t=true): ∃m,P.underlying t=some (.interface m):=by
 unfold isIface at ht;split at ht
 ·exact⟨_,by assumption⟩
 ·cases ht
theorem Nc{W:World}{l:List (String × DataW Unit)}(h:laidMet Tryz.prog l W){i g:Nat}{t:TypeId}{x:String × DataW Unit}(hx:l[i]?=some x)(hg:Tryz.prog.globalNamed x.1=some g)(D:(Tryz.prog.globals[g]?).map (·.type)=some t)
  (ht:isIface Tryz.prog t=true): ∃ev,W.cell? ⟨g,0,none⟩=some ev/\(ev=.nilIface∨ ∃te pe,ev=.iface te pe):=by
 obtain⟨M,hl,_⟩:=h;obtain⟨g',O,cs,F,p,E,G,w,J⟩:=Ld hl hx;obtain rfl:=xh (hg.symm.trans E);obtain rfl:=xh (D.symm.trans G);obtain⟨m,hm⟩:=Sh ht;have hc:=iface_of_trod hm J;unfold World.var? at w;rw[E]at w;simp only[Option.bind_some]at w;split at w
 ·rename_i H u fr A
  simp only[Option.some.injEq]at w;subst w;rcases hc with hc | ⟨te,pe,hc⟩
  ·refine⟨.nilIface,?_,.inl rfl⟩;simp[World.cell?,A,<-Array.getElem?_toList,hc]
  ·refine⟨.iface te pe,?_,.inr ⟨te,pe,rfl⟩⟩;simp[World.cell?,A,<-Array.getElem?_toList,hc]
 ·cases w
end Go.Proofs.YtegjgjgoodekiaaGreatDoor
namespace Tt
def B0(l:List UInt8):Prop:=∀c∈l,32<=c.toNat/\c.toNat<=126
theorem B0.nil:B0 []:=fun c h=>by cases h
theorem B0.app{a b:List UInt8}(h:B0 a)(k:B0 b):B0 (a++b):=fun c hc=>(xk.1 hc).elim (h c) (k c)
theorem B0.cons{a:UInt8}{b:List UInt8}(h:32<=a.toNat/\a.toNat<=126)(k:B0 b):B0 (a::b):=fun c hc=>by
 rcases xc.1 hc with rfl | hc
 ·exact h
 ·exact k c hc
theorem B0.lit{l:List UInt8}(h:(l.all fun c=>decide (32<=c.toNat/\c.toNat<=126))=true):B0 l:=fun c hc=>by
 simpa using List.all_eq_true.1 h c hc
theorem B0.clean{l:List UInt8}(h:B0 l):Clean l:=fun c hc=>by
 have w:=(h c hc).1;constructor
 ·rintro rfl;exact absurd w (by decide)
 ·rintro rfl;exact absurd w (by decide)
theorem CA{n:Nat}(h:n<10):32<=(UInt8.ofNat (48+n)).toNat/\(UInt8.ofNat (48+n)).toNat<=126:=by
 rw[UInt8.toNat_ofNat'];omega
theorem Gu(n:Nat):B0 (Go.Lib.decDigits n):=by
 induction n using Go.Lib.decDigits.induct with
 | case1 n h=>rw[Go.Lib.decDigits_one h];exact B0.cons (CA h) B0.nil
 | case2 n h ih=>rw[CY h];exact ih.app (B0.cons (CA (by omega)) B0.nil)
theorem Ln{n:Nat}(h:n<100):B0 (d2 n):=B0.cons (CA (by omega)) (B0.cons (CA (by omega)) B0.nil)
theorem U4{n:Nat}(h:n<10000):B0 (d4 n):=B0.cons (CA (by omega)) (B0.cons (CA (by omega)) (B0.cons (CA (by omega)) (B0.cons (CA (by omega)) B0.nil)))
theorem Mw{d:Int}(A:0<=d)(w:d<=36524):B0 (dateL d):=by
 obtain⟨D,F,G,H,E,d1⟩:=date_toNat A w;exact((U4 (by omega)).app (Ln (by omega))).app (Ln (by omega))
theorem G4{d s:Int}(A:0<=d)(w:d<=36524)(D:0<=s)(E:s<1440):B0 (stampL d s):=
 ((((Mw A w).app (B0.lit rfl)).app (Ln (by omega))).app (Ln (by omega))).app (B0.lit rfl)
theorem F4{s:Int}(w:0<=s)(A:s<1440): ∀ds:List Int,(∀d∈ds,0<=d/\d<=36524)->B0 (stampsL s ds)
 | [],_=>B0.nil
 | [d],h=>G4 (h d (xe ..)).1 (h d (xe ..)).2 w A
 | d::e::r,h=>(G4 (h d (xe ..)).1 (h d (xe ..)).2 w A).app (B0.cons (by decide) (F4 w A (e::r) fun x hx=>h x (xm _ hx)))
theorem KF(w:List UInt8): ∀(xs:List (List UInt8)) (y:List UInt8),y∈xs.intersperse w->y=w∨y∈xs
 | [],y,h=>by cases h
 | [x],y,h=>.inr h
 | x::z::r,y,h=>by
  rw[List.intersperse_cons_cons]at h;rcases xc.1 h with h | h
  ·exact .inr (by rw[h];exact xe ..)
  ·rcases xc.1 h with h | h
   ·exact .inl h
   ·rcases KF w (z::r) y h with h | h
    ·exact .inl h
    ·exact .inr (xm _ h)
theorem U5(wd:Int):B0 (byL wd 7):=by
 intro c hc;unfold byL Go.Lib.join List.intercalate at hc;obtain⟨y,hy,w⟩:=List.mem_flatten.1 hc;have:B0 y:=by
  rcases KF _ _ _ hy with rfl | h
  ·exact B0.lit rfl
  ·obtain⟨k,hk,rfl⟩:=List.mem_map.1 h;have A:k<7:=List.mem_range.1 (List.mem_filter.1 hk).1;exact B0.lit ((show ∀k:Nat,k<7->((nameW k).all fun c=>decide (32<=c.toNat/\c.toNat<=126))=true by decide) k A)
 exact this c w
theorem RF{s:Ser}(h:Head s):B0 (ruleL s):=by
 have A:=h.l0;have w:=h.l1;unfold ruleL;exact(((((B0.lit rfl).app (Gu _)).app (B0.lit rfl)).app (U5 _)).app (B0.lit rfl)).app (Mw A w)
theorem Ky{c:UInt8}(h:alnum c=true∨sign c=true):32<=c.toNat/\c.toNat<=126:=by
 unfold alnum sign at h;simp only[xl,xg,decide_eq_true_eq,beq_iff_eq,UInt8.le_iff_toNat_le]at h;rcases h with(h | h) | h
 ·rcases h with h | h
  ·have a:=h.1;have b:=h.2;simp at a b;omega
  ·have a:=h.1;have b:=h.2;simp at a b;omega
 ·have a:=h.1;have b:=h.2;simp at a b;omega
 ·rcases h with rfl | rfl<;>decide
theorem I1{l:List UInt8}(h:code l=true):B0 l:=by
 cases l with
 | nil=>exact B0.nil
 | cons c r=>
  unfold code at h;simp only[xg]at h;refine B0.cons (Ky (.inl h.1.2)) fun x hx=>?_
  have:=List.all_eq_true.1 h.2 x hx;rw[xl]at this;exact Ky this
theorem OU{l:List UInt8}(h:labB l=true):B0 (esc l):=by
 unfold labB at h;rw[xg]at h;intro c hc;obtain⟨a,ha,w⟩:=List.mem_flatMap.1 hc;have hl:=List.all_eq_true.1 h.1 a ha;unfold labC at hl;simp only[xl,xg,beq_iff_eq,decide_eq_true_eq]at hl;unfold escB at w;split at w
 ·rename_i E
  rcases xc.1 w with rfl | A
  ·decide
  ·rw[xb.1 A];rcases E with rfl | rfl | rfl<;>decide
 ·split at w
  ·rcases xc.1 w with rfl | A
   ·decide
   ·rw[xb.1 A];decide
  ·rename_i E A
   rw[xb.1 w];rcases hl with D | D
   ·exact absurd D A
   ·exact D
end Tt
namespace Go.Proofs.YtegjgjgoodekiaaGreatDoor
open Go.RowKit Tt
theorem Qi{l:List UInt8}(h:A8 l=true):B0 l:=by
 by_cases hm:(64:UInt8)∈l
 ·obtain⟨a,b,rfl,ha⟩:=first_split l hm;unfold A8 rightP at h;rw[cut_first a b ha]at h;simp only[Bool.true_and,xg]at h;obtain⟨hc,hn⟩:=h;refine(I1 hc).app (B0.cons (by decide) ?_);unfold numFrom at hn;rw[decide_eq_true_iff]at hn;obtain⟨j,hj, -,rfl⟩:=hn;exact Gu j
 ·rw[show A8 l=false from rightP_none _ _ hm]at h;cases h
theorem SA{e:Ev}{v:Int}{z:List UInt8}(hr:A8 e.uid.data.toList=true)(hc:Ax e v=0)(hz:B0 z): ∀l∈Ao e z,B0 l/\begins l=false:=by
 obtain⟨T,U,D, -,w,A,R,O, -,E,M⟩:=CS hc;have hh:=((serV_zero e.days).1 D).1;have F:=hh.f0;have J:=hh.f1;obtain⟨H,G⟩:=Fm D;intro l hl;unfold Ao Ke JX JY Oi Ly LN at hl;simp only[xk,xc,xi,or_false]at hl;rcases hl with((((h | h) | h) | h) | h) | h
 ·rcases h with rfl | rfl | rfl | rfl | rfl | rfl
  ·exact⟨B0.lit rfl,rfl⟩
  ·exact⟨(B0.lit rfl).app (Qi hr),rfl⟩
  ·exact⟨(B0.lit rfl).app (Gu _),rfl⟩
  ·exact⟨(((B0.lit rfl).app hz).app (B0.lit rfl)).app (G4 F J w A),rfl⟩
  ·exact⟨((B0.lit rfl).app (Gu _)).app (B0.lit rfl),rfl⟩
  ·exact⟨(B0.lit rfl).app (RF hh),rfl⟩
 ·split at h
  ·cases h
  ·rw[xb.1 h];exact⟨(((B0.lit rfl).app hz).app (B0.lit rfl)).app (F4 w A _ H),rfl⟩
 ·split at h
  ·cases h
  ·rw[xb.1 h];exact⟨(((B0.lit rfl).app hz).app (B0.lit rfl)).app (F4 w A _ G),rfl⟩
 ·subst h;exact⟨(B0.lit rfl).app (OU E),rfl⟩
 ·split at h
  ·cases h
  ·rw[xb.1 h];exact⟨(B0.lit rfl).app (OU M),rfl⟩
 ·rcases h with rfl | rfl
  ·split<;>exact⟨B0.lit rfl,rfl⟩
  ·exact⟨B0.lit rfl,rfl⟩
theorem Ge{n z:ByteArray}{v:Int}{es:List Ev}(hv:Aq n v es=0)(hz:code z.data.toList=true): ∀l∈AI n.data.toList v es z.data.toList,B0 l/\begins l=false:=by
 obtain⟨v0,E,D,w⟩:=BC hv;have hn:code n.data.toList=true:=by
  unfold Aq at hv;split at hv
  ·cases hv
  ·rename_i h;simpa using h
 intro l hl;unfold AI CI at hl;simp only[xk,xc,xi,or_false,List.mem_flatMap]at hl;rcases hl with(h | ⟨e,he,h⟩) | h
 ·rcases h with rfl | rfl | rfl | rfl | rfl
  ·exact⟨B0.lit rfl,rfl⟩
  ·exact⟨B0.lit rfl,rfl⟩
  ·exact⟨B0.lit rfl,rfl⟩
  ·exact⟨(B0.lit rfl).app (I1 hn),rfl⟩
  ·exact⟨(B0.lit rfl).app (Gu _),rfl⟩
 ·have A:=By v es none w e he;exact SA A.1 A.2 (I1 hz) l h
 ·subst h;exact⟨B0.lit rfl,rfl⟩
theorem QE{n z:ByteArray}{v:Int}{es:List Ev}(hv:Aq n v es=0)(hz:code z.data.toList=true):unf (BU n.data.toList v es z.data.toList)=some (AI n.data.toList v es z.data.toList):=
 unf_folds _ (by unfold AI CI;simp) (fun l hl=>(Ge hv hz l hl).1.clean) (fun l hl=>(Ge hv hz l hl).2)
end Go.Proofs.YtegjgjgoodekiaaGreatDoor
namespace Tt
end Tt
namespace Go.Proofs.YtegjgjgoodekiaaGreatDoor
open Go.RowKit
end Go.Proofs.YtegjgjgoodekiaaGreatDoor
-- Short
namespace Go.Proofs.YtegjgjgoodekiaaGreatDoor
open Go.RowKit
end Go.Proofs.YtegjgjgoodekiaaGreatDoor
-- Law10a
namespace Go.Proofs.YtegjgjgoodekiaaGreatDoor
open Go.RowKit
end Go.Proofs.YtegjgjgoodekiaaGreatDoor
-- Awake
namespace Go.Proofs.YtegjgjgoodekiaaGreatDoor
open Go.RowKit
end Go.Proofs.YtegjgjgoodekiaaGreatDoor
-- Law7
namespace Go.Proofs.YtegjgjgoodekiaaGreatDoor
open Go.RowKit
def UD(w:World)(ao:Option Addr)(len:Nat):Prop:=∀i,i<len-> ∃a n,ao=some a/\a.block<w.heap.size/\w.cell? (a.add i)=some (ja jb n)/\ -9223372036854775808<=n/\n<=9223372036854775807
theorem KH(ao:Option Addr)(A cap:Nat)(w:World):
  Calls Tryz.prog 4 #[jd ao A cap] w fun e w'=>e=jh (je (decide ((A:Int)<=400)))/\w'=w:=by
 go_enter Tryz.func4,Tryz.ntmps4;go_wp2_with fail;go_ret;exact⟨rfl,rfl⟩
theorem Rx(ao:Option Addr)(A cap:Nat)(w:World)(hl:A<=400)(hn:UD w ao A):
  Calls Tryz.prog 6 #[jd ao A cap] w fun e w'=>e=jh (jf (some ⟨w.heap.size,0,none⟩))/\BJ w.heap.size w'/\Below w.heap.size w w'/\w.heap.size+1<=w'.heap.size:=by
 go_enter Tryz.func6,Tryz.ntmps6;go_wp2_with fail;go_ret;have hb:Below w.heap.size w (w.alloc (ji #[jd ao A cap,ja jb 0] 63)):=(Below.refl _ w).alloc (xj _) _;refine⟨rfl,⟨ao,A,cap,0,⟨heap_alloc_new w _,xn _,hl,fun i hi=>?_⟩⟩,hb,by simp⟩;obtain⟨a,n,ha,D,hc,hn⟩:=hn i hi;exact⟨a,n,ha,D,(hb.cell (p:=a.add i) (by rw[AP];omega)).trans hc,hn⟩
