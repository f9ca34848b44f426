/- timetableref39.Days: its contract: the days of the series. timetablemore.many: its contract: a number. recurrence.regulars: the iterator over the regular days of a series; slices.Clone and Contains at whole numbers. DERIVED: THE SHELF's CONTRACTS AT THIS DUMP, IN PLAIN WORDS (tools/lay-plain.mjs out of 'TryzSort.lean', which tools/lay-shelf.mjs wrote): THE SAME DECLARATIONS UNDER THE SAME NAMES: 'import', 'namespace', 'open', 'def', 'theorem' AND NOTHING ELSE: no command of the shelf's: FOR A HAND-IN. Each laying: the table of numbers ('.._ren') and one theorem, a field a fact of the dump's own or the kernel's comparison; each contract: ONE APPLICATION. recurrence.Days: its contract. Plain facts on identifiers of events, and on decimal numbers. No program in sight. Condition: none. Identifiers of events: contracts of feed.right, timetableref40.right and decimal. Codes and labels: contracts of timetableref03.Valid and of both label functions; of timetableref40.right. Labels and identifiers: contracts of both label functions and of timetableref40.right. Plain facts on events and feeds: what is valid. No program in sight. Condition: none. timetableref40.right: its contract. -/
import Derived.Test.YtegjgjgoodekiaaGreatDoorQk4
import Derived.Test.YtegjgjgoodekiaaGreatDoorUnfoldAll
import Derived.RangeFuncNested
import Derived.RangeFuncBound
import Derived.RangeFuncCalls
import Derived.RangeFuncLeaves
import Derived.RangeFuncBox
import Derived.Shelf.Abstract
import Derived.Shelf.RegionOpen
import Derived.WalkKit
import Derived.OwnWalkIn
import Derived.TacticsInMore
import Derived.LoopNIn
import Derived.LoopIn
import Derived.Maps.AppendAt
import Derived.Test.YtegjgjgoodekiaaGreatDoorShelf
import Derived.Shelf.Sort.Plain
import Derived.Shelf.Slices.In.SortNone
import Derived.Test.YtegjgjgoodekiaaGreatDoorProg
import Derived.Sort.OwnSortedInts
import Derived.Lib.ItoaNum
import Derived.Lib.IndexMore
import Derived.Lib.IndexLaws
import Derived.Lib.IndexBytes
import Derived.Test.YtegjgjgoodekiaaGreatDoorQk3
import Derived.Test.YtegjgjgoodekiaaGreatDoorPk1
import Derived.Deep.RegionHeld3
open Go.Value renaming int->ja,string->jc,slice->jd,bool->je,pointer->jf,tuple->jg
open Go.IntKind renaming i64->jb
open Go.Ending renaming returned->jh
open Go.Obj renaming cells->ji
open List renaming getElem?_eq_getElem->xa,getElem?_eq_some_iff->xc,eq_nil_of_length_eq_zero->xd,drop_eq_getElem_cons->xf,mem_singleton->xg,length_cons->xi,cons_append->xj,mem_of_getElem?->xk,size_toArray->xm,append_assoc->xn,nil_append->xp,length_nil->xq,mem_cons->xu
open Nat renaming le_refl->xb,zero_le->xl
open Array renaming getElem?_eq_some_iff->xe
open Go.World renaming ownsRow_nil->xh
open Bool renaming and_eq_true->xo,or_eq_true->xr
set_option maxRecDepth 100000
set_option maxHeartbeats 40000000
-- SerD
namespace Go.Proofs.YtegjgjgoodekiaaGreatDoor
open Go.RowKit
theorem Ints.form{B:Nat}{w:World}{ao:Option Addr}{xs:List Int}(h:Ints B w ao xs)(hne:0<xs.length):
  ∃b o,ao=some ⟨b,o,none⟩/\b<B/\ ∀(j:Nat) (x:Int),xs[j]?=some x->w.cell? ⟨b,o+j,none⟩=some (ja jb x):=by
 obtain⟨⟨b,o,sp⟩,ha,D,hc⟩:=h 0 _ (xa hne);rw[Addr.add_zero']at hc;have E:sp=none:=World.cell?_spot hc;subst E;refine⟨b,o,ha,D,fun j x hx=>?_⟩;obtain⟨F,A,_,hc'⟩:=h j x hx;rw[ha]at A;cases A;rw[Addr.add_lit]at hc';exact hc'
theorem UK(B:Nat)(ao:Option Addr)(c:Nat)(xs:List Int)(x:Int)(w:World)(J:Ints B w ao xs)(hn:xs.length<=4611686018427387903):
  Calls Tryz.prog 121 #[jd ao xs.length c,ja jb x] w fun e w'=>e=jh (je (decide (x∈xs)))/\w'=w:=by
 have M:=Lh J;clear J;go_enter Tryz.func121,Tryz.ntmps121;go_wp2_with fail;go_loop [5] (fun i=> ∃k:Nat,i=ja jb k/\k<=xs.length/\Hid (decide (x∈xs)=decide (x∈xs.drop k))) (fun i=>xs.length - (intOf i).toNat)
 case atStart=>exact⟨0,rfl,xl _,rfl⟩
 case round=>
  obtain⟨k,rfl,hk,F⟩:=hrel;by_cases E:k<xs.length
  ·obtain⟨d,hd⟩: ∃d,xs[k]?=some d:=⟨_,xa E⟩
   obtain⟨b,o,ha,hb,D⟩:=M.o.form (by omega);subst ha;have hc:=D k d hd;have G:(k:Int)<(xs.length:Int):=by omega
   have H:=Lh (show decide (x∈xs.drop k)=(decide (x=d) || decide (x∈xs.drop (k+1)))by
    obtain⟨g1,g2⟩:=xc.1 hd;rw[xf g1,g2];simp)
   clear hd D;by_cases he:d=x
   ·have ht:(d==x)=true:=by simp[he]
    have A:=Lh (show decide (x∈xs)=true by rw[F.o,H.o,he];simp);clear he;go_wp2_with fail;go_ret;exact⟨Ag A.o.symm,rfl⟩
   ·have ht:(d==x)=false:=by simp[he]
    have A:=Lh (show decide (x∈xs)=decide (x∈xs.drop (k+1))by rw[F.o,H.o,decide_eq_false (fun e=>he e.symm)];rfl);clear he;go_wp2_with fail;go_round
    case rel=>exact⟨k+1,by go_num,by omega,A.o⟩
    case measure=>simp[intOf];omega
  ·have G: ¬(k:Int)<(xs.length:Int):=by omega
   have A:=Lh (show decide (x∈xs)=false by rw[F.o,List.drop_eq_nil_of_le (by omega)];simp);go_wp2_with fail;go_ret;exact⟨Ag A.o.symm,rfl⟩
-- DAYS
theorem Cg(s:Tt.Ser)(B:Nat)(w:World)(hn:s.ex.length<=4611686018427387903)(E:s.xt.length<=4611686018427387903)(ao A:Option Addr)(c c':Nat)(G:B<=w.heap.size)(F:Ints B w ao s.ex)(D:Ints B w A s.xt):
  Calls Tryz.prog 133 #[Bf s (jd ao s.ex.length c) (jd A s.xt.length c')] w fun e w'=>e=jh (ja jb (Tt.serV s))/\Below w.heap.size w w':=by
 by_cases h:Tt.headV s=0
 ·exact J3 s B w ((Tt.headV_zero s).1 h) ao A c c' G F D
 ·rw[Tt.serV_head s h];exact J2 s w h hn E ao A c c'
theorem Ig{α:Type}(f:α->Bool)(l:List α)(x:α):(l++[x]).filter f=l.filter f++(if f x=true then[x]else[]):=by
 rw[List.filter_append];cases h:f x<;>simp[h]
theorem Ab{w:World}{B A:Nat}{e:TypeId}{size:Nat}{v:Value}{n:Nat}{xs:List Value}(h:w.ownsRow B e size v n xs)(E:A<=B):w.ownsRow A e size v n xs:=by
 refine⟨h.1,?_⟩;rcases h.2 with D | ⟨g,cap,cur,r1,r2,r3⟩
 ·exact .inl D
 ·exact .inr ⟨g,cap,cur,r1,by omega,r3⟩
theorem Dy:(Tryz.prog.info? 3).map (fun i=>(i.zero,i.size,i.bytes))=some (some (ja jb 0),1,8):=by kernel_rfl
end Go.Proofs.YtegjgjgoodekiaaGreatDoor
-- Many
namespace Go.Proofs.YtegjgjgoodekiaaGreatDoor
open Go.RowKit
end Go.Proofs.YtegjgjgoodekiaaGreatDoor
-- Days1
namespace Go.Proofs.YtegjgjgoodekiaaGreatDoor
open Go.RowKit Go.Shelf
theorem Nn(B:Nat)(ao:Option Addr)(c:Nat)(xs:List Int)(x:Int)(w:World)(D:Ints B w ao xs)(hn:xs.length<=4611686018427387903):
  Calls Tryz.prog 166 #[jd ao xs.length c,ja jb x] w fun e w'=>e=jh (je (decide (x∈xs)))/\w'=w:=by
 rcases Nat.eq_zero_or_pos xs.length with A | A
 ·have:xs=[]:=xd A;subst this;refine(Tryz.slices_Contains_int_empty ao c x w).mono ?_;rintro e w' ⟨rfl,rfl⟩;exact⟨Ag (by simp),rfl⟩
 ·obtain⟨b,o,rfl,_,hc⟩:=D.form A;refine(Tryz.slices_Contains_int b o xs.length c xs x w (xb _) (by omega) (fun j hj=>?_)).mono ?_
  ·rw[hc j _ (xa hj)];simp[List.getD_eq_getElem?_getD,hj]
  ·rintro e w' ⟨rfl,rfl⟩;exact⟨Ag (by rw[List.take_length];simp),rfl⟩
theorem JL(B:Nat)(ao:Option Addr)(c:Nat)(xs:List Int)(w:World)(F:Ints B w ao xs)(hn:xs.length<=1000000):
  Calls Tryz.prog 112 #[jd ao xs.length c] w fun e w'=> ∃v',e=jh v'/\w'.ownsRow w.heap.size 3 1 v' xs.length (xs.map (Value.int .i64))/\Below w.heap.size w w':=by
 rcases Nat.eq_zero_or_pos xs.length with D | D
 ·have:xs=[]:=xd D;subst this;cases ao with
  | none=>
   refine(Tryz.slices_Clone_int_nil _ c w).mono ?_;rintro e w' ⟨rfl,rfl⟩;exact⟨_,rfl,xh _ _ _ _,Below.refl _ _⟩
  | some a=>
   refine(Tryz.slices_Clone_int_zero a c w).mono ?_;rintro e w' ⟨v',rfl,A,_,E⟩;exact⟨_,rfl,A,E⟩
 ·obtain⟨b,o,rfl,_,hc⟩:=F.form D;refine(Tryz.slices_Clone_int b o xs.length c xs w (xb _) (by omega) (fun j hj=>?_)).mono ?_
  ·rw[hc j _ (xa hj)];simp[List.getD_eq_getElem?_getD,hj]
  ·rintro e w' ⟨v',rfl,A,_,E⟩;rw[List.take_length]at A;exact⟨_,rfl,A,E⟩
theorem Mq(s:Tt.Ser)(ao A:Option Addr)(n n' c c':Nat)(w:World):
  Calls Tryz.prog 165 #[Bf s (jd ao n c) (jd A n' c')] w fun e w'=>e=jh (.func (.func 189) #[] #[jf (some ⟨w.heap.size,0,none⟩)])/\w'=w.alloc (ji #[ja jb s.first,ja jb s.last,ja jb s.every,ja jb s.wd,jd ao n c,jd A n' c'] 59):=by
 unfold Bf;go_enter Tryz.func165,Tryz.ntmps165;go_wp2_with fail;go_ret;exact⟨rfl,rfl⟩
attribute [local go_sem] Oper.semAt_some
def Dl(s:Tt.Ser)(k:Nat):List Int:=(Tt.daysFrom s.first k).filter (Tt.regB s)
theorem NW(s:Tt.Ser)(k:Nat):Dl s (k+1)=Dl s k++(if Tt.regB s (s.first+k)=true then[s.first+k]else[]):=by
 unfold Dl;rw[Tt.daysFrom_snoc,Ig]
theorem Mr(s:Tt.Ser)(k:Nat):(Dl s k).length<=k:=by
 have:=List.length_filter_le (Tt.regB s) (Tt.daysFrom s.first k);rw[Tt.daysFrom_length]at this;exact this
def VV(b:Nat)(W W':World):Prop:=W'.heap[b]?=W.heap[b]?
theorem Nx{w w':World}(h:Below w.heap.size w w'):w.grownBy w' none:=⟨h.os,h.tape,h.output,h.size,fun k hk _=>h.block k hk⟩
theorem Mp(n:Nat)(hn:1<=n)(l H:Nat)(s:Tt.Ser)(hh:Tt.Head s)(ao aa:Option Addr)(m m' c c':Nat)(J Jx:List Int->World->Prop)
  (W:World) (hJ:AbidesFrom W.heap.size J)
  (hY: ∀pre x W,J pre W->pre.length<141->YieldAt Fence.wide (n - 1) Tryz.prog l #[ja jb x] W fun e W'=>
   (e=jh (je true)/\J (pre++[x]) W'/\VV H W W')∨(e=jh (je false)/\Jx (pre++[x]) W'))
  (hS:Bu H s (jd ao m c) (jd aa m' c') W) (h0:J [] W):
  CallsIn Fence.wide n Tryz.prog 189 #[.func (.yield l) #[] #[],jf (some ⟨H,0,none⟩)] W fun e W'=>(∃v,e=jh v)/\
   ((∃ys,ys=Dl s (s.last - s.first+1).toNat/\J ys W')∨(∃pre,True/\Jx pre W')):=by
 have hf:Tt.isD s.first=true:=(Tt.isD_iff _).2 ⟨hh.f0,hh.f1⟩;have hl:Tt.isD s.last=true:=(Tt.isD_iff _).2 ⟨hh.l0,hh.l1⟩;have R:=fun d W=>EO s d W hf hl hh.e0 hh.e1 hh.w0 hh.w1
 have HR:=Lh R;have HY:=Lh hY;have HJ:=Lh hJ;have HS:=Lh hS;obtain⟨a1,a2,a3,a4,a5,a6,a7,a8,a9,ah,ai⟩:=hh;obtain⟨e0,e1,e2,T,O,U⟩:=hS.cells;clear hf hl R hY hJ hS;refine callsIn_of_wp Tryz.func189 rfl trivial ?_ rfl;simp only[Tryz.ntmps189,xm,xi,xq,Nat.reduceAdd,Nat.reduceSub,Array.replicate_succ,Array.replicate_zero,List.push_toArray,List.append_toArray,xp,xj];gi_wp2
 clear e0 e1 e2 T O U;gi_loopw [3] (fun i wr=> ∃k:Nat,(k:Int)<=s.last - s.first+1/\i=ja jb (s.first+k)/\J (Dl s k) wr/\Hid (VV H W wr))
  (fun i _=>(s.last+1 - intOf i).toNat)
 case atStart=>exact⟨0,by omega,by go_num,h0,(show VV H W W from rfl)⟩
 case round=>
  obtain⟨k,hk,rfl,G,A⟩:=hrel;have Y:=Lh (HS.o.block A.o);obtain⟨e0,e1,e2,T,O,U⟩:=Y.o.cells;have D:=Y.o.lt;by_cases af:s.first+k<=s.last
  ·have Z:(Dl s k).length<141:=by have:=Mr s k;omega
   have HT:=Lh (NW s k);gi_wp2_with fail
   refine⟨trivial,?_⟩;refine(callsIn_wide.2 (HR.o (s.first+k) _ _ _ _ _ _ _)).mono ?_;rintro e w1 ⟨rfl,hb1⟩;have M:=HJ.o _ _ _ none G (Nx hb1) (fun r h=>by cases h);have w:Hid (VV H W w1):=(hb1.block _ D).trans A.o;have F:=Lh (Y.o.block (hb1.block _ D));clear e0 e1 e2 T O U A Y hb1 D G;obtain⟨e0,e1,e2,T,O,U⟩:=F.o.cells;cases hr:Tt.regB s (s.first+k)
   ·have E:=Lh (show Dl s (k+1)=Dl s k by rw[HT.o,hr];simp);clear hr;gi_wp2_with fail;refine⟨fun _ h=>(by cases h),?_⟩;gi_wp2;go_roundw
    case rel=>exact⟨k+1,by omega,by go_num,by rw[E.o];exact M,w.o⟩
    case measure=>simp[intOf];omega
   ·have E:=Lh (show Dl s (k+1)=Dl s k++[s.first+k]by rw[HT.o,hr];simp);clear hr;obtain⟨fn,tmps,assign,body,hy,ae⟩:=HY.o (Dl s k) (s.first+k) w1 M Z;gi_wp2;refine ae.mono ?_;rintro e W3 (⟨rfl,ac,X⟩ | ⟨rfl,V⟩)
    ·have ag:=Lh (F.o.block X);clear e0 e1 e2 T O U F;gi_wp2;go_roundw
     case rel=>exact⟨k+1,by omega,by go_num,by rw[E.o];exact ac,(show VV H W W3 from Eq.trans X w.o)⟩
     case measure=>simp[intOf];omega
    ·gi_wp2
     refine bodyPost_ret (results_none rfl _ _ _) rfl ?_;exact⟨⟨_,rfl⟩,.inr ⟨_,trivial,V⟩⟩
  ·have ab:k=(s.last - s.first+1).toNat:=by omega
   gi_wp2
   go_end0
   exact⟨⟨_,rfl⟩,.inl (by rw[<-ab];exact G)⟩
end Go.Proofs.YtegjgjgoodekiaaGreatDoor
-- Sort
namespace Go.Proofs
open Go.Shelf
def Tryz.lays189_ren:Go.Shelf.Ren:=⟨fun | 189=>167 | 125=>192 | 257=>191 | 128=>214 | 129=>215 | 294=>205 | 295=>206 | 296=>207 | 297=>208 | 298=>209 | 299=>210 | 216=>211 | 300=>212 | 301=>213 | 328=>224 | 329=>225 | 330=>226 | 331=>227 | 332=>228 | 215=>229 | 343=>234 | n=>n,fun | 28=>22 | 3=>3 | 46=>127 | 0=>0 | 51=>181 | 53=>234 | 4=>4 | 183=>255 | 182=>254 | 131=>155 | 5=>5 | 9=>9 | 218=>273 | 222=>277 | 228=>282 | 229=>283 | n=>n,fun | n=>n⟩
theorem Tryz.lays189:Go.Proofs.Lays.n189 Tryz.prog Tryz.lays189_ren:={
 mixed:=by kernel_rfl
 f125:=Tryz.func192.trans (congrArg some (by kernel_rfl))
 f128:=Tryz.func214.trans (congrArg some (by kernel_rfl))
 f129:=Tryz.func215.trans (congrArg some (by kernel_rfl))
 f189:=Tryz.func167.trans (congrArg some (by kernel_rfl))
 f215:=Tryz.func229.trans (congrArg some (by kernel_rfl))
 f216:=Tryz.func211.trans (congrArg some (by kernel_rfl))
 f257:=Tryz.func191.trans (congrArg some (by kernel_rfl))
 f294:=Tryz.func205.trans (congrArg some (by kernel_rfl))
 f295:=Tryz.func206.trans (congrArg some (by kernel_rfl))
 f296:=Tryz.func207.trans (congrArg some (by kernel_rfl))
 f297:=Tryz.func208.trans (congrArg some (by kernel_rfl))
 f298:=Tryz.func209.trans (congrArg some (by kernel_rfl))
 f299:=Tryz.func210.trans (congrArg some (by kernel_rfl))
 f300:=Tryz.func212.trans (congrArg some (by kernel_rfl))
 f301:=Tryz.func213.trans (congrArg some (by kernel_rfl))
 f328:=Tryz.func224.trans (congrArg some (by kernel_rfl))
 f329:=Tryz.func225.trans (congrArg some (by kernel_rfl))
 f330:=Tryz.func226.trans (congrArg some (by kernel_rfl))
 f331:=Tryz.func227.trans (congrArg some (by kernel_rfl))
 f332:=Tryz.func228.trans (congrArg some (by kernel_rfl))
 f343:=Tryz.func234.trans (congrArg some (by kernel_rfl))
 t0:=Tryz.underlying0
 a0:=Tryz.isAgg0
 z0:=Tryz.sizeOf0
 v0:=Tryz.zeroValue0
 t3:=Tryz.underlying3
 a3:=Tryz.isAgg3
 z3:=Tryz.sizeOf3
 v3:=Tryz.zeroValue3
 t4:=Tryz.underlying4
 a4:=Tryz.isAgg4
 z4:=Tryz.sizeOf4
 v4:=Tryz.zeroValue4
 t5:=Tryz.underlying5
 a5:=Tryz.isAgg5
 z5:=Tryz.sizeOf5
 v5:=Tryz.zeroValue5
 t9:=Tryz.underlying9
 a9:=Tryz.isAgg9
 z9:=Tryz.sizeOf9
 v9:=Tryz.zeroValue9
 t28:=Tryz.underlying22
 a28:=Tryz.isAgg22
 z28:=Tryz.sizeOf22
 v28:=Tryz.zeroValue22
 t46:=Tryz.underlying127
 a46:=Tryz.isAgg127
 z46:=Tryz.sizeOf127
 v46:=Tryz.zeroValue127
 t51:=Tryz.underlying181
 a51:=Tryz.isAgg181
 z51:=Tryz.sizeOf181
 v51:=Tryz.zeroValue181
 t53:=Tryz.underlying234
 a53:=Tryz.isAgg234
 z53:=Tryz.sizeOf234
 v53:=Tryz.zeroValue234
 t131:=Tryz.underlying155
 a131:=Tryz.isAgg155
 z131:=Tryz.sizeOf155
 v131:=Tryz.zeroValue155
 t182:=Tryz.underlying254
 a182:=Tryz.isAgg254
 z182:=Tryz.sizeOf254
 v182:=Tryz.zeroValue254
 t183:=Tryz.underlying255
 a183:=Tryz.isAgg255
 z183:=Tryz.sizeOf255
 v183:=Tryz.zeroValue255
 t218:=Tryz.underlying273
 a218:=Tryz.isAgg273
 z218:=Tryz.sizeOf273
 v218:=Tryz.zeroValue273
 t222:=Tryz.underlying277
 a222:=Tryz.isAgg277
 z222:=Tryz.sizeOf277
 v222:=Tryz.zeroValue277
 t228:=Tryz.underlying282
 a228:=Tryz.isAgg282
 z228:=Tryz.sizeOf282
 v228:=Tryz.zeroValue282
 t229:=Tryz.underlying283
 a229:=Tryz.isAgg283
 z229:=Tryz.sizeOf283
 v229:=Tryz.zeroValue283 }
open Go.Sort Go.RowKit in
theorem Tryz.slices_Sort_int(blk A cap:Nat)(zs:List Int)(w:World)(F:Holds (Value.int .i64) w blk A zs.toArray)(D:blk<w.heap.size)(E:zs.length<4611686018427387904):
  Calls Tryz.prog 167 #[jd (some ⟨blk,A,none⟩) zs.length cap] w fun e w'=>
   e=jh (jg #[])/\ ∃n os,w'=grow (putRow (Value.int .i64) (Sort.ahead w n) blk A (zs.mergeSort fun x y=>decide (x<=y)).toArray) os:=Any.slices_Sort_int Tryz.lays189 blk A cap zs w F D E
open Go.RowKit Go.Sort in
theorem Tryz.slices_Sort_int_none(p:Option Addr)(cap:Nat)(w:World):
  Calls Tryz.prog 167 #[jd p 0 cap] w fun e w'=>e=jh (jg #[])/\w'=w:=Any.slices_Sort_int_none Tryz.lays189 p cap w
end Go.Proofs
-- Days2
namespace Go.Proofs.YtegjgjgoodekiaaGreatDoor
open Go.RowKit Go.Shelf
theorem Tx(base:Nat)(v:Value)(zs:List Int)(w:World)(A:w.ownsRow base 3 1 v zs.length (zs.map (Value.int .i64)))(hn:zs.length<=1000000):
  Calls Tryz.prog 167 #[v] w fun e w'=>e=jh (jg #[])/\w'.ownsRow base 3 1 v zs.length ((zs.mergeSort fun x y=>decide (x<=y)).map (Value.int .i64))/\w.grownBy w' v.ownBlock:=by
 rcases A.2 with⟨rfl,h0⟩ | ⟨g,cap,cur,rfl,hg,hb,hc,hm,hcs,ht⟩
 ·have:zs=[]:=xd h0;subst this;refine(Tryz.slices_Sort_int_none none 0 w).mono ?_;rintro e w' ⟨rfl,rfl⟩;exact⟨rfl,by simpa using xh w' base 3 1,⟨rfl,rfl,rfl,xb _,fun _ _ _=>rfl⟩⟩
 ·have D:g<w.heap.size:=(xe.1 hb).1;refine(Tryz.slices_Sort_int g 0 cap zs w (holds_of_blockI hb (by simpa using ht)) D (by omega)).mono ?_;rintro e w' ⟨rfl,n,E,rfl⟩;exact⟨rfl,ownsRow_sortedI (by simp) hg hb hc hm hcs,grownBy_sortedI _⟩
theorem J5{w:World}{B:Nat}{e:TypeId}{k:Nat}{v:Value}{n:Nat}{xs:List Value}(h:w.ownsRow B e k v n xs): ∃p m c,v=jd p m c:=by
 rcases h.2 with⟨rfl,_⟩ | ⟨g,cap,cur,rfl,_⟩
 ·exact⟨_,_,_,rfl⟩
 ·exact⟨_,_,_,rfl⟩
theorem PY{β:Type}(b:Nat)(s:Tt.Ser)(v v':Value):Own (fun(_:β) W=>Bu b s v v' W):=fun _ A B row hs hg hr=>
 (hg.block b hs.lt (fun e=>by
  obtain⟨o,ho,hc⟩:=hr b e.symm;rw[show A.heap[b]?=_ from hs]at ho;cases ho;cases hc)).trans hs
theorem KI{W F:World}{b D:Nat}{s:Tt.Ser}{u H v v':Value}{base n:Nat}{xs:List Value}{G:Obj}(E:Bu b s u H W)(A:W.ownsRow base 3 1 v n xs)(w:(W.alloc G).grownBy F v.ownBlock)(hne:b≠D):VV b W (F.setCell ⟨D,0,none⟩ v'):=by
 show(F.setCell ⟨D,0,none⟩ v').heap[b]?=W.heap[b]?
 rw[Below.heap_setCell _ _ _ _ hne,w.block b (by have:=E.lt;simp;omega) ?_,Lib.alloc_old W _ b E.lt];intro e;rcases A.2 with⟨rfl,_⟩ | ⟨g,cap,cur,rfl,_,hgb,_⟩
 ·cases e
 ·simp only[Value.ownBlock,Option.some.injEq]at e;subst e;have:=(show W.heap[b]?=_ from E).symm.trans hgb;simp at this
theorem Un{W:World}{D:Nat}{v:Value}{base n:Nat}{xs:List Value}{ds:Option (List Deferred)}(w:W.ownsRow base 3 1 v n xs)(A:W.heap[D]?=some (.deferred ds)):some D≠v.ownBlock:=by
 intro e;rcases w.2 with⟨rfl,_⟩ | ⟨g,cap,cur,rfl,_,hgb,_⟩
 ·cases e
 ·simp only[Value.ownBlock,Option.some.injEq]at e;subst e;rw[A]at hgb;cases hgb
def D1(s:Tt.Ser)(pre:List Int):List Int:=s.xt++pre.filter fun d=>!decide (d∈s.ex)
theorem QC(s:Tt.Ser)(pre:List Int)(d:Int):D1 s (pre++[d])=D1 s pre++(if(!decide (d∈s.ex))=true then[d]else[]):=by
 unfold D1;rw[Ig,xn]
theorem O9(s:Tt.Ser)(pre:List Int):(D1 s pre).length<=s.xt.length+pre.length:=by
 unfold D1;rw[List.length_append];have:=List.length_filter_le (fun d=>!decide (d∈s.ex)) pre;omega
theorem Sm(s:Tt.Ser):D1 s (Dl s (s.last - s.first+1).toNat)=s.xt++(Tt.span s).filter fun d=>Tt.regB s d && !decide (d∈s.ex):=by
 unfold D1 Dl Tt.span;rw[List.filter_filter];congr 2
 funext d
 exact Bool.and_comm _ _
attribute [local go_sem] Oper.semAt_some
theorem QS(s:Tt.Ser)(B:Nat)(w:World)(hv:Tt.serV s=0)(ao A:Option Addr)(c c':Nat)(U:B<=w.heap.size)(hI:Ints B w ao s.ex)(ae:Ints B w A s.xt):
  Calls Tryz.prog 136 #[Bf s (jd ao s.ex.length c) (jd A s.xt.length c')] w fun e w'=> ∃v,e=jh v/\w'.ownsRow w.heap.size 3 1 v (Tt.serDays s).length ((Tt.serDays s).map (Value.int .i64))/\Below w.heap.size w w':=by
 obtain⟨i0,hi,aF,aE,aJ⟩:=info_parts Dy;obtain⟨hh,_,_⟩:=(Tt.serV_zero s).1 hv;have hn:=hh.n;have S0:Bu w.heap.size s (jd ao s.ex.length c) (jd A s.xt.length c') (w.alloc (ji #[ja jb s.first,ja jb s.last,ja jb s.every,ja jb s.wd,jd ao s.ex.length c,jd A s.xt.length c'] 59)):=heap_alloc_new w _;have al:=Lh S0;have HV:=Lh (Cg s B (w.alloc (ji #[ja jb s.first,ja jb s.last,ja jb s.every,ja jb s.wd,jd ao s.ex.length c,jd A s.xt.length c'] 59)) (by omega) (by omega) ao A c c' (by simp;omega) (hI.below ((Aa w _).mono U)) (ae.below ((Aa w _).mono U)));have aB:=U;have HI:=Lh hI;have aD:=Lh ae;have HH:=Lh hh;have ax:=Lh hv;clear hI ae S0 hh hv;unfold Bf at HV ⊢;refine(callsIn_wide (n:=5)).1 ?_;refine callsIn_of_wp_marks Tryz.func136 rfl trivial ?_ rfl;simp only[Tryz.ntmps136,xm,xi,xq,Nat.reduceAdd,Nat.reduceSub,Array.replicate_succ,Array.replicate_zero,List.push_toArray,List.append_toArray,xp,xj];gi_wp2_with fail
 refine⟨trivial,?_⟩;refine(callsIn_wide.2 HV.o).mono ?_;rintro e X ⟨rfl,hb1⟩;rw[ax.o];have T:=AS (Aa w _) hb1;have aa:=Lh (al.o.block (hb1.block _ al.o.lt));clear HV hb1;obtain⟨e0,e1,e2,e3,e4,e5⟩:=aa.o.cells;have ac:=aa.o.lt;gi_wp2_with fail;refine⟨trivial,?_⟩;refine(callsIn_wide.2 (JL B A c' s.xt X (aD.o.below (T.mono U)) (by omega))).mono ?_;rintro e w2 ⟨x,rfl,H,R⟩;obtain⟨q1,q2,q3,hx⟩:=J5 H;subst hx;have aM:=AS T R;have ag:=Lh (aa.o.block (R.block _ ac));have ak:=R.size;clear e0 e1 e2 e3 e4 e5;obtain⟨e0,e1,e2,e3,e4,e5⟩:=ag.o.cells;have aL:=ag.o.lt;gi_wp2_with fail;refine⟨trivial,?_⟩;refine(callsIn_wide.2 (Mq s ao A s.ex.length s.xt.length c c' _)).mono ?_;rintro e w3 ⟨rfl,hw⟩;rw[hw];clear hw w3;gi_wp2_with fail;obtain⟨Z,O⟩: ∃Z,Z=((w2.alloc (ji #[jd q1 q2 q3] 22)).alloc (ji #[ja jb s.first,ja jb s.last,ja jb s.every,ja jb s.wd,jd ao s.ex.length c,jd A s.xt.length c'] 59)):=⟨_,rfl⟩
 obtain⟨F,V⟩: ∃F,F=w2.heap.size:=⟨_,rfl⟩
 have ap:Z.heap.size=F+2:=by rw[O,V];simp
 have HZ:=Lh ap;have bO:Boxed Z F 22 (jd q1 q2 q3):=by rw[O,V];exact(Boxed.new w2 22 _).alloc _
 have S2:Bu (F+1) s (jd ao s.ex.length c) (jd A s.xt.length c') Z:=by
  rw[O,V];have:=heap_alloc_new (w2.alloc (ji #[jd q1 q2 q3] 22)) (ji #[ja jb s.first,ja jb s.last,ja jb s.every,ja jb s.wd,jd ao s.ex.length c,jd A s.xt.length c'] 59);simpa[Bu]using this
 have am:Below X.heap.size w2 Z:=by rw[O];exact((Below.refl _ w2).alloc (by omega) _).alloc (by simp;omega) _
 have ah:Z.ownsRow X.heap.size 3 1 (jd q1 q2 q3) s.xt.length (s.xt.map (Value.int .i64)):=by rw[O];exact(H.alloc _).alloc _
 have aq:=R.trans am;have aw:X.heap.size<=F:=by rw[V];exact ak
 rw[<-O,<-V];clear O V e0 e1 e2 e3 e4 e5 ag H am ap R;have aS:F+2<=Z.heap.size:=by rw[HZ.o];exact xb _
 refine wpIn_rangeFunc_ownG rfl (by decide) (gf:=189) (lb:=#[jf (some ⟨F+1,0,none⟩)]) rfl trivial (enters_of Tryz.func189 (by kernel_rfl) rfl)
  (encs:=fun x:Int=>#[ja jb x]) (Kp:=VV (F+1)) (S:=fun ys=>ys=Dl s (s.last - s.first+1).toNat) (Sp:=fun _=>True) (N:=141) (w0:=Z)
  (fun l J Jx W hW hJ aR hY h0=>Mp 4 (by decide) l (F+1) s HH.o ao A _ _ c c' J Jx W hJ hY (S2.block (hW.block _ S2.lt)) h0)
  (fun h k=>Eq.trans k h) (fun W l o o' hl h _ _=>?kb) (Below.refl _ _) (fun _=>rfl)
  (fun pre W=>(∃v,Boxed W F 22 v/\W.ownsRow X.heap.size 3 1 v (D1 s pre).length ((D1 s pre).map (Value.int .i64))/\True)/\Bu (F+1) s (jd ao s.ex.length c) (jd A s.xt.length c') W/\Below X.heap.size X W)
  (fun _ _ _=>False)
  (OwnFrom.and (Own.from (holdsRow_own X.heap.size F 22 3 1 (fun pre=>(D1 s pre).length) (fun pre=>(D1 s pre).map (Value.int .i64)) (fun _ _=>True)) _) (OwnFrom.and (Own.from (PY _ _ _ _) _) (ownFrom_below (xb _) (by omega))))
  (fun _ _ _ _ _ hs _ _=>hs)
  ⟨⟨_,bO,by simpa[D1]using ah,trivial⟩,S2,?be0⟩
  (fun x=>{ tmps:=#[.agg #[ja jb s.first,ja jb s.last,ja jb s.every,ja jb s.wd,jd ao s.ex.length c,jd A s.xt.length c'],jf (some ⟨w.heap.size,0,none⟩),jd none 0 0,jf (some ⟨F,0,none⟩),ja jb x,.agg #[ja jb s.first,ja jb s.last,ja jb s.every,ja jb s.wd,jd ao s.ex.length c,jd A s.xt.length c'],ja jb 0,je false,jf (some ⟨w.heap.size,5,none⟩),jd A s.xt.length c',jd q1 q2 q3,.agg #[ja jb s.first,ja jb s.last,ja jb s.every,ja jb s.wd,jd ao s.ex.length c,jd A s.xt.length c'],.func (.func 189) #[] #[jf (some ⟨F+1,0,none⟩)],ja jb x,undef,undef,undef,undef,undef,undef,undef,undef,undef,undef,undef,undef],defers:=[] }) ?assign ?body ?done ?stop
 case kb=>
  exact(grownBy_putObj' W l o').block (F+1) (by have:=(xe.1 h).1;omega) (by simp;omega)
 case be0=>exact aq
 case assign=>
  intro l x W K hK;gi_wp2;exact hK
 case body=>
  rintro l pre x W ⟨⟨v,hv,E,_⟩,ay,U⟩ aO;have ab:=Lh ay;clear ay;have hc:=hv.cell;have az:=Lh (aa.o.block (U.block _ ac));obtain⟨e0,e1,e2,e3,e4,e5⟩:=az.o.cells;have aT:=O9 s pre;have HG:=Lh (QC s pre x);have aC:=T.trans (U.mono (by omega));have aK:=U.size;gi_wp2_with fail;refine⟨trivial,?_⟩;refine(CallsIn.inRound l (callsIn_wide.2 (Nn B ao c s.ex x W (HI.o.below (aC.mono aB)) (by omega)))).mono ?_;rintro e w3 ⟨rfl,hw⟩;rw[hw];clear hw w3;cases hd:decide (x∈s.ex)
  ·have af:=Lh (show D1 s (pre++[x])=D1 s pre++[x]by rw[HG.o,hd];rfl);clear hd;gi_wp2_with (gi_at_builtin;refine wpListIn_append_own _ rfl _ _ 22 rfl X.heap.size 3 i0 (ja jb 0) 1 8 Tryz.underlying22 hi aF aE aJ rfl (by decide) _ _ _ rfl (E.alloc _) ⟨W.heap.size,0,none⟩ 1 1 [ja jb x] rfl rfl (cell_one_new _ _ _) (by simp[Value.oneCell']) (by unfold maxLen;omega) (by omega) (by simp;omega) ?_);intro v' w4 Y G _;obtain⟨g',cap',rfl⟩:=ownsRow_succ Y;obtain⟨au,hv2,aG,aH,R⟩:=hv.appended (by decide) E aK aw Y G;have aN:=au.cell;have aU:=au.frozen;gi_wp2_with fail;exact⟨aH.from _,KI ab.o E G (by omega),⟨_,hv2,by rw[af.o];simpa using aG,trivial⟩,Bu.block ab.o (KI ab.o E G (by omega)),U.trans R⟩
  ·have af:=Lh (show D1 s (pre++[x])=D1 s pre by rw[HG.o,hd];simp);clear hd;gi_wp2_with fail;exact⟨KeepsFrom.refl _ _,rfl,⟨v,hv,by rw[af.o];exact E,trivial⟩,ab.o,U⟩
 case done=>
  rintro D ys W hD av ⟨⟨v,hv,E,_⟩,_,U⟩ hK;have hc:=hv.cell;have aP:=O9 s ys;have aQ:ys.length<=141:=by rw[av];have:=Mr s (s.last - s.first+1).toNat;have:=HH.o.lf;omega
  gi_wp2_with fail
  refine⟨trivial,?_⟩;refine(callsIn_wide.2 (Tx X.heap.size v (D1 s ys) W E (by omega))).mono ?_;rintro e w3 ⟨rfl,M,ai⟩;have aI:=hv.kept ai (hv.not_row (by decide) E);have aV:=aI.cell;have aj:w3.heap[D]?=some (.deferred (some [])):=(ai.block D (xe.1 hK).1 (Un E hK)).trans hK;have aA:Below X.heap.size X w3:=U.grown ai U.size (fun k e=>(E.lt k e).1);have HS:=Lh (show(D1 s ys).mergeSort (fun x y=>decide (x<=y))=Tt.serDays s from by
   refine Tt.serDays_of s ax.o _ ?_ ?_
   ·have:=List.pairwise_mergeSort (le:=fun x y:Int=>decide (x<=y)) (fun a b c h1 h2=>by simp at*;omega) (fun a b=>by simp;omega) (D1 s ys);exact this.imp (fun h=>by simpa using h)
   ·rw[<-Sm,<-av];exact List.mergeSort_perm _ _)
  rw[HS.o]at M;have ar:=Lh (show(D1 s ys).length=(Tt.serDays s).length by rw[<-HS.o];simp);rw[ar.o]at M;clear hc;gi_wp2_with fail;refine⟨by simp,.inl ⟨_,_,rfl,run_takeDeferred aj,?_⟩⟩;exact⟨_,results_tmp rfl _ _ _,v,rfl,Ab (ownsRow_putObj M _ aj rfl) (by omega),T.trans ((aA.mono (by omega)).trans (belowK_b (w:=w) (xb _) w3 D _ _ (by omega) aj rfl rfl))⟩
 case stop=>
  rintro D c pre W _ _ h _;exact h.elim
theorem VH(s:Tt.Ser)(B:Nat)(w:World)(hn:s.ex.length<=4611686018427387903)(M:s.xt.length<=4611686018427387903)(ao A:Option Addr)(c c':Nat)(J:B<=w.heap.size)(O:Ints B w ao s.ex)(D:Ints B w A s.xt):
  Calls Tryz.prog 136 #[Bf s (jd ao s.ex.length c) (jd A s.xt.length c')] w fun e w'=> ∃v,e=jh v/\w'.ownsRow w.heap.size 3 1 v (Tt.serDays s).length ((Tt.serDays s).map (Value.int .i64))/\Below w.heap.size w w':=by
 by_cases hv:Tt.serV s=0
 ·exact QS s B w hv ao A c c' J O D
 ·have H:=Lh (Cg s B (w.alloc (ji #[ja jb s.first,ja jb s.last,ja jb s.every,ja jb s.wd,jd ao s.ex.length c,jd A s.xt.length c'] 59)) hn M ao A c c' (by simp;omega) (O.below ((Aa w _).mono J)) (D.below ((Aa w _).mono J)));have G:=Lh (show(Tt.serV s !=0)=true by simp[hv]);have R:=Lh (show Tt.serDays s=[]by unfold Tt.serDays;rw[if_pos hv]);clear hv O D;unfold Bf at H ⊢;go_enter Tryz.func136,Tryz.ntmps136;go_wp2_with fail;refine H.o.mono ?_;rintro e w0 ⟨rfl,E⟩;have F:=AS (Aa w _) E;have T:=G.o;clear H E;go_wp2_with fail;refine bodyPost_ret (v:=jd none 0 0) (by simp[results,Tryz.results136,go_sem]) rfl ?_;refine⟨_,rfl,?_,F⟩;rw[R.o];exact xh _ _ _ _
end Go.Proofs.YtegjgjgoodekiaaGreatDoor
-- Uid
namespace Tt
open Go.Lib (decDigits cut index indexByte)
def decim(n m:Nat)(acc:List UInt8):List UInt8:=
 if h:n=0/\m=0 then acc else decim (n / 10) (m - 1) (UInt8.ofNat (48+n % 10)::acc)
termination_by n+m
decreasing_by omega
theorem decim_end(w:List UInt8):decim 0 0 w=w:=by rw[decim,dif_pos ⟨rfl,rfl⟩]
theorem decim_step(n m:Nat)(w:List UInt8)(h: ¬(n=0/\m=0)):decim n m w=decim (n / 10) (m - 1) (UInt8.ofNat (48+n % 10)::w):=by rw[decim,dif_neg h]
theorem JG: ∀(k n:Nat),n<=k->1<=n-> ∀acc,decim n 0 acc=decDigits n++acc
 | 0,n,h,h1,_=>by omega
 | k+1,n,h,h1,acc=>by
  rw[decim_step n 0 acc (by omega)];by_cases w:n<10
  ·rw[show n / 10=0 by omega,decim_end,Go.Lib.decDigits_one w,Nat.mod_eq_of_lt w];rfl
  ·rw[JG k (n / 10) (by omega) (by omega),decDigits.eq_def n,dif_neg w];simp
theorem QR(n:Nat)(w:List UInt8):decim n 1 w=decDigits n++w:=by
 rw[decim_step n 1 w (by omega)];by_cases A:n<10
 ·rw[show n / 10=0 by omega,decim_end,Go.Lib.decDigits_one A,Nat.mod_eq_of_lt A];rfl
 ·rw[JG _ (n / 10) (xb _) (by omega),decDigits.eq_def n,dif_neg A];simp
theorem Ex: ∀(k n:Nat),n<=k-> ∀c∈decDigits n,48<=c.toNat/\c.toNat<=57
 | 0,n,h,c,hc=>by
  rw[Go.Lib.decDigits_one (by omega),xg]at hc;subst hc;rw[show n=0 by omega];decide
 | k+1,n,h,c,hc=>by
  rw[decDigits.eq_def]at hc;split at hc
  ·rename_i A
   rw[xg]at hc;subst hc;rw[UInt8.toNat_ofNat_of_lt' (show 48+n<UInt8.size by show 48+n<256;omega)];omega
  ·rename_i A
   rcases List.mem_append.1 hc with w | w
   ·exact Ex k (n / 10) (by omega) c w
   ·rw[xg]at w;subst w;have:n % 10<10:=Nat.mod_lt _ (by decide);rw[UInt8.toNat_ofNat_of_lt' (show 48+n % 10<UInt8.size by show 48+n % 10<256;omega)];omega
def numFrom(n:List UInt8)(w:Nat):Bool:=decide (∃j:Nat,j<21/\w<=j/\n=decDigits j)
theorem numFrom_end(n:List UInt8):numFrom n 21=false:=by
 unfold numFrom;rw[decide_eq_false_iff_not];rintro⟨j,w,A,_⟩;omega
theorem numFrom_hit(n:List UInt8)(w:Nat)(A:w<=20)(h:n=decDigits w):numFrom n w=true:=by
 unfold numFrom;rw[decide_eq_true_iff];exact⟨w,by omega,xb _,h⟩
theorem numFrom_step(n:List UInt8)(w:Nat)(h:n≠decDigits w):numFrom n w=numFrom n (w+1):=by
 unfold numFrom;congr 1
 apply propext
 constructor
 ·rintro⟨j,D,F,A⟩;rcases Nat.lt_or_ge w j with E | E
  ·exact⟨j,D,E,A⟩
  ·obtain rfl:w=j:=by omega
   exact absurd A h
 ·rintro⟨j,D,F,A⟩;exact⟨j,D,by omega,A⟩
theorem N5(n:List UInt8)(w:Nat)(h:numFrom n w=true):(64:UInt8) ∉ n:=by
 unfold numFrom at h;rw[decide_eq_true_iff]at h;obtain⟨j,_,_,rfl⟩:=h;intro A;have:=Ex j j (xb _) _ A;have D:(64:UInt8).toNat=64:=rfl;omega
theorem SM(l:List UInt8)(h:(64:UInt8) ∉ l):cut l [64]=(l,[],false):=by
 unfold Go.Lib.cut;rw[Go.Lib.index_one];by_cases w:0<=indexByte l 64
 ·obtain⟨o,ho⟩: ∃o:Nat,indexByte l 64=o:=⟨(indexByte l 64).toNat,by omega⟩
  exact absurd (xk (Go.Lib.indexByte_some ho).1) h
 ·rw[if_neg w]
theorem cut_first(a b:List UInt8)(h:(64:UInt8) ∉ a):cut (a++64::b) [64]=(a,b,true):=by
 unfold Go.Lib.cut;rw[Go.Lib.index_one];have hg:(a++64::b)[a.length]?=some 64:=by simp
 by_cases D:0<=indexByte (a++64::b) 64
 ·obtain⟨o,ho⟩: ∃o:Nat,indexByte (a++64::b) 64=o:=⟨(indexByte (a++64::b) 64).toNat,by omega⟩
  obtain⟨A,E⟩:=Go.Lib.indexByte_some ho;have:o=a.length:=by
   rcases Nat.lt_trichotomy o a.length with w | w | w
   ·rw[List.getElem?_append_left w]at A;exact absurd (xk A) h
   ·exact w
   ·exact absurd hg (E _ w)
  rw[if_pos D,ho,this];simp
 ·exact absurd hg (Go.Lib.indexByte_none (by have:=Go.Lib.indexByte_ge (a++64::b) 64;omega) _)
def rightP(p:List UInt8->Bool)(l:List UInt8):Bool:=(cut l [64]).2.2 && p (cut l [64]).1 && numFrom (cut l [64]).2.1 1
theorem rightP_none(p:List UInt8->Bool)(l:List UInt8)(h:(64:UInt8) ∉ l):rightP p l=false:=by
 unfold rightP;rw[SM l h];rfl
theorem first_split: ∀(a:List UInt8),(64:UInt8)∈a-> ∃a1 a2,a=a1++64::a2/\(64:UInt8) ∉ a1
 | [],h=>by cases h
 | c::t,h=>by
  by_cases hc:c=64
  ·subst hc;exact⟨[],t,rfl,by simp⟩
  ·rcases xu.1 h with e | e
   ·exact absurd e.symm hc
   ·obtain⟨a1,a2,w,A⟩:=first_split t e;exact⟨c::a1,a2,by rw[w];rfl,by simp[Ne.symm hc,A]⟩
theorem rightP_last(p:List UInt8->Bool)(hp: ∀a,p a=true->(64:UInt8) ∉ a)(a b:List UInt8):rightP p (a++64::b)=(p a && numFrom b 1):=by
 by_cases ha:(64:UInt8)∈a
 ·obtain⟨a1,a2,rfl,w⟩:=first_split a ha;have A:p (a1++64::a2)=false:=by
   cases h:p (a1++64::a2)with
   | false=>rfl
   | true=>exact absurd (by simp) (hp _ h)
  have D:numFrom (a2++64::b) 1=false:=by
   cases h:numFrom (a2++64::b) 1 with
   | false=>rfl
   | true=>exact absurd (by simp) (N5 _ _ h)
  unfold rightP;rw[xn,xj,cut_first _ _ w,A];simp[D]
 ·unfold rightP;rw[cut_first _ _ ha];simp
end Tt
-- UidW
namespace Go.Proofs.YtegjgjgoodekiaaGreatDoor
open Go.RowKit
theorem Oz(a:List UInt8)(h:Tt.code a=true):(64:UInt8) ∉ a:=by
 intro hm;cases a with
 | nil=>cases hm
 | cons c t=>
  unfold Tt.code at h;simp only[xo]at h;obtain⟨⟨_,A⟩,w⟩:=h;rcases xu.1 hm with e | e
  ·subst e;exact absurd A (by decide)
  ·unfold Tt.codeTail at w;have:=List.all_eq_true.1 w 64 e;exact absurd this (by decide)
def A8(l:List UInt8):Bool:=Tt.rightP Tt.code l
theorem OW{s:ByteArray}{l:List UInt8}(h:s.data.toList=l):s=⟨l.toArray⟩:=by rw[<-h,Lib.mk_data]
theorem VI(s:ByteArray)(w:World)(hs:s.size<=4611686018427387904):
  Calls Tryz.prog 164 #[jc s,jc ⟨#[64]⟩] w fun e w'=>e=jh (jg #[jc ⟨(Lib.cut s.data.toList [64]).1.toArray⟩,jc ⟨(Lib.cut s.data.toList [64]).2.1.toArray⟩,je (Lib.cut s.data.toList [64]).2.2])/\ ∃n,w'=w.drewN n:=by
 have F:=Lh (show Lib.index s.data.toList [64]=Lib.indexByte s.data.toList 64 from Lib.index_one _ _);have A:=Lib.indexByte_ge s.data.toList 64;by_cases E:0<=Lib.indexByte s.data.toList 64
 ·obtain⟨o,ho⟩: ∃o:Nat,Lib.indexByte s.data.toList 64=o:=⟨(Lib.indexByte s.data.toList 64).toNat,by omega⟩
  have R:o<s.size:=by
   have:=xc.1 (Lib.indexByte_some ho).1;rw[Lib.size_eq];exact this.1
  have H:=Lh (show Lib.cut s.data.toList [64]=(s.data.toList.take o,s.data.toList.drop (o+1),true)by
   unfold Lib.cut;rw[F.o,if_pos E,ho];rfl)
  have G:=Lh ho;have J:=Lh (OW (Lib.extract_from_zero s o));have M:=Lh (OW (Lib.extract_to_end s (o+1)));clear E A ho F;go_enter Tryz.func164,Tryz.ntmps164;go_wp2_with fail;refine(Tryz.stringslite_Index_one s 64 _).mono ?_;rintro e O ⟨rfl,D⟩;rw[D,G.o];clear D O;have g1:(0:Int)<=(o:Int):=by omega
  have g2:(o:Int)<=(s.size:Int):=by omega
  have g3:IntKind.i64.wrap ((o:Int)+1)=(o:Int)+1:=by rw[IntKind.wrap_i64];omega
  have g4:((o:Int)+1).toNat=o+1:=by omega
  have U:(o:Int)+1<=(s.size:Int):=by omega
  have T:(0:Int)<=(o:Int)+1:=by omega
  go_wp2_with fail;go_quiet (fail)
  clear g1 g2 g3 g4 U T;go_wp2_with fail;refine bodyPost_ret (v:=jg #[jc (s.extract 0 o),jc (s.extract (o+1) s.size),je true]) (by simp[results,Tryz.results164,go_sem]) rfl ?_;refine⟨?_,_,rfl⟩;rw[H.o,J.o,M.o]
 ·have H:=Lh (show Lib.cut s.data.toList [64]=(s.data.toList,[],false)by
   unfold Lib.cut;rw[F.o,if_neg E])
  have G:=Lh (show Lib.indexByte s.data.toList 64= -1 by omega);clear E A F;go_enter Tryz.func164,Tryz.ntmps164;go_wp2_with fail;refine(Tryz.stringslite_Index_one s 64 _).mono ?_;rintro e O ⟨rfl,D⟩;rw[D,G.o];clear D O;go_wp2_with fail;refine bodyPost_ret (v:=jg #[jc s,jc ⟨#[]⟩,je false]) (by simp[results,Tryz.results164,go_sem]) rfl ?_;refine⟨?_,0,rfl⟩;rw[H.o,Lib.mk_data]
theorem VJ(s:ByteArray)(w:World)(hs:s.size<=4611686018427387904):
  Calls Tryz.prog 135 #[jc s,jc ⟨#[64]⟩] w fun e w'=>e=jh (jg #[jc ⟨(Lib.cut s.data.toList [64]).1.toArray⟩,jc ⟨(Lib.cut s.data.toList [64]).2.1.toArray⟩,je (Lib.cut s.data.toList [64]).2.2])/\ ∃n,w'=w.drewN n:=by
 go_enter Tryz.func135,Tryz.ntmps135;go_wp2_with fail;refine(VI s w hs).mono ?_;rintro e D ⟨rfl,n,A⟩;rw[A];clear A D;go_wp2_with fail;exact bodyPost_ret (v:=jg #[jc ⟨(Lib.cut s.data.toList [64]).1.toArray⟩,jc ⟨(Lib.cut s.data.toList [64]).2.1.toArray⟩,je (Lib.cut s.data.toList [64]).2.2]) (by simp[results,Tryz.results135,go_sem]) rfl ⟨rfl,_,rfl⟩
theorem TB(s:ByteArray)(w:World)(hs:s.size<=4611686018427387904):
  Calls Tryz.prog 106 #[jc s] w fun e w'=>e=jh (je (A8 s.data.toList))/\Below w.heap.size w w':=by
 have X:=Lh (VJ s w hs);have M:=Lh (show A8 s.data.toList=((Lib.cut s.data.toList [64]).2.2 && Tt.code (Lib.cut s.data.toList [64]).1 && Tt.numFrom (Lib.cut s.data.toList [64]).2.1 1)from rfl);obtain⟨a,ha⟩: ∃a,a=(Lib.cut s.data.toList [64]).1:=⟨_,rfl⟩
 obtain⟨b,hb⟩: ∃b,b=(Lib.cut s.data.toList [64]).2.1:=⟨_,rfl⟩
 obtain⟨f,hf⟩: ∃f,f=(Lib.cut s.data.toList [64]).2.2:=⟨_,rfl⟩
 have HA:=Lh ha;have Y:=Lh hb;have HF:=Lh hf;rw[<-ha,<-hb,<-hf]at M;clear ha hb hf;go_enter Tryz.func106,Tryz.ntmps106;go_wp2_with fail;refine X.o.mono ?_;rintro e G ⟨rfl,q,A⟩;rw[A];clear A G;rw[<-HA.o,<-Y.o,<-HF.o];cases hf:f
 ·have D:=Lh (show A8 s.data.toList=false by rw[M.o,hf];rfl);go_wp2_with fail;go_ret;exact⟨Ag D.o.symm,Be (Below.refl _ _)⟩
 ·go_wp2_with fail;refine(BV ⟨a.toArray⟩ _).mono ?_;rintro e G ⟨rfl,A⟩;rw[A];clear A G;rw[show(⟨a.toArray⟩:ByteArray).data.toList=a from rfl];cases hc:Tt.code a
  ·have D:=Lh (show A8 s.data.toList=false by rw[M.o,hf,hc];rfl);clear hf hc;go_wp2_with fail;go_ret;exact⟨Ag D.o.symm,Be (Below.refl _ _)⟩
  ·have D:=Lh (show A8 s.data.toList=Tt.numFrom b 1 by rw[M.o,hf,hc];rfl);clear hf hc;go_wp2_with fail;obtain⟨w2,E,F,_,_⟩:=DG w q;have J:=F w.heap.size;rw[<-E];clear E F;go_loopw [6] (fun R wr=> ∃k:Nat,R=ja jb k/\1<=k/\k<=21/\wr=w2/\Hid (Tt.numFrom b 1=Tt.numFrom b k)) (fun R _=>21 - (intOf R).toNat)
   case atStart=>exact⟨1,rfl,by omega,by omega,rfl,rfl⟩
   case round=>
    obtain⟨k,rfl,V,Z,A,T⟩:=hrel;subst A;by_cases O:k<=20
    ·have U:(k:Int)<=20:=by omega
     go_wp2_with fail;refine(Tryz.strconv_Itoa_small k (by omega) _).mono ?_;rintro e G ⟨rfl,A⟩;rw[A];clear A G;by_cases he:b=Lib.decDigits k
     ·have ht:(b==Lib.decDigits k)=true:=beq_iff_eq.2 he;have H:=Lh (D.o.trans (T.o.trans (Tt.numFrom_hit b k O he)));clear he;go_wp2_with fail;go_ret;exact⟨Ag H.o.symm,J⟩
     ·have ht:(b==Lib.decDigits k)=false:=beq_eq_false_iff_ne.2 he;have H:=Lh (T.o.trans (Tt.numFrom_step b k he));clear he;go_wp2_with fail;go_roundw
      case rel=>exact⟨k+1,by go_num,by omega,by omega,by first | rfl | trivial,H.o⟩
      case measure=>simp[intOf];omega
    ·have U: ¬(k:Int)<=20:=by omega
     have H:=Lh (show A8 s.data.toList=false from D.o.trans (T.o.trans (by rw[show k=21 by omega];exact Tt.numFrom_end b)));go_wp2_with fail;go_ret;exact⟨Ag H.o.symm,J⟩
theorem one_byte(w:World)(c:UInt8)(z:Int)(hz:z=c.toNat):(convert 88 9 (jd (some ⟨w.heap.size,0,none⟩) 1 1)).run Tryz.prog (w.alloc (ji #[.int .u8 z] 5))=.ok (jc ⟨#[c]⟩) (w.alloc (ji #[.int .u8 z] 5)):=by
 subst hz;exact CT (l:=[c]) (World.ownsRow_lit w #[.int .u8 c.toNat] 1 (xb _) (by decide) rfl)
theorem MA(k:Nat):48+(k:Int) % 10=((UInt8.ofNat (48+k % 10)).toNat:Int):=by
 have:k % 10<10:=Nat.mod_lt _ (by decide);rw[UInt8.toNat_ofNat_of_lt' (show 48+k % 10<UInt8.size by show 48+k % 10<256;omega)];omega
theorem Mc(c:UInt8)(l:List UInt8):(⟨#[c]⟩:ByteArray)++⟨l.toArray⟩=⟨(c::l).toArray⟩:=by apply ByteArray.ext;simp
theorem size_mk(l:List UInt8):(⟨l.toArray⟩:ByteArray).size=l.length:=by rw[Lib.size_eq]
theorem Ov(n m:Int)(w:World)(h0:0<=n)(h1:n<=4611686018427387904)(hm:m<=1000)(X:0<=m):
  Calls Tryz.prog 65 #[ja jb n,ja jb m] w fun e w'=>e=jh (jc ⟨(Tt.decim n.toNat m.toNat []).toArray⟩)/\Below w.heap.size w w':=by
 go_enter Tryz.func65,Tryz.ntmps65;go_wp2_with fail;go_loopw [0,1,5] (fun O J Z wr=> ∃(k:Nat) (j:Int) (A:List UInt8),O=ja jb k/\J=ja jb j/\Z=jc ⟨A.toArray⟩/\m<=j+A.length/\j<=1000/\(k:Int)<=4611686018427387904/\(A.length:Int)+k+j.toNat<=n+m/\Below w.heap.size w wr/\Hid (Tt.decim n.toNat m.toNat []=Tt.decim k j.toNat A)) (fun O J _ _=>(intOf O).toNat+(intOf J).toNat)
 case atStart=>exact⟨n.toNat,m,[],by go_num,rfl,rfl,by omega,by omega,by omega,by simp;omega,Below.refl _ _,rfl⟩
 case round=>
  obtain⟨k,j,A,rfl,rfl,rfl,aa,Y,hk,hl,E,U⟩:=hrel;by_cases D:k=0/\j<=0
  ·obtain⟨rfl,ab⟩:=D;have hj: ¬0<j:=by omega
   have G:=Lh (show Tt.decim n.toNat m.toNat []=A from U.o.trans (by rw[show j.toNat=0 by omega];exact Tt.decim_end A));go_wp2_with fail;go_ret;exact⟨Ix G.o.symm,E⟩
  ·obtain⟨c,hc⟩: ∃c,c=UInt8.ofNat (48+k % 10):=⟨_,rfl⟩
   have G:=Lh (U.o.trans (Tt.decim_step k j.toNat A (by omega)));have F:=MA k;rw[<-hc]at G F;have T:=Lh F;clear hc F;have R:=size_mk A;by_cases M:k=0
   ·subst M;have hj:0<j:=by omega
    have H:=one_byte wr c 48 T.o;clear D;go_wp2_with fail;go_roundw
    case rel=>exact⟨0,j - 1,c::A,rfl,rfl,by rw[Mc],by simp;omega,by omega,by omega,by simp;omega,E.alloc (by have:=E.size;omega) _,G.o.trans (by rw[show(j - 1).toNat=j.toNat - 1 by omega])⟩
    case measure=>simp[intOf];omega
   ·have V:(0:Int)<k:=by omega
    have H:=one_byte wr c _ T.o;clear D;go_wp2_with fail;go_roundw
    case rel=>exact⟨k / 10,j - 1,c::A,by go_num,rfl,by rw[Mc],by simp;omega,by omega,by omega,by simp;omega,E.alloc (by have:=E.size;omega) _,G.o.trans (by rw[show(j - 1).toNat=j.toNat - 1 by omega])⟩
    case measure=>simp[intOf];omega
end Go.Proofs.YtegjgjgoodekiaaGreatDoor
-- UidW2
namespace Tt
def labC(c:UInt8):Bool:=c==10 || (decide (32<=c.toNat) && decide (c.toNat<=126))
def labB(l:List UInt8):Bool:=l.all labC && decide (l.length<=64)
theorem all_step(p:UInt8->Bool)(l:List UInt8)(k:Nat)(c:UInt8)(h:l[k]?=some c):(l.drop k).all p=(p c && (l.drop (k+1)).all p):=by
 obtain⟨g1,g2⟩:=xc.1 h;rw[xf g1,g2,List.all_cons]
theorem all_end(p:UInt8->Bool)(l:List UInt8)(k:Nat)(h:l.length<=k):(l.drop k).all p=true:=by rw[List.drop_eq_nil_of_le h];rfl
theorem NR(c:UInt8)(h:sign c=true):alnum c=false:=by
 unfold sign at h;rw[xr,beq_iff_eq,beq_iff_eq]at h;rcases h with rfl | rfl<;>rfl
theorem code_ref(c:UInt8)(r:List UInt8):code (c::r)=(decide ((c::r).length<=16) && !sign c && codeTail (c::r)):=by
 show(decide ((c::r).length<=16) && alnum c && codeTail r)=_
 unfold codeTail;rw[List.all_cons];cases hs:sign c
 ·cases alnum c<;>simp
 ·rw[NR c hs];simp
end Tt
namespace Go.Proofs.YtegjgjgoodekiaaGreatDoor
open Go.RowKit
theorem SH(n:Int)(c:UInt8)(hn:n=c.toNat)(w:World):Calls Tryz.prog 57 #[.int .u8 n] w fun e w'=>e=jh (je (BP c))/\w'=w:=by
 have D:=Lh (show BP c=(decide ((48:Int)<=n) && decide (n<=(57:Int)))by
  have A:=Kn c 48 (by omega);have E:=Ko c 57 (by omega);rw[hn,show(48:Int)=((48:Nat):Int)from rfl,show(57:Int)=((57:Nat):Int)from rfl,A,E];rfl)
 clear hn;go_enter Tryz.func57,Tryz.ntmps57;go_wp2_with fail
 all_goals
  go_ret;exact⟨Ag (by rw[D.o];simp;omega),rfl⟩
theorem Qv(n:Int)(c:UInt8)(hn:n=c.toNat)(w:World):Calls Tryz.prog 58 #[.int .u8 n] w fun e w'=>e=jh (je (Bj c))/\w'=w:=by
 have D:=Lh (show Bj c=((decide ((65:Int)<=n) && decide (n<=(90:Int))) || (decide ((97:Int)<=n) && decide (n<=(122:Int))))by
  have A:=Kn c 65 (by omega);have F:=Ko c 90 (by omega);have G:=Kn c 97 (by omega);have E:=Ko c 122 (by omega);rw[hn,show(65:Int)=((65:Nat):Int)from rfl,show(90:Int)=((90:Nat):Int)from rfl,show(97:Int)=((97:Nat):Int)from rfl,show(122:Int)=((122:Nat):Int)from rfl,A,F,G,E];rfl)
 clear hn;go_enter Tryz.func58,Tryz.ntmps58;go_wp2_with fail
 all_goals
  go_ret;exact⟨Ag (by rw[D.o,Bool.eq_iff_iff];first | (simp;omega) | (simp only[xr,xo,decide_eq_true_iff];omega)),rfl⟩
theorem QV(l:List UInt8)(h: ¬(1<=l.length/\l.length<=16)):Tt.code l=false:=by
 cases l with
 | nil=>rfl
 | cons c r=>
  show(decide ((c::r).length<=16) && Tt.alnum c && Tt.codeTail r)=false
  rw[decide_eq_false (by simp only[xi]at h ⊢;omega)];rfl
theorem JK(s:ByteArray)(w:World):Calls Tryz.prog 35 #[jc s] w fun e w'=>e=jh (je (Tt.code s.data.toList))/\w'=w:=by
  have T:=Lh (Lib.size_eq s);by_cases G:1<=s.size/\s.size<=16
  · obtain⟨G,h2⟩:=G;have q1:decide ((s.size:Int)<1)=false:=decide_eq_false (by omega);have q2:decide ((16:Int)<(s.size:Int))=false:=decide_eq_false (by omega);have Z:0<s.size:=G;obtain⟨c,hx⟩: ∃c:UInt8,s[0]'Z=c:=⟨_,rfl⟩
    have hcl:s.data.toList[0]?=some c:=by rw[<-hx];exact Lib.data_getElem? s 0 Z
    have E:=Lh (show Tt.code s.data.toList=(!Tt.sign c && Tt.codeTail (s.data.toList.drop 0))by
      have hl:=T.o;cases hh:s.data.toList with
      | nil=>rw[hh]at hcl;cases hcl
      | cons c' r=>
        rw[hh]at hcl hl;obtain rfl:c'=c:=by simpa using hcl
        rw[Tt.code_ref,decide_eq_true (by rw[<-hl];exact h2)];rfl)
    clear hcl;by_cases D:c=95
    · have X:=BQ c 95 95 rfl D;have J:=Lh (show Tt.code s.data.toList=false by rw[E.o,D];rfl);clear D;go_enter Tryz.func35,Tryz.ntmps35;go_wp2_with fail;go_ret;exact⟨Ag J.o.symm,rfl⟩
    · have X:=AQ c 95 95 rfl D;by_cases F:c=45
      · have t2:=BQ c 45 45 rfl F;have J:=Lh (show Tt.code s.data.toList=false by rw[E.o,F];rfl);clear D F;go_enter Tryz.func35,Tryz.ntmps35;go_wp2_with fail;go_ret;exact⟨Ag J.o.symm,rfl⟩
      · have t2:=AQ c 45 45 rfl F;have J:=Lh (show Tt.code s.data.toList=(s.data.toList.drop 0).all (fun c=>Tt.alnum c || Tt.sign c)by
          rw[E.o,show Tt.sign c=false by unfold Tt.sign;rw[beq_eq_false_iff_ne.2 D,beq_eq_false_iff_ne.2 F];rfl];rfl)
        clear D F;go_enter Tryz.func35,Tryz.ntmps35;go_wp2_with fail;clear X t2 hx;go_loop [3] (fun i=> ∃k:Nat,k<=s.size/\i=ja jb k/\Hid (Tt.code s.data.toList=(s.data.toList.drop k).all (fun c=>Tt.alnum c || Tt.sign c))) (fun i=>s.size - (intOf i).toNat)
        case atStart=>exact⟨0,xl _,rfl,J.o⟩
        case round=>
          obtain⟨k,hk,rfl,U⟩:=hrel;by_cases H:k<s.size
          · obtain⟨c,hx⟩: ∃c:UInt8,s[k]'H=c:=⟨_,rfl⟩
            have hcl:=Lib.data_getElem? s k H;rw[hx]at hcl;have Y:=Lh (U.o.trans (Tt.all_step _ _ _ _ hcl));have O:=Lh (Ny c);clear hcl;have A:(BP c=true/\Hid ((Tt.alnum c || Tt.sign c)=true))∨(BP c=false/\Bj c=true/\Hid ((Tt.alnum c || Tt.sign c)=true))∨
                (BP c=false/\Bj c=false/\((c.toNat:Int) !=95)=false/\Hid ((Tt.alnum c || Tt.sign c)=true))∨
                (BP c=false/\Bj c=false/\((c.toNat:Int) !=95)=true/\((c.toNat:Int) !=45)=false/\Hid ((Tt.alnum c || Tt.sign c)=true))∨
                (BP c=false/\Bj c=false/\((c.toNat:Int) !=95)=true/\((c.toNat:Int) !=45)=true/\Hid ((Tt.alnum c || Tt.sign c)=false)):=by
              cases e1:BP c
              · cases e2:Bj c
                · by_cases R:c=95
                  · exact .inr (.inr (.inl ⟨rfl,rfl,by simp[R],by show _=_;rw[R];rfl⟩))
                  · have V:((c.toNat:Int) !=95)=true:=by have:=AQ c 95 95 rfl R;simp only[bne,this];rfl
                    by_cases M:c=45
                    · exact .inr (.inr (.inr (.inl ⟨rfl,rfl,V,by simp[M],by show _=_;rw[M];rfl⟩)))
                    · have b2:((c.toNat:Int) !=45)=true:=by have:=AQ c 45 45 rfl M;simp only[bne,this];rfl
                      refine .inr (.inr (.inr (.inr ⟨rfl,rfl,V,b2,?_⟩)));show _=_
                      rw[O.o,e1,e2];unfold Tt.sign;rw[beq_eq_false_iff_ne.2 R,beq_eq_false_iff_ne.2 M];rfl
                · exact .inr (.inl ⟨rfl,rfl,by show _=_;rw[O.o,e1,e2];rfl⟩)
              · exact .inl ⟨rfl,by show _=_;rw[O.o,e1];rfl⟩
            clear O;rcases A with⟨d1,DS⟩ | ⟨d1,d2,DS⟩ | ⟨d1,d2,d3,DS⟩ | ⟨d1,d2,d3,d4,DS⟩ | ⟨d1,d2,d3,d4,DS⟩
            all_goals
              go_wp2_with (first | (go_at_call 57;refine(SH _ c rfl _).mono ?_;rintro e w' ⟨rfl,rfl⟩) | (go_at_call 58;refine(Qv _ c rfl _).mono ?_;rintro e w' ⟨rfl,rfl⟩));first
                | (go_ret
                   exact⟨Ag (by rw[Y.o,DS.o];rfl),rfl⟩)
                | (go_round
                   case rel=>exact⟨k+1,by omega,by go_num,by show _=_;rw[Y.o,DS.o];rfl⟩
                   case measure=>simp[intOf];omega)
          · go_wp2_with fail;go_ret;exact⟨Ag (by rw[U.o,Tt.all_end _ _ _ (by rw[<-T.o];omega)]),rfl⟩
  · have E:=Lh (QV s.data.toList (by rw[<-T.o];exact G));by_cases e:1<=s.size
    · have q1:decide ((s.size:Int)<1)=false:=decide_eq_false (by omega);have q2:decide ((16:Int)<(s.size:Int))=true:=decide_eq_true (by omega);clear G;go_enter Tryz.func35,Tryz.ntmps35;go_wp2_with fail;go_ret;exact⟨Ag (by rw[E.o]),rfl⟩
    · have q1:decide ((s.size:Int)<1)=true:=decide_eq_true (by omega);clear G;go_enter Tryz.func35,Tryz.ntmps35;go_wp2_with fail;go_ret;exact⟨Ag (by rw[E.o]),rfl⟩
end Go.Proofs.YtegjgjgoodekiaaGreatDoor
-- UidW3
namespace Go.Proofs.YtegjgjgoodekiaaGreatDoor
open Go.RowKit
theorem Qy(c:UInt8):(((c.toNat:Int) !=10)=false/\c.toNat=10/\Hid (Tt.labC c=true))∨
  (((c.toNat:Int) !=10)=true/\(c.toNat:Int)<32/\Hid (Tt.labC c=false))∨
  (((c.toNat:Int) !=10)=true/\ ¬(c.toNat:Int)<32/\(126:Int)<c.toNat/\Hid (Tt.labC c=false))∨
  (((c.toNat:Int) !=10)=true/\ ¬(c.toNat:Int)<32/\ ¬(126:Int)<c.toNat/\Hid (Tt.labC c=true)):=by
 by_cases e:c=10
 ·subst e;exact .inl ⟨rfl,rfl,by show _=_;rfl⟩
 ·have A:((c.toNat:Int) !=10)=true:=by have:=AQ c 10 10 rfl e;simp only[bne,this];rfl
  right
  by_cases w:(c.toNat:Int)<32
  ·refine .inl ⟨A,w,?_⟩;show _=_
   unfold Tt.labC;rw[beq_eq_false_iff_ne.2 e,decide_eq_false (by omega)];rfl
  ·by_cases D:(126:Int)<c.toNat
   ·refine .inr (.inl ⟨A,w,D,?_⟩);show _=_
    unfold Tt.labC;rw[beq_eq_false_iff_ne.2 e,decide_eq_false (show ¬c.toNat<=126 by omega)];simp
   ·refine .inr (.inr ⟨A,w,D,?_⟩);show _=_
    unfold Tt.labC;rw[decide_eq_true (by omega),decide_eq_true (by omega)];simp
theorem MM(s:ByteArray)(w:World)(hs:s.size<=4611686018427387904):Calls Tryz.prog 137 #[jc s] w fun e w'=>e=jh (je (Tt.labB s.data.toList))/\Below w.heap.size w w':=by
  have G:=Lh (Lib.size_eq s);have J:=Lh (show Tt.labB s.data.toList=((s.data.toList.drop 0).all Tt.labC && decide ((s.size:Int)<=64))by
    unfold Tt.labB;rw[<-G.o];congr 1;rw[decide_eq_decide];omega)
  obtain⟨cap,W,D,E,T,hcell⟩:=Fb s w;have A:=Lh hcell;clear hcell;go_enter Tryz.func137,Tryz.ntmps137;go_wp2_with fail;clear D;go_loop [8] (fun i=> ∃k:Nat,k<=s.size/\i=ja jb k/\Hid ((s.data.toList.drop 0).all Tt.labC=(s.data.toList.drop k).all Tt.labC)) (fun i=>s.size - (intOf i).toNat)
  case atStart=>exact⟨0,xl _,rfl,rfl⟩
  case round=>
    obtain⟨k,hk,rfl,M⟩:=hrel;by_cases F:k<s.size
    · obtain⟨c,hcl⟩: ∃c,s.data.toList[k]?=some c:=⟨_,xa (by rw[<-G.o];exact F)⟩
      have U:=A.o k c hcl;have O:=Lh (M.o.trans (Tt.all_step _ _ _ _ hcl));clear hcl;have H:(k:Int)<(s.size:Int):=by omega
      have R:=UInt8.toNat_lt c;rcases Qy c with⟨d1,d2,DS⟩ | ⟨d1,d2,DS⟩ | ⟨d1,d2,d3,DS⟩ | ⟨d1,d2,d3,DS⟩
      all_goals
        go_wp2_with fail;first
          | (go_ret
             exact⟨Ag (by rw[J.o,O.o,DS.o];rfl),E⟩)
          | (go_round
             case rel=>exact⟨k+1,by omega,by go_num,by show _=_;rw[O.o,DS.o];rfl⟩
             case measure=>simp[intOf];omega)
    · have H: ¬(k:Int)<(s.size:Int):=by omega
      go_wp2_with fail;go_ret;exact⟨Ag (by rw[J.o,M.o,Tt.all_end _ _ _ (by rw[<-G.o];omega)];rfl),E⟩
end Go.Proofs.YtegjgjgoodekiaaGreatDoor
-- Ev
namespace Go.Proofs.YtegjgjgoodekiaaGreatDoor
open Go.RowKit
structure Ev where
 uid:ByteArray
 seq:Int
 canc:Bool
 days:Tt.Ser
 start:Int
 mins:Int
 summ:ByteArray
 loc:ByteArray
def Ax(e:Ev)(v:Int):Int:=
 if e.seq<1∨v<e.seq then 3
 else if Tt.serV e.days≠0 then Tt.serV e.days
 else if Tt.serDays e.days=[]then 16
 else if e.start<0∨1440<=e.start∨e.mins<1∨1440<e.mins then 14
 else if e.summ.size=0∨Tt.labB e.summ.data.toList=false∨Tt.labB e.loc.data.toList=false then 4
 else 0
def Ia:Option ByteArray->ByteArray->Bool
 | none,_=>false
 | some p,u=>Op.bytesLess u.toList p.toList || u.toList==p.toList
def Bn(v:Int):Option ByteArray->List Ev->Int
 | _,[]=>0
 | p,e::r=>if A8 e.uid.data.toList=false then 4 else if Ia p e.uid=true then 63 else if Ax e v≠0 then Ax e v else Bn v (some e.uid) r
def Aq(n:ByteArray)(v:Int)(es:List Ev):Int:=
 if Tt.code n.data.toList=false then 10
 else if v<0∨64<v then 3
 else if 256<(es.length:Int)then 2
 else Bn v none es
def OV(es:List Ev)(k:Nat):Option ByteArray:=if k=0 then none else es[k - 1]?.map (·.uid)
theorem I2(es:List Ev)(k:Nat)(e:Ev)(h:es[k]?=some e):OV es (k+1)=some e.uid:=by unfold OV;simp[h]
def Iq(v:Int)(es:List Ev)(k:Nat):Int:=Bn v (OV es k) (es.drop k)
theorem QG(v:Int)(es:List Ev)(k:Nat)(e:Ev)(h:es[k]?=some e):
  Iq v es k=if A8 e.uid.data.toList=false then 4 else if Ia (OV es k) e.uid=true then 63 else if Ax e v≠0 then Ax e v else Iq v es (k+1):=by
 obtain⟨g1,g2⟩:=xc.1 h;unfold Iq;rw[xf g1,g2,Bn,I2 es k e h]
theorem Sx(v:Int)(es:List Ev)(k:Nat)(h:es.length<=k):Iq v es k=0:=by
 unfold Iq;rw[List.drop_eq_nil_of_le h];unfold Bn;rfl
end Go.Proofs.YtegjgjgoodekiaaGreatDoor
-- UidW4
namespace Go.Proofs.YtegjgjgoodekiaaGreatDoor
open Go.RowKit
