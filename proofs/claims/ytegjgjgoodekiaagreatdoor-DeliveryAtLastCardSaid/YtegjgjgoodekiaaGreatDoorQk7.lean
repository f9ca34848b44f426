/- Numbers as decimal texts: strconv.Itoa, both digits, the reference's digits and decimal at the widths that are used; the text of a date. The feed's buffer: put appends one line. The lines of a feed without events, and that such a feed is valid. feed.Format of a feed without events. feed's parser: see, take, number; DeleteFunc where nothing is deleted. feed.Parse of the text of a feed without events. The texts of dates and of times: both of the reference, and the program's times. The text of the rule of a series: recurrence.Format and the reference's. Events in memory; feed.check and timetableref40.faultBehind: their contracts. -/
import Derived.Test.YtegjgjgoodekiaaGreatDoorQk4
import Derived.Test.YtegjgjgoodekiaaGreatDoorQk6
import Derived.Lib.AppendIntMem
import Derived.Test.YtegjgjgoodekiaaGreatDoorUnfoldAll
import Derived.Deep.AppendLies
import Derived.Deep.RegionLaw
import Derived.Deep.RegionHeld3
import Derived.Test.YtegjgjgoodekiaaGreatDoorQk3
import Derived.Deep.LoopGhost
open Go.Value renaming int->ja,string->jc,slice->jd,bool->je,pointer->jf,tuple->jg
open Go.IntKind renaming i64->jb
open Go.Ending renaming returned->jh
open Go.Obj renaming cells->ji
open Array renaming getElem?_eq_some_iff->xa
open List renaming length_append->xb,map_cons->xc,getElem?_eq_getElem->xd,length_cons->xe,eq_nil_of_length_eq_zero->xf,length_map->xh,take_succ_eq_append_getElem->xj,map_append->xl,append_nil->xm,map_nil->xn,getElem?_eq_none->xp
open Nat renaming le_refl->xg,zero_le->xk,le_trans->xo
open Go.World renaming ownsRow_nil->xi
open Option.some renaming inj->xq
set_option maxRecDepth 100000
set_option maxHeartbeats 40000000
namespace Tt
open Go.Lib (decDigits decDigits_one decDigits_two)
def d2(n:Nat):List UInt8:=[UInt8.ofNat (48+n / 10),UInt8.ofNat (48+n % 10)]
def d4(n:Nat):List UInt8:=[UInt8.ofNat (48+n / 1000),UInt8.ofNat (48+n / 100 % 10),UInt8.ofNat (48+n / 10 % 10),UInt8.ofNat (48+n % 10)]
def padD(n k:Nat):List UInt8:=List.replicate (k - (decDigits n).length) 48++decDigits n
theorem CY{n:Nat}(h: ¬n<10):decDigits n=decDigits (n / 10)++[UInt8.ofNat (48+n % 10)]:=by rw[decDigits.eq_def n,dif_neg h]
theorem SJ{n:Nat}(A:1000<=n)(w:n<10000):decDigits n=d4 n:=by
 rw[CY (by omega),CY (n:=n / 10) (by omega),decDigits_two (i:=n / 10 / 10) (by omega) (by omega)];unfold d4;rw[show n / 10 / 10 / 10=n / 1000 by omega,show n / 10 / 10=n / 100 by omega];rfl
theorem padD_two{n:Nat}(h:n<100):padD n 2=d2 n:=by
 unfold padD d2;by_cases w:n<10
 ·rw[decDigits_one w,show n / 10=0 by omega,show n % 10=n by omega];rfl
 ·rw[decDigits_two w h];rfl
theorem padD_four{n:Nat}(A:1000<=n)(w:n<10000):padD n 4=d4 n:=by
 unfold padD;rw[SJ A w];rfl
theorem decim_1(n:Nat):decim n 1 []=decDigits n:=by rw[QR,xm]
theorem dec_len: ∀(k n:Nat),n<10 ^ (k+1)->(decDigits n).length<=k+1
 | 0,n,h=>by rw[decDigits_one (by simpa using h)];simp
 | k+1,n,h=>by
  by_cases w:n<10
  ·rw[decDigits_one w];simp
  ·rw[CY w,xb];have:=dec_len k (n / 10) (by rw[Nat.div_lt_iff_lt_mul (by omega)];rw[Nat.pow_succ]at h;exact h);simp;omega
def dateL(day:Int):List UInt8:=d4 (yOf day).toNat++d2 (mOf day).toNat++d2 (dOf day).toNat
end Tt
namespace Go.Proofs.YtegjgjgoodekiaaGreatDoor
open Go.RowKit
def Pow(w:World):Prop:=∃t fr,w.heap[4]?=some (ji (Lib.pow10Tab.map fun z=>Value.int .u64 z).toArray t fr)
theorem Pow.below{B:Nat}{w w':World}(h:Pow w)(A:6<B)(hb:Below B w w'):Pow w':=by
 obtain⟨t,fr,h⟩:=h;exact⟨t,fr,(hb.block 4 (by omega)).trans h⟩
theorem Fl(n:Int)(w:World)(A:Pow w)(F:0<=n)(E:n<=4611686018427387903):Calls Tryz.prog 109 #[ja jb n] w fun e w'=>e=jh (jc ⟨(Lib.decDigits n.toNat).toArray⟩)/\Below w.heap.size w w':=by
 refine(Any.strconv_Itoa Tryz.laysM171 n (by omega) (by omega) w ?_).mono ?_
 ·obtain⟨t,fr,h⟩:=A;unfold Lib.TabIs World.var?;generalize hn:Program.globalNamed Tryz.prog _=o;have ho:o=some 4:=hn.symm.trans (by kernel_rfl);subst ho;simp[h]
 ·rintro e w' ⟨rfl,k,D,rfl⟩;refine⟨Ix ?_,Lib.below_grow _ _ (xg _) _ _⟩;unfold Lib.itoa;rw[if_neg (by omega)]
theorem OT(c:UInt8)(k:Nat):Lib.repeatL [c] k=List.replicate k c:=by
 induction k with
 | zero=>rfl
 | succ k ih=>rw[Lib.repeatL,ih];rfl
theorem D2(n:Int)(k:Nat)(w:World)(F:Pow w)(J:0<=n)(U:n<=99999)(hk:k<=10):Calls Tryz.prog 172 #[ja jb n,ja jb k] w fun e w'=>e=jh (jc ⟨(Tt.padD n.toNat k).toArray⟩)/\Below w.heap.size w w':=by
 have R:=Lh F;clear F;have hl:=Tt.dec_len 4 n.toNat (by omega);have H:=Lh (show Tt.padD n.toNat k=List.replicate (k - (Lib.decDigits n.toNat).length) 48++Lib.decDigits n.toNat from rfl);go_enter Tryz.func172,Tryz.ntmps172;go_wp2_with fail;refine(Fl n w R.o J (by omega)).mono ?_;rintro e T ⟨rfl,hb1⟩;generalize Lib.decDigits n.toNat=L at hl H ⊢;have A:=Lh hb1;clear hb1;have V:IntKind.i64.wrap ((k:Int) - (L.length:Int))=(k:Int) - (L.length:Int):=by rw[IntKind.wrap_i64];omega
 have hm:max ((k:Int) - (L.length:Int)) 0=((k - L.length:Nat):Int):=by omega
 go_wp2_with fail;refine(Tryz.strings_Repeat ⟨#[48]⟩ (k - L.length) T (by omega) (by show 1*_<=_;omega)).mono ?_;rintro e w2 ⟨rfl,D⟩;have E:=Lh (A.o.trans (D.mono A.o.size));clear D;have M:=Lh (show Lib.repeatL (⟨#[48]⟩:ByteArray).data.toList (k - L.length)=List.replicate (k - L.length) 48 from OT _ _);rw[M.o];have O:(ByteArray.mk (List.replicate (k - L.length) (48:UInt8)).toArray).size<=10:=by rw[Lib.size_eq];simp;omega
 have G:(ByteArray.mk L.toArray).size<=5:=by rw[Lib.size_eq];simpa using hl
 go_wp2_with fail;go_ret;exact⟨by rw[H.o];congr 2,E.o⟩
theorem Hg(n:Int)(k:Nat)(w:World)(F:Pow w)(J:0<=n)(U:n<=99999)(hk:k<=10):Calls Tryz.prog 171 #[ja jb n,ja jb k] w fun e w'=>e=jh (jc ⟨(Tt.padD n.toNat k).toArray⟩)/\Below w.heap.size w w':=by
 have R:=Lh F;clear F;have hl:=Tt.dec_len 4 n.toNat (by omega);have H:=Lh (show Tt.padD n.toNat k=List.replicate (k - (Lib.decDigits n.toNat).length) 48++Lib.decDigits n.toNat from rfl);go_enter Tryz.func171,Tryz.ntmps171;go_wp2_with fail;refine(Fl n w R.o J (by omega)).mono ?_;rintro e T ⟨rfl,hb1⟩;generalize Lib.decDigits n.toNat=L at hl H ⊢;have A:=Lh hb1;clear hb1;have V:IntKind.i64.wrap ((k:Int) - (L.length:Int))=(k:Int) - (L.length:Int):=by rw[IntKind.wrap_i64];omega
 have hm:max ((k:Int) - (L.length:Int)) 0=((k - L.length:Nat):Int):=by omega
 go_wp2_with fail;refine(Tryz.strings_Repeat ⟨#[48]⟩ (k - L.length) T (by omega) (by show 1*_<=_;omega)).mono ?_;rintro e w2 ⟨rfl,D⟩;have E:=Lh (A.o.trans (D.mono A.o.size));clear D;have M:=Lh (show Lib.repeatL (⟨#[48]⟩:ByteArray).data.toList (k - L.length)=List.replicate (k - L.length) 48 from OT _ _);rw[M.o];have O:(ByteArray.mk (List.replicate (k - L.length) (48:UInt8)).toArray).size<=10:=by rw[Lib.size_eq];simp;omega
 have G:(ByteArray.mk L.toArray).size<=5:=by rw[Lib.size_eq];simpa using hl
 go_wp2_with fail;go_ret;exact⟨by rw[H.o];congr 2,E.o⟩
end Go.Proofs.YtegjgjgoodekiaaGreatDoor
-- Put
namespace Go.Proofs.YtegjgjgoodekiaaGreatDoor
open Go.RowKit
structure EC (b B:Nat) (xs:List ByteArray) (w:World):Prop where
 lt:b<B
 ex: ∃v,w.heap[b]?=some (ji #[v] 176 (0,0))/\w.ownsRow B 9 1 v xs.length (xs.map Value.string)
theorem join_nil(ls:List (List UInt8)):Lib.join ls []=ls.flatten:=by
 unfold Lib.join List.intercalate;induction ls with
 | nil=>rfl
 | cons a t ih=>
  cases t with
  | nil=>simp
  | cons b r=>
   rw[show List.intersperse [] (a::b::r)=a::[]::List.intersperse [] (b::r)from rfl];simp only[List.flatten_cons]at ih ⊢;rw[ih];simp
theorem RE{b B:Nat}{v:Value}{n:Nat}{ys:List Value}{w w':World}(D:w.ownsRow B 9 1 v n ys)(F:w.heap[b]?=some (ji #[v] 176 (0,0)))(E:b<w.heap.size)(hb:Below w.drew.heap.size w.drew w')(H:B<=w.heap.size):
  w'.ownsRow B 9 1 v n ys/\Hid (w'.heap[b]?=some (ji #[v] 176 (0,0)))/\w'.cell? ⟨b,0,none⟩=some v/\w'.frozen? ⟨b,0,none⟩=false/\B<=w'.heap.size/\(∀o,(w'.alloc o).cell? ⟨b,0,none⟩=some v):=by
 have A:w'.heap[b]?=some (ji #[v] 176 (0,0)):=(hb.block b E).trans F;exact⟨AD (w:=w.drew) D hb,A,by rw[Lib.cell_of_heap A];rfl,Lib.frozen_of_heap A 0,xo H hb.size,fun o=>by
  have G:=(Lib.alloc_old w' o b (xa.1 A).1).trans A;rw[Lib.cell_of_heap G];rfl⟩
theorem RC{b B:Nat}{v:Value}{n:Nat}{ys:List Value}{w' D:World}{u:Value}(A:Hid (w'.heap[b]?=some (ji #[v] 176 (0,0))))(w:w'.ownsRow B 9 1 v n ys)(G:b<B)(hg:(w'.alloc (ji #[u] 9)).grownBy D v.ownBlock):
  D.cell? ⟨b,0,none⟩=some v/\D.frozen? ⟨b,0,none⟩=false:=by
 have E:b<w'.heap.size:=(xa.1 A.o).1;have F:D.heap[b]?=some (ji #[v] 176 (0,0)):=by
  rw[hg.block b (by simp;omega) (fun e=>by have:=(w.lt b e.symm).1;omega),Lib.alloc_old w' _ b E];exact A.o
 exact⟨by rw[Lib.cell_of_heap F];rfl,Lib.frozen_of_heap F 0⟩
theorem TF{b B g cap:Nat}{v:Value}{xs:List ByteArray}{L:ByteArray}{w' F:World}(D:w'.heap[b]?=some (ji #[v] 176 (0,0)))(A:w'.ownsRow B 9 1 v xs.length (xs.map Value.string))(E:b<B)
  (hg:(w'.alloc (ji #[jc L] 9)).grownBy F v.ownBlock) (w:F.ownsRow B 9 1 (jd (some ⟨g,0,none⟩) (xs.length+1) cap) (xs.length+1) (xs.map Value.string++[jc L])):
  EC b B (xs++[L]) (F.setCell ⟨b,0,none⟩ (jd (some ⟨g,0,none⟩) (xs.length+1) cap)):=by
 have G:b<w'.heap.size:=(xa.1 D).1;have H:F.heap[b]?=some (ji #[v] 176 (0,0)):=by
  rw[hg.block b (by simp;omega) (fun e=>by have:=(A.lt b e.symm).1;omega),Lib.alloc_old w' _ b G];exact D
 refine⟨E,jd (some ⟨g,0,none⟩) (xs.length+1) cap,by simp[World.setCell,Array.getElem?_modify,H],?_⟩;have:=ownsRow_setCell_below w (a:=⟨b,0,none⟩) E (jd (some ⟨g,0,none⟩) (xs.length+1) cap);simpa using this
theorem TE{b B n:Nat}{v u:Value}{ys:List Value}{x:Value}{w w' E:World}(hb:Below w.drew.heap.size w.drew w')(A:w'.ownsRow B 9 1 v n ys)(_hbB:b<B)(F:B<=w.heap.size)
  (hg:(w'.alloc (ji #[u] 9)).grownBy E v.ownBlock):AO b B w (E.setCell ⟨b,0,none⟩ x):=by
 have hs:w.heap.size<=w'.heap.size:=hb.size;refine⟨hg.os.trans hb.os,hg.tape.trans hb.tape,hg.output.trans hb.output,?_,fun k hk D=>?_⟩
 ·have:=hg.size;simp[World.setCell]at this ⊢;omega
 ·rw[Below.heap_setCell _ _ _ _ D,hg.block k (by simp;omega) (fun e=>by have:=(A.lt k e.symm).1;omega),Lib.alloc_old w' _ k (by omega)];exact hb.block k (show k<w.heap.size by omega)
end Go.Proofs.YtegjgjgoodekiaaGreatDoor
-- Written
namespace Go.Proofs.YtegjgjgoodekiaaGreatDoor
open Go.RowKit
theorem EC.kept{b B:Nat}{xs:List ByteArray}{w w':World}(h:EC b B xs w)(D:Below w.heap.size w w'):EC b B xs w':=by
 obtain⟨v,A,E⟩:=h.ex;exact⟨h.lt,v,(D.block b (xa.1 A).1).trans A,AD E D⟩
def str(l:List UInt8):ByteArray:=⟨l.toArray⟩
structure Ew (b:Nat) (n:ByteArray) (v:Int) (ev:Value) (w:World):Prop where
 c0:w.cell? ⟨b,0,none⟩=some (jc n)
 c1:w.cell? ⟨b,1,none⟩=some (ja jb v)
 c2:w.cell? ⟨b,2,none⟩=some ev
theorem Ew.but{a b B:Nat}{n:ByteArray}{v:Int}{ev:Value}{w w':World}(h:Ew a n v ev w)(E:AO b B w w')(A:a<B)(D:a≠b):Ew a n v ev w':=
 ⟨(E.cell (p:=⟨a,0,none⟩) A D).trans h.c0,(E.cell (p:=⟨a,1,none⟩) A D).trans h.c1,(E.cell (p:=⟨a,2,none⟩) A D).trans h.c2⟩
theorem J0(n:ByteArray)(v:Int)(ev:Value)(w:World):
  Ew w.heap.size n v ev ((w.alloc (ji #[jc n,ja jb v,ev] 41)).alloc (ji #[jd none 0 0] 176))/\
  EC (w.heap.size+1) (w.heap.size+2) [] ((w.alloc (ji #[jc n,ja jb v,ev] 41)).alloc (ji #[jd none 0 0] 176))/\
  Below w.heap.size w ((w.alloc (ji #[jc n,ja jb v,ev] 41)).alloc (ji #[jd none 0 0] 176))/\
  ((w.alloc (ji #[jc n,ja jb v,ev] 41)).alloc (ji #[jd none 0 0] 176)).heap.size=w.heap.size+2:=by
 have A:((w.alloc (ji #[jc n,ja jb v,ev] 41)).alloc (ji #[jd none 0 0] 176)).heap[w.heap.size]?=some (ji #[jc n,ja jb v,ev] 41 (0,0)):=by
  rw[Lib.alloc_old _ _ _ (by simp)];exact heap_alloc_new w _
 have D:((w.alloc (ji #[jc n,ja jb v,ev] 41)).alloc (ji #[jd none 0 0] 176)).heap[w.heap.size+1]?=some (ji #[jd none 0 0] 176 (0,0)):=by
  have:=heap_alloc_new (w.alloc (ji #[jc n,ja jb v,ev] 41)) (ji #[jd none 0 0] 176);simpa using this
 refine⟨⟨?_,?_,?_⟩,⟨by omega,jd none 0 0,D,xi _ _ _ _⟩,((Below.refl _ w).alloc (xg _) _).alloc (by simp) _,by simp⟩
 all_goals (rw[Lib.cell_of_heap A];rfl)
end Go.Proofs.YtegjgjgoodekiaaGreatDoor
-- Format
namespace Go.Proofs.YtegjgjgoodekiaaGreatDoor
open Go.RowKit
theorem VQ(n:ByteArray)(v:Int)(ev:Value)(w:World):Ew w.heap.size n v ev (w.alloc (ji #[jc n,ja jb v,ev] 41)):=by
 have A:=heap_alloc_new w (ji #[jc n,ja jb v,ev] 41);refine⟨?_,?_,?_⟩
 all_goals (rw[Lib.cell_of_heap A];rfl)
theorem Ew.below{a B:Nat}{n:ByteArray}{v:Int}{ev:Value}{w w':World}(h:Ew a n v ev w)(D:Below B w w')(A:a<B):Ew a n v ev w':=
 ⟨(D.cell (p:=⟨a,0,none⟩) A).trans h.c0,(D.cell (p:=⟨a,1,none⟩) A).trans h.c1,(D.cell (p:=⟨a,2,none⟩) A).trans h.c2⟩
theorem addr_add(g k:Nat):(⟨g,0,none⟩:Addr).add k=⟨g,k,none⟩:=by
 unfold Addr.add;split
 ·simp
 ·simp
theorem MV(ls:List ByteArray)(k:Nat)(x:ByteArray)(h:ls[k]?=some x):(ls.take (k+1)).flatMap (fun l=>Tt.fold l.data.toList)=(ls.take k).flatMap (fun l=>Tt.fold l.data.toList)++Tt.fold x.data.toList:=by
 obtain⟨w,A⟩:=List.getElem?_eq_some_iff.1 h;rw[xj w,A];simp
theorem Ts(ls:List ByteArray)(k:Nat):((ls.take k).flatMap (fun l=>Tt.fold l.data.toList)).length<=(ls.flatMap (fun l=>Tt.fold l.data.toList)).length:=by
 conv=>rhs;rw[<-List.take_append_drop k ls]
 rw[List.flatMap_append,xb];omega
end Go.Proofs.YtegjgjgoodekiaaGreatDoor
-- Take
namespace Go.Proofs.YtegjgjgoodekiaaGreatDoor
open Go.RowKit
structure Bl (b g o cap:Nat) (xs:List ByteArray) (z:ByteArray) (bad:Bool) (w:World):Prop where
 hb:w.heap[b]?=some (ji #[jd (some ⟨g,o,none⟩) xs.length cap,jc z,je bad] 136 (0,0))
 str:BW w (some ⟨g,o,none⟩) xs
 le:xs.length<=cap
 ne:g≠b
theorem Bl.c0{b g o cap:Nat}{xs:List ByteArray}{z:ByteArray}{bad:Bool}{w:World}(h:Bl b g o cap xs z bad w):w.cell? ⟨b,0,none⟩=some (jd (some ⟨g,o,none⟩) xs.length cap):=by rw[Lib.cell_of_heap h.hb];rfl
theorem Bl.c2{b g o cap:Nat}{xs:List ByteArray}{z:ByteArray}{bad:Bool}{w:World}(h:Bl b g o cap xs z bad w):w.cell? ⟨b,2,none⟩=some (je bad):=by rw[Lib.cell_of_heap h.hb];rfl
theorem Bl.f0{b g o cap:Nat}{xs:List ByteArray}{z:ByteArray}{bad:Bool}{w:World}(h:Bl b g o cap xs z bad w)(i:Nat):w.frozen? ⟨b,i,none⟩=false:=Lib.frozen_of_heap h.hb i
theorem Bl.hd{b g o cap:Nat}{x:ByteArray}{xs:List ByteArray}{z:ByteArray}{bad:Bool}{w:World}(h:Bl b g o cap (x::xs) z bad w):w.cell? ⟨g,o,none⟩=some (jc x):=by
 obtain⟨a,ha,hc⟩:=h.str 0 x rfl;cases ha;simpa[Addr.add]using hc
theorem Bl.lt{b g o cap:Nat}{xs:List ByteArray}{z:ByteArray}{bad:Bool}{w:World}(h:Bl b g o cap xs z bad w):b<w.heap.size:=(xa.1 h.hb).1
theorem D5(g o k:Nat):(⟨g,o,none⟩:Addr).add k=⟨g,o+k,none⟩:=by
 unfold Addr.add;split
 ·simp[*]
 ·simp
theorem IM{w w':World}{g o A:Nat}{x:ByteArray}{xs:List ByteArray}(h:BW w (some ⟨g,o,none⟩) (x::xs))(ho:A=o+1∨xs=[])(D:w'.heap[g]?=w.heap[g]?):BW w' (some ⟨g,A,none⟩) xs:=by
 intro j y hy;rcases ho with rfl | rfl
 ·obtain⟨a,ha,hc⟩:=h (j+1) y hy;cases ha;refine⟨_,rfl,?_⟩;rw[D5]at hc ⊢;rw[World.cell?_of_block (w:=w) (by simpa using D),show o+1+j=o+(j+1)by omega];exact hc
 ·cases hy
theorem AN(w:World)(b i:Nat)(v:Value):B7 b w (w.setCell ⟨b,i,none⟩ v):=
 ⟨rfl,rfl,rfl,by simp[World.setCell],fun k hk=>Below.heap_setCell _ _ _ _ hk⟩
theorem Dv(b g o cap:Nat)(x:ByteArray)(xs:List ByteArray)(z k:ByteArray)(bad:Bool)(w:World)(h:Bl b g o cap (x::xs) z bad w):
  Calls Tryz.prog 72 #[jf (some ⟨b,0,none⟩),jc k] w fun e w'=>e=jh (jg #[jc ⟨(Lib.trimPrefix x.data.toList k.data.toList).toArray⟩,je (Lib.hasPrefix x.data.toList k.data.toList)])/\w'=w:=by
 have c0:=h.c0;have c1:=h.hd;have hl2:(((x::xs).length:Int)==0)=false:=by rw[xe];exact beq_eq_false_iff_ne.2 (by omega)
 have D:(0:Int)<((x::xs).length:Int):=by rw[xe];omega
 go_enter Tryz.func72,Tryz.ntmps72;go_wp2_with fail;refine(Tryz.strings_CutPrefix _ _ _).mono ?_;rintro e E ⟨rfl,A⟩;rw[A];clear A E;go_wp2_with fail;go_ret2;exact⟨rfl,rfl⟩
theorem Lk(b g o cap:Nat)(z k:ByteArray)(bad:Bool)(w:World)(h:Bl b g o cap [] z bad w):
  Calls Tryz.prog 72 #[jf (some ⟨b,0,none⟩),jc k] w fun e w'=>e=jh (jg #[jc ⟨#[]⟩,je false])/\w'=w:=by
 have c0:=h.c0;go_enter Tryz.func72,Tryz.ntmps72;go_wp2_with fail;go_ret2;exact⟨rfl,rfl⟩
theorem CW(b g o cap:Nat)(x:ByteArray)(xs:List ByteArray)(z k:ByteArray)(bad:Bool)(w:World)(A:Bl b g o cap (x::xs) z bad w)(hp:Lib.hasPrefix x.data.toList k.data.toList=true):
  Calls Tryz.prog 70 #[jf (some ⟨b,0,none⟩),jc k] w fun e w'=>e=jh (jc ⟨(Lib.trimPrefix x.data.toList k.data.toList).toArray⟩)/\(∃o' cap',Bl b g o' cap' xs z bad w')/\B7 b w w':=by
 have c0:=A.c0;have E:(1:Int)<=((x::xs).length:Int):=by rw[xe];omega
 have hf:=A.f0 0;go_enter Tryz.func70,Tryz.ntmps70;go_wp2_with fail;refine(Dv b g o cap x xs z k bad w A).mono ?_;rintro e F ⟨rfl,D⟩;rw[D,hp];clear D F;go_wp2_with fail
 ·go_ret;refine⟨rfl,⟨o,0,?_⟩,AN _ _ _ _⟩;have hx:xs=[]:=by have:=A.le;simp at this;apply xf;omega
  exact⟨by simp[World.setCell,Array.getElem?_modify,A.hb],IM A.str (.inr hx) (Below.heap_setCell _ _ _ _ A.ne),by rw[hx];simp,A.ne⟩
 ·go_ret;refine⟨rfl,⟨o+1,cap - 1,?_⟩,AN _ _ _ _⟩;exact⟨by simp[World.setCell,Array.getElem?_modify,A.hb],IM A.str (.inl rfl) (Below.heap_setCell _ _ _ _ A.ne),by have:=A.le;simp at this;omega,A.ne⟩
theorem Bl.below{b g o cap:Nat}{xs:List ByteArray}{z:ByteArray}{bad:Bool}{w w':World}(h:Bl b g o cap xs z bad w)(A:Below w.heap.size w w')(hg:g<w.heap.size):Bl b g o cap xs z bad w':=
 ⟨(A.block b h.lt).trans h.hb,fun j x hx=>by
  obtain⟨a,ha,hc⟩:=h.str j x hx;refine⟨a,ha,?_⟩;cases ha;rw[D5]at hc ⊢;exact(A.cell (p:=⟨g,o+j,none⟩) hg).trans hc,h.le,h.ne⟩
theorem Bl.set2{b g o cap:Nat}{xs:List ByteArray}{z:ByteArray}{bad:Bool}{w:World}(h:Bl b g o cap xs z bad w)(A:Bool):Bl b g o cap xs z A (w.setCell ⟨b,2,none⟩ (je A)):=
 ⟨by simp[World.setCell,Array.getElem?_modify,h.hb],fun j x hx=>by
  obtain⟨a,ha,hc⟩:=h.str j x hx;refine⟨a,ha,?_⟩;cases ha;rw[D5]at hc ⊢;rw[World.cell?_of_block (w:=w) (Below.heap_setCell _ _ _ _ h.ne)];exact hc,h.le,h.ne⟩
theorem Cy(b g o cap:Nat)(xs:List ByteArray)(z s:ByteArray)(n:Int)(hl:s.size<=18)(ha:Lib.atoi s.data.toList=some n)(w:World)(D:Bl b g o cap xs z false w)(hg:g<w.heap.size):
  Calls Tryz.prog 71 #[jf (some ⟨b,0,none⟩),jc s] w fun e w'=>e=jh (ja jb n)/\Bl b g o cap xs z false w'/\AO b w.heap.size w w':=by
 go_enter Tryz.func71,Tryz.ntmps71;go_wp2_with fail;refine(Tryz.strconv_Atoi s n hl ha w).mono ?_;rintro e F ⟨rfl,t,G⟩;have A:Below w.heap.size w F:=by rw[G];exact⟨rfl,rfl,rfl,by rw[Lib.bytesWorld_size];omega,fun k hk=>Lib.bytesWorld_at_old w 5 t k hk⟩
 clear G;have E:=D.below A hg;have c2:=E.c2;have hf:=E.f0 2;clear D;go_wp2_with fail;go_ret;refine⟨rfl,E.set2 false,?_⟩;exact(AO.of_below (b:=b) A).trans ((AN F b 2 (je false)).but)
theorem G5(s:ByteArray)(w:World):
  Calls Tryz.prog 68 #[jc s] w fun e w'=>e=jh (je (Lib.hasPrefix s.data.toList [88,45]))/\w'=w:=by
 go_enter Tryz.func68,Tryz.ntmps68;go_wp2_with fail;refine(Tryz.strings_HasPrefix _ _ _).mono ?_;rintro e w2 ⟨rfl,A⟩;rw[A];clear A w2;go_wp2_with fail;go_ret;exact⟨rfl,rfl⟩
theorem index_none(ao:Option Addr)(c:Nat)(xs:List ByteArray)(w:World)(hn:xs.length<=9223372036854775806)(D:BW w ao xs)(hx: ∀x∈xs,Lib.hasPrefix x.data.toList [88,45]=false):
  Calls Tryz.prog 98 #[jd ao xs.length c,.func (.func 68) #[] #[]] w fun e w'=>e=jh (ja jb (-1))/\ ∃q,w'=w.drewN q:=by
 have H:=Lh hx;have F:=Lh D;clear hx D;go_enter Tryz.func98,Tryz.ntmps98;go_wp2_with fail;go_loopw [8] (fun i wr=> ∃k q:Nat,k<=xs.length/\i=ja jb k/\wr=w.drewN q) (fun i _=>xs.length - (intOf i).toNat)
 case atStart=>exact⟨0,0,xk _,rfl,rfl⟩
 case round=>
  obtain⟨k,q,hk,rfl,rfl⟩:=hrel;by_cases A:k<xs.length
  ·obtain⟨x,hx⟩: ∃x,xs[k]?=some x:=⟨_,xd A⟩
   obtain⟨a,rfl,ha⟩:=F.o k x hx;have hp:=H.o x (List.mem_of_getElem? hx);have G:(k:Int)<(xs.length:Int):=by omega
   clear hx;go_wp2_with fail;refine(G5 _ _).mono ?_;rintro e w2 ⟨rfl,E⟩;rw[E,hp];clear E w2;go_wp2_with fail;go_roundw
   case rel=>exact⟨k+1,_,by omega,by go_num,rfl⟩
   case measure=>simp[intOf];omega
  ·go_wp2_with fail;go_ret;exact⟨rfl,_,rfl⟩
theorem KW(ao O:Option Addr)(n m c d:Nat)(xs ys:List ByteArray)(hn:xs.length=n)(hm:ys.length=m)(Y:n<=9223372036854775807)(V:m<=9223372036854775807)(w:World)(R:BW w ao xs)(U:BW w O ys):
  Calls Tryz.prog 75 #[jd ao n c,jd O m d] w fun e w'=>e=jh (je (decide (xs=ys)))/\ ∃q,w'=w.drewN q:=by
 have D:=Lh hn;have F:=Lh hm;have X:=Lh R;have H2:=Lh U;clear hn hm R U;by_cases hl:n=m
 ·subst hl;have hq:((n:Int) !=(n:Int))=false:=by simp
  go_enter Tryz.func75,Tryz.ntmps75;go_wp2_with fail;go_loopw [13] (fun i wr=> ∃k q:Nat,k<=n/\i=ja jb k/\wr=w.drewN q/\Hid (∀j,j<k->xs[j]?=ys[j]?)) (fun i _=>n - (intOf i).toNat)
  case atStart=>exact⟨0,0,xk _,rfl,rfl,fun j hj=>absurd hj (Nat.not_lt_zero _)⟩
  case round=>
   obtain⟨k,q,hk,rfl,rfl,M⟩:=hrel;by_cases A:k<n
   ·obtain⟨x,hx⟩: ∃x,xs[k]?=some x:=⟨_,xd (by rw[D.o];exact A)⟩
    obtain⟨y,hy⟩: ∃y,ys[k]?=some y:=⟨_,xd (by rw[F.o];exact A)⟩
    obtain⟨a,rfl,ha⟩:=X.o k x hx;obtain⟨b,rfl,hb⟩:=H2.o k y hy;have J:=Lh hx;have T:=Lh hy;have Z:(k:Int)<(n:Int):=by omega
    clear hx hy;by_cases he:x=y
    ·have ht:=UT x y he;have G:=Lh he;clear he;go_wp2_with fail;go_quiet (fail);go_wp2_with fail;go_roundw
     case rel=>
      refine⟨k+1,_,by omega,by go_num,rfl,?_⟩;intro j hj;by_cases e:j=k
      ·rw[e,J.o,T.o,G.o]
      ·exact M.o j (by omega)
     case measure=>simp[intOf];omega
    ·have ht:=US x y he;have E:=Lh (show decide (xs=ys)=false from decide_eq_false (fun e=>he (by
      have H:=J.o;rw[e,T.o]at H;exact(xq H).symm)))
     clear he;go_wp2_with fail;go_quiet (fail)
     go_wp2_with fail;go_ret;rw[E.o];exact⟨rfl,_,by rw[World.drewN_drewN]⟩
   ·go_wp2_with fail;go_ret;have:xs=ys:=by
     apply List.ext_getElem?
     intro j;by_cases hj:j<k
     ·exact M.o j hj
     ·rw[xp (by rw[D.o];omega),xp (by rw[F.o];omega)]
    rw[decide_eq_true this];exact⟨rfl,_,rfl⟩
 ·have hq:((n:Int) !=(m:Int))=true:=by rw[bne_iff_ne];omega
  have E:=Lh (show decide (xs=ys)=false from decide_eq_false (fun e=>hl (by rw[<-D.o,<-F.o,e])));clear hl;go_enter Tryz.func75,Tryz.ntmps75;go_wp2_with fail;go_ret;rw[E.o];exact⟨rfl,0,rfl⟩
end Go.Proofs.YtegjgjgoodekiaaGreatDoor
-- Parse
namespace Go.Proofs.YtegjgjgoodekiaaGreatDoor
open Go.RowKit
def Ji:List UInt8:=[66,69,71,73,78,58,86,67,65,76,69,78,68,65,82]
def EY:List UInt8:=[86,69,82,83,73,79,78,58]
def GB:List UInt8:=[80,82,79,68,73,68,58]
def MN:List UInt8:=[78,65,77,69,58]
def DZ:List UInt8:=[82,69,86,73,83,73,79,78,58]
def Jg:List UInt8:=[66,69,71,73,78,58,86,69,86,69,78,84]
theorem BE(k l:List UInt8):Lib.hasPrefix (k++l) k=true:=by
 unfold Lib.hasPrefix;simp
theorem CV(k l:List UInt8):Lib.trimPrefix (k++l) k=l:=by
 unfold Lib.trimPrefix;simp[BE]
theorem Ei{xs ys:List ByteArray}(h:xs.map (·.data.toList)=ys.map (·.data.toList)):xs=ys:=by
 have:=congrArg (List.map (fun l:List UInt8=>(⟨l.toArray⟩:ByteArray))) h;simpa[List.map_map,Function.comp_def,Lib.mk_data]using this
def AF(f:Nat)(n:ByteArray)(v:Int)(ev:Value)(w:World):Prop:=w.heap[f]?=some (ji #[jc n,ja jb v,ev] 41 (0,0))
theorem AF.block{f:Nat}{n:ByteArray}{v:Int}{ev:Value}{w w':World}(h:AF f n v ev w)(A:w'.heap[f]?=w.heap[f]?):AF f n v ev w':=A.trans h
theorem AF.lt{f:Nat}{n:ByteArray}{v:Int}{ev:Value}{w:World}(h:AF f n v ev w):f<w.heap.size:=(xa.1 h).1
theorem AF.c0{f:Nat}{n:ByteArray}{v:Int}{ev:Value}{w:World}(h:AF f n v ev w):w.cell? ⟨f,0,none⟩=some (jc n):=by rw[Lib.cell_of_heap h];rfl
theorem AF.c1{f:Nat}{n:ByteArray}{v:Int}{ev:Value}{w:World}(h:AF f n v ev w):w.cell? ⟨f,1,none⟩=some (ja jb v):=by rw[Lib.cell_of_heap h];rfl
theorem AF.c2{f:Nat}{n:ByteArray}{v:Int}{ev:Value}{w:World}(h:AF f n v ev w):w.cell? ⟨f,2,none⟩=some ev:=by rw[Lib.cell_of_heap h];rfl
theorem AF.fr{f:Nat}{n:ByteArray}{v:Int}{ev:Value}{w:World}(h:AF f n v ev w)(i:Nat):w.frozen? ⟨f,i,none⟩=false:=Lib.frozen_of_heap h i
theorem AF.name{f:Nat}{n n':ByteArray}{v:Int}{ev:Value}{w:World}(h:AF f n v ev w):AF f n' v ev (w.setCell ⟨f,0,none⟩ (jc n')):=by
 unfold AF at h ⊢;simp[World.setCell,Array.getElem?_modify,h]
theorem AF.rev{f:Nat}{n:ByteArray}{v v':Int}{ev:Value}{w:World}(h:AF f n v ev w):AF f n v' ev (w.setCell ⟨f,1,none⟩ (ja jb v')):=by
 unfold AF at h ⊢;simp[World.setCell,Array.getElem?_modify,h]
theorem AF.evs{f:Nat}{n:ByteArray}{v:Int}{ev ev':Value}{w:World}(h:AF f n v ev w):AF f n v ev' (w.setCell ⟨f,2,none⟩ ev'):=by
 unfold AF at h ⊢;simp[World.setCell,Array.getElem?_modify,h]
theorem Bl.other{b g o cap:Nat}{xs:List ByteArray}{z:ByteArray}{bad:Bool}{w w':World}(h:Bl b g o cap xs z bad w)(A:w'.heap[b]?=w.heap[b]?)(D:w'.heap[g]?=w.heap[g]?):Bl b g o cap xs z bad w':=
 ⟨A.trans h.hb,fun j x hx=>by
  obtain⟨a,ha,hc⟩:=h.str j x hx;refine⟨a,ha,?_⟩;cases ha;rw[D5]at hc ⊢;rw[World.cell?_of_block (w:=w) D];exact hc,h.le,h.ne⟩
theorem Bm{w w':World}{g:Nat}{xs:List ByteArray}(h:BW w (some ⟨g,0,none⟩) xs)(A:w'.heap[g]?=w.heap[g]?):BW w' (some ⟨g,0,none⟩) xs:=fun j x hx=>by
 obtain⟨a,ha,hc⟩:=h j x hx;refine⟨a,ha,?_⟩;cases ha;rw[D5]at hc ⊢;rw[World.cell?_of_block (w:=w) A];exact hc
theorem Hu(r g cap:Nat)(xs:List ByteArray)(z:ByteArray)(w A:World)(q:Nat)(O:r+1<=g)(E:g<A.heap.size)(D:xs.length<=cap)(hs:BW A (some ⟨g,0,none⟩) xs)(T:Below r w A)(F:AF r ⟨#[]⟩ 0 (jd none 0 0) A):
  ∃W,W=(((A.drewN q).alloc (ji #[jd (some ⟨g,0,none⟩) xs.length cap,jc z,je false] 136)).alloc (ji #[jc ⟨#[]⟩,ja jb 0,jd none 0 0] 41))/\
   Bl A.heap.size g 0 cap xs z false W/\AF (A.heap.size+1) ⟨#[]⟩ 0 (jd none 0 0) W/\AF r ⟨#[]⟩ 0 (jd none 0 0) W/\Below r w W/\BW W (some ⟨g,0,none⟩) xs/\A.heap.size+2<=W.heap.size:=by
 refine⟨_,rfl,?_⟩;have hb:Below A.heap.size A (((A.drewN q).alloc (ji #[jd (some ⟨g,0,none⟩) xs.length cap,jc z,je false] 136)).alloc (ji #[jc ⟨#[]⟩,ja jb 0,jd none 0 0] 41)):=by
  have H:Below A.heap.size A (A.drewN q):=⟨rfl,rfl,rfl,xg _,fun k hk=>rfl⟩
  exact(H.alloc (by simp) _).alloc (by simp) _
 have R:=heap_alloc_new ((A.drewN q).alloc (ji #[jd (some ⟨g,0,none⟩) xs.length cap,jc z,je false] 136)) (ji #[jc ⟨#[]⟩,ja jb 0,jd none 0 0] 41);have M:=heap_alloc_new (A.drewN q) (ji #[jd (some ⟨g,0,none⟩) xs.length cap,jc z,je false] 136);have J:=Lib.alloc_old ((A.drewN q).alloc (ji #[jd (some ⟨g,0,none⟩) xs.length cap,jc z,je false] 136)) (ji #[jc ⟨#[]⟩,ja jb 0,jd none 0 0] 41) A.heap.size (by simp);have G:=Bm hs (hb.block g E);refine⟨⟨J.trans (by simpa using M),G,D,by omega⟩,by unfold AF;simpa using R,(hb.block r F.lt).trans F,T.trans (hb.mono (by omega)),G,by simp⟩
end Go.Proofs.YtegjgjgoodekiaaGreatDoor
namespace Tt
def stampL(day start:Int):List UInt8:=dateL day++[84]++d2 (start / 60).toNat++d2 (start % 60).toNat++[48,48]
theorem dateL_len(day:Int):(dateL day).length=8:=rfl
theorem stampL_len(day start:Int):(stampL day start).length=15:=rfl
def stampsL(start:Int):List Int->List UInt8
 | []=>[]
 | [d]=>stampL d start
 | d::e::r=>stampL d start++44::stampsL start (e::r)
theorem stampsL_len(start:Int): ∀xs:List Int,(stampsL start xs).length<=16*xs.length
 | []=>xg _
 | [x]=>by show(stampL x start).length<=16;rw[stampL_len];decide
 | x::y::r=>by
  have:=stampsL_len start (y::r);show(stampL x start++44::stampsL start (y::r)).length<=_
  rw[xb,stampL_len,xe];simp only[xe]at this ⊢;omega
theorem stampsL_join(start:Int): ∀xs:List Int,Go.Lib.join (xs.map fun d=>stampL d start) [44]=stampsL start xs
 | []=>rfl
 | [x]=>by rw[xc,Go.Lib.join_cons];show stampL x start++[]=_;rw[xm];rfl
 | x::y::r=>by
  have:=stampsL_join start (y::r);rw[xc,Go.Lib.join_cons]at this;rw[xc,Go.Lib.join_cons,xc];show stampL x start++((44::stampL y start)++Go.Lib.joinTail [44] (r.map fun d=>stampL d start))=stampL x start++44::stampsL start (y::r)
  rw[<-this];rfl
theorem date_toNat{day:Int}(A:0<=day)(w:day<=36524):2000<=yOf day/\yOf day<=2099/\1<=mOf day/\mOf day<=12/\1<=dOf day/\dOf day<=31:=by
 have h:=date_some A w;have:=mlen_bd (yOf day) (mOf day);exact⟨h.y0,h.y1,h.m0,h.m1,h.d0,by have:=h.d1;omega⟩
end Tt
namespace Go.Proofs.YtegjgjgoodekiaaGreatDoor
open Go.RowKit
theorem Rj{l:List UInt8}{n:Nat}(h:l.length=n):(ByteArray.mk l.toArray).size=n:=by rw[Lib.size_eq];simpa using h
theorem MP{lo:Nat}{w:World}{v:Value}{xs:List ByteArray}(A:ByteArray)(h:w.ownsRow lo 9 1 v xs.length (xs.map Value.string))(hn:xs.length<=100000)(hs:(Lib.join (xs.map (·.data.toList)) A.data.toList).length<=140737488355328):
  Calls Tryz.prog 138 #[v,jc A] w fun e w'=>e=jh (jc ⟨(Lib.join (xs.map (·.data.toList)) A.data.toList).toArray⟩)/\Below w.heap.size w w':=by
 rcases h.2 with⟨hv,h0⟩ | ⟨g,cap,cur,hv,r2,r3,r4,r5⟩
 ·have hx:xs=[]:=xf h0;subst hx;subst hv;refine(Tryz.strings_Join_none none 0 A w).mono ?_;rintro e w' ⟨rfl,rfl⟩;exact⟨rfl,Below.refl _ _⟩
 ·have hc:=h.cells (g:=g) (by rw[hv];rfl);subst hv;refine Tryz.strings_Join g 0 cap xs A w (fun j x hj=>?_) (xa.1 r3).1 (by omega) (by omega) hs;have:=hc j (jc x) (by rw[List.getElem?_map,hj];rfl);rw[Addr.add_lit]at this;exact this
theorem mk_bytes{a:ByteArray}{l:List UInt8}(h:a.data.toList=l):a=⟨l.toArray⟩:=ByteArray.ext (Array.toList_inj.mp (by rw[h]))
theorem IK(xs:List Int)(ao:Option Addr)(c:Nat)(start:Int)(B:Nat)(w:World)(hB:B<=w.heap.size)(hI:Ints B w ao xs)(hn:xs.length<=1000)(hd: ∀d∈xs,0<=d/\d<=36524)(s0:0<=start)(s1:start<1440)(hL:CD w)(hP:Pow w)(h6:6<w.heap.size):
  Calls Tryz.prog 141 #[jd ao xs.length c,ja jb start] w fun e w'=>e=jh (jc ⟨(Tt.stampsL start xs).toArray⟩)/\Below w.heap.size w w':=by
 obtain⟨i1,hj,az,aK,aD⟩:=info_parts Dn;have HI:=Lh hI;have aE:=Lh hd;have HL:=Lh hL;have HP:=Lh hP;have aJ:0<=start / 60:=by omega
 have aO:start / 60<=24:=by omega
 have au:=Int.emod_nonneg start (show(60:Int)≠0 by omega);have aN:=Int.emod_lt_of_pos start (show(0:Int)<60 by omega);obtain⟨n,ab⟩: ∃n,n=xs.length:=⟨_,rfl⟩
 have HN:=Lh ab;rw[<-ab]at hn ⊢;clear hI hd ab hL hP;go_enter Tryz.func141,Tryz.ntmps141;go_wp2_with fail;go_loopw [5,14] (fun ov iv wr=> ∃(i:Nat),iv=ja jb i/\i<=n/\Hid (wr.ownsRow w.heap.size 9 1 ov i ((xs.take i).map fun d=>Value.string ⟨(Tt.stampL d start).toArray⟩))/\Hid (Below w.heap.size w wr)) (fun _ iv _=>n - (intOf iv).toNat)
 case atStart=>exact⟨0,rfl,xk _,Lh (xi _ _ _ _),Lh (Below.refl _ _)⟩
 case round=>
  obtain⟨i,rfl,hi,HO,HB⟩:=hrel;have aj:=HB.o.size;by_cases ap:i<n
  ·have hx:i<xs.length:=by rw[<-HN.o];exact ap
   have ag:(i:Int)<n:=by omega
   obtain⟨bo,oo,aA,aG,hcell⟩:=(HI.o.below (HB.o.mono hB)).form (by omega);obtain⟨x,J⟩: ∃x,x=xs[i]:=⟨_,rfl⟩
   have hc:=hcell i x (by rw[J];exact xd hx);have M:=aE.o x (by rw[J];exact List.getElem_mem hx);have HT:=Lh (show xs.take (i+1)=xs.take i++[x]from by rw[xj hx,J]);clear hcell J aG;subst aA;obtain⟨y0,y1,m0,m1,d0,d1⟩:=Tt.date_toNat M.1 M.2;have HR:=Lh (show Tt.stampL x start=Tt.d4 (Tt.yOf x).toNat++Tt.d2 (Tt.mOf x).toNat++Tt.d2 (Tt.dOf x).toNat++[84]++Tt.d2 (start / 60).toNat++Tt.d2 (start % 60).toNat++[48,48]from rfl);have HY:=Lh (Tt.padD_four (n:=(Tt.yOf x).toNat) (by omega) (by omega));have HM:=Lh (Tt.padD_two (n:=(Tt.mOf x).toNat) (by omega));have HD:=Lh (Tt.padD_two (n:=(Tt.dOf x).toNat) (by omega));have HQ:=Lh (Tt.padD_two (n:=(start / 60).toNat) (by omega));have HU:=Lh (Tt.padD_two (n:=(start % 60).toNat) (by omega));go_wp2_with fail;refine(Mz x wr (HL.o.below (by omega) HB.o) M.1 M.2).mono ?_;rintro e w1 ⟨rfl,hw⟩;rw[hw];clear hw w1;generalize Tt.yOf x=y at*;generalize Tt.mOf x=m at*;generalize Tt.dOf x=d at*;have Y:=Lh (show Below wr.heap.size wr wr from Below.refl _ _);have D:=Lh (HP.o.below h6 HB.o);have F:6<wr.heap.size:=by omega
   go_wp2_with fail;refine(D2 y 4 wr (D.o.below F Y.o) (by omega) (by omega) (by omega)).mono ?_;rintro e w1 ⟨rfl,hb1⟩;rw[HY.o];obtain⟨s1,H⟩: ∃s,s=(⟨(Tt.d4 y.toNat).toArray⟩:ByteArray):=⟨_,rfl⟩
   have z1:s1.size=4:=by rw[H];rfl
   rw[<-H];have ar:=Lh H;have U:=Lh (Y.o.trans (hb1.mono Y.o.size));clear H hb1;go_wp2_with fail;refine(D2 m 2 w1 (D.o.below F U.o) (by omega) (by omega) (by omega)).mono ?_;rintro e w2 ⟨rfl,am⟩;rw[HM.o];obtain⟨s2,T⟩: ∃s,s=(⟨(Tt.d2 m.toNat).toArray⟩:ByteArray):=⟨_,rfl⟩
   have z2:s2.size=2:=by rw[T];rfl
   rw[<-T];have aq:=Lh T;have V:=Lh (U.o.trans (am.mono U.o.size));clear T am;go_wp2_with fail;refine(D2 d 2 w2 (D.o.below F V.o) (by omega) (by omega) (by omega)).mono ?_;rintro e w3 ⟨rfl,af⟩;rw[HD.o];obtain⟨s3,O⟩: ∃s,s=(⟨(Tt.d2 d.toNat).toArray⟩:ByteArray):=⟨_,rfl⟩
   have z3:s3.size=2:=by rw[O];rfl
   rw[<-O];have aw:=Lh O;have aa:=Lh (V.o.trans (af.mono V.o.size));clear O af;go_wp2_with fail;refine(D2 (start / 60) 2 w3 (D.o.below F aa.o) aJ (by omega) (by omega)).mono ?_;rintro e w4 ⟨rfl,al⟩;rw[HQ.o];obtain⟨s4,G⟩: ∃s,s=(⟨(Tt.d2 (start / 60).toNat).toArray⟩:ByteArray):=⟨_,rfl⟩
   have z4:s4.size=2:=by rw[G];rfl
   rw[<-G];have aC:=Lh G;have X:=Lh (aa.o.trans (al.mono aa.o.size));clear G al;go_wp2_with fail;refine(D2 (start % 60) 2 w4 (D.o.below F X.o) au (by omega) (by omega)).mono ?_;rintro e w5 ⟨rfl,ak⟩;rw[HU.o];obtain⟨s5,R⟩: ∃s,s=(⟨(Tt.d2 (start % 60).toNat).toArray⟩:ByteArray):=⟨_,rfl⟩
   have z5:s5.size=2:=by rw[R];rfl
   rw[<-R];have aH:=Lh R;have Z:=Lh (X.o.trans (ak.mono X.o.size));clear R ak;have ac:=Lh (AD HO.o Z.o);have aL:=Z.o.size;obtain⟨S,hS⟩: ∃S,S=s1++s2++s3++⟨#[84]⟩++s4++s5++⟨#[48,48]⟩:=⟨_,rfl⟩
   have aB:=Lh hS;have ax:=Lh (show S=⟨(Tt.stampL x start).toArray⟩from mk_bytes (by rw[hS];simp only[Hj,ar.o,aq.o,aw.o,aC.o,aH.o,HR.o]));clear hS;go_wp2_with (at_builtin;refine wpList_append_own_at _ rfl (.tmp 25) (.tmp 44) 98 rfl w.heap.size 9 i1 (jc ⟨#[]⟩) 1 16 Tryz.underlying98 hj az aK aD rfl (by decide) _ _ _ rfl (ac.o.alloc _) ⟨w5.heap.size,0,none⟩ 1 1 [jc S] rfl rfl (by rw[aB.o];exact Bq _ _ _) (by intro u hu;simp at hu;subst hu;rfl) (by unfold maxLen;omega) (by omega) (by simp;omega) ?_);intro v' w6 A E _ av;have ay:=Lh (show Below w.heap.size w w6 from HB.o.trans ((Z.o.mono aj).trans (((Below.refl _ w5).alloc (by omega) _).grown E (by simp;omega) (fun k hk=>(ac.o.lt k hk).1))));have aI:=Lh (show w6.ownsRow w.heap.size 9 1 v' (i+1) ((xs.take (i+1)).map fun d=>Value.string ⟨(Tt.stampL d start).toArray⟩)from by rw[HT.o,xl,xc,xn,<-ax.o,List.map_take];exact A);clear A E av;go_wp2_with fail;go_roundw
   case rel=>exact⟨i+1,by go_num,by omega,aI,ay⟩
   case measure=>simp[intOf];omega
  ·have ag: ¬(i:Int)<n:=by omega
   have HE:=Lh (show xs.take i=xs from by rw[List.take_of_length_le (by rw[<-HN.o];omega)]);have ai:i=n:=by omega
   have HJ:Hid (Calls Tryz.prog 138 #[u5,jc ⟨#[44]⟩] wr fun e w'=>e=jh (jc ⟨(Tt.stampsL start xs).toArray⟩)/\Below wr.heap.size wr w'):=Lh (by
    have ho:=HO.o;rw[HE.o,ai,HN.o,show(xs.map fun d=>Value.string ⟨(Tt.stampL d start).toArray⟩)=(xs.map fun d=>(⟨(Tt.stampL d start).toArray⟩:ByteArray)).map Value.string from by rw[List.map_map];rfl,show xs.length=(xs.map fun d=>(⟨(Tt.stampL d start).toArray⟩:ByteArray)).length from by rw[xh]]at ho;have ah:Lib.join ((xs.map fun d=>(⟨(Tt.stampL d start).toArray⟩:ByteArray)).map (·.data.toList)) (⟨#[44]⟩:ByteArray).data.toList=Tt.stampsL start xs:=by rw[List.map_map];exact Tt.stampsL_join start xs
    have hl:=Tt.stampsL_len start xs;have aM:=HN.o;have h:=MP ⟨#[44]⟩ ho (by rw[xh];omega) (by rw[ah];omega);rw[ah]at h;exact h)
   clear ai;go_wp2_with fail;refine HJ.o.mono ?_;rintro e w7 ⟨rfl,ae⟩;have aF:=Lh (HB.o.trans (ae.mono aj));clear ae HJ;go_wp2_with fail;go_ret;exact⟨rfl,aF.o⟩
end Go.Proofs.YtegjgjgoodekiaaGreatDoor
namespace Tt
def nameW(d:Nat):List UInt8:=([[77,79],[84,85],[87,69],[84,72],[70,82],[83,65],[83,85]]:List (List UInt8)).getD d []
def wdays(wd:Int)(k:Nat):List Nat:=(List.range k).filter fun d=>bit wd d
def byL(wd:Int)(k:Nat):List UInt8:=Go.Lib.join ((wdays wd k).map nameW) [44]
def ruleL(s:Ser):List UInt8:=[70,82,69,81,61,87,69,69,75,76,89,59,73,78,84,69,82,86,65,76,61]++Go.Lib.decDigits s.every.toNat++[59,66,89,68,65,89,61]++byL s.wd 7++[59,85,78,84,73,76,61]++dateL s.last
theorem wdays_step(wd:Int)(k:Nat):wdays wd (k+1)=if bit wd k=true then wdays wd k++[k]else wdays wd k:=by
 unfold wdays;rw[List.range_succ,List.filter_append];by_cases h:bit wd k=true
 ·rw[if_pos h,List.filter_cons_of_pos (p:=fun d:Nat=>bit wd d) h];rfl
 ·rw[if_neg h,List.filter_cons_of_neg (p:=fun d:Nat=>bit wd d) h,List.filter_nil,xm]
theorem wdays_len(wd:Int)(k:Nat):(wdays wd k).length<=k:=by
 unfold wdays;exact xo (List.length_filter_le _ _) (by rw[List.length_range];exact xg _)
theorem QA(w x:List UInt8): ∀xs:List (List UInt8),xs≠[]->Go.Lib.join (xs++[x]) w=Go.Lib.join xs w++w++x
 | [],h=>absurd rfl h
 | y::r,_=>by
  rw[List.cons_append,Go.Lib.join_cons,Go.Lib.join_cons];unfold Go.Lib.joinTail;simp
theorem SU{wd:Int}{k:Nat}(h:bit wd k=true):byL wd (k+1)=byL wd k++(if wdays wd k=[]then[]else[44])++nameW k:=by
 unfold byL;rw[wdays_step,if_pos h,xl,xc,xn];by_cases w:wdays wd k=[]
 ·rw[if_pos w,w];show Go.Lib.join [nameW k] [44]=[]++[]++nameW k
  rw[Go.Lib.join_cons];show nameW k++[]=_
  simp
 ·rw[if_neg w,QA [44] (nameW k) _ (by simpa using w)]
theorem SX{wd:Int}{k:Nat}(h:bit wd k=false):byL wd (k+1)=byL wd k:=by
 unfold byL;rw[wdays_step,if_neg (by simp[h])]
theorem Qq{k:Nat}(h:k<7):(nameW k).length=2:=(show ∀k:Nat,k<7->(nameW k).length=2 by decide) k h
theorem byL_len(wd:Int): ∀k:Nat,k<=7->(byL wd k).length<=3*k
 | 0,_=>by show(Go.Lib.join [] [44]).length<=0;rw[Go.Lib.join_nil];exact xg _
 | k+1,h=>by
  have ih:=byL_len wd k (by omega);cases hb:bit wd k with
  | false=>rw[SX hb];omega
  | true=>
   rw[SU hb,xb,xb,Qq (by omega)];split<;>simp<;>omega
end Tt
namespace Go.Proofs.YtegjgjgoodekiaaGreatDoor
open Go.RowKit
theorem Rz{a w:ByteArray}{c:Int}(h:a=w):Ending.returned (jg #[jc a,ja jb c])=jh (jg #[jc w,ja jb c]):=by rw[h]
theorem RT{i:Nat}(h:i<7):(ByteArray.mk #[77,79,84,85,87,69,84,72,70,82,83,65,83,85]).extract (2*i) (2*i+2)=⟨(Tt.nameW i).toArray⟩:=by
 rcases(show i=0∨i=1∨i=2∨i=3∨i=4∨i=5∨i=6 by omega)with rfl | rfl | rfl | rfl | rfl | rfl | rfl<;>rfl
theorem QD(s:Tt.Ser)(B:Nat)(w:World)(hs:Tt.serV s=0)(ao A:Option Addr)(c c':Nat)(hB:B<=w.heap.size)(hI:Ints B w ao s.ex)(am:Ints B w A s.xt)(hL:CD w)(hP:Pow w)(h6:6<w.heap.size):
  Calls Tryz.prog 140 #[Bf s (jd ao s.ex.length c) (jd A s.xt.length c')] w fun e w'=>e=jh (jg #[jc ⟨(Tt.ruleL s).toArray⟩,ja jb 0])/\Below w.heap.size w w':=by
 obtain⟨i1,hj,aB,aH,aF⟩:=info_parts Dn;have hh:=((Tt.serV_zero s).1 hs).1;have aP:=hh.e0;have aM:=hh.e1;have aj:=hh.l0;have hl1:=hh.l1;have aE:=hh.w0;have aN:=hh.w1;have HV:Hid (Calls Tryz.prog 133 #[Bf s (jd ao s.ex.length c) (jd A s.xt.length c')] (w.alloc (ji #[ja jb s.first,ja jb s.last,ja jb s.every,ja jb s.wd,jd ao s.ex.length c,jd A s.xt.length c'] 59)) fun e w'=>e=jh (ja jb 0)/\Below (w.heap.size+1) (w.alloc (ji #[ja jb s.first,ja jb s.last,ja jb s.every,ja jb s.wd,jd ao s.ex.length c,jd A s.xt.length c'] 59)) w'):=Lh (by
  have hb:=Aa w (ji #[ja jb s.first,ja jb s.last,ja jb s.every,ja jb s.wd,jd ao s.ex.length c,jd A s.xt.length c'] 59);have h:=Cg s B (w.alloc (ji #[ja jb s.first,ja jb s.last,ja jb s.every,ja jb s.wd,jd ao s.ex.length c,jd A s.xt.length c'] 59)) (by have:=hh.n;omega) (by have:=hh.n;omega) ao A c c' (by simp;omega) (hI.below (hb.mono hB)) (am.below (hb.mono hB));rw[hs]at h;refine h.mono fun e w' h2=>⟨h2.1,h2.2.mono (by simp)⟩)
 have S0:Bu w.heap.size s (jd ao s.ex.length c) (jd A s.xt.length c') (w.alloc (ji #[ja jb s.first,ja jb s.last,ja jb s.every,ja jb s.wd,jd ao s.ex.length c,jd A s.xt.length c'] 59)):=heap_alloc_new w _;have E:=Lh S0;have D:=Lh (Aa w (ji #[ja jb s.first,ja jb s.last,ja jb s.every,ja jb s.wd,jd ao s.ex.length c,jd A s.xt.length c'] 59));have HL:=Lh hL;have HP:=Lh hP;obtain⟨w0,G⟩: ∃w0,w0=w.alloc (ji #[ja jb s.first,ja jb s.last,ja jb s.every,ja jb s.wd,jd ao s.ex.length c,jd A s.xt.length c'] 59):=⟨_,rfl⟩
 rw[<-G]at HV E D;obtain⟨ex,ap⟩: ∃n,n=s.ex.length:=⟨_,rfl⟩
 obtain⟨xt,ai⟩: ∃n,n=s.xt.length:=⟨_,rfl⟩
 unfold Bf at HV ⊢;rw[<-ap,<-ai]at HV E G ⊢;clear S0 hI am hL hP hh hs ap ai;obtain⟨e0,e1,e2,e3,e4,e5⟩:=E.o.cells;go_enter Tryz.func140,Tryz.ntmps140;go_upto_region 1 with(fail);rw[<-G];clear G;go_wp2_with fail;refine HV.o.mono ?_;rintro e w1 ⟨rfl,hb1⟩;have F:=Lh hb1;clear hb1 HV e0 e1 e2 e3 e4 e5;have aK:=E.o.lt;have T:=Lh (show Bu w.heap.size s (jd ao ex c) (jd A xt c') w1 from(F.o.block w.heap.size (by omega)).trans E.o);have ak:=Lh (show Below w.heap.size w w1 from D.o.trans (F.o.mono (by omega)));clear E D F;go_wp2_with fail;go_loopw [5,17] (fun ov iv wr=> ∃(i:Nat),iv=ja jb i/\i<=7/\Hid (wr.ownsRow (w.heap.size+1) 9 1 ov (Tt.wdays s.wd i).length ((Tt.wdays s.wd i).map fun d=>Value.string ⟨(Tt.nameW d).toArray⟩))/\Hid (Bu w.heap.size s (jd ao ex c) (jd A xt c') wr)/\Hid (Below w.heap.size w wr)) (fun _ iv _=>7 - (intOf iv).toNat)
 case atStart=>exact⟨0,rfl,xk _,Lh (xi _ _ _ _),T,ak⟩
 case round=>
  clear T ak;obtain⟨i,rfl,hi,HO,HS,HB⟩:=hrel;have aO:=HS.o.lt;obtain⟨e0,e1,e2,e3,e4,e5⟩:=HS.o.cells;by_cases aq:i<7
  ·have ac:(i:Int)<7:=by omega
   have ab:=Lh (show(bits .and .i64 (s.wd / 2 ^ i) 1==1)=Tt.bit s.wd (i:Int)from LK s.wd (i:Int) aE (by omega));cases hb:(bits .and .i64 (s.wd / 2 ^ i) 1==1)
   ·have ah:=Lh (show Tt.wdays s.wd (i+1)=Tt.wdays s.wd i from by rw[Tt.wdays_step,if_neg (by rw[<-ab.o,hb];simp)]);clear ab;go_wp2_with fail;go_roundw
    case rel=>exact⟨i+1,by go_num,by omega,by rw[ah.o];exact HO,HS,HB⟩
    case measure=>simp[intOf];omega
   ·have ah:=Lh (show Tt.wdays s.wd (i+1)=Tt.wdays s.wd i++[i]from by rw[Tt.wdays_step,if_pos (by rw[<-ab.o,hb])]);have az:=Lh (RT aq);have aL:=Tt.wdays_len s.wd i;clear ab;go_wp2_with (at_builtin;refine wpList_append_own_at _ rfl (.tmp 26) (.tmp 33) 98 rfl (w.heap.size+1) 9 i1 (jc ⟨#[]⟩) 1 16 Tryz.underlying98 hj aB aH aF rfl (by decide) _ _ _ rfl (HO.o.alloc _) ⟨wr.heap.size,0,none⟩ 1 1 [jc ⟨(Tt.nameW i).toArray⟩] rfl rfl (by rw[az.o];exact Bq _ _ _) (by intro u hu;simp at hu;subst hu;rfl) (by unfold maxLen;omega) (by omega) (by simp;omega) ?_);intro v' w6 H M _ ax;have O:=Lh (show Below (w.heap.size+1) wr w6 from((Below.refl _ wr).alloc (by omega) _).grown M (by simp;omega) (fun k hk=>(HO.o.lt k hk).1));have aA:=Lh (HB.o.trans (O.o.mono (by omega)));have aJ:=Lh (show Bu w.heap.size s (jd ao ex c) (jd A xt c') w6 from(O.o.block w.heap.size (by omega)).trans HS.o);have aG:=Lh (show w6.ownsRow (w.heap.size+1) 9 1 v' (Tt.wdays s.wd (i+1)).length ((Tt.wdays s.wd (i+1)).map fun d=>Value.string ⟨(Tt.nameW d).toArray⟩)from by rw[ah.o,xb,xl,xc,xn];exact H);clear H M ax;go_wp2_with fail;go_roundw
    case rel=>exact⟨i+1,by go_num,by omega,aG,aJ,aA⟩
    case measure=>simp[intOf];omega
  ·have ac: ¬(i:Int)<7:=by omega
   have av:i=7:=by omega
   subst av;have O:=Lh (Tt.byL_len s.wd 7 (by omega));have HJ:Hid (∀W:World,Below wr.heap.size wr W->Calls Tryz.prog 138 #[u5,jc ⟨#[44]⟩] W fun e w'=>e=jh (jc ⟨(Tt.byL s.wd 7).toArray⟩)/\Below W.heap.size W w'):=Lh (by
    intro W hW;have ho:=AD HO.o hW;have hl:=Tt.wdays_len s.wd 7;rw[show((Tt.wdays s.wd 7).map fun d=>Value.string ⟨(Tt.nameW d).toArray⟩)=((Tt.wdays s.wd 7).map fun d=>(⟨(Tt.nameW d).toArray⟩:ByteArray)).map Value.string from by rw[List.map_map];rfl,show(Tt.wdays s.wd 7).length=((Tt.wdays s.wd 7).map fun d=>(⟨(Tt.nameW d).toArray⟩:ByteArray)).length from by rw[xh]]at ho;have al:Lib.join (((Tt.wdays s.wd 7).map fun d=>(⟨(Tt.nameW d).toArray⟩:ByteArray)).map (·.data.toList)) (⟨#[44]⟩:ByteArray).data.toList=Tt.byL s.wd 7:=by rw[List.map_map];rfl
    have h:=MP ⟨#[44]⟩ ho (by rw[xh];omega) (by rw[al];have:=O.o;omega);rw[al]at h;exact h)
   obtain⟨y0,y1,m0,m1,d0,d1⟩:=Tt.date_toNat aj hl1;have HR:=Lh (show Tt.ruleL s=[70,82,69,81,61,87,69,69,75,76,89,59,73,78,84,69,82,86,65,76,61]++Lib.decDigits s.every.toNat++[59,66,89,68,65,89,61]++Tt.byL s.wd 7++[59,85,78,84,73,76,61]++(Tt.d4 (Tt.yOf s.last).toNat++Tt.d2 (Tt.mOf s.last).toNat++Tt.d2 (Tt.dOf s.last).toNat)from rfl);have HY:=Lh (Tt.padD_four (n:=(Tt.yOf s.last).toNat) (by omega) (by omega));have HM:=Lh (Tt.padD_two (n:=(Tt.mOf s.last).toNat) (by omega));have HD:=Lh (Tt.padD_two (n:=(Tt.dOf s.last).toNat) (by omega));have HE:=Lh (Lib.decDigits_one (i:=s.every.toNat) (by omega));have au:=HB.o.size;have V:=Lh (HP.o.below h6 HB.o);have aI:=Lh (HL.o.below (by omega) HB.o);clear ac;go_wp2_with fail;refine(Fl s.every wr V.o (by omega) (by omega)).mono ?_;rintro e w2 ⟨rfl,R⟩;rw[HE.o];obtain⟨s0,X⟩: ∃s0,s0=(⟨[UInt8.ofNat (48+s.every.toNat)].toArray⟩:ByteArray):=⟨_,rfl⟩
   have z0:s0.size=1:=by rw[X];rfl
   rw[<-X];have E:=Lh X;have D:=Lh R;clear X R;go_wp2_with fail;refine(HJ.o w2 D.o).mono ?_;rintro e w3 ⟨rfl,J⟩;obtain⟨sj,Z⟩: ∃q,q=(⟨(Tt.byL s.wd 7).toArray⟩:ByteArray):=⟨_,rfl⟩
   have zj:sj.size<=21:=by rw[Z,size_mk];exact O.o
   rw[<-Z];have aC:=Lh Z;have ae:=Lh (D.o.trans (J.mono D.o.size));have aw:=Lh (show Bu w.heap.size s (jd ao ex c) (jd A xt c') w3 from(ae.o.block w.heap.size (by omega)).trans HS.o);clear Z J HJ e0 e1 e2 e3 e4 e5;obtain⟨e0,e1,e2,e3,e4,e5⟩:=aw.o.cells;have ag:6<wr.heap.size:=by omega
   go_wp2_with fail;refine(Mz s.last w3 (aI.o.below (by omega) ae.o) aj hl1).mono ?_;rintro e wz ⟨rfl,hw⟩;rw[hw];clear hw wz;generalize Tt.yOf s.last=y at*;generalize Tt.mOf s.last=m at*;generalize Tt.dOf s.last=d at*;have D:=ae;go_wp2_with fail;refine(Hg y 4 w3 (V.o.below ag D.o) (by omega) (by omega) (by omega)).mono ?_;rintro e w4 ⟨rfl,hb1⟩;rw[HY.o];obtain⟨s1,U⟩: ∃s,s=(⟨(Tt.d4 y.toNat).toArray⟩:ByteArray):=⟨_,rfl⟩
   have z1:s1.size=4:=by rw[U];rfl
   rw[<-U];have T:=Lh U;have F:=Lh (D.o.trans (hb1.mono D.o.size));clear U hb1;go_wp2_with fail;refine(Hg m 2 w4 (V.o.below ag F.o) (by omega) (by omega) (by omega)).mono ?_;rintro e w5 ⟨rfl,R⟩;rw[HM.o];obtain⟨s2,aa⟩: ∃s,s=(⟨(Tt.d2 m.toNat).toArray⟩:ByteArray):=⟨_,rfl⟩
   have z2:s2.size=2:=by rw[aa];rfl
   rw[<-aa];have ar:=Lh aa;have af:=Lh (F.o.trans (R.mono F.o.size));clear aa R;go_wp2_with fail;refine(Hg d 2 w5 (V.o.below ag af.o) (by omega) (by omega) (by omega)).mono ?_;rintro e w6 ⟨rfl,J⟩;rw[HD.o];obtain⟨s3,Y⟩: ∃s,s=(⟨(Tt.d2 d.toNat).toArray⟩:ByteArray):=⟨_,rfl⟩
   have z3:s3.size=2:=by rw[Y];rfl
   rw[<-Y];have ay:=Lh Y;have aD:=Lh (af.o.trans (J.mono af.o.size));clear Y J;go_wp2_with fail;go_ret2;exact⟨Rz (mk_bytes (by simp only[Hj,E.o,aC.o,T.o,ar.o,ay.o,HR.o,HE.o,List.append_assoc])),HB.o.trans (aD.o.mono au)⟩
def Ae(e:Ev)(v v':Value):Array Value:=#[jc e.uid,ja jb e.seq,je e.canc,ja jb e.days.first,ja jb e.days.last,ja jb e.days.every,ja jb e.days.wd,v,v',ja jb e.start,ja jb e.mins,jc e.summ,jc e.loc]
def AW(e:Ev)(v v':Value):Value:=.agg (Ae e v v')
def B5(b:Nat)(e:Ev)(v v':Value)(w:World):Prop:=w.heap[b]?=some (ji (Ae e v v') 61 (0,0))
theorem B5.lt{b:Nat}{e:Ev}{v v':Value}{w:World}(h:B5 b e v v' w):b<w.heap.size:=(xa.1 h).1
theorem B5.block{b:Nat}{e:Ev}{v v':Value}{w w':World}(h:B5 b e v v' w)(A:w'.heap[b]?=w.heap[b]?):B5 b e v v' w':=A.trans h
structure Ps (b p:Nat) (e:Ev) (v v':Value) (w:World):Prop where
 c0:w.cell? ⟨b,p,none⟩=some (jc e.uid)
 c1:w.cell? ⟨b,p+1,none⟩=some (ja jb e.seq)
 c2:w.cell? ⟨b,p+2,none⟩=some (je e.canc)
 c3:w.cell? ⟨b,p+3,none⟩=some (ja jb e.days.first)
 c4:w.cell? ⟨b,p+4,none⟩=some (ja jb e.days.last)
 c5:w.cell? ⟨b,p+5,none⟩=some (ja jb e.days.every)
 c6:w.cell? ⟨b,p+6,none⟩=some (ja jb e.days.wd)
 c7:w.cell? ⟨b,p+7,none⟩=some v
 c8:w.cell? ⟨b,p+8,none⟩=some v'
 c9:w.cell? ⟨b,p+9,none⟩=some (ja jb e.start)
 c10:w.cell? ⟨b,p+10,none⟩=some (ja jb e.mins)
 c11:w.cell? ⟨b,p+11,none⟩=some (jc e.summ)
 c12:w.cell? ⟨b,p+12,none⟩=some (jc e.loc)
theorem B5.c{b:Nat}{e:Ev}{v v':Value}{w:World}(h:B5 b e v v' w):Ps b 0 e v v' w:=by
 constructor<;>(rw[Lib.cell_of_heap h];rfl)
theorem AM{w:World}{B:Nat}{e:TypeId}{k:Nat}{v:Value}{n:Nat}{xs:List Value}(h:w.ownsRow B e k v n xs): ∃p c,v=jd p n c:=by
 rcases h.2 with⟨rfl,h0⟩ | ⟨g,cap,cur,rfl,_⟩
 ·subst h0;exact⟨_,_,rfl⟩
 ·exact⟨_,_,rfl⟩
theorem LH(e:Ev)(v:Int)(h:e.seq<1∨v<e.seq):Ax e v=3:=by unfold Ax;rw[if_pos h]
theorem OE(e:Ev)(v:Int)(h: ¬(e.seq<1∨v<e.seq))(w:Tt.serV e.days≠0):Ax e v=Tt.serV e.days:=by unfold Ax;rw[if_neg h,if_pos w]
theorem LI(e:Ev)(v:Int)(h: ¬(e.seq<1∨v<e.seq))(A:Tt.serV e.days=0)(w:Tt.serDays e.days=[]):Ax e v=16:=by unfold Ax;rw[if_neg h,if_neg (by simp[A]),if_pos w]
theorem Ns(e:Ev)(v:Int)(h: ¬(e.seq<1∨v<e.seq))(A:Tt.serV e.days=0)(w:Tt.serDays e.days≠[]):
  Ax e v=if e.start<0∨1440<=e.start∨e.mins<1∨1440<e.mins then 14
   else if e.summ.size=0∨Tt.labB e.summ.data.toList=false∨Tt.labB e.loc.data.toList=false then 4 else 0:=by unfold Ax;rw[if_neg h,if_neg (by simp[A]),if_neg w]
theorem FG(x:ByteArray)(h:x.size≠0):x.toList.isEmpty=false:=by
 rw[Lib.toList_data];cases hx:x.data.toList with
 | nil=>exact absurd (by rw[Lib.size_eq,hx];rfl) h
 | cons c t=>rfl
theorem JB(x:ByteArray)(h:x.size=0):x.toList=[]:=by
 rw[Lib.toList_data];exact xf (by rw[<-Lib.size_eq];exact h)
theorem Pj(e:Ev)(v:Int)(B:Nat)(w:World)(ao G:Option Addr)(c c':Nat)(hB:B<=w.heap.size)(hI:Ints B w ao e.days.ex)(ab:Ints B w G e.days.xt)(hn:e.days.ex.length<=4611686018427387903)(ag:e.days.xt.length<=4611686018427387903)(hs:e.summ.size<=4611686018427387904)(hl:e.loc.size<=4611686018427387904):
  Calls Tryz.prog 107 #[AW e (jd ao e.days.ex.length c) (jd G e.days.xt.length c'),ja jb v] w fun x w'=>x=jh (ja jb (Ax e v))/\Below w.heap.size w w':=by
 have HI:=Lh hI;have ae:=Lh ab;have S0:B5 w.heap.size e (jd ao e.days.ex.length c) (jd G e.days.xt.length c') (w.alloc (ji (Ae e (jd ao e.days.ex.length c) (jd G e.days.xt.length c')) 61)):=heap_alloc_new w _;have ac:=Lh S0;clear hI ab S0;unfold Ae at ac;unfold AW Ae;by_cases h1:e.seq<1∨v<e.seq
 ·have J:=Lh (LH e v h1);rcases h1 with h1 | h1
  ·go_enter Tryz.func107,Tryz.ntmps107;go_wp2_with fail;go_ret;exact⟨Aj J.o.symm,Aa _ _⟩
  ·by_cases h2:e.seq<1
   all_goals
    go_enter Tryz.func107,Tryz.ntmps107;go_wp2_with fail;go_ret;exact⟨Aj J.o.symm,Aa _ _⟩
 ·have k1:1<=e.seq:=by omega
  have k2:e.seq<=v:=by omega
  have H1:=Lh h1;clear h1;go_enter Tryz.func107,Tryz.ntmps107;go_wp2_with fail;refine(Cg e.days B _ hn ag ao G c c' (by simp;omega) (HI.o.below ((Aa w _).mono hB)) (ae.o.below ((Aa w _).mono hB))).mono ?_;rintro x w1 ⟨rfl,hb1⟩;have A:=AS (Aa w _) hb1;have U:=Lh (B5.block (e:=e) ac.o (hb1.block _ (by simp)));clear hb1;by_cases hv:Tt.serV e.days=0
  ·rw[hv];have ak:=U.o.c;obtain⟨c0,c1,c2,c3,c4,c5,c6,c7,c8,c9,O,M,T⟩:=ak;have HV:=Lh hv;clear hv;go_wp2_with fail;refine(VH e.days B _ hn ag ao G c c' (xo hB A.size) (HI.o.below (A.mono hB)) (ae.o.below (A.mono hB))).mono ?_;rintro x w2 ⟨u,rfl,V,aa⟩;obtain⟨q1,q2,hu⟩:=AM V;subst hu;have E:=AS A aa;have R:=Lh (U.o.block (aa.block _ U.o.lt));clear aa V c0 c1 c2 c3 c4 c5 c6 c7 c8 c9 O M T U A;obtain⟨c0,c1,c2,c3,c4,c5,c6,c7,c8,c9,O,M,T⟩:=R.o.c;by_cases hd:Tt.serDays e.days=[]
   ·have J:=Lh (LI e v H1.o HV.o hd);have D:(Tt.serDays e.days).length=0:=by rw[hd];rfl
    rw[D];clear hd D;go_wp2_with fail;go_ret;exact⟨Aj J.o.symm,E⟩
   ·have J:=Lh (Ns e v H1.o HV.o hd);obtain⟨n,D⟩: ∃n,(Tt.serDays e.days).length=n+1:=⟨(Tt.serDays e.days).length - 1,by have:=List.length_pos_iff.2 hd;omega⟩
    rw[D];clear hd D;by_cases ht:e.start<0∨1440<=e.start∨e.mins<1∨1440<e.mins
    ·have H:=Lh (J.o.trans (if_pos ht));clear J;go_wp2_with fail
     all_goals first
      | (go_ret;exact⟨Aj H.o.symm,E⟩)
      | (exfalso;omega)
    ·have H:=Lh (J.o.trans (if_neg ht));have t1: ¬e.start<0:=by omega
     have t2: ¬1440<=e.start:=by omega
     have t3: ¬e.mins<1:=by omega
     have t4: ¬1440<e.mins:=by omega
     clear J ht;by_cases hz:e.summ.size=0
     ·have F:=Lh (H.o.trans (if_pos (.inl hz)));have af:=JB _ hz;have al:(!e.summ.toList.isEmpty)=false:=by rw[af];rfl
      clear hz;go_wp2_with fail;go_ret;exact⟨Aj F.o.symm,E⟩
     ·have af:=FG _ hz;have HZ:=Lh hz;clear hz;go_wp2_with fail;refine(MM e.summ _ hs).mono ?_;rintro x w3 ⟨rfl,Z⟩;have Y:=AS E Z;have ai:=Lh (R.o.block (Z.block _ R.o.lt));clear c0 c1 c2 c3 c4 c5 c6 c7 c8 c9 O M T R E Z;obtain⟨c0,c1,c2,c3,c4,c5,c6,c7,c8,c9,O,M,T⟩:=ai.o.c;cases hl1:Tt.labB e.summ.data.toList
      ·have F:=Lh (H.o.trans (if_pos (.inr (.inl hl1))));clear hl1;go_wp2_with fail;go_ret;exact⟨Aj F.o.symm,Y⟩
      ·have ah:=Lh hl1;clear hl1;go_wp2_with fail;refine(MM e.loc _ hl).mono ?_;rintro x w4 ⟨rfl,aj⟩;have X:=AS Y aj;cases hl2:Tt.labB e.loc.data.toList
       ·have F:=Lh (H.o.trans (if_pos (.inr (.inr hl2))));clear hl2;go_wp2_with fail;go_ret;exact⟨Aj F.o.symm,X⟩
       ·have F:=Lh (H.o.trans (if_neg (by rw[hl2,ah.o];simp[HZ.o])));clear hl2;go_wp2_with fail;go_ret;exact⟨Aj F.o.symm,X⟩
  ·have J:=Lh (OE e v H1.o hv);have hv2:(Tt.serV e.days !=0)=true:=by simp[hv]
   clear hv;go_wp2_with fail;go_ret;exact⟨Aj J.o.symm,A⟩
