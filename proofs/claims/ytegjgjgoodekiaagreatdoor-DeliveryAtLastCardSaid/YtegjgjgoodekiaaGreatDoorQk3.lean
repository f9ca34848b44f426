/- strings.Builder over this program: contracts of copyCheck, WriteByte, WriteString, String, Len with a frame that keeps all blocks below a bound but the builder's own. Plain facts on texts of a calendar: how a text is escaped and read back, how a line is folded, what a text is unfolded to. No program in sight. Condition: none. feed.Escape: its contract. feed.Unescape: its contract. codes.Valid: its contract. -/
import Derived.Test.YtegjgjgoodekiaaGreatDoorPk1
import Derived.Lib.Builder
import Derived.Lib.AppendStr
import Derived.Lib.Walk
import Derived.Laws.Externs
import Derived.Test.YtegjgjgoodekiaaGreatDoorShelf
import Derived.Lib.Split
import Derived.Laws.IdiomStrings
import Derived.LoopTactic
open Array renaming getElem?_eq_some_iff->xa
open Nat renaming le_refl->xb,zero_le->xi
open List renaming length_cons->xc,getElem?_eq_some_iff->xd,append_assoc->xe,mem_cons->xf,take_append_drop->xg,flatMap_cons->xh,length_append->xj,flatten_cons->xk
set_option maxRecDepth 100000
set_option maxHeartbeats 40000000
namespace Go.Proofs.YtegjgjgoodekiaaGreatDoor
open Go.RowKit
structure FO (b B:Nat) (l:List UInt8) (w:World):Prop where
 lt:b<B
 ex: ∃p v,(p=.pointer none∨p=.pointer (some ⟨b,0,none⟩))/\w.heap[b]?=some (.cells #[p,v] 147 (0,0))/\w.ownsRow B 5 1 v l.length (Lib.byteCells l)
structure AO (b B:Nat) (w w':World):Prop where
 os:w'.os=w.os
 tape:w'.tape=w.tape
 output:w'.output=w.output
 size:w.heap.size<=w'.heap.size
 block: ∀k,k<B->k≠b->w'.heap[k]?=w.heap[k]?
theorem AO.refl(b B:Nat)(w:World):AO b B w w:=⟨rfl,rfl,rfl,xb _,fun _ _ _=>rfl⟩
theorem AO.trans{b B:Nat}{w w2 A:World}(h:AO b B w w2)(k:AO b B w2 A):AO b B w A:=
 ⟨k.os.trans h.os,k.tape.trans h.tape,k.output.trans h.output,Nat.le_trans h.size k.size,fun i hi hb=>(k.block i hi hb).trans (h.block i hi hb)⟩
theorem AO.below{b B A:Nat}{w w':World}(h:AO b B w w')(D:A<=b)(E:A<=B):Below A w w':=
 ⟨h.os,h.tape,h.output,h.size,fun k hk=>h.block k (by omega) (by omega)⟩
theorem AO.of_below{b B:Nat}{w w':World}(h:Below B w w'):AO b B w w':=⟨h.os,h.tape,h.output,h.size,fun k hk _=>h.block k hk⟩
theorem AO.cell{b B:Nat}{w w':World}(h:AO b B w w'){p:Addr}(A:p.block<B)(D:p.block≠b):w'.cell? p=w.cell? p:=World.cell?_of_block (w:=w) (h.block p.block A D)
theorem FO.fresh(w:World)(B:Nat)(A:w.heap.size<B):FO w.heap.size B [] (w.alloc (.cells #[.pointer none,.slice none 0 0] 147)):=
 ⟨A,_,_,.inl rfl,heap_alloc_new w _,World.ownsRow_nil _ _ _ _⟩
theorem FO.kept{b B:Nat}{l:List UInt8}{w w':World}(h:FO b B l w)(D:Below w.heap.size w w'):FO b B l w':=by
 obtain⟨p,v,hp,hb,A⟩:=h.ex;refine⟨h.lt,p,v,hp,(D.block b (xa.1 hb).1).trans hb,A.1,?_⟩;rcases A.2 with E | ⟨g,cap,cur,r1,r2,r3,r4⟩
 ·exact .inl E
 ·exact .inr ⟨g,cap,cur,r1,r2,(D.block g (xa.1 r3).1).trans r3,r4⟩
theorem FO.blt{b B:Nat}{l:List UInt8}{w:World}(h:FO b B l w):b<w.heap.size:=by
 obtain⟨p,v,hp,hb,A⟩:=h.ex;exact(xa.1 hb).1
theorem sizeBuilder:(Tryz.prog.info? 147).map (·.size)=some 2:=by kernel_rfl
theorem liesBuilder:liesAt Tryz.prog Tryz.prog.depth 147 (2 / Tryz.prog.cellsOf 147) 0 147 1=true:=by kernel_rfl
theorem infoByte:(Tryz.prog.info? 5).map (fun i=>(i.zero,i.size,i.bytes))=some (some (.int .u8 0),1,1):=by kernel_rfl
theorem JI(b:Nat)(w:World)(A:w.cell? ⟨b,0,none⟩=some (.pointer (some ⟨b,0,none⟩))):
  Calls Tryz.prog 111 #[.pointer (some ⟨b,0,none⟩)] w fun e w'=>e=.returned (.tuple #[])/\w'=w:=by
 obtain⟨j,hj,_⟩:=Option.map_eq_some_iff.1 sizeBuilder;go_enter Tryz.func111,Tryz.ntmps111;go_wp2
 rw[Lib.run_neq_ptr_same w _ Tryz.underlying145 hj];go_wp2
 go_end0
 exact⟨rfl,rfl⟩
theorem Is(b:Nat)(w:World)(F:w.cell? ⟨b,0,none⟩=some (.pointer none))(A:w.shape? b=some (147,2))(E:w.frozen? ⟨b,0,none⟩=false):
  Calls Tryz.prog 111 #[.pointer (some ⟨b,0,none⟩)] w fun e w'=>e=.returned (.tuple #[])/\w'=w.setCell ⟨b,0,none⟩ (.pointer (some ⟨b,0,none⟩)):=by
 obtain⟨j,hj,D⟩:=Option.map_eq_some_iff.1 sizeBuilder;go_enter Tryz.func111,Tryz.ntmps111;go_wp2
 rw[Lib.run_to_unsafe w ⟨b,0,none⟩ Tryz.underlying145 Tryz.underlying205 hj (by rw[D];decide) A (Nat.zero_lt_succ 1)];simp only[Result.andThen];rw[Oper.upon_value];go_wp2
 rw[run_callFunc_extern Tryz.func143 (by kernel_rfl) (by kernel_rfl) (by kernel_rfl) (e:=Extern.AbiNoEscape.same) (by kernel_rfl)];rw[Lib.run_noEscape];simp only[Result.andThen];rw[Oper.upon_value];go_wp2
 rw[Lib.run_from_unsafe w ⟨b,0,none⟩ Tryz.underlying205 Tryz.underlying145 hj A liesBuilder];simp only[Result.andThen];rw[Oper.upon_value];go_wp2
 go_end0
 exact⟨rfl,rfl⟩
theorem C7{w:World}{B:Nat}{v:Value}{n:Nat}{xs:List Value}{b j:Nat}(h:w.ownsRow B 5 1 v n xs)(hb:b<B)(u:Value):(w.setCell ⟨b,j,none⟩ u).ownsRow B 5 1 v n xs:=
 ownsRow_setCell_below h (a:=⟨b,j,none⟩) hb u
theorem FL(b B:Nat)(l:List UInt8)(w:World)(h:FO b B l w):
  Calls Tryz.prog 111 #[.pointer (some ⟨b,0,none⟩)] w fun e w'=>e=.returned (.tuple #[])/\(∃v,w'.heap[b]?=some (.cells #[.pointer (some ⟨b,0,none⟩),v] 147 (0,0))/\w'.ownsRow B 5 1 v l.length (Lib.byteCells l))/\AO b B w w':=by
 obtain⟨p,v,hp,hb,A⟩:=h.ex;rcases hp with rfl | rfl
 ·refine(Is b w (by simp[World.cell?,hb]) (by simp[World.shape?,hb]) (by simp[World.frozen?,hb])).mono ?_;rintro e w' ⟨rfl,rfl⟩;refine⟨rfl,⟨v,by simp[World.setCell,Array.getElem?_modify,hb],C7 A h.lt _⟩,⟨rfl,rfl,rfl,by simp[World.setCell],fun k _ hk=>Below.heap_setCell _ _ _ _ hk⟩⟩
 ·refine(JI b w (by simp[World.cell?,hb])).mono ?_;rintro e w' ⟨rfl,rfl⟩;exact⟨rfl,⟨v,hb,A⟩,AO.refl _ _ _⟩
theorem FO.put{b B:Nat}{l:List UInt8}{w:World}{v v':Value}(D:b<B)(hb:w.heap[b]?=some (.cells #[.pointer (some ⟨b,0,none⟩),v] 147 (0,0)))(A:w.ownsRow B 5 1 v' l.length (Lib.byteCells l)):
  FO b B l (w.setCell ⟨b,1,none⟩ v'):=
 ⟨D,_,v',.inr rfl,by simp[World.setCell,Array.getElem?_modify,hb],C7 A D _⟩
theorem BX(b B:Nat)(l:List UInt8)(n:Int)(c:UInt8)(hn:n=c.toNat)(w:World)(h:FO b B l w)(V:l.length+1<=140737488355328)(Y:B<=w.heap.size):
  Calls Tryz.prog 163 #[.pointer (some ⟨b,0,none⟩),.int .u8 n] w fun e w'=>e=.returned .nilIface/\FO b B (l++[c]) w'/\AO b B w w':=by
 subst hn;obtain⟨i0,hi,O,M,R⟩:=info_parts infoByte;have U:=h.lt;go_enter Tryz.func163,Tryz.ntmps163;go_wp2_with fail;refine(FL b B l _ h).mono ?_;rintro e H ⟨rfl,⟨v,F,E⟩,hb1⟩;have X:=hb1.size;have c0:H.cell? ⟨b,0,none⟩=some (.pointer (some ⟨b,0,none⟩)):=by rw[Lib.cell_of_heap F];rfl
 have c1:H.cell? ⟨b,1,none⟩=some v:=by rw[Lib.cell_of_heap F];rfl
 go_wp2_with (at_builtin;refine wpList_append_own _ rfl _ _ 88 rfl B 5 i0 (.int .u8 0) 1 1 Tryz.underlying88 hi O M R rfl (by decide) _ _ _ rfl (E.alloc _) ⟨H.heap.size,0,none⟩ 1 1 [.int .u8 c.toNat] rfl rfl ?c1 ?c2 ?c3 ?c4 ?c5 ?_)
 case c1=>
  intro j u hj;match j,hj with
  | 0,hj=>simp at hj;subst hj;simp[Addr.add]
 case c2=>intro u hu;simp at hu;subst hu;rfl
 case c3=>unfold maxLen;omega
 case c4=>omega
 case c5=>simp;omega
 intro v' w2 D A _;have J:b<H.heap.size:=(xa.1 F).1;have hne:some b≠v.ownBlock:=by
  intro e;have:=(E.lt b e.symm).1;omega
 have G:w2.heap[b]?=some (.cells #[.pointer (some ⟨b,0,none⟩),v] 147 (0,0)):=by
  rw[A.block b (by simp;omega) hne,Lib.alloc_old H _ b J];exact F
 have d1:w2.cell? ⟨b,1,none⟩=some v:=by rw[Lib.cell_of_heap G];rfl
 have Z:w2.frozen? ⟨b,1,none⟩=false:=Lib.frozen_of_heap G 1;obtain⟨g,cap,rfl⟩: ∃g cap,v'=.slice (some ⟨g,0,none⟩) (l.length+1) cap:=by
  rcases D.2 with⟨_,h0⟩ | ⟨g,cap,cur,hv,_⟩
  ·omega
  ·exact⟨g,cap,hv⟩
 go_wp2
 go_ret;refine⟨rfl,FO.put U G (by simpa[Lib.byteCells]using D),?_⟩;refine hb1.trans ⟨A.os,A.tape,A.output,by have:=A.size;simp[World.setCell]at this ⊢;omega,fun k hk T=>?_⟩;rw[Below.heap_setCell _ _ _ _ T,A.block k (by simp;omega) (by intro e;have:=(E.lt k e.symm).1;omega),Lib.alloc_old H _ k (by omega)]
theorem Cr(b B:Nat)(l:List UInt8)(s:ByteArray)(w:World)(h:FO b B l w)(V:l.length+s.size<=140737488355328)(Y:B<=w.heap.size):
  Calls Tryz.prog 77 #[.pointer (some ⟨b,0,none⟩),.string s] w fun e w'=>e=.returned (.tuple #[.int .i64 s.size,.nilIface])/\FO b B (l++s.data.toList) w'/\AO b B w w':=by
 obtain⟨i0,hi,M,J,O⟩:=info_parts infoByte;have U:=h.lt;go_enter Tryz.func77,Tryz.ntmps77;go_wp2_with fail;refine(FL b B l _ h).mono ?_;rintro e T ⟨rfl,⟨v,F,E⟩,hb1⟩;have X:=hb1.size;have c0:T.cell? ⟨b,0,none⟩=some (.pointer (some ⟨b,0,none⟩)):=by rw[Lib.cell_of_heap F];rfl
 have c1:T.cell? ⟨b,1,none⟩=some v:=by rw[Lib.cell_of_heap F];rfl
 go_wp2_with (at_builtin;refine Lib.wpList_append_own_string _ rfl _ _ 88 9 rfl B 5 i0 Tryz.underlying88 Tryz.underlying9 hi M J O _ _ _ rfl E s rfl ?c3 ?c4 ?c5 ?_)
 case c3=>unfold maxLen;omega
 case c4=>omega
 case c5=>omega
 intro v' w2 D A _;have H:b<T.heap.size:=(xa.1 F).1;have hne:some b≠v.ownBlock:=by
  intro e;have:=(E.lt b e.symm).1;omega
 have G:w2.heap[b]?=some (.cells #[.pointer (some ⟨b,0,none⟩),v] 147 (0,0)):=by
  rw[A.block b H hne];exact F
 have d1:w2.cell? ⟨b,1,none⟩=some v:=by rw[Lib.cell_of_heap G];rfl
 have Z:w2.frozen? ⟨b,1,none⟩=false:=Lib.frozen_of_heap G 1;obtain⟨ao,n',cap,rfl⟩: ∃ao n' cap,v'=.slice ao n' cap:=by
  rcases D.2 with⟨hv,h0⟩ | ⟨g,cap,cur,hv,_⟩
  ·exact⟨_,_,_,hv⟩
  ·exact⟨_,_,_,hv⟩
 go_wp2
 go_ret2;refine⟨rfl,FO.put U G ?_,?_⟩
 ·have e:s.size=s.data.toList.length:=Lib.size_eq s;have:=D;rw[e]at this;simpa[Lib.byteCells,Lib.strCells]using this
 refine hb1.trans ⟨A.os,A.tape,A.output,by have:=A.size;simp[World.setCell]at this ⊢;omega,fun k hk R=>?_⟩;rw[Below.heap_setCell _ _ _ _ R,A.block k (by omega) (by intro e;have:=(E.lt k e.symm).1;omega)]
theorem FO.is{b B:Nat}{l:List UInt8}{w:World}(h:FO b B l w):Lib.IsBuilder 147 5 b b (Lib.byteCells l) w:=by
 obtain⟨p,v,hp,hb,D⟩:=h.ex;have F:=h.lt;have A:w.ownsRow b 5 1 v l.length (Lib.byteCells l):=by
  refine⟨D.1,?_⟩;rcases D.2 with E | ⟨g,cap,cur,r1,r2,r3⟩
  ·exact .inl E
  ·exact .inr ⟨g,cap,cur,r1,by omega,r3⟩
 have hne:v.ownBlock≠some b:=fun e=>by have:=(D.lt b e).1;omega
 rcases hp with rfl | rfl
 ·exact .inl ⟨xb _,v,hb,by rw[Lib.byteCells_length];exact A,hne⟩
 ·exact .inr ⟨xb _,v,hb,by rw[Lib.byteCells_length];exact A,hne⟩
theorem Ec(b B:Nat)(l:List UInt8)(w:World)(h:FO b B l w):
  Calls Tryz.prog 80 #[.pointer (some ⟨b,0,none⟩)] w fun e w'=>e=.returned (.string ⟨l.toArray⟩)/\Below b w w':=
 Tryz.Builder_String_any b b l w h.is (Nat.le_of_lt h.blt)
theorem TV(b B:Nat)(l:List UInt8)(w:World)(h:FO b B l w):
  Calls Tryz.prog 79 #[.pointer (some ⟨b,0,none⟩)] w fun e w'=>e=.returned (.int .i64 l.length)/\w'=w:=by
 have:=Tryz.Builder_Len b b (Lib.byteCells l) w h.is;rw[Lib.byteCells_length]at this;exact this
end Go.Proofs.YtegjgjgoodekiaaGreatDoor
namespace Tt
def escB(c:UInt8):List UInt8:=if c=92∨c=59∨c=44 then[92,c]else if c=10 then[92,110]else[c]
def esc(l:List UInt8):List UInt8:=l.flatMap escB
def unesc:List UInt8->Option (List UInt8)
 | []=>some []
 | c::r=>
  if c=59∨c=44∨c=10 then none
  else if c=92 then
   match r with
   | []=>none
   | d::r'=>if d=92∨d=59∨d=44 then(unesc r').map (d:: ·)else if d=110∨d=78 then(unesc r').map (10:: ·)else none
  else(unesc r).map (c:: ·)
theorem Na(c:UInt8)(r:List UInt8):esc (c::r)=escB c++esc r:=by simp[esc]
theorem unesc_nil:unesc []=some []:=by unfold unesc;rfl
theorem unesc_bad(c:UInt8)(r:List UInt8)(h:c=59∨c=44∨c=10):unesc (c::r)=none:=by rw[unesc.eq_def];simp only;rw[if_pos h]
theorem unesc_end:unesc [92]=none:=by rw[unesc.eq_def];rfl
theorem unesc_same(d:UInt8)(r:List UInt8)(h:d=92∨d=59∨d=44):unesc (92::d::r)=(unesc r).map (d:: ·):=by
 rw[unesc.eq_def];simp only;rw[if_neg (by decide)];simp only[if_true];rw[if_pos h]
theorem unesc_feed(d:UInt8)(r:List UInt8)(h:d=110∨d=78):unesc (92::d::r)=(unesc r).map (10:: ·):=by
 rw[unesc.eq_def];simp only;rw[if_neg (by decide)];simp only[if_true];rw[if_neg (by rcases h with rfl | rfl<;>decide),if_pos h]
theorem unesc_wrong(d:UInt8)(r:List UInt8)(h: ¬(d=92∨d=59∨d=44))(w: ¬(d=110∨d=78)):unesc (92::d::r)=none:=by
 rw[unesc.eq_def];simp only;rw[if_neg (by decide)];simp only[if_true];rw[if_neg h,if_neg w]
theorem unesc_plain(c:UInt8)(r:List UInt8)(h: ¬(c=59∨c=44∨c=10))(w:c≠92):unesc (c::r)=(unesc r).map (c:: ·):=by
 rw[unesc.eq_def];simp only;rw[if_neg h,if_neg w]
theorem unesc_esc(l:List UInt8):unesc (esc l)=some l:=by
 induction l with
 | nil=>exact unesc_nil
 | cons c r ih=>
  rw[Na];unfold escB;by_cases h:c=92∨c=59∨c=44
  ·rw[if_pos h];show unesc (92::c::esc r)=_
   rw[unesc_same c _ h,ih];rfl
  ·rw[if_neg h];by_cases w:c=10
   ·rw[if_pos w];show unesc (92::110::esc r)=_
    rw[unesc_feed 110 _ (.inl rfl),ih,w];rfl
   ·rw[if_neg w];show unesc (c::esc r)=_
    rw[unesc_plain c _ (by intro e;rcases e with e | e | e<;>simp_all) (fun e=>h (.inl e)),ih];rfl
theorem Nb(c:UInt8):(escB c).length<=2:=by
 unfold escB;split
 ·simp
 ·split<;>simp
theorem esc_length(l:List UInt8):(esc l).length<=2*l.length:=by
 induction l with
 | nil=>simp[esc]
 | cons c r ih=>rw[Na,xj];have:=Nb c;simp;omega
theorem unesc_length: ∀(n:Nat) (l x:List UInt8),l.length<=n->unesc l=some x->x.length<=l.length
 | _,[],x,_,h=>by rw[unesc_nil]at h;simp at h;subst h;simp
 | 0,c::r,_,hn,_=>by simp at hn
 | n+1,c::r,x,hn,h=>by
  simp only[xc]at hn;by_cases w:c=59∨c=44∨c=10
  ·rw[unesc_bad c r w]at h;cases h
  ·by_cases D:c=92
   ·subst D;cases r with
    | nil=>rw[unesc_end]at h;cases h
    | cons d r'=>
     simp only[xc]at hn;by_cases E:d=92∨d=59∨d=44
     ·rw[unesc_same d r' E]at h;obtain⟨y,hy,rfl⟩:=Option.map_eq_some_iff.1 h;have:=unesc_length n r' y (by omega) hy;simp;omega
     ·by_cases A:d=110∨d=78
      ·rw[unesc_feed d r' A]at h;obtain⟨y,hy,rfl⟩:=Option.map_eq_some_iff.1 h;have:=unesc_length n r' y (by omega) hy;simp;omega
      ·rw[unesc_wrong d r' E A]at h;cases h
   ·rw[unesc_plain c r w D]at h;obtain⟨y,hy,rfl⟩:=Option.map_eq_some_iff.1 h;have:=unesc_length n r y (by omega) hy;simp;omega
/-! ### Lines -/
def A9:List UInt8->List UInt8->Option (List (List UInt8))
 | cur,[]=>if cur=[]then some []else none
 | cur,c::r=>
  if c=10 then none
  else if c=13 then
   match r with
   | []=>none
   | d::r'=>if d=10 then(A9 [] r').map (cur:: ·)else none
  else A9 (cur++[c]) r
def begins(l:List UInt8):Bool:=match l with
 | []=>false
 | c::_=>c==32 || c==9
def joinL:List (List UInt8)->List (List UInt8)->Option (List (List UInt8))
 | out,[]=>some out
 | out,l::r=>if begins l then(if out=[]then none else joinL (out.dropLast++[out.getLastD []++l.tail]) r)else joinL (out++[l]) r
def unf(text:List UInt8):Option (List (List UInt8)):=if text=[]then none else(A9 [] text).bind (joinL [])
def Clean(l:List UInt8):Prop:=∀c∈l,c≠13/\c≠10
instance (l:List UInt8):Decidable (Clean l):=by unfold Clean;infer_instance
def crlf(l:List UInt8):List UInt8:=l++[13,10]
theorem JN(cur:List UInt8):A9 cur []=if cur=[]then some []else none:=by rw[A9.eq_def]
theorem Nr(cur r:List UInt8):A9 cur (10::r)=none:=by rw[A9.eq_def];rfl
theorem OB(cur:List UInt8):A9 cur [13]=none:=by rw[A9.eq_def];rfl
theorem JO(cur r:List UInt8):A9 cur (13::10::r)=(A9 [] r).map (cur:: ·):=by rw[A9.eq_def];simp
theorem Nq(cur r:List UInt8)(d:UInt8)(h:d≠10):A9 cur (13::d::r)=none:=by rw[A9.eq_def];simp[h]
theorem GL(cur r:List UInt8)(c:UInt8)(h:c≠13)(w:c≠10):A9 cur (c::r)=A9 (cur++[c]) r:=by rw[A9.eq_def];simp[h,w]
theorem LG(l:List UInt8)(h:Clean l): ∀(cur r:List UInt8),A9 cur (crlf l++r)=(A9 [] r).map ((cur++l):: ·):=by
 induction l with
 | nil=>intro cur r;show A9 cur (13::10::r)=_;rw[JO];simp
 | cons c t ih=>
  intro cur r;have hc:=h c (by simp);show A9 cur (c::(crlf t++r))=_
  rw[GL _ _ _ hc.1 hc.2,ih (fun x hx=>h x (by simp[hx]))];simp
theorem chopGo_lines: ∀(ls:List (List UInt8)),(∀l∈ls,Clean l)-> ∀r,A9 [] (ls.flatMap crlf++r)=(A9 [] r).map (ls++ ·)
 | [],_,r=>by simp
 | l::ls,h,r=>by
  rw[xh,xe,LG l (h l (by simp)),chopGo_lines ls (fun x hx=>h x (by simp[hx]))];simp[Option.map_map,Function.comp_def]
theorem DA: ∀(n:Nat) (t cur:List UInt8) (ls:List (List UInt8)),t.length<=n->A9 cur t=some ls->Clean cur->
  (ls=[]/\t=[]/\cur=[])∨ ∃l rest,ls=(cur++l)::rest/\Clean (cur++l)/\(∀x∈rest,Clean x)/\t=crlf l++rest.flatMap crlf
 | _,[],cur,ls,_,h,_=>by
  rw[JN]at h;split at h
  ·rename_i hc
   exact .inl ⟨by simpa using h.symm,rfl,hc⟩
  ·cases h
 | 0,_::_,_,_,hn,_,_=>by simp at hn
 | n+1,c::r,cur,ls,hn,h,hcl=>by
  simp only[xc]at hn;by_cases w:c=10
  ·subst w;rw[Nr]at h;cases h
  ·by_cases A:c=13
   ·subst A;cases r with
    | nil=>rw[OB]at h;cases h
    | cons d r'=>
     by_cases hd:d=10
     ·subst hd;rw[JO]at h;obtain⟨y,hy,rfl⟩:=Option.map_eq_some_iff.1 h;simp only[xc]at hn;rcases DA n r' [] y (by omega) hy (by simp[Clean])with⟨rfl,rfl,_⟩ | ⟨l,rest,rfl,k1,k2,rfl⟩
      ·exact .inr ⟨[],[],by simp,by simpa using hcl,by simp,by simp[crlf]⟩
      ·refine .inr ⟨[],l::rest,by simp,by simpa using hcl,?_,by simp[crlf]⟩;intro x hx;rcases xf.1 hx with rfl | hx
       ·simpa using k1
       ·exact k2 x hx
     ·rw[Nq _ _ _ hd]at h;cases h
   ·have D:Clean (cur++[c]):=by
     intro x hx;rcases List.mem_append.1 hx with hx | hx
     ·exact hcl x hx
     ·simp at hx;subst hx;exact⟨A,w⟩
    rw[GL _ _ _ A w]at h;rcases DA n r (cur++[c]) ls (by omega) h D with⟨_,_,e⟩ | ⟨l,rest,rfl,k1,k2,rfl⟩
    ·simp at e
    ·exact .inr ⟨c::l,rest,by simp,by simpa using k1,k2,by simp[crlf]⟩
theorem Fa(t:List UInt8)(ls:List (List UInt8)):A9 [] t=some ls ↔ (∀l∈ls,Clean l)/\t=ls.flatMap crlf:=by
 constructor
 ·intro h;rcases DA t.length t [] ls (xb _) h (by simp[Clean])with⟨rfl,rfl,_⟩ | ⟨l,rest,rfl,k1,k2,rfl⟩
  ·simp
  ·refine⟨?_,by simp⟩;intro x hx;rcases xf.1 hx with rfl | hx
   ·exact k1
   ·exact k2 x hx
 ·rintro⟨h,rfl⟩;have:=chopGo_lines ls h [];simpa[JN]using this
/-! ### Split at the ends -/
open Go.Lib
theorem KB(l r:List UInt8)(h:Clean l)(j:Nat)(hj:j<l.length):occAt (l++r) [13,10] j=false:=by
 unfold occAt;rw[List.drop_append_of_le_length (by omega)];cases e:l.drop j with
 | nil=>simp at e;omega
 | cons c t=>
  have hc:c∈l:=List.mem_of_mem_drop (i:=j) (by rw[e];simp);have:=(h c hc).1;simp[List.isPrefixOf];intro e;exact absurd e.symm this
theorem MS(l r:List UInt8)(h:Clean l):index (crlf l++r) [13,10]=l.length:=by
 refine index_first (by simp[crlf]) ?_ ?_
 ·unfold occAt crlf;simp
 ·intro j hj;have:=KB l ([13,10]++r) h j hj;simpa[crlf]using this
theorem MT(l:List UInt8)(h:Clean l):index l [13,10]= -1:=by
 refine index_none ?_;intro j hj;by_cases e:j<l.length
 ·have:=KB l [] h j e;simpa using this
 ·have:j=l.length:=by omega
  subst this;simp[occAt]
def BD:List (List UInt8)->List UInt8
 | []=>[]
 | [l]=>l
 | l::r=>crlf l++BD r
theorem Df(l m:List UInt8)(r:List (List UInt8)):BD (l::m::r)=crlf l++BD (m::r):=rfl
theorem De: ∀(ls:List (List UInt8)),ls≠[]->BD ls++[13,10]=ls.flatMap crlf
 | [],h=>absurd rfl h
 | [l],_=>by simp[BD,crlf]
 | l::m::r,_=>by rw[Df,xe,De (m::r) (by simp)];simp
theorem FD: ∀(ls:List (List UInt8)),ls≠[]->(∀l∈ls,Clean l)->split (BD ls) [13,10]=ls
 | [],h,_=>absurd rfl h
 | [l],_,hc=>by
  have hi:=MT l (hc l (by simp));unfold split BD;rw[count_miss hi];rfl
 | l::m::r,_,hc=>by
  have hi:=MS l (BD (m::r)) (hc l (by simp));have ih:=FD (m::r) (by simp) (fun x hx=>hc x (by simp[hx]));rw[Df];unfold split;have hd:(crlf l++BD (m::r)).drop (l.length+2)=BD (m::r):=by
   rw[List.drop_append_of_le_length (by simp[crlf])];simp[crlf]
  rw[count_hit (by simp) hi,show[(13:UInt8),10].length=2 from rfl,hd,Nat.add_comm 1,splitK,if_neg (by rw[hi];simp),hi];unfold split at ih;rw[show[(13:UInt8),10].length=2 from rfl,Int.toNat_natCast,hd,ih];simp[crlf]
theorem EL: ∀(k:Nat) (s:List UInt8),s.length<=k->BD (split s [13,10])=s/\split s [13,10]≠[]
 | k,s,hk=>by
  rcases index_spec s [13,10]with⟨hi,_⟩ | ⟨i,hi,hle,hocc,_⟩
  ·unfold split;rw[count_miss hi];exact⟨rfl,by simp[splitK]⟩
  ·have w:i+2<=s.length:=by
    rcases occAt_room hocc with h | h
    ·simpa using h
    ·simp at h
   cases k with
   | zero=>omega
   | succ k=>
    have ih:=EL k (s.drop (i+2)) (by simp;omega);have A:(s.drop i).take 2=[13,10]:=by
     have:=occAt_iff_take s [13,10] i (by simpa using w);rw[hocc]at this;simpa using this.symm
    have he:split s [13,10]=s.take i::split (s.drop (i+2)) [13,10]:=by
     unfold split;rw[count_hit (by simp) hi,Nat.add_comm 1,splitK,if_neg (by rw[hi];simp),hi];simp
    rw[he];refine⟨?_,by simp⟩;obtain⟨m,r,e⟩: ∃m r,split (s.drop (i+2)) [13,10]=m::r:=by
     cases h:split (s.drop (i+2)) [13,10]with
     | nil=>exact absurd h ih.2
     | cons m r=>exact⟨m,r,rfl⟩
    have D:=ih.1;rw[e]at D ⊢;rw[Df,D,crlf,<-A,xe];have:s.drop (i+2)=(s.drop i).drop 2:=by rw[List.drop_drop]
    rw[this,xg,xg]
theorem GU(text t:List UInt8)(h:text=t++[13,10]):unf text=if(∀l∈split t [13,10],Clean l)then joinL [] (split t [13,10])else none:=by
 have hne:text≠[]:=by subst h;simp
 have hj:=EL t.length t (xb _);have ht:text=(split t [13,10]).flatMap crlf:=by rw[<-De _ hj.2,hj.1,h]
 unfold unf;rw[if_neg hne];by_cases hc: ∀l∈split t [13,10],Clean l
 ·rw[if_pos hc,(Fa text _).2 ⟨hc,ht⟩];rfl
 ·rw[if_neg hc];cases hch:A9 [] text with
  | none=>rfl
  | some ls=>
   obtain⟨k1,k2⟩:=(Fa text ls).1 hch;have w:ls≠[]:=by
    intro e;subst e;simp at k2;exact hne k2
   have hb:BD ls=t:=by
    have e1:BD ls++[13,10]=t++[13,10]:=by rw[De ls w,<-k2,h]
    exact List.append_cancel_right e1
   exact absurd (by rw[<-hb,FD ls w k1];exact k1) hc
theorem unf_no_end(text:List UInt8)(h:hasSuffix text [13,10]=false):unf text=none:=by
 unfold unf;split
 ·rfl
 ·rename_i hne
  cases hch:A9 [] text with
  | none=>rfl
  | some ls=>
   obtain⟨k1,k2⟩:=(Fa text ls).1 hch;have w:ls≠[]:=by
    intro e;subst e;simp at k2;exact hne k2
   rw[<-De ls w]at k2;rw[k2]at h;have:hasSuffix (BD ls++[13,10]) [13,10]=true:=by unfold hasSuffix;rw[List.isSuffixOf_iff_suffix];exact List.suffix_append _ _
   rw[this]at h;cases h
/-! ### Folding -/
def chunk:Nat->Nat->List UInt8->List (List UInt8)
 | 0,_,l=>[l]
 | f+1,n,l=>if n<l.length then l.take n::chunk f 74 (l.drop n)else[l]
def foldGo:Nat->Nat->List UInt8->List UInt8
 | 0,_,l=>l++[13,10]
 | f+1,n,l=>if n<l.length then l.take n++[13,10,32]++foldGo f 74 (l.drop n)else l++[13,10]
def fold(l:List UInt8):List UInt8:=foldGo l.length 75 l
theorem Ie: ∀(f g n:Nat) (l:List UInt8),1<=n->l.length<=f->l.length<=g->foldGo f n l=foldGo g n l
 | 0,0,_,_,_,_,_=>rfl
 | 0,g+1,n,l,_,hf,_=>by rw[foldGo,foldGo,if_neg (by omega)]
 | f+1,0,n,l,_,_,hg=>by rw[foldGo,foldGo,if_neg (by omega)]
 | f+1,g+1,n,l,hn,hf,hg=>by
  rw[foldGo,foldGo];split
  ·rw[Ie f g 74 (l.drop n) (by omega) (by simp;omega) (by simp;omega)]
  ·rfl
theorem foldGo_step(f n:Nat)(l:List UInt8)(hn:1<=n)(hf:l.length<=f)(h:n<l.length):foldGo f n l=l.take n++[13,10,32]++foldGo (l.drop n).length 74 (l.drop n):=by
 cases f with
 | zero=>omega
 | succ f=>
  rw[foldGo,if_pos h];rw[Ie f (l.drop n).length 74 _ (by omega) (by simp;omega) (xb _)]
theorem foldGo_end(f n:Nat)(l:List UInt8)(h: ¬n<l.length):foldGo f n l=l++[13,10]:=by
 cases f with
 | zero=>rfl
 | succ f=>rw[foldGo,if_neg h]
def CH:List (List UInt8)->List (List UInt8)
 | []=>[]
 | c::cs=>c::cs.map (32:: ·)
theorem JM(f n:Nat)(l:List UInt8): ∃c cs,chunk f n l=c::cs:=by
 cases f with
 | zero=>exact⟨_,_,rfl⟩
 | succ f=>rw[chunk];split<;>exact⟨_,_,rfl⟩
theorem GD: ∀(f n:Nat) (l:List UInt8),foldGo f n l=(CH (chunk f n l)).flatMap crlf
 | 0,n,l=>by simp[foldGo,chunk,CH,crlf]
 | f+1,n,l=>by
  rw[foldGo,chunk];split
  ·obtain⟨c,cs,e⟩:=JM f 74 (l.drop n);rw[GD f 74,e];simp[CH,crlf]
  ·simp[CH,crlf]
theorem FM: ∀(f n:Nat) (l:List UInt8),(chunk f n l).flatten=l
 | 0,n,l=>by simp[chunk]
 | f+1,n,l=>by
  rw[chunk];split
  ·rw[xk,FM f 74,xg]
  ·simp
theorem Im: ∀(f n:Nat) (l:List UInt8),Clean l-> ∀c∈chunk f n l,Clean c
 | 0,n,l,h,c,hc=>by simp[chunk]at hc;subst hc;exact h
 | f+1,n,l,h,c,hc=>by
  rw[chunk]at hc;split at hc
  ·rcases xf.1 hc with rfl | hc
   ·intro x hx;exact h x (List.mem_of_mem_take hx)
   ·exact Im f 74 (l.drop n) (fun x hx=>h x (List.mem_of_mem_drop hx)) c hc
  ·simp at hc;subst hc;exact h
theorem J9(cs:List (List UInt8))(h: ∀c∈cs,Clean c): ∀c∈CH cs,Clean c:=by
 cases cs with
 | nil=>simp[CH]
 | cons a t=>
  intro c hc;rcases xf.1 hc with rfl | hc
  ·exact h c (by simp)
  ·obtain⟨x,hx,rfl⟩:=List.mem_map.1 hc;intro y hy;rcases xf.1 hy with rfl | hy
   ·decide
   ·exact h x (by simp[hx]) y hy
theorem Jj: ∀(cs:List (List UInt8)) (w:List (List UInt8)) (l:List UInt8) (r:List (List UInt8)),
  joinL (w++[l]) (cs.map (32:: ·)++r)=joinL (w++[l++cs.flatten]) r
 | [],w,l,r=>by simp
 | c::cs,w,l,r=>by
  show joinL (w++[l]) ((32::c)::(cs.map (32:: ·)++r))=_
  rw[joinL,if_pos (by simp[begins]),if_neg (by simp)];have e:(w++[l]).dropLast++[(w++[l]).getLastD []++(32::c).tail]=w++[l++c]:=by simp
  rw[e,Jj cs w (l++c) r];simp
theorem Od(A:List (List UInt8))(f n:Nat)(l:List UInt8)(r:List (List UInt8))(hb:begins l=false)(hn:1<=n):
  joinL A (CH (chunk f n l)++r)=joinL (A++[l]) r:=by
 obtain⟨c,cs,e⟩:=JM f n l;have w:=FM f n l;rw[e]at w ⊢;have hc:begins c=false:=by
  cases f with
  | zero=>
   simp[chunk]at e;rw[<-e.1];exact hb
  | succ f=>
   rw[chunk]at e;split at e
   ·simp only[List.cons.injEq]at e;rw[<-e.1];cases l with
    | nil=>simp[begins]
    | cons a t=>
     cases n with
     | zero=>omega
     | succ n=>simpa[begins]using hb
   ·simp only[List.cons.injEq]at e;rw[<-e.1];exact hb
 show joinL A (c::(cs.map (32:: ·)++r))=_
 rw[joinL,if_neg (by rw[hc];simp),Jj];simp only[xk]at w;rw[w]
theorem Ib: ∀(ls w:List (List UInt8)),(∀l∈ls,begins l=false)->joinL w (ls.flatMap fun l=>CH (chunk l.length 75 l))=some (w++ls)
 | [],w,_=>by simp[joinL]
 | l::ls,w,h=>by
  rw[xh,Od _ _ _ _ _ (h l (by simp)) (by omega),Ib ls _ (fun x hx=>h x (by simp[hx]))];simp
theorem unf_folds(ls:List (List UInt8))(hne:ls≠[])(hc: ∀l∈ls,Clean l)(hb: ∀l∈ls,begins l=false):unf (ls.flatMap fold)=some ls:=by
 have e:ls.flatMap fold=(ls.flatMap fun l=>CH (chunk l.length 75 l)).flatMap crlf:=by
  rw[List.flatMap_assoc];congr 1
  funext l
  exact GD l.length 75 l
 have w:ls.flatMap fold≠[]:=by
  cases ls with
  | nil=>exact absurd rfl hne
  | cons l r=>
   obtain⟨c,cs,A⟩:=JM l.length 75 l;rw[e,xh,A];simp[CH,crlf]
 unfold unf;rw[if_neg w,(Fa _ (ls.flatMap fun l=>CH (chunk l.length 75 l))).2 ⟨?_,e⟩]
 ·show joinL [] _=_
  rw[Ib ls [] hb];simp
 ·intro x hx;obtain⟨l,hl,hx⟩:=List.mem_flatMap.1 hx;exact J9 _ (Im _ _ _ (hc l hl)) x hx
theorem fold_length(l:List UInt8):(fold l).length<=5*l.length+2:=by
 have: ∀(f n:Nat) (l:List UInt8),1<=n->l.length<=f->(foldGo f n l).length<=4*l.length+2:=by
  intro f;induction f with
  | zero=>intro n l hn hl;simp[foldGo];omega
  | succ f ih=>
   intro n l hn hl;rw[foldGo];split
   ·have:=ih 74 (l.drop n) (by omega) (by simp;omega);simp only[xj,List.length_take,List.length_drop,xc,List.length_nil]at this ⊢;omega
   ·simp;omega
 have:=this l.length 75 l (by omega) (xb _);unfold fold;omega
end Tt
-- Esc
namespace Go.Proofs.YtegjgjgoodekiaaGreatDoor
open Go.RowKit
theorem Fb(s:ByteArray)(w:World): ∃cap W',(convert 9 88 (.string s)).run Tryz.prog w=.ok (.slice (some ⟨w.heap.size,0,none⟩) s.size cap) W'/\Below w.heap.size w W'/\w.heap.size+1<=W'.heap.size/\
  ∀j c,s.data.toList[j]?=some c->W'.cell? ⟨w.heap.size,j,none⟩=some (.int .u8 (c.toNat:Int)):=by
 refine⟨_,_,run_bytes_of_string w 9 88 5 s Tryz.underlying9 Tryz.underlying88 Tryz.underlying5,⟨rfl,rfl,rfl,by simp,fun k hk=>?_⟩,by simp,fun j c hj=>?_⟩
 ·exact Below.heap_alloc w.drew _ k hk
 ·have A: ∀(w:World) (o:Obj),(w.alloc o).heap[w.heap.size]?=some o:=fun w o=>heap_alloc_new w o
  have F:=A w.drew (.cells (bytesRow s (grownCap w s.size 0 5)) 5 ((bytesRow s (grownCap w s.size 0 5)).size,(bytesRow s (grownCap w s.size 0 5)).size+1));have H:w.drew.heap.size=w.heap.size:=rfl;rw[H]at F;rw[World.cell?];simp only[F];have E:j<s.data.size:=by have:=(xd.1 hj).1;simpa using this
  have:s.data[j]?=some c:=by rw[<-Array.getElem?_toList];exact hj
  have D:j<s.size:=E;have G:=(xa.1 this).2;simp[bytesRow,Array.getElem?_append,D];rw[G]
theorem Ix{a b:List UInt8}(h:a=b):Ending.returned (.string ⟨a.toArray⟩)=.returned (.string ⟨b.toArray⟩):=by rw[h]
theorem SF(l:List UInt8)(k:Nat)(c:UInt8)(h:l[k]?=some c):Tt.esc (l.take (k+1))=Tt.esc (l.take k)++Tt.escB c:=by
 obtain⟨w,A⟩:=xd.1 h;rw[List.take_succ_eq_append_getElem w,A];simp[Tt.esc]
theorem JA(s:ByteArray)(w:World)(hs:s.size<=70368744177664):
  Calls Tryz.prog 142 #[.string s] w fun e w'=>e=.returned (.string ⟨(Tt.esc s.data.toList).toArray⟩)/\Below w.heap.size w w':=by
 obtain⟨cap,W,M,U,ae,hcell⟩:=Fb s (w.alloc (.cells #[.pointer none,.slice none 0 0] 147));have X:(w.alloc (.cells #[.pointer none,.slice none 0 0] 147)).heap.size=w.heap.size+1:=by simp
 rw[X]at U ae hcell;have T:(convert 9 88 (.string s)).run Tryz.prog (w.alloc (.cells #[.pointer none,.slice none 0 0] 147))=.ok (.slice (some ⟨w.heap.size+1,0,none⟩) s.size cap) W:=by rw[M,X]
 clear M X;have ac:FO w.heap.size (w.heap.size+2) [] W:=(FO.fresh w (w.heap.size+2) (by omega)).kept (by simpa using U);have HW:Hid (Below w.heap.size w W):=by
  exact((Below.refl _ w).alloc (xb _) _).trans (U.mono (by omega))
 have V:s.size=s.data.toList.length:=Lib.size_eq s;have HL:=Lh V;clear V U;go_enter Tryz.func142,Tryz.ntmps142;go_wp2_with fail;clear T;go_loopw [9] (fun i wr=> ∃k:Nat,k<=s.size/\i=.int .i64 k/\FO w.heap.size (w.heap.size+2) (Tt.esc (s.data.toList.take k)) wr/\AO w.heap.size (w.heap.size+2) W wr) (fun i _=>s.size - (intOf i).toNat)
 case atStart=>exact⟨0,xi _,rfl,ac,AO.refl _ _ _⟩
 case round=>
  obtain⟨k,hk,rfl,hB,D⟩:=hrel;by_cases ab:k<s.size
  ·obtain⟨c,hc⟩: ∃c,s.data.toList[k]?=some c:=⟨_,List.getElem?_eq_getElem (by rw[<-HL.o];exact ab)⟩
   have ag:wr.cell? ⟨w.heap.size+1,k,none⟩=some (.int .u8 (c.toNat:Int)):=(D.cell (p:=⟨w.heap.size+1,k,none⟩) (by simp) (by simp)).trans (hcell k c hc);have aq:=Tt.esc_length (s.data.toList.take k);have ak:(s.data.toList.take k).length<=k:=List.length_take_le _ _;have aj:=D.size;have HC:=Lh hc;have HS:=Lh (SF s.data.toList k c hc);clear hc;obtain⟨n,hn⟩: ∃n:Int,n=c.toNat:=⟨_,rfl⟩
   rw[<-hn]at ag;have E: ∀m:Nat,m<256->(n==(m:Int))=decide (c=m.toUInt8):=by
    intro m hm;rw[Bool.eq_iff_iff,beq_iff_eq,decide_eq_true_iff,hn];constructor
    ·intro e;apply UInt8.toNat_inj.1;simp;omega
    ·intro e;have:c.toNat=(m.toUInt8).toNat:=by rw[e]
     simp at this;omega
   have F:=E 92 (by omega);have H:=E 59 (by omega);have G:=E 44 (by omega);have J:=E 10 (by omega);clear E;have HN:=Lh hn;clear hn;simp only[show(Nat.toUInt8 92:UInt8)=92 from rfl,show(Nat.toUInt8 59:UInt8)=59 from rfl,show(Nat.toUInt8 44:UInt8)=44 from rfl,show(Nat.toUInt8 10:UInt8)=10 from rfl]at F H G J;by_cases R:c=92∨c=59∨c=44
   ·have aa:Tt.escB c=[92]++[c]:=by unfold Tt.escB;rw[if_pos R];rfl
    have HE:=Lh aa;clear aa;have h3:(n==(92:Int))=true∨((n==(92:Int))=false/\(n==(59:Int))=true)∨((n==(92:Int))=false/\(n==(59:Int))=false/\(n==(44:Int))=true):=by
     rw[show((92:Nat):Int)=92 from rfl]at F;rw[show((59:Nat):Int)=59 from rfl]at H;rw[show((44:Nat):Int)=44 from rfl]at G;rw[F,H,G];by_cases a1:c=92
     ·simp[a1]
     ·by_cases a2:c=59
      ·simp[a2]
      ·have a3:c=44:=by rcases R with h | h | h<;>simp_all
       simp[a3]
    clear F H G J R;rcases h3 with h3 | ⟨h3,h4⟩ | ⟨h3,h4,h5⟩
    all_goals
     go_wp2_with fail;refine(BX _ _ _ _ 92 rfl _ hB (by omega) (by omega)).mono ?_;rintro e w1 ⟨rfl,O,A⟩;have ai:=A.size;go_wp2_with fail;refine(BX _ _ _ _ c HN.o _ O (by simp;omega) (by omega)).mono ?_;rintro e w2 ⟨rfl,ah,Y⟩;go_wp2_with fail;go_roundw
     case rel=>exact⟨k+1,by omega,by go_num,by rw[HS.o,HE.o,<-xe];exact ah,(D.trans A).trans Y⟩
     case measure=>simp[intOf];omega
   ·have al:(n==(92:Int))=false:=by
     refine F.trans (decide_eq_false fun h=>R (.inl h))
    have ap:(n==(59:Int))=false:=by
     refine H.trans (decide_eq_false fun h=>R (.inr (.inl h)))
    have am:(n==(44:Int))=false:=by
     refine G.trans (decide_eq_false fun h=>R (.inr (.inr h)))
    by_cases Z:c=10
    ·have af:(n==(10:Int))=true:=by
      refine J.trans (decide_eq_true Z)
     have HE:=Lh (show Tt.escB c=[92,110]by unfold Tt.escB;rw[if_neg R,if_pos Z]);clear F H G J R Z;go_wp2_with fail;refine(Cr _ _ _ _ _ hB (by simp[ByteArray.size];omega) (by omega)).mono ?_;rintro e w1 ⟨rfl,O,A⟩;go_wp2_with fail;go_roundw
     case rel=>exact⟨k+1,by omega,by go_num,by rw[HS.o,HE.o];exact O,D.trans A⟩
     case measure=>simp[intOf];omega
    ·have af:(n==(10:Int))=false:=by
      refine J.trans (decide_eq_false Z)
     have HE:=Lh (show Tt.escB c=[c]by unfold Tt.escB;rw[if_neg R,if_neg Z]);clear F H G J R Z;go_wp2_with fail;refine(BX _ _ _ _ c HN.o _ hB (by omega) (by omega)).mono ?_;rintro e w1 ⟨rfl,O,A⟩;go_wp2_with fail;go_roundw
     case rel=>exact⟨k+1,by omega,by go_num,by rw[HS.o,HE.o];exact O,D.trans A⟩
     case measure=>simp[intOf];omega
  ·go_wp2_with fail;refine(Ec _ _ _ _ hB).mono ?_;rintro e w1 ⟨rfl,hb1⟩;go_wp2_with fail;go_ret;exact⟨Ix (by rw[List.take_of_length_le (by rw[<-HL.o];omega)]),HW.o.trans ((D.below (xb _) (by omega)).trans hb1)⟩
end Go.Proofs.YtegjgjgoodekiaaGreatDoor
-- Unesc
namespace Go.Proofs.YtegjgjgoodekiaaGreatDoor
open Go.RowKit
theorem BQ(c:UInt8)(m:Int)(u:UInt8)(hu:(u.toNat:Int)=m)(h:c=u):((c.toNat:Int)==m)=true:=by rw[h,hu];exact beq_self_eq_true _
theorem AQ(c:UInt8)(m:Int)(u:UInt8)(hu:(u.toNat:Int)=m)(h: ¬c=u):((c.toNat:Int)==m)=false:=by
 rw[beq_eq_false_iff_ne];intro e;exact h (UInt8.toNat_inj.1 (by omega))
def B8(l:List UInt8):ByteArray:=⟨((Tt.unesc l).getD []).toArray⟩
def FV(l:List UInt8):Bool:=(Tt.unesc l).isSome
theorem drop_cons(l:List UInt8)(k:Nat)(c:UInt8)(h:l[k]?=some c):l.drop k=c::l.drop (k+1):=by
 obtain⟨w,A⟩:=xd.1 h;rw[List.drop_eq_getElem_cons w,A]
theorem EE{l w:List UInt8}{k:Nat}(h:(Tt.unesc (l.drop k)).map (w++ ·)=Tt.unesc l)(hn:Tt.unesc (l.drop k)=none):B8 l=⟨#[]⟩/\FV l=false:=by
 rw[hn]at h;unfold B8 FV;rw[<-h];exact⟨rfl,rfl⟩
theorem FU{l w x:List UInt8}{k j:Nat}(h:(Tt.unesc (l.drop k)).map (w++ ·)=Tt.unesc l)(hn:Tt.unesc (l.drop k)=(Tt.unesc (l.drop j)).map (x++ ·)):(Tt.unesc (l.drop j)).map ((w++x)++ ·)=Tt.unesc l:=by
 rw[<-h,hn,Option.map_map];congr 1;funext y;simp
theorem Iw{a A:ByteArray}{b w:Bool}(h:a=A)(D:b=w):Ending.returned (.tuple #[.string a,.bool b])=.returned (.tuple #[.string A,.bool w]):=by rw[h,D]
theorem Lf(s:ByteArray)(w:World)(hs:s.size<=70368744177664):
  Calls Tryz.prog 134 #[.string s] w fun e w'=>e=.returned (.tuple #[.string (B8 s.data.toList),.bool (FV s.data.toList)])/\Below w.heap.size w w':=by
 have HL:=Lh (Lib.size_eq s);have ac:FO w.heap.size (w.heap.size+1) [] (w.alloc (.cells #[.pointer none,.slice none 0 0] 147)):=FO.fresh w (w.heap.size+1) (by omega);have hW:Below w.heap.size w (w.alloc (.cells #[.pointer none,.slice none 0 0] 147)):=(Below.refl _ w).alloc (xb _) _;have hS:w.heap.size+1<=(w.alloc (.cells #[.pointer none,.slice none 0 0] 147)).heap.size:=by simp
 go_enter Tryz.func134,Tryz.ntmps134;go_wp2_with fail;go_loopw [5] (fun i wr=> ∃(k:Nat) (E:List UInt8),k<=s.size/\i=.int .i64 k/\E.length<=k/\FO w.heap.size (w.heap.size+1) E wr/\Below w.heap.size w wr/\w.heap.size+1<=wr.heap.size/\Hid ((Tt.unesc (s.data.toList.drop k)).map (E++ ·)=Tt.unesc s.data.toList)) (fun i _=>s.size - (intOf i).toNat)
 case atStart=>exact⟨0,[],xi _,rfl,by simp,ac,hW,hS,by show _=_;simp⟩
 case round=>
  obtain⟨k,E,hk,rfl,al,hB,D,aj,U⟩:=hrel;clear ac hW hS;by_cases aa:k<s.size
  ·obtain⟨c,hx⟩: ∃c:UInt8,s[k]'aa=c:=⟨_,rfl⟩
   have hcl:s.data.toList[k]?=some c:=by rw[<-hx];exact Lib.data_getElem? s k aa
   have Z:=Lh (drop_cons _ _ _ hcl);clear hcl;by_cases M:c=59∨c=44∨c=10
   ·have G:=Lh (EE U.o (by rw[Z.o,Tt.unesc_bad c _ M]));have H:((c.toNat:Int)==59)=true∨(((c.toNat:Int)==59)=false/\((c.toNat:Int)==44)=true)∨(((c.toNat:Int)==59)=false/\((c.toNat:Int)==44)=false/\((c.toNat:Int)==10)=true):=by
     by_cases a1:c=59
     ·exact .inl (BQ c 59 59 rfl a1)
     ·by_cases a2:c=44
      ·exact .inr (.inl ⟨AQ c 59 59 rfl a1,BQ c 44 44 rfl a2⟩)
      ·exact .inr (.inr ⟨AQ c 59 59 rfl a1,AQ c 44 44 rfl a2,BQ c 10 10 rfl (by rcases M with h | h | h<;>first | exact absurd h a1 | exact absurd h a2 | exact h)⟩)
    clear M;rcases H with H | ⟨H,h4⟩ | ⟨H,h4,F⟩
    all_goals
     go_wp2_with fail;go_ret2;exact⟨Iw G.o.1.symm G.o.2.symm,D⟩
   ·have aq:=AQ c 59 59 rfl (fun h=>M (.inl h));have ak:=AQ c 44 44 rfl (fun h=>M (.inr (.inl h)));have am:=AQ c 10 10 rfl (fun h=>M (.inr (.inr h)));by_cases R:c=92
    ·have ae:=BQ c 92 92 rfl R;by_cases T:k+1=s.size
     ·have G:=Lh (EE U.o (by rw[Z.o,List.drop_eq_nil_of_le (by rw[<-HL.o];omega),R,Tt.unesc_end]));have hq:(((k:Int)+1)==(s.size:Int))=true:=beq_iff_eq.2 (by omega);clear M R T;go_wp2_with fail;go_ret2;exact⟨Iw G.o.1.symm G.o.2.symm,D⟩
     ·have hq:(((k:Int)+1)==(s.size:Int))=false:=beq_eq_false_iff_ne.2 (by omega);have hlt2:k+1<s.size:=by omega
      obtain⟨d,hy⟩: ∃d:UInt8,s[k+1]'hlt2=d:=⟨_,rfl⟩
      have ab:s.data.toList[k+1]?=some d:=by rw[<-hy];exact Lib.data_getElem? s (k+1) hlt2
      have V:=Lh (drop_cons _ _ _ ab);have X:=Lh R;clear ab M R T;by_cases F:d=92∨d=59∨d=44
      ·have G:=Lh (FU (x:=[d]) (j:=k+1+1) U.o (by rw[Z.o,V.o,X.o,Tt.unesc_same d _ F];rfl));have H:((d.toNat:Int)==92)=true∨(((d.toNat:Int)==92)=false/\((d.toNat:Int)==59)=true)∨(((d.toNat:Int)==92)=false/\((d.toNat:Int)==59)=false/\((d.toNat:Int)==44)=true):=by
        by_cases a1:d=92
        ·exact .inl (BQ d 92 92 rfl a1)
        ·by_cases a2:d=59
         ·exact .inr (.inl ⟨AQ d 92 92 rfl a1,BQ d 59 59 rfl a2⟩)
         ·exact .inr (.inr ⟨AQ d 92 92 rfl a1,AQ d 59 59 rfl a2,BQ d 44 44 rfl (by rcases F with h | h | h<;>first | exact absurd h a1 | exact absurd h a2 | exact h)⟩)
       clear F;rcases H with H | ⟨H,h4⟩ | ⟨H,h4,F⟩
       all_goals
        go_wp2_with fail;refine(BX _ _ _ _ d rfl _ hB (by omega) (by omega)).mono ?_;rintro e w1 ⟨rfl,J,A⟩;have O:=A.size;go_wp2_with fail;go_roundw
        case rel=>exact⟨k+1+1,E++[d],by omega,by go_num,by simp;omega,J,D.trans (A.below (xb _) (by omega)),by omega,G⟩
        case measure=>simp[intOf];omega
      ·by_cases Y:d=110∨d=78
       ·have G:=Lh (FU (x:=[10]) (j:=k+1+1) U.o (by rw[Z.o,V.o,X.o,Tt.unesc_feed d _ Y];rfl));have af:=AQ d 92 92 rfl (fun h=>F (.inl h));have ag:=AQ d 59 59 rfl (fun h=>F (.inr (.inl h)));have ah:=AQ d 44 44 rfl (fun h=>F (.inr (.inr h)));have H:((d.toNat:Int)==110)=true∨(((d.toNat:Int)==110)=false/\((d.toNat:Int)==78)=true):=by
         by_cases a1:d=110
         ·exact .inl (BQ d 110 110 rfl a1)
         ·exact .inr ⟨AQ d 110 110 rfl a1,BQ d 78 78 rfl (by rcases Y with h | h<;>first | exact absurd h a1 | exact h)⟩
        clear F Y;rcases H with H | ⟨H,h4⟩
        all_goals
         go_wp2_with fail;refine(BX _ _ _ _ 10 rfl _ hB (by omega) (by omega)).mono ?_;rintro e w1 ⟨rfl,J,A⟩;have O:=A.size;go_wp2_with fail;go_roundw
         case rel=>exact⟨k+1+1,E++[10],by omega,by go_num,by simp;omega,J,D.trans (A.below (xb _) (by omega)),by omega,G⟩
         case measure=>simp[intOf];omega
       ·have G:=Lh (EE U.o (by rw[Z.o,V.o,X.o,Tt.unesc_wrong d _ F Y]));have af:=AQ d 92 92 rfl (fun h=>F (.inl h));have ag:=AQ d 59 59 rfl (fun h=>F (.inr (.inl h)));have ah:=AQ d 44 44 rfl (fun h=>F (.inr (.inr h)));have ai:=AQ d 110 110 rfl (fun h=>Y (.inl h));have ap:=AQ d 78 78 rfl (fun h=>Y (.inr h));clear F Y;go_wp2_with fail;go_ret2;exact⟨Iw G.o.1.symm G.o.2.symm,D⟩
    ·have ae:=AQ c 92 92 rfl R;have G:=Lh (FU (x:=[c]) (j:=k+1) U.o (by rw[Z.o,Tt.unesc_plain c _ M R];rfl));clear M R;go_wp2_with fail;refine(BX _ _ _ _ c rfl _ hB (by omega) (by omega)).mono ?_;rintro e w1 ⟨rfl,J,A⟩;have O:=A.size;go_wp2_with fail;go_roundw
     case rel=>exact⟨k+1,E++[c],by omega,by go_num,by simp;omega,J,D.trans (A.below (xb _) (by omega)),by omega,G⟩
     case measure=>simp[intOf];omega
  ·go_wp2_with fail;refine(Ec _ _ _ _ hB).mono ?_;rintro e w1 ⟨rfl,hb1⟩;go_wp2_with fail;go_ret2;have hU:=U.o;rw[List.drop_eq_nil_of_le (by rw[<-HL.o];omega),Tt.unesc_nil]at hU;refine⟨Iw ?_ ?_,D.trans hb1⟩
   ·unfold B8;rw[<-hU];simp
   ·unfold FV;rw[<-hU];rfl
end Go.Proofs.YtegjgjgoodekiaaGreatDoor
-- Codes
namespace Tt
def alnum(c:UInt8):Bool:=(48<=c && c<=57) || (65<=c && c<=90) || (97<=c && c<=122)
def sign(c:UInt8):Bool:=c==95 || c==45
def codeTail(l:List UInt8):Bool:=l.all fun c=>alnum c || sign c
def code(l:List UInt8):Bool:=match l with
 | []=>false
 | c::r=>decide (l.length<=16) && alnum c && codeTail r
end Tt
namespace Go.Proofs.YtegjgjgoodekiaaGreatDoor
open Go.RowKit
def BP(c:UInt8):Bool:=48<=c && c<=57
def Bj(c:UInt8):Bool:=(65<=c && c<=90) || (97<=c && c<=122)
theorem Kn(c:UInt8)(k:Nat)(hk:k<256):decide ((k:Int)<=(c.toNat:Int))=decide (k.toUInt8<=c):=by
 have:(k.toUInt8).toNat=k:=by simp;omega
 rw[Bool.eq_iff_iff,decide_eq_true_iff,decide_eq_true_iff,UInt8.le_iff_toNat_le,this];omega
theorem Ko(c:UInt8)(k:Nat)(hk:k<256):decide ((c.toNat:Int)<=(k:Int))=decide (c<=k.toUInt8):=by
 have:(k.toUInt8).toNat=k:=by simp;omega
 rw[Bool.eq_iff_iff,decide_eq_true_iff,decide_eq_true_iff,UInt8.le_iff_toNat_le,this];omega
theorem QM(n:Int)(c:UInt8)(hn:n=c.toNat)(w:World):Calls Tryz.prog 40 #[.int .u8 n] w fun e w'=>e=.returned (.bool (BP c))/\w'=w:=by
 have D:=Kn c 48 (by omega);have F:=Ko c 57 (by omega);rw[<-hn]at D F;have hd:BP c=(decide ((48:Int)<=n) && decide (n<=(57:Int))):=by
  rw[show(48:Int)=((48:Nat):Int)from rfl,show(57:Int)=((57:Nat):Int)from rfl,D,F];rfl
 have E:=Lh hd;clear hd D F hn;by_cases a:(48:Int)<=n
 ·by_cases b:n<=(57:Int)
  ·have A:=Lh (show BP c=true by rw[E.o];simp[a,b]);go_enter Tryz.func40,Tryz.ntmps40;go_wp2;go_ret;rw[A.o];exact⟨rfl,rfl⟩
  ·have A:=Lh (show BP c=false by rw[E.o];simp;omega);go_enter Tryz.func40,Tryz.ntmps40;go_wp2;go_ret;rw[A.o];exact⟨rfl,rfl⟩
 ·have A:=Lh (show BP c=false by rw[E.o];simp;omega);go_enter Tryz.func40,Tryz.ntmps40;go_wp2;go_ret;rw[A.o];exact⟨rfl,rfl⟩
theorem Oa(n:Int)(c:UInt8)(hn:n=c.toNat)(w:World):Calls Tryz.prog 41 #[.int .u8 n] w fun e w'=>e=.returned (.bool (Bj c))/\w'=w:=by
 have E:=Kn c 65 (by omega);have H:=Ko c 90 (by omega);have G:=Kn c 97 (by omega);have F:=Ko c 122 (by omega);rw[<-hn]at E H G F;have hd:Bj c=((decide ((65:Int)<=n) && decide (n<=(90:Int))) || (decide ((97:Int)<=n) && decide (n<=(122:Int)))):=by
  rw[show(65:Int)=((65:Nat):Int)from rfl,show(90:Int)=((90:Nat):Int)from rfl,show(97:Int)=((97:Nat):Int)from rfl,show(122:Int)=((122:Nat):Int)from rfl,E,H,G,F];rfl
 have D:=Lh hd;clear hd E H G F hn;have J:(n<65)∨(65<=n/\n<=90)∨(90<n/\n<97)∨(97<=n/\n<=122)∨(122<n):=by omega
 rcases J with a | ⟨a,b⟩ | ⟨a,b⟩ | ⟨a,b⟩ | a
 ·have A:=Lh (show Bj c=false by rw[D.o];simp;omega);go_enter Tryz.func41,Tryz.ntmps41;go_wp2;go_ret;rw[A.o];exact⟨rfl,rfl⟩
 ·have A:=Lh (show Bj c=true by rw[D.o];simp;omega);go_enter Tryz.func41,Tryz.ntmps41;go_wp2;go_ret;rw[A.o];exact⟨rfl,rfl⟩
 ·have A:=Lh (show Bj c=false by rw[D.o];simp;omega);have M:decide (n<=90)=false:=decide_eq_false (by omega);go_enter Tryz.func41,Tryz.ntmps41;go_wp2;go_ret;rw[A.o];exact⟨rfl,rfl⟩
 ·have A:=Lh (show Bj c=true by rw[D.o];simp;omega);go_enter Tryz.func41,Tryz.ntmps41;go_wp2;go_ret;rw[A.o];exact⟨rfl,rfl⟩
 ·have A:=Lh (show Bj c=false by rw[D.o];simp;omega);have M:decide (n<=90)=false:=decide_eq_false (by omega);have O:decide (n<=122)=false:=decide_eq_false (by omega);go_enter Tryz.func41,Tryz.ntmps41;go_wp2;go_ret;rw[A.o];exact⟨rfl,rfl⟩
theorem Ny(c:UInt8):Tt.alnum c=(BP c || Bj c):=by unfold Tt.alnum BP Bj;rw[Bool.or_assoc]
def Cq(l:List UInt8)(k:Nat):Bool:=if k=0 then(match l with | []=>true | c::r=>Tt.alnum c && Tt.codeTail r)else Tt.codeTail (l.drop k)
theorem LF(l:List UInt8)(k:Nat)(h:l.length<=k):Cq l k=true:=by
 unfold Cq;split
 ·rename_i hk
  subst hk;cases l with
  | nil=>rfl
  | cons a t=>simp at h
 ·rw[List.drop_eq_nil_of_le h];rfl
theorem Kg(l:List UInt8)(k:Nat)(c:UInt8)(h:l[k]?=some c):Cq l k=((Tt.alnum c || (decide (0<k) && Tt.sign c)) && Cq l (k+1)):=by
 have hd:=drop_cons l k c h;unfold Cq;rw[if_neg (show ¬k+1=0 by omega)];by_cases hk:k=0
 ·subst hk;rw[if_pos rfl];cases l with
  | nil=>simp at h
  | cons a t=>simp at h;subst h;simp
 ·rw[if_neg hk,hd];have:decide (0<k)=true:=decide_eq_true (by omega);rw[this];simp[Tt.codeTail]
theorem Pg(l:List UInt8):Tt.code l=(decide (1<=l.length) && decide (l.length<=16) && Cq l 0):=by
 cases l with
 | nil=>rfl
 | cons c r=>simp[Tt.code,Cq,Bool.and_assoc]
theorem Ag{a b:Bool}(h:a=b):Ending.returned (.bool a)=.returned (.bool b):=by rw[h]
theorem BV(s:ByteArray)(w:World):Calls Tryz.prog 18 #[.string s] w fun e w'=>e=.returned (.bool (Tt.code s.data.toList))/\w'=w:=by
  have R:=Lh (Lib.size_eq s);by_cases G:1<=s.size/\s.size<=16
  · obtain⟨G,X⟩:=G;have F:=Lh (show Tt.code s.data.toList=Cq s.data.toList 0 by
      rw[Pg,<-R.o,decide_eq_true G,decide_eq_true X];rfl)
    have U:decide ((s.size:Int)<1)=false:=decide_eq_false (by omega);have V:decide ((16:Int)<(s.size:Int))=false:=decide_eq_false (by omega);go_enter Tryz.func18,Tryz.ntmps18;go_wp2_with fail;go_loop [15] (fun i=> ∃k:Nat,k<=s.size/\i=.int .i64 k/\Hid (Cq s.data.toList 0=Cq s.data.toList k)) (fun i=>s.size - (intOf i).toNat)
    case atStart=>exact⟨0,xi _,rfl,rfl⟩
    case round=>
      obtain⟨k,hk,rfl,O⟩:=hrel;by_cases E:k<s.size
      · obtain⟨c,hx⟩: ∃c:UInt8,s[k]'E=c:=⟨_,rfl⟩
        have hcl:=Lib.data_getElem? s k E;rw[hx]at hcl;have T:=Lh (Kg _ _ _ hcl);have H:=Lh (Ny c);have J:(¬((0:Int)<(k:Int))/\Hid ((decide (0<k) && Tt.sign c)=false))∨(((0:Int)<(k:Int))/\((c.toNat:Int)==95)=true/\Hid ((decide (0<k) && Tt.sign c)=true))∨
            (((0:Int)<(k:Int))/\((c.toNat:Int)==95)=false/\((c.toNat:Int)==45)=true/\Hid ((decide (0<k) && Tt.sign c)=true))∨
            (((0:Int)<(k:Int))/\((c.toNat:Int)==95)=false/\((c.toNat:Int)==45)=false/\Hid ((decide (0<k) && Tt.sign c)=false)):=by
          by_cases D:0<k
          · have A:(0:Int)<(k:Int):=by omega
            by_cases e:c=95
            · exact .inr (.inl ⟨A,BQ c 95 95 rfl e,by show _=_;rw[decide_eq_true D,e];rfl⟩)
            · by_cases e2:c=45
              · exact .inr (.inr (.inl ⟨A,AQ c 95 95 rfl e,BQ c 45 45 rfl e2,by show _=_;rw[decide_eq_true D,e2];rfl⟩))
              · refine .inr (.inr (.inr ⟨A,AQ c 95 95 rfl e,AQ c 45 45 rfl e2,?_⟩));show _=_
                unfold Tt.sign;rw[beq_eq_false_iff_ne.2 e,beq_eq_false_iff_ne.2 e2];simp
          · exact .inl ⟨by omega,by show _=_;rw[decide_eq_false D];rfl⟩
        have M:(BP c=true/\Hid (Tt.alnum c=true))∨(BP c=false/\Bj c=true/\Hid (Tt.alnum c=true))∨(BP c=false/\Bj c=false/\Hid (Tt.alnum c=false)):=by
          cases e1:BP c
          · cases e2:Bj c
            · exact .inr (.inr ⟨rfl,rfl,by show _=_;rw[H.o,e1,e2];rfl⟩)
            · exact .inr (.inl ⟨rfl,rfl,by show _=_;rw[H.o,e1,e2];rfl⟩)
          · exact .inl ⟨rfl,by show _=_;rw[H.o,e1];rfl⟩
        clear hcl H;rcases J with⟨g1,GS⟩ | ⟨g1,g2,GS⟩ | ⟨g1,g2,g3,GS⟩ | ⟨g1,g2,g3,GS⟩
        all_goals
          rcases M with⟨d1,DS⟩ | ⟨d1,d2,DS⟩ | ⟨d1,d2,DS⟩
          all_goals
            go_wp2_with (first | (go_at_call 40;refine(QM _ c rfl _).mono ?_;rintro e w' ⟨rfl,rfl⟩) | (go_at_call 41;refine(Oa _ c rfl _).mono ?_;rintro e w' ⟨rfl,rfl⟩));first
              | (go_ret
                 exact⟨Ag (by rw[F.o,O.o,T.o,GS.o,DS.o];rfl),rfl⟩)
              | (go_round
                 case rel=>exact⟨k+1,by omega,by go_num,by show _=_;rw[O.o,T.o,GS.o,DS.o];simp⟩
                 case measure=>simp[intOf];omega)
      · go_wp2_with fail;go_ret;exact⟨Ag (by rw[F.o,O.o,LF _ _ (by rw[<-R.o];omega)]),rfl⟩
  · have F:=Lh (show Tt.code s.data.toList=false by
      rw[Pg,<-R.o];by_cases e:1<=s.size
      · rw[decide_eq_false (show ¬s.size<=16 by omega)];simp
      · rw[decide_eq_false e];rfl)
    by_cases e:1<=s.size
    · have U:decide ((s.size:Int)<1)=false:=decide_eq_false (by omega);have V:decide ((16:Int)<(s.size:Int))=true:=decide_eq_true (by omega);clear G;go_enter Tryz.func18,Tryz.ntmps18;go_wp2_with fail;go_ret;exact⟨Ag (by rw[F.o]),rfl⟩
    · have U:decide ((s.size:Int)<1)=true:=decide_eq_true (by omega);clear G;go_enter Tryz.func18,Tryz.ntmps18;go_wp2_with fail;go_ret;exact⟨Ag (by rw[F.o]),rfl⟩
