/- The program's date (function 258) on the text of a day. Numbers written and read again. The reference's parser in plain words: numbers, times, an event line by line; and its functions begins and number. Copies BD rows of structs in memory. No function of the program in sight. Condition: none. Events in a row of one's own, what they refer to in rows of its own: laid in, written over. No function of the program in sight. Condition: none. The program's weekdays (function 257): exact. The reference's parser of rules, in plain words; its number (263). The parser's text: exact. The library's Atoi at any text: laid at this dump. The parser on any line: days of any numbers, numbers of any text, what is taken from any line. Names of weekdays written and read again. -/
import Derived.Test.YtegjgjgoodekiaaGreatDoorPk18
import Derived.Test.YtegjgjgoodekiaaGreatDoorQk4
import Derived.Test.YtegjgjgoodekiaaGreatDoorProg
import Derived.WalkKit
import Derived.Lib.Hide
import Derived.Deep.QuietTactic
import Derived.BigQuiet
import Derived.Deep.RegionLaw
import Derived.Laws.CopyRow
import Derived.Laws.CopyOwn
import Derived.Laws.IdiomCopy
import Derived.Lib.AppendZerosOnto
import Derived.Lib.Overlaps
import Derived.Maps.AppendAt
import Derived.Laws.Externs
import Derived.Laws.NewBlocks
import Derived.Test.YtegjgjgoodekiaaGreatDoorQk9
import Derived.Test.YtegjgjgoodekiaaGreatDoorQk7
import Derived.Test.YtegjgjgoodekiaaGreatDoorShelf
import Derived.Shelf.Strconv.AtoiAll
import Derived.Test.YtegjgjgoodekiaaGreatDoorQk10
open Go.Value renaming int->ja,string->jc,slice->jd,bool->je,pointer->jf,tuple->jg
open Go.IntKind renaming i64->jb
open Go.Ending renaming returned->jh
open Go.Obj renaming cells->ji
open Array renaming getElem?_eq_some_iff->xa
open List renaming append_assoc->xb,length_drop->xc,length_append->xd,length_take->xg,cons_append->xj,mem_append->xk,append_nil->xl
open Nat renaming le_trans->xe,lt_of_lt_of_le->xf,zero_le->xh,zero_add->xm,le_refl->xn
open Go.World.ownsRow renaming alloc->xi
set_option maxRecDepth 100000
set_option maxHeartbeats 40000000
namespace Tt
theorem ofNat_toNat{n:Nat}(h:n<10):((UInt8.ofNat (48+n)).toNat:Int)=48+n:=by
 rw[UInt8.toNat_ofNat'];omega
theorem date_digit{d:Int}{y m e X:Nat}(hy:y=(yOf d).toNat)(hm:m=(mOf d).toNat)(he:e=(dOf d).toNat)(D:2000<=y)(E:y<=2099)(A:m<=12)(e1:e<=31)(w:X=y*10000+m*100+e){k:Nat}(hk:k<8):
  ∃c,(dateL d)[k]?=some c/\((c.toNat:Int)=48+((X / 10 ^ (7 - k) % 10:Nat):Int))/\X / 10 ^ (8 - (k+1))=10*(X / 10 ^ (8 - k))+X / 10 ^ (7 - k) % 10:=by
 unfold dateL d4 d2;rw[<-hy,<-hm,<-he];match k,hk with
 | 0,_=>exact⟨_,rfl,by rw[ofNat_toNat (by omega)];simp only[Nat.sub_zero,Nat.reducePow];omega,by simp only[Nat.sub_zero,Nat.reduceAdd,Nat.reduceSub,Nat.reducePow];omega⟩
 | 1,_=>exact⟨_,rfl,by rw[ofNat_toNat (by omega)];simp only[Nat.reduceSub,Nat.reducePow];omega,by simp only[Nat.reduceAdd,Nat.reduceSub,Nat.reducePow];omega⟩
 | 2,_=>exact⟨_,rfl,by rw[ofNat_toNat (by omega)];simp only[Nat.reduceSub,Nat.reducePow];omega,by simp only[Nat.reduceAdd,Nat.reduceSub,Nat.reducePow];omega⟩
 | 3,_=>exact⟨_,rfl,by rw[ofNat_toNat (by omega)];simp only[Nat.reduceSub,Nat.reducePow];omega,by simp only[Nat.reduceAdd,Nat.reduceSub,Nat.reducePow];omega⟩
 | 4,_=>exact⟨_,rfl,by rw[ofNat_toNat (by omega)];simp only[Nat.reduceSub,Nat.reducePow];omega,by simp only[Nat.reduceAdd,Nat.reduceSub,Nat.reducePow];omega⟩
 | 5,_=>exact⟨_,rfl,by rw[ofNat_toNat (by omega)];simp only[Nat.reduceSub,Nat.reducePow];omega,by simp only[Nat.reduceAdd,Nat.reduceSub,Nat.reducePow];omega⟩
 | 6,_=>exact⟨_,rfl,by rw[ofNat_toNat (by omega)];simp only[Nat.reduceSub,Nat.reducePow];omega,by simp only[Nat.reduceAdd,Nat.reduceSub,Nat.reducePow];omega⟩
 | 7,_=>exact⟨_,rfl,by rw[ofNat_toNat (by omega)];simp only[Nat.reduceSub,Nat.reducePow];omega,by simp only[Nat.reduceAdd,Nat.reduceSub,Nat.reducePow];omega⟩
end Tt
namespace Go.Proofs.YtegjgjgoodekiaaGreatDoor
open Go.RowKit
theorem Uu(s:ByteArray)(d:Int)(w:World)(hs:s.data.toList=Tt.dateL d)(h0:0<=d)(h1:d<=36524)(hL:CD w)(hw:3<w.heap.size):
  Calls Tryz.prog 132 #[jc s] w fun e w'=>e=jh (jg #[ja jb d,je true])/\Below w.heap.size w w':=by
 obtain⟨y0,y1,m0,m1,d0,d1⟩:=Tt.date_toNat h0 h1;have G:=(Tt.date_some h0 h1).day;have zs:s.size=8:=by rw[Lib.size_eq,hs];rfl
 obtain⟨cap,W,D,F,ac,hcell⟩:=Fb s w;obtain⟨y,hy⟩: ∃y,y=(Tt.yOf d).toNat:=⟨_,rfl⟩
 obtain⟨m,hm⟩: ∃y,y=(Tt.mOf d).toNat:=⟨_,rfl⟩
 obtain⟨q,hq⟩: ∃y,y=(Tt.dOf d).toNat:=⟨_,rfl⟩
 obtain⟨X,hX⟩: ∃X,X=y*10000+m*100+q:=⟨_,rfl⟩
 have O:Hid (∀k,k<8-> ∃c:UInt8,s.data.toList[k]?=some c/\((c.toNat:Int)=48+((X / 10 ^ (7 - k) % 10:Nat):Int))/\X / 10 ^ (8 - (k+1))=10*(X / 10 ^ (8 - k))+X / 10 ^ (7 - k) % 10):=Lh (fun k hk=>by rw[hs];exact Tt.date_digit hy hm hq (by omega) (by omega) (by omega) (by omega) hX hk);have Z:=Lh (show Tt.dayV ((X:Int) / 10000) ((X:Int) / 100 % 100) ((X:Int) % 100)=(d,0)from by
  rw[show(X:Int) / 10000=Tt.yOf d by omega,show(X:Int) / 100 % 100=Tt.mOf d by omega,show(X:Int) % 100=Tt.dOf d by omega];exact G)
 have ag:X<=20991231:=by omega
 have HW:=Lh F;have H:=Lh hcell;have Y:=Lh (hL.below hw F);clear G hs hL hy hm hq hX y0 y1 m0 m1 d0 d1 F hcell;go_enter Tryz.func132,Tryz.ntmps132;go_wp2_with fail;clear D;go_loopw [4,15] (fun nv T wr=> ∃(k v:Nat),k<=8/\T=ja jb k/\nv=ja jb v/\v<=X/\Hid (v=X / 10 ^ (8 - k))/\Hid (wr=W)) (fun _ T _=>8 - (intOf T).toNat)
 case atStart=>exact⟨0,0,xh _,rfl,rfl,xh _,Lh (by show 0=X / 100000000;omega),Lh rfl⟩
 case round=>
  obtain⟨k,v,hk,rfl,rfl,hv,HV,E⟩:=hrel;by_cases R:k<8
  ·obtain⟨c,hc,hcn,M⟩:=O.o k R;have J:=H.o k c hc;rw[<-E.o]at J;obtain⟨n,hn⟩: ∃n:Int,n=c.toNat:=⟨_,rfl⟩
   rw[<-hn]at J hcn;have af: ¬n<48:=by omega
   have ai: ¬57<n:=by omega
   have ah:0<=n - 48/\n - 48<=9:=by omega
   obtain⟨v',hv'⟩: ∃v',v'=X / 10 ^ (8 - (k+1)):=⟨_,rfl⟩
   have ae:(10*(v:Int)+(n - 48))=(v':Int):=by rw[hv',M,hcn,HV.o];omega
   have A:v'<=X:=by rw[hv'];exact Nat.div_le_self _ _
   have aa:=Lh hv';have V:(k:Int)<8:=by omega
   clear hc hcn M hn hv';go_wp2_with fail;go_roundw
   case rel=>exact⟨k+1,v',by omega,by go_num,by go_num,A,aa,E⟩
   case measure=>simp[intOf];omega
  ·have ab:k=8:=by omega
   have A:v=X:=by rw[HV.o,ab];show X / 10 ^ 0=X;omega
   have V: ¬(k:Int)<8:=by omega
   have U:=E.o;subst U;subst A;clear HV hv O H;go_wp2_with fail;refine(Ox _ _ _ wr Y.o (by omega) (by omega)).mono ?_;rintro e w1 ⟨rfl,rfl⟩;rw[Z.o];go_wp2_with fail;go_ret2;exact⟨rfl,HW.o⟩
end Go.Proofs.YtegjgjgoodekiaaGreatDoor
namespace Tt
open Go.Lib
theorem GK(b:UInt8)(d:Nat)(hd:digitVal b=some d): ∀(l:List UInt8) (w n:Nat),decFrom w l=some n->decFrom w (l++[b])=some (n*10+d)
 | [],w,n,h=>by
  cases h;rw[List.nil_append,decFrom,hd];rfl
 | a::t,w,n,h=>by
  rw[xj,decFrom];rw[decFrom]at h;cases ha:digitVal a with
  | none=>rw[ha]at h;cases h
  | some e=>rw[ha]at h;exact GK b d hd t _ n h
theorem KX{n:Nat}(h:n<10):digitVal (UInt8.ofNat (48+n))=some n:=(show ∀n:Nat,n<10->digitVal (UInt8.ofNat (48+n))=some n by decide) n h
theorem Il(n:Nat):decFrom 0 (decDigits n)=some n:=by
 by_cases h:n<10
 ·rw[decDigits_one h,decFrom,KX h];show some (0*10+n)=some n
  rw[Nat.zero_mul,xm]
 ·rw[CY h,GK _ _ (KX (Nat.mod_lt n (by decide))) _ _ _ (Il (n / 10))];congr 1;omega
termination_by n
decreasing_by omega
theorem JH(n:Nat): ∃b r,decDigits n=b::r/\b≠45/\b≠43:=by
 by_cases h:n<10
 ·refine⟨_,_,decDigits_one h,?_⟩;exact(show ∀n:Nat,n<10->UInt8.ofNat (48+n)≠45/\UInt8.ofNat (48+n)≠43 by decide) n h
 ·obtain⟨b,r,hb,hk⟩:=JH (n / 10);exact⟨b,r++[UInt8.ofNat (48+n % 10)],by rw[CY h,hb,xj],hk⟩
termination_by n
decreasing_by omega
theorem atoi_dec(n:Nat):atoi (decDigits n)=some (n:Int):=by
 obtain⟨b,r,hb,w,A⟩:=JH n;have h:=Il n;rw[hb]at h ⊢;rw[atoi,if_neg (by simpa using w),if_neg (by simpa using A),decNat,h];rfl
end Tt
namespace Tt
def Oq(l:List UInt8):Int:=l.foldl (fun n c=>10*n+((c.toNat:Int) - 48)) 0
def MR(c:UInt8):Bool:=!(decide (c.toNat<48)) && !(decide (57<c.toNat))
def numR(l:List UInt8):Int:=if l.all MR=true/\1<=l.length/\l.length<=9 then Oq l else -1
theorem QN(l:List UInt8)(c:UInt8):Oq (l++[c])=10*Oq l+((c.toNat:Int) - 48):=by unfold Oq;rw[List.foldl_append];rfl
def momR(l:List UInt8):Int × Int × Bool:=if l.length≠15 then(0,0,false)else
 ((dayV (numR (l.take 4)) (numR ((l.drop 4).take 2)) (numR ((l.drop 6).take 2))).1,numR ((l.drop 9).take 2)*60+numR ((l.drop 11).take 2),decide ((dayV (numR (l.take 4)) (numR ((l.drop 4).take 2)) (numR ((l.drop 6).take 2))).2=0))
def momsR:Nat->List UInt8->List Int
 | 0,_=>[]
 | n+1,l=>if 15<=l.length then(momR (l.take 15)).1::momsR n (l.drop 16)else[]
end Tt
namespace Go.Proofs.YtegjgjgoodekiaaGreatDoor
open Go.RowKit
theorem FE(P:Program)(w:World)(O T ty A:TypeId)(k:Nat)(g o E F:Nat)(a:Addr)(D J:Nat)(cur:Array Value)(t:TypeId)(cs:List Value)
  (hu:P.underlying O=some (.slice A)) (hs:(P.info? A).map (·.size)=some k)
  (hg:w.heap[g]?=some (ji cur t (0,0))) (hn:cs.length=Nat.min D E*k)
  (H: ∀j v,cs[j]?=some v->w.cell? (a.add j)=some v) (G:o+cs.length<=cur.size) (R: ∀v∈cs,v.oneCell'=true):
  (Builtin.copy_ #[O,T] ty #[jd (some ⟨g,o,none⟩) E F,jd (some a) D J]).run P w=
   .ok (goInt (Nat.min D E)) (w.setRow g (cur.toList.take o++cs++cur.toList.drop (o+cs.length)).toArray):=by
 have hl:=run_loadCells_list (P:=P) w a cs H;have M:=run_storeCells_at P g o t cs 0 cur w hg (by simpa using G) R;cases hq:P.info? A with
 | none=>simp[hq]at hs
 | some i=>
  have hi:i.size=k:=by simpa[hq]using hs
  rw[hn]at hl;simp[Builtin.copy_,run_underlying hu,Builtin.lenOf,Builtin.firstCells,sizeOf,typeInfo,hq,hi,hl,M]
theorem NP{α:Type}(L ys zs:List α)(p:Nat)(h:p+ys.length+zs.length<=L.length):(splice (splice L p ys) (p+ys.length) zs).take (p+ys.length+zs.length)=L.take p++ys++zs:=by
 have e1:(splice L p ys).take (p+ys.length)=L.take p++ys:=by
  unfold splice;rw[<-xb,List.take_left' (by simp;omega)]
 unfold splice at e1 ⊢;rw[e1,<-xb,List.take_left' (by simp;omega)]
theorem NO{α:Type}(L ys zs:List α)(p:Nat)(h:p+ys.length+zs.length<=L.length):(splice (splice L (p+ys.length) zs) p ys).take (p+ys.length+zs.length)=L.take p++ys++zs:=by
 have e1:(splice L (p+ys.length) zs).take p=L.take p:=by
  unfold splice;rw[List.take_append_of_le_length (by simp;omega),List.take_take,Nat.min_eq_left (by omega)]
 have e2:(splice L (p+ys.length) zs).drop (p+ys.length)=zs++L.drop (p+ys.length+zs.length):=by
  unfold splice;rw[List.drop_left' (by simp;omega)]
 unfold splice at e1 e2 ⊢;rw[e1,e2,<-xb,<-xb,List.take_left' (by simp;omega)]
theorem E4(w:World)(g:Nat)(cs:Array Value):w.grownBy (w.setRow g cs) (some g):=by
 refine⟨rfl,rfl,rfl,by simp[World.setRow],fun k hk hne=>?_⟩;exact setRow_other w g k cs (fun h=>hne (by rw[h]))
theorem DL{P:Program}{w:World}{ops:Array Oper}{rest:List Oper}{o:Oper}{a:Act}{Q:Exit->Act->World->Prop}(T:o.guard=none)(d s:Operand)(R V:TypeId)
  (ho:o.op=.call { callee:=.builtin .copy,args:=#[d,s],argTypes:=#[R,V] }) (E:TypeId) (k:Nat) (hu:P.underlying R=some (.slice E)) (U:(P.info? E).map (·.size)=some k)
  (g F D G:Nat) (ad:Addr) (A H:Nat) (hd:a.eval d=jd (some ⟨g,F,none⟩) D G) (hs:a.eval s=jd (some ad) A H)
  (L:List Value) (t:TypeId) (hg:w.heap[g]?=some (ji L.toArray t (0,0))) (cs:List Value) (hn:cs.length=Nat.min A D*k)
  (O: ∀j v,cs[j]?=some v->w.cell? (ad.add j)=some v) (J:F+cs.length<=L.length) (X: ∀v∈cs,v.oneCell'=true)
  (h: ∀w',Hid (w'.heap[g]?=some (ji (splice L F cs).toArray t (0,0)))->Hid (w.grownBy w' (some g))->wpList P ops Q rest (a.put o.dst (goInt (Nat.min A D))) w'):wpList P ops Q (o::rest) a w:=by
 refine wpList_plain T fun K Y=>?_
 have M:=FE P w R V o.type E k g F D G ad A H L.toArray t cs hu U hg hn O (by simpa using J) X;unfold Oper.wp execOp;simp only[ho,resolve,invoke,builtin,Sem.run_bind,Sem.run_pure,Result.andThen_ok,List.map_toArray,List.map_cons,List.map_nil,hd,hs,M];exact Y _ _ (h _ (show _=_ by simpa[splice]using setRow_heap w g _ _ t _ hg) (E4 w g _))
theorem EJ{P:Program}{ops:Array Oper}{o:Oper}{a:Act}{w:World}{K:Act->World->Prop}{Q:Exit->Act->World->Prop}{E:Prop}(U:o.guard=none)(d s:Operand)(T X:TypeId)
  (ho:o.op=.call { callee:=.builtin .copy,args:=#[d,s],argTypes:=#[T,X] }) (F:TypeId) (k:Nat) (hu:P.underlying T=some (.slice F)) (V:(P.info? F).map (·.size)=some k)
  (g G D H:Nat) (ad:Addr) (A J:Nat) (hd:a.eval d=jd (some ⟨g,G,none⟩) D H) (hs:a.eval s=jd (some ad) A J)
  (L:List Value) (t:TypeId) (hg:w.heap[g]?=some (ji L.toArray t (0,0))) (cs:List Value) (hn:cs.length=Nat.min A D*k)
  (R: ∀j v,cs[j]?=some v->w.cell? (ad.add j)=some v) (M:G+cs.length<=L.length) (Y: ∀v∈cs,v.oneCell'=true)
  (h: ∀w',Hid (w'.heap[g]?=some (ji (splice L G cs).toArray t (0,0)))->Hid (w.grownBy w' (some g))->K (a.put o.dst (goInt (Nat.min A D))) w'):
  if Region.wanted o (yielded ops a.tmps)=true then Oper.wp P o a w K Q else E:=by
 have Z:Region.wanted o (yielded ops a.tmps)=true:=by simp[Region.wanted,U]
 rw[if_pos Z];have O:=FE P w T X o.type F k g G D H ad A J L.toArray t cs hu V hg hn R (by simpa using M) Y;unfold Oper.wp;simp[execOp,ho,resolve,invoke,builtin,hd,hs,O,Result.andThen];exact h _ (show _=_ by simpa[splice]using setRow_heap w g _ _ t _ hg) (by rw[<-xb];exact E4 w g _)
theorem T3:(Tryz.prog.info? 61).map (fun i=>(i.zero,i.size,i.bytes))=some (some (.agg #[jc ⟨#[]⟩,ja jb 0,je false,ja jb 0,ja jb 0,ja jb 0,ja jb 0,jd none 0 0,jd none 0 0,ja jb 0,ja jb 0,jc ⟨#[]⟩,jc ⟨#[]⟩]),13,160):=by kernel_rfl
theorem Lu: ∃i0:TypeInfo,Tryz.prog.info? 61=some i0/\i0.zero=some (.agg #[jc ⟨#[]⟩,ja jb 0,je false,ja jb 0,ja jb 0,ja jb 0,ja jb 0,jd none 0 0,jd none 0 0,ja jb 0,ja jb 0,jc ⟨#[]⟩,jc ⟨#[]⟩])/\i0.size=13/\i0.bytes=160:=by
 have h:=T3;cases hq:Tryz.prog.info? 61 with
 | none=>rw[hq]at h;cases h
 | some i=>
  rw[hq]at h;simp only[Option.map_some,Option.some.injEq,Prod.mk.injEq]at h;exact⟨i,rfl,h.1,h.2.1,h.2.2⟩
def GN(base:Nat)(v:Value)(w:World)(n:Nat)(zs:List Value)(e:Ending)(w':World):Prop:=
 ∃v',e=jh v'/\w'.ownsRow base 61 13 v' (n+1) zs/\w.grownBy w' v.ownBlock/\(v'.ownBlock=v.ownBlock∨v'.ownBlock=some w.heap.size)
theorem Ls(base:Nat)(v:Value)(n g:Nat)(xs ys:List Value)(w:World)(D:w.ownsRow base 61 13 v n xs)(hn:n<=1000000)(F:base<=w.heap.size)
  (hg:w.heap[g]?=some (ji ys.toArray 61 (0,0))) (hy:ys.length=13) (T: ∀u∈ys,u.oneCell'=true):
  Calls Tryz.prog 84 #[v,ja jb n,jd (some ⟨g,0,none⟩) 1 1] w (GN base v w n (xs++ys)):=by
 obtain⟨i0,hi,O,M,R⟩:=Lu;have J: ∀j u,ys[j]?=some u->w.cell? ((⟨g,0,none⟩:Addr).add j)=some u:=fun j u hj=>by
  rw[Addr.add_lit];have V:=(List.getElem?_eq_some_iff.1 hj).1;simp[World.cell?,hg];exact hj
 obtain⟨A,c,hv⟩: ∃A c,v=jd A n c:=by
  rcases D.2 with⟨E,G⟩ | ⟨g0,cap,cur,E,_⟩
  ·exact⟨none,0,by rw[E,G]⟩
  ·exact⟨_,_,E⟩
 have Y:n<=c:=by
  rcases D.2 with⟨E,G⟩ | ⟨g0,cap,cur,E,_,_,G,_⟩
  ·omega
  ·rw[hv]at E;cases E;exact G
 have Z:=Lh D;have X:=Lh J;have HG:=Lh hg;clear D J hg;subst hv;go_enter Tryz.func84,Tryz.ntmps84;go_wp2_with (at_builtin;refine wpList_append_own_at _ rfl (.tmp 23) (.tmp 24) 39 rfl base 61 i0 _ 13 160 Tryz.underlying39 hi O M R rfl (by decide) _ n xs rfl Z.o ⟨g,0,none⟩ 1 1 ys rfl hy X.o T (by unfold maxLen;omega) (by omega) F ?_)
 all_goals
  intro v' w' E G _ U;have H:=Lh (And.intro E (And.intro G U));clear E G U;go_wp2_with fail;go_ret;refine⟨v',rfl,?_⟩;first | exact H.o | (rw[show(Value.slice A n c).ownBlock=(Value.slice A n n).ownBlock from by cases A<;>rfl];exact H.o)
theorem Ka(base:Nat)(b n i g:Nat)(cur xs ys:List Value)(w:World)(hb:w.heap[b]?=some (ji cur.toArray 61 (0,0)))(E:cur.length=n*13)(hx:cur=xs)(aP:i<n)(hn:n<=1000000)(ac:base<=w.heap.size)
  (hg:w.heap[g]?=some (ji ys.toArray 61 (0,0))) (hy:ys.length=13) (aG: ∀u∈ys,u.oneCell'=true) (aK: ∀u∈xs,u.oneCell'=true):
  Calls Tryz.prog 84 #[jd (some ⟨b,0,none⟩) n n,ja jb i,jd (some ⟨g,0,none⟩) 1 1] w (GN base (jd (some ⟨b,0,none⟩) n n) w n (xs.take (i*13)++ys++xs.drop (i*13))):=by
 obtain⟨i0,hi,au,aq,aw⟩:=Lu;subst hx;obtain⟨z,hz⟩: ∃z:Value,z=.agg #[jc ⟨#[]⟩,ja jb 0,je false,ja jb 0,ja jb 0,ja jb 0,ja jb 0,jd none 0 0,jd none 0 0,ja jb 0,ja jb 0,jc ⟨#[]⟩,jc ⟨#[]⟩]:=⟨_,rfl⟩
 have aE:z.cells.size=13:=by rw[hz];rfl
 have am:(Tryz.prog.info? 61).map (·.size)=some 13:=by rw[hi];simp[aq]
 rw[<-hz]at au;clear hz;have aC:b<w.heap.size:=(xa.1 hb).1;have aJ:g<w.heap.size:=(xa.1 hg).1;have hcell: ∀(W:World) (q:Nat) (l:List Value),W.heap[q]?=some (ji l.toArray 61 (0,0))-> ∀p j u,(l.drop p)[j]?=some u->W.cell? ((⟨q,p,none⟩:Addr).add j)=some u:=fun W q l hq p j u hj=>by
  rw[Addr.add_lit];rw[List.getElem?_drop]at hj;simp[World.cell?,hq];exact hj
 have az:(n:Int)+1 - (i:Int)=((n+1 - i:Nat):Int):=by omega
 have ai:i+(n+1 - i)=n+1:=by omega
 have Y:(Builtin.firstCells i0.size i (jd (some ⟨b,0,none⟩) i n)).run Tryz.prog w.drew=.ok (cur.take (i*13)).toArray w.drew:=by
  rw[aq];exact run_firstCells_some w.drew 13 i ⟨b,0,none⟩ i n (cur.take (i*13)) (by rw[xg];omega) (fun j v hj=>by
   rw[List.getElem?_take]at hj;split at hj
   ·exact hcell w b cur hb 0 j v (by simpa using hj)
   ·cases hj)
 have ak: ∀ty,(Builtin.append_ #[39,3] ty #[jd (some ⟨b,0,none⟩) i n,ja jb ((n:Int)+1 - (i:Int))]).run Tryz.prog w=
   .ok (jd (some ⟨w.heap.size,0,none⟩) (n+1) (grownCap w (n+1) n 61)) (w.drew.alloc (ji ((cur.take (i*13)).toArray++Builtin.zeroCells z.cells (n+1 - i)++Builtin.zeroCells z.cells (grownCap w (n+1) n 61 - (n+1))) 61)):=fun ty=>by
  have h:=Lib.run_append_grow_zeros w 39 3 ty 61 i0 z .i64 .i64 Tryz.underlying39 Tryz.underlying3 hi au (some ⟨b,0,none⟩) i n (cur.take (i*13)) Y (n+1 - i) (by omega) (by omega) (by omega) (by omega) (by rw[aw];omega) (by rw[aw,ai];exact growslice_fits (by omega) (by omega));rw[ai]at h;rw[az];exact h
 obtain⟨G,hG⟩: ∃G,G=grownCap w (n+1) n 61:=⟨_,rfl⟩
 obtain⟨A,J⟩: ∃A:List Value,A=((cur.take (i*13)).toArray++Builtin.zeroCells z.cells (n+1 - i)++Builtin.zeroCells z.cells (G - (n+1))).toList:=⟨_,rfl⟩
 obtain⟨Z,R⟩: ∃Z,Z=w.drew.alloc (ji A.toArray 61):=⟨_,rfl⟩
 have U: ∀ty,(Builtin.append_ #[39,3] ty #[jd (some ⟨b,0,none⟩) i n,ja jb ((n:Int)+1 - (i:Int))]).run Tryz.prog w=.ok (jd (some ⟨w.heap.size,0,none⟩) (n+1) G) Z:=fun ty=>by
  rw[ak,R,J,hG]
 have aB:n+1<=G:=by rw[hG];exact grownCap_ge w _ _ _
 have M:A.length=G*13:=by
  rw[J];simp[Builtin.zeroCells,aE];omega
 have aa:A.take (i*13)=cur.take (i*13):=by
  rw[J];rw[Array.toList_append,Array.toList_append,xb,List.take_append_of_le_length (by simp;omega)];rw[List.take_take,Nat.min_self]
 have V:G<=maxLen:=by
  rw[hG];exact grownCap_le_maxLen w (n+1) n 61 (by unfold maxLen;omega)
 have aN:G<=9223372036854775807:=by unfold maxLen at V;omega
 have HW:=Lh (show Z.heap[w.heap.size]?=some (ji A.toArray 61 (0,0))from by rw[R];exact heap_alloc_new w.drew _);have D:=Lh (show w.grownBy Z none from by rw[R];have h:=World.grownBy_alloc w.drew (ji A.toArray 61) none;exact⟨h.os,h.tape,h.output,h.size,h.block⟩);have ae:=Lh (show Z.heap[b]?=some (ji cur.toArray 61 (0,0))from(D.o.block b aC (by simp)).trans hb);have aF:=Lh (show Z.heap[g]?=some (ji ys.toArray 61 (0,0))from(D.o.block g aJ (by simp)).trans hg);have aS: ¬(G=i):=by omega
 have aM: ¬(G=i+1):=by omega
 have aQ: ¬(n=i):=by omega
 have ar:b≠w.heap.size:=by omega
 have aT:IntKind.i64.wrap ((i:Int)+1)=(i:Int)+1:=by rw[IntKind.wrap_i64];omega
 have hb1:(0:Int)<=(i:Int)+1:=by omega
 have aO:((i:Int)+1).toNat=i+1:=by omega
 have aR:(i:Int)<=(n:Int):=by omega
 have aL: ¬((i:Int)=(n:Int)):=by omega
 have aA:ys.length=Nat.min 1 (n+1 - i)*13:=by rw[hy,show Nat.min 1 (n+1 - i)=1 from Nat.min_eq_left (by omega)]
 have O:i*13+ys.length<=A.length:=by rw[M,hy];omega
 have ah:(cur.drop (i*13)).length=Nat.min (n - i) (n+1 - (i+1))*13:=by rw[xc,E,show Nat.min (n - i) (n+1 - (i+1))=n - i from Nat.min_eq_left (by omega)];omega
 have ay:i*13+13+(cur.drop (i*13)).length<=A.length:=by rw[M,xc,E];omega
 have ax: ∀u∈cur.drop (i*13),u.oneCell'=true:=fun u hu=>aK u (List.mem_of_mem_drop hu)
 have X:(splice (splice A (i*13) ys) ((i+1)*13) (cur.drop (i*13))).take ((n+1)*13)=cur.take (i*13)++ys++cur.drop (i*13):=by
  have h:=NP A ys (cur.drop (i*13)) (i*13) (by rw[hy];exact ay);rw[hy,aa]at h;rw[<-h,show(i+1)*13=i*13+13 by omega,show(n+1)*13=i*13+13+(cur.drop (i*13)).length by rw[xc,E];omega]
 have HF:=Lh (And.intro X (show(splice (splice A (i*13) ys) ((i+1)*13) (cur.drop (i*13))).length=G*13 from by rw[length_splice _ _ _ (by rw[length_splice _ _ _ O];omega),length_splice _ _ _ O,M]));have ab:(i+1)*13+(cur.drop (i*13)).length<=(splice A (i*13) ys).length:=by rw[length_splice _ _ _ O];omega
 clear X;have H1:=Lh U;have HC:=Lh hcell;have HR:=Lh (And.intro M aa);have HL:=Lh E;obtain⟨N,hN⟩: ∃N,N=w.heap.size:=⟨_,rfl⟩
 rw[<-hN]at H1 HW ar;have HN:=Lh hN;clear ak U hcell Y J hG M aa R E hb hg az hN;go_enter Tryz.func84,Tryz.ntmps84;go_wp2_with (first | (at_builtin;refine Lib.wpList_append_run _ rfl _ _ _ _ rfl _ _ rfl rfl _ _ (H1.o _) ?_) | (refine DL rfl (.tmp 43) (.tmp 44) 39 39 rfl 61 13 Tryz.underlying39 am N (i*13) (n+1 - i) (G - i) ⟨g,0,none⟩ 1 1 rfl rfl A 61 HW.o ys aA (fun j u hj=>HC.o Z g ys aF.o 0 j u (by simpa using hj)) O aG ?_));intro W2 al F;have aD:=Lh (show W2.heap[b]?=some (ji cur.toArray 61 (0,0))from(F.o.block b (xa.1 ae.o).1 (by simpa using ar)).trans ae.o);obtain⟨R1,af⟩: ∃R1,R1=splice A (i*13) ys:=⟨_,rfl⟩
 rw[<-af]at al ab HF;obtain⟨X2,T⟩: ∃X2,X2=cur.drop (i*13):=⟨_,rfl⟩
 have av: ∀j u,X2[j]?=some u->W2.cell? ((⟨b,i*13,none⟩:Addr).add j)=some u:=fun j u hj=>HC.o W2 b cur aD.o (i*13) j u (by rw[<-T];exact hj)
 have aI:=Lh av;rw[<-T]at ab HF ah ax;have aH:=Lh T;clear af av ay T;go_wp2_with fail;go_region_law (refine EJ rfl (.tmp 50) (.tmp 53) 39 39 rfl 61 13 Tryz.underlying39 am N ((i+1)*13) (n+1 - (i+1)) (G - (i+1)) ⟨b,i*13,none⟩ (n - i) (n - i) (by simp[Act.eval,Act.put]) (by simp[Act.eval,Act.put]) R1 61 al.o X2 ah aI.o ab ax ?_;intro W3 ap ag)
 all_goals
  have H:=Lh (And.intro ap.o ag.o);clear ap ag;go_wp2_with fail;go_ret;refine⟨_,rfl,⟨by rw[xd,xd,xg,xc,hy,HL.o];omega,.inr ⟨N,G,_,rfl,by rw[HN.o];exact ac,H.o.1,aB,V,by simpa using HF.o.2,by rw[<-aH.o];simpa using HF.o.1⟩⟩,⟨H.o.2.os.trans (F.o.os.trans D.o.os),H.o.2.tape.trans (F.o.tape.trans D.o.tape),H.o.2.output.trans (F.o.output.trans D.o.output),xe D.o.size (xe F.o.size H.o.2.size),fun k hk _=>?_⟩,.inr (by rw[<-HN.o];rfl)⟩;have aj:some k≠some N:=by rw[HN.o];intro h;cases h;omega
  exact(H.o.2.block k (xf hk (xe D.o.size F.o.size)) aj).trans ((F.o.block k (xf hk D.o.size) aj).trans (D.o.block k hk (by simp)))
theorem Jk(base:Nat)(b n c i g:Nat)(cur xs ys:List Value)(w:World)(hb:w.heap[b]?=some (ji cur.toArray 61 (0,0)))(A:cur.length=c*13)(hx:cur.take (n*13)=xs)(aB:i<n)(ah:n+1<=c)(ae:c<=maxLen)(hbb:base<=b)
  (hg:w.heap[g]?=some (ji ys.toArray 61 (0,0))) (hgb:g≠b) (hy:ys.length=13) (aj: ∀u∈ys,u.oneCell'=true) (aq: ∀u∈xs,u.oneCell'=true):
  Calls Tryz.prog 84 #[jd (some ⟨b,0,none⟩) n c,ja jb i,jd (some ⟨g,0,none⟩) 1 1] w (GN base (jd (some ⟨b,0,none⟩) n c) w n (xs.take (i*13)++ys++xs.drop (i*13))):=by
 obtain⟨i0,hi,aF,Y,aI⟩:=Lu;have X:(Tryz.prog.info? 61).map (·.size)=some 13:=by rw[hi];simp[Y]
 have ay:b<w.heap.size:=(xa.1 hb).1;have ap:g<w.heap.size:=(xa.1 hg).1;have aw:c<=9223372036854775807:=by unfold maxLen at ae;omega
 have U:xs.length=n*13:=by rw[<-hx,xg,A];omega
 have hcell: ∀(W:World) (q:Nat) (l:List Value),W.heap[q]?=some (ji l.toArray 61 (0,0))-> ∀p j u,(l.drop p)[j]?=some u->W.cell? ((⟨q,p,none⟩:Addr).add j)=some u:=fun W q l hq p j u hj=>by
  rw[Addr.add_lit];rw[List.getElem?_drop]at hj;simp[World.cell?,hq];exact hj
 have O: ∀w,(Go.sizeOf 61).run Tryz.prog w=.ok 13 w:=fun w=>by
  simp[sizeOf,typeInfo,hi,Y]
 have Z: ∀W:World,W.heap[b]?=some (ji cur.toArray 61 (0,0))->W.heap[g]?=some (ji ys.toArray 61 (0,0))-> ∀o lb cb,(callFunc 116 #[jd (some ⟨g,0,none⟩) 1 1,jd (some ⟨b,o,none⟩) lb cb]).run Tryz.prog W=.ok (.value (je false)) W:=fun W hb hg o lb cb=>by
  rw[run_callFunc_extern Tryz.func116 (by kernel_rfl) (by kernel_rfl) (by kernel_rfl) (e:=Extern.SlicesOverlaps.overlaps #[39,39] #[4]) (by kernel_rfl),
   Lib.run_overlaps_apart W 39 4 61 Tryz.underlying39 13 O ⟨g,0,none⟩ ⟨b,o,none⟩ 1 1 lb cb hgb 61 61 ys.toArray.size cur.toArray.size (by simp[World.shape?,hg]) (by simp[World.shape?,hb]) (by rw[List.size_toArray,A];omega) (by simp[World.frozen?,hg]) (by simp[World.frozen?,hg])]
  rfl
 have ab:=Z w hb hg;have aE: ¬(n=i):=by omega
 have aK: ¬(c=i):=by omega
 have au: ¬(c=i+1):=by omega
 have av: ¬((c:Int)<(n:Int)+1):=by omega
 have aJ:IntKind.i64.wrap ((i:Int)+1)=(i:Int)+1:=by rw[IntKind.wrap_i64];omega
 have aH:IntKind.i64.wrap ((n:Int)+1)=(n:Int)+1:=by rw[IntKind.wrap_i64];omega
 have hb1:(0:Int)<=(i:Int)+1:=by omega
 have aM:(0:Int)<=(n:Int)+1:=by omega
 have az:((i:Int)+1).toNat=i+1:=by omega
 have ax:((n:Int)+1).toNat=n+1:=by omega
 have aG:(i:Int)<=(n:Int):=by omega
 have aD:(i:Int)+1<=(n:Int)+1:=by omega
 have aC:(n:Int)+1<=(c:Int):=by omega
 have aL:(i:Int)<=(n:Int)+1:=by omega
 have ar: ¬((i:Int)=(n:Int)):=by omega
 obtain⟨J,F⟩: ∃J,J=xs.drop (i*13):=⟨_,rfl⟩
 have E:J.length=(n - i)*13:=by rw[F,xc,U];omega
 have ai:J.length=Nat.min (n+1 - i) (n+1 - (i+1))*13:=by rw[E,show Nat.min (n+1 - i) (n+1 - (i+1))=n - i from by rw[show n+1 - (i+1)=n - i by omega];exact Nat.min_eq_right (by omega)]
 have ac:(i+1)*13+J.length<=cur.length:=by rw[E,A];omega
 have am: ∀u∈J,u.oneCell'=true:=fun u hu=>aq u (List.mem_of_mem_drop (by rw[<-F];exact hu))
 have aa: ∀j u,J[j]?=some u->w.drew.cell? ((⟨b,i*13,none⟩:Addr).add j)=some u:=fun j u hj=>hcell w.drew b cur hb (i*13) j u (by
  rw[F,<-hx,List.getElem?_drop,List.getElem?_take]at hj;rw[List.getElem?_drop];split at hj
  ·exact hj
  ·cases hj)
 have ag:ys.length=Nat.min 1 (n+1 - i)*13:=by rw[hy,show Nat.min 1 (n+1 - i)=1 from Nat.min_eq_left (by omega)]
 obtain⟨R,M⟩: ∃R,R=splice cur ((i+1)*13) J:=⟨_,rfl⟩
 have H:R.length=c*13:=by rw[M,length_splice _ _ _ ac,A]
 have V:i*13+ys.length<=R.length:=by rw[H,hy];omega
 have HF:=Lh (show(splice R (i*13) ys).length=c*13/\(splice R (i*13) ys).take ((n+1)*13)=xs.take (i*13)++ys++xs.drop (i*13)from by
  refine⟨by rw[length_splice _ _ _ V,H],?_⟩;have h:=NO cur ys J (i*13) (by rw[hy];omega);rw[hy]at h;rw[M,show(i+1)*13=i*13+13 by omega,show(n+1)*13=i*13+13+J.length by rw[E];omega,h,<-F,<-hx,List.take_take,Nat.min_eq_left (by omega)])
 have HB:=Lh hb;have HG:=Lh hg;have HC:=Lh hcell;have al:=Lh aa;have HM:=Lh (And.intro A hx);have HX:=Lh (And.intro U F);clear hb hg hcell O Z A hx U F E aa H;go_enter Tryz.func84,Tryz.ntmps84;go_wp2_with (simp only[ab]);go_region_law (refine EJ rfl (.tmp 73) (.tmp 76) 39 39 rfl 61 13 Tryz.underlying39 X b ((i+1)*13) (n+1 - (i+1)) (c - (i+1)) ⟨b,i*13,none⟩ (n+1 - i) (c - i) (by simp[Act.eval,Act.put]) (by simp[Act.eval,Act.put]) cur 61 HB.o J ai al.o ac am ?_;intro W2 T D)
 have af:=Lh (show W2.heap[g]?=some (ji ys.toArray 61 (0,0))from(D.o.block g ap (by simpa using hgb)).trans HG.o);have T:=Lh (show W2.heap[b]?=some (ji R.toArray 61 (0,0))from by rw[M];exact T.o);clear M;go_wp2_with (refine DL rfl (.tmp 80) (.tmp 81) 39 39 rfl 61 13 Tryz.underlying39 X b (i*13) (n+1 - i) (c - i) ⟨g,0,none⟩ 1 1 rfl rfl R 61 T.o ys ag (fun j u hj=>HC.o W2 g ys af.o 0 j u (by simpa using hj)) V aj ?_);intro W3 ak G;go_wp2_with fail;go_ret;have aA: ∀k,some k≠some b->k≠b:=fun k h e=>h (by rw[e])
 refine⟨_,rfl,⟨by rw[xd,xd,xg,xc,hy,HX.o.1];omega,.inr ⟨b,c,_,rfl,hbb,ak.o,ah,ae,by simpa using HF.o.1,by simpa using HF.o.2⟩⟩,⟨G.o.os.trans D.o.os,G.o.tape.trans D.o.tape,G.o.output.trans D.o.output,xe D.o.size G.o.size,fun k hk hne=>(G.o.block k (xf hk D.o.size) hne).trans (D.o.block k hk hne)⟩,.inl rfl⟩
theorem Se(base:Nat)(v:Value)(n i g:Nat)(xs ys:List Value)(w:World)(A:w.ownsRow base 61 13 v n xs)(hi:i<=n)(hn:n<=1000000)(D:base<=w.heap.size)
  (hg:w.heap[g]?=some (ji ys.toArray 61 (0,0))) (hgb:v.ownBlock≠some g) (hy:ys.length=13) (E: ∀u∈ys,u.oneCell'=true) (F: ∀u∈xs,u.oneCell'=true):
  Calls Tryz.prog 84 #[v,ja jb i,jd (some ⟨g,0,none⟩) 1 1] w (GN base v w n (xs.take (i*13)++ys++xs.drop (i*13))):=by
 have G:=A.1;by_cases he:i=n
 ·subst he;rw[<-G,List.take_length,List.drop_length,xl];exact Ls base v i g xs ys w A hn D hg hy E
 ·rcases A.2 with⟨_,h0⟩ | ⟨b,cap,cur,rfl,h2,h3,h4,h5,h6,h7⟩
  ·omega
  ·by_cases hc:cap=n
   ·subst hc;have hl:cur.toList.length=cap*13:=by rw[Array.length_toList];exact h6
    exact Ka base b cap i g cur.toList xs ys w h3 hl (by rw[<-h7,<-hl,List.take_length]) (by omega) hn D hg hy E F
   ·exact Jk base b n cap i g cur.toList xs ys w h3 (by rw[Array.length_toList];exact h6) h7 (by omega) (by omega) h5 h2 hg (fun h=>hgb (by rw[h];rfl)) hy E F
def Cf(lo:Nat)(w:World)(t:Ev × Value × Value):Prop:=ND t.1/\Ah lo w t.2.1 t.1.days.ex/\Ah lo w t.2.2 t.1.days.xt
structure Av (lo:Nat) (w:World) (v:Value) (ts:List (Ev × Value × Value)):Prop where
 row:w.ownsRow lo 61 13 v ts.length (Ap ts)
 ref: ∀t∈ts,Cf lo w t
theorem Cf.s{lo:Nat}{w:World}{t:Ev × Value × Value}(h:Cf lo w t):Kj w.heap.size w t:=by
 obtain⟨hg,hx,hy⟩:=h;obtain⟨D,F,e1,A⟩:=hx.ints;obtain⟨G,E,e2,i2⟩:=hy.ints;exact⟨hg,⟨D,F,e1,A⟩,⟨G,E,e2,i2⟩⟩
theorem Av.seg{lo:Nat}{w:World}{v:Value}{ts:List (Ev × Value × Value)}(h:Av lo w v ts): ∃ao c,v=jd ao ts.length c/\(ao=none->c=0)/\Fv w.heap.size w ao ts:=by
 have hr: ∀t∈ts,Kj w.heap.size w t:=fun t ht=>(h.ref t ht).s
 rcases h.row.2 with⟨hv,h0⟩ | ⟨g,cap,cur,hv,r2,r3,r4,r5,_⟩
 ·have:ts=[]:=List.eq_nil_of_length_eq_zero h0;subst this;exact⟨none,0,hv,fun _=>rfl,Fv.nil _ _ _⟩
 ·refine⟨_,cap,hv,fun e=>(by cases e),.inr ⟨g,0,rfl,(xa.1 r3).1,fun j u hj=>?_⟩,hr⟩;have:=h.row.cells (g:=g) (by rw[hv];rfl) j u hj;rw[Addr.add_lit]at this;exact this
theorem Av.nil(lo:Nat)(w:World):Av lo w (jd none 0 0) []:=⟨World.ownsRow_nil _ _ _ _,fun t h=>by cases h⟩
theorem Cf.mono{lo lo':Nat}{w:World}{t:Ev × Value × Value}(h:Cf lo w t)(hb:lo'<=lo):Cf lo' w t:=⟨h.1,Ab h.2.1 hb,Ab h.2.2 hb⟩
theorem Av.mono{lo lo':Nat}{w:World}{v:Value}{ts:List (Ev × Value × Value)}(h:Av lo w v ts)(hb:lo'<=lo):Av lo' w v ts:=⟨Ab h.row hb,fun t ht=>(h.ref t ht).mono hb⟩
theorem Cf.made{lo:Nat}{w w':World}{t:Ev × Value × Value}(h:Cf lo w t)(hb:Below w.heap.size w w'):Cf lo w' t:=⟨h.1,Ay h.2.1 hb,Ay h.2.2 hb⟩
theorem Av.made{lo:Nat}{w w':World}{v:Value}{ts:List (Ev × Value × Value)}(h:Av lo w v ts)(hb:Below w.heap.size w w'):Av lo w' v ts:=⟨Ay h.row hb,fun t ht=>(h.ref t ht).made hb⟩
theorem Cf.set{lo:Nat}{w:World}{t:Ev × Value × Value}(h:Cf lo w t){g:Nat}{cs:Array Value}{ty:TypeId}(hg:Af g cs ty w)(A:ty≠3)(i:Nat)(u:Value):Cf lo (w.setCell ⟨g,i,none⟩ u) t:=⟨h.1,A7 h.2.1 hg A i u,A7 h.2.2 hg A i u⟩
theorem Av.set{lo:Nat}{w:World}{v:Value}{ts:List (Ev × Value × Value)}(h:Av lo w v ts){g:Nat}{cs:Array Value}{ty:TypeId}(hg:Af g cs ty w)(D:ty≠3)(A:ty≠61)(i:Nat)(u:Value):Av lo (w.setCell ⟨g,i,none⟩ u) v ts:=⟨A7 h.row hg A i u,fun t ht=>(h.ref t ht).set hg D i u⟩
theorem Cf.alloc{lo:Nat}{w:World}{t:Ev × Value × Value}(h:Cf lo w t)(o:Obj):Cf lo (w.alloc o) t:=⟨h.1,xi h.2.1 o,xi h.2.2 o⟩
theorem Av.alloc{lo:Nat}{w:World}{v:Value}{ts:List (Ev × Value × Value)}(h:Av lo w v ts)(o:Obj):Av lo (w.alloc o) v ts:=⟨h.row.alloc o,fun t ht=>(h.ref t ht).alloc o⟩
theorem Cf.grown{lo B n k:Nat}{w w':World}{t:Ev × Value × Value}{v:Value}{xs:List Value}(h:Cf lo w t)(A:w.ownsRow B 61 k v n xs)(hg:w.grownBy w' v.ownBlock):Cf lo w' t:=
 ⟨h.1,World.ownsRow.kept h.2.1 hg (AU h.2.1 A (by decide)),World.ownsRow.kept h.2.2 hg (AU h.2.2 A (by decide))⟩
theorem Av.one{lo:Nat}{w:World}{v:Value}{ts:List (Ev × Value × Value)}(h:Av lo w v ts): ∀u∈Ap ts,u.oneCell'=true:=by
 obtain⟨ao,c,_,_,hs⟩:=h.seg;exact hs.one
theorem BA(t:Ev × Value × Value):Ap [t]=(Ae t.1 t.2.1 t.2.2).toList:=by unfold Ap;simp
theorem Av.changed{lo:Nat}{w w':World}{v v':Value}{ts us:List (Ev × Value × Value)}(h:Av lo w v ts)(hg:w.grownBy w' v.ownBlock)(hu: ∀t∈us,t∈ts∨Cf lo w t)(A:w'.ownsRow lo 61 13 v' us.length (Ap us)):Av lo w' v' us:=
 ⟨A,fun t ht=>(hu t ht).elim (fun k=>(h.ref t k).grown h.row hg) (fun k=>k.grown h.row hg)⟩
theorem NM(ts:List (Ev × Value × Value))(t:Ev × Value × Value)(i:Nat)(hi:i<=ts.length):(Ap ts).take (i*13)++(Ae t.1 t.2.1 t.2.2).toList++(Ap ts).drop (i*13)=Ap (ts.take i++t::ts.drop i):=by
 rw[<-EG ts i hi,<-EH ts i hi,AR,show t::ts.drop i=[t]++ts.drop i from rfl,AR,BA,xb]
theorem Av.ins{lo:Nat}{w w':World}{v v':Value}{ts:List (Ev × Value × Value)}{t:Ev × Value × Value}(h:Av lo w v ts)(ht:Cf lo w t)(hg:w.grownBy w' v.ownBlock)(i:Nat)(hi:i<=ts.length)
  (A:w'.ownsRow lo 61 13 v' (ts.length+1) ((Ap ts).take (i*13)++(Ae t.1 t.2.1 t.2.2).toList++(Ap ts).drop (i*13))):Av lo w' v' (ts.take i++t::ts.drop i):=by
 refine h.changed hg (fun s hs=>?_) ?_
 ·rcases xk.1 hs with k | k
  ·exact .inl (List.mem_of_mem_take k)
  ·rcases List.mem_cons.1 k with rfl | k
   ·exact .inr ht
   ·exact .inl (List.mem_of_mem_drop k)
 ·rw[<-NM ts t i hi];have:(ts.take i++t::ts.drop i).length=ts.length+1:=by simp;omega
  rw[this];exact A
theorem Av.snoc{lo:Nat}{w w':World}{v v':Value}{ts:List (Ev × Value × Value)}{t:Ev × Value × Value}(h:Av lo w v ts)(ht:Cf lo w t)(hg:w.grownBy w' v.ownBlock)
  (A:w'.ownsRow lo 61 13 v' (ts.length+1) (Ap ts++(Ae t.1 t.2.1 t.2.2).toList)):Av lo w' v' (ts++[t]):=by
 refine h.changed hg (fun s hs=>?_) ?_
 ·rcases xk.1 hs with k | k
  ·exact .inl k
  ·rw[List.mem_singleton.1 k];exact .inr ht
 ·rw[Ma,xd];exact A
theorem Ak{B D k n:Nat}{w0 w w':World}{e:TypeId}{v:Value}{xs:List Value}(hb:Below B w0 w)(A:w.ownsRow D e k v n xs)(E:B<=D)(hs:B<=w.heap.size)(hg:w.grownBy w' v.ownBlock):Below B w0 w':=by
 refine hb.trans ⟨hg.os,hg.tape,hg.output,hg.size,fun j hj=>hg.block j (by omega) (fun he=>?_)⟩;have:=(A.lt j he.symm).1;omega
theorem CG{lo k n c:Nat}{e:TypeId}{g:Nat}: ∀(us:List Value) (j:Nat) (xs:List Value) (w:World),w.ownsRow lo e k (jd (some ⟨g,0,none⟩) n c) n xs->j+us.length<=n*k->
  (setAll w g j us).ownsRow lo e k (jd (some ⟨g,0,none⟩) n c) n (xs.take j++us++xs.drop (j+us.length))/\w.grownBy (setAll w g j us) (some g)
 | [],j,xs,w,h,_=>by
  simp only[xl,List.length_nil,Nat.add_zero,List.take_append_drop];exact⟨h,World.grownBy.refl w _⟩
 | u::r,j,xs,w,h,hl=>by
  have hx:=h.1;have D:=h.stored j u;have A:=CG r (j+1) (xs.set j u) (w.setCell ⟨g,j,none⟩ u) D.1 (by simp at hl ⊢;omega);have e1:=list_seg_step xs j u r (by simp at hl;omega);rw[e1]at A;exact⟨A.1,D.2.trans A.2⟩
theorem Av.store{lo n c g:Nat}{w:World}{ts:List (Ev × Value × Value)}(h:Av lo w (jd (some ⟨g,0,none⟩) n c) ts)(hn:ts.length=n)(i:Nat)(e:Ev)(v v':Value)(hi:i<n)(hr:Cf lo w (e,v,v')):
  ∃W,W=((((((((((((w.setCell ⟨g,i*13,none⟩ (jc e.uid)).setCell ⟨g,i*13+1,none⟩ (ja jb e.seq)).setCell ⟨g,i*13+2,none⟩ (je e.canc)).setCell ⟨g,i*13+3,none⟩ (ja jb e.days.first)).setCell ⟨g,i*13+4,none⟩ (ja jb e.days.last)).setCell ⟨g,i*13+5,none⟩ (ja jb e.days.every)).setCell ⟨g,i*13+6,none⟩ (ja jb e.days.wd)).setCell ⟨g,i*13+7,none⟩ v).setCell ⟨g,i*13+8,none⟩ v').setCell ⟨g,i*13+9,none⟩ (ja jb e.start)).setCell ⟨g,i*13+10,none⟩ (ja jb e.mins)).setCell ⟨g,i*13+11,none⟩ (jc e.summ)).setCell ⟨g,i*13+12,none⟩ (jc e.loc)/\
   Av lo W (jd (some ⟨g,0,none⟩) n c) (ts.set i (e,v,v'))/\w.grownBy W (some g):=by
 subst hn;have hl:(Ae e v v').toList.length=13:=rfl;have D:=CG (Ae e v v').toList (i*13) (Ap ts) w h.row (by rw[hl];omega);refine⟨setAll w g (i*13) (Ae e v v').toList,rfl,h.changed D.2 (fun s hs=>?_) ?_,D.2⟩
 ·rcases List.mem_or_eq_of_mem_set hs with k | rfl
  ·exact .inl k
  ·exact .inr hr
 ·have A:ts.set i (e,v,v')=ts.take i++(e,v,v')::ts.drop (i+1):=by rw[List.set_eq_take_append_cons_drop,if_pos hi]
  rw[List.length_set,A,AR,show(e,v,v')::ts.drop (i+1)=[(e,v,v')]++ts.drop (i+1)from rfl,AR,BA,EG ts i (by omega),EH ts (i+1) (by omega),<-xb];have E:=D.1;rw[hl]at E;rw[show(i+1)*13=i*13+13 by omega];exact E
theorem Av.ev{lo n c g:Nat}{w:World}{ts:List (Ev × Value × Value)}(h:Av lo w (jd (some ⟨g,0,none⟩) n c) ts)(j:Nat)(t:Ev × Value × Value)(ht:ts[j]?=some t):Ps g (j*13) t.1 t.2.1 t.2.2 w:=by
 have A:=Mj (w:=w) (b:=g) (o:=0) (ts:=ts) (fun j u hj=>by
  have:=h.row.cells (g:=g) rfl j u hj;rw[Addr.add_lit]at this;exact this) j t ht
 rw[xm]at A;exact A
end Go.Proofs.YtegjgjgoodekiaaGreatDoor
namespace Tt
open Go Go.Lib
def wkGo:Nat->Int->List UInt8->Int × List UInt8
 | 0,set,s=>if 0<set then(0,[])else(0,s)
 | f+1,set,s=>
  if hasPrefix s (nameW (6 - f))=true then
   (if hasPrefix (trimPrefix s (nameW (6 - f))) [44]=true then wkGo f (set+2 ^ (6 - f)) (trimPrefix (trimPrefix s (nameW (6 - f))) [44])else(set+2 ^ (6 - f),trimPrefix s (nameW (6 - f))))
  else wkGo f set s
theorem TI: ∀k:Nat,k<7-> ∀v:Nat,v<2 ^ k->bits BinOp.or IntKind.i64 (v:Int) (2 ^ k:Int)=(v:Int)+2 ^ k:=by decide
theorem LQ{k:Nat}(h:k<7):RowKit.wrap64 (2 ^ k)=2 ^ k:=by
 match k,h with
 | 0,_ | 1,_ | 2,_ | 3,_ | 4,_ | 5,_ | 6,_=>(unfold RowKit.wrap64;omega)
theorem or_bit(k:Nat)(h:k<7)(v:Nat)(hv:v<2 ^ k):bits BinOp.or IntKind.i64 (v:Int) (RowKit.wrap64 (2 ^ k))=((v+2 ^ k:Nat):Int):=by
 rw[LQ h,TI k h v hv];push_cast;rfl
theorem name_cut{k:Nat}(h:k<7):(⟨#[77,79,84,85,87,69,84,72,70,82,83,65,83,85]⟩:ByteArray).extract (2*k) (2*k+2)=⟨(nameW k).toArray⟩:=by
 refine Go.Proofs.YtegjgjgoodekiaaGreatDoor.mk_bytes ?_;rw[Lib.extract_data];match k,h with
 | 0,_ | 1,_ | 2,_ | 3,_ | 4,_ | 5,_ | 6,_=>rfl
end Tt
namespace Go.Proofs.YtegjgjgoodekiaaGreatDoor
open Go.RowKit
theorem Hn(s:ByteArray)(w:World):
  Calls Tryz.prog 131 #[jc s] w fun e w'=>e=jh (jg #[ja jb (Tt.wkGo 7 0 s.data.toList).1,jc ⟨(Tt.wkGo 7 0 s.data.toList).2.toArray⟩])/\w'=w:=by
 go_enter Tryz.func131,Tryz.ntmps131;go_wp2_with fail;go_loopw [0,4,8] (fun sv nv iv wr=> ∃(k v:Nat) (t:ByteArray),k<=7/\iv=ja jb k/\nv=ja jb v/\sv=jc t/\v<2 ^ k/\Hid (Tt.wkGo 7 0 s.data.toList=Tt.wkGo (7 - k) v t.data.toList)/\Hid (wr=w)) (fun _ _ iv _=>7 - (intOf iv).toNat)
 case atStart=>exact⟨0,0,s,xh _,rfl,rfl,rfl,by decide,Lh rfl,Lh rfl⟩
 case round=>
  obtain⟨k,v,t,hk,rfl,rfl,rfl,hv,G,Y⟩:=hrel;by_cases V:k<7
  ·have ab:(k:Int)<7:=by omega
   have ae:(0:Int)<=2*(k:Int)/\2*(k:Int)+2<=14:=by omega
   obtain⟨P,hP⟩: ∃P,P=Lib.hasPrefix t.data.toList (Tt.nameW k):=⟨_,rfl⟩
   obtain⟨E,J⟩: ∃E:ByteArray,E=⟨(Lib.trimPrefix t.data.toList (Tt.nameW k)).toArray⟩:=⟨_,rfl⟩
   obtain⟨P2,U⟩: ∃P,P=Lib.hasPrefix E.data.toList [44]:=⟨_,rfl⟩
   obtain⟨T2,M⟩: ∃q:ByteArray,q=⟨(Lib.trimPrefix E.data.toList [44]).toArray⟩:=⟨_,rfl⟩
   have F:Hid (∀W,Calls Tryz.prog 101 #[jc t,jc ((⟨#[77,79,84,85,87,69,84,72,70,82,83,65,83,85]⟩:ByteArray).extract (2*k) (2*k+2))] W fun e w'=>e=jh (jg #[jc E,je P])/\w'=W):=Lh (fun W=>by
    rw[Tt.name_cut V,J,hP];exact Tryz.strings_CutPrefix t ⟨(Tt.nameW k).toArray⟩ W)
   have H:Hid (∀W,Calls Tryz.prog 101 #[jc E,jc ⟨#[44]⟩] W fun e w'=>e=jh (jg #[jc T2,je P2])/\w'=W):=Lh (fun W=>by
    rw[M,U];exact Tryz.strings_CutPrefix E ⟨#[44]⟩ W)
   have A:=Lh (show Tt.wkGo (7 - k) v t.data.toList=if P=true then(if P2=true then Tt.wkGo (7 - (k+1)) ((v:Int)+2 ^ k) T2.data.toList else((v:Int)+2 ^ k,E.data.toList))else Tt.wkGo (7 - (k+1)) v t.data.toList from by
    rw[show 7 - k=(6 - k)+1 by omega,Tt.wkGo,show 6 - (6 - k)=k by omega,show 7 - (k+1)=6 - k by omega,<-hP,U,M,J])
   have T:=Tt.or_bit k V v hv;have hp2:2 ^ (k+1)=2 ^ k+2 ^ k:=by rw[Nat.pow_succ];omega
   have hv2:v+2 ^ k<2 ^ (k+1):=by omega
   have aa:v<2 ^ (k+1):=by omega
   obtain⟨v',hv'⟩: ∃v',v'=v+2 ^ k:=⟨_,rfl⟩
   have Z:(v:Int)+2 ^ k=(v':Int):=by rw[hv'];push_cast;rfl
   rw[<-hv']at T hv2;rw[Z]at A;have ac:v'<128:=xf hv2 (Nat.pow_le_pow_right (by decide) (show k+1<=7 by omega));have R:=Lh T;clear hP J U M hp2 T hv' Z;go_wp2_with fail;refine(F.o wr).mono ?_;rintro e w1 ⟨rfl,rfl⟩;cases P
   ·have D:=Lh (show Tt.wkGo 7 0 s.data.toList=Tt.wkGo (7 - (k+1)) v t.data.toList from by rw[G.o,A.o];rfl);clear G A F H R;go_wp2_with fail;go_roundw
    case rel=>exact⟨k+1,v,t,by omega,by go_num,rfl,rfl,aa,D,Y⟩
    case measure=>simp[intOf];omega
   ·cases P2
    ·have D:=Lh (show Tt.wkGo 7 0 s.data.toList=((v':Int),E.data.toList)from by rw[G.o,A.o];rfl);clear G A F;go_wp2_with fail;refine(H.o _).mono ?_;rintro e w2 ⟨rfl,rfl⟩;rw[R.o];go_wp2_with fail;go_ret2;exact⟨by rw[D.o,Lib.mk_data];rfl,Y.o⟩
    ·have D:=Lh (show Tt.wkGo 7 0 s.data.toList=Tt.wkGo (7 - (k+1)) v' T2.data.toList from by rw[G.o,A.o];rfl);clear G A F;go_wp2_with fail;refine(H.o _).mono ?_;rintro e w2 ⟨rfl,rfl⟩;rw[R.o];go_wp2_with fail;go_roundw
     case rel=>exact⟨k+1,v',T2,by omega,by go_num,rfl,rfl,hv2,D,Y⟩
     case measure=>simp[intOf];omega
  ·have X:k=7:=by omega
   have ab: ¬(k:Int)<7:=by omega
   have HE:=Lh (show Tt.wkGo 7 0 s.data.toList=if(0:Int)<v then(0,[])else(0,t.data.toList)from by rw[G.o,X];rfl);clear X G;by_cases h0:(0:Int)<v
   ·have O:=Lh (show Tt.wkGo 7 0 s.data.toList=(0,[])from by rw[HE.o,if_pos h0]);go_wp2_with fail;go_ret2;exact⟨by rw[O.o];rfl,Y.o⟩
   ·have O:=Lh (show Tt.wkGo 7 0 s.data.toList=(0,t.data.toList)from by rw[HE.o,if_neg h0]);go_wp2_with fail;go_ret2;exact⟨by rw[O.o,Lib.mk_data];rfl,Y.o⟩
end Go.Proofs.YtegjgjgoodekiaaGreatDoor
namespace Tt
open Go
theorem TJ: ∀k:Nat,k<7-> ∀v:Nat,v<128->bits BinOp.or IntKind.i64 (v:Int) (2 ^ k:Int)=((v ||| 2 ^ k:Nat):Int):=by decide+kernel
theorem or_any(k:Nat)(h:k<7)(v:Nat)(hv:v<128):bits BinOp.or IntKind.i64 (v:Int) (RowKit.wrap64 (2 ^ k))=((v ||| 2 ^ k:Nat):Int):=by rw[LQ h,TJ k h v hv]
theorem Wb: ∀k:Nat,k<7-> ∀v:Nat,v<128->v ||| 2 ^ k<128:=by decide+kernel
def WZ(c:List UInt8)(v k:Nat):Nat:=(List.range k).foldl (fun v j=>if c=nameW j then v ||| 2 ^ j else v) v
def Ra:Nat->List UInt8->Nat->Nat
 | 0,_,v=>v
 | n+1,l,v=>if 2<=l.length then Ra n (l.drop 3) (WZ (l.take 2) v 7)else v
theorem Q8{n:Nat}{l:List UInt8}(v:Nat)(h:2<=l.length)(hn:0<n):Ra n l v=Ra (n - 1) (l.drop 3) (WZ (l.take 2) v 7):=by
 cases n with
 | zero=>omega
 | succ n=>rw[Ra,if_pos h];rfl
theorem Iu{n:Nat}{l:List UInt8}(v:Nat)(h:l.length<2):Ra n l v=v:=by
 cases n with
 | zero=>rfl
 | succ n=>rw[Ra,if_neg (by omega)]
def J6(l:List UInt8):Int:=if l.all MR=true then Oq l else -1
def Us(t:List UInt8):Int × Int:=dayV (J6 ((t.drop (t.length - 8)).take 4)) (J6 (((t.drop (t.length - 8)).drop 4).take 2)) (J6 ((t.drop (t.length - 8)).drop 6))
def RL(f:Int)(t:List UInt8):Ser:=⟨f,(Us t).1,J6 ((t.drop 21).take 1),Ra t.length ((t.take (t.length - 15)).drop 29) 0,[],[]⟩
def parR(f:Int)(t:List UInt8):Ser:=
 if isD f=false then⟨0,0,0,0,[],[]⟩
 else if t.length<44 then⟨0,0,0,0,[],[]⟩
 else if J6 ((t.drop 21).take 1)<0 then⟨0,0,0,0,[],[]⟩
 else if(Us t).2≠0 then⟨0,0,0,0,[],[]⟩
 else if ruleL (RL f t)≠t then⟨0,0,0,0,[],[]⟩
 else if serV (RL f t)≠0 then⟨0,0,0,0,[],[]⟩
 else RL f t
end Tt
namespace Go.Proofs.YtegjgjgoodekiaaGreatDoor
open Go.RowKit
theorem OP(b g o cap:Nat)(xs:List ByteArray)(z s:ByteArray)(bad:Bool)(w:World)(D:Bl b g o cap xs z bad w)(hg:g<w.heap.size)(hs:s.size<=70368744177664):
  Calls Tryz.prog 105 #[jf (some ⟨b,0,none⟩),jc s] w fun e w'=>e=jh (jc (B8 s.data.toList))/\Bl b g o cap xs z (bad || !FV s.data.toList) w'/\AO b w.heap.size w w':=by
 have G:=Lf s w hs;obtain⟨U,J⟩: ∃U,U=FV s.data.toList:=⟨_,rfl⟩
 obtain⟨T,H⟩: ∃T,T=B8 s.data.toList:=⟨_,rfl⟩
 rw[<-J,<-H]at G ⊢;have F:=Lh G;clear G J H;go_enter Tryz.func105,Tryz.ntmps105;go_wp2_with fail;refine F.o.mono ?_;rintro e M ⟨rfl,A⟩;have E:=D.below A hg;have c2:=E.c2;have hf:=E.f0 2;clear D F;cases bad<;>cases U
 all_goals
  go_wp2_with fail;go_ret;exact⟨rfl,E.set2 _,(AO.of_below (b:=b) A).trans ((AN M b 2 _).but)⟩
end Go.Proofs.YtegjgjgoodekiaaGreatDoor
namespace Go.Proofs
open Go.Shelf Go.RowKit
theorem Tryz.laysC172:Go.Proofs.LaysC.n172 Tryz.prog Tryz.lays172_ren:={
 Tryz.lays172 with
 t80:=Tryz.underlying152
 a80:=Tryz.isAgg152
 z80:=Tryz.sizeOf152
 v80:=Tryz.zeroValue152
 i0:=by kernel_rfl
 i2:=by kernel_rfl
 i3:=by kernel_rfl
 i4:=by kernel_rfl
 i5:=by kernel_rfl
 i9:=by kernel_rfl
 i20:=by kernel_rfl
 i21:=by kernel_rfl
 i37:=by kernel_rfl
 i46:=by kernel_rfl
 i51:=by kernel_rfl
 i53:=by kernel_rfl
 i75:=by kernel_rfl
 i76:=by kernel_rfl
 i80:=by kernel_rfl
 i85:=by kernel_rfl
 i127:=by kernel_rfl
 i143:=by kernel_rfl
 i145:=by kernel_rfl
 i167:=by kernel_rfl
 i168:=by kernel_rfl
 i171:=by kernel_rfl
 i173:=by kernel_rfl
 i175:=by kernel_rfl
 i210:=by kernel_rfl
 i212:=by kernel_rfl
 i232:=by kernel_rfl
 i233:=by kernel_rfl
 m15:=by kernel_rfl
 m16:=by kernel_rfl
 m17:=by kernel_rfl
 m18:=by kernel_rfl
 m19:=by kernel_rfl
 c0:=by kernel_rfl
 c2:=by kernel_rfl
 c3:=by kernel_rfl
 c4:=by kernel_rfl
 c5:=by kernel_rfl
 c9:=by kernel_rfl
 c20:=by kernel_rfl
 c21:=by kernel_rfl
 c37:=by kernel_rfl
 c46:=by kernel_rfl
 c51:=by kernel_rfl
 c53:=by kernel_rfl
 c75:=by kernel_rfl
 c76:=by kernel_rfl
 c80:=by kernel_rfl
 c85:=by kernel_rfl
 c127:=by kernel_rfl
 c143:=by kernel_rfl
 c145:=by kernel_rfl
 c167:=by kernel_rfl
 c168:=by kernel_rfl
 c171:=by kernel_rfl
 c173:=by kernel_rfl
 c175:=by kernel_rfl
 c210:=by kernel_rfl
 c212:=by kernel_rfl
 c213:=by kernel_rfl
 c232:=by kernel_rfl
 c233:=by kernel_rfl
}
theorem Tryz.strconv_Atoi_ok(s:ByteArray)(A:s.size<=9223372036854775806)(v:Int)(h:Lib.atoiAll s.data.toList=.ok v)(w:World):
  Calls Tryz.prog 100 #[jc s] w fun e w'=>e=jh (jg #[ja jb v,.nilIface])/\(w'=w∨ ∃t,w'=Lib.bytesWorld w 5 t):=Any.strconv_Atoi_ok Tryz.laysC172 s A v h w
theorem Tryz.strconv_Atoi_bad(s:ByteArray)(A:s.size<=281474976710656)(F: ∀v,Lib.atoiAll s.data.toList≠ .ok v)(E:Lib.atoiAll s.data.toList≠ .range)(ev:Value)(w:World)(hv:w.cell? ⟨1,0,none⟩=some ev)(D:ev=.nilIface∨ ∃te pe,ev=.iface te pe):
  Calls Tryz.prog 100 #[jc s] w fun e w'=> ∃N,e=jh (jg #[ja jb (0),.iface 216 (jf (some ⟨N,0,none⟩))])/\w.heap.size<=N/\w'.heap[N]?=some (ji #[jc ⟨#[65,116,111,105]⟩,jc s,ev] 238 (0,0))/\Below w.heap.size w w':=by
 cases h:Lib.atoiAll s.data.toList
 ·exact absurd h (F _)
 ·first | exact absurd h E | exact Any.strconv_Atoi_syntax Tryz.laysC172 s A h ev w hv D
 ·first | exact absurd h E | exact Any.strconv_Atoi_syntax Tryz.laysC172 s A h ev w hv D
theorem Tryz.strconv_Atoi_range(s:ByteArray)(A:s.size<=281474976710656)(h:Lib.atoiAll s.data.toList=.range)(ev:Value)(w:World)(hv:w.cell? ⟨2,0,none⟩=some ev)(D:ev=.nilIface∨ ∃te pe,ev=.iface te pe):
  Calls Tryz.prog 100 #[jc s] w fun e w'=> ∃N,e=jh (jg #[ja jb (Lib.atoiSat s.data.toList),.iface 216 (jf (some ⟨N,0,none⟩))])/\w.heap.size<=N/\w'.heap[N]?=some (ji #[jc ⟨#[65,116,111,105]⟩,jc s,ev] 238 (0,0))/\Below w.heap.size w w':=Any.strconv_Atoi_range Tryz.laysC172 s A h ev w hv D
end Go.Proofs
namespace Go.Proofs.YtegjgjgoodekiaaGreatDoor
open Go.RowKit
theorem Pf(y m d:Int)(w:World)(A:CD w):
  Calls Tryz.prog 128 #[ja jb y,ja jb m,ja jb d] w fun e w'=>(∃n c:Int,e=jh (jg #[ja jb n,ja jb c]))/\w'=w:=by
 by_cases hd: -1000000<=d/\d<=1000000
 ·exact(Ox y m d w A hd.1 hd.2).mono fun e w' h=>⟨⟨_,_,h.1⟩,h.2⟩
 ·have E:=Lh A;clear A;go_enter Tryz.func128,Tryz.ntmps128;by_cases H:y<2000
  ·go_wp2_with fail;go_ret2;exact⟨⟨_,_,rfl⟩,rfl⟩
  ·by_cases O:2099<y
   ·go_wp2_with fail;go_ret2;exact⟨⟨_,_,rfl⟩,rfl⟩
   ·by_cases M:m<1
    ·go_wp2_with fail;go_ret2;exact⟨⟨_,_,rfl⟩,rfl⟩
    ·by_cases J:12<m
     ·go_wp2_with fail;go_ret2;exact⟨⟨_,_,rfl⟩,rfl⟩
     ·by_cases R:d<1
      ·go_wp2_with fail;go_ret2;exact⟨⟨_,_,rfl⟩,rfl⟩
      ·have F:=Tt.mlen_bd y m;have T:Tt.mlen y m<d:=by omega
       go_wp2_with fail;refine(DY y m w (by omega) (by omega) (by omega) (by omega) E.o).mono ?_;rintro e G ⟨rfl,D⟩;rw[D];clear D G;go_wp2_with fail;go_ret2;exact⟨⟨_,_,rfl⟩,rfl⟩
def Gk(w:World):Prop:=(∃ev,w.cell? ⟨1,0,none⟩=some ev/\(ev=.nilIface∨ ∃te pe,ev=.iface te pe))/\ ∃ev,w.cell? ⟨2,0,none⟩=some ev/\(ev=.nilIface∨ ∃te pe,ev=.iface te pe)
theorem Gk.below{B:Nat}{w w':World}(h:Gk w)(G:2<B)(hb:Below B w w'):Gk w':=by
 obtain⟨⟨a,A,E⟩,b,F,D⟩:=h;exact⟨⟨a,(hb.cell (p:=⟨1,0,none⟩) (show 1<B by omega)).trans A,E⟩,b,(hb.cell (p:=⟨2,0,none⟩) G).trans F,D⟩
theorem S3(s:ByteArray)(w:World)(hs:s.size<=281474976710656)(H:Gk w):
  Calls Tryz.prog 100 #[jc s] w fun e w'=> ∃(n:Int) (v:Value),e=jh (jg #[ja jb n,v])/\(v=.nilIface∨ ∃t p,v=.iface t p)/\Below w.heap.size w w':=by
 obtain⟨⟨a,A,F⟩,b,E,D⟩:=H;by_cases hr:Lib.atoiAll s.data.toList=.range
 ·refine(Tryz.strconv_Atoi_range s hs hr b w E D).mono ?_;rintro e w' ⟨N,rfl,_,_,hb⟩;exact⟨_,_,rfl,.inr ⟨_,_,rfl⟩,hb⟩
 ·by_cases ho: ∃v,Lib.atoiAll s.data.toList=.ok v
  ·obtain⟨v,h⟩:=ho;refine(Tryz.strconv_Atoi_ok s (by omega) v h w).mono ?_;rintro e w' ⟨rfl,G⟩;refine⟨v,_,rfl,.inl rfl,?_⟩;rcases G with rfl | ⟨t,rfl⟩
   ·exact Below.refl _ _
   ·exact Lib.bytesWorld_below _ _ _
  ·refine(Tryz.strconv_Atoi_bad s hs (fun v h=>ho ⟨v,h⟩) hr a w A F).mono ?_;rintro e w' ⟨N,rfl,_,_,hb⟩;exact⟨_,_,rfl,.inr ⟨_,_,rfl⟩,hb⟩
def WT(b g o cap:Nat)(xs:List ByteArray)(z:ByteArray)(bad:Bool)(w:World)(e:Ending)(w':World):Prop:=∃(n:Int) (c:Bool),e=jh (ja jb n)/\(bad=true->c=true)/\Bl b g o cap xs z c w'/\AO b w.heap.size w w'
theorem Ga(b g o cap:Nat)(xs:List ByteArray)(z s:ByteArray)(bad:Bool)(w:World)(A:Bl b g o cap xs z bad w)(hg:g<w.heap.size)(hs:s.size<=281474976710656)(H:Gk w):
  Calls Tryz.prog 71 #[jf (some ⟨b,0,none⟩),jc s] w (WT b g o cap xs z bad w):=by
 have G:=Lh A;have M:=Lh H;have J:=A.lt;clear A H;go_enter Tryz.func71,Tryz.ntmps71;go_wp2_with fail;refine(S3 s w hs M.o).mono ?_;rintro e F ⟨n,v,rfl,hv,hb⟩;have D:=Lh (G.o.below hb hg);have E:=Lh (AO.of_below (b:=b) hb);have c2:=D.o.c2;have O:=D.o.f0 2;clear hb G;cases bad
 ·rcases hv with rfl | ⟨t,p,rfl⟩
  ·go_wp2_with fail;go_ret;refine⟨n,false,?_,fun h=>(by cases h),D.o.set2 false,E.o.trans (AN F b 2 _).but⟩;rfl
  ·go_wp2_with fail;go_ret;refine⟨n,true,?_,fun _=>rfl,D.o.set2 true,E.o.trans (AN F b 2 _).but⟩;rfl
 ·go_wp2_with fail;go_ret;refine⟨n,true,?_,fun _=>rfl,D.o.set2 true,E.o.trans (AN F b 2 _).but⟩;rfl
structure Left (M:Nat) (xs ys:List ByteArray):Prop where
 le:ys.length<=xs.length
 sz:(∀x∈xs,x.size<=M)-> ∀y∈ys,y.size<=M
theorem Left.refl(M:Nat)(xs:List ByteArray):Left M xs xs:=⟨xn _,fun h=>h⟩
theorem Left.trans{M:Nat}{xs ys zs:List ByteArray}(h:Left M xs ys)(k:Left M ys zs):Left M xs zs:=⟨xe k.le h.le,fun hx=>k.sz (h.sz hx)⟩
theorem Left.tail(M:Nat)(x:ByteArray)(xs:List ByteArray):Left M (x::xs) xs:=⟨Nat.le_succ _,fun h y hy=>h y (List.mem_cons_of_mem _ hy)⟩
theorem Pw(x k:ByteArray):(⟨(Lib.trimPrefix x.data.toList k.data.toList).toArray⟩:ByteArray).size<=x.size:=by
 rw[size_mk,Lib.size_eq];unfold Lib.trimPrefix;split
 ·rw[xc];omega
 ·exact xn _
def Wp(b g M:Nat)(xs:List ByteArray)(z:ByteArray)(bad:Bool)(w:World)(e:Ending)(w':World):Prop:=∃(r:ByteArray) (ys:List ByteArray) (c:Bool),e=jh (jc r)/\r.size<=M/\Left M xs ys/\(bad=true->c=true)/\(∃o' cap',Bl b g o' cap' ys z c w')/\B7 b w w'
theorem L5(b g o cap M:Nat)(xs:List ByteArray)(z k:ByteArray)(bad:Bool)(w:World)(A:Bl b g o cap xs z bad w)(J: ∀x∈xs,x.size<=M):
  Calls Tryz.prog 70 #[jf (some ⟨b,0,none⟩),jc k] w (Wp b g M xs z bad w):=by
 cases xs with
 | nil=>
  have G:=Lh A;have hs:=Lk b g o cap z k bad w A;have E:=Lh hs;have c2:=A.c2;have H:=A.f0 2;clear hs A;go_enter Tryz.func70,Tryz.ntmps70;go_wp2_with fail;refine E.o.mono ?_;rintro e F ⟨rfl,D⟩;rw[D];clear D F;go_wp2_with fail;go_ret;refine⟨⟨#[]⟩,[],true,?_,xh _,Left.refl _ _,fun _=>rfl,⟨_,_,G.o.set2 true⟩,AN w b 2 _⟩;rfl
 | cons x xs=>
  by_cases hp:Lib.hasPrefix x.data.toList k.data.toList=true
  ·refine(CW b g o cap x xs z k bad w A hp).mono ?_;rintro e w' ⟨rfl,hq,ho⟩;exact⟨_,xs,bad,rfl,xe (Pw x k) (J x (List.mem_cons_self ..)),Left.tail _ _ _,fun h=>h,hq,ho⟩
  ·have hp:Lib.hasPrefix x.data.toList k.data.toList=false:=by simpa using hp
   have G:=Lh A;have hs:=Dv b g o cap x xs z k bad w A;rw[hp]at hs;have E:=Lh hs;have c2:=A.c2;have H:=A.f0 2;clear hs A hp;go_enter Tryz.func70,Tryz.ntmps70;go_wp2_with fail;refine E.o.mono ?_;rintro e F ⟨rfl,D⟩;rw[D];clear D F;go_wp2_with fail;go_ret;refine⟨⟨#[]⟩,x::xs,true,?_,xh _,Left.refl _ _,fun _=>rfl,⟨_,_,G.o.set2 true⟩,AN w b 2 _⟩;rfl
end Go.Proofs.YtegjgjgoodekiaaGreatDoor
namespace Tt
theorem Q6(r:List UInt8)(a b c:Nat)(ha:a<8)(hb:b<4)(hc:c<4):wkGo 7 0 (byL ((16*a+4*b+c:Nat):Int) 7++59::r)=(((16*a+4*b+c:Nat):Int),59::r):=by
 match a,ha with
 | 0,_ | 1,_ | 2,_ | 3,_ | 4,_ | 5,_ | 6,_ | 7,_=>
  match b,hb with
  | 0,_ | 1,_ | 2,_ | 3,_=>
   match c,hc with
   | 0,_ | 1,_ | 2,_ | 3,_=>show _=_;kernel_rfl
theorem wk_back(r:List UInt8){n:Int}(A:0<=n)(w:n<128):wkGo 7 0 (byL n 7++59::r)=(n,59::r):=by
 have h:=Q6 r (n.toNat / 16) (n.toNat / 4 % 4) (n.toNat % 4) (by omega) (by omega) (by omega);rwa [show((16*(n.toNat / 16)+4*(n.toNat / 4 % 4)+n.toNat % 4:Nat):Int)=n from by omega]at h
end Tt
