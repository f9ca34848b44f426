/- strings.IndexAny and ContainsAny at the two bytes of a line's end, for every string. strings.IndexRune at a rune that is no ASCII, in two ASCII bytes. strings.IndexAny and ContainsAny at the two bytes of a line's end, for every string shorter than the model's bound. More plain facts on lines: how pieces are joined one by one, and how long they are. feed.Unfold: its contract. -/
import Derived.Test.YtegjgjgoodekiaaGreatDoorQk4
import Derived.Laws.Runes
import Derived.Laws.RangeAny
import Derived.Lib.OthersKept
import Derived.Deep.LoopGhost
import Derived.Outline
import Derived.WalkMore
import Derived.Test.YtegjgjgoodekiaaGreatDoorQk3
open Go.Value renaming int->ja,string->jc,slice->jd,bool->je,pointer->jf,tuple->jg
open Go.IntKind renaming i64->jb
open Go.Ending renaming returned->jh
open Go.Obj renaming cells->ji
open List renaming length_append->xa,getElem?_eq_some_iff->xb,getElem?_eq_getElem->xe,getElem?_map->xf,mem_of_getElem?->xi,flatten_cons->xj,length_nil->xk,length_map->xl
open Nat renaming le_refl->xc,zero_le->xg
open Go.World renaming ownsRow_nil->xd
open Array renaming getElem?_eq_some_iff->xh
set_option maxRecDepth 100000
set_option maxHeartbeats 40000000
-- CrLf
namespace Go.Proofs.YtegjgjgoodekiaaGreatDoor
open Go.RowKit
theorem LA(s:ByteArray)(pos:Nat):Utf8.valid ((Utf8.decode s pos).1:Nat)=true:=by
 have hb: ∀k,(s.get! (pos+k)).toNat<256:=fun k=>(s.get! (pos+k)).toNat_lt
 have D:=hb 0;have A:=hb 1;have E:=hb 2;have w:=hb 3;simp only[Utf8.decode];repeat' split
 all_goals simp_all [Utf8.runeError,Utf8.valid]
 all_goals omega
theorem Vw(s:ByteArray)(k:Nat)(h:k<s.size):s.get! k=s[k]'h:=by
 simp[ByteArray.get!,getElem!_pos,h];rfl
theorem Nh(s:ByteArray)(pos j:Nat)(D:1<=j)(A:j<(Utf8.decode s pos).2): ∃h:pos+j<s.size,128<=(s[pos+j]'h).toNat:=by
 have w: ∀k,(pos+k<s.size/\(s.get! (pos+k)).toNat / 64=2)-> ∃h:pos+k<s.size,128<=(s[pos+k]'h).toNat:=by
  rintro k ⟨a,b⟩;refine⟨a,?_⟩;rw[Vw s (pos+k) a]at b;omega
 simp only[Utf8.decode]at A;apply w
 repeat' split at A
 all_goals simp_all
 ·obtain rfl:j=1:=by omega
  simp_all
 ·obtain rfl | rfl:j=1∨j=2:=by omega
  all_goals simp_all
 ·obtain rfl | rfl | rfl:j=1∨j=2∨j=3:=by omega
  all_goals simp_all
theorem Ip(s:ByteArray)(ha: ∀(j:Nat) (h:j<s.size),(s[j]'h).toNat<128)(r:Nat)(E:r=65533)(w:World):
  Calls Tryz.prog 151 #[jc s,.int .i32 (r:Int)] w fun e w'=>e=jh (ja jb (-1))/\Below w.heap.size w w':=by
 have J:=Lh ha;clear ha;have G: ¬((r:Int)<128):=by omega
 have M:(0:Int)<=r:=by omega
 have hq:((r:Int)==65533)=true:=beq_iff_eq.2 (by omega);clear E;go_enter Tryz.func151,Tryz.ntmps151;go_wp2_with fail;go_loopg [5,6] s.size (fun g _ _ F=> ∃i:Nat,i+g=s.size/\F=w.iter s i)
 case atStart=>exact⟨0,by omega,rfl⟩
 case round=>
  obtain⟨i,H,rfl⟩:=hrel;cases gk with
  | zero=>
   obtain rfl:i=s.size:=by omega
   have D:=run_next_end (P:=Tryz.prog) w s s.size;go_wp2_with fail;go_ret;exact⟨rfl,(Below.refl _ w).alloc (xc _) _⟩
  | succ g=>
   have hi:i<s.size:=by omega
   have hx:=J.o i hi;obtain⟨x,A⟩: ∃x:UInt8,s[i]'hi=x:=⟨_,rfl⟩
   rw[A]at hx;have D:=fun ty=>run_next_ascii (P:=Tryz.prog) w s i ty hi (by rw[A];exact hx)
   rw[A]at D;clear A;have hq2:((x.toNat:Int)==65533)=false:=beq_eq_false_iff_ne.2 (by omega);go_wp2_with fail;go_roundg g
   case measure=>omega
   case rel=>exact⟨i+1,by omega,rfl⟩
end Go.Proofs.YtegjgjgoodekiaaGreatDoor
-- CrLf2
namespace Go.Proofs.YtegjgjgoodekiaaGreatDoor
open Go.RowKit
theorem Gp(r:Nat)(hv:Utf8.valid (r:Int)=true):Lib.validRune (r:Int)=true:=by
 unfold Lib.validRune;unfold Utf8.valid at hv;simp at hv ⊢;omega
theorem Jl(s E:ByteArray)(hs:s.size<=2)(r:Nat)(hr:128<=r)(F:r<=2147483647)(hn: ¬r=65533)(hv:Lib.validRune (r:Int)=true)(R:Utf8.encode (r:Int)=E)(O:3<=E.size)(M:E.size<=4)(w:World):
  Calls Tryz.prog 151 #[jc s,.int .i32 (r:Int)] w fun e w'=>e=jh (ja jb (-1))/\Below w.heap.size w w':=by
 have G: ¬((r:Int)<128):=by omega
 have J:(0:Int)<=r:=by omega
 have hq:((r:Int)==65533)=false:=beq_eq_false_iff_ne.2 (by omega);have A:=Lh hv;clear hn hv;go_enter Tryz.func151,Tryz.ntmps151;go_wp2_with fail;refine(Tryz.utf8_ValidRune _ _).mono ?_;rintro e w' ⟨rfl,rfl⟩;rw[A.o];go_wp2_with fail;go_step3
 go_wp2_with fail;go_loopg [9,10] 0 (fun _ a b D=>a=ja jb ((E.size:Int) - 1)/\b=ja jb 0/\D=w')
 case atStart=>exact⟨rfl,rfl,rfl⟩
 case round=>
  obtain⟨rfl,rfl,rfl⟩:=hrel;have H: ¬((E.size:Int) - 1<(s.size:Int)):=by omega
  go_wp2_with fail;go_ret;exact⟨rfl,Below.refl _ _⟩
theorem Kb(s E:ByteArray)(hs:s.size<=2)(Z:2<=s.size)(r:Nat)(hr:128<=r)(V:r<=2147483647)(hn: ¬r=65533)(hv:Lib.validRune (r:Int)=true)(hE:Utf8.encode (r:Int)=E)(h3:E.size=2)(w:World)
  (x y:UInt8) (hx: ∀h:1<s.size,s[1]'h=x) (hy: ∀h:1<E.size,E[1]'h=y) (hne:((x.toNat:Int) !=(y.toNat:Int))=true):
  Calls Tryz.prog 151 #[jc s,.int .i32 (r:Int)] w fun e w'=>e=jh (ja jb (-1))/\ ∃n,w'=w.drewN n:=by
 have aa: ¬((r:Int)<128):=by omega
 have ae:(0:Int)<=r:=by omega
 have hq:((r:Int)==65533)=false:=beq_eq_false_iff_ne.2 (by omega);have HV:=Lh hv;have X:=Lh hx;have HY:=Lh hy;have R:=Lh hne;clear hn hv hx hy hne;go_enter Tryz.func151,Tryz.ntmps151;go_wp2_with fail;refine(Tryz.utf8_ValidRune _ _).mono ?_;rintro e w' ⟨rfl,rfl⟩;rw[HV.o];go_wp2_with fail;go_step3
 go_wp2_with fail;go_loopg [9,10] 0 (fun _ a b wx=>a=ja jb 1/\b=ja jb 0/\wx=w')
 case atStart=>exact⟨rfl,rfl,rfl⟩
 case round=>
  obtain⟨rfl,rfl,rfl⟩:=hrel;have J:(1:Int)<(s.size:Int):=by omega
  go_wp2_with fail;go_step3
  go_wp2_with fail;have D:=X.o (by omega);have H:=HY.o (by omega);have hne:=R.o;have ab:1<s.size:=by omega
  have O:(1:Int)<(E.size:Int):=by omega
  have ac:1<E.size:=by omega
  go_quiet (fail)
  go_wp2_with fail;have M:IntKind.i64.wrap (2:Int)=2:=by rw[IntKind.wrap_i64];rfl
  clear D hne;have F:(2:Int)<=(s.size:Int):=by omega
  generalize A:wr.drewN nq=w2;have Y:=Lh A;clear A;have U: ∀W,Calls Tryz.prog 179 #[jc (s.extract 2 s.size),.int .u8 (y.toNat:Int)] W fun e w'=>e=jh (ja jb (-1))/\w'=W:=fun W=>by
   have h:=Tryz.strings_IndexByte (s.extract 2 s.size) (y.toNat:Int) W;have T:Lib.indexByte (s.extract 2 s.size).data.toList ((y.toNat:Int)).toNat.toUInt8= -1:=by
    rw[Lib.extract_to_end,List.drop_eq_nil_of_le (by rw[<-Lib.size_eq];omega)];rfl
   rw[T]at h;exact h
  have G:=Lh U;clear U;go_quiet ((go_at_call 179;exact Calls.quiet_of_same (G.o _)));clear M O F J H hE;go_wp2_with fail;rw[Exit.noGoto_ret];try simp only[Exit.inBlock,Exit.then]
  rw[Exit.noGoto_ret];go_ret;exact⟨rfl,_,by rw[<-Y.o,World.drewN_drewN]⟩
end Go.Proofs.YtegjgjgoodekiaaGreatDoor
-- CrLf3
namespace Go.Proofs.YtegjgjgoodekiaaGreatDoor
open Go.RowKit
theorem Kc(D:ByteArray)(hch:D.data.toList=[13,10])(s:ByteArray)(pos:Nat)(h:pos<s.size)(ha:128<=(s[pos]'h).toNat)(w:World):
  Calls Tryz.prog 151 #[jc D,.int .i32 ((Utf8.decode s pos).1:Int)] w fun e w'=>e=jh (ja jb (-1))/\Below w.heap.size w w':=by
 have M:D.size=2:=by rw[Lib.size_eq,hch];rfl
 have hv:=LA s pos;have A:=(decode_high s pos h ha).1;have hle:=decode_le s pos;generalize (Utf8.decode s pos).1=r at hv A hle;have hg: ∀(j:Nat) (hj:j<D.size),(D[j]'hj).toNat<128/\(j=1->D[j]'hj=10):=by
  intro j hj;have e:=Lib.data_getElem? D j hj;rw[hch]at e;have:j=0∨j=1:=by omega
  rcases this with rfl | rfl
  ·simp at e;rw[<-e];exact⟨by decide,by omega⟩
  ·simp at e;rw[<-e];exact⟨by decide,fun _=>rfl⟩
 by_cases G:r=65533
 ·exact Ip D (fun j hj=>(hg j hj).1) r G w
 ·have H:=encode_facts (r:Int) hv (by omega);obtain⟨E,F⟩: ∃E,Utf8.encode (r:Int)=E:=⟨_,rfl⟩
  rw[F]at H;obtain⟨e1,e2,R⟩:=H;by_cases O:E.size=2
  ·have hl:1<E.size:=by omega
   have J: ∀(k:Nat) (hk:k<E.size),k=E.size - 1->128<=(E[k]'hk).toNat:=by
    intro k hk e;subst e;exact R hk
   have T:=J 1 hl (by omega);refine(Kb D E (by omega) (by omega) r A hle G (Gp r hv) F O w 10 (E[1]'hl) (fun hh=>(hg 1 hh).2 rfl) (fun _=>rfl) ?_).mono ?_
   ·rw[bne_iff_ne];intro e;have:((10:UInt8).toNat:Int)=10:=rfl;omega
   ·rintro e w' ⟨rfl,n,rfl⟩;exact⟨rfl,rfl,rfl,rfl,by simp,fun _ _=>rfl⟩
  ·exact Jl D E (by omega) r A hle G (Gp r hv) F (by omega) e2 w
def Tj(s:ByteArray)(i:Nat):Prop:=∀j c,j<i->s.data.toList[j]?=some c->c≠13/\c≠10
theorem Tj.clean{s:ByteArray}(h:Tj s s.size):Tt.Clean s.data.toList:=by
 intro c hc;obtain⟨j,hj,e⟩:=List.mem_iff_getElem.1 hc;exact h j c (by rw[Lib.size_eq];exact hj) (by rw[xe hj,e])
theorem Qn{s:ByteArray}{i:Nat}{c:UInt8}(h:s.data.toList[i]?=some c)(hc:c=13∨c=10): ¬Tt.Clean s.data.toList:=by
 intro hcl;have:=hcl c (xi h);rcases hc with e | e
 ·exact this.1 e
 ·exact this.2 e
theorem Jm(w:ByteArray)(hch:w.data.toList=[13,10])(c:UInt8):(c=13∨c=10->0<=Lib.indexByte w.data.toList c)/\(¬(c=13∨c=10)->Lib.indexByte w.data.toList c<0):=by
 have h:=Lib.contains_iff_indexByte w.data.toList c;rw[hch]at h ⊢;constructor
 ·intro hc;have:[13,10].contains c=true:=by simp;exact hc
  rw[this]at h;exact of_decide_eq_true h.symm
 ·intro hc;have:[13,10].contains c=false:=by simpa using hc
  rw[this]at h;have:=of_decide_eq_false h.symm;omega
theorem Jn(X:ByteArray)(hch:X.data.toList=[13,10])(s:ByteArray)(h8:s.size<=8)(w:World):
  Calls Tryz.prog 124 #[jc s,jc X] w fun e w'=> ∃v:Int,e=jh (ja jb v)/\(Tt.Clean s.data.toList->v<0)/\(¬Tt.Clean s.data.toList->0<=v)/\Below w.heap.size w w':=by
 have M:X.size=2:=by rw[Lib.size_eq,hch];rfl
 have HB:=Lh (Jm X hch);have ah:=Lh hch;have af:X.toList.isEmpty=false:=by rw[Lib.toList_data,hch];rfl
 have ak:((X.size:Int)==1)=false:=beq_eq_false_iff_ne.2 (by omega);have ae:decide ((8:Int)<(s.size:Int))=false:=decide_eq_false (by omega);clear hch M;go_enter Tryz.func124,Tryz.ntmps124;go_wp2_with (go_at_call 152;refine(Tryz.strings_shouldUseASCIISet _ _).mono ?_;rintro e w' ⟨rfl,U⟩;rw[U,ae];clear U);clear af ak ae;go_loopw [9,10] (fun _ _ wr=> ∃pos:Nat,pos<=s.size/\wr.heap[w.heap.size]?=some (.stringIter s pos)/\Below w.heap.size w wr/\Tj s pos) (fun _ _ wr=>s.size - wr.iterPos w.heap.size)
 case atStart=>
  exact⟨0,xg _,World.iter_heap w s 0,(Below.refl _ w).alloc (xc _) _,fun j c hj=>absurd hj (Nat.not_lt_zero _)⟩
 case round=>
  obtain⟨pos,hp,E,ab,aa⟩:=hrel;have Z:=Lh aa;clear aa;have am:w.heap.size+1<=wr.heap.size:=(xh.1 E).1;by_cases A:pos<s.size
  ·have ar:=decode_le s pos;have H:=Lib.iterAt_heap wr w.heap.size s pos (pos+(Utf8.decode s pos).2) E;have G:=Lib.below_iterAt ab (k:=w.heap.size) (xc _) s (pos+(Utf8.decode s pos).2);have M:w.heap.size+1<=(wr.iterAt w.heap.size s (pos+(Utf8.decode s pos).2)).heap.size:=by rw[Lib.iterAt_size];omega
   obtain⟨c,hx⟩: ∃c:UInt8,s[pos]'A=c:=⟨_,rfl⟩
   have hcl:=Lib.data_getElem? s pos A;rw[hx]at hcl;have HC:=Lh hcl;clear hcl;by_cases ha:c.toNat<128
   ·have O:=decode_ascii s pos A (by rw[hx];exact ha);rw[hx]at O;rw[O]at H G M;have ac: ∀ty,(Instr.next (jf (some ⟨w.heap.size,0,none⟩)) true ty).run Tryz.prog wr=.ok (jg #[je true,ja jb pos,.int .i32 (c.toNat:Int)]) (wr.iterAt w.heap.size s (pos+1)):=fun ty=>by
     have:=Lib.run_next_ascii_at (P:=Tryz.prog) wr w.heap.size s pos ty E A (by rw[hx];exact ha);rw[this,hx]
    clear hx O;have R:((c.toNat:Int)).toNat.toUInt8=c:=by simp
    by_cases J:c=13∨c=10
    ·have ap:=(HB.o c).1 J;have T:=Lh (Qn HC.o J);clear J;go_wp2_with (go_at_call 151;refine(Tryz.strings_IndexRune_ascii _ _ _ (by omega) (by omega)).mono ?_;rintro e w' ⟨rfl,U⟩;rw[U,R];clear U);go_ret;exact⟨_,rfl,fun h=>absurd h T.o,fun _=>by omega,G⟩
    ·have al:=(HB.o c).2 J;have T:=Lh J;clear J;go_wp2_with (go_at_call 151;refine(Tryz.strings_IndexRune_ascii _ _ _ (by omega) (by omega)).mono ?_;rintro e w' ⟨rfl,U⟩;rw[U,R];clear U);go_roundw
     case rel=>
      refine⟨pos+1,by omega,H,G,?_⟩;intro j c' hj hc';by_cases e:j=pos
      ·subst e;rw[HC.o]at hc';cases hc';exact⟨fun e=>T.o (.inl e),fun e=>T.o (.inr e)⟩
      ·exact Z.o j c' (by omega) hc'
     case measure=>simp only[World.iterPos,H,E];omega
   ·have aq:=(decode_high s pos A (by rw[hx];omega)).2;have F:=Nh s pos;have ai:=Lh F;have aj:=Lh (fun W=>Kc X ah.o s pos A (by rw[hx];omega) W);have ac: ∀ty,(Instr.next (jf (some ⟨w.heap.size,0,none⟩)) true ty).run Tryz.prog wr=_:=fun ty=>Lib.run_next_any_at (P:=Tryz.prog) wr w.heap.size s pos ty E A
    have Y:pos+(Utf8.decode s pos).2<=s.size:=by
     by_cases e:(Utf8.decode s pos).2=1
     ·omega
     ·obtain⟨h,_⟩:=F ((Utf8.decode s pos).2 - 1) (by omega) (by omega);omega
    clear F hx;go_wp2_with fail;refine(aj.o _).mono ?_;rintro e w2 ⟨rfl,ag⟩;have V:w2.heap[w.heap.size]?=some (.stringIter s (pos+(Utf8.decode s pos).2)):=(ag.block _ (by omega)).trans H;go_wp2_with fail;go_roundw
    case rel=>
     refine⟨pos+(Utf8.decode s pos).2,Y,V,G.trans (ag.mono (by omega)),?_⟩;intro j c' hj hc';by_cases e:j<pos
     ·exact Z.o j c' e hc'
     ·by_cases e2:j=pos
      ·subst e2;rw[HC.o]at hc';cases hc';exact⟨fun e=>by subst e;simp at ha,fun e=>by subst e;simp at ha⟩
      ·obtain⟨hh,D⟩:=ai.o (j - pos) (by omega) (by omega);have e3:pos+(j - pos)=j:=by omega
       simp only[e3]at hh D;have:=Lib.data_getElem? s j hh;rw[this]at hc';cases hc';exact⟨fun e=>by rw[e]at D;simp at D,fun e=>by rw[e]at D;simp at D⟩
    case measure=>simp only[World.iterPos,V,E];omega
  ·obtain rfl:pos=s.size:=by omega
   have ac: ∀ty,(Instr.next (jf (some ⟨w.heap.size,0,none⟩)) true ty).run Tryz.prog wr=_:=fun ty=>Lib.run_next_end_at (P:=Tryz.prog) wr w.heap.size s s.size ty E A
   go_wp2_with fail;go_ret;exact⟨-1,rfl,fun _=>by omega,fun h=>absurd Z.o.clean h,ab⟩
theorem indexAny_ge(w:List UInt8): ∀l:List UInt8,(Tt.Clean l->w=[13,10]->Lib.indexAny l w<0)/\(¬Tt.Clean l->w=[13,10]->0<=Lib.indexAny l w)
 | []=>⟨fun _ _=>by unfold Lib.indexAny;decide,fun h=>absurd (by simp[Tt.Clean]) h⟩
 | b::l=>by
  have ih:=indexAny_ge w l;constructor
  ·intro h e;have hb:=h b (by simp);have hl:Tt.Clean l:=fun x hx=>h x (by simp[hx])
   have A:=ih.1 hl e;have D:=Lib.indexAny_ge w l;have hc:w.contains b=false:=by subst e;simp[hb]
   rw[Lib.indexAny,hc];have:Lib.indexAny l w= -1:=by omega
   rw[this];decide
  ·intro h e;rw[Lib.indexAny];by_cases hc:w.contains b=true
   ·rw[if_pos hc];exact Int.le_refl _
   ·rw[if_neg hc];have hb:b≠13/\b≠10:=by subst e;simpa using hc
    have hl: ¬Tt.Clean l:=fun hl=>h (fun x hx=>by
     rcases List.mem_cons.1 hx with rfl | hx
     ·exact hb
     ·exact hl x hx)
    have A:=ih.2 hl e;rw[if_neg (fun e=>by have:=beq_iff_eq.1 e;omega)];omega
theorem Ey(D:ByteArray)(hch:D.data.toList=[13,10])(s:ByteArray)(hs:s.size<4294967281)(w:World):
  Calls Tryz.prog 97 #[jc s,jc D] w fun e w'=>e=jh (je (!decide (Tt.Clean s.data.toList)))/\Below w.heap.size w w':=by
 have G:D.size=2:=by rw[Lib.size_eq,hch];rfl
 have A:Calls Tryz.prog 124 #[jc s,jc D] w fun e w'=> ∃v:Int,e=jh (ja jb v)/\(Tt.Clean s.data.toList->v<0)/\(¬Tt.Clean s.data.toList->0<=v)/\Below w.heap.size w w':=by
  by_cases O:s.size<=8
  ·exact Jn D hch s O w
  ·refine(Tryz.strings_IndexAny_long ?_ s D w (by omega) (by omega) hs (by omega) ?_).mono ?_
   ·intro w;kernel_rfl
   ·intro j b hb;rw[hch]at hb;have:j=0∨j=1:=by
     have:=(xb.1 hb).1;simp at this;omega
    rcases this with rfl | rfl<;>(simp at hb;subst hb;decide)
   ·rintro e w' ⟨rfl,rfl⟩;have:=indexAny_ge D.data.toList s.data.toList;exact⟨_,rfl,fun h=>this.1 h hch,fun h=>this.2 h hch,((Below.refl _ w).alloc (xc _) _).alloc (by simp) _⟩
 have M:=Lh A;clear A hch G;by_cases hcl:Tt.Clean s.data.toList
 ·have J:=Lh (show(!decide (Tt.Clean s.data.toList))=false by simp[hcl]);have E:=Lh hcl;clear hcl;go_enter Tryz.func97,Tryz.ntmps97;go_wp2_with fail;refine M.o.mono ?_;rintro e R ⟨v,rfl,F,_,hb⟩;have H:=F E.o;have hv:decide ((0:Int)<=v)=false:=decide_eq_false (by omega);clear F;go_wp2_with fail;go_ret;rw[J.o];exact⟨rfl,hb⟩
 ·have J:=Lh (show(!decide (Tt.Clean s.data.toList))=true by simp[hcl]);have E:=Lh hcl;clear hcl;go_enter Tryz.func97,Tryz.ntmps97;go_wp2_with fail;refine M.o.mono ?_;rintro e R ⟨v,rfl,_,F,hb⟩;have H:=F E.o;have hv:decide ((0:Int)<=v)=true:=decide_eq_true (by omega);clear F;go_wp2_with fail;go_ret;rw[J.o];exact⟨rfl,hb⟩
end Go.Proofs.YtegjgjgoodekiaaGreatDoor
-- Bytes2
namespace Tt
theorem Dc: ∀(a b w:List (List UInt8)),joinL w (a++b)=(joinL w a).bind fun o=>joinL o b
 | [],b,w=>by simp[joinL]
 | l::a,b,w=>by
  rw[List.cons_append,joinL,joinL];split
  ·split
   ·rfl
   ·exact Dc a b _
  ·exact Dc a b _
theorem KL(w:List (List UInt8))(p:List UInt8):joinL w [p]=if begins p then(if w=[]then none else some (w.dropLast++[w.getLastD []++p.tail]))else some (w++[p]):=by
 rw[joinL];split
 ·split
  ·rfl
  ·simp[joinL]
 ·simp[joinL]
theorem joinL_next(D:List (List UInt8))(k:Nat)(p:List UInt8)(w:List (List UInt8))(A:List UInt8)(hp:D[k]?=some p)(h:joinL [] (D.take k)=some (w++[A])):
  joinL [] (D.take (k+1))=some (if begins p then w++[A++p.tail]else(w++[A])++[p]):=by
 obtain⟨E,F⟩:=xb.1 hp;rw[List.take_succ_eq_append_getElem E,F,Dc,h];show joinL (w++[A]) [p]=_
 rw[KL];split
 ·rw[if_neg (by simp)];simp
 ·rfl
theorem joinL_first(w:List (List UInt8))(p:List UInt8)(hp:w[0]?=some p):joinL [] (w.take 1)=if begins p then none else some [p]:=by
 cases w with
 | nil=>simp at hp
 | cons a t=>
  simp at hp;subst hp;show joinL [] [a]=_
  rw[KL];simp
theorem MQ(w:List (List UInt8))(k:Nat)(h:joinL [] (w.take k)=none):joinL [] w=none:=by
 rw[<-List.take_append_drop k w,Dc,h];rfl
theorem Fe: ∀(ls:List (List UInt8)),ls≠[]->(BD ls).length+2=ls.flatten.length+2*ls.length
 | [],h=>absurd rfl h
 | [l],_=>by simp[BD]
 | l::m::r,_=>by
  have:=Fe (m::r) (by simp);rw[Df,xa,xj,xa];simp only[crlf,xa,List.length_cons,xk]at this ⊢;omega
theorem split_length(s:List UInt8):(Go.Lib.split s [13,10]).flatten.length<=s.length/\(Go.Lib.split s [13,10]).length<=s.length+1:=by
 obtain⟨A,w⟩:=EL s.length s (xc _);have D:=Fe _ w;rw[A]at D;have:1<=(Go.Lib.split s [13,10]).length:=List.length_pos_iff.2 w;omega
theorem flatten_drop(w:List (List UInt8))(k:Nat)(p:List UInt8)(hp:w[k]?=some p):(w.drop k).flatten.length=p.length+(w.drop (k+1)).flatten.length:=by
 obtain⟨A,D⟩:=xb.1 hp;rw[List.drop_eq_getElem_cons A,D,xj,xa]
theorem begins_cons(c:UInt8)(r:List UInt8):begins (c::r)=(c==32 || c==9):=rfl
theorem unf_all(text t:List UInt8)(h:text=t++[13,10])(hc: ∀(j:Nat) p,(Go.Lib.split t [13,10])[j]?=some p->Clean p):unf text=joinL [] (Go.Lib.split t [13,10]):=by
 rw[GU text t h,if_pos];intro l hl;obtain⟨j,hj,e⟩:=List.mem_iff_getElem.1 hl;exact hc j l (by rw[xe hj,e])
theorem unf_not(text t:List UInt8)(h:text=t++[13,10])(j:Nat)(p:List UInt8)(hp:(Go.Lib.split t [13,10])[j]?=some p)(hc: ¬Clean p):unf text=none:=by
 rw[GU text t h,if_neg];intro ha;exact hc (ha p (xi hp))
theorem unf_stops(text t:List UInt8)(h:text=t++[13,10])(k:Nat)(hj:joinL [] ((Go.Lib.split t [13,10]).take k)=none):unf text=none:=by
 rw[GU text t h];split
 ·exact MQ _ k hj
 ·rfl
theorem suffix_cut(text:List UInt8)(h:Go.Lib.hasSuffix text [13,10]=true):text=Go.Lib.trimSuffix text [13,10]++[13,10]:=by
 unfold Go.Lib.trimSuffix;rw[if_pos h];unfold Go.Lib.hasSuffix at h;rw[List.isSuffixOf_iff_suffix]at h;obtain⟨t,rfl⟩:=h;simp
end Tt
-- Unfold
namespace Go.Proofs.YtegjgjgoodekiaaGreatDoor
open Go.RowKit
theorem Dn:(Tryz.prog.info? 9).map (fun i=>(i.zero,i.size,i.bytes))=some (some (jc ⟨#[]⟩),1,16):=by kernel_rfl
def Tg(B:Nat)(text:List UInt8)(e:Ending)(w:World):Prop:=
 (Tt.unf text=none/\e=jh (jg #[jd none 0 0,je false]))∨
 ∃(g:Nat) (cap:Nat) (xs:List ByteArray),Tt.unf text=some (xs.map (·.data.toList))/\e=jh (jg #[jd (some ⟨g,0,none⟩) xs.length cap,je true])/\BW w (some ⟨g,0,none⟩) xs/\B<=g/\g<w.heap.size/\xs.length<=cap/\xs.length<=text.length+1/\ ∃t cs,w.heap[g]?=some (ji cs t (0,0))
def V3(ls:List (List UInt8)):Nat:=ls.flatten.length
theorem AD{w w':World}{B:Nat}{e:TypeId}{size:Nat}{v:Value}{n:Nat}{xs:List Value}(h:w.ownsRow B e size v n xs)(ho:Below w.heap.size w w'):w'.ownsRow B e size v n xs:=by
 refine⟨h.1,?_⟩;rcases h.2 with A | ⟨g,cap,cur,r1,r2,r3,r4⟩
 ·exact .inl A
 ·exact .inr ⟨g,cap,cur,r1,r2,(ho.block g (xh.1 r3).1).trans r3,r4⟩
theorem Nk:(⟨#[13,10]⟩:ByteArray).data.toList=[13,10]:=rfl
theorem pieces(t:ByteArray):(Lib.splitB ⟨#[13,10]⟩ 0 (Lib.countB t ⟨#[13,10]⟩) t).map (·.data.toList)=Lib.split t.data.toList [13,10]:=by
 rw[Lib.splitB_data];rfl
theorem F3{w:World}{B n m:Nat}{v u:Value}{xs ys:List Value}(h:w.ownsRow B 9 1 v n xs)(k:w.ownsRow B 5 1 u m ys):v.ownBlock=none∨v.ownBlock≠u.ownBlock:=by
 rcases h.2 with⟨rfl,_⟩ | ⟨g,cap,cur,rfl,_,hg,_⟩
 ·exact .inl rfl
 ·right
  rcases k.2 with⟨rfl,_⟩ | ⟨g',cap',cur',rfl,_,hg',_⟩
  ·simp[Value.ownBlock]
  ·intro e;simp only[Value.ownBlock,Option.some.injEq]at e;subst e;rw[hg]at hg';simp at hg'
theorem Mm{w:World}{B n m:Nat}{v u:Value}{xs ys:List Value}(h:w.ownsRow B 9 1 v n xs)(k:w.ownsRow B 5 1 u m ys):u.ownBlock=none∨u.ownBlock≠v.ownBlock:=by
 rcases F3 h k with e | e
 ·by_cases A:u.ownBlock=none
  ·exact .inl A
  ·exact .inr (by rw[e];exact A)
 ·exact .inr (fun e2=>e e2.symm)
theorem NQ{w:World}{B n:Nat}{v:Value}{xs:List Value}(h:w.ownsRow B 5 1 v n xs):
  ∃v0,(∀W,(Instr.slice 88 v none (some (ja jb 0)) none).run Tryz.prog W=.ok v0 W)/\(∀W:World,W.ownsRow B 5 1 v n xs->W.ownsRow B 5 1 v0 0 [])/\v0.ownBlock=v.ownBlock:=by
 rcases h.2 with⟨rfl,_⟩ | ⟨g,cap,cur,rfl,_⟩
 ·refine⟨jd none 0 0,fun W=>?_,fun W _=>xd _ _ _ _,rfl⟩;rw[run_slice_h W 88 none 0 0 Tryz.underlying88 .i64 0 (by omega) (by omega)];simp[sliced,go_sem]
 ·refine⟨jd (some ⟨g,0,none⟩) 0 cap,fun W=>?_,fun W A=>?_,rfl⟩
  ·rw[run_slice_h W 88 (some ⟨g,0,none⟩) n cap Tryz.underlying88 .i64 0 (by omega) (by omega)];simp[sliced,go_sem,Addr.add]
  ·rcases A.2 with⟨h1,_⟩ | ⟨g',cap',cur',h1,h2,h3,h4,h5,h6,_⟩
   ·cases h1
   ·cases h1;exact⟨rfl,.inr ⟨g,cap,cur',rfl,h2,h3,xg _,h5,h6,by simp⟩⟩
theorem Bq(w:World)(v:Value)(e:TypeId): ∀(j:Nat) (u:Value),[v][j]?=some u->(w.alloc (ji #[v] e)).cell? ((⟨w.heap.size,0,none⟩:Addr).add j)=some u:=by
 intro j u hj;match j,hj with
 | 0,hj=>
  simp at hj;subst hj;simp only[Addr.add,if_true];rw[World.cell?_alloc_at _ _ _ _ rfl];rfl
theorem FT(s:ByteArray)(hs:s.size<4294967281)(w:World)(m:Int)(hm:w.cell? ⟨0,0,none⟩=some (ja jb m)):
  Calls Tryz.prog 66 #[jc s] w fun e w'=>Tg w.heap.size s.data.toList e w'/\Below w.heap.size w w':=by
 by_cases X:Lib.hasSuffix s.data.toList [13,10]=true
 ·have HT:=Lh (Tt.suffix_cut _ X);have az:=Lh X;obtain⟨t,ht⟩: ∃t:ByteArray,t=⟨(Lib.trimSuffix s.data.toList [13,10]).toArray⟩:=⟨_,rfl⟩
  have bu:t.size<=s.size:=by
   rw[Lib.size_eq,Lib.size_eq,ht];exact Lib.trimSuffix_le _ _
  have aD:=Lh ht;have ai:=Lh (pieces t);have aJ:=Lib.splitB_all ⟨#[13,10]⟩ (by decide) 0 (Lib.countB t ⟨#[13,10]⟩) t rfl;obtain⟨V,ah⟩: ∃V,V=Lib.splitB ⟨#[13,10]⟩ 0 (Lib.countB t ⟨#[13,10]⟩) t:=⟨_,rfl⟩
  rw[<-ah]at aJ;have HP:=Lh ah;clear X ht ah;go_enter Tryz.func66,Tryz.ntmps66;go_wp2_with fail;refine(Tryz.strings_CutSuffix _ _ _ (by omega)).mono ?_;rintro e w' ⟨rfl,hw⟩;rw[hw];clear hw w';rw[Nk,az.o,<-aD.o];go_wp2_with fail;refine(Tryz.strings_Split t ⟨#[13,10]⟩ m w (by omega) hm (by decide)).mono ?_;rintro e w1 ⟨rfl,hw⟩;rw[<-aJ];rw[<-HP.o]at hw;subst hw;obtain⟨W,hW⟩: ∃W,W=w.alloc (Obj.cells (List.map Value.string V).toArray 9):=⟨_,rfl⟩
  have ag: ∀(j:Nat) x,V[j]?=some x->W.cell? ⟨w.heap.size,j,none⟩=some (jc x):=by
   intro j x hx;rw[hW,World.cell?_alloc_at _ _ _ _ rfl];simp[hx]
  have aO:Below w.heap.size w W:=by rw[hW];exact(Below.refl _ w).alloc (xc _) _
  have bp:w.heap.size+1<=W.heap.size:=by rw[hW];simp
  rw[<-hW];have HW:=Lh hW;have a8:=Lh ag;have aA:V.length<=t.size+1/\V3 ((V.map (·.data.toList)).drop 0)<=t.size:=by
   have:=Tt.split_length t.data.toList;rw[<-ai.o,<-HP.o,<-Lib.size_eq,xl]at this;exact⟨this.2,this.1⟩
  obtain⟨aA,aH⟩:=aA;rw[<-HP.o]at ai;have aS:Hid (s.data.toList=t.data.toList++[13,10]):=by
   have h1:=HT.o;have h2:t.data.toList=Lib.trimSuffix s.data.toList [13,10]:=by rw[aD.o]
   exact h1.trans (by rw[h2])
  clear hW ag HT aD az;have bs:1<=V.length:=by omega
  clear aJ;have br:=HP;clear HP;go_wp2_with fail;go_loopw [5,6,19] (fun ov bv i wr=> ∃(k:Nat) (H:List ByteArray) (U:List UInt8),k<=V.length/\i=ja jb k/\wr.ownsRow (w.heap.size+1) 9 1 ov H.length (H.map Value.string)/\wr.ownsRow (w.heap.size+1) 5 1 bv U.length (Lib.byteCells U)/\Below (w.heap.size+1) W wr/\
   H.length<=k/\U.length+V3 ((V.map (·.data.toList)).drop k)<=t.size/\
   Hid (∀(j:Nat) p,j<k->V[j]?=some p->Tt.Clean p.data.toList)/\Hid (k=0->H=[]/\ov=jd none 0 0/\bv=jd none 0 0)/\Hid (0<k->Tt.joinL [] ((V.map (·.data.toList)).take k)=some (H.map (·.data.toList)++[U])/\H.length<k)) (fun _ _ i _=>V.length - (intOf i).toNat)
  case atStart=>exact⟨0,[],[],xg _,rfl,xd _ _ _ _,xd _ _ _ _,Below.refl _ _,xg _,by rw[xk,Nat.zero_add];exact aH,fun j p hj=>absurd hj (Nat.not_lt_zero _),fun _=>⟨rfl,rfl,rfl⟩,fun h=>absurd h (Nat.lt_irrefl _)⟩
  case round=>
   obtain⟨k,H,U,hk,rfl,Z,ac,ab,bq,aT,aw,H0,HJ⟩:=hrel;have bt:=ab.size;by_cases aZ:k<V.length
   ·obtain⟨p,hp⟩: ∃p,V[k]?=some p:=⟨_,xe aZ⟩
    have bc:wr.cell? ⟨w.heap.size,k,none⟩=some (jc p):=(ab.cell (p:=⟨w.heap.size,k,none⟩) (by simp)).trans (a8.o k p hp);have aP:(V.map (·.data.toList))[k]?=some p.data.toList:=by rw[xf,hp];rfl
    have aV:=Tt.flatten_drop _ _ _ aP;have bo:U.length+(p.size+V3 ((V.map (·.data.toList)).drop (k+1)))<=t.size:=by
     have e1:V3 ((V.map (·.data.toList)).drop k)=p.size+V3 ((V.map (·.data.toList)).drop (k+1)):=by
      unfold V3;rw[aV,<-Lib.size_eq]
     rw[<-e1];exact aT
    clear aT;have al:=Lh aP;have aE:=Lh hp;clear hp aP aV;by_cases hcl:Tt.Clean p.data.toList
    ·have HD:=Lh (show(!decide (Tt.Clean p.data.toList))=false by simp[hcl]);have aC:=Lh hcl;clear hcl;go_wp2_with fail;refine(Ey _ rfl p (by omega) _).mono ?_;rintro e w2 ⟨rfl,ak⟩;rw[HD.o];have G:w2.ownsRow (w.heap.size+1) 9 1 u5 H.length (H.map Value.string):=AD Z ak;have F:w2.ownsRow (w.heap.size+1) 5 1 u6 U.length (Lib.byteCells U):=AD ac ak;have O:Below (w.heap.size+1) W w2:=ab.trans (ak.mono (by omega));have bm:=O.size;clear Z ac ab ak bc;by_cases R:Tt.begins p.data.toList=true
     ·obtain⟨c,tl,M⟩: ∃c tl,p.data.toList=c::tl:=by
       cases h:p.data.toList with
       | nil=>rw[h]at R;cases R
       | cons c tl=>exact⟨c,tl,rfl⟩
      have aR:1<=p.size:=by rw[Lib.size_eq,M];simp
      have hx:p[0]'(by omega)=c:=by
       have:=Lib.data_getElem? p 0 (by omega);rw[M]at this;simpa using this.symm
      have af:((c.toNat:Int)==32)=true∨(((c.toNat:Int)==32)=false/\((c.toNat:Int)==9)=true):=by
       rw[M,Tt.begins_cons,Bool.or_eq_true,beq_iff_eq,beq_iff_eq]at R;by_cases e:c=32
       ·exact .inl (BQ c 32 32 rfl e)
       ·exact .inr ⟨AQ c 32 32 rfl e,BQ c 9 9 rfl (R.resolve_left e)⟩
      have bj:p.toList.isEmpty=false:=by rw[Lib.toList_data,M];rfl
      have a6:=Lh M;have ap:=Lh R;clear M R;by_cases Y:k=0
      ·have au:=Lh Y;have HU:=Lh (Tt.unf_stops _ _ aS.o 1 (by
        rw[<-ai.o,Tt.joinL_first _ _ (by rw[<-al.o,au.o]),if_pos ap.o]))
       have hq:((k:Int)==0)=true:=beq_iff_eq.2 (by omega);clear Y;rcases af with h1 | ⟨h1,h2⟩
       all_goals
        go_wp2_with fail;go_ret2;exact⟨.inl ⟨HU.o,rfl⟩,aO.trans (O.mono (by omega))⟩
      ·have aL:0<k:=by omega
       have hq:((k:Int)==0)=false:=beq_eq_false_iff_ne.2 (by omega);have hJ:=HJ.o aL;have ar:=Lh (Tt.joinL_next _ k _ _ U al.o hJ.1);have HO:=Lh hJ.2;clear hJ Y;have bw:(1:Int)<=(p.size:Int):=by omega
       obtain⟨i0,hi,ax,av,ay⟩:=info_parts infoByte;have ah:p.size=(p.extract 1 p.size).size+1:=by rw[Au p 1 p.size (xc _)];omega
       have bn:=Lh ah;have bk:(p.extract 1 p.size).size+1<=p.size:=by omega
       clear ah;rcases af with h1 | ⟨h1,h2⟩
       all_goals
        go_wp2_with (at_builtin;refine Lib.wpList_append_own_string _ rfl (.tmp 40) (.tmp 42) 88 9 rfl (w.heap.size+1) 5 i0 Tryz.underlying88 Tryz.underlying9 hi ax av ay _ _ _ rfl F (p.extract 1 p.size) rfl (by unfold maxLen;omega) (by omega) (by omega) ?_);intro v' w3 E A _;have D:=G.kept A (F3 G F);have J:Below (w.heap.size+1) W w3:=O.grown A (by omega) (fun k hk=>(F.lt k hk).1);have aa:w3.ownsRow (w.heap.size+1) 5 1 v' (U++p.data.toList.tail).length (Lib.byteCells (U++p.data.toList.tail)):=by
         have e1:(p.extract 1 p.size).data.toList=p.data.toList.tail:=by rw[Lib.extract_to_end];simp
         have e2:p.size - 1=p.data.toList.tail.length:=by rw[Lib.size_eq];simp
         rw[xa,Lib.byteCells_append,<-e2,<-e1];exact E
        clear A E G F O;go_wp2_with fail;go_roundw
        case rel=>
         refine⟨k+1,H,U++p.data.toList.tail,by omega,by go_num,D,aa,J,by omega,?_,?_,?_,?_⟩
         ·have e2:p.data.toList.tail.length+1=p.size:=by rw[Lib.size_eq,a6.o];simp
          rw[xa];omega
         ·intro j q aW T;by_cases e:j=k
          ·subst e;rw[aE.o]at T;cases T;exact aC.o
          ·exact aw.o j q (by omega) T
         ·exact fun h=>by omega
         ·intro _;have:=ar.o;rw[if_pos ap.o]at this;exact⟨this,by have:=HO.o;omega⟩
        case measure=>simp[intOf];omega
     ·have ae:(p.toList=[])∨(∃(h:0<p.size) (c:UInt8),p[0]'h=c/\p.toList.isEmpty=false/\((c.toNat:Int)==32)=false/\((c.toNat:Int)==9)=false):=by
       cases M:p.data.toList with
       | nil=>exact .inl (by rw[Lib.toList_data,M])
       | cons c tl=>
        right
        have aR:0<p.size:=by rw[Lib.size_eq,M];simp
        refine⟨aR,c,?_,by rw[Lib.toList_data,M];rfl,?_,?_⟩
        ·have:=Lib.data_getElem? p 0 aR;rw[M]at this;simpa using this.symm
        ·rw[M,Tt.begins_cons]at R;exact AQ c 32 32 rfl (fun e=>R (by simp[e]))
        ·rw[M,Tt.begins_cons]at R;exact AQ c 9 9 rfl (fun e=>R (by simp[e]))
      have aB:Tt.begins p.data.toList=false:=by simpa using R
      have ap:=Lh aB;clear R aB;obtain⟨i0,hi,ax,av,ay⟩:=info_parts infoByte;obtain⟨i1,hj,aI,aQ,aN⟩:=info_parts Dn;by_cases Y:k=0
      ·have hq: ¬((0:Int)<(k:Int)):=by omega
       have bg:=H0.o Y;have au:=Lh Y;obtain⟨rfl,rfl,rfl⟩:=bg;have ar:=Lh (Tt.joinL_first _ _ (show(V.map (·.data.toList))[0]?=some p.data.toList by rw[<-al.o,au.o]));clear Y;rcases ae with h1 | ⟨bh,c,hx,h1,h2,h3⟩
       all_goals
        go_wp2_with (at_builtin;refine Lib.wpList_append_own_string _ rfl (.tmp 52) (.tmp 53) 88 9 rfl (w.heap.size+1) 5 i0 Tryz.underlying88 Tryz.underlying9 hi ax av ay _ 0 [] rfl (xd _ _ _ _) p rfl (by unfold maxLen;omega) (by omega) (by omega) ?_);intro v' w3 E A _;have D:=G.kept A (.inl rfl);have J:Below (w.heap.size+1) W w3:=O.grown A (by omega) (fun k hk=>by cases hk);have aa:w3.ownsRow (w.heap.size+1) 5 1 v' p.data.toList.length (Lib.byteCells p.data.toList):=by
         rw[<-Lib.size_eq];simpa[Lib.strCells_eq]using E
        clear A E G F O;go_wp2_with fail;go_roundw
        case rel=>
         refine⟨k+1,[],p.data.toList,by omega,by go_num,D,aa,J,by simp,by rw[<-Lib.size_eq];omega,?_,fun h=>by omega,?_⟩
         ·intro j q aW T;by_cases e:j=k
          ·subst e;rw[aE.o]at T;cases T;exact aC.o
          ·exact aw.o j q (by omega) T
         ·intro _;have:=ar.o;rw[ap.o]at this;rw[au.o];exact⟨by simpa using this,by simp⟩
        case measure=>simp[intOf];omega
      ·have hq:((0:Int)<(k:Int)):=by omega
       have hJ:=HJ.o (by omega);have ar:=Lh (Tt.joinL_next _ k _ _ U al.o hJ.1);have hO:=hJ.2;obtain⟨v0,bf,aU,ba⟩:=NQ F;have aK:=CT F;clear hJ Y;rcases ae with h1 | ⟨bh,c,hx,h1,h2,h3⟩
       all_goals
        go_wp2_with (at_builtin;refine wpList_append_own _ rfl (.tmp 46) (.tmp 49) 98 rfl (w.heap.size+1) 9 i1 (jc ⟨#[]⟩) 1 16 Tryz.underlying98 hj aI aQ aN rfl (by decide) _ _ _ rfl (G.alloc _) ⟨w2.heap.size,0,none⟩ 1 1 [jc ⟨U.toArray⟩] rfl rfl (Bq _ _ _) (by intro u hu;simp at hu;subst hu;rfl) (by unfold maxLen;omega) (by omega) (by simp;omega) ?_);intro v' w3 D A _;have E:=(F.alloc (ji #[jc ⟨U.toArray⟩] 9)).kept A (Mm G F);have J:Below (w.heap.size+1) W w3:=(O.alloc (by omega) _).grown A (by simp;omega) (fun k hk=>(G.lt k hk).1);have bi:=J.size;have am:=aU w3 E;clear A G F O aK;go_wp2_with (at_builtin;refine Lib.wpList_append_own_string _ rfl (.tmp 52) (.tmp 53) 88 9 rfl (w.heap.size+1) 5 i0 Tryz.underlying88 Tryz.underlying9 hi ax av ay _ 0 [] rfl am p rfl (by unfold maxLen;omega) (by omega) (by omega) ?_);intro v2 w4 aq A _;have aG:=D.kept A (F3 D E);have aX:Below (w.heap.size+1) W w4:=J.grown A (by omega) (fun k hk=>(E.lt k hk).1);have aM:w4.ownsRow (w.heap.size+1) 5 1 v2 p.data.toList.length (Lib.byteCells p.data.toList):=by
         rw[<-Lib.size_eq];simpa[Lib.strCells_eq]using aq
        clear A aq D E am J bf aU ba;go_wp2_with fail;go_roundw
        case rel=>
         refine⟨k+1,H++[⟨U.toArray⟩],p.data.toList,by omega,by go_num,by simpa using aG,aM,aX,by simp;omega,by rw[<-Lib.size_eq];omega,?_,fun h=>by omega,?_⟩
         ·intro j q aW T;by_cases e:j=k
          ·subst e;rw[aE.o]at T;cases T;exact aC.o
          ·exact aw.o j q (by omega) T
         ·intro _;have:=ar.o;rw[ap.o]at this;exact⟨by simpa using this,by simp;omega⟩
        case measure=>simp[intOf];omega
    ·have HD:=Lh (show(!decide (Tt.Clean p.data.toList))=true by simp[hcl]);have HU:=Lh (Tt.unf_not _ _ aS.o k p.data.toList (by rw[<-ai.o];exact al.o) hcl);clear hcl;go_wp2_with fail;refine(Ey _ rfl p (by omega) _).mono ?_;rintro e w2 ⟨rfl,ak⟩;rw[HD.o];go_wp2_with fail;go_ret2;exact⟨.inl ⟨HU.o,rfl⟩,(aO.trans (ab.mono (by omega))).trans (ak.mono (by omega))⟩
   ·have aL:0<k:=by omega
    have hJ:=HJ.o aL;have aK:=CT ac;have hO:=hJ.2;have aY:k=V.length:=by omega
    have HK:=Lh aY;have HU:=Lh (Tt.unf_all _ _ aS.o (by
     intro j q hq;rw[<-ai.o,xf]at hq;obtain⟨x,hx,rfl⟩:=Option.map_eq_some_iff.1 hq;exact aw.o j x (by rw[HK.o];exact(xb.1 hx).1) hx))
    have a7:=Lh hJ.1;clear hJ aY;obtain⟨i1,hj,aI,aQ,aN⟩:=info_parts Dn;go_wp2_with (at_builtin;refine wpList_append_own _ rfl (.tmp 56) (.tmp 59) 98 rfl (w.heap.size+1) 9 i1 (jc ⟨#[]⟩) 1 16 Tryz.underlying98 hj aI aQ aN rfl (by decide) _ _ _ rfl (Z.alloc _) ⟨wr.heap.size,0,none⟩ 1 1 [jc ⟨U.toArray⟩] rfl rfl (Bq _ _ _) (by intro u hu;simp at hu;subst hu;rfl) (by unfold maxLen;omega) (by omega) (by simp;omega) ?_);intro v' w3 D A _;have J:Below (w.heap.size+1) W w3:=(ab.alloc (by omega) _).grown A (by simp;omega) (fun k hk=>(Z.lt k hk).1);obtain⟨g,cap,hv,aj⟩: ∃g cap,v'=jd (some ⟨g,0,none⟩) (H.length+1) cap/\H.length+1<=cap:=by
     rcases D.2 with⟨_,h0⟩ | ⟨g,cap,cur,hv,_,_,aj,_⟩
     ·omega
     ·exact⟨g,cap,hv,aj⟩
    have be:=Lh aj;rw[hv]at D ⊢;have HR:=Lh D;clear A D Z ac ab aK hv aj;go_wp2_with fail;go_ret2;refine⟨.inr ⟨g,cap,H++[⟨U.toArray⟩],?_,?_,?_,?_,?_,?_,?_,?_⟩,aO.trans (J.mono (by omega))⟩
    ·rw[HU.o,<-ai.o];have:=a7.o;rw[List.take_of_length_le (by rw[xl,HK.o];exact xc _)]at this;rw[this];simp
    ·simp
    ·intro j x hx;refine⟨_,rfl,?_⟩;exact HR.o.cells (g:=g) rfl j (jc x) (by
      have:(H++[(⟨U.toArray⟩:ByteArray)]).map Value.string=H.map Value.string++[jc ⟨U.toArray⟩]:=by simp
      rw[<-this,xf,hx];rfl)
    ·have:=(HR.o.lt g rfl).1;omega
    ·exact(HR.o.lt g rfl).2
    ·have aj:=be.o;simpa using aj
    ·rw[<-Lib.size_eq];simp;omega
    ·rcases HR.o.2 with⟨_,h0⟩ | ⟨g',cap',cur,hv,_,hgb,_⟩
     ·omega
     ·cases hv;exact⟨_,_,hgb⟩
 ·have aF:Lib.hasSuffix s.data.toList [13,10]=false:=by simpa using X
  have HU:=Lh (Tt.unf_no_end _ aF);have az:=Lh aF;clear X aF;go_enter Tryz.func66,Tryz.ntmps66;go_wp2_with fail;refine(Tryz.strings_CutSuffix _ _ _ (by omega)).mono ?_;rintro e w' ⟨rfl,hw⟩;rw[hw];clear hw w';rw[Nk,az.o];go_wp2_with fail;go_ret2;exact⟨.inl ⟨HU.o,rfl⟩,Below.refl _ _⟩
