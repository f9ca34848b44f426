/- What a row's condition says of the laid tables: the lengths of months and the powers of ten. The lines of a valid feed hold no ends of lines and begin with no blank; so they are what the text of a feed is unfolded to. No program in sight. -/
import Derived.Test.YtcomifbfldoeiaaGreatDoorQk6
import Derived.Test.YtcomifbfldoeiaaGreatDoorQk4
import Derived.Lib.LaidTab
import Derived.MakeChecks
import Derived.Test.YtcomifbfldoeiaaGreatDoorPk20
open List renaming mem_singleton->xa,mem_cons->xb,mem_cons_self->xc,mem_append->xf,mem_cons_of_mem->xh,not_mem_nil->xi
open Bool renaming and_eq_true->xd,or_eq_true->xg
open Option.some renaming inj->xe
namespace Go.Proofs.YtcomifbfldoeiaaGreatDoor
open Go.RowKit
theorem vars_at {P : Program} {w : World} : ∀ {l : List (String × DataW Unit)} {ps : List MemPlace},DataW.LaidVars P w l ps -> ∀ {i : Nat} {x : String × DataW Unit},l[i]? = some x ->
  ∃ g t cs fuel p,P.globalNamed x.1 = some g /\ (P.globals[g]?).map (·.type) = some t /\ w.var? P x.1 = some cs /\ DataW.trod (fun _ => ()) P w 0 (fun _ => true) false fuel t cs.toList = some (x.2,p)
 | [],_,_,i,x,hx => by simp at hx
 | (n,d) :: r,ps,h,i,x,hx => by
  obtain ⟨g,t,cs,fuel,p,q,h1,h2,h3,h4,hr,_⟩:=h;cases i with
  | zero =>
   simp only [List.getElem?_cons_zero,Option.some.injEq] at hx;subst hx;exact ⟨g,t,cs,fuel,p,h1,h2,h3,h4⟩
  | succ i => exact vars_at hr (by simpa using hx)
theorem laid_tab {W : World} {l : List (String × DataW Unit)} (h : laidMet Tryz.prog l W) {i g n : Nat} {t e : TypeId} {k : IntKind} {zs : List Int} {x : String × DataW Unit} (hx : l[i]? = some x) (hd : x.2 = Lib.tabData k zs) (hg : Tryz.prog.globalNamed x.1 = some g) (hty : (Tryz.prog.globals[g]?).map (·.type) = some t)
  (ht : Tryz.prog.underlying t = some (.array n e)) (he : Tryz.prog.underlying e = some (.int k)) (hce : Tryz.prog.cellsOf e = 1) (hct : Tryz.prog.cellsOf t = n) : ∃ u fr,W.heap[g]? = some (.cells (zs.map fun z => Value.int k z).toArray u fr):=by
 obtain ⟨ps,hl,_⟩:=h;obtain ⟨g',t',cs,fuel,p,h1,h2,h3,h4⟩:=vars_at hl hx;obtain rfl:=xe (hg.symm.trans h1);obtain rfl:=xe (hty.symm.trans h2);rw [hd] at h4;have hc:=Lib.cells_of_tab ht he hce hct h4;unfold World.var? at h3;rw [h1] at h3;simp only [Option.bind_some] at h3;split at h3
 ·rename_i cs' u fr heq
  simp only [Option.some.injEq] at h3;subst h3;exact ⟨u,fr,by rw [heq,<- hc]⟩
 ·cases h3
theorem lens_laid {W : World} {l : List (String × DataW Unit)} (h : laidMet Tryz.prog l W) {i : Nat} {x : String × DataW Unit} (hx : l[i]? = some x) (hd : x.2 = Lib.tabData .i64 [31,28,31,30,31,30,31,31,30,31,30,31]) (hg : Tryz.prog.globalNamed x.1 = some 6) : Lens W:=by
 obtain ⟨u,fr,hh⟩:=laid_tab (g:=6) (t:=338) (e:=3) (n:=12) h hx hd hg (by kernel_rfl) (by kernel_rfl) (by kernel_rfl) (by kernel_rfl) (by kernel_rfl);intro j hj;have : W.cell? ⟨6,j,none⟩ = (([31,28,31,30,31,30,31,31,30,31,30,31] : List Int).map fun z => Value.int .i64 z).toArray[j]?:=by simp [World.cell?,hh]
 rw [this];exact (show ∀ j : Nat,j < 12 -> (([31,28,31,30,31,30,31,31,30,31,30,31] : List Int).map fun z => Value.int .i64 z).toArray[j]? = some (.int .i64 (([31,28,31,30,31,30,31,31,30,31,30,31] : List Int).getD j 0)) from fun j hj => by
  rcases (show j = 0 ∨ j = 1 ∨ j = 2 ∨ j = 3 ∨ j = 4 ∨ j = 5 ∨ j = 6 ∨ j = 7 ∨ j = 8 ∨ j = 9 ∨ j = 10 ∨ j = 11 by omega) with rfl | rfl | rfl | rfl | rfl | rfl | rfl | rfl | rfl | rfl | rfl | rfl <;> rfl) j hj
theorem pow_laid {W : World} {l : List (String × DataW Unit)} (h : laidMet Tryz.prog l W) {i : Nat} {x : String × DataW Unit} (hx : l[i]? = some x) (hd : x.2 = Lib.tabData .u64 Lib.pow10Tab) (hg : Tryz.prog.globalNamed x.1 = some 3) : Pow W /\ 3 < W.heap.size:=by
 obtain ⟨u,fr,hh⟩:=laid_tab (g:=3) (t:=323) (e:=266) (n:=20) h hx hd hg (by kernel_rfl) (by kernel_rfl) (by kernel_rfl) (by kernel_rfl) (by kernel_rfl);exact ⟨⟨u,fr,hh⟩,(Array.getElem?_eq_some_iff.1 hh).1⟩
theorem iface_of_trod {P : Program} {w : World} {fuel t : Nat} {cs : List Value} {r : DataW Unit × List MemPlace} {m} (ht : P.underlying t = some (.interface m)) (h : DataW.trod (fun _ => ()) P w 0 (fun _ => true) false fuel t cs = some r) : cs = [.nilIface] ∨ ∃ te pe,cs = [.iface te pe]:=by
 cases fuel with
 | zero => cases h
 | succ n =>
  unfold DataW.trod at h;rw [ht] at h;split at h <;> simp_all
def isIface (P : Program) (t : TypeId) : Bool:=match P.underlying t with | some (.interface _) => true | _ => false
theorem iface_of {P : Program} {t : TypeId} (ht : isIface P t = true) : ∃ m,P.underlying t = some (.interface m):=by
 unfold isIface at ht;split at ht
 ·exact ⟨_,by assumption⟩
 ·cases ht
theorem err_laid {W : World} {l : List (String × DataW Unit)} (h : laidMet Tryz.prog l W) {i g : Nat} {t : TypeId} {x : String × DataW Unit} (hx : l[i]? = some x) (hg : Tryz.prog.globalNamed x.1 = some g) (hty : (Tryz.prog.globals[g]?).map (·.type) = some t)
  (ht : isIface Tryz.prog t = true) : ∃ ev,W.cell? ⟨g,0,none⟩ = some ev /\ (ev = .nilIface ∨ ∃ te pe,ev = .iface te pe):=by
 obtain ⟨ps,hl,_⟩:=h;obtain ⟨g',t',cs,fuel,p,h1,h2,h3,h4⟩:=vars_at hl hx;obtain rfl:=xe (hg.symm.trans h1);obtain rfl:=xe (hty.symm.trans h2);obtain ⟨m,hm⟩:=iface_of ht;have hc:=iface_of_trod hm h4;unfold World.var? at h3;rw [h1] at h3;simp only [Option.bind_some] at h3;split at h3
 ·rename_i cs' u fr heq
  simp only [Option.some.injEq] at h3;subst h3;rcases hc with hc | ⟨te,pe,hc⟩
  ·refine ⟨.nilIface,?_,.inl rfl⟩;simp [World.cell?,heq,<- Array.getElem?_toList,hc]
  ·refine ⟨.iface te pe,?_,.inr ⟨te,pe,rfl⟩⟩;simp [World.cell?,heq,<- Array.getElem?_toList,hc]
 ·cases h3
end Go.Proofs.YtcomifbfldoeiaaGreatDoor
namespace Tt
def Prn (l : List UInt8) : Prop:=∀ c ∈ l,32 <= c.toNat /\ c.toNat <= 126
theorem Prn.nil : Prn []:=fun c h => by cases h
theorem Prn.app {a b : List UInt8} (h : Prn a) (k : Prn b) : Prn (a ++ b):=fun c hc => (xf.1 hc).elim (h c) (k c)
theorem Prn.cons {a : UInt8} {b : List UInt8} (h : 32 <= a.toNat /\ a.toNat <= 126) (k : Prn b) : Prn (a :: b):=fun c hc => by
 rcases xb.1 hc with rfl | hc
 ·exact h
 ·exact k c hc
theorem Prn.lit {l : List UInt8} (h : (l.all fun c => decide (32 <= c.toNat /\ c.toNat <= 126)) = true) : Prn l:=fun c hc => by
 simpa using List.all_eq_true.1 h c hc
theorem Prn.clean {l : List UInt8} (h : Prn l) : Clean l:=fun c hc => by
 have h1:=(h c hc).1;constructor
 ·rintro rfl;exact absurd h1 (by decide)
 ·rintro rfl;exact absurd h1 (by decide)
theorem prn_digit {n : Nat} (h : n < 10) : 32 <= (UInt8.ofNat (48 + n)).toNat /\ (UInt8.ofNat (48 + n)).toNat <= 126:=by
 rw [UInt8.toNat_ofNat'];omega
theorem prn_dec (n : Nat) : Prn (Go.Lib.decDigits n):=by
 induction n using Go.Lib.decDigits.induct with
 | case1 n h => rw [Go.Lib.decDigits_one h];exact Prn.cons (prn_digit h) Prn.nil
 | case2 n h ih => rw [dec_step h];exact ih.app (Prn.cons (prn_digit (by omega)) Prn.nil)
theorem prn_d2 {n : Nat} (h : n < 100) : Prn (d2 n):=Prn.cons (prn_digit (by omega)) (Prn.cons (prn_digit (by omega)) Prn.nil)
theorem prn_d4 {n : Nat} (h : n < 10000) : Prn (d4 n):=Prn.cons (prn_digit (by omega)) (Prn.cons (prn_digit (by omega)) (Prn.cons (prn_digit (by omega)) (Prn.cons (prn_digit (by omega)) Prn.nil)))
theorem prn_date {d : Int} (h0 : 0 <= d) (h1 : d <= 36524) : Prn (dateL d):=by
 obtain ⟨y0,y1,m0,m1,d0,d1⟩:=date_toNat h0 h1;exact ((prn_d4 (by omega)).app (prn_d2 (by omega))).app (prn_d2 (by omega))
theorem prn_stamp {d s : Int} (h0 : 0 <= d) (h1 : d <= 36524) (h2 : 0 <= s) (h3 : s < 1440) : Prn (stampL d s) :=
 ((((prn_date h0 h1).app (Prn.lit rfl)).app (prn_d2 (by omega))).app (prn_d2 (by omega))).app (Prn.lit rfl)
theorem prn_stamps {s : Int} (h2 : 0 <= s) (h3 : s < 1440) : ∀ ds : List Int,(∀ d ∈ ds,0 <= d /\ d <= 36524) -> Prn (stampsL s ds)
 | [],_ => Prn.nil
 | [d],h => prn_stamp (h d (xc ..)).1 (h d (xc ..)).2 h2 h3
 | d :: e :: r,h => (prn_stamp (h d (xc ..)).1 (h d (xc ..)).2 h2 h3).app (Prn.cons (by decide) (prn_stamps h2 h3 (e :: r) fun x hx => h x (xh _ hx)))
theorem mem_inter (sep : List UInt8) : ∀ (xs : List (List UInt8)) (y : List UInt8),y ∈ xs.intersperse sep -> y = sep ∨ y ∈ xs
 | [],y,h => by cases h
 | [x],y,h => .inr h
 | x :: z :: r,y,h => by
  rw [List.intersperse_cons_cons] at h;rcases xb.1 h with h | h
  ·exact .inr (by rw [h];exact xc ..)
  ·rcases xb.1 h with h | h
   ·exact .inl h
   ·rcases mem_inter sep (z :: r) y h with h | h
    ·exact .inl h
    ·exact .inr (xh _ h)
theorem prn_by (wd : Int) : Prn (byL wd 7):=by
 intro c hc;unfold byL Go.Lib.join List.intercalate at hc;obtain ⟨y,hy,hcy⟩:=List.mem_flatten.1 hc;have : Prn y:=by
  rcases mem_inter _ _ _ hy with rfl | h
  ·exact Prn.lit rfl
  ·obtain ⟨k,hk,rfl⟩:=List.mem_map.1 h;have hk7 : k < 7:=List.mem_range.1 (List.mem_filter.1 hk).1;exact Prn.lit ((show ∀ k : Nat,k < 7 -> ((nameW k).all fun c => decide (32 <= c.toNat /\ c.toNat <= 126)) = true by decide) k hk7)
 exact this c hcy
theorem prn_rule {s : Ser} (h : Head s) : Prn (ruleL s):=by
 have l0:=h.l0;have l1:=h.l1;unfold ruleL;exact (((((Prn.lit rfl).app (prn_dec _)).app (Prn.lit rfl)).app (prn_by _)).app (Prn.lit rfl)).app (prn_date l0 l1)
theorem prn_alnum {c : UInt8} (h : alnum c = true ∨ sign c = true) : 32 <= c.toNat /\ c.toNat <= 126:=by
 unfold alnum sign at h;simp only [xg,xd,decide_eq_true_eq,beq_iff_eq,UInt8.le_iff_toNat_le] at h;rcases h with (h | h) | h
 ·rcases h with h | h
  ·have a:=h.1;have b:=h.2;simp at a b;omega
  ·have a:=h.1;have b:=h.2;simp at a b;omega
 ·have a:=h.1;have b:=h.2;simp at a b;omega
 ·rcases h with rfl | rfl <;> decide
theorem prn_code {l : List UInt8} (h : code l = true) : Prn l:=by
 cases l with
 | nil => exact Prn.nil
 | cons c r =>
  unfold code at h;simp only [xd] at h;refine Prn.cons (prn_alnum (.inl h.1.2)) fun x hx => ?_
  have:=List.all_eq_true.1 h.2 x hx;rw [xg] at this;exact prn_alnum this
theorem prn_esc {l : List UInt8} (h : labB l = true) : Prn (esc l):=by
 unfold labB at h;rw [xd] at h;intro c hc;obtain ⟨a,ha,hca⟩:=List.mem_flatMap.1 hc;have hl:=List.all_eq_true.1 h.1 a ha;unfold labC at hl;simp only [xg,xd,beq_iff_eq,decide_eq_true_eq] at hl;unfold escB at hca;split at hca
 ·rename_i h1
  rcases xb.1 hca with rfl | h2
  ·decide
  ·rw [xa.1 h2];rcases h1 with rfl | rfl | rfl <;> decide
 ·split at hca
  ·rcases xb.1 hca with rfl | h2
   ·decide
   ·rw [xa.1 h2];decide
  ·rename_i h1 h2
   rw [xa.1 hca];rcases hl with h3 | h3
   ·exact absurd h3 h2
   ·exact h3
end Tt
namespace Go.Proofs.YtcomifbfldoeiaaGreatDoor
open Go.RowKit Tt
theorem prn_right {l : List UInt8} (h : rightB l = true) : Prn l:=by
 by_cases hm : (64 : UInt8) ∈ l
 ·obtain ⟨a,b,rfl,ha⟩:=first_split l hm;unfold rightB rightP at h;rw [cut_first a b ha] at h;simp only [Bool.true_and,xd] at h;obtain ⟨hc,hn⟩:=h;refine (prn_code hc).app (Prn.cons (by decide) ?_);unfold numFrom at hn;rw [decide_eq_true_iff] at hn;obtain ⟨j,hj, -,rfl⟩:=hn;exact prn_dec j
 ·rw [show rightB l = false from rightP_none _ _ hm] at h;cases h
theorem ev_clean {e : Ev} {v : Int} {z : List UInt8} (hr : rightB e.uid.data.toList = true) (hc : checkV e v = 0) (hz : Prn z) : ∀ l ∈ evLines e z,Prn l /\ begins l = false:=by
 obtain ⟨q0,q1,hsv, -,st0,st1,mi0,mi1, -,hls,hll⟩:=check_all hc;have hh:=((serV_zero e.days).1 hsv).1;have hf0:=hh.f0;have hf1:=hh.f1;obtain ⟨hd1,hd2⟩:=head_days hsv;intro l hl;unfold evLines evA evX evR evS evL evC at hl;simp only [xf,xb,xi,or_false] at hl;rcases hl with ((((h | h) | h) | h) | h) | h
 ·rcases h with rfl | rfl | rfl | rfl | rfl | rfl
  ·exact ⟨Prn.lit rfl,rfl⟩
  ·exact ⟨(Prn.lit rfl).app (prn_right hr),rfl⟩
  ·exact ⟨(Prn.lit rfl).app (prn_dec _),rfl⟩
  ·exact ⟨(((Prn.lit rfl).app hz).app (Prn.lit rfl)).app (prn_stamp hf0 hf1 st0 st1),rfl⟩
  ·exact ⟨((Prn.lit rfl).app (prn_dec _)).app (Prn.lit rfl),rfl⟩
  ·exact ⟨(Prn.lit rfl).app (prn_rule hh),rfl⟩
 ·split at h
  ·cases h
  ·rw [xa.1 h];exact ⟨(((Prn.lit rfl).app hz).app (Prn.lit rfl)).app (prn_stamps st0 st1 _ hd1),rfl⟩
 ·split at h
  ·cases h
  ·rw [xa.1 h];exact ⟨(((Prn.lit rfl).app hz).app (Prn.lit rfl)).app (prn_stamps st0 st1 _ hd2),rfl⟩
 ·subst h;exact ⟨(Prn.lit rfl).app (prn_esc hls),rfl⟩
 ·split at h
  ·cases h
  ·rw [xa.1 h];exact ⟨(Prn.lit rfl).app (prn_esc hll),rfl⟩
 ·rcases h with rfl | rfl
  ·split <;> exact ⟨Prn.lit rfl,rfl⟩
  ·exact ⟨Prn.lit rfl,rfl⟩
theorem feed_clean {n z : ByteArray} {v : Int} {es : List Ev} (hv : feedV n v es = 0) (hz : code z.data.toList = true) : ∀ l ∈ feedL n.data.toList v es z.data.toList,Prn l /\ begins l = false:=by
 obtain ⟨v0,v1,hlen,hev⟩:=feedV_ok hv;have hn : code n.data.toList = true:=by
  unfold feedV at hv;split at hv
  ·cases hv
  ·rename_i h;simpa using h
 intro l hl;unfold feedL headL at hl;simp only [xf,xb,xi,or_false,List.mem_flatMap] at hl;rcases hl with (h | ⟨e,he,h⟩) | h
 ·rcases h with rfl | rfl | rfl | rfl | rfl
  ·exact ⟨Prn.lit rfl,rfl⟩
  ·exact ⟨Prn.lit rfl,rfl⟩
  ·exact ⟨Prn.lit rfl,rfl⟩
  ·exact ⟨(Prn.lit rfl).app (prn_code hn),rfl⟩
  ·exact ⟨(Prn.lit rfl).app (prn_dec _),rfl⟩
 ·have h1:=evsV_each v es none hev e he;exact ev_clean h1.1 h1.2 (prn_code hz) l h
 ·subst h;exact ⟨Prn.lit rfl,rfl⟩
theorem feedT_unf {n z : ByteArray} {v : Int} {es : List Ev} (hv : feedV n v es = 0) (hz : code z.data.toList = true) : unf (feedT n.data.toList v es z.data.toList) = some (feedL n.data.toList v es z.data.toList) :=
 unf_folds _ (by unfold feedL headL;simp) (fun l hl => (feed_clean hv hz l hl).1.clean) (fun l hl => (feed_clean hv hz l hl).2)
end Go.Proofs.YtcomifbfldoeiaaGreatDoor
