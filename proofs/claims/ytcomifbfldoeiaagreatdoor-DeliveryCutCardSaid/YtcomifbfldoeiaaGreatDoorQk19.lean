/- The reference's parser of an event, in plain words and in memory. The reference's event (function 116): exact. The reference's parser, in plain words, reads the lines of a valid feed as that feed. slices.DeleteFunc on lines: those that begin with X- are taken out, the others stay in their order. The lines of a text are not longer than the text. No program in sight. -/
import Derived.Test.YtcomifbfldoeiaaGreatDoorQk13
import Derived.Test.YtcomifbfldoeiaaGreatDoorPk23
import Derived.Test.YtcomifbfldoeiaaGreatDoorQk10
import Derived.BigQuiet
import Derived.Test.YtcomifbfldoeiaaGreatDoorUnfoldAll
import Derived.Test.YtcomifbfldoeiaaGreatDoorEvPL
import Derived.Test.YtcomifbfldoeiaaGreatDoorPk20
import Derived.Test.YtcomifbfldoeiaaGreatDoorQk7
import Derived.Test.YtcomifbfldoeiaaGreatDoorQk8
import Derived.Lib.SliceRun
import Derived.Test.YtcomifbfldoeiaaGreatDoorQk3
open List renaming length_append->xa,append_assoc->xb,getElem?_eq_some_iff->xc,map_append->xd,flatten_cons->xe,getElem?_eq_getElem->xg,length_cons->xh,flatten_nil->xi,length_take->xj,append_nil->xk,getElem?_append_right->xl,mem_cons_of_mem->xm,flatMap_cons->xn,length_drop->xo,length_nil->xp
open Nat renaming le_refl->xf,le_trans->xq
set_option maxRecDepth 100000
set_option maxHeartbeats 40000000
namespace Go.Proofs.YtcomifbfldoeiaaGreatDoor
open Go.RowKit
def aft (x : ByteArray) (k : List UInt8) : ByteArray:=⟨(x.data.toList.drop k.length).toArray⟩
def kUid : List UInt8:=[85,73,68,58]
def kSeq : List UInt8:=[83,69,81,85,69,78,67,69,58]
def kDts (z : List UInt8) : List UInt8:=[68,84,83,84,65,82,84,59,84,90,73,68,61] ++ z ++ [58]
def kDur : List UInt8:=[68,85,82,65,84,73,79,78,58,80,84]
def kRul : List UInt8:=[82,82,85,76,69,58]
def kExd (z : List UInt8) : List UInt8:=[69,88,68,65,84,69,59,84,90,73,68,61] ++ z ++ [58]
def kRda (z : List UInt8) : List UInt8:=[82,68,65,84,69,59,84,90,73,68,61] ++ z ++ [58]
def kSum : List UInt8:=[83,85,77,77,65,82,89,58]
def kLoc : List UInt8:=[76,79,67,65,84,73,79,78,58]
def kCan : List UInt8:=[83,84,65,84,85,83,58,67,65,78,67,69,76,76,69,68]
def kEnd : List UInt8:=[69,78,68,58,86,69,86,69,78,84]
def hasP (x : ByteArray) (k : List UInt8) : Bool:=Lib.hasPrefix x.data.toList k
def stepE (z : List UInt8) (s : Ev × ByteArray) (x : ByteArray) : Ev × ByteArray :=
 if hasP x kUid = true then ({ s.1 with uid:=aft x kUid },s.2)
 else if hasP x kSeq = true then ({ s.1 with seq:=Tt.numR (aft x kSeq).data.toList },s.2)
 else if hasP x (kDts z) = true then ({ s.1 with days:={ s.1.days with first:=(Tt.momR (aft x (kDts z)).data.toList).1 },start:=(Tt.momR (aft x (kDts z)).data.toList).2.1 },s.2)
 else if hasP x kDur = true /\ 0 < (aft x kDur).size then ({ s.1 with mins:=Tt.numR ((aft x kDur).data.toList.take ((aft x kDur).size - 1)) },s.2)
 else if hasP x kRul = true then (s.1,aft x kRul)
 else if hasP x (kExd z) = true then ({ s.1 with days:={ s.1.days with ex:=Tt.momsR (aft x (kExd z)).size (aft x (kExd z)).data.toList } },s.2)
 else if hasP x (kRda z) = true then ({ s.1 with days:={ s.1.days with xt:=Tt.momsR (aft x (kRda z)).size (aft x (kRda z)).data.toList } },s.2)
 else if hasP x kSum = true then ({ s.1 with summ:=unescS (aft x kSum).data.toList },s.2)
 else if hasP x kLoc = true then ({ s.1 with loc:=unescS (aft x kLoc).data.toList },s.2)
 else if x.data.toList = kCan then ({ s.1 with canc:=true },s.2)
 else s
def evGo (z : List UInt8) : List ByteArray -> Ev × ByteArray -> (Ev × ByteArray) × List ByteArray
 | [],s => (s,[])
 | x :: r,s => if x.data.toList = kEnd then (s,x :: r) else evGo z r (stepE z s x)
def evZ : Ev:=⟨⟨#[]⟩,0,false,⟨0,0,0,0,[],[]⟩,0,0,⟨#[]⟩,⟨#[]⟩⟩
def evFin (s : Ev × ByteArray) : Ev :=
 { s.1 with days:={ s.1.days with last:=(Tt.parR s.1.days.first s.2.data.toList).last,every:=(Tt.parR s.1.days.first s.2.data.toList).every,wd:=(Tt.parR s.1.days.first s.2.data.toList).wd } }
section
variable {E R : Nat} {rs : Array Value} {e : Ev} {v v' : Value} {w0 w : World}
end
theorem evGo_end {z : List UInt8} {x : ByteArray} {r : List ByteArray} {s : Ev × ByteArray} (h : x.data.toList = kEnd) : evGo z (x :: r) s = (s,x :: r):=by rw [evGo,if_pos h]
theorem evGo_step {z : List UInt8} {x : ByteArray} {r : List ByteArray} {s : Ev × ByteArray} (h : ¬ x.data.toList = kEnd) : evGo z (x :: r) s = evGo z r (stepE z s x):=by rw [evGo,if_neg h]
end Go.Proofs.YtcomifbfldoeiaaGreatDoor
namespace Tt
open Go
theorem dec_all (n : Nat) : (Lib.decDigits n).all isDig = true:=by
 induction n using Nat.strongRecOn with
 | ind n ih =>
  by_cases h : n < 10
  ·rw [Lib.decDigits_one h];exact (show ∀ n : Nat,n < 10 -> [UInt8.ofNat (48 + n)].all isDig = true by decide) n h
  ·rw [dec_step h,List.all_append,ih (n / 10) (by omega),Bool.true_and];exact (show ∀ n : Nat,n < 10 -> [UInt8.ofNat (48 + n)].all isDig = true by decide) (n % 10) (by omega)
theorem digV_dec (n : Nat) : digV (Lib.decDigits n) = n:=by
 induction n using Nat.strongRecOn with
 | ind n ih =>
  by_cases h : n < 10
  ·rw [Lib.decDigits_one h];exact (show ∀ n : Nat,n < 10 -> digV [UInt8.ofNat (48 + n)] = (n : Int) by decide) n h
  ·have hd:=(show ∀ n : Nat,n < 10 -> (((UInt8.ofNat (48 + n)).toNat : Int) - 48) = (n : Int) by decide) (n % 10) (by omega)
   rw [dec_step h,digV_snoc,ih (n / 10) (by omega),hd];omega
theorem dec_pos (n : Nat) : 1 <= (Lib.decDigits n).length:=by
 obtain ⟨b,r,h, -⟩:=dec_head n;rw [h];simp
theorem numR_dec {n : Int} (h0 : 0 <= n) (h1 : n <= 100000) : numR (Lib.decDigits n.toNat) = n:=by
 unfold numR;rw [if_pos ⟨dec_all _,dec_pos _,xq (dec_len 5 n.toNat (by show n.toNat < 1000000;omega)) (by decide)⟩,digV_dec];omega
theorem numR_d2 : ∀ n : Nat,n < 100 -> numR (d2 n) = (n : Int):=by decide
theorem numS_d2 : ∀ n : Nat,n < 100 -> numS (d2 n) = (n : Int):=by decide
theorem numR_d4' : ∀ n : Nat,n < 100 -> numR (d4 (2000 + n)) = ((2000 + n : Nat) : Int):=by decide
theorem numS_d4' : ∀ n : Nat,n < 100 -> numS (d4 (2000 + n)) = ((2000 + n : Nat) : Int):=by decide
theorem numR_d4 {n : Nat} (h0 : 2000 <= n) (h1 : n <= 2099) : numR (d4 n) = (n : Int):=by
 have:=numR_d4' (n - 2000) (by omega);rwa [show 2000 + (n - 2000) = n by omega] at this
theorem numS_d4 {n : Nat} (h0 : 2000 <= n) (h1 : n <= 2099) : numS (d4 n) = (n : Int):=by
 have:=numS_d4' (n - 2000) (by omega);rwa [show 2000 + (n - 2000) = n by omega] at this
theorem momR_stamp {day start : Int} (h0 : 0 <= day) (h1 : day <= 36524) (s0 : 0 <= start) (s1 : start < 1440) : momR (stampL day start) = (day,start,true):=by
 have hd:=date_some h0 h1;obtain ⟨a0,a1,b0,b1,c0,c1⟩:=date_toNat h0 h1;have e1 : (stampL day start).take 4 = d4 (yOf day).toNat:=rfl;have e2 : ((stampL day start).drop 4).take 2 = d2 (mOf day).toNat:=rfl;have e3 : ((stampL day start).drop 6).take 2 = d2 (dOf day).toNat:=rfl;have e4 : ((stampL day start).drop 9).take 2 = d2 (start / 60).toNat:=rfl;have e5 : ((stampL day start).drop 11).take 2 = d2 (start % 60).toNat:=rfl;have hday:=hd.day;unfold momR;rw [if_neg (by rw [stampL_len];decide),e1,e2,e3,e4,e5,numR_d4 (by omega) (by omega),numR_d2 _ (by omega),numR_d2 _ (by omega),numR_d2 _ (by omega),numR_d2 _ (by omega),
  show (((yOf day).toNat : Nat) : Int) = yOf day by omega,show (((mOf day).toNat : Nat) : Int) = mOf day by omega,show (((dOf day).toNat : Nat) : Int) = dOf day by omega,hday]
 refine Prod.ext rfl (Prod.ext ?_ rfl);show _ * 60 + _ = start
 omega
theorem momsR_stamps {start : Int} (s0 : 0 <= start) (s1 : start < 1440) : ∀ (ds : List Int) (n : Nat),ds.length <= n -> (∀ d ∈ ds,0 <= d /\ d <= 36524) -> momsR n (stampsL start ds) = ds
 | [],n,_,_ => by
  cases n with
  | zero => rfl
  | succ n => rw [momsR,if_neg (by show ¬ 15 <= 0;decide)]
 | [d],n,hn,hd => by
  cases n with
  | zero => cases hn
  | succ n =>
   obtain ⟨h0,h1⟩:=hd d (by simp);have e1 : (stampsL start [d]).take 15 = stampL d start:=rfl;have e2 : (stampsL start [d]).drop 16 = []:=rfl;rw [momsR,if_pos (by show 15 <= 15;decide),e1,e2,momR_stamp h0 h1 s0 s1];cases n with
   | zero => rfl
   | succ n => rw [momsR,if_neg (by show ¬ 15 <= 0;decide)]
 | d :: e :: r,n,hn,hd => by
  cases n with
  | zero => cases hn
  | succ n =>
   obtain ⟨h0,h1⟩:=hd d (by simp);have e1 : (stampsL start (d :: e :: r)).take 15 = stampL d start:=rfl;have e2 : (stampsL start (d :: e :: r)).drop 16 = stampsL start (e :: r):=rfl;have e3 : 15 <= (stampsL start (d :: e :: r)).length:=by rw [stampsL,xa,stampL_len];omega
   rw [momsR,if_pos e3,e1,e2,momR_stamp h0 h1 s0 s1,momsR_stamps s0 s1 (e :: r) n (by simpa using hn) (fun x hx => hd x (xm _ hx))]
theorem stampsL_many (start : Int) : ∀ ds : List Int,ds.length <= (stampsL start ds).length
 | [] => xf _
 | [d] => by show 1 <= 15;decide
 | d :: e :: r => by
  have ih:=stampsL_many start (e :: r);rw [stampsL,xa,xh (a:=44),stampL_len];simp only [xh] at ih ⊢;omega
theorem wdR_back' (a b c : Nat) (ha : a < 8) (hb : b < 4) (hc : c < 4) : wdR 30 (byL ((16 * a + 4 * b + c : Nat) : Int) 7) 0 = 16 * a + 4 * b + c:=by
 match a,ha with
 | 0,_ | 1,_ | 2,_ | 3,_ | 4,_ | 5,_ | 6,_ | 7,_ =>
  match b,hb with
  | 0,_ | 1,_ | 2,_ | 3,_ =>
   match c,hc with
   | 0,_ | 1,_ | 2,_ | 3,_ => show _ = _;kernel_rfl
theorem wdR_fuel : ∀ (n m : Nat) (l : List UInt8) (v : Nat),l.length <= n -> l.length <= m -> wdR n l v = wdR m l v
 | 0,m,l,v,hn,_ => by rw [wdR_end v (by omega),wdR_end v (by omega)]
 | n + 1,m,l,v,hn,hm => by
  by_cases h : 2 <= l.length
  ·rw [wdR_go v h (by omega),wdR_go (n:=m) v h (by omega)];exact wdR_fuel n (m - 1) _ _ (by rw [xo];omega) (by rw [xo];omega)
  ·rw [wdR_end v (by omega),wdR_end v (by omega)]
theorem wdR_back {n : Int} (h0 : 0 <= n) (h1 : n <= 127) (k : Nat) (hk : (byL n 7).length <= k) : (wdR k (byL n 7) 0 : Int) = n:=by
 have h:=wdR_back' (n.toNat / 16) (n.toNat / 4 % 4) (n.toNat % 4) (by omega) (by omega) (by omega);have h2 : 16 * (n.toNat / 16) + 4 * (n.toNat / 4 % 4) + n.toNat % 4 = n.toNat:=by omega
 rw [h2,show ((n.toNat : Nat) : Int) = n by omega] at h;have hl:=byL_len n 7 (xf _);rw [wdR_fuel k 30 _ _ hk (by omega),h];omega
def bare (s : Ser) : Ser:=⟨s.first,s.last,s.every,s.wd,[],[]⟩
theorem bare_ok {s : Ser} (h : serV s = 0) : serV (bare s) = 0:=by
 obtain ⟨hh, -, -⟩:=(serV_zero s).1 h;exact (serV_zero _).2 ⟨⟨hh.f0,hh.f1,hh.l0,hh.l1,hh.fl,hh.lf,hh.e0,hh.e1,hh.w0,hh.w1,by show ((0 : Nat) : Int) + ((0 : Nat) : Int) <= 140;omega⟩,rfl,rfl⟩
theorem parR_rule {s : Ser} (h : serV s = 0) : parR s.first (ruleL s) = bare s:=by
 obtain ⟨hh, -, -⟩:=(serV_zero s).1 h;have hb:=bare_ok h;obtain ⟨a0,a1,b0,b1,c0,c1⟩:=date_toNat hh.l0 hh.l1;have hd:=(date_some hh.l0 hh.l1).day;have h1:=hh.e0;have h2:=hh.e1;have hl:=byL_len s.wd 7 (xf _);obtain ⟨A,hA⟩ : ∃ A : List UInt8,A = [70,82,69,81,61,87,69,69,75,76,89,59,73,78,84,69,82,86,65,76,61]:=⟨_,rfl⟩
 obtain ⟨C,hC⟩ : ∃ C : List UInt8,C = [59,66,89,68,65,89,61]:=⟨_,rfl⟩
 obtain ⟨U,hU⟩ : ∃ U : List UInt8,U = [59,85,78,84,73,76,61]:=⟨_,rfl⟩
 have lA : A.length = 21:=by rw [hA];rfl
 have lC : C.length = 7:=by rw [hC];rfl
 have lU : U.length = 7:=by rw [hU];rfl
 have hr : ruleL s = A ++ ([UInt8.ofNat (48 + s.every.toNat)] ++ (C ++ (byL s.wd 7 ++ (U ++ dateL s.last)))):=by
  unfold ruleL;rw [Lib.decDigits_one (by omega),hA,hC,hU];simp only [xb]
 have hlen : (ruleL s).length = (byL s.wd 7).length + 44:=by rw [hr];simp only [xa,lA,lC,lU,dateL_len,List.length_singleton];omega
 have e1 : ((ruleL s).drop 21).take 1 = [UInt8.ofNat (48 + s.every.toNat)]:=by rw [hr,List.drop_left' lA];rfl
 have e2 : (ruleL s).drop ((ruleL s).length - 8) = dateL s.last:=by
  rw [hlen,hr,show A ++ ([UInt8.ofNat (48 + s.every.toNat)] ++ (C ++ (byL s.wd 7 ++ (U ++ dateL s.last)))) = (A ++ ([UInt8.ofNat (48 + s.every.toNat)] ++ (C ++ (byL s.wd 7 ++ U)))) ++ dateL s.last by simp only [xb]];refine List.drop_left' ?_;simp only [xa,lA,lC,lU,List.length_singleton];omega
 have e3 : ((ruleL s).take ((ruleL s).length - 15)).drop 29 = byL s.wd 7:=by
  rw [hlen,hr,show A ++ ([UInt8.ofNat (48 + s.every.toNat)] ++ (C ++ (byL s.wd 7 ++ (U ++ dateL s.last)))) = ((A ++ ([UInt8.ofNat (48 + s.every.toNat)] ++ C)) ++ byL s.wd 7) ++ (U ++ dateL s.last) by simp only [xb]];rw [List.take_left' (by simp only [xa,lA,lC,List.length_singleton];omega)];exact List.drop_left' (by simp only [xa,lA,lC,List.length_singleton])
 have hn : numS [UInt8.ofNat (48 + s.every.toNat)] = s.every:=by
  have:=(show ∀ n : Nat,n < 10 -> numS [UInt8.ofNat (48 + n)] = (n : Int) by decide) s.every.toNat (by omega);rw [this];omega
 have f1 : (dateL s.last).take 4 = d4 (yOf s.last).toNat:=rfl;have f2 : ((dateL s.last).drop 4).take 2 = d2 (mOf s.last).toNat:=rfl;have f3 : (dateL s.last).drop 6 = d2 (dOf s.last).toNat:=rfl;have hday : dayR (ruleL s) = (s.last,0):=by
  unfold dayR;rw [e2,f1,f2,f3,numS_d4 (by omega) (by omega),numS_d2 _ (by omega),numS_d2 _ (by omega),
   show (((yOf s.last).toNat : Nat) : Int) = yOf s.last by omega,show (((mOf s.last).toNat : Nat) : Int) = mOf s.last by omega,show (((dOf s.last).toNat : Nat) : Int) = dOf s.last by omega,hd]
 have hp : parS s.first (ruleL s) = bare s:=by
  unfold parS bare;rw [hday,e1,hn,e3,wdR_back hh.w0 hh.w1 _ (by omega)]
 have hrb : ruleL (bare s) = ruleL s:=rfl;have hf : isD s.first = true:=(isD_iff _).2 ⟨hh.f0,hh.f1⟩;unfold parR;rw [if_neg (by rw [hf];decide),if_neg (by omega),e1,hn,if_neg (by omega),hday,if_neg (fun h => h rfl),hp,if_neg (fun h => h hrb),if_neg (fun h => h hb)]
end Tt
namespace Go.Proofs.YtcomifbfldoeiaaGreatDoor
open Go.RowKit
theorem str_list (l : List UInt8) : (str l).data.toList = l:=rfl
theorem hasP_app (k r : List UInt8) : hasP (str (k ++ r)) k = true:=by
 unfold hasP Lib.hasPrefix;rw [str_list];exact List.isPrefixOf_iff_prefix.2 ⟨r,rfl⟩
theorem aft_app (k r : List UInt8) : aft (str (k ++ r)) k = str r:=by
 unfold aft str;rw [List.drop_left' rfl]
theorem hasP_first {a b : UInt8} (l m : List UInt8) (h : (b == a) = false) : hasP (str (a :: l)) (b :: m) = false:=by
 unfold hasP Lib.hasPrefix;rw [str_list,List.isPrefixOf,h,Bool.false_and]
theorem hasP_next {a b c : UInt8} (l m : List UInt8) (h : (b == a) = false) : hasP (str (c :: a :: l)) (c :: b :: m) = false:=by
 unfold hasP Lib.hasPrefix;rw [str_list,List.isPrefixOf,List.isPrefixOf,h,Bool.false_and,Bool.and_false]
theorem if_f {α : Type} {b : Bool} {x y : α} (h : b = false) : (if b = true then x else y) = y:=by rw [h];rfl
theorem if_t {α : Type} {b : Bool} {x y : α} (h : b = true) : (if b = true then x else y) = x:=by rw [h];rfl
section
variable (z : List UInt8) (s : Ev × ByteArray) (r : List UInt8)
theorem stepE_uid : stepE z s (str (kUid ++ r)) = ({ s.1 with uid:=str r },s.2):=by
 unfold stepE;rw [if_t (hasP_app kUid r),aft_app]
theorem stepE_seq : stepE z s (str (kSeq ++ r)) = ({ s.1 with seq:=Tt.numR r },s.2):=by
 unfold stepE;rw [if_f (show hasP (str (kSeq ++ r)) kUid = false from hasP_first _ _ rfl),if_t (hasP_app kSeq r),aft_app,str_list]
theorem stepE_dts : stepE z s (str (kDts z ++ r)) = ({ s.1 with days:={ s.1.days with first:=(Tt.momR r).1 },start:=(Tt.momR r).2.1 },s.2):=by
 unfold stepE;rw [if_f (show hasP (str (kDts z ++ r)) kUid = false from hasP_first _ _ rfl),if_f (show hasP (str (kDts z ++ r)) kSeq = false from hasP_first _ _ rfl),if_t (hasP_app (kDts z) r),aft_app,str_list]
theorem stepE_dur (c : UInt8) : stepE z s (str (kDur ++ (r ++ [c]))) = ({ s.1 with mins:=Tt.numR r },s.2):=by
 unfold stepE;have hz : (str (r ++ [c])).size = r.length + 1:=by rw [Lib.size_eq,str_list,xa];rfl
 rw [if_f (show hasP (str (kDur ++ (r ++ [c]))) kUid = false from hasP_first _ _ rfl),if_f (show hasP (str (kDur ++ (r ++ [c]))) kSeq = false from hasP_first _ _ rfl),if_f (show hasP (str (kDur ++ (r ++ [c]))) (kDts z) = false from hasP_next _ _ rfl),aft_app,if_pos ⟨hasP_app kDur _,by rw [hz];omega⟩,str_list,hz,Nat.add_sub_cancel,List.take_left' rfl]
theorem not_dur {x : ByteArray} {k : List UInt8} {q : Prop} (h : hasP x k = false) : ¬ (hasP x k = true /\ q):=fun hh => by rw [h] at hh;cases hh.1
theorem stepE_rul : stepE z s (str (kRul ++ r)) = (s.1,str r):=by
 unfold stepE;rw [if_f (show hasP (str (kRul ++ r)) kUid = false from hasP_first _ _ rfl),if_f (show hasP (str (kRul ++ r)) kSeq = false from hasP_first _ _ rfl),if_f (show hasP (str (kRul ++ r)) (kDts z) = false from hasP_first _ _ rfl),if_neg (not_dur (show hasP (str (kRul ++ r)) kDur = false from hasP_first _ _ rfl)),if_t (hasP_app kRul r),aft_app]
theorem stepE_exd : stepE z s (str (kExd z ++ r)) = ({ s.1 with days:={ s.1.days with ex:=Tt.momsR r.length r } },s.2):=by
 unfold stepE;rw [if_f (show hasP (str (kExd z ++ r)) kUid = false from hasP_first _ _ rfl),if_f (show hasP (str (kExd z ++ r)) kSeq = false from hasP_first _ _ rfl),if_f (show hasP (str (kExd z ++ r)) (kDts z) = false from hasP_first _ _ rfl),if_neg (not_dur (show hasP (str (kExd z ++ r)) kDur = false from hasP_first _ _ rfl)),if_f (show hasP (str (kExd z ++ r)) kRul = false from hasP_first _ _ rfl),if_t (hasP_app (kExd z) r),aft_app,str_list,Lib.size_eq,str_list]
theorem stepE_rda : stepE z s (str (kRda z ++ r)) = ({ s.1 with days:={ s.1.days with xt:=Tt.momsR r.length r } },s.2):=by
 unfold stepE;rw [if_f (show hasP (str (kRda z ++ r)) kUid = false from hasP_first _ _ rfl),if_f (show hasP (str (kRda z ++ r)) kSeq = false from hasP_first _ _ rfl),if_f (show hasP (str (kRda z ++ r)) (kDts z) = false from hasP_first _ _ rfl),if_neg (not_dur (show hasP (str (kRda z ++ r)) kDur = false from hasP_first _ _ rfl)),if_f (show hasP (str (kRda z ++ r)) kRul = false from hasP_next _ _ rfl),if_f (show hasP (str (kRda z ++ r)) (kExd z) = false from hasP_first _ _ rfl),if_t (hasP_app (kRda z) r),aft_app,str_list,Lib.size_eq,str_list]
theorem stepE_sum : stepE z s (str (kSum ++ r)) = ({ s.1 with summ:=unescS r },s.2):=by
 unfold stepE;rw [if_f (show hasP (str (kSum ++ r)) kUid = false from hasP_first _ _ rfl),if_f (show hasP (str (kSum ++ r)) kSeq = false from hasP_next _ _ rfl),if_f (show hasP (str (kSum ++ r)) (kDts z) = false from hasP_first _ _ rfl),if_neg (not_dur (show hasP (str (kSum ++ r)) kDur = false from hasP_first _ _ rfl)),if_f (show hasP (str (kSum ++ r)) kRul = false from hasP_first _ _ rfl),if_f (show hasP (str (kSum ++ r)) (kExd z) = false from hasP_first _ _ rfl),if_f (show hasP (str (kSum ++ r)) (kRda z) = false from hasP_first _ _ rfl),if_t (hasP_app kSum r),aft_app,str_list]
theorem stepE_loc : stepE z s (str (kLoc ++ r)) = ({ s.1 with loc:=unescS r },s.2):=by
 unfold stepE;rw [if_f (show hasP (str (kLoc ++ r)) kUid = false from hasP_first _ _ rfl),if_f (show hasP (str (kLoc ++ r)) kSeq = false from hasP_first _ _ rfl),if_f (show hasP (str (kLoc ++ r)) (kDts z) = false from hasP_first _ _ rfl),if_neg (not_dur (show hasP (str (kLoc ++ r)) kDur = false from hasP_first _ _ rfl)),if_f (show hasP (str (kLoc ++ r)) kRul = false from hasP_first _ _ rfl),if_f (show hasP (str (kLoc ++ r)) (kExd z) = false from hasP_first _ _ rfl),if_f (show hasP (str (kLoc ++ r)) (kRda z) = false from hasP_first _ _ rfl),if_f (show hasP (str (kLoc ++ r)) kSum = false from hasP_first _ _ rfl),if_t (hasP_app kLoc r),aft_app,str_list]
theorem stepE_can : stepE z s (str kCan) = ({ s.1 with canc:=true },s.2):=by
 unfold stepE;rw [if_f (show hasP (str kCan) kUid = false from hasP_first _ _ rfl),if_f (show hasP (str kCan) kSeq = false from hasP_next _ _ rfl),if_f (show hasP (str kCan) (kDts z) = false from hasP_first _ _ rfl),if_neg (not_dur (show hasP (str kCan) kDur = false from hasP_first _ _ rfl)),if_f (show hasP (str kCan) kRul = false from hasP_first _ _ rfl),if_f (show hasP (str kCan) (kExd z) = false from hasP_first _ _ rfl),if_f (show hasP (str kCan) (kRda z) = false from hasP_first _ _ rfl),if_f (show hasP (str kCan) kSum = false from hasP_next _ _ rfl),if_f (show hasP (str kCan) kLoc = false from hasP_first _ _ rfl),if_pos (str_list _)]
theorem stepE_con : stepE z s (str [83,84,65,84,85,83,58,67,79,78,70,73,82,77,69,68]) = s:=by
 unfold stepE;rw [if_f (show hasP (str [83,84,65,84,85,83,58,67,79,78,70,73,82,77,69,68]) kUid = false from hasP_first _ _ rfl),if_f (show hasP (str [83,84,65,84,85,83,58,67,79,78,70,73,82,77,69,68]) kSeq = false from hasP_next _ _ rfl),if_f (show hasP (str [83,84,65,84,85,83,58,67,79,78,70,73,82,77,69,68]) (kDts z) = false from hasP_first _ _ rfl),if_neg (not_dur (show hasP (str [83,84,65,84,85,83,58,67,79,78,70,73,82,77,69,68]) kDur = false from hasP_first _ _ rfl)),if_f (show hasP (str [83,84,65,84,85,83,58,67,79,78,70,73,82,77,69,68]) kRul = false from hasP_first _ _ rfl),if_f (show hasP (str [83,84,65,84,85,83,58,67,79,78,70,73,82,77,69,68]) (kExd z) = false from hasP_first _ _ rfl),if_f (show hasP (str [83,84,65,84,85,83,58,67,79,78,70,73,82,77,69,68]) (kRda z) = false from hasP_first _ _ rfl),if_f (show hasP (str [83,84,65,84,85,83,58,67,79,78,70,73,82,77,69,68]) kSum = false from hasP_next _ _ rfl),if_f (show hasP (str [83,84,65,84,85,83,58,67,79,78,70,73,82,77,69,68]) kLoc = false from hasP_first _ _ rfl),if_neg (by rw [str_list];decide)]
theorem stepE_beg : stepE z s (str [66,69,71,73,78,58,86,69,86,69,78,84]) = s:=by
 unfold stepE;rw [if_f (show hasP (str [66,69,71,73,78,58,86,69,86,69,78,84]) kUid = false from hasP_first _ _ rfl),if_f (show hasP (str [66,69,71,73,78,58,86,69,86,69,78,84]) kSeq = false from hasP_first _ _ rfl),if_f (show hasP (str [66,69,71,73,78,58,86,69,86,69,78,84]) (kDts z) = false from hasP_first _ _ rfl),if_neg (not_dur (show hasP (str [66,69,71,73,78,58,86,69,86,69,78,84]) kDur = false from hasP_first _ _ rfl)),if_f (show hasP (str [66,69,71,73,78,58,86,69,86,69,78,84]) kRul = false from hasP_first _ _ rfl),if_f (show hasP (str [66,69,71,73,78,58,86,69,86,69,78,84]) (kExd z) = false from hasP_first _ _ rfl),if_f (show hasP (str [66,69,71,73,78,58,86,69,86,69,78,84]) (kRda z) = false from hasP_first _ _ rfl),if_f (show hasP (str [66,69,71,73,78,58,86,69,86,69,78,84]) kSum = false from hasP_first _ _ rfl),if_f (show hasP (str [66,69,71,73,78,58,86,69,86,69,78,84]) kLoc = false from hasP_first _ _ rfl),if_neg (by rw [str_list];decide)]
end
theorem not_end {a : UInt8} {l : List UInt8} (h : a ≠ 69) : ¬ (a :: l) = kEnd:=fun he => h (by injection he)
theorem not_end2 {a b : UInt8} {l : List UInt8} (h : b ≠ 78) : ¬ (a :: b :: l) = kEnd:=fun he => h (by injection he with h1 h2;injection h2)
section
variable (z : List UInt8) (s : Ev × ByteArray) (u : List UInt8) (r : List ByteArray)
theorem go_uid : evGo z (str (kUid ++ u) :: r) s = evGo z r ({ s.1 with uid:=str u },s.2):=by
 rw [evGo_step (by rw [str_list];exact not_end (by decide)),stepE_uid]
theorem go_seq : evGo z (str (kSeq ++ u) :: r) s = evGo z r ({ s.1 with seq:=Tt.numR u },s.2):=by
 rw [evGo_step (by rw [str_list];exact not_end (by decide)),stepE_seq]
theorem go_dts : evGo z (str (kDts z ++ u) :: r) s = evGo z r ({ s.1 with days:={ s.1.days with first:=(Tt.momR u).1 },start:=(Tt.momR u).2.1 },s.2):=by
 rw [evGo_step (by rw [str_list];exact not_end (by decide)),stepE_dts]
theorem go_dur (c : UInt8) : evGo z (str (kDur ++ u ++ [c]) :: r) s = evGo z r ({ s.1 with mins:=Tt.numR u },s.2):=by
 rw [xb,evGo_step (by rw [str_list];exact not_end (by decide)),stepE_dur]
theorem go_rul : evGo z (str (kRul ++ u) :: r) s = evGo z r (s.1,str u):=by
 rw [evGo_step (by rw [str_list];exact not_end (by decide)),stepE_rul]
theorem go_exd : evGo z (str (kExd z ++ u) :: r) s = evGo z r ({ s.1 with days:={ s.1.days with ex:=Tt.momsR u.length u } },s.2):=by
 rw [evGo_step (by rw [str_list];exact not_end2 (by decide)),stepE_exd]
theorem go_rda : evGo z (str (kRda z ++ u) :: r) s = evGo z r ({ s.1 with days:={ s.1.days with xt:=Tt.momsR u.length u } },s.2):=by
 rw [evGo_step (by rw [str_list];exact not_end (by decide)),stepE_rda]
theorem go_sum : evGo z (str (kSum ++ u) :: r) s = evGo z r ({ s.1 with summ:=unescS u },s.2):=by
 rw [evGo_step (by rw [str_list];exact not_end (by decide)),stepE_sum]
theorem go_loc : evGo z (str (kLoc ++ u) :: r) s = evGo z r ({ s.1 with loc:=unescS u },s.2):=by
 rw [evGo_step (by rw [str_list];exact not_end (by decide)),stepE_loc]
theorem go_can : evGo z (str kCan :: r) s = evGo z r ({ s.1 with canc:=true },s.2):=by
 rw [evGo_step (by rw [str_list];decide),stepE_can]
theorem go_con : evGo z (str [83,84,65,84,85,83,58,67,79,78,70,73,82,77,69,68] :: r) s = evGo z r s:=by
 rw [evGo_step (by rw [str_list];decide),stepE_con]
theorem go_beg : evGo z (str [66,69,71,73,78,58,86,69,86,69,78,84] :: r) s = evGo z r s:=by
 rw [evGo_step (by rw [str_list];decide),stepE_beg]
theorem go_fin : evGo z (str kEnd :: r) s = (s,str kEnd :: r):=evGo_end (str_list _)
end
theorem unesc_back (s : ByteArray) : unescS (Tt.esc s.data.toList) = s:=by
 unfold unescS;rw [Tt.unesc_esc];rfl
theorem str_back (s : ByteArray) : str s.data.toList = s:=rfl
theorem evA_list (e : Ev) (z : List UInt8) (R : List (List UInt8)) (r : List ByteArray) : (evA e z ++ R).map str ++ r = str [66,69,71,73,78,58,86,69,86,69,78,84] :: str (kUid ++ e.uid.data.toList) :: str (kSeq ++ Lib.decDigits e.seq.toNat) :: str (kDts z ++ Tt.stampL e.days.first e.start) :: str (kDur ++ Lib.decDigits e.mins.toNat ++ [77]) :: str (kRul ++ Tt.ruleL e.days) :: (R.map str ++ r):=rfl
section
variable {u : ByteArray} {q f l ev wd st mi : Int} {c : Bool} {a b t : ByteArray}
theorem go_X (e : Ev) (z : List UInt8) (r : List ByteArray) (hs0 : 0 <= e.start) (hs1 : e.start < 1440) (hd : ∀ d ∈ e.days.ex,0 <= d /\ d <= 36524) : evGo z ((evX e z).map str ++ r) (⟨u,q,c,⟨f,l,ev,wd,[],[]⟩,st,mi,a,b⟩,t) = evGo z r (⟨u,q,c,⟨f,l,ev,wd,e.days.ex,[]⟩,st,mi,a,b⟩,t):=by
 unfold evX;by_cases h : e.days.ex = []
 ·rw [if_pos h,h];rfl
 ·rw [if_neg h];refine (go_exd z _ (Tt.stampsL e.start e.days.ex) r).trans ?_;rw [Tt.momsR_stamps hs0 hs1 _ _ (Tt.stampsL_many _ _) hd]
theorem go_R (e : Ev) (z : List UInt8) (r : List ByteArray) (hs0 : 0 <= e.start) (hs1 : e.start < 1440) (hd : ∀ d ∈ e.days.xt,0 <= d /\ d <= 36524) (xs : List Int) : evGo z ((evR e z).map str ++ r) (⟨u,q,c,⟨f,l,ev,wd,xs,[]⟩,st,mi,a,b⟩,t) = evGo z r (⟨u,q,c,⟨f,l,ev,wd,xs,e.days.xt⟩,st,mi,a,b⟩,t):=by
 unfold evR;by_cases h : e.days.xt = []
 ·rw [if_pos h,h];rfl
 ·rw [if_neg h];refine (go_rda z _ (Tt.stampsL e.start e.days.xt) r).trans ?_;rw [Tt.momsR_stamps hs0 hs1 _ _ (Tt.stampsL_many _ _) hd]
theorem go_S (e : Ev) (z : List UInt8) (r : List ByteArray) (s : Tt.Ser) : evGo z ((evS e).map str ++ r) (⟨u,q,c,s,st,mi,a,b⟩,t) = evGo z r (⟨u,q,c,s,st,mi,e.summ,b⟩,t):=by
 refine (go_sum z _ (Tt.esc e.summ.data.toList) r).trans ?_;rw [unesc_back]
theorem go_L (e : Ev) (z : List UInt8) (r : List ByteArray) (s : Tt.Ser) : evGo z ((evL e).map str ++ r) (⟨u,q,c,s,st,mi,a,⟨#[]⟩⟩,t) = evGo z r (⟨u,q,c,s,st,mi,a,e.loc⟩,t):=by
 unfold evL;by_cases h : e.loc = ⟨#[]⟩
 ·rw [if_pos h,h];rfl
 ·rw [if_neg h];refine (go_loc z _ (Tt.esc e.loc.data.toList) r).trans ?_;rw [unesc_back]
theorem go_C (e : Ev) (z : List UInt8) (r : List ByteArray) (s : Tt.Ser) : evGo z ((evC e).map str ++ r) (⟨u,q,false,s,st,mi,a,b⟩,t) = ((⟨u,q,e.canc,s,st,mi,a,b⟩,t),str kEnd :: r):=by
 unfold evC;cases hc : e.canc
 ·rw [if_neg (by decide)];exact (go_con z _ (str kEnd :: r)).trans (go_fin z _ r)
 ·rw [if_pos rfl];exact (go_can z _ (str kEnd :: r)).trans (go_fin z _ r)
end
theorem evGo_lines {e : Ev} {v : Int} (h : checkV e v = 0) (hv : v <= 64) (z : List UInt8) (r : List ByteArray) :
  ∃ t : Ev × ByteArray,evGo z ((evLines e z).map str ++ r) (evZ,⟨#[]⟩) = (t,str kEnd :: r) /\ evFin t = e:=by
 obtain ⟨h1,h2,h3, -,h4,h5,h6,h7, -, -, -⟩:=check_all h;obtain ⟨hx,hy⟩:=head_days h3;obtain ⟨hh, -, -⟩:=(Tt.serV_zero e.days).1 h3;refine ⟨(⟨e.uid,e.seq,e.canc,⟨e.days.first,0,0,0,e.days.ex,e.days.xt⟩,e.start,e.mins,e.summ,e.loc⟩,str (Tt.ruleL e.days)),?_,?_⟩
 ·have hl : (evLines e z).map str ++ r = (evA e z ++ (evX e z ++ (evR e z ++ (evS e ++ (evL e ++ evC e))))).map str ++ r:=by unfold evLines;simp only [xb]
  rw [hl,evA_list,go_beg,go_uid,go_seq,go_dts,go_dur,go_rul,Tt.momR_stamp hh.f0 hh.f1 h4 h5,Tt.numR_dec (by omega) (by omega),Tt.numR_dec (by omega) (by omega)];rw [xd,xb];refine (go_X e z _ h4 h5 hx).trans ?_;rw [xd,xb];refine (go_R e z _ h4 h5 hy _).trans ?_;rw [xd,xb];refine (go_S e z _ _).trans ?_;rw [xd,xb];refine (go_L e z _ _).trans ?_;exact go_C e z r _
 ·unfold evFin;simp only [str_list];rw [Tt.parR_rule h3];rfl
def kNam : List UInt8:=[78,65,77,69,58]
def kRev : List UInt8:=[82,69,86,73,83,73,79,78,58]
def kBeg : List UInt8:=[66,69,71,73,78,58,86,69,86,69,78,84]
def nameS (n x : ByteArray) : ByteArray:=if hasP x kNam = true then aft x kNam else n
def revS (v : Int) (x : ByteArray) : Int:=if hasP x kRev = true then Tt.numR (aft x kRev).data.toList else v
def runR (z : List UInt8) : Nat -> List ByteArray -> ByteArray × Int × List Ev -> ByteArray × Int × List Ev
 | 0,_,s => s
 | _ + 1,[],s => s
 | m + 1,x :: r,s => if x.data.toList = kBeg then runR z m ((evGo z (x :: r) (evZ,⟨#[]⟩)).2.drop 1) (nameS s.1 x,revS s.2.1 x,s.2.2 ++ [evFin (evGo z (x :: r) (evZ,⟨#[]⟩)).1]) else runR z m r (nameS s.1 x,revS s.2.1 x,s.2.2)
theorem runR_nil (z : List UInt8) (m : Nat) (s : ByteArray × Int × List Ev) : runR z m [] s = s:=by cases m <;> rfl
theorem runR_line (z : List UInt8) (m : Nat) (x : ByteArray) (r : List ByteArray) (s : ByteArray × Int × List Ev) (h : ¬ x.data.toList = kBeg) : runR z (m + 1) (x :: r) s = runR z m r (nameS s.1 x,revS s.2.1 x,s.2.2):=by rw [runR,if_neg h]
theorem runR_event (z : List UInt8) (m : Nat) (x : ByteArray) (r : List ByteArray) (s : ByteArray × Int × List Ev) (h : x.data.toList = kBeg) : runR z (m + 1) (x :: r) s = runR z m ((evGo z (x :: r) (evZ,⟨#[]⟩)).2.drop 1) (nameS s.1 x,revS s.2.1 x,s.2.2 ++ [evFin (evGo z (x :: r) (evZ,⟨#[]⟩)).1]):=by rw [runR,if_pos h]
theorem runR_events (z : List UInt8) (v : Int) (hv : v <= 64) (r : List ByteArray) : ∀ (es : List Ev) (m : Nat) (n : ByteArray) (V : Int) (qs : List Ev),(∀ e ∈ es,checkV e v = 0) -> es.length <= m ->
  runR z m ((es.flatMap fun e => evLines e z).map str ++ r) (n,V,qs) = runR z (m - es.length) r (n,V,qs ++ es)
 | [],m,n,V,qs,_,_ => by simp
 | e :: es,m,n,V,qs,h,hm => by
  obtain ⟨m,rfl⟩ : ∃ k,m = k + 1:=⟨m - 1,by simp at hm;omega⟩
  obtain ⟨t,h1,h2⟩:=evGo_lines (h e (by simp)) hv z ((es.flatMap fun e => evLines e z).map str ++ r);have hb : (evLines e z).map str ++ ((es.flatMap fun e => evLines e z).map str ++ r) = str kBeg :: (((evLines e z).map str).drop 1 ++ ((es.flatMap fun e => evLines e z).map str ++ r)):=by
   unfold evLines evA;rfl
  rw [xn,xd,xb,hb,runR_event z m _ _ _ (str_list _),<- hb,h1];show runR z m (((es.flatMap fun e => evLines e z).map str ++ r)) (nameS n (str kBeg),revS V (str kBeg),qs ++ [evFin t]) = _
  rw [h2,show nameS n (str kBeg) = n from if_f (hasP_first _ _ rfl),show revS V (str kBeg) = V from if_f (hasP_first _ _ rfl)];rw [runR_events z v hv r es m n V (qs ++ [e]) (fun x hx => h x (xm _ hx)) (by simpa using hm)];rw [xb,xh,Nat.add_sub_add_right];rfl
theorem runR_feed {n : ByteArray} {v : Int} {es : List Ev} (h : feedV n v es = 0) (z : List UInt8) (m : Nat) (hm : es.length + 6 <= m) : runR z m ((feedL n.data.toList v es z).map str) (⟨#[]⟩,0,[]) = (n,v,es):=by
 obtain ⟨hv0,hv1, -,hev⟩:=feedV_ok h;have hE : ∀ e ∈ es,checkV e v = 0:=fun e he => (evsV_each v es none hev e he).2
 obtain ⟨m,rfl⟩ : ∃ k,m = k + 6:=⟨m - 6,by omega⟩
 have hl : (feedL n.data.toList v es z).map str = str [66,69,71,73,78,58,86,67,65,76,69,78,68,65,82] :: str [86,69,82,83,73,79,78,58,50,46,48] :: str [80,82,79,68,73,68,58,45,47,47,116,105,109,101,116,97,98,108,101,47,47,69,78] :: str (kNam ++ n.data.toList) :: str (kRev ++ Lib.decDigits v.toNat) :: ((es.flatMap fun e => evLines e z).map str ++ [str [69,78,68,58,86,67,65,76,69,78,68,65,82]]):=by
  unfold feedL headL;rw [xd,xd,xb];rfl
 rw [hl,runR_line _ _ _ _ _ (by rw [str_list];decide),runR_line _ _ _ _ _ (by rw [str_list];decide),runR_line _ _ _ _ _ (by rw [str_list];decide),runR_line _ _ _ _ _ (by rw [str_list];exact fun he => by injection he with h1 h2;cases h1),runR_line _ _ _ _ _ (by rw [str_list];exact fun he => by injection he with h1 h2;cases h1)];have a1 : ∀ x : ByteArray,nameS x (str [66,69,71,73,78,58,86,67,65,76,69,78,68,65,82]) = x:=fun x => if_f (hasP_first _ _ rfl)
 have a2 : ∀ x : ByteArray,nameS x (str [86,69,82,83,73,79,78,58,50,46,48]) = x:=fun x => if_f (hasP_first _ _ rfl)
 have a3 : ∀ x : ByteArray,nameS x (str [80,82,79,68,73,68,58,45,47,47,116,105,109,101,116,97,98,108,101,47,47,69,78]) = x:=fun x => if_f (hasP_first _ _ rfl)
 have a4 : ∀ x : ByteArray,nameS x (str (kNam ++ n.data.toList)) = n:=fun x => by unfold nameS;rw [if_t (hasP_app _ _),aft_app,str_back]
 have a5 : ∀ x : ByteArray,nameS x (str (kRev ++ Lib.decDigits v.toNat)) = x:=fun x => if_f (hasP_first _ _ rfl)
 have b1 : ∀ x : Int,revS x (str [66,69,71,73,78,58,86,67,65,76,69,78,68,65,82]) = x:=fun x => if_f (hasP_first _ _ rfl)
 have b2 : ∀ x : Int,revS x (str [86,69,82,83,73,79,78,58,50,46,48]) = x:=fun x => if_f (hasP_first _ _ rfl)
 have b3 : ∀ x : Int,revS x (str [80,82,79,68,73,68,58,45,47,47,116,105,109,101,116,97,98,108,101,47,47,69,78]) = x:=fun x => if_f (hasP_first _ _ rfl)
 have b4 : ∀ x : Int,revS x (str (kNam ++ n.data.toList)) = x:=fun x => if_f (hasP_first _ _ rfl)
 have b5 : ∀ x : Int,revS x (str (kRev ++ Lib.decDigits v.toNat)) = v:=fun x => by unfold revS;rw [if_t (hasP_app _ _),aft_app,str_list,Tt.numR_dec hv0 (by omega)]
 simp only [a1,a2,a3,a4,a5,b1,b2,b3,b4,b5];rw [runR_events z v hv1 _ es (m + 1) n v [] hE (by omega)];obtain ⟨k,hk⟩ : ∃ k,m + 1 - es.length = k + 1:=⟨m - es.length,by omega⟩
 rw [hk,runR_line _ _ _ _ _ (by rw [str_list];decide),runR_nil,List.nil_append];have e1 : nameS n (str [69,78,68,58,86,67,65,76,69,78,68,65,82]) = n:=if_f (hasP_first _ _ rfl);have e2 : revS v (str [69,78,68,58,86,67,65,76,69,78,68,65,82]) = v:=if_f (hasP_first _ _ rfl);exact Prod.ext e1 (Prod.ext e2 rfl)
def isX (x : ByteArray) : Bool:=Lib.hasPrefix x.data.toList [88,45]
def keepX (xs : List ByteArray) : List ByteArray:=xs.filter fun x => !isX x
def IndexR (xs : List ByteArray) (w : World) (e : Ending) (w' : World) : Prop:=((e = .returned (.int .i64 (-1)) /\ ∀ x ∈ xs,isX x = false) ∨ ∃ k : Nat,e = .returned (.int .i64 k) /\ k < xs.length /\ (∀ j x,j < k -> xs[j]? = some x -> isX x = false) /\ ∃ x,xs[k]? = some x /\ isX x = true) /\ ∃ q,w' = w.drewN q
theorem index174 (ao : Option Addr) (c : Nat) (xs : List ByteArray) (w : World) (hn : xs.length <= 9223372036854775806) (h1 : StrAt w ao xs) :
  Calls Tryz.prog 174 #[.slice ao xs.length c,.func (.func 110) #[] #[]] w (IndexR xs w):=by
 have H1:=Lh h1;clear h1;go_enter Tryz.func174,Tryz.ntmps174;go_wp2_with fail;go_loopw [8] (fun i wr => ∃ k q : Nat,k <= xs.length /\ i = .int .i64 k /\ wr = w.drewN q /\ Hid (∀ j x,j < k -> xs[j]? = some x -> isX x = false)) (fun i _ => xs.length - (intOf i).toNat)
 case atStart => exact ⟨0,0,Nat.zero_le _,rfl,rfl,Lh (fun j x h => absurd h (Nat.not_lt_zero _))⟩
 case round =>
  obtain ⟨k,q,hk,rfl,rfl,HX⟩:=hrel;by_cases hlt : k < xs.length
  ·obtain ⟨x,hx⟩ : ∃ x,xs[k]? = some x:=⟨_,xg hlt⟩
   obtain ⟨a,rfl,ha⟩:=H1.out k x hx;have hki : (k : Int) < (xs.length : Int):=by omega
   have HXK:=Lh hx;obtain ⟨bl,hbl⟩ : ∃ bl,bl = isX x:=⟨_,rfl⟩
   have HBL:=Lh hbl;clear hx hbl;go_wp2_with fail;refine (minus_any _ _).mono ?_;rintro e w2 ⟨rfl,hw⟩;rw [hw,show Lib.hasPrefix x.data.toList [88,45] = bl from HBL.out.symm];clear hw w2;cases bl
   ·go_wp2_with fail;go_roundw
    case rel =>
     refine ⟨k + 1,_,by omega,by go_num,rfl,Lh ?_⟩;intro j y hj hy;rcases Nat.lt_or_ge j k with h | h
     ·exact HX.out j y h hy
     ·obtain rfl : j = k:=by omega
      rw [HXK.out] at hy;cases hy;exact HBL.out.symm
    case measure => simp [intOf];omega
   ·go_wp2_with fail;go_ret;refine ⟨.inr ⟨k,?_,hlt,HX.out,x,HXK.out,HBL.out.symm⟩,_,rfl⟩;rfl
  ·have hkl : k = xs.length:=by omega
   go_wp2_with fail;go_ret;refine ⟨.inl ⟨rfl,fun x hx => ?_⟩,_,rfl⟩;obtain ⟨j,hj⟩:=List.mem_iff_getElem?.1 hx;exact HX.out j x (by rw [hkl];exact (xc.1 hj).1) hj
theorem keepX_all {xs : List ByteArray} (h : ∀ x ∈ xs,isX x = false) : keepX xs = xs:=by
 unfold keepX;rw [List.filter_eq_self];intro x hx;rw [h x hx];rfl
theorem keepX_take {xs : List ByteArray} {k : Nat} {x : ByteArray} (hx : xs[k]? = some x) : keepX (xs.take (k + 1)) = if isX x = true then keepX (xs.take k) else keepX (xs.take k) ++ [x]:=by
 obtain ⟨h1,h2⟩:=xc.1 hx;unfold keepX;rw [List.take_succ_eq_append_getElem h1,List.filter_append,h2];split
 ·rename_i h;simp [h]
 ·rename_i h;simp [h]
theorem keepX_len (xs : List ByteArray) (k : Nat) : (keepX (xs.take k)).length <= k:=xq (List.length_filter_le _ _) (by rw [xj];exact Nat.min_le_left _ _)
structure Swept (g : Nat) (xs : List ByteArray) (k : Nat) (w w' : World) : Prop where
 head : ∀ (j : Nat) (x : ByteArray),(keepX (xs.take k))[j]? = some x -> w'.cell? ⟨g,j,none⟩ = some (.string x)
 rest : ∀ (j : Nat) (x : ByteArray),k <= j -> xs[j]? = some x -> w'.cell? ⟨g,j,none⟩ = some (.string x)
 only : Only g w w'
 froz : ∀ j,w'.frozen? ⟨g,j,none⟩ = false
 some_ : ∀ j,j < xs.length -> (w'.cell? ⟨g,j,none⟩).isSome = true
theorem drewN_only (g : Nat) (w : World) (q : Nat) : Only g w (w.drewN q):=⟨rfl,rfl,rfl,rfl,fun _ _ => rfl⟩
theorem Swept.draw {g k q : Nat} {xs : List ByteArray} {w w' : World} (h : Swept g xs k w w') : Swept g xs k w (w'.drewN q):=⟨h.head,h.rest,h.only.trans (drewN_only g w' q),h.froz,h.some_⟩
theorem Swept.drop {g k : Nat} {xs : List ByteArray} {w w' : World} {x : ByteArray} (h : Swept g xs k w w') (hx : xs[k]? = some x) (hX : isX x = true) : Swept g xs (k + 1) w w' :=
 ⟨fun j y hy => h.head j y (by rw [keepX_take hx,if_pos hX] at hy;exact hy),fun j y hj hy => h.rest j y (by omega) hy,h.only,h.froz,h.some_⟩
theorem Swept.keep {g k i : Nat} {xs : List ByteArray} {w w' : World} {x : ByteArray} (h : Swept g xs k w w') (hx : xs[k]? = some x) (hX : isX x = false) (hi : i = (keepX (xs.take k)).length) : Swept g xs (k + 1) w (w'.setCell ⟨g,i,none⟩ (.string x)):=by
 have hk:=(xc.1 hx).1;have hik : i <= k:=by rw [hi];exact keepX_len xs k
 refine ⟨fun j y hy => ?_,fun j y hj hy => ?_,h.only.trans (only_set w' g i _),fun j => ?_,fun j hj => ?_⟩
 ·rw [keepX_take hx,if_neg (by rw [hX];decide)] at hy;by_cases hji : j = i
  ·subst hji;rw [hi,xl (xf _),Nat.sub_self] at hy;cases hy;obtain ⟨u,hu⟩:=Option.isSome_iff_exists.1 (h.some_ j (by omega));exact World.cell?_setCell_same _ _ _ hu
  ·rw [World.cell?_setCell_other (h:=by intro e;exact hji (Addr.mk.inj e).2.1.symm)];refine h.head j y ?_;rcases Nat.lt_or_ge j (keepX (xs.take k)).length with hl | hl
   ·rwa [List.getElem?_append_left hl] at hy
   ·rw [xl hl] at hy;have:=(xc.1 hy).1;simp only [xh,xp] at this;omega
 ·rw [World.cell?_setCell_other (h:=by intro e;have:=(Addr.mk.inj e).2.1;omega)];exact h.rest j y (by omega) hy
 ·have:=h.froz j;simp only [World.frozen?,World.setCell,Array.getElem?_modify] at this ⊢;revert this;cases w'.heap[g]? with
  | none => simp
  | some o => cases o <;> simp
 ·by_cases hji : j = i
  ·subst hji;obtain ⟨u,hu⟩:=Option.isSome_iff_exists.1 (h.some_ j (by omega));rw [World.cell?_setCell_same _ _ _ hu];rfl
  ·rw [World.cell?_setCell_other (h:=by intro e;exact hji (Addr.mk.inj e).2.1.symm)];exact h.some_ j hj
theorem Swept.start {g k : Nat} {xs : List ByteArray} {w : World} {x : ByteArray} (h1 : StrAt w (some ⟨g,0,none⟩) xs) (hf : ∀ j,w.frozen? ⟨g,j,none⟩ = false) (hb : ∀ j y,j < k -> xs[j]? = some y -> isX y = false) (hx : xs[k]? = some x) (hX : isX x = true) : Swept g xs (k + 1) w w /\ (keepX (xs.take (k + 1))).length = k:=by
 have hk:=(xc.1 hx).1;have hc : ∀ j y,xs[j]? = some y -> w.cell? ⟨g,j,none⟩ = some (.string y):=fun j y hy => by
  obtain ⟨a,ha,hc⟩:=h1 j y hy;cases ha;rwa [addr_add] at hc
 have ht : keepX (xs.take k) = xs.take k:=keepX_all fun y hy => by
  obtain ⟨j,hj⟩:=List.mem_iff_getElem?.1 hy;have hjk : j < k:=by
   have:=(xc.1 hj).1;rw [xj] at this;omega
  rw [List.getElem?_take,if_pos hjk] at hj;exact hb j y hjk hj
 refine ⟨⟨fun j y hy => ?_,fun j y _ hy => hc j y hy,Only.refl g w,hf,fun j hj => by rw [hc j _ (xg hj)];rfl⟩,?_⟩
 ·rw [keepX_take hx,if_pos hX,ht,List.getElem?_take] at hy;split at hy
  ·exact hc j y hy
  ·cases hy
 ·rw [keepX_take hx,if_pos hX,ht,xj];omega
theorem Swept.clear {g i n : Nat} {xs : List ByteArray} {w w' : World} (h : Swept g xs xs.length w w') (hi : i = (keepX xs).length) (_hn : i + n = xs.length) : StrAt (w'.setCells g i (List.replicate n (.string ⟨#[]⟩))) (some ⟨g,0,none⟩) (keepX xs) /\ Only g w (w'.setCells g i (List.replicate n (.string ⟨#[]⟩))):=by
 have ho : ∀ (us : List Value) (o : Nat) (W : World),Only g W (W.setCells g o us):=by
  intro us;induction us with
  | nil => intro o W;exact Only.refl g W
  | cons u r ih => intro o W;exact (only_set W g o u).trans (ih (o + 1) _)
 refine ⟨fun j x hx => ⟨_,rfl,?_⟩,h.only.trans (ho _ _ _)⟩;rw [addr_add,World.cell?_setCells_out g _ _ _ _ (fun _ _ => .inl (by have:=(xc.1 hx).1;show j < i;omega))];exact h.head j x (by rw [List.take_length];exact hx)
theorem delete102 (g c : Nat) (xs : List ByteArray) (w : World) (hn : xs.length <= 9223372036854775806) (hc : xs.length <= c) (h1 : StrAt w (some ⟨g,0,none⟩) xs) (hf : ∀ j,w.frozen? ⟨g,j,none⟩ = false) :
  Calls Tryz.prog 109 #[.slice (some ⟨g,0,none⟩) xs.length c,.func (.func 110) #[] #[]] w fun e w' => e = .returned (.slice (some ⟨g,0,none⟩) (keepX xs).length c) /\ StrAt w' (some ⟨g,0,none⟩) (keepX xs) /\ Only g w w':=by
 have HI:=Lh (index174 (some ⟨g,0,none⟩) c xs w hn h1);have H1:=Lh h1;have HF:=Lh hf;obtain ⟨n,hnn⟩ : ∃ n,n = xs.length:=⟨_,rfl⟩
 have HN:=Lh hnn;rw [<- hnn] at hn hc HI ⊢;clear h1 hf hnn;go_enter Tryz.func109,Tryz.ntmps109;go_wp2_with fail;refine HI.out.mono ?_;rintro e w2 ⟨hR,q,hw⟩;rw [hw];clear hw w2 HI;rcases hR with ⟨rfl,hall⟩ | ⟨k,rfl,hk,hbef,x,hx,hX⟩
 ·have HK:=Lh (keepX_all hall);clear hall;go_wp2_with fail;go_ret;rw [HK.out];refine ⟨by rw [<- HN.out];rfl,?_,drewN_only g w q⟩;exact H1.out
 ·obtain ⟨hS,hl⟩:=Swept.start H1.out HF.out hbef hx hX;have HS0:=Lh (hS.draw (q:=q));have HL0:=Lh hl;have hkn : k < n:=by rw [HN.out];exact hk
  have hkm : ((k : Int) == -1) = false:=beq_eq_false_iff_ne.2 (by omega);clear hS hl hbef hx hX hk H1 HF;go_wp2_with fail;go_loopw [5,6,7] (fun iv jv _ wr => ∃ i j : Nat,iv = .int .i64 i /\ jv = .int .i64 j /\ j <= n /\ i < j /\ Hid (i = (keepX (xs.take j)).length) /\ Hid (Swept g xs j w wr)) (fun _ jv _ _ => n - (intOf jv).toNat)
  case atStart => exact ⟨k,k + 1,rfl,by go_num,by omega,by omega,Lh HL0.out.symm,HS0⟩
  case round =>
   clear HS0 HL0;obtain ⟨i,j,rfl,rfl,hj,hij,HI,HS⟩:=hrel;by_cases hlt : j < n
   ·have hlti : (j : Int) < n:=by omega
    have hjx : j < xs.length:=by rw [<- HN.out];exact hlt
    obtain ⟨y,hy⟩ : ∃ y,xs[j]? = some y:=⟨_,xg hjx⟩
    have hcell:=HS.out.rest j y (xf j) hy;have HY:=Lh hy;obtain ⟨bl,hbl⟩ : ∃ bl,bl = isX y:=⟨_,rfl⟩
    have HBL:=Lh hbl;clear hy hbl;go_wp2_with fail;refine (minus_any _ _).mono ?_;rintro e w2 ⟨rfl,hw⟩;rw [hw,show Lib.hasPrefix y.data.toList [88,45] = bl from HBL.out.symm];clear hw w2;cases bl
    ·have hin : (i : Int) < n:=by omega
     have hfi:=HS.out.froz i;obtain ⟨u,hu⟩:=Option.isSome_iff_exists.1 (HS.out.some_ i (by omega));have HS2:=Lh (HS.out.keep HY.out HBL.out.symm HI.out);have HI2:=Lh (show i + 1 = (keepX (xs.take (j + 1))).length from by rw [keepX_take HY.out,if_neg (by rw [<- HBL.out];decide),xa,<- HI.out];rfl);go_wp2_with fail;go_roundw
     case rel => exact ⟨i + 1,j + 1,by go_num,by go_num,by omega,by omega,HI2,HS2⟩
     case measure => simp [intOf];omega
    ·have HS2:=Lh (HS.out.drop HY.out HBL.out.symm);have HI2:=Lh (show i = (keepX (xs.take (j + 1))).length from by rw [keepX_take HY.out,if_pos HBL.out.symm];exact HI.out);go_wp2_with fail;go_roundw
     case rel => exact ⟨i,j + 1,rfl,by go_num,by omega,by omega,HI2,HS2⟩
     case measure => simp [intOf];omega
   ·have hjn : j = n:=by omega
    subst hjn;have hlti : ¬ (j : Int) < j:=by omega
    have HS3:=Lh (show Swept g xs xs.length w wr from by rw [<- HN.out];exact HS.out);have HI3:=Lh (show i = (keepX xs).length from by have h:=HI.out;rwa [HN.out,List.take_length] at h);have hcl:=fun ty cc => Lib.run_clear_slice (P:=Tryz.prog) wr 143 9 ty (.string ⟨#[]⟩) Tryz.underlying143 Tryz.zeroValue9 rfl rfl g i (j - i) cc (by omega) (fun k hk => HS3.out.some_ (i + k) (by rw [<- HN.out];omega)) (fun k _ => HS3.out.froz (i + k))
    obtain ⟨hA,hB⟩:=HS3.out.clear HI3.out (n:=j - i) (by rw [<- HN.out];omega);have HA:=Lh hA;have HB:=Lh hB;clear hA hB HI HS HS3;go_wp2_with fail;go_ret;refine ⟨?_,HA.out,HB.out⟩;rw [<- HI3.out];rfl
end Go.Proofs.YtcomifbfldoeiaaGreatDoor
namespace Tt
theorem joinL_tot : ∀ (ls out r : List (List UInt8)),joinL out ls = some r -> r.flatten.length <= out.flatten.length + ls.flatten.length
 | [],out,r,h => by
  unfold joinL at h;simp only [Option.some.injEq] at h;subst h;simp
 | l :: t,out,r,h => by
  unfold joinL at h;split at h
  ·split at h
   ·cases h
   ·rename_i hne
    have ih:=joinL_tot t _ r h;have hl : out.flatten.length = out.dropLast.flatten.length + (out.getLastD []).length:=by
     have h1:=List.dropLast_concat_getLast hne;have h2 : out.getLastD [] = out.getLast hne:=by cases out with
      | nil => exact absurd rfl hne
      | cons a s => rfl
     rw [h2];have h3:=congrArg (fun q => (List.flatten q).length) h1;simp only [List.flatten_append,xe,xi,xk,xa] at h3;omega
    simp only [List.flatten_append,xe,xi,xk,xa,List.length_tail] at ih ⊢;omega
  ·have ih:=joinL_tot t _ r h;simp only [List.flatten_append,xe,xi,xk,xa] at ih ⊢;omega
theorem crlf_tot : ∀ ls : List (List UInt8),ls.flatten.length <= (ls.flatMap crlf).length
 | [] => xf _
 | l :: r => by
  have:=crlf_tot r;have h1 : (crlf l).length = l.length + 2:=by unfold crlf;rw [xa];rfl
  rw [xe,xn,xa,xa];omega
theorem mem_tot : ∀ (ls : List (List UInt8)) (l : List UInt8),l ∈ ls -> l.length <= ls.flatten.length
 | [],l,h => by cases h
 | a :: r,l,h => by
  rw [xe,xa];rcases List.mem_cons.1 h with rfl | h
  ·omega
  ·have:=mem_tot r l h;omega
theorem unf_bound {text : List UInt8} {ls : List (List UInt8)} (h : unf text = some ls) : ∀ l ∈ ls,l.length <= text.length:=by
 intro l hl;unfold unf at h;split at h
 ·cases h
 ·obtain ⟨cs,hc,hj⟩:=Option.bind_eq_some_iff.1 h;obtain ⟨_,ht⟩:=(chop_iff text cs).1 hc;have h1:=joinL_tot cs [] ls hj;have h2:=crlf_tot cs;have h3:=mem_tot ls l hl;rw [<- ht] at h2;simp only [xi,xp,Nat.zero_add] at h1;omega
end Tt
