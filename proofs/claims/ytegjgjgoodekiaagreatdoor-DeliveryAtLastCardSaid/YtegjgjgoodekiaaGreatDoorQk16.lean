/- The reference's parser of an event, in plain words and in memory. The reference's event (function 116): exact. The reference's parser, in plain words, reads the lines of a valid feed as that feed. slices.DeleteFunc on lines: those that begin with X- are taken out, the others stay in their order. The lines of a text are not longer than the text. No program in sight. -/
import Derived.Test.YtegjgjgoodekiaaGreatDoorQk12
import Derived.Test.YtegjgjgoodekiaaGreatDoorQk13
import Derived.Test.YtegjgjgoodekiaaGreatDoorQk8
import Derived.BigQuiet
import Derived.Test.YtegjgjgoodekiaaGreatDoorUnfoldAll
import Derived.Test.YtegjgjgoodekiaaGreatDoorQk15
import Derived.Test.YtegjgjgoodekiaaGreatDoorPk18
import Derived.Test.YtegjgjgoodekiaaGreatDoorQk7
import Derived.Lib.SliceRun
import Derived.Test.YtegjgjgoodekiaaGreatDoorQk3
open Go.Value renaming int->ja,string->jc,slice->jd
open Go.IntKind renaming i64->jb
open Go.Ending renaming returned->jh
open List renaming length_append->xa,append_assoc->xb,getElem?_eq_some_iff->xc,map_append->xd,flatten_cons->xe,getElem?_eq_getElem->xg,length_cons->xh,flatten_nil->xi,length_take->xj,append_nil->xk,getElem?_append_right->xl,mem_cons_of_mem->xm,flatMap_cons->xn,length_drop->xo,length_nil->xp
open Nat renaming le_refl->xf,le_trans->xq
set_option maxRecDepth 100000
set_option maxHeartbeats 40000000
namespace Go.Proofs.YtegjgjgoodekiaaGreatDoor
open Go.RowKit
def LO(x:ByteArray)(k:List UInt8):ByteArray:=⟨(x.data.toList.drop k.length).toArray⟩
def EZ:List UInt8:=[85,73,68,58]
def E0:List UInt8:=[83,69,81,85,69,78,67,69,58]
def EB(z:List UInt8):List UInt8:=[68,84,83,84,65,82,84,59,84,90,73,68,61]++z++[58]
def Ej:List UInt8:=[68,85,82,65,84,73,79,78,58,80,84]
def E1:List UInt8:=[82,82,85,76,69,58]
def E3(z:List UInt8):List UInt8:=[69,88,68,65,84,69,59,84,90,73,68,61]++z++[58]
def E2(z:List UInt8):List UInt8:=[82,68,65,84,69,59,84,90,73,68,61]++z++[58]
def Fx:List UInt8:=[83,85,77,77,65,82,89,58]
def Fy:List UInt8:=[76,79,67,65,84,73,79,78,58]
def Io:List UInt8:=[83,84,65,84,85,83,58,67,65,78,67,69,76,76,69,68]
def Jh:List UInt8:=[69,78,68,58,86,69,86,69,78,84]
def AL(x:ByteArray)(k:List UInt8):Bool:=Lib.hasPrefix x.data.toList k
def BN(z:List UInt8)(s:Ev × ByteArray)(x:ByteArray):Ev × ByteArray:=
 if AL x EZ=true then({ s.1 with uid:=LO x EZ },s.2)
 else if AL x E0=true then({ s.1 with seq:=Tt.numR (LO x E0).data.toList },s.2)
 else if AL x (EB z)=true then({ s.1 with days:={ s.1.days with first:=(Tt.momR (LO x (EB z)).data.toList).1 },start:=(Tt.momR (LO x (EB z)).data.toList).2.1 },s.2)
 else if AL x Ej=true/\0<(LO x Ej).size then({ s.1 with mins:=Tt.numR ((LO x Ej).data.toList.take ((LO x Ej).size - 1)) },s.2)
 else if AL x E1=true then(s.1,LO x E1)
 else if AL x (E3 z)=true then({ s.1 with days:={ s.1.days with ex:=Tt.momsR (LO x (E3 z)).size (LO x (E3 z)).data.toList } },s.2)
 else if AL x (E2 z)=true then({ s.1 with days:={ s.1.days with xt:=Tt.momsR (LO x (E2 z)).size (LO x (E2 z)).data.toList } },s.2)
 else if AL x Fx=true then({ s.1 with summ:=B8 (LO x Fx).data.toList },s.2)
 else if AL x Fy=true then({ s.1 with loc:=B8 (LO x Fy).data.toList },s.2)
 else if x.data.toList=Io then({ s.1 with canc:=true },s.2)
 else s
def Bv(z:List UInt8):List ByteArray->Ev × ByteArray->(Ev × ByteArray) × List ByteArray
 | [],s=>(s,[])
 | x::r,s=>if x.data.toList=Jh then(s,x::r)else Bv z r (BN z s x)
def Wj:Ev:=⟨⟨#[]⟩,0,false,⟨0,0,0,0,[],[]⟩,0,0,⟨#[]⟩,⟨#[]⟩⟩
def M7(s:Ev × ByteArray):Ev:=
 { s.1 with days:={ s.1.days with last:=(Tt.parR s.1.days.first s.2.data.toList).last,every:=(Tt.parR s.1.days.first s.2.data.toList).every,wd:=(Tt.parR s.1.days.first s.2.data.toList).wd } }
section
variable {E R:Nat} {rs:Array Value} {e:Ev} {v v':Value} {w0 w:World}
end
theorem SD{z:List UInt8}{x:ByteArray}{r:List ByteArray}{s:Ev × ByteArray}(h:x.data.toList=Jh):Bv z (x::r) s=(s,x::r):=by rw[Bv,if_pos h]
theorem Bz{z:List UInt8}{x:ByteArray}{r:List ByteArray}{s:Ev × ByteArray}(h: ¬x.data.toList=Jh):Bv z (x::r) s=Bv z r (BN z s x):=by rw[Bv,if_neg h]
end Go.Proofs.YtegjgjgoodekiaaGreatDoor
namespace Tt
open Go
theorem Up(n:Nat):(Lib.decDigits n).all MR=true:=by
 induction n using Nat.strongRecOn with
 | ind n ih=>
  by_cases h:n<10
  ·rw[Lib.decDigits_one h];exact(show ∀n:Nat,n<10->[UInt8.ofNat (48+n)].all MR=true by decide) n h
  ·rw[CY h,List.all_append,ih (n / 10) (by omega),Bool.true_and];exact(show ∀n:Nat,n<10->[UInt8.ofNat (48+n)].all MR=true by decide) (n % 10) (by omega)
theorem SI(n:Nat):Oq (Lib.decDigits n)=n:=by
 induction n using Nat.strongRecOn with
 | ind n ih=>
  by_cases h:n<10
  ·rw[Lib.decDigits_one h];exact(show ∀n:Nat,n<10->Oq [UInt8.ofNat (48+n)]=(n:Int)by decide) n h
  ·have hd:=(show ∀n:Nat,n<10->(((UInt8.ofNat (48+n)).toNat:Int) - 48)=(n:Int)by decide) (n % 10) (by omega)
   rw[CY h,QN,ih (n / 10) (by omega),hd];omega
theorem Uo(n:Nat):1<=(Lib.decDigits n).length:=by
 obtain⟨b,r,h, -⟩:=JH n;rw[h];simp
theorem numR_dec{n:Int}(A:0<=n)(w:n<=100000):numR (Lib.decDigits n.toNat)=n:=by
 unfold numR;rw[if_pos ⟨Up _,Uo _,xq (dec_len 5 n.toNat (by show n.toNat<1000000;omega)) (by decide)⟩,SI];omega
theorem Iy: ∀n:Nat,n<100->numR (d2 n)=(n:Int):=by decide
theorem OY: ∀n:Nat,n<100->J6 (d2 n)=(n:Int):=by decide
theorem RQ: ∀n:Nat,n<100->numR (d4 (2000+n))=((2000+n:Nat):Int):=by decide
theorem RP: ∀n:Nat,n<100->J6 (d4 (2000+n))=((2000+n:Nat):Int):=by decide
theorem TN{n:Nat}(A:2000<=n)(w:n<=2099):numR (d4 n)=(n:Int):=by
 have:=RQ (n - 2000) (by omega);rwa [show 2000+(n - 2000)=n by omega]at this
theorem TM{n:Nat}(A:2000<=n)(w:n<=2099):J6 (d4 n)=(n:Int):=by
 have:=RP (n - 2000) (by omega);rwa [show 2000+(n - 2000)=n by omega]at this
theorem momR_stamp{day start:Int}(D:0<=day)(A:day<=36524)(s0:0<=start)(H:start<1440):momR (stampL day start)=(day,start,true):=by
 have hd:=date_some D A;obtain⟨a0,a1,J,M,c0,c1⟩:=date_toNat D A;have e1:(stampL day start).take 4=d4 (yOf day).toNat:=rfl;have e2:((stampL day start).drop 4).take 2=d2 (mOf day).toNat:=rfl;have G:((stampL day start).drop 6).take 2=d2 (dOf day).toNat:=rfl;have E:((stampL day start).drop 9).take 2=d2 (start / 60).toNat:=rfl;have F:((stampL day start).drop 11).take 2=d2 (start % 60).toNat:=rfl;have w:=hd.day;unfold momR;rw[if_neg (by rw[stampL_len];decide),e1,e2,G,E,F,TN (by omega) (by omega),Iy _ (by omega),Iy _ (by omega),Iy _ (by omega),Iy _ (by omega),
  show(((yOf day).toNat:Nat):Int)=yOf day by omega,show(((mOf day).toNat:Nat):Int)=mOf day by omega,show(((dOf day).toNat:Nat):Int)=dOf day by omega,w]
 refine Prod.ext rfl (Prod.ext ?_ rfl);show _*60+_=start
 omega
theorem momsR_stamps{start:Int}(s0:0<=start)(A:start<1440): ∀(ds:List Int) (n:Nat),ds.length<=n->(∀d∈ds,0<=d/\d<=36524)->momsR n (stampsL start ds)=ds
 | [],n,_,_=>by
  cases n with
  | zero=>rfl
  | succ n=>rw[momsR,if_neg (by show ¬15<=0;decide)]
 | [d],n,hn,hd=>by
  cases n with
  | zero=>cases hn
  | succ n=>
   obtain⟨D,w⟩:=hd d (by simp);have e1:(stampsL start [d]).take 15=stampL d start:=rfl;have e2:(stampsL start [d]).drop 16=[]:=rfl;rw[momsR,if_pos (by show 15<=15;decide),e1,e2,momR_stamp D w s0 A];cases n with
   | zero=>rfl
   | succ n=>rw[momsR,if_neg (by show ¬15<=0;decide)]
 | d::e::r,n,hn,hd=>by
  cases n with
  | zero=>cases hn
  | succ n=>
   obtain⟨D,w⟩:=hd d (by simp);have e1:(stampsL start (d::e::r)).take 15=stampL d start:=rfl;have e2:(stampsL start (d::e::r)).drop 16=stampsL start (e::r):=rfl;have E:15<=(stampsL start (d::e::r)).length:=by rw[stampsL,xa,stampL_len];omega
   rw[momsR,if_pos E,e1,e2,momR_stamp D w s0 A,momsR_stamps s0 A (e::r) n (by simpa using hn) (fun x hx=>hd x (xm _ hx))]
theorem stampsL_many(start:Int): ∀ds:List Int,ds.length<=(stampsL start ds).length
 | []=>xf _
 | [d]=>by show 1<=15;decide
 | d::e::r=>by
  have ih:=stampsL_many start (e::r);rw[stampsL,xa,xh (a:=44),stampL_len];simp only[xh]at ih ⊢;omega
theorem Pu(a b c:Nat)(ha:a<8)(hb:b<4)(hc:c<4):Ra 30 (byL ((16*a+4*b+c:Nat):Int) 7) 0=16*a+4*b+c:=by
 match a,ha with
 | 0,_ | 1,_ | 2,_ | 3,_ | 4,_ | 5,_ | 6,_ | 7,_=>
  match b,hb with
  | 0,_ | 1,_ | 2,_ | 3,_=>
   match c,hc with
   | 0,_ | 1,_ | 2,_ | 3,_=>show _=_;kernel_rfl
theorem LU: ∀(n m:Nat) (l:List UInt8) (v:Nat),l.length<=n->l.length<=m->Ra n l v=Ra m l v
 | 0,m,l,v,hn,_=>by rw[Iu v (by omega),Iu v (by omega)]
 | n+1,m,l,v,hn,hm=>by
  by_cases h:2<=l.length
  ·rw[Q8 v h (by omega),Q8 (n:=m) v h (by omega)];exact LU n (m - 1) _ _ (by rw[xo];omega) (by rw[xo];omega)
  ·rw[Iu v (by omega),Iu v (by omega)]
theorem Q9{n:Int}(D:0<=n)(A:n<=127)(k:Nat)(hk:(byL n 7).length<=k):(Ra k (byL n 7) 0:Int)=n:=by
 have h:=Pu (n.toNat / 16) (n.toNat / 4 % 4) (n.toNat % 4) (by omega) (by omega) (by omega);have w:16*(n.toNat / 16)+4*(n.toNat / 4 % 4)+n.toNat % 4=n.toNat:=by omega
 rw[w,show((n.toNat:Nat):Int)=n by omega]at h;have hl:=byL_len n 7 (xf _);rw[LU k 30 _ _ hk (by omega),h];omega
def bare(s:Ser):Ser:=⟨s.first,s.last,s.every,s.wd,[],[]⟩
theorem Uy{s:Ser}(h:serV s=0):serV (bare s)=0:=by
 obtain⟨hh, -, -⟩:=(serV_zero s).1 h;exact(serV_zero _).2 ⟨⟨hh.f0,hh.f1,hh.l0,hh.l1,hh.fl,hh.lf,hh.e0,hh.e1,hh.w0,hh.w1,by show((0:Nat):Int)+((0:Nat):Int)<=140;omega⟩,rfl,rfl⟩
theorem parR_rule{s:Ser}(h:serV s=0):parR s.first (ruleL s)=bare s:=by
 obtain⟨hh, -, -⟩:=(serV_zero s).1 h;have hb:=Uy h;obtain⟨a0,a1,X,Y,c0,c1⟩:=date_toNat hh.l0 hh.l1;have hd:=(date_some hh.l0 hh.l1).day;have Z:=hh.e0;have h2:=hh.e1;have hl:=byL_len s.wd 7 (xf _);obtain⟨A,H⟩: ∃A:List UInt8,A=[70,82,69,81,61,87,69,69,75,76,89,59,73,78,84,69,82,86,65,76,61]:=⟨_,rfl⟩
 obtain⟨C,J⟩: ∃C:List UInt8,C=[59,66,89,68,65,89,61]:=⟨_,rfl⟩
 obtain⟨U,M⟩: ∃U:List UInt8,U=[59,85,78,84,73,76,61]:=⟨_,rfl⟩
 have E:A.length=21:=by rw[H];rfl
 have F:C.length=7:=by rw[J];rfl
 have O:U.length=7:=by rw[M];rfl
 have hr:ruleL s=A++([UInt8.ofNat (48+s.every.toNat)]++(C++(byL s.wd 7++(U++dateL s.last)))):=by
  unfold ruleL;rw[Lib.decDigits_one (by omega),H,J,M];simp only[xb]
 have D:(ruleL s).length=(byL s.wd 7).length+44:=by rw[hr];simp only[xa,E,F,O,dateL_len,List.length_singleton];omega
 have e1:((ruleL s).drop 21).take 1=[UInt8.ofNat (48+s.every.toNat)]:=by rw[hr,List.drop_left' E];rfl
 have e2:(ruleL s).drop ((ruleL s).length - 8)=dateL s.last:=by
  rw[D,hr,show A++([UInt8.ofNat (48+s.every.toNat)]++(C++(byL s.wd 7++(U++dateL s.last))))=(A++([UInt8.ofNat (48+s.every.toNat)]++(C++(byL s.wd 7++U))))++dateL s.last by simp only[xb]];refine List.drop_left' ?_;simp only[xa,E,F,O,List.length_singleton];omega
 have T:((ruleL s).take ((ruleL s).length - 15)).drop 29=byL s.wd 7:=by
  rw[D,hr,show A++([UInt8.ofNat (48+s.every.toNat)]++(C++(byL s.wd 7++(U++dateL s.last))))=((A++([UInt8.ofNat (48+s.every.toNat)]++C))++byL s.wd 7)++(U++dateL s.last)by simp only[xb]];rw[List.take_left' (by simp only[xa,E,F,List.length_singleton];omega)];exact List.drop_left' (by simp only[xa,E,F,List.length_singleton])
 have hn:J6 [UInt8.ofNat (48+s.every.toNat)]=s.every:=by
  have:=(show ∀n:Nat,n<10->J6 [UInt8.ofNat (48+n)]=(n:Int)by decide) s.every.toNat (by omega);rw[this];omega
 have V:(dateL s.last).take 4=d4 (yOf s.last).toNat:=rfl;have R:((dateL s.last).drop 4).take 2=d2 (mOf s.last).toNat:=rfl;have f3:(dateL s.last).drop 6=d2 (dOf s.last).toNat:=rfl;have w:Us (ruleL s)=(s.last,0):=by
  unfold Us;rw[e2,V,R,f3,TM (by omega) (by omega),OY _ (by omega),OY _ (by omega),
   show(((yOf s.last).toNat:Nat):Int)=yOf s.last by omega,show(((mOf s.last).toNat:Nat):Int)=mOf s.last by omega,show(((dOf s.last).toNat:Nat):Int)=dOf s.last by omega,hd]
 have hp:RL s.first (ruleL s)=bare s:=by
  unfold RL bare;rw[w,e1,hn,T,Q9 hh.w0 hh.w1 _ (by omega)]
 have G:ruleL (bare s)=ruleL s:=rfl;have hf:isD s.first=true:=(isD_iff _).2 ⟨hh.f0,hh.f1⟩;unfold parR;rw[if_neg (by rw[hf];decide),if_neg (by omega),e1,hn,if_neg (by omega),w,if_neg (fun h=>h rfl),hp,if_neg (fun h=>h G),if_neg (fun h=>h hb)]
end Tt
namespace Go.Proofs.YtegjgjgoodekiaaGreatDoor
open Go.RowKit
theorem Ar(l:List UInt8):(str l).data.toList=l:=rfl
theorem Cd(k r:List UInt8):AL (str (k++r)) k=true:=by
 unfold AL Lib.hasPrefix;rw[Ar];exact List.isPrefixOf_iff_prefix.2 ⟨r,rfl⟩
theorem CJ(k r:List UInt8):LO (str (k++r)) k=str r:=by
 unfold LO str;rw[List.drop_left' rfl]
theorem Ad{a b:UInt8}(l m:List UInt8)(h:(b==a)=false):AL (str (a::l)) (b::m)=false:=by
 unfold AL Lib.hasPrefix;rw[Ar,List.isPrefixOf,h,Bool.false_and]
theorem CQ{a b c:UInt8}(l m:List UInt8)(h:(b==a)=false):AL (str (c::a::l)) (c::b::m)=false:=by
 unfold AL Lib.hasPrefix;rw[Ar,List.isPrefixOf,List.isPrefixOf,h,Bool.false_and,Bool.and_false]
theorem AY{α:Type}{b:Bool}{x y:α}(h:b=false):(if b=true then x else y)=y:=by rw[h];rfl
theorem Kd{α:Type}{b:Bool}{x y:α}(h:b=true):(if b=true then x else y)=x:=by rw[h];rfl
section
variable (z:List UInt8) (s:Ev × ByteArray) (r:List UInt8)
theorem PE:BN z s (str (EZ++r))=({ s.1 with uid:=str r },s.2):=by
 unfold BN;rw[Kd (Cd EZ r),CJ]
theorem PG:BN z s (str (E0++r))=({ s.1 with seq:=Tt.numR r },s.2):=by
 unfold BN;rw[AY (show AL (str (E0++r)) EZ=false from Ad _ _ rfl),Kd (Cd E0 r),CJ,Ar]
theorem PM:BN z s (str (EB z++r))=({ s.1 with days:={ s.1.days with first:=(Tt.momR r).1 },start:=(Tt.momR r).2.1 },s.2):=by
 unfold BN;rw[AY (show AL (str (EB z++r)) EZ=false from Ad _ _ rfl),AY (show AL (str (EB z++r)) E0=false from Ad _ _ rfl),Kd (Cd (EB z) r),CJ,Ar]
theorem PL(c:UInt8):BN z s (str (Ej++(r++[c])))=({ s.1 with mins:=Tt.numR r },s.2):=by
 unfold BN;have hz:(str (r++[c])).size=r.length+1:=by rw[Lib.size_eq,Ar,xa];rfl
 rw[AY (show AL (str (Ej++(r++[c]))) EZ=false from Ad _ _ rfl),AY (show AL (str (Ej++(r++[c]))) E0=false from Ad _ _ rfl),AY (show AL (str (Ej++(r++[c]))) (EB z)=false from CQ _ _ rfl),CJ,if_pos ⟨Cd Ej _,by rw[hz];omega⟩,Ar,hz,Nat.add_sub_cancel,List.take_left' rfl]
theorem Dx{x:ByteArray}{k:List UInt8}{q:Prop}(h:AL x k=false): ¬(AL x k=true/\q):=fun hh=>by rw[h]at hh;cases hh.1
theorem PH:BN z s (str (E1++r))=(s.1,str r):=by
 unfold BN;rw[AY (show AL (str (E1++r)) EZ=false from Ad _ _ rfl),AY (show AL (str (E1++r)) E0=false from Ad _ _ rfl),AY (show AL (str (E1++r)) (EB z)=false from Ad _ _ rfl),if_neg (Dx (show AL (str (E1++r)) Ej=false from Ad _ _ rfl)),Kd (Cd E1 r),CJ]
theorem PK:BN z s (str (E3 z++r))=({ s.1 with days:={ s.1.days with ex:=Tt.momsR r.length r } },s.2):=by
 unfold BN;rw[AY (show AL (str (E3 z++r)) EZ=false from Ad _ _ rfl),AY (show AL (str (E3 z++r)) E0=false from Ad _ _ rfl),AY (show AL (str (E3 z++r)) (EB z)=false from Ad _ _ rfl),if_neg (Dx (show AL (str (E3 z++r)) Ej=false from Ad _ _ rfl)),AY (show AL (str (E3 z++r)) E1=false from Ad _ _ rfl),Kd (Cd (E3 z) r),CJ,Ar,Lib.size_eq,Ar]
theorem PI:BN z s (str (E2 z++r))=({ s.1 with days:={ s.1.days with xt:=Tt.momsR r.length r } },s.2):=by
 unfold BN;rw[AY (show AL (str (E2 z++r)) EZ=false from Ad _ _ rfl),AY (show AL (str (E2 z++r)) E0=false from Ad _ _ rfl),AY (show AL (str (E2 z++r)) (EB z)=false from Ad _ _ rfl),if_neg (Dx (show AL (str (E2 z++r)) Ej=false from Ad _ _ rfl)),AY (show AL (str (E2 z++r)) E1=false from CQ _ _ rfl),AY (show AL (str (E2 z++r)) (E3 z)=false from Ad _ _ rfl),Kd (Cd (E2 z) r),CJ,Ar,Lib.size_eq,Ar]
theorem PF:BN z s (str (Fx++r))=({ s.1 with summ:=B8 r },s.2):=by
 unfold BN;rw[AY (show AL (str (Fx++r)) EZ=false from Ad _ _ rfl),AY (show AL (str (Fx++r)) E0=false from CQ _ _ rfl),AY (show AL (str (Fx++r)) (EB z)=false from Ad _ _ rfl),if_neg (Dx (show AL (str (Fx++r)) Ej=false from Ad _ _ rfl)),AY (show AL (str (Fx++r)) E1=false from Ad _ _ rfl),AY (show AL (str (Fx++r)) (E3 z)=false from Ad _ _ rfl),AY (show AL (str (Fx++r)) (E2 z)=false from Ad _ _ rfl),Kd (Cd Fx r),CJ,Ar]
theorem PJ:BN z s (str (Fy++r))=({ s.1 with loc:=B8 r },s.2):=by
 unfold BN;rw[AY (show AL (str (Fy++r)) EZ=false from Ad _ _ rfl),AY (show AL (str (Fy++r)) E0=false from Ad _ _ rfl),AY (show AL (str (Fy++r)) (EB z)=false from Ad _ _ rfl),if_neg (Dx (show AL (str (Fy++r)) Ej=false from Ad _ _ rfl)),AY (show AL (str (Fy++r)) E1=false from Ad _ _ rfl),AY (show AL (str (Fy++r)) (E3 z)=false from Ad _ _ rfl),AY (show AL (str (Fy++r)) (E2 z)=false from Ad _ _ rfl),AY (show AL (str (Fy++r)) Fx=false from Ad _ _ rfl),Kd (Cd Fy r),CJ,Ar]
theorem PO:BN z s (str Io)=({ s.1 with canc:=true },s.2):=by
 unfold BN;rw[AY (show AL (str Io) EZ=false from Ad _ _ rfl),AY (show AL (str Io) E0=false from CQ _ _ rfl),AY (show AL (str Io) (EB z)=false from Ad _ _ rfl),if_neg (Dx (show AL (str Io) Ej=false from Ad _ _ rfl)),AY (show AL (str Io) E1=false from Ad _ _ rfl),AY (show AL (str Io) (E3 z)=false from Ad _ _ rfl),AY (show AL (str Io) (E2 z)=false from Ad _ _ rfl),AY (show AL (str Io) Fx=false from CQ _ _ rfl),AY (show AL (str Io) Fy=false from Ad _ _ rfl),if_pos (Ar _)]
theorem PN:BN z s (str [83,84,65,84,85,83,58,67,79,78,70,73,82,77,69,68])=s:=by
 unfold BN;rw[AY (show AL (str [83,84,65,84,85,83,58,67,79,78,70,73,82,77,69,68]) EZ=false from Ad _ _ rfl),AY (show AL (str [83,84,65,84,85,83,58,67,79,78,70,73,82,77,69,68]) E0=false from CQ _ _ rfl),AY (show AL (str [83,84,65,84,85,83,58,67,79,78,70,73,82,77,69,68]) (EB z)=false from Ad _ _ rfl),if_neg (Dx (show AL (str [83,84,65,84,85,83,58,67,79,78,70,73,82,77,69,68]) Ej=false from Ad _ _ rfl)),AY (show AL (str [83,84,65,84,85,83,58,67,79,78,70,73,82,77,69,68]) E1=false from Ad _ _ rfl),AY (show AL (str [83,84,65,84,85,83,58,67,79,78,70,73,82,77,69,68]) (E3 z)=false from Ad _ _ rfl),AY (show AL (str [83,84,65,84,85,83,58,67,79,78,70,73,82,77,69,68]) (E2 z)=false from Ad _ _ rfl),AY (show AL (str [83,84,65,84,85,83,58,67,79,78,70,73,82,77,69,68]) Fx=false from CQ _ _ rfl),AY (show AL (str [83,84,65,84,85,83,58,67,79,78,70,73,82,77,69,68]) Fy=false from Ad _ _ rfl),if_neg (by rw[Ar];decide)]
theorem PQ:BN z s (str [66,69,71,73,78,58,86,69,86,69,78,84])=s:=by
 unfold BN;rw[AY (show AL (str [66,69,71,73,78,58,86,69,86,69,78,84]) EZ=false from Ad _ _ rfl),AY (show AL (str [66,69,71,73,78,58,86,69,86,69,78,84]) E0=false from Ad _ _ rfl),AY (show AL (str [66,69,71,73,78,58,86,69,86,69,78,84]) (EB z)=false from Ad _ _ rfl),if_neg (Dx (show AL (str [66,69,71,73,78,58,86,69,86,69,78,84]) Ej=false from Ad _ _ rfl)),AY (show AL (str [66,69,71,73,78,58,86,69,86,69,78,84]) E1=false from Ad _ _ rfl),AY (show AL (str [66,69,71,73,78,58,86,69,86,69,78,84]) (E3 z)=false from Ad _ _ rfl),AY (show AL (str [66,69,71,73,78,58,86,69,86,69,78,84]) (E2 z)=false from Ad _ _ rfl),AY (show AL (str [66,69,71,73,78,58,86,69,86,69,78,84]) Fx=false from Ad _ _ rfl),AY (show AL (str [66,69,71,73,78,58,86,69,86,69,78,84]) Fy=false from Ad _ _ rfl),if_neg (by rw[Ar];decide)]
end
theorem Dw{a:UInt8}{l:List UInt8}(h:a≠69): ¬(a::l)=Jh:=fun he=>h (by injection he)
theorem RS{a b:UInt8}{l:List UInt8}(h:b≠78): ¬(a::b::l)=Jh:=fun he=>h (by injection he with A w;injection w)
section
variable (z:List UInt8) (s:Ev × ByteArray) (u:List UInt8) (r:List ByteArray)
theorem Vk:Bv z (str (EZ++u)::r) s=Bv z r ({ s.1 with uid:=str u },s.2):=by
 rw[Bz (by rw[Ar];exact Dw (by decide)),PE]
theorem Vm:Bv z (str (E0++u)::r) s=Bv z r ({ s.1 with seq:=Tt.numR u },s.2):=by
 rw[Bz (by rw[Ar];exact Dw (by decide)),PG]
theorem Vs:Bv z (str (EB z++u)::r) s=Bv z r ({ s.1 with days:={ s.1.days with first:=(Tt.momR u).1 },start:=(Tt.momR u).2.1 },s.2):=by
 rw[Bz (by rw[Ar];exact Dw (by decide)),PM]
theorem Vr(c:UInt8):Bv z (str (Ej++u++[c])::r) s=Bv z r ({ s.1 with mins:=Tt.numR u },s.2):=by
 rw[xb,Bz (by rw[Ar];exact Dw (by decide)),PL]
theorem Vn:Bv z (str (E1++u)::r) s=Bv z r (s.1,str u):=by
 rw[Bz (by rw[Ar];exact Dw (by decide)),PH]
theorem Vq:Bv z (str (E3 z++u)::r) s=Bv z r ({ s.1 with days:={ s.1.days with ex:=Tt.momsR u.length u } },s.2):=by
 rw[Bz (by rw[Ar];exact RS (by decide)),PK]
theorem Vo:Bv z (str (E2 z++u)::r) s=Bv z r ({ s.1 with days:={ s.1.days with xt:=Tt.momsR u.length u } },s.2):=by
 rw[Bz (by rw[Ar];exact Dw (by decide)),PI]
theorem Vl:Bv z (str (Fx++u)::r) s=Bv z r ({ s.1 with summ:=B8 u },s.2):=by
 rw[Bz (by rw[Ar];exact Dw (by decide)),PF]
theorem Vp:Bv z (str (Fy++u)::r) s=Bv z r ({ s.1 with loc:=B8 u },s.2):=by
 rw[Bz (by rw[Ar];exact Dw (by decide)),PJ]
theorem Vu:Bv z (str Io::r) s=Bv z r ({ s.1 with canc:=true },s.2):=by
 rw[Bz (by rw[Ar];decide),PO]
theorem Vt:Bv z (str [83,84,65,84,85,83,58,67,79,78,70,73,82,77,69,68]::r) s=Bv z r s:=by
 rw[Bz (by rw[Ar];decide),PN]
theorem Vv:Bv z (str [66,69,71,73,78,58,86,69,86,69,78,84]::r) s=Bv z r s:=by
 rw[Bz (by rw[Ar];decide),PQ]
theorem Sl:Bv z (str Jh::r) s=(s,str Jh::r):=SD (Ar _)
end
theorem II(s:ByteArray):B8 (Tt.esc s.data.toList)=s:=by
 unfold B8;rw[Tt.unesc_esc];rfl
theorem Rk(s:ByteArray):str s.data.toList=s:=rfl
theorem SE(e:Ev)(z:List UInt8)(R:List (List UInt8))(r:List ByteArray):(Ke e z++R).map str++r=str [66,69,71,73,78,58,86,69,86,69,78,84]::str (EZ++e.uid.data.toList)::str (E0++Lib.decDigits e.seq.toNat)::str (EB z++Tt.stampL e.days.first e.start)::str (Ej++Lib.decDigits e.mins.toNat++[77])::str (E1++Tt.ruleL e.days)::(R.map str++r):=rfl
section
variable {u:ByteArray} {q f l ev wd st mi:Int} {c:Bool} {a b t:ByteArray}
theorem WK(e:Ev)(z:List UInt8)(r:List ByteArray)(A:0<=e.start)(w:e.start<1440)(hd: ∀d∈e.days.ex,0<=d/\d<=36524):Bv z ((JX e z).map str++r) (⟨u,q,c,⟨f,l,ev,wd,[],[]⟩,st,mi,a,b⟩,t)=Bv z r (⟨u,q,c,⟨f,l,ev,wd,e.days.ex,[]⟩,st,mi,a,b⟩,t):=by
 unfold JX;by_cases h:e.days.ex=[]
 ·rw[if_pos h,h];rfl
 ·rw[if_neg h];refine(Vq z _ (Tt.stampsL e.start e.days.ex) r).trans ?_;rw[Tt.momsR_stamps A w _ _ (Tt.stampsL_many _ _) hd]
theorem WM(e:Ev)(z:List UInt8)(r:List ByteArray)(w:0<=e.start)(A:e.start<1440)(hd: ∀d∈e.days.xt,0<=d/\d<=36524)(xs:List Int):Bv z ((JY e z).map str++r) (⟨u,q,c,⟨f,l,ev,wd,xs,[]⟩,st,mi,a,b⟩,t)=Bv z r (⟨u,q,c,⟨f,l,ev,wd,xs,e.days.xt⟩,st,mi,a,b⟩,t):=by
 unfold JY;by_cases h:e.days.xt=[]
 ·rw[if_pos h,h];rfl
 ·rw[if_neg h];refine(Vo z _ (Tt.stampsL e.start e.days.xt) r).trans ?_;rw[Tt.momsR_stamps w A _ _ (Tt.stampsL_many _ _) hd]
theorem WL(e:Ev)(z:List UInt8)(r:List ByteArray)(s:Tt.Ser):Bv z ((Oi e).map str++r) (⟨u,q,c,s,st,mi,a,b⟩,t)=Bv z r (⟨u,q,c,s,st,mi,e.summ,b⟩,t):=by
 refine(Vl z _ (Tt.esc e.summ.data.toList) r).trans ?_;rw[II]
theorem WN(e:Ev)(z:List UInt8)(r:List ByteArray)(s:Tt.Ser):Bv z ((Ly e).map str++r) (⟨u,q,c,s,st,mi,a,⟨#[]⟩⟩,t)=Bv z r (⟨u,q,c,s,st,mi,a,e.loc⟩,t):=by
 unfold Ly;by_cases h:e.loc=⟨#[]⟩
 ·rw[if_pos h,h];rfl
 ·rw[if_neg h];refine(Vp z _ (Tt.esc e.loc.data.toList) r).trans ?_;rw[II]
theorem WO(e:Ev)(z:List UInt8)(r:List ByteArray)(s:Tt.Ser):Bv z ((LN e).map str++r) (⟨u,q,false,s,st,mi,a,b⟩,t)=((⟨u,q,e.canc,s,st,mi,a,b⟩,t),str Jh::r):=by
 unfold LN;cases hc:e.canc
 ·rw[if_neg (by decide)];exact(Vt z _ (str Jh::r)).trans (Sl z _ r)
 ·rw[if_pos rfl];exact(Vu z _ (str Jh::r)).trans (Sl z _ r)
end
theorem Om{e:Ev}{v:Int}(h:Ax e v=0)(hv:v<=64)(z:List UInt8)(r:List ByteArray):
  ∃t:Ev × ByteArray,Bv z ((Ao e z).map str++r) (Wj,⟨#[]⟩)=(t,str Jh::r)/\M7 t=e:=by
 obtain⟨E,G,A, -,w,D,H,F, -, -, -⟩:=CS h;obtain⟨hx,hy⟩:=Fm A;obtain⟨hh, -, -⟩:=(Tt.serV_zero e.days).1 A;refine⟨(⟨e.uid,e.seq,e.canc,⟨e.days.first,0,0,0,e.days.ex,e.days.xt⟩,e.start,e.mins,e.summ,e.loc⟩,str (Tt.ruleL e.days)),?_,?_⟩
 ·have hl:(Ao e z).map str++r=(Ke e z++(JX e z++(JY e z++(Oi e++(Ly e++LN e))))).map str++r:=by unfold Ao;simp only[xb]
  rw[hl,SE,Vv,Vk,Vm,Vs,Vr,Vn,Tt.momR_stamp hh.f0 hh.f1 w D,Tt.numR_dec (by omega) (by omega),Tt.numR_dec (by omega) (by omega)];rw[xd,xb];refine(WK e z _ w D hx).trans ?_;rw[xd,xb];refine(WM e z _ w D hy _).trans ?_;rw[xd,xb];refine(WL e z _ _).trans ?_;rw[xd,xb];refine(WN e z _ _).trans ?_;exact WO e z r _
 ·unfold M7;simp only[Ar];rw[Tt.parR_rule A];rfl
def Sb:List UInt8:=[78,65,77,69,58]
def Sa:List UInt8:=[82,69,86,73,83,73,79,78,58]
def MO:List UInt8:=[66,69,71,73,78,58,86,69,86,69,78,84]
def DT(n x:ByteArray):ByteArray:=if AL x Sb=true then LO x Sb else n
def GY(v:Int)(x:ByteArray):Int:=if AL x Sa=true then Tt.numR (LO x Sa).data.toList else v
def CO(z:List UInt8):Nat->List ByteArray->ByteArray × Int × List Ev->ByteArray × Int × List Ev
 | 0,_,s=>s
 | _+1,[],s=>s
 | m+1,x::r,s=>if x.data.toList=MO then CO z m ((Bv z (x::r) (Wj,⟨#[]⟩)).2.drop 1) (DT s.1 x,GY s.2.1 x,s.2.2++[M7 (Bv z (x::r) (Wj,⟨#[]⟩)).1])else CO z m r (DT s.1 x,GY s.2.1 x,s.2.2)
theorem Ru(z:List UInt8)(m:Nat)(s:ByteArray × Int × List Ev):CO z m [] s=s:=by cases m<;>rfl
theorem Dh(z:List UInt8)(m:Nat)(x:ByteArray)(r:List ByteArray)(s:ByteArray × Int × List Ev)(h: ¬x.data.toList=MO):CO z (m+1) (x::r) s=CO z m r (DT s.1 x,GY s.2.1 x,s.2.2):=by rw[CO,if_neg h]
theorem NU(z:List UInt8)(m:Nat)(x:ByteArray)(r:List ByteArray)(s:ByteArray × Int × List Ev)(h:x.data.toList=MO):CO z (m+1) (x::r) s=CO z m ((Bv z (x::r) (Wj,⟨#[]⟩)).2.drop 1) (DT s.1 x,GY s.2.1 x,s.2.2++[M7 (Bv z (x::r) (Wj,⟨#[]⟩)).1]):=by rw[CO,if_pos h]
theorem Ht(z:List UInt8)(v:Int)(hv:v<=64)(r:List ByteArray): ∀(es:List Ev) (m:Nat) (n:ByteArray) (V:Int) (w:List Ev),(∀e∈es,Ax e v=0)->es.length<=m->
  CO z m ((es.flatMap fun e=>Ao e z).map str++r) (n,V,w)=CO z (m - es.length) r (n,V,w++es)
 | [],m,n,V,w,_,_=>by simp
 | e::es,m,n,V,w,h,hm=>by
  obtain⟨m,rfl⟩: ∃k,m=k+1:=⟨m - 1,by simp at hm;omega⟩
  obtain⟨t,A,D⟩:=Om (h e (by simp)) hv z ((es.flatMap fun e=>Ao e z).map str++r);have hb:(Ao e z).map str++((es.flatMap fun e=>Ao e z).map str++r)=str MO::(((Ao e z).map str).drop 1++((es.flatMap fun e=>Ao e z).map str++r)):=by
   unfold Ao Ke;rfl
  rw[xn,xd,xb,hb,NU z m _ _ _ (Ar _),<-hb,A];show CO z m (((es.flatMap fun e=>Ao e z).map str++r)) (DT n (str MO),GY V (str MO),w++[M7 t])=_
  rw[D,show DT n (str MO)=n from AY (Ad _ _ rfl),show GY V (str MO)=V from AY (Ad _ _ rfl)];rw[Ht z v hv r es m n V (w++[e]) (fun x hx=>h x (xm _ hx)) (by simpa using hm)];rw[xb,xh,Nat.add_sub_add_right];rfl
theorem Qf{n:ByteArray}{v:Int}{es:List Ev}(h:Aq n v es=0)(z:List UInt8)(m:Nat)(hm:es.length+6<=m):CO z m ((AI n.data.toList v es z).map str) (⟨#[]⟩,0,[])=(n,v,es):=by
 obtain⟨w,A, -,E⟩:=BC h;have J: ∀e∈es,Ax e v=0:=fun e he=>(By v es none E e he).2
 obtain⟨m,rfl⟩: ∃k,m=k+6:=⟨m - 6,by omega⟩
 have hl:(AI n.data.toList v es z).map str=str [66,69,71,73,78,58,86,67,65,76,69,78,68,65,82]::str [86,69,82,83,73,79,78,58,50,46,48]::str [80,82,79,68,73,68,58,45,47,47,116,105,109,101,116,97,98,108,101,47,47,69,78]::str (Sb++n.data.toList)::str (Sa++Lib.decDigits v.toNat)::((es.flatMap fun e=>Ao e z).map str++[str [69,78,68,58,86,67,65,76,69,78,68,65,82]]):=by
  unfold AI CI;rw[xd,xd,xb];rfl
 rw[hl,Dh _ _ _ _ _ (by rw[Ar];decide),Dh _ _ _ _ _ (by rw[Ar];decide),Dh _ _ _ _ _ (by rw[Ar];decide),Dh _ _ _ _ _ (by rw[Ar];exact fun he=>by injection he with D R;cases D),Dh _ _ _ _ _ (by rw[Ar];exact fun he=>by injection he with D R;cases D)];have a1: ∀x:ByteArray,DT x (str [66,69,71,73,78,58,86,67,65,76,69,78,68,65,82])=x:=fun x=>AY (Ad _ _ rfl)
 have a2: ∀x:ByteArray,DT x (str [86,69,82,83,73,79,78,58,50,46,48])=x:=fun x=>AY (Ad _ _ rfl)
 have a3: ∀x:ByteArray,DT x (str [80,82,79,68,73,68,58,45,47,47,116,105,109,101,116,97,98,108,101,47,47,69,78])=x:=fun x=>AY (Ad _ _ rfl)
 have a4: ∀x:ByteArray,DT x (str (Sb++n.data.toList))=n:=fun x=>by unfold DT;rw[Kd (Cd _ _),CJ,Rk]
 have a5: ∀x:ByteArray,DT x (str (Sa++Lib.decDigits v.toNat))=x:=fun x=>AY (Ad _ _ rfl)
 have G: ∀x:Int,GY x (str [66,69,71,73,78,58,86,67,65,76,69,78,68,65,82])=x:=fun x=>AY (Ad _ _ rfl)
 have M: ∀x:Int,GY x (str [86,69,82,83,73,79,78,58,50,46,48])=x:=fun x=>AY (Ad _ _ rfl)
 have O: ∀x:Int,GY x (str [80,82,79,68,73,68,58,45,47,47,116,105,109,101,116,97,98,108,101,47,47,69,78])=x:=fun x=>AY (Ad _ _ rfl)
 have H: ∀x:Int,GY x (str (Sb++n.data.toList))=x:=fun x=>AY (Ad _ _ rfl)
 have F: ∀x:Int,GY x (str (Sa++Lib.decDigits v.toNat))=v:=fun x=>by unfold GY;rw[Kd (Cd _ _),CJ,Ar,Tt.numR_dec w (by omega)]
 simp only[a1,a2,a3,a4,a5,G,M,O,H,F];rw[Ht z v A _ es (m+1) n v [] J (by omega)];obtain⟨k,hk⟩: ∃k,m+1 - es.length=k+1:=⟨m - es.length,by omega⟩
 rw[hk,Dh _ _ _ _ _ (by rw[Ar];decide),Ru,List.nil_append];have e1:DT n (str [69,78,68,58,86,67,65,76,69,78,68,65,82])=n:=AY (Ad _ _ rfl);have e2:GY v (str [69,78,68,58,86,67,65,76,69,78,68,65,82])=v:=AY (Ad _ _ rfl);exact Prod.ext e1 (Prod.ext e2 rfl)
def O4(x:ByteArray):Bool:=Lib.hasPrefix x.data.toList [88,45]
def AA(xs:List ByteArray):List ByteArray:=xs.filter fun x=>!O4 x
def VW(xs:List ByteArray)(w:World)(e:Ending)(w':World):Prop:=((e=jh (ja jb (-1))/\ ∀x∈xs,O4 x=false)∨ ∃k:Nat,e=jh (ja jb k)/\k<xs.length/\(∀j x,j<k->xs[j]?=some x->O4 x=false)/\ ∃x,xs[k]?=some x/\O4 x=true)/\ ∃q,w'=w.drewN q
theorem Sg(ao:Option Addr)(c:Nat)(xs:List ByteArray)(w:World)(hn:xs.length<=9223372036854775806)(M:BW w ao xs):
  Calls Tryz.prog 98 #[jd ao xs.length c,.func (.func 68) #[] #[]] w (VW xs w):=by
 have R:=Lh M;clear M;go_enter Tryz.func98,Tryz.ntmps98;go_wp2_with fail;go_loopw [8] (fun i wr=> ∃k q:Nat,k<=xs.length/\i=ja jb k/\wr=w.drewN q/\Hid (∀j x,j<k->xs[j]?=some x->O4 x=false)) (fun i _=>xs.length - (intOf i).toNat)
 case atStart=>exact⟨0,0,Nat.zero_le _,rfl,rfl,Lh (fun j x h=>absurd h (Nat.not_lt_zero _))⟩
 case round=>
  obtain⟨k,q,hk,rfl,rfl,H⟩:=hrel;by_cases D:k<xs.length
  ·obtain⟨x,hx⟩: ∃x,xs[k]?=some x:=⟨_,xg D⟩
   obtain⟨a,rfl,ha⟩:=R.o k x hx;have T:(k:Int)<(xs.length:Int):=by omega
   have F:=Lh hx;obtain⟨G,E⟩: ∃G,G=O4 x:=⟨_,rfl⟩
   have A:=Lh E;clear hx E;go_wp2_with fail;refine(G5 _ _).mono ?_;rintro e w2 ⟨rfl,O⟩;rw[O,show Lib.hasPrefix x.data.toList [88,45]=G from A.o.symm];clear O w2;cases G
   ·go_wp2_with fail;go_roundw
    case rel=>
     refine⟨k+1,_,by omega,by go_num,rfl,Lh ?_⟩;intro j y hj hy;rcases Nat.lt_or_ge j k with h | h
     ·exact H.o j y h hy
     ·obtain rfl:j=k:=by omega
      rw[F.o]at hy;cases hy;exact A.o.symm
    case measure=>simp[intOf];omega
   ·go_wp2_with fail;go_ret;refine⟨.inr ⟨k,?_,D,H.o,x,F.o,A.o.symm⟩,_,rfl⟩;rfl
  ·have J:k=xs.length:=by omega
   go_wp2_with fail;go_ret;refine⟨.inl ⟨rfl,fun x hx=>?_⟩,_,rfl⟩;obtain⟨j,hj⟩:=List.mem_iff_getElem?.1 hx;exact H.o j x (by rw[J];exact(xc.1 hj).1) hj
theorem KK{xs:List ByteArray}(h: ∀x∈xs,O4 x=false):AA xs=xs:=by
 unfold AA;rw[List.filter_eq_self];intro x hx;rw[h x hx];rfl
theorem CP{xs:List ByteArray}{k:Nat}{x:ByteArray}(hx:xs[k]?=some x):AA (xs.take (k+1))=if O4 x=true then AA (xs.take k)else AA (xs.take k)++[x]:=by
 obtain⟨w,A⟩:=xc.1 hx;unfold AA;rw[List.take_succ_eq_append_getElem w,List.filter_append,A];split
 ·rename_i h;simp[h]
 ·rename_i h;simp[h]
theorem Qz(xs:List ByteArray)(k:Nat):(AA (xs.take k)).length<=k:=xq (List.length_filter_le _ _) (by rw[xj];exact Nat.min_le_left _ _)
structure C9 (g:Nat) (xs:List ByteArray) (k:Nat) (w w':World):Prop where
 head: ∀(j:Nat) (x:ByteArray),(AA (xs.take k))[j]?=some x->w'.cell? ⟨g,j,none⟩=some (jc x)
 rest: ∀(j:Nat) (x:ByteArray),k<=j->xs[j]?=some x->w'.cell? ⟨g,j,none⟩=some (jc x)
 only:B7 g w w'
 froz: ∀j,w'.frozen? ⟨g,j,none⟩=false
 some_: ∀j,j<xs.length->(w'.cell? ⟨g,j,none⟩).isSome=true
theorem JD(g:Nat)(w:World)(q:Nat):B7 g w (w.drewN q):=⟨rfl,rfl,rfl,rfl,fun _ _=>rfl⟩
theorem C9.draw{g k q:Nat}{xs:List ByteArray}{w w':World}(h:C9 g xs k w w'):C9 g xs k w (w'.drewN q):=⟨h.head,h.rest,h.only.trans (JD g w' q),h.froz,h.some_⟩
theorem C9.drop{g k:Nat}{xs:List ByteArray}{w w':World}{x:ByteArray}(h:C9 g xs k w w')(hx:xs[k]?=some x)(A:O4 x=true):C9 g xs (k+1) w w':=
 ⟨fun j y hy=>h.head j y (by rw[CP hx,if_pos A]at hy;exact hy),fun j y hj hy=>h.rest j y (by omega) hy,h.only,h.froz,h.some_⟩
theorem C9.keep{g k i:Nat}{xs:List ByteArray}{w w':World}{x:ByteArray}(h:C9 g xs k w w')(hx:xs[k]?=some x)(E:O4 x=false)(hi:i=(AA (xs.take k)).length):C9 g xs (k+1) w (w'.setCell ⟨g,i,none⟩ (jc x)):=by
 have hk:=(xc.1 hx).1;have D:i<=k:=by rw[hi];exact Qz xs k
 refine⟨fun j y hy=>?_,fun j y hj hy=>?_,h.only.trans (AN w' g i _),fun j=>?_,fun j hj=>?_⟩
 ·rw[CP hx,if_neg (by rw[E];decide)]at hy;by_cases A:j=i
  ·subst A;rw[hi,xl (xf _),Nat.sub_self]at hy;cases hy;obtain⟨u,hu⟩:=Option.isSome_iff_exists.1 (h.some_ j (by omega));exact World.cell?_setCell_same _ _ _ hu
  ·rw[World.cell?_setCell_other (h:=by intro e;exact A (Addr.mk.inj e).2.1.symm)];refine h.head j y ?_;rcases Nat.lt_or_ge j (AA (xs.take k)).length with hl | hl
   ·rwa [List.getElem?_append_left hl]at hy
   ·rw[xl hl]at hy;have:=(xc.1 hy).1;simp only[xh,xp]at this;omega
 ·rw[World.cell?_setCell_other (h:=by intro e;have:=(Addr.mk.inj e).2.1;omega)];exact h.rest j y (by omega) hy
 ·have:=h.froz j;simp only[World.frozen?,World.setCell,Array.getElem?_modify]at this ⊢;revert this;cases w'.heap[g]? with
  | none=>simp
  | some o=>cases o<;>simp
 ·by_cases A:j=i
  ·subst A;obtain⟨u,hu⟩:=Option.isSome_iff_exists.1 (h.some_ j (by omega));rw[World.cell?_setCell_same _ _ _ hu];rfl
  ·rw[World.cell?_setCell_other (h:=by intro e;exact A (Addr.mk.inj e).2.1.symm)];exact h.some_ j hj
theorem C9.start{g k:Nat}{xs:List ByteArray}{w:World}{x:ByteArray}(E:BW w (some ⟨g,0,none⟩) xs)(hf: ∀j,w.frozen? ⟨g,j,none⟩=false)(hb: ∀j y,j<k->xs[j]?=some y->O4 y=false)(hx:xs[k]?=some x)(D:O4 x=true):C9 g xs (k+1) w w/\(AA (xs.take (k+1))).length=k:=by
 have hk:=(xc.1 hx).1;have hc: ∀j y,xs[j]?=some y->w.cell? ⟨g,j,none⟩=some (jc y):=fun j y hy=>by
  obtain⟨a,ha,hc⟩:=E j y hy;cases ha;rwa [addr_add]at hc
 have ht:AA (xs.take k)=xs.take k:=KK fun y hy=>by
  obtain⟨j,hj⟩:=List.mem_iff_getElem?.1 hy;have A:j<k:=by
   have:=(xc.1 hj).1;rw[xj]at this;omega
  rw[List.getElem?_take,if_pos A]at hj;exact hb j y A hj
 refine⟨⟨fun j y hy=>?_,fun j y _ hy=>hc j y hy,B7.refl g w,hf,fun j hj=>by rw[hc j _ (xg hj)];rfl⟩,?_⟩
 ·rw[CP hx,if_pos D,ht,List.getElem?_take]at hy;split at hy
  ·exact hc j y hy
  ·cases hy
 ·rw[CP hx,if_pos D,ht,xj];omega
theorem C9.clear{g i n:Nat}{xs:List ByteArray}{w w':World}(h:C9 g xs xs.length w w')(hi:i=(AA xs).length)(_hn:i+n=xs.length):BW (w'.setCells g i (List.replicate n (jc ⟨#[]⟩))) (some ⟨g,0,none⟩) (AA xs)/\B7 g w (w'.setCells g i (List.replicate n (jc ⟨#[]⟩))):=by
 have ho: ∀(us:List Value) (o:Nat) (W:World),B7 g W (W.setCells g o us):=by
  intro us;induction us with
  | nil=>intro o W;exact B7.refl g W
  | cons u r ih=>intro o W;exact(AN W g o u).trans (ih (o+1) _)
 refine⟨fun j x hx=>⟨_,rfl,?_⟩,h.only.trans (ho _ _ _)⟩;rw[addr_add,World.cell?_setCells_out g _ _ _ _ (fun _ _=>.inl (by have:=(xc.1 hx).1;show j<i;omega))];exact h.head j x (by rw[List.take_length];exact hx)
theorem KZ(g c:Nat)(xs:List ByteArray)(w:World)(hn:xs.length<=9223372036854775806)(hc:xs.length<=c)(h1:BW w (some ⟨g,0,none⟩) xs)(hf: ∀j,w.frozen? ⟨g,j,none⟩=false):
  Calls Tryz.prog 67 #[jd (some ⟨g,0,none⟩) xs.length c,.func (.func 68) #[] #[]] w fun e w'=>e=jh (jd (some ⟨g,0,none⟩) (AA xs).length c)/\BW w' (some ⟨g,0,none⟩) (AA xs)/\B7 g w w':=by
 have E:=Lh (Sg (some ⟨g,0,none⟩) c xs w hn h1);have H1:=Lh h1;have HF:=Lh hf;obtain⟨n,M⟩: ∃n,n=xs.length:=⟨_,rfl⟩
 have H:=Lh M;rw[<-M]at hn hc E ⊢;clear h1 hf M;go_enter Tryz.func67,Tryz.ntmps67;go_wp2_with fail;refine E.o.mono ?_;rintro e w2 ⟨hR,q,X⟩;rw[X];clear X w2 E;rcases hR with⟨rfl,hall⟩ | ⟨k,rfl,hk,hbef,x,hx,hX⟩
 ·have HK:=Lh (KK hall);clear hall;go_wp2_with fail;go_ret;rw[HK.o];refine⟨by rw[<-H.o];rfl,?_,JD g w q⟩;exact H1.o
 ·obtain⟨hS,hl⟩:=C9.start H1.o HF.o hbef hx hX;have R:=Lh (hS.draw (q:=q));have O:=Lh hl;have ae:k<n:=by rw[H.o];exact hk
  have ah:((k:Int)== -1)=false:=beq_eq_false_iff_ne.2 (by omega);clear hS hl hbef hx hX hk H1 HF;go_wp2_with fail;go_loopw [5,6,7] (fun iv jv _ wr=> ∃i j:Nat,iv=ja jb i/\jv=ja jb j/\j<=n/\i<j/\Hid (i=(AA (xs.take j)).length)/\Hid (C9 g xs j w wr)) (fun _ jv _ _=>n - (intOf jv).toNat)
  case atStart=>exact⟨k,k+1,rfl,by go_num,by omega,by omega,Lh O.o.symm,R⟩
  case round=>
   clear R O;obtain⟨i,j,rfl,rfl,hj,af,E,F⟩:=hrel;by_cases aa:j<n
   ·have V:(j:Int)<n:=by omega
    have ac:j<xs.length:=by rw[<-H.o];exact aa
    obtain⟨y,hy⟩: ∃y,xs[j]?=some y:=⟨_,xg ac⟩
    have hcell:=F.o.rest j y (xf j) hy;have Y:=Lh hy;obtain⟨Z,T⟩: ∃Z,Z=O4 y:=⟨_,rfl⟩
    have A:=Lh T;clear hy T;go_wp2_with fail;refine(G5 _ _).mono ?_;rintro e w2 ⟨rfl,X⟩;rw[X,show Lib.hasPrefix y.data.toList [88,45]=Z from A.o.symm];clear X w2;cases Z
    ·have ag:(i:Int)<n:=by omega
     have ai:=F.o.froz i;obtain⟨u,hu⟩:=Option.isSome_iff_exists.1 (F.o.some_ i (by omega));have G:=Lh (F.o.keep Y.o A.o.symm E.o);have J:=Lh (show i+1=(AA (xs.take (j+1))).length from by rw[CP Y.o,if_neg (by rw[<-A.o];decide),xa,<-E.o];rfl);go_wp2_with fail;go_roundw
     case rel=>exact⟨i+1,j+1,by go_num,by go_num,by omega,by omega,J,G⟩
     case measure=>simp[intOf];omega
    ·have G:=Lh (F.o.drop Y.o A.o.symm);have J:=Lh (show i=(AA (xs.take (j+1))).length from by rw[CP Y.o,if_pos A.o.symm];exact E.o);go_wp2_with fail;go_roundw
     case rel=>exact⟨i,j+1,rfl,by go_num,by omega,by omega,J,G⟩
     case measure=>simp[intOf];omega
   ·have ab:j=n:=by omega
    subst ab;have V: ¬(j:Int)<j:=by omega
    have D:=Lh (show C9 g xs xs.length w wr from by rw[<-H.o];exact F.o);have U:=Lh (show i=(AA xs).length from by have h:=E.o;rwa [H.o,List.take_length]at h);have hcl:=fun ty cc=>Lib.run_clear_slice (P:=Tryz.prog) wr 98 9 ty (jc ⟨#[]⟩) Tryz.underlying98 Tryz.zeroValue9 rfl rfl g i (j - i) cc (by omega) (fun k hk=>D.o.some_ (i+k) (by rw[<-H.o];omega)) (fun k _=>D.o.froz (i+k))
    obtain⟨hA,hB⟩:=D.o.clear U.o (n:=j - i) (by rw[<-H.o];omega);have HA:=Lh hA;have HB:=Lh hB;clear hA hB E F D;go_wp2_with fail;go_ret;refine⟨?_,HA.o,HB.o⟩;rw[<-U.o];rfl
end Go.Proofs.YtegjgjgoodekiaaGreatDoor
namespace Tt
theorem Ha: ∀(ls w r:List (List UInt8)),joinL w ls=some r->r.flatten.length<=w.flatten.length+ls.flatten.length
 | [],w,r,h=>by
  unfold joinL at h;simp only[Option.some.injEq]at h;subst h;simp
 | l::t,w,r,h=>by
  unfold joinL at h;split at h
  ·split at h
   ·cases h
   ·rename_i hne
    have ih:=Ha t _ r h;have hl:w.flatten.length=w.dropLast.flatten.length+(w.getLastD []).length:=by
     have A:=List.dropLast_concat_getLast hne;have D:w.getLastD []=w.getLast hne:=by cases w with
      | nil=>exact absurd rfl hne
      | cons a s=>rfl
     rw[D];have E:=congrArg (fun q=>(List.flatten q).length) A;simp only[List.flatten_append,xe,xi,xk,xa]at E;omega
    simp only[List.flatten_append,xe,xi,xk,xa,List.length_tail]at ih ⊢;omega
  ·have ih:=Ha t _ r h;simp only[List.flatten_append,xe,xi,xk,xa]at ih ⊢;omega
theorem Nj: ∀ls:List (List UInt8),ls.flatten.length<=(ls.flatMap crlf).length
 | []=>xf _
 | l::r=>by
  have:=Nj r;have w:(crlf l).length=l.length+2:=by unfold crlf;rw[xa];rfl
  rw[xe,xn,xa,xa];omega
theorem O1: ∀(ls:List (List UInt8)) (l:List UInt8),l∈ls->l.length<=ls.flatten.length
 | [],l,h=>by cases h
 | a::r,l,h=>by
  rw[xe,xa];rcases List.mem_cons.1 h with rfl | h
  ·omega
  ·have:=O1 r l h;omega
theorem unf_bound{text:List UInt8}{ls:List (List UInt8)}(h:unf text=some ls): ∀l∈ls,l.length<=text.length:=by
 intro l hl;unfold unf at h;split at h
 ·cases h
 ·obtain⟨cs,hc,hj⟩:=Option.bind_eq_some_iff.1 h;obtain⟨_,ht⟩:=(Fa text cs).1 hc;have w:=Ha cs [] ls hj;have A:=Nj cs;have D:=O1 ls l hl;rw[<-ht]at A;simp only[xi,xp,Nat.zero_add]at w;omega
end Tt
