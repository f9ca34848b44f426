/- The plain law of deliveries: worlds, steps, and what they do. No function of the program in sight. Condition: none. Rows of elements of several cells in memory: seen, made longer, written over. No function of the program in sight. Condition: none. versions.Sum: the sum of the bytes of a text. Condition: none. The small functions of deliveries: has, send, tag, Clone of messages. Condition: none. Deliveries: feed.Parse as parseV; version, send. Condition: none. Deliveries: the machine's rows changed; send. Condition: none. Deliveries: the machine's methods ask, lose, repeat, serve, cut. Condition: none. -/
import Derived.Test.YtcomifbfldoeiaaGreatDoorPk33
import Derived.Test.YtcomifbfldoeiaaGreatDoorMerge26
import Derived.Test.YtcomifbfldoeiaaGreatDoorPk35
import Derived.Test.YtcomifbfldoeiaaGreatDoorQk25
import Derived.Test.YtcomifbfldoeiaaGreatDoorQk1
import Derived.LoopTactic
import Derived.Deep.AppendLies
import Derived.Deep.RegionLaw
import Derived.Deep.QuietTactic
import Derived.BigQuiet
import Derived.IntWalk
open Nat renaming le_refl->xa,zero_add->xi,add_zero->xm,zero_le->xn
open List renaming length_take->xb,length_append->xc,getElem?_eq_some_iff->xd,getElem?_eq_getElem->xe,not_mem_nil->xf,take_append_drop->xg,mem_cons->xh,drop_eq_getElem_cons->xj,length_drop->xk
open Go.World.ownsRow renaming cells->xl
open Option.some renaming inj->xo
set_option maxRecDepth 100000
set_option maxHeartbeats 40000000
namespace Go.Proofs.YtcomifbfldoeiaaGreatDoor
open Go.RowKit
structure Msg where
 rd : Int
 ans : Bool
 tag : Int
 body : ByteArray
 deriving DecidableEq
structure Rdr where
 v : Int
 tag : Int
 es : List Ev
structure Wld where
 zone : ByteArray
 cur : ByteArray
 way : List Msg
 rds : List Rdr
structure Stp where
 kind : Int
 pos : Int
 n : Int
 fn : ByteArray
 fv : Int
 es : List Ev
structure Nte where
 rd : Int
 nt : Nt
abbrev Fd:=ByteArray × Int × List Ev
def parseV (s z : ByteArray) : Fd × Int :=
 if 262144 < s.size then ((⟨#[]⟩,0,[]),2)
 else match Tt.unf s.data.toList with
  | none => ((⟨#[]⟩,0,[]),4)
  | some ls =>
   if feedV (runR z.data.toList (keepX (ls.map str)).length (keepX (ls.map str)) (⟨#[]⟩,0,[])).1 (runR z.data.toList (keepX (ls.map str)).length (keepX (ls.map str)) (⟨#[]⟩,0,[])).2.1 (runR z.data.toList (keepX (ls.map str)).length (keepX (ls.map str)) (⟨#[]⟩,0,[])).2.2 = 0 /\
    (feedL (runR z.data.toList (keepX (ls.map str)).length (keepX (ls.map str)) (⟨#[]⟩,0,[])).1.data.toList (runR z.data.toList (keepX (ls.map str)).length (keepX (ls.map str)) (⟨#[]⟩,0,[])).2.1 (runR z.data.toList (keepX (ls.map str)).length (keepX (ls.map str)) (⟨#[]⟩,0,[])).2.2 z.data.toList).map str = keepX (ls.map str)
   then (runR z.data.toList (keepX (ls.map str)).length (keepX (ls.map str)) (⟨#[]⟩,0,[]),0) else ((⟨#[]⟩,0,[]),15)
theorem parseV_cases (s z : ByteArray) : (∃ n v es ls,parseV s z = ((n,v,es),0) /\ s.size <= 262144 /\ Tt.unf s.data.toList = some ls /\ feedV n v es = 0 /\ (feedL n.data.toList v es z.data.toList).map str = keepX (ls.map str)) ∨ (∃ c,c ≠ 0 /\ parseV s z = ((⟨#[]⟩,0,[]),c)):=by
 unfold parseV;by_cases hs : 262144 < s.size
 ·rw [if_pos hs];exact .inr ⟨2,by decide,rfl⟩
 ·rw [if_neg hs];cases hu : Tt.unf s.data.toList with
  | none => exact .inr ⟨4,by decide,rfl⟩
  | some ls =>
   dsimp only
   by_cases h : feedV (runR z.data.toList (keepX (ls.map str)).length (keepX (ls.map str)) (⟨#[]⟩,0,[])).1 (runR z.data.toList (keepX (ls.map str)).length (keepX (ls.map str)) (⟨#[]⟩,0,[])).2.1 (runR z.data.toList (keepX (ls.map str)).length (keepX (ls.map str)) (⟨#[]⟩,0,[])).2.2 = 0 /\
    (feedL (runR z.data.toList (keepX (ls.map str)).length (keepX (ls.map str)) (⟨#[]⟩,0,[])).1.data.toList (runR z.data.toList (keepX (ls.map str)).length (keepX (ls.map str)) (⟨#[]⟩,0,[])).2.1 (runR z.data.toList (keepX (ls.map str)).length (keepX (ls.map str)) (⟨#[]⟩,0,[])).2.2 z.data.toList).map str = keepX (ls.map str)
   ·rw [if_pos h];exact .inl ⟨_,_,_,ls,rfl,by omega,rfl,h.1,h.2⟩
   ·rw [if_neg h];exact .inr ⟨15,by decide,rfl⟩
theorem parseV_big {s z : ByteArray} (hs : 262144 < s.size) : parseV s z = ((⟨#[]⟩,0,[]),2):=by unfold parseV;rw [if_pos hs]
theorem parseV_none {s z : ByteArray} (hs : s.size <= 262144) (hu : Tt.unf s.data.toList = none) : parseV s z = ((⟨#[]⟩,0,[]),4):=by unfold parseV;rw [if_neg (by omega),hu]
theorem parseV_some {s z : ByteArray} {ls : List (List UInt8)} {n : ByteArray} {v : Int} {es : List Ev} (hs : s.size <= 262144) (hu : Tt.unf s.data.toList = some ls) (h : feedV n v es = 0) (hx : (feedL n.data.toList v es z.data.toList).map str = keepX (ls.map str)) : parseV s z = ((n,v,es),0):=by
 unfold parseV;rw [if_neg (by omega),hu];have h3:=runR_uniq h hx;show (if _ then _ else _) = _
 rw [h3];exact if_pos ⟨h,hx⟩
theorem parseV_bad {s z : ByteArray} {ls : List (List UInt8)} (hs : s.size <= 262144) (hu : Tt.unf s.data.toList = some ls) (h : ∀ n v es,feedV n v es = 0 -> ¬ (feedL n.data.toList v es z.data.toList).map str = keepX (ls.map str)) : parseV s z = ((⟨#[]⟩,0,[]),15):=by
 unfold parseV;rw [if_neg (by omega),hu];show (if _ then _ else _) = _
 exact if_neg fun k => h _ _ _ k.1 k.2
theorem keepX_feed {n : List UInt8} {v : Int} {es : List Ev} {z : List UInt8} : keepX ((feedL n v es z).map str) = (feedL n v es z).map str:=by
 unfold keepX;rw [List.filter_eq_self];intro x hx;have:=notX n v es z x hx;simp [isX,this]
theorem parseV_text {n z : ByteArray} {v : Int} {es : List Ev} (hv : feedV n v es = 0) (hz : Tt.code z.data.toList = true) (hl : (feedT n.data.toList v es z.data.toList).length <= 262144) : parseV (str (feedT n.data.toList v es z.data.toList)) z = ((n,v,es),0):=by
 refine parseV_some (ls:=feedL n.data.toList v es z.data.toList) ?_ ?_ hv keepX_feed.symm
 ·rw [size_mk];exact hl
 ·show Tt.unf (feedT n.data.toList v es z.data.toList) = _
  exact feedT_unf hv hz
def gC {α : Type} (f : α -> List Value) (xs : List α) : List Value:=xs.flatMap f
theorem gC_nil {α : Type} (f : α -> List Value) : gC f [] = []:=rfl
theorem gC_cons {α : Type} (f : α -> List Value) (x : α) (r : List α) : gC f (x :: r) = f x ++ gC f r:=by unfold gC;rw [List.flatMap_cons]
theorem gC_app {α : Type} (f : α -> List Value) (a b : List α) : gC f (a ++ b) = gC f a ++ gC f b:=by unfold gC;rw [List.flatMap_append]
theorem gC_snoc {α : Type} (f : α -> List Value) (a : List α) (x : α) : gC f (a ++ [x]) = gC f a ++ f x:=by rw [gC_app,gC_cons,gC_nil,List.append_nil]
theorem gC_len {α : Type} {f : α -> List Value} {k : Nat} (hf : ∀ x,(f x).length = k) : ∀ xs : List α,(gC f xs).length = xs.length * k
 | [] => by simp [gC]
 | x :: r => by rw [gC_cons,xc,hf,gC_len hf r,List.length_cons,Nat.add_mul];omega
theorem gC_get {α : Type} {f : α -> List Value} {k : Nat} (hf : ∀ x,(f x).length = k) : ∀ (xs : List α) (j i : Nat) (x : α),xs[j]? = some x -> i < k -> (gC f xs)[j * k + i]? = (f x)[i]?
 | [],_,_,_,h,_ => by simp at h
 | y :: r,0,i,x,h,hi => by
  simp at h;subst h;rw [gC_cons,Nat.zero_mul,xi,List.getElem?_append_left (by rw [hf];exact hi)]
 | y :: r,j + 1,i,x,h,hi => by
  rw [gC_cons,List.getElem?_append_right (by rw [hf,Nat.add_mul];omega),hf,show (j + 1) * k + i - k = j * k + i by rw [Nat.add_mul];omega];exact gC_get hf r j i x (by simpa using h) hi
theorem gC_take {α : Type} {f : α -> List Value} {k : Nat} (hf : ∀ x,(f x).length = k) (xs : List α) (i : Nat) (hi : i <= xs.length) : gC f (xs.take i) = (gC f xs).take (i * k):=by
 have h : gC f xs = gC f (xs.take i) ++ gC f (xs.drop i):=by rw [<- gC_app,xg]
 rw [h,List.take_left' (by rw [gC_len hf,xb,Nat.min_eq_left hi])]
theorem gC_drop {α : Type} {f : α -> List Value} {k : Nat} (hf : ∀ x,(f x).length = k) (xs : List α) (i : Nat) (hi : i <= xs.length) : gC f (xs.drop i) = (gC f xs).drop (i * k):=by
 have h : gC f xs = gC f (xs.take i) ++ gC f (xs.drop i):=by rw [<- gC_app,xg]
 rw [h,List.drop_left' (by rw [gC_len hf,xb,Nat.min_eq_left hi])]
theorem gC_one {α : Type} {f : α -> List Value} (h1 : ∀ x,∀ u ∈ f x,u.oneCell' = true) (xs : List α) : ∀ u ∈ gC f xs,u.oneCell' = true:=fun u hu => by
 obtain ⟨x,_,hx⟩:=List.mem_flatMap.1 hu;exact h1 x u hx
theorem gC_put {α : Type} {f : α -> List Value} {k : Nat} (hf : ∀ x,(f x).length = k) {xs : List α} {i q : Nat} {x x' : α} {u : Value} (hx : xs[i]? = some x) (hq : q < k) (h : f x' = (f x).set q u) : (gC f xs).set (i * k + q) u = gC f (xs.set i x'):=by
 obtain ⟨hi,hxi⟩:=xd.1 hx;have e1 : xs = xs.take i ++ x :: xs.drop (i + 1):=by rw [<- hxi,<- xj hi,xg]
 have e2 : xs.set i x' = xs.take i ++ x' :: xs.drop (i + 1):=by rw [List.set_eq_take_append_cons_drop,if_pos hi]
 have hl : (gC f (xs.take i)).length = i * k:=by rw [gC_len hf,xb,Nat.min_eq_left (by omega)]
 rw [e2,gC_app,gC_cons,h];conv => lhs;rw [e1,gC_app,gC_cons]
 rw [List.set_append_right _ _ (by omega),hl,show i * k + q - i * k = q by omega,List.set_append_left _ _ (by rw [hf];exact hq)]
def Rd {α : Type} (f : α -> List Value) (B : Nat) (w : World) (ao : Option Addr) (xs : List α) : Prop:=xs = [] ∨ ∃ b o,ao = some ⟨b,o,none⟩ /\ b < B /\ ∀ (j : Nat) (u : Value),(gC f xs)[j]? = some u -> w.cell? ⟨b,o + j,none⟩ = some u
theorem Rd.below {α : Type} {f : α -> List Value} {B : Nat} {w w' : World} {ao : Option Addr} {xs : List α} (h : Rd f B w ao xs) (hw : Below B w w') : Rd f B w' ao xs:=by
 rcases h with h | ⟨b,o,ha,hb,hc⟩
 ·exact .inl h
 ·exact .inr ⟨b,o,ha,hb,fun j u hj => (hw.cell (p:=⟨b,o + j,none⟩) hb).trans (hc j u hj)⟩
theorem Rd.mono {α : Type} {f : α -> List Value} {B B' : Nat} {w : World} {ao : Option Addr} {xs : List α} (h : Rd f B w ao xs) (hB : B <= B') : Rd f B' w ao xs:=by
 rcases h with h | ⟨b,o,ha,hb,hc⟩
 ·exact .inl h
 ·exact .inr ⟨b,o,ha,by omega,hc⟩
theorem Rd.get {α : Type} {f : α -> List Value} {k : Nat} (hf : ∀ x,(f x).length = k) {B : Nat} {w : World} {ao : Option Addr} {xs : List α} (h : Rd f B w ao xs) {j : Nat} {x : α} (hx : xs[j]? = some x) : ∃ b o,ao = some ⟨b,o,none⟩ /\ b < B /\ ∀ i u,i < k -> (f x)[i]? = some u -> w.cell? ⟨b,o + j * k + i,none⟩ = some u:=by
 rcases h with h | ⟨b,o,ha,hb,hc⟩
 ·rw [h] at hx;simp at hx
 ·exact ⟨b,o,ha,hb,fun i u hi hu => by rw [Nat.add_assoc];exact hc _ u (by rw [gC_get hf xs j i x hx hi];exact hu)⟩
def Rw {α : Type} (f : α -> List Value) (k : Nat) (e : TypeId) (lo : Nat) (w : World) (v : Value) (xs : List α) : Prop:=w.ownsRow lo e k v xs.length (gC f xs)
theorem Rw.nil {α : Type} (f : α -> List Value) (k : Nat) (e : TypeId) (lo : Nat) (w : World) : Rw f k e lo w (.slice none 0 0) ([] : List α):=World.ownsRow_nil _ _ _ _
theorem Rw.form {α : Type} {f : α -> List Value} {k : Nat} {e : TypeId} {lo : Nat} {w : World} {v : Value} {xs : List α} (h : Rw f k e lo w v xs) : ∃ ao c,v = .slice ao xs.length c /\ (ao = none -> c = 0) /\ Rd f w.heap.size w ao xs:=by
 rcases (show w.ownsRow lo e k v xs.length (gC f xs) from h).2 with ⟨hv,h0⟩ | ⟨g,cap,cur,hv,r2,r3,r4,r5,_⟩
 ·have hx : xs = []:=List.eq_nil_of_length_eq_zero h0;subst hx;exact ⟨none,0,hv,fun _ => rfl,.inl rfl⟩
 ·refine ⟨_,cap,hv,fun q => (by cases q),.inr ⟨g,0,rfl,(Array.getElem?_eq_some_iff.1 r3).1,fun j u hj => ?_⟩⟩;have:=xl h (g:=g) (by rw [hv];rfl) j u hj;rw [Addr.add_lit] at this;exact this
theorem Rw.mono {α : Type} {f : α -> List Value} {k : Nat} {e : TypeId} {lo lo' : Nat} {w : World} {v : Value} {xs : List α} (h : Rw f k e lo w v xs) (hl : lo' <= lo) : Rw f k e lo' w v xs:=ownsRow_mono h hl
theorem Rw.snoc {α : Type} {f : α -> List Value} {k : Nat} {e : TypeId} {lo : Nat} {w : World} {v : Value} {xs : List α} {x : α} (h : w.ownsRow lo e k v (xs.length + 1) (gC f xs ++ f x)) : Rw f k e lo w v (xs ++ [x]):=by
 unfold Rw;rw [gC_snoc,xc];exact h
theorem Rw.set {α : Type} {f : α -> List Value} {k : Nat} {e : TypeId} {lo : Nat} {w : World} {v : Value} {xs : List α} (h : Rw f k e lo w v xs) {g : Nat} {cs : Array Value} {ty : TypeId} (hg : Blk g cs ty w) (hte : ty ≠ e) (i : Nat) (u : Value) : Rw f k e lo (w.setCell ⟨g,i,none⟩ u) v xs:=row_set h hg hte i u
theorem Rw.made {α : Type} {f : α -> List Value} {k : Nat} {e : TypeId} {lo : Nat} {w w' : World} {v : Value} {xs : List α} (h : Rw f k e lo w v xs) (hb : Below w.heap.size w w') : Rw f k e lo w' v xs:=row_made h hb
theorem Rw.put {α : Type} {f : α -> List Value} {k : Nat} (hf : ∀ x,(f x).length = k) {e : TypeId} {lo g c : Nat} {w : World} {xs : List α} (h : Rw f k e lo w (.slice (some ⟨g,0,none⟩) xs.length c) xs) {i q : Nat} {x x' : α} {u : Value} (hx : xs[i]? = some x) (hq : q < k) (hu : f x' = (f x).set q u) :
  Rw f k e lo (w.setCell ⟨g,i * k + q,none⟩ u) (.slice (some ⟨g,0,none⟩) xs.length c) (xs.set i x') /\ w.grownBy (w.setCell ⟨g,i * k + q,none⟩ u) (some g):=by
 have h1:=World.ownsRow.stored h (i * k + q) u;refine ⟨?_,h1.2⟩;unfold Rw;rw [List.length_set,<- gC_put hf hx hq hu];exact h1.1
/-! ### The elements of worlds -/
def msgF (m : Msg) : List Value:=[.int .i64 m.rd,.bool m.ans,.int .i64 m.tag,.string m.body]
theorem msgF_len (m : Msg) : (msgF m).length = 4:=rfl
theorem msgF_one : ∀ m : Msg,∀ u ∈ msgF m,u.oneCell' = true:=fun m u hu => by
 simp only [msgF,xh,xf,or_false] at hu;rcases hu with rfl | rfl | rfl | rfl <;> rfl
def nteF (m : Nte) : List Value:=[.int .i64 m.rd,.int .i64 m.nt.kind,.string m.nt.uid,.int .i64 m.nt.seq]
theorem nteF_len (m : Nte) : (nteF m).length = 4:=rfl
theorem nteF_one : ∀ m : Nte,∀ u ∈ nteF m,u.oneCell' = true:=fun m u hu => by
 simp only [nteF,xh,xf,or_false] at hu;rcases hu with rfl | rfl | rfl | rfl <;> rfl
structure RdX where
 v : Int
 tag : Int
 ao : Option Addr
 c : Nat
 ts : List (Ev × Value × Value)
def RdX.r (x : RdX) : Rdr:=⟨x.v,x.tag,x.ts.map (·.1)⟩
def rdF (x : RdX) : List Value:=[.int .i64 x.v,.int .i64 x.tag,.slice x.ao x.ts.length x.c]
theorem rdF_len (m : RdX) : (rdF m).length = 3:=rfl
theorem rdF_one : ∀ m : RdX,∀ u ∈ rdF m,u.oneCell' = true:=fun m u hu => by
 simp only [rdF,xh,xf,or_false] at hu;rcases hu with rfl | rfl | rfl <;> rfl
theorem infoMsg : (Tryz.prog.info? 89).map (fun i => (i.zero,i.size,i.bytes)) = some (some (.agg #[.int .i64 0,.bool false,.int .i64 0,.string ⟨#[]⟩]),4,40):=by kernel_rfl
theorem infoRdr : (Tryz.prog.info? 66).map (fun i => (i.zero,i.size,i.bytes)) = some (some (.agg #[.int .i64 0,.int .i64 0,.slice none 0 0]),3,40):=by kernel_rfl
theorem infoNte : (Tryz.prog.info? 82).map (fun i => (i.zero,i.size,i.bytes)) = some (some (.agg #[.int .i64 0,.int .i64 0,.string ⟨#[]⟩,.int .i64 0]),4,40):=by kernel_rfl
theorem infoErn : (Tryz.prog.info? 32).map (fun i => (i.zero,i.size,i.bytes)) = some (some (.int .i64 0),1,8):=by kernel_rfl
structure RdsAt (B : Nat) (w : World) (ao : Option Addr) (xs : List RdX) : Prop where
 row : Rd rdF B w ao xs
 seg : ∀ x ∈ xs,Seg B w x.ao x.ts
theorem RdsAt.below {B : Nat} {w w' : World} {ao : Option Addr} {xs : List RdX} (h : RdsAt B w ao xs) (hw : Below B w w') : RdsAt B w' ao xs:=⟨h.row.below hw,fun x hx => (h.seg x hx).below hw⟩
theorem RdsAt.mono {B B' : Nat} {w : World} {ao : Option Addr} {xs : List RdX} (h : RdsAt B w ao xs) (hB : B <= B') : RdsAt B' w ao xs:=⟨h.row.mono hB,fun x hx => (h.seg x hx).mono hB⟩
structure WAt (B : Nat) (w : World) (W : Wld) (aw : Option Addr) (cw : Nat) (ar : Option Addr) (cr : Nat) (xs : List RdX) : Prop where
 way : Rd msgF B w aw W.way
 wnil : aw = none -> cw = 0
 rds : RdsAt B w ar xs
 rnil : ar = none -> cr = 0
 rmap : xs.map RdX.r = W.rds
theorem WAt.below {B : Nat} {w w' : World} {W : Wld} {aw ar : Option Addr} {cw cr : Nat} {xs : List RdX} (h : WAt B w W aw cw ar cr xs) (hw : Below B w w') : WAt B w' W aw cw ar cr xs:=⟨h.way.below hw,h.wnil,h.rds.below hw,h.rnil,h.rmap⟩
theorem WAt.mono {B B' : Nat} {w : World} {W : Wld} {aw ar : Option Addr} {cw cr : Nat} {xs : List RdX} (h : WAt B w W aw cw ar cr xs) (hB : B <= B') : WAt B' w W aw cw ar cr xs:=⟨h.way.mono hB,h.wnil,h.rds.mono hB,h.rnil,h.rmap⟩
structure Mach (b lo : Nat) (w : World) (W : Wld) (ns : List Nte) (vw vr vn : Value) (xs : List RdX) : Prop where
 box : Blk b #[.string W.zone,.string W.cur,vw,vr,vn] 125 w
 ge : lo <= b
 way : Rw msgF 4 89 lo w vw W.way
 rds : Rw rdF 3 66 lo w vr xs
 nts : Rw nteF 4 82 lo w vn ns
 evs : ∀ x ∈ xs,RowT lo w (.slice x.ao x.ts.length x.c) x.ts
 rmap : xs.map RdX.r = W.rds
theorem Mach.made {b lo : Nat} {w w' : World} {W : Wld} {ns : List Nte} {vw vr vn : Value} {xs : List RdX} (h : Mach b lo w W ns vw vr vn xs) (hb : Below w.heap.size w w') : Mach b lo w' W ns vw vr vn xs :=
 ⟨h.box.below hb h.box.lt,h.ge,h.way.made hb,h.rds.made hb,h.nts.made hb,fun x hx => (h.evs x hx).made hb,h.rmap⟩
theorem Mach.boxed {b lo : Nat} {w : World} {W W' : Wld} {ns : List Nte} {vw vr vn : Value} {xs : List RdX} (h : Mach b lo w W ns vw vr vn xs) (i : Nat) (u : Value) (hz : #[Value.string W.zone,.string W.cur,vw,vr,vn].setIfInBounds i u = #[.string W'.zone,.string W'.cur,vw,vr,vn]) (hw : W'.way = W.way) (hr : W'.rds = W.rds) : Mach b lo (w.setCell ⟨b,i,none⟩ u) W' ns vw vr vn xs :=
 ⟨by rw [<- hz];exact h.box.set i u,h.ge,by rw [hw];exact h.way.set h.box (by decide) i u,h.rds.set h.box (by decide) i u,h.nts.set h.box (by decide) i u,fun x hx => (h.evs x hx).set h.box (by decide) (by decide) i u,by rw [hr];exact h.rmap⟩
def crcBit (c : Int) : Int:=if bits .and .u32 c 1 = 1 then bits .xor .u32 (c / 2) 3988292384 else c / 2
def crcBits : Nat -> Int -> Int
 | 0,c => c
 | n + 1,c => crcBits n (crcBit c)
def crcGo : List UInt8 -> Int -> Int
 | [],c => c
 | x :: r,c => crcGo r (crcBits 8 (bits .xor .u32 c ((x.toNat : Int) % 4294967296)))
def sumV (l : List UInt8) : Int:=bits .xor .u32 4294967295 (crcGo l 4294967295)
theorem bits_rng (op : BinOp) (x y : Int) : 0 <= bits op .u32 x y /\ bits op .u32 x y < 4294967296:=by
 unfold bits;simp only [IntKind.wrap];have h : ∀ n : Int,0 <= n % 4294967296 /\ n % 4294967296 < 4294967296:=fun n => ⟨Int.emod_nonneg _ (by decide),Int.emod_lt_of_pos _ (by decide)⟩
 exact h _
theorem sumV_rng (l : List UInt8) : 0 <= sumV l /\ sumV l < 4294967296:=bits_rng _ _ _
theorem crcBit_rng {c : Int} (h0 : 0 <= c) (h1 : c < 4294967296) : 0 <= crcBit c /\ crcBit c < 4294967296:=by
 unfold crcBit;split
 ·exact bits_rng _ _ _
 ·omega
theorem sum189 (l : List UInt8) (b n c : Nat) (w : World) (hn : l.length = n) (hc : ∀ j x,l[j]? = some x -> w.cell? ⟨b,j,none⟩ = some (.int .u8 (x.toNat : Int))) (hl : n <= 4611686018427387903) :
  Calls Tryz.prog 189 #[.slice (some ⟨b,0,none⟩) n c] w fun e w' => e = .returned (.int .i64 (sumV l)) /\ w' = w:=by
 have HC:=Lh hc;have HN:=Lh hn;clear hc hn;go_enter Tryz.func189,Tryz.ntmps189;go_wp2_with fail;go_loopw [3,9] (fun cv iv wr => ∃ (k : Nat) (c : Int),cv = .int .u32 c /\ iv = .int .i64 k /\ k <= n /\ 0 <= c /\ c < 4294967296 /\ Hid (crcGo (l.drop k) c = crcGo l 4294967295) /\ wr = w) (fun _ iv _ => n - (intOf iv).toNat)
 case atStart => exact ⟨0,_,rfl,rfl,xn _,by decide,by decide,Lh (by rw [List.drop_zero]),rfl⟩
 case round =>
  obtain ⟨k,c,rfl,rfl,hk,hc0,hc1,hg,rfl⟩:=hrel;by_cases hlt : k < n
  ·have hlti : (k : Int) < n:=by omega
   obtain ⟨x,hx⟩ : ∃ x,l[k]? = some x:=⟨_,xe (by rw [HN.out];exact hlt)⟩
   have hcx:=HC.out k x hx;have HX:=Lh (show l.drop k = x :: l.drop (k + 1) from by obtain ⟨h1,h2⟩:=xd.1 hx;rw [<- h2,xj]);clear hx;go_wp2_with fail;obtain ⟨C,hC⟩ : ∃ C,C = bits .xor .u32 c ((x.toNat : Int) % 4294967296):=⟨_,rfl⟩
   have hC0 : 0 <= C:=by rw [hC];exact (bits_rng _ _ _).1
   have hC1 : C < 4294967296:=by rw [hC];exact (bits_rng _ _ _).2
   have HCE:=Lh hC;rw [<- hC];clear hC;go_loopw [3,17] (fun cv iv wx => ∃ (j : Nat) (d : Int),cv = .int .u32 d /\ iv = .int .i64 j /\ j <= 8 /\ 0 <= d /\ d < 4294967296 /\ Hid (crcBits (8 - j) d = crcBits 8 C) /\ wx = wr) (fun _ iv _ => 8 - (intOf iv).toNat)
   case atStart => exact ⟨0,C,rfl,rfl,by decide,hC0,hC1,Lh rfl,rfl⟩
   case round =>
    obtain ⟨j,d,rfl,rfl,hj,hd0,hd1,hgj,rfl⟩:=hrel;by_cases hj8 : j < 8
    ·have hji : (j : Int) < 8:=by omega
     have HST:=Lh (show crcBits (8 - (j + 1)) (crcBit d) = crcBits 8 C from by rw [<- hgj.out,show 8 - j = (8 - (j + 1)) + 1 by omega];rfl);have hr:=crcBit_rng hd0 hd1;by_cases hb : bits .and .u32 d 1 = 1
     ·have HE:=Lh (show crcBit d = bits .xor .u32 (d / 2) 3988292384 from if_pos hb);go_wp2_with fail;go_roundw
      case rel => exact ⟨j + 1,crcBit d,by rw [HE.out],by go_num,by omega,hr.1,hr.2,HST,trivial⟩
      case measure => simp [intOf];omega
     ·have HE:=Lh (show crcBit d = d / 2 from if_neg hb);go_wp2_with fail;go_roundw
      case rel => exact ⟨j + 1,crcBit d,by rw [HE.out],by go_num,by omega,hr.1,hr.2,HST,trivial⟩
      case measure => simp [intOf];omega
    ·have hji : ¬ (j : Int) < 8:=by omega
     have HST:=Lh (show d = crcBits 8 C from by rw [<- hgj.out,show 8 - j = 0 by omega];rfl);go_wp2_with fail;go_roundw
     case rel => exact ⟨k + 1,d,rfl,by go_num,by omega,hd0,hd1,Lh (by rw [HST.out,HCE.out,<- hg.out,HX.out];rfl),trivial⟩
     case measure => simp [intOf];omega
  ·have hlti : ¬ (k : Int) < n:=by omega
   have HF:=Lh (show crcGo l 4294967295 = c from by rw [<- hg.out,List.drop_of_length_le (by rw [HN.out];omega)];rfl);go_wp2_with fail;go_ret;have hw : wrap64 (bits .xor .u32 4294967295 c) = bits .xor .u32 4294967295 c:=by have:=bits_rng .xor 4294967295 c;unfold wrap64;omega
   exact ⟨by show Ending.returned (.int .i64 (wrap64 (bits .xor .u32 4294967295 c))) = _;unfold sumV;rw [HF.out,hw],rfl⟩
theorem has122 (b : Nat) (z c : ByteArray) (aw : Option Addr) (n cw : Nat) (vr vn : Value) (i : Int) (w : World) (hB : Blk b #[.string z,.string c,.slice aw n cw,vr,vn] 125 w) :
  Calls Tryz.prog 122 #[.pointer (some ⟨b,0,none⟩),.int .i64 i] w fun e w' => e = .returned (.bool (decide (0 <= i /\ i < n))) /\ w' = w:=by
 have c2 : w.cell? ⟨b,2,none⟩ = some (.slice aw n cw):=hB.cell 2;clear hB;go_enter Tryz.func122,Tryz.ntmps122;by_cases h0 : 0 <= i
 ·by_cases h1 : i < n
  ·go_wp2_with fail;go_ret;exact ⟨ret_bool (by simp [h0,h1]),rfl⟩
  ·skip
   go_wp2_with fail;go_ret;exact ⟨ret_bool (by simp [h1]),rfl⟩
 ·skip
  go_wp2_with fail;go_ret;exact ⟨ret_bool (by simp;omega),rfl⟩
def tagV (s : ByteArray) (v : Int) : Int:=v * 4294967296 + sumV s.data.toList + 1
theorem tag123 (s : ByteArray) (v : Int) (w : World) (h0 : 0 <= v) (h1 : v <= 64) (hs : s.size <= 262144) :
  Calls Tryz.prog 123 #[.string s,.int .i64 v] w fun e w' => e = .returned (.int .i64 (tagV s v)) /\ Below w.heap.size w w':=by
 obtain ⟨cap,W',hrun,hb,hsz,hc⟩:=bytes_of s w;have HB:=Lh hb;have HC:=Lh hc;clear hb hc hsz;go_enter Tryz.func123,Tryz.ntmps123;go_wp2_with fail;refine (sum189 s.data.toList w.heap.size s.size cap W' (by rw [Lib.size_eq]) HC.out (by omega)).mono ?_;rintro e w1 ⟨rfl,hw⟩;rw [hw];clear hw w1;go_wp2_with fail;have hr:=sumV_rng s.data.toList;have hw : wrap64 (wrap64 (v * 4294967296 + sumV s.data.toList) + 1) = tagV s v:=by unfold tagV wrap64;omega
 rw [hw];go_ret;exact ⟨rfl,HB.out⟩
theorem clone106 (aw : Option Addr) (cw : Nat) (ms : List Msg) (w : World) (hR : Rd msgF w.heap.size w aw ms) (hn : aw = none -> cw = 0) (hl : ms.length <= 1000000) :
  Calls Tryz.prog 106 #[.slice aw ms.length cw] w fun e w' => ∃ ao c,e = .returned (.slice ao ms.length c) /\ Rw msgF 4 89 w.heap.size w' (.slice ao ms.length c) ms /\ Below w.heap.size w w':=by
 obtain ⟨i0,hi,hz0,hz1,hz2⟩:=info_parts infoMsg;cases aw with
 | none =>
  have hms : ms = []:=by
   rcases hR with h | ⟨b,o,ha,_⟩
   ·exact h
   ·cases ha
  subst hms;have hq:=hn rfl;subst hq;have q22 : ∀ (w : World) (a : Option Addr) (n c n' c' : Nat),(binOp .eql 28 (.slice a n c) (.slice none n' c')).run Tryz.prog w = .ok (.bool a.isNone) w:=fun w a n c n' c' => Lib.run_eql_slice_nil w _ _ a n c n' c' Tryz.underlying28
  go_enter Tryz.func106,Tryz.ntmps106;go_wp2_with fail;go_ret;exact ⟨none,0,rfl,Rw.nil _ _ _ _ _,Below.refl _ _⟩
 | some ad =>
  have q22 : ∀ (w : World) (a : Option Addr) (n c n' c' : Nat),(binOp .eql 28 (.slice a n c) (.slice none n' c')).run Tryz.prog w = .ok (.bool a.isNone) w:=fun w a n c n' c' => Lib.run_eql_slice_nil w _ _ a n c n' c' Tryz.underlying28
  have HC : Hid (∀ (j : Nat) (u : Value),(gC msgF ms)[j]? = some u -> (w.alloc (.cells #[] 89)).cell? (ad.add j) = some u):=Lh (by
   intro j u hj;rcases hR with h | ⟨b,o,ha,_,hc⟩
   ·rw [h] at hj;simp [gC] at hj
   ·cases ha;rw [Addr.add_lit];exact Lib.cell?_alloc_some _ (hc j u hj))
  clear hR hn;go_enter Tryz.func106,Tryz.ntmps106;go_wp2_with (at_builtin;refine wpList_append_own_at _ rfl _ _ 28 rfl w.heap.size 89 i0 _ 4 40 Tryz.underlying28 hi hz0 hz1 hz2 rfl (by decide) _ _ _ rfl (World.ownsRow_made w #[] 0 (xa _) (xn _) (by simp)) ad ms.length cw (gC msgF ms) rfl (gC_len msgF_len ms) HC.out (gC_one msgF_one ms) (by unfold maxLen;omega) (by omega) (by simp) ?_);intro v' w1 hown hgrow _ _;have HB:=Lh (show Below w.heap.size w w1 from ((Below.refl _ w).alloc (xa _) _).grown hgrow (by simp) (by intro k hk;simp [Value.ownBlock] at hk;omega));clear hgrow;obtain ⟨p,q,hv⟩:=ownsRow_len hown;subst hv;go_wp2_with fail;go_ret;exact ⟨p,q,rfl,hown,HB.out⟩
theorem setAll_cells : ∀ (vs : List Value) (g o : Nat) (w : World),w.setCells g o vs = setAll w g o vs
 | [],_,_,_ => rfl
 | _ :: r,g,o,_ => setAll_cells r g (o + 1) _
theorem row_less {lo k n m cap g : Nat} {e : TypeId} {w : World} {xs : List Value} (h : w.ownsRow lo e k (.slice (some ⟨g,0,none⟩) n cap) n xs) (hm : m <= n) : w.ownsRow lo e k (.slice (some ⟨g,0,none⟩) m cap) m (xs.take (m * k)):=by
 have hmk : m * k <= n * k:=Nat.mul_le_mul_right k hm;refine ⟨by rw [xb,h.1,Nat.min_eq_left hmk],.inr ?_⟩;rcases h.2 with ⟨h1,_⟩ | ⟨g',cap',cur,r1,r2,r3,r4,r5,r6,r7⟩
 ·cases h1
 ·simp only [Value.slice.injEq,Option.some.injEq,Addr.mk.injEq,and_true,true_and] at r1;obtain ⟨rfl,rfl⟩:=r1;exact ⟨g,cap,cur,rfl,r2,r3,by omega,r5,r6,by rw [<- r7,List.take_take,Nat.min_eq_left hmk]⟩
theorem gC_erase {α : Type} {f : α -> List Value} {k : Nat} (hf : ∀ x,(f x).length = k) (xs : List α) (i : Nat) (hi : i < xs.length) : (gC f xs).take (i * k) ++ (gC f xs).drop ((i + 1) * k) = gC f (xs.eraseIdx i):=by
 rw [<- gC_take hf xs i (by omega),<- gC_drop hf xs (i + 1) hi,<- gC_app,List.eraseIdx_eq_take_drop_succ]
def msg0 : List Value:=[.int .i64 0,.bool false,.int .i64 0,.string ⟨#[]⟩]
theorem clear_msg (w : World) (ty : TypeId) (b o c : Nat) (hc : ∀ j,j < 4 -> (w.cell? ⟨b,o + j,none⟩).isSome = true) (hf : ∀ j,j < 4 -> w.frozen? ⟨b,o + j,none⟩ = false) :
  (Builtin.clear_ #[28] ty #[.slice (some ⟨b,o,none⟩) 1 c]).run Tryz.prog w = .ok (.tuple #[]) (w.setCells b o msg0):=by
 have hst:=run_storeCells_cells (P:=Tryz.prog) b o msg0 0 w (by simpa [msg0] using hc) (by simpa [msg0] using hf) (by intro v hv';simp only [msg0,xh,xf,or_false] at hv';rcases hv' with rfl | rfl | rfl | rfl <;> rfl);simp only [xm] at hst;have hz : (Builtin.zeroCells #[Value.int .i64 0,.bool false,.int .i64 0,.string ⟨#[]⟩] 1).toList = msg0:=by kernel_rfl
 simp [Builtin.clear_,run_underlying Tryz.underlying28,Tryz.zeroValue89,hz,hst,Value.cells]
theorem delete124 (lo g cap : Nat) (ms : List Msg) (i : Nat) (w : World) (h : Rw msgF 4 89 lo w (.slice (some ⟨g,0,none⟩) ms.length cap) ms) (hi : i < ms.length) (hl : ms.length <= 1000000) :
  Calls Tryz.prog 124 #[.slice (some ⟨g,0,none⟩) ms.length cap,.int .i64 i,.int .i64 (i + 1)] w fun e w' => e = .returned (.slice (some ⟨g,0,none⟩) (ms.length - 1) cap) /\ Rw msgF 4 89 lo w' (.slice (some ⟨g,0,none⟩) (ms.length - 1) cap) (ms.eraseIdx i) /\ But g w.heap.size w w':=by
 obtain ⟨i0,hinf,hz0,hz1,hz2⟩:=info_parts infoMsg;obtain ⟨n,hn⟩ : ∃ n,n = ms.length:=⟨_,rfl⟩
 have HR : Hid (w.ownsRow lo 89 4 (.slice (some ⟨g,0,none⟩) n cap) n (gC msgF ms)):=Lh (by rw [hn];exact h);have HN:=Lh hn;rw [<- hn] at hi hl ⊢;obtain ⟨news,hnews⟩ : ∃ news,news = (gC msgF ms).drop ((i + 1) * 4):=⟨_,rfl⟩
 have hlen : news.length = (n - (i + 1)) * 4:=by rw [hnews,xk,gC_len msgF_len,<- hn,<- Nat.sub_mul]
 have hcap : n <= cap:=by
  rcases HR.out.2 with ⟨h1,_⟩ | ⟨g',cap',cur,r1,r2,r3,r4,_⟩
  ·cases h1
  ·simp only [Value.slice.injEq] at r1;omega
 have hcap2 : cap <= 9223372036854775807:=by
  rcases HR.out.2 with ⟨h1,_⟩ | ⟨g',cap',cur,r1,r2,r3,r4,r5,_⟩
  ·cases h1
  ·simp only [Value.slice.injEq] at r1;unfold maxLen at r5;omega
 have hgl : g < w.heap.size:=(HR.out.lt g rfl).2;have hN : ∀ j u,news[j]? = some u -> w.cell? ⟨g,(i + 1) * 4 + j,none⟩ = some u:=fun j u hj => by
  rw [hnews,List.getElem?_drop] at hj;have:=HR.out.cells (g:=g) rfl _ u hj;rw [Addr.add_lit] at this;rw [<- this,xi]
 obtain ⟨A,hA,hsrc⟩ : ∃ A : Addr,(if cap = i + 1 then (some ⟨g,0,none⟩ : Option Addr) else some ⟨g,(i + 1) * 4,none⟩) = some A /\ Hid (∀ t u,news[t]? = some u -> w.drew.cell? (A.add t) = some u):=by
  by_cases hc : cap = i + 1
  ·refine ⟨⟨g,0,none⟩,by simp [hc],Lh fun t u hu => ?_⟩;have h0 : news.length = 0:=by rw [hlen];omega
   rw [List.length_eq_zero_iff.1 h0] at hu;simp at hu
  ·refine ⟨⟨g,(i + 1) * 4,none⟩,by simp [hc],Lh fun t u hu => ?_⟩;rw [Addr.add_lit];exact hN t u hu
 have s2 : Hid (∀ u ∈ news,u.oneCell' = true):=Lh (fun u hu => gC_one msgF_one ms u (by rw [hnews] at hu;exact List.mem_of_mem_drop hu));have hcell : ∀ j,j < n * 4 -> (w.cell? ⟨g,j,none⟩).isSome = true:=fun j hj => by
  obtain ⟨u,hu⟩ : ∃ u,(gC msgF ms)[j]? = some u:=⟨_,xe (by rw [gC_len msgF_len,<- hn];exact hj)⟩
  have:=HR.out.cells (g:=g) rfl j u hu;rw [Addr.add_lit,xi] at this;rw [this];rfl
 have s3 : Hid (∀ t,t < news.length -> (w.drew.cell? ⟨g,0 + i * 4 + t,none⟩).isSome = true /\ w.drew.frozen? ⟨g,0 + i * 4 + t,none⟩ = false):=Lh (fun t ht => ⟨hcell _ (by rw [hlen] at ht;omega),HR.out.frozenAt _⟩)
 -- the worlds behind the append and behind the clear
 have hl0 : (gC msgF ms).length = n * 4:=by rw [gC_len msgF_len,<- hn]
 have hr1:=ownsRow_setAll news (i * 4) (gC msgF ms) w.drew (show w.drew.ownsRow lo 89 4 _ n _ from HR.out) (by rw [hlen];omega);obtain ⟨W1,hW1⟩ : ∃ W1,W1 = w.drew.setCells g (i * 4) news:=⟨_,rfl⟩
 rw [<- setAll_cells,<- hW1] at hr1;have hr2:=ownsRow_setAll msg0 ((n - 1) * 4) _ W1 hr1.1 (by show _ + 4 <= _;omega);obtain ⟨W2,hW2⟩ : ∃ W2,W2 = W1.setCells g ((n - 1) * 4) msg0:=⟨_,rfl⟩
 rw [<- setAll_cells,<- hW2] at hr2;have hcl:=fun ty => clear_msg W1 ty g ((n - 1) * 4) (cap - (n - 1)) (fun j hj => by
  obtain ⟨u,hu⟩ : ∃ u,((gC msgF ms).take (i * 4) ++ news ++ (gC msgF ms).drop (i * 4 + news.length))[(n - 1) * 4 + j]? = some u:=⟨_,xe (by simp only [xc,xb,xk,hl0,hlen];omega)⟩
  have:=hr1.1.cells (g:=g) rfl _ u hu;rw [Addr.add_lit,xi] at this;rw [this];rfl) (fun j _ => hr1.1.frozenAt _)
 rw [<- hW2] at hcl;have HE:=Lh (show W2.ownsRow lo 89 4 (.slice (some ⟨g,0,none⟩) (n - 1) cap) (n - 1) (gC msgF (ms.eraseIdx i)) from by
  have h3:=row_less hr2.1 (show n - 1 <= n by omega);have e : gC msgF (ms.eraseIdx i) = (gC msgF ms).take (i * 4) ++ news:=by rw [hnews,gC_erase msgF_len ms i (by omega)]
  have hle : ((gC msgF ms).take (i * 4) ++ news).length = (n - 1) * 4:=by rw [xc,xb,hl0,hlen,Nat.min_eq_left (by omega)];omega
  have hle1 : ((gC msgF ms).take (i * 4) ++ news ++ (gC msgF ms).drop (i * 4 + news.length)).take ((n - 1) * 4) = (gC msgF ms).take (i * 4) ++ news:=List.take_left' hle;rw [e];rw [hle1,List.append_assoc,List.take_left' hle] at h3;exact h3)
 have HG : Hid (w.drew.grownBy W2 (some g)):=Lh (hr1.2.trans hr2.2);clear hn h hnews hN hcell hl0 hr1 hr2;have hic : i <= cap:=by omega
 have hjc : i + 1 <= cap:=by omega
 have hn1 : (i : Int) + 1 <= n:=by omega
 have hn0 : (0 : Int) <= (i : Int) + 1:=by omega
 have mixed : Tryz.prog.follows Departure.mixedOrders = true:=by kernel_rfl
 go_enter Tryz.func124,Tryz.ntmps124;go_wp2_with fail;go_region_law_o (refine step_append_room rfl (.tmp 22) (.tmp 25) 28 rfl 89 i0 4 Tryz.underlying28 hinf hz1 g 0 i cap (by simp [Act.eval,Act.put]) A (n - (i + 1)) (cap - (i + 1)) news (by simp [Act.eval,Act.put]) hlen hsrc.out s2.out (by omega) s3.out ?_)
 rw [<- hW1,show i + (n - (i + 1)) = n - 1 by omega];clear hW1 hW2;have e1 : n - (n - 1) = 1:=by omega
 go_wp2_with fail;go_ret;refine ⟨rfl,?_,⟨HG.out.os,HG.out.tape,HG.out.output,HG.out.size,fun j hj hne => HG.out.block j hj (fun he => hne (xo he))⟩⟩;have:=HE.out;unfold Rw;rw [List.length_eraseIdx,if_pos (by rw [<- HN.out];exact hi),<- HN.out];exact this
structure Glob (w : World) : Prop where
 m : ∃ m : Int,w.cell? ⟨0,0,none⟩ = some (.int .i64 m)
 lens : Lens w
 errs : Errs w
 pow : Pow w
 sz : 6 < w.heap.size
theorem Glob.below {B : Nat} {w w' : World} (h : Glob w) (hB : 6 < B) (hb : Below B w w') : Glob w':=by
 obtain ⟨⟨m,hm⟩,h1,h2,h3,h4⟩:=h;exact ⟨⟨m,(hb.cell (p:=⟨0,0,none⟩) (show 0 < B by omega)).trans hm⟩,h1.below hB hb,h2.below (by omega) hb,h3.below hB hb,Nat.lt_of_lt_of_le h4 hb.size⟩
theorem Glob.made {w w' : World} (h : Glob w) (hb : Below w.heap.size w w') : Glob w':=h.below h.sz hb
theorem parseG (s z : ByteArray) (hz : Tt.code z.data.toList = true) (w : World) (hG : Glob w) : Calls Tryz.prog 53 #[.string s,.string z] w (ParA (parseV s z) w):=by
 obtain ⟨⟨m,hm⟩,hL,hE,hP,h6⟩:=hG;by_cases hs : s.size <= 262144
 ·cases hu : Tt.unf s.data.toList with
  | none =>
   rw [parseV_none hs hu];exact (none50 s z m w hs hz hu hm (by omega)).mono fun e w' h => by rw [h.1];exact ParA.empty 4 h.2
  | some ls =>
   rcases parseV_cases s z with ⟨n,v,es,ls',hp,_,hu',hv,hx⟩ | ⟨c,hc,hp⟩
   ·rw [hu] at hu';cases hu';rw [hp];obtain ⟨hv0,hv1,hel,hev⟩:=feedV_ok hv;refine (parse50X s n z v m es ls w hs hv hz (fun e he => by have h:=evsV_each v es Option.none hev e he;exact evB_valid h.1 h.2) hu hx.symm hm hL hP h6).mono ?_;rintro e w' ⟨pu,cu,ts,hts,rfl,hr,hb⟩;exact ⟨pu,cu,ts,rfl,hts,hr,hb⟩
   ·have hno : ∀ n v es,feedV n v es = 0 -> ¬ (feedL n.data.toList v es z.data.toList).map str = keepX (ls.map str):=fun n v es h hx => by
     have:=parseV_some hs hu h hx;rw [hp] at this;simp only [Prod.mk.injEq] at this;exact hc this.2
    rw [parseV_bad hs hu hno];refine (parse50L s z m ls w hs hz hu hm hL hE hP h6).mono ?_;rintro e w' (⟨rfl,hb⟩ | ⟨n2,v2,pu,cu,ts,rfl,h1,h2,hr,hb⟩)
    ·exact ParA.empty 15 hb
    ·exact absurd h2 (hno _ _ _ h1)
 ·rw [parseV_big (by omega)];exact (big50 s z w (by omega)).mono fun e w' h => by rw [h.1];exact ParA.empty 2 h.2
theorem parseV_rng (s z : ByteArray) : 0 <= (parseV s z).1.2.1 /\ (parseV s z).1.2.1 <= 64:=by
 rcases parseV_cases s z with ⟨n,v,es,ls,hp,_,_,hv,_⟩ | ⟨c,_,hp⟩
 ·rw [hp];obtain ⟨h1,h2,_⟩:=feedV_ok hv;exact ⟨h1,h2⟩
 ·rw [hp];exact ⟨Int.le_refl _,by show (0 : Int) <= 64;decide⟩
theorem parseV_size {s z : ByteArray} (h : (parseV s z).2 = 0) : s.size <= 262144:=by
 rcases parseV_cases s z with ⟨n,v,es,ls,hp,hs,_⟩ | ⟨c,hc,hp⟩
 ·exact hs
 ·rw [hp] at h;exact absurd h hc
theorem version120 (b : Nat) (z c : ByteArray) (v2 v3 v4 : Value) (w : World) (hB : Blk b #[.string z,.string c,v2,v3,v4] 125 w) (hz : Tt.code z.data.toList = true) (hG : Glob w) :
  Calls Tryz.prog 120 #[.pointer (some ⟨b,0,none⟩)] w fun e w' => e = .returned (.int .i64 (parseV c z).1.2.1) /\ Below w.heap.size w w':=by
 have HP:=Lh (parseG c z hz);have HG:=Lh hG;have HB:=Lh hB;have c0 : w.cell? ⟨b,0,none⟩ = some (.string z):=hB.cell 0;have c1 : w.cell? ⟨b,1,none⟩ = some (.string c):=hB.cell 1;have HKP : Hid (∀ W',Below w.heap.size w W' -> W'.cell? ⟨b,0,none⟩ = some (.string z) /\ W'.cell? ⟨b,1,none⟩ = some (.string c)):=Lh (fun W' h => ⟨(hB.below h hB.lt).cell 0,(hB.below h hB.lt).cell 1⟩);have hbl:=hB.lt;clear hz hG hB;go_enter Tryz.func120,Tryz.ntmps120;go_upto_region 1 with (fail);go_region_held3 (fun W' => W'.cell? ⟨b,0,none⟩ = some (.string z) /\ W'.cell? ⟨b,1,none⟩ = some (.string c)) (first | exact HKP.out _ (Below.refl _ _) | exact HKP.out _ (below_drw (Below.refl _ _)) | exact HKP.out _ (below_box _ _) | exact HKP.out _ (below_drw (below_box _ _)) | exact HKP.out _ h5 | exact HKP.out _ h5.1 | exact HKP.out _ (h5.alloc h5.size _) | exact HKP.out _ (((h5.1.setCell (xa _) _).setCell (xa _) _).setCell (xa _) _)) (first | (go_at_call 53;(with_reducible refine (HP.out _ (HG.out.made (below_drw (Below.refl _ _)))).mono ?_);rintro e w5 ⟨pu,cu,ts,rfl,hts,hR,h5a⟩;have h5 : Below w.heap.size w w5:=(below_drw (Below.refl _ w)).trans h5a) | (go_at_call 53;(with_reducible refine (HP.out _ (HG.out.made (below_drw (below_box _ _)))).mono ?_);rintro e w5 ⟨pu,cu,ts,rfl,hts,hR,h5a⟩;have h5 : Below w.heap.size w w5 /\ Blk w.heap.size #[.string ⟨#[]⟩,.int .i64 0,.slice none 0 0] 49 w5:=⟨(below_drw (below_box w _)).trans (h5a.mono (by simp)),(Blk.new w _ _).draw.below h5a (by simp)⟩;have q0:=h5.2.cell 0;have q1:=h5.2.cell 1;have q2:=h5.2.cell 2;have p0:=h5.2.frozen 0;have p1:=h5.2.frozen 1;have p2:=h5.2.frozen 2))
 ·have hb:=h5.alloc h5.size (.cells #[Value.string (parseV c z).1.1,Value.int .i64 (parseV c z).1.2.1,Value.slice pu ts.length cu] 49);go_wp2_with fail;go_ret;exact ⟨rfl,hb⟩
 ·have hb:=((h5.1.setCell (p:=⟨w.heap.size,0,none⟩) (xa _) (Value.string (parseV c z).1.1)).setCell (p:=⟨w.heap.size,1,none⟩) (xa _) (Value.int .i64 (parseV c z).1.2.1)).setCell (p:=⟨w.heap.size,2,none⟩) (xa _) (Value.slice pu ts.length cu);have hc1:=(((h5.2.set 0 (Value.string (parseV c z).1.1)).set 1 (Value.int .i64 (parseV c z).1.2.1)).set 2 (Value.slice pu ts.length cu)).cell 1;go_wp2_with fail;go_ret;exact ⟨rfl,hb⟩
def KeptT (e : TypeId) (w w' : World) : Prop:=∀ g cs ty,ty ≠ e -> Blk g cs ty w -> Blk g cs ty w'
theorem KeptT.trans {e : TypeId} {w w' w'' : World} (h : KeptT e w w') (k : KeptT e w' w'') : KeptT e w w'':=fun g cs ty h1 h2 => k g cs ty h1 (h g cs ty h1 h2)
theorem KeptT.made {e : TypeId} {w w' : World} (h : Below w.heap.size w w') : KeptT e w w':=fun _ _ _ _ h2 => h2.below h h2.lt
theorem KeptT.grown {e : TypeId} {B k n : Nat} {w w' : World} {v : Value} {xs : List Value} (h : w.ownsRow B e k v n xs) (hg : w.grownBy w' v.ownBlock) : KeptT e w w':=fun _ _ _ h1 h2 => h2.grown h hg h1
theorem KeptT.but {e : TypeId} {g : Nat} {cs : Array Value} {w w' : World} (h : Blk g cs e w) (hb : But g w.heap.size w w') : KeptT e w w':=fun _ _ _ h1 h2 => h2.but hb (h2.ne h h1)
theorem KeptT.set {e : TypeId} {g i : Nat} {cs : Array Value} {w : World} {u : Value} (h : Blk g cs e w) : KeptT e w (w.setCell ⟨g,i,none⟩ u):=fun _ _ _ h1 h2 => h2.set_other (h2.ne h h1) i u
theorem row_keptT {lo k n : Nat} {e e' : TypeId} {w w' : World} {v : Value} {xs : List Value} (h : w.ownsRow lo e' k v n xs) (hk : KeptT e w w') (hne : e' ≠ e) : w'.ownsRow lo e' k v n xs:=by
 refine ⟨h.1,?_⟩;rcases h.2 with h1 | ⟨g',cap,cur,r1,r2,r3,r4⟩
 ·exact .inl h1
 ·exact .inr ⟨g',cap,cur,r1,r2,hk g' cur e' hne r3,r4⟩
theorem RowT.keptT {lo : Nat} {e : TypeId} {w w' : World} {v : Value} {ts : List (Ev × Value × Value)} (h : RowT lo w v ts) (hk : KeptT e w w') (h1 : (104 : TypeId) ≠ e) (h2 : (3 : TypeId) ≠ e) : RowT lo w' v ts :=
 ⟨row_keptT h.row hk h1,fun t ht => ⟨(h.ref t ht).1,row_keptT (h.ref t ht).2.1 hk h2,row_keptT (h.ref t ht).2.2 hk h2⟩⟩
theorem Mach.ways {b lo : Nat} {w w' : World} {W : Wld} {ns : List Nte} {vw vr vn vw' : Value} {xs : List RdX} {ms : List Msg} (h : Mach b lo w W ns vw vr vn xs) (hk : KeptT 89 w w') (hr : Rw msgF 4 89 lo w' vw' ms) : Mach b lo (w'.setCell ⟨b,2,none⟩ vw') { W with way:=ms } ns vw' vr vn xs:=by
 have hb:=hk b _ 125 (by decide) h.box;exact ⟨hb.set 2 vw',h.ge,hr.set hb (by decide) 2 vw',(show Rw rdF 3 66 lo w' vr xs from row_keptT h.rds hk (by decide)).set hb (by decide) 2 vw',(show Rw nteF 4 82 lo w' vn ns from row_keptT h.nts hk (by decide)).set hb (by decide) 2 vw',
  fun x hx => ((h.evs x hx).keptT hk (by decide) (by decide)).set hb (by decide) (by decide) 2 vw',h.rmap⟩
theorem Mach.wayIn {b lo : Nat} {w w' : World} {W : Wld} {ns : List Nte} {vw vr vn : Value} {xs : List RdX} {ms : List Msg} (h : Mach b lo w W ns vw vr vn xs) (hk : KeptT 89 w w') (hr : Rw msgF 4 89 lo w' vw ms) : Mach b lo w' { W with way:=ms } ns vw vr vn xs :=
 ⟨hk b _ 125 (by decide) h.box,h.ge,hr,row_keptT h.rds hk (by decide),row_keptT h.nts hk (by decide),fun x hx => (h.evs x hx).keptT hk (by decide) (by decide),h.rmap⟩
def MPost (b lo : Nat) (x : (Wld × List Nte) × Int) (w : World) (e : Ending) (w' : World) : Prop :=
 ∃ vw vr vn xs,e = .returned (.int .i64 x.2) /\ Mach b lo w' x.1.1 x.1.2 vw vr vn xs /\ Below lo w w'
def msgV (m : Msg) : Value:=.agg #[.int .i64 m.rd,.bool m.ans,.int .i64 m.tag,.string m.body]
def sendV (W : Wld) (m : Msg) : Wld × Int:=if W.way.length = 64 then (W,67) else ({ W with way:=W.way ++ [m] },0)
theorem send_kept {b lo n : Nat} {cs : Array Value} {w w1 : World} {vw : Value} {ys : List Value} (hbx : Blk b cs 125 w) (hown : w.ownsRow lo 89 4 vw n ys) (hg : w.grownBy w1 vw.ownBlock) : (∀ i,w1.cell? ⟨b,i,none⟩ = cs[i]?) /\ ∀ i,w1.frozen? ⟨b,i,none⟩ = false:=by
 have h:=hbx.grown hown hg (by decide);exact ⟨fun i => h.cell i,fun i => h.frozen i⟩
theorem send121 (b lo : Nat) (W : Wld) (ns : List Nte) (vw vr vn : Value) (xs : List RdX) (m : Msg) (w : World) (hM : Mach b lo w W ns vw vr vn xs) (hlo : lo <= w.heap.size) (hl : W.way.length <= 64) :
  Calls Tryz.prog 121 #[.pointer (some ⟨b,0,none⟩),msgV m] w (MPost b lo (((sendV W m).1,ns),(sendV W m).2) w):=by
 obtain ⟨i0,hi,hz0,hz1,hz2⟩:=info_parts infoMsg;obtain ⟨aw,cw,rfl, -, -⟩:=hM.way.form;obtain ⟨W0,hW0⟩ : ∃ W0,W0 = w.alloc (.cells #[.int .i64 m.rd,.bool m.ans,.int .i64 m.tag,.string m.body] 89):=⟨_,rfl⟩
 have HB0:=Lh (show Below w.heap.size w W0 from by rw [hW0];exact below_box w _);have HM0:=Lh (hM.made HB0.out);have HX0:=Lh (show Blk w.heap.size #[.int .i64 m.rd,.bool m.ans,.int .i64 m.tag,.string m.body] 89 W0 from by rw [hW0];exact Blk.new w _ _);obtain ⟨P,hP⟩ : ∃ P,P = w.heap.size:=⟨_,rfl⟩
 have HPP:=Lh hP;rw [<- hP] at HX0;have hPW : P < W0.heap.size:=HX0.out.lt;have hbW : b < W0.heap.size:=HM0.out.box.lt;have c2 : W0.cell? ⟨b,2,none⟩ = some (.slice aw W.way.length cw):=HM0.out.box.cell 2;have f2 : W0.frozen? ⟨b,2,none⟩ = false:=HM0.out.box.frozen 2;have m0 : W0.cell? ⟨P,0,none⟩ = some (.int .i64 m.rd):=HX0.out.cell 0;have m1 : W0.cell? ⟨P,1,none⟩ = some (.bool m.ans):=HX0.out.cell 1;have m2 : W0.cell? ⟨P,2,none⟩ = some (.int .i64 m.tag):=HX0.out.cell 2;have m3 : W0.cell? ⟨P,3,none⟩ = some (.string m.body):=HX0.out.cell 3;have hlw : Hid (lo <= W0.heap.size):=Lh (Nat.le_trans hlo HB0.out.size);obtain ⟨n,hn⟩ : ∃ n,n = W.way.length:=⟨_,rfl⟩
 have HN:=Lh hn;rw [<- hn] at c2 hl;have HS:=Lh (show sendV W m = if n = 64 then (W,67) else ({ W with way:=W.way ++ [m] },0) from by rw [hn];rfl);have HLO:=Lh hlo;unfold msgV;clear hM hlo hn;go_enter Tryz.func121,Tryz.ntmps121;go_upto_region 1 with (fail);rw [<- hW0,<- hP];clear hW0 hP;by_cases h64 : n = 64
 ·have h64i : ((n : Int) == 64) = true:=by rw [h64];rfl
  have HR:=Lh (show sendV W m = (W,67) from by rw [HS.out,if_pos h64]);go_wp2_with fail;go_ret;rw [HR.out];exact ⟨_,_,_,_,rfl,HM0.out,HB0.out.mono HLO.out⟩
 ·have h64i : ((n : Int) == 64) = false:=by simp;omega
  have HR:=Lh (show sendV W m = ({ W with way:=W.way ++ [m] },0) from by rw [HS.out,if_neg h64]);go_upto_region 3 with (fail);have HOW:=Lh (show W0.ownsRow lo 89 4 (.slice aw n cw) n (gC msgF W.way) from by rw [HN.out];exact HM0.out.way);go_region_law (first | (refine step_append_lies _ (by rfl) _ _ _ (by rfl) lo 89 i0 _ 4 40 Tryz.underlying28 hi hz0 hz1 hz2 rfl (by decide) (.slice aw n cw) n (gC msgF W.way) (by rfl) (HOW.out.alloc _) ⟨W0.heap.size,0,none⟩ 1 1 (msgF m) (by rfl) (by rfl) (blk_cells (Blk.new W0 _ _)) (msgF_one m) (by omega) (by unfold maxLen;omega) (by omega) (by have:=hlw.out;simp;omega) (W0.heap.size + 1) (by simp) ?_;intro gg cap w1 hown1 hgrow hat hlt;obtain ⟨cA,fA⟩:=send_kept ((HM0.out.box.alloc _).draw) (HOW.out.alloc _) hgrow;have cA2:=cA 2;have fA2:=fA 2))
  all_goals
   have HK:=Lh ((KeptT.made (e:=89) (below_drw (below_box W0 (.cells #[.int .i64 m.rd,.bool m.ans,.int .i64 m.tag,.string m.body] 89)))).trans (KeptT.grown (HOW.out.alloc _) hgrow));have HB1:=Lh (below_grownBy ((HB0.out.mono HLO.out).trans ((below_drw (below_box W0 (.cells #[.int .i64 m.rd,.bool m.ans,.int .i64 m.tag,.string m.body] 89))).mono hlw.out)) (HOW.out.alloc _) (xa _) (by have:=hlw.out;simp;omega) hgrow);have HM1:=Lh (HM0.out.ways HK.out (Rw.snoc (show w1.ownsRow lo 89 4 (.slice (some ⟨gg,0,none⟩) (n + 1) cap) (W.way.length + 1) (gC msgF W.way ++ msgF m) from by rw [<- HN.out];exact hown1)));clear hgrow hown1 hat cA fA cA2 fA2 HK;go_wp2_with fail;go_ret;rw [HR.out];exact ⟨_,_,_,_,rfl,HM1.out,HB1.out.setCell (p:=⟨b,2,none⟩) HM0.out.ge _⟩
theorem Rw.rd {α : Type} {f : α -> List Value} {k : Nat} {e : TypeId} {lo n c : Nat} {w : World} {ao : Option Addr} {xs : List α} (h : Rw f k e lo w (.slice ao n c) xs) : Rd f w.heap.size w ao xs:=by
 obtain ⟨a,c',hv, -,hr⟩:=h.form;simp only [Value.slice.injEq] at hv;rw [hv.1];exact hr
theorem rds_get {W : Wld} {xs : List RdX} {j : Nat} {x : RdX} (h : xs.map RdX.r = W.rds) (hx : xs[j]? = some x) : W.rds[j]? = some x.r:=by rw [<- h,List.getElem?_map,hx];rfl
def stpV (s : Stp) (af : Option Addr) (cf : Nat) : Value:=.agg #[.int .i64 s.kind,.int .i64 s.pos,.int .i64 s.n,.string s.fn,.int .i64 s.fv,.slice af s.es.length cf]
def askV (W : Wld) (s : Stp) : Wld × Int:=if s.pos < 0 ∨ (W.rds.length : Int) <= s.pos then (W,3) else sendV W ⟨s.pos,false,(W.rds.getD s.pos.toNat ⟨0,0,[]⟩).tag,⟨#[]⟩⟩
def hasV (W : Wld) (i : Int) : Bool:=decide (0 <= i /\ i < (W.way.length : Int))
def loseV (W : Wld) (s : Stp) : Wld × Int:=if hasV W s.pos = false then (W,60) else ({ W with way:=W.way.eraseIdx s.pos.toNat },0)
theorem Rw.own {α : Type} {f : α -> List Value} {k : Nat} {e : TypeId} {lo n c : Nat} {w : World} {ao : Option Addr} {xs : List α} (h : Rw f k e lo w (.slice ao n c) xs) (hx : 0 < xs.length) : ∃ g cs,ao = some ⟨g,0,none⟩ /\ n = xs.length /\ lo <= g /\ Blk g cs e w:=by
 rcases (show w.ownsRow lo e k _ xs.length (gC f xs) from h).2 with ⟨_,h0⟩ | ⟨g,cap,cur,hv,r2,r3,_⟩
 ·omega
 ·simp only [Value.slice.injEq] at hv;exact ⟨g,cur,hv.1,hv.2.1,r2,r3⟩
theorem but_low {lo g : Nat} {w w' : World} (h : But g w.heap.size w w') (hg : lo <= g) (hl : lo <= w.heap.size) : Below lo w w':=⟨h.os,h.tape,h.output,h.size,fun k hk => h.block k (by omega) (by omega)⟩
theorem not_empty {s : ByteArray} (h : ¬ s = ⟨#[]⟩) : s.toList.isEmpty = false:=by
 have h1:=text_ne h;cases hs : s.toList with
 | nil => rw [hs,show (⟨#[]⟩ : ByteArray).toList = [] from by rw [Lib.toList_data]] at h1;cases h1
 | cons => rfl
theorem RowT.sgE {lo n c : Nat} {w : World} {ao : Option Addr} {ts : List (Ev × Value × Value)} (h : RowT lo w (.slice ao n c) ts) : Seg w.heap.size w ao ts:=by
 obtain ⟨a,c',hv, -,hs⟩:=h.seg;simp only [Value.slice.injEq] at hv;rw [hv.1];exact hs
theorem check_ser {e : Ev} {v : Int} (h : checkV e v = 0) : Tt.serV e.days = 0:=by
 unfold checkV at h;split at h
 ·cases h
 ·split at h
  ·contradiction
  ·rename_i h2
   simpa using h2
theorem rd_lists {v : Int} {es : List Ev} (h : rdOk v es = true) : ∀ e ∈ es,e.days.ex.length <= 1000000 /\ e.days.xt.length <= 1000000:=by
 intro e he;have hh:=((Tt.serV_zero _).1 (check_ser (evsV_each v es none ((rdOk_iff v es).1 h).2.2.2 e he).2)).1.n;omega
theorem feed_lists {n : ByteArray} {v : Int} {es : List Ev} (h : feedV n v es = 0) : ∀ e ∈ es,e.days.ex.length <= 1000000 /\ e.days.xt.length <= 1000000:=by
 intro e he;have hh:=((Tt.serV_zero _).1 (check_ser (evsV_each v es none (feedV_ok h).2.2.2 e he).2)).1.n;omega
theorem row_set_blk {lo k n c g g' : Nat} {e : TypeId} {w : World} {xs : List Value} (h : w.ownsRow lo e k (.slice (some ⟨g,0,none⟩) n c) n xs) (hne : g' ≠ g) (i : Nat) (u : Value) : (w.setCell ⟨g',i,none⟩ u).ownsRow lo e k (.slice (some ⟨g,0,none⟩) n c) n xs:=by
 refine ⟨h.1,?_⟩;rcases h.2 with h1 | ⟨g2,cap,cur,r1,r2,r3,r4⟩
 ·exact .inl h1
 ·have : g2 = g:=by simp only [Value.slice.injEq,Option.some.injEq,Addr.mk.injEq,and_true,true_and] at r1;exact r1.1.symm
  exact .inr ⟨g2,cap,cur,r1,r2,(Below.heap_setCell _ _ _ _ (by rw [this];exact Ne.symm hne)).trans r3,r4⟩
theorem Mach.boxN {b lo gr cr N : Nat} {cs : Array Value} {w : World} {W : Wld} {ns : List Nte} {vw vn : Value} {xs : List RdX} (h : Mach b lo w W ns vw (.slice (some ⟨gr,0,none⟩) xs.length cr) vn xs) (hN : Blk N cs 66 w) (hne : N ≠ gr) (i : Nat) (u : Value) : Mach b lo (w.setCell ⟨N,i,none⟩ u) W ns vw (.slice (some ⟨gr,0,none⟩) xs.length cr) vn xs :=
 ⟨h.box.set_other (h.box.ne hN (by decide)) i u,h.ge,h.way.set hN (by decide) i u,row_set_blk h.rds hne i u,h.nts.set hN (by decide) i u,fun x hx => (h.evs x hx).set hN (by decide) (by decide) i u,h.rmap⟩
theorem Mach.rdPut {b lo gr cr j : Nat} {w : World} {W : Wld} {ns : List Nte} {vw vn : Value} {xs : List RdX} {o X : RdX} (h : Mach b lo w W ns vw (.slice (some ⟨gr,0,none⟩) xs.length cr) vn xs) (ho : xs[j]? = some o) (hX : RowT lo w (.slice X.ao X.ts.length X.c) X.ts) :
  Mach b lo (((w.setCell ⟨gr,j * 3,none⟩ (.int .i64 X.v)).setCell ⟨gr,j * 3 + 1,none⟩ (.int .i64 X.tag)).setCell ⟨gr,j * 3 + 2,none⟩ (.slice X.ao X.ts.length X.c)) { W with rds:=W.rds.set j X.r } ns vw (.slice (some ⟨gr,0,none⟩) xs.length cr) vn (xs.set j X) /\
  ∀ q,lo <= q.heap.size -> Below lo q w -> Below lo q (((w.setCell ⟨gr,j * 3,none⟩ (.int .i64 X.v)).setCell ⟨gr,j * 3 + 1,none⟩ (.int .i64 X.tag)).setCell ⟨gr,j * 3 + 2,none⟩ (.slice X.ao X.ts.length X.c)):=by
 have hj : j < xs.length:=(xd.1 ho).1;have p1:=Rw.put rdF_len h.rds (i:=j) (q:=0) (x:=o) (x':={ o with v:=X.v }) (u:=.int .i64 X.v) ho (by omega) rfl;have p2:=Rw.put rdF_len (show Rw rdF 3 66 lo _ (.slice (some ⟨gr,0,none⟩) (xs.set j { o with v:=X.v }).length cr) _ from by rw [List.length_set];exact p1.1) (i:=j) (q:=1) (x:={ o with v:=X.v }) (x':={ o with v:=X.v,tag:=X.tag }) (u:=.int .i64 X.tag) (List.getElem?_set_self hj) (by omega) rfl;rw [List.set_set] at p2;have p3:=Rw.put rdF_len (show Rw rdF 3 66 lo _ (.slice (some ⟨gr,0,none⟩) (xs.set j { o with v:=X.v,tag:=X.tag }).length cr) _ from by rw [List.length_set] at p2 ⊢;exact p2.1) (i:=j) (q:=2) (x:={ o with v:=X.v,tag:=X.tag }) (x':=X) (u:=.slice X.ao X.ts.length X.c) (List.getElem?_set_self hj) (by omega) rfl;rw [List.set_set] at p3;simp only [List.length_set,xm] at p1 p2 p3;have hk : KeptT 66 w (((w.setCell ⟨gr,j * 3,none⟩ (.int .i64 X.v)).setCell ⟨gr,j * 3 + 1,none⟩ (.int .i64 X.tag)).setCell ⟨gr,j * 3 + 2,none⟩ (.slice X.ao X.ts.length X.c)):=by
  obtain ⟨g2,cs,h1, -, -,h2⟩:=Rw.own h.rds (by omega);cases h1;exact ((KeptT.set h2).trans (KeptT.set (h2.set _ _))).trans (KeptT.set ((h2.set _ _).set _ _))
 refine ⟨⟨hk b _ 125 (by decide) h.box,h.ge,row_keptT h.way hk (by decide),(by have:=p3.1;unfold Rw at this ⊢;rw [List.length_set];rw [List.length_set] at this;exact this),row_keptT h.nts hk (by decide),fun x hx => ?_,?_⟩,fun q hq hb => ?_⟩
 ·rcases List.mem_or_eq_of_mem_set hx with hm | rfl
  ·exact (h.evs x hm).keptT hk (by decide) (by decide)
  ·exact hX.keptT hk (by decide) (by decide)
 ·show (xs.set j X).map RdX.r = W.rds.set j X.r
  rw [List.map_set,h.rmap]
 ·obtain ⟨g2,cs,h1, -,h3,h2⟩:=Rw.own h.rds (by omega);cases h1;exact ((hb.setCell (p:=⟨gr,j * 3,none⟩) h3 _).setCell (p:=⟨gr,j * 3 + 1,none⟩) h3 _).setCell (p:=⟨gr,j * 3 + 2,none⟩) h3 _
theorem Mach.noted {b lo : Nat} {w w' : World} {W : Wld} {ns ms : List Nte} {vw vr vn vn' : Value} {xs : List RdX} (h : Mach b lo w W ns vw vr vn xs) (hk : KeptT 82 w w') (hr : Rw nteF 4 82 lo w' vn' ms) : Mach b lo (w'.setCell ⟨b,4,none⟩ vn') W ms vw vr vn' xs:=by
 have hb:=hk b _ 125 (by decide) h.box;exact ⟨hb.set 4 vn',h.ge,(show Rw msgF 4 89 lo w' vw W.way from row_keptT h.way hk (by decide)).set hb (by decide) 4 vn',(show Rw rdF 3 66 lo w' vr xs from row_keptT h.rds hk (by decide)).set hb (by decide) 4 vn',hr.set hb (by decide) 4 vn',
  fun x hx => ((h.evs x hx).keptT hk (by decide) (by decide)).set hb (by decide) (by decide) 4 vn',h.rmap⟩
theorem merge_notes {rv tag : Int} {es : List Ev} {n : ByteArray} {v : Int} {fs : List Ev} {v' t' c : Int} {us : List Ev} {ns : List Nt} (h : mergeV rv tag es n v fs = (v',t',us,ns,c)) (hf : feedV n v fs = 0) : ns.length <= 256:=by
 have h0:=congrArg (fun q => q.2.2.2.1.length) h;simp only at h0;rw [<- h0];have hl:=(feedV_ok hf).2.2.1;have hm:=(mrg_len es fs fs.length (xa _)).2;rw [mrg_all] at hm;unfold mergeV;split
 ·simp
 ·split
  ·simp
  ·split
   ·simp
   ·split
    ·simp
    ·simp only;omega
theorem note_kept {b lo n : Nat} {cs : Array Value} {w w1 : World} {vw : Value} {ys : List Value} (hbx : Blk b cs 125 w) (hown : w.ownsRow lo 82 4 vw n ys) (hg : w.grownBy w1 vw.ownBlock) : (∀ i,w1.cell? ⟨b,i,none⟩ = cs[i]?) /\ ∀ i,w1.frozen? ⟨b,i,none⟩ = false:=by
 have h:=hbx.grown hown hg (by decide);exact ⟨fun i => h.cell i,fun i => h.frozen i⟩
theorem i64_sum (j : Nat) (h : j <= 1000000) : IntKind.i64.wrap ((j : Int) + 1) = (j : Int) + 1:=IntWalk.i64_in _ (by omega)
theorem but_kept {b g : Nat} {cs cs' : Array Value} {w w' : World} (hb : Blk b cs 125 w) (hg : Blk g cs' 89 w) (h : But g w.heap.size w w') : w'.cell? ⟨b,2,none⟩ = cs[2]? /\ w'.frozen? ⟨b,2,none⟩ = false:=by
 have:=hb.but h (hb.ne hg (by decide));exact ⟨this.cell 2,this.frozen 2⟩
def repV (W : Wld) (s : Stp) : Wld × Int:=if hasV W s.pos = false then (W,60) else sendV W (W.way.getD s.pos.toNat ⟨0,false,0,⟨#[]⟩⟩)
def cutS (s : ByteArray) (n : Int) : ByteArray:=s.extract 0 (min (max n 0) s.size).toNat
def cutW (W : Wld) (s : Stp) : Wld × Int :=
 if hasV W s.pos = false then (W,60)
 else if (W.way.getD s.pos.toNat ⟨0,false,0,⟨#[]⟩⟩).ans = false then (W,60)
 else ({ W with way:=W.way.set s.pos.toNat { W.way.getD s.pos.toNat ⟨0,false,0,⟨#[]⟩⟩ with body:=cutS (W.way.getD s.pos.toNat ⟨0,false,0,⟨#[]⟩⟩).body s.n } },0)
def verW (W : Wld) : Int:=(parseV W.cur W.zone).1.2.1
def nowW (W : Wld) : Int:=if W.cur = ⟨#[]⟩ then 0 else tagV W.cur (verW W)
def serveM (W : Wld) (m : Msg) : Msg:=⟨m.rd,true,nowW W,if m.tag = nowW W then m.body else W.cur⟩
def serveV (W : Wld) (s : Stp) : Wld × Int :=
 if hasV W s.pos = false then (W,60)
 else if (W.way.getD s.pos.toNat ⟨0,false,0,⟨#[]⟩⟩).ans = true then (W,60)
 else ({ W with way:=W.way.set s.pos.toNat (serveM W (W.way.getD s.pos.toNat ⟨0,false,0,⟨#[]⟩⟩)) },0)
def pubV (W : Wld) (s : Stp) : Wld × Int :=
 if (formatV s.fn s.fv s.es W.zone).2 ≠ 0 then (W,(formatV s.fn s.fv s.es W.zone).2)
 else if W.cur = ⟨#[]⟩ then ({ W with cur:=str (formatV s.fn s.fv s.es W.zone).1 },0)
 else if s.fv < verW W ∨ (s.fv = verW W /\ ¬ str (formatV s.fn s.fv s.es W.zone).1 = W.cur) then (W,63)
 else ({ W with cur:=str (formatV s.fn s.fv s.es W.zone).1 },0)
def msgOk (k : Nat) (m : Msg) : Bool:=decide (0 <= m.rd) && (decide (m.rd < (k : Int)) && (m.ans || decide (m.body = ⟨#[]⟩)))
def validW (W : Wld) : Bool:=Tt.code W.zone.data.toList && (decide (W.way.length <= 64) && (decide (1 <= W.rds.length) && (decide (W.rds.length <= 24) && ((decide (W.cur = ⟨#[]⟩) || decide ((parseV W.cur W.zone).2 = 0)) && (W.way.all (msgOk W.rds.length) && W.rds.all (fun r => rdOk r.v r.es))))))
structure ValidW (W : Wld) : Prop where
 zone : Tt.code W.zone.data.toList = true
 way : W.way.length <= 64
 one : 1 <= W.rds.length
 few : W.rds.length <= 24
 cur : W.cur = ⟨#[]⟩ ∨ (parseV W.cur W.zone).2 = 0
 msg : ∀ m ∈ W.way,msgOk W.rds.length m = true
 rds : ∀ r ∈ W.rds,rdOk r.v r.es = true
theorem validW_iff (W : Wld) : validW W = true ↔ ValidW W:=by
 unfold validW;simp only [Bool.and_eq_true,Bool.or_eq_true,decide_eq_true_eq,List.all_eq_true];exact ⟨fun ⟨h1,h2,h3,h4,h5,h6,h7⟩ => ⟨h1,h2,h3,h4,h5,h6,h7⟩,fun h => ⟨h.zone,h.way,h.one,h.few,h.cur,h.msg,h.rds⟩⟩
theorem ValidW.size {W : Wld} (h : ValidW W) : W.cur.size <= 262144:=by
 rcases h.cur with h | h
 ·rw [h];decide
 ·exact parseV_size h
def delM (W : Wld) (m : Msg) : Wld × List Nte :=
 if (parseV m.body W.zone).2 ≠ 0 ∨ ¬ tagV m.body (parseV m.body W.zone).1.2.1 = m.tag then (W,[])
 else match W.rds[m.rd.toNat]? with
  | none => (W,[])
  | some o =>
   if (mergeV o.v o.tag o.es (parseV m.body W.zone).1.1 (parseV m.body W.zone).1.2.1 (parseV m.body W.zone).1.2.2).2.2.2.2 ≠ 0 then (W,[])
   else ({ W with rds:=W.rds.set m.rd.toNat ⟨(mergeV o.v o.tag o.es (parseV m.body W.zone).1.1 (parseV m.body W.zone).1.2.1 (parseV m.body W.zone).1.2.2).1,if o.v <= (parseV m.body W.zone).1.2.1 then m.tag else (mergeV o.v o.tag o.es (parseV m.body W.zone).1.1 (parseV m.body W.zone).1.2.1 (parseV m.body W.zone).1.2.2).2.1,(mergeV o.v o.tag o.es (parseV m.body W.zone).1.1 (parseV m.body W.zone).1.2.1 (parseV m.body W.zone).1.2.2).2.2.1⟩ },(mergeV o.v o.tag o.es (parseV m.body W.zone).1.1 (parseV m.body W.zone).1.2.1 (parseV m.body W.zone).1.2.2).2.2.2.1.map (Nte.mk m.rd))
theorem delM_no {W : Wld} {m : Msg} (h : (parseV m.body W.zone).2 ≠ 0 ∨ ¬ tagV m.body (parseV m.body W.zone).1.2.1 = m.tag) : delM W m = (W,[]):=if_pos h
theorem delM_some {W : Wld} {m : Msg} {o : Rdr} {f : ByteArray} {v : Int} {es : List Ev} {v' t' c : Int} {us : List Ev} {ns : List Nt} (h : ¬ ((parseV m.body W.zone).2 ≠ 0 ∨ ¬ tagV m.body (parseV m.body W.zone).1.2.1 = m.tag)) (ho : W.rds[m.rd.toNat]? = some o) (hF : (parseV m.body W.zone).1 = (f,v,es)) (hm : mergeV o.v o.tag o.es f v es = (v',t',us,ns,c)) :
  delM W m = if c ≠ 0 then (W,[]) else ({ W with rds:=W.rds.set m.rd.toNat ⟨v',if o.v <= v then m.tag else t',us⟩ },ns.map (Nte.mk m.rd)):=by
 unfold delM;rw [if_neg h,ho];simp only [hF,hm]
def delV (W : Wld) (ns : List Nte) (s : Stp) : (Wld × List Nte) × Int :=
 if hasV W s.pos = false then ((W,ns),60)
 else if (W.way.getD s.pos.toNat ⟨0,false,0,⟨#[]⟩⟩).ans = false then ((W,ns),60)
 else (((delM { W with way:=W.way.eraseIdx s.pos.toNat } (W.way.getD s.pos.toNat ⟨0,false,0,⟨#[]⟩⟩)).1,ns ++ (delM { W with way:=W.way.eraseIdx s.pos.toNat } (W.way.getD s.pos.toNat ⟨0,false,0,⟨#[]⟩⟩)).2),0)
end Go.Proofs.YtcomifbfldoeiaaGreatDoor
