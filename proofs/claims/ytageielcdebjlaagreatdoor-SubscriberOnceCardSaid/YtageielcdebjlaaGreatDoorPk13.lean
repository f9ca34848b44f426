/- The drawn versions of a timetable, plain: sessions in ascending order of their classes. No program in sight. Condition: none. timetablemore.States: its contract: rows of sessions in new memory. Toward the law of feed.Make: drawn versions as a list of lists in memory; the feed that Make answers is valid. No function of the program in sight. -/
import Derived.Test.YtageielcdebjlaaGreatDoorPk12
import Derived.Test.YtageielcdebjlaaGreatDoorPk5
import Derived.Test.YtageielcdebjlaaGreatDoorPk10
import Derived.Test.YtageielcdebjlaaGreatDoorPk3
namespace Go.Proofs.YtageielcdebjlaaGreatDoor
open Go.RowKit
def RmOk (r : ByteArray) : Prop:=r = ⟨#[]⟩ ∨ r = ⟨#[82,49]⟩ ∨ r = ⟨#[82,50]⟩
def ClsOk (s : ByteArray) : Prop:=∃ c : UInt8,s = ⟨#[99,c]⟩ /\ 49 <= c.toNat /\ c.toNat <= 52
theorem two_bytes (a b : UInt8) : (⟨#[a]⟩ ++ ⟨#[b]⟩ : ByteArray) = ⟨#[a,b]⟩:=by
 apply ByteArray.ext
 simp [ByteArray.data_append]
theorem byte_in {n : Int} (h0 : 49 <= n) (h1 : n <= 52) : 49 <= (UInt8.ofNat n.toNat).toNat /\ (UInt8.ofNat n.toNat).toNat <= 52:=by
 rw [UInt8.toNat_ofNat_of_lt' (show n.toNat < UInt8.size by show n.toNat < 256;omega)];omega
structure SesOk (g : Tt.Grd) (n : Int) (s : Ses) : Prop where
 cls : ClsOk s.cls
 tim : Tt.TimOk g n s.tim
 room : RmOk s.room
structure VerOk (g : Tt.Grd) (n : Int) (l : List Ses) : Prop where
 asc : l.Pairwise (fun a b => lessU a.cls b.cls = true)
 each : ∀ s ∈ l,SesOk g n s
theorem VerOk.nil (g : Tt.Grd) (n : Int) : VerOk g n []:=⟨List.Pairwise.nil,fun s h => by cases h⟩
theorem putG_mem {s x : Ses} : ∀ {l : List Ses} {dn : Bool},x ∈ putG s dn l -> x = s /\ dn = false ∨ x ∈ l /\ x.cls ≠ s.cls
 | [],dn,h => by
  unfold putG at h;cases dn with
  | true => simp at h
  | false => simp at h;exact .inl ⟨h,rfl⟩
 | y :: r,dn,h => by
  rw [putG] at h;rcases List.mem_append.1 h with h | h
  ·split at h
   ·cases h
   ·rename_i g
    refine .inl ⟨List.mem_singleton.1 h,?_⟩;cases dn with
    | true => simp at g
    | false => rfl
  ·rcases List.mem_append.1 h with h | h
   ·split at h
    ·cases h
    ·rename_i g
     rw [List.mem_singleton.1 h];exact .inr ⟨List.mem_cons_self ..,fun q => g (by rw [q];simp)⟩
   ·rcases putG_mem h with ⟨a,b⟩ | ⟨a,b⟩
    ·refine .inl ⟨a,?_⟩;cases dn with
     | true => simp at b
     | false => rfl
    ·exact .inr ⟨List.mem_cons_of_mem _ a,b⟩
theorem putG_done (s : Ses) : ∀ l : List Ses,putG s true l = l.filter (fun x => !(x.cls.toList == s.cls.toList))
 | [] => rfl
 | x :: r => by
  rw [putG,Bool.true_or,if_pos rfl,Bool.true_or,putG_done s r,List.nil_append,List.filter_cons];by_cases h : (x.cls.toList == s.cls.toList) = true
  ·rw [if_pos h,if_neg (by rw [h];decide),List.nil_append]
  ·rw [if_neg h,if_pos (by simpa using h)];rfl
theorem cls_less {a b : ByteArray} (h : ¬ lessU a b = true) (hne : ¬ (a.toList == b.toList) = true) : lessU b a = true :=
 late_less (not_less_late (by simpa using h) (fun q => hne (by rw [q];simp)))
theorem putG_asc {s : Ses} : ∀ {l : List Ses} {dn : Bool},l.Pairwise (fun a b => lessU a.cls b.cls = true) -> (putG s dn l).Pairwise (fun a b => lessU a.cls b.cls = true)
 | l,true,h => by rw [putG_done];exact h.filter _
 | [],false,_ => by unfold putG;exact List.pairwise_singleton _ _
 | x :: r,false,h => by
  obtain ⟨h1,h2⟩:=List.pairwise_cons.1 h;rw [putG,Bool.false_or,Bool.false_or];by_cases hl : Op.bytesLess x.cls.toList s.cls.toList = true
  ·have hls : lessU x.cls s.cls = true:=hl;have hne : ¬ (x.cls.toList == s.cls.toList) = true:=fun q => by
    have e : x.cls.toList = s.cls.toList:=by simpa using q
    rw [e,bytesLess_eq] at hl;simp at hl;exact List.lt_irrefl _ hl
   rw [if_pos hl,if_neg hne,hl,List.nil_append];refine List.pairwise_cons.2 ⟨fun y hy => ?_,putG_asc h2⟩;rcases putG_mem hy with ⟨a, -⟩ | ⟨a, -⟩
   ·rw [a];exact hls
   ·exact h1 y a
  ·have hl' : Op.bytesLess x.cls.toList s.cls.toList = false:=by simpa using hl
   rw [if_neg hl,hl',Bool.not_false,putG_done,List.singleton_append];refine List.pairwise_cons.2 ⟨fun y hy => ?_,?_⟩
   ·rcases List.mem_append.1 hy with hy | hy
    ·split at hy
     ·cases hy
     ·rename_i g
      rw [List.mem_singleton.1 hy];exact cls_less hl g
    ·have hm:=(List.mem_filter.1 hy).1;by_cases hq : (x.cls.toList == s.cls.toList) = true
     ·have e : x.cls.toList = s.cls.toList:=by simpa using hq
      have:=h1 y hm;unfold lessU at this ⊢;rwa [<- e]
     ·exact lessU_trans (cls_less hl hq) (h1 y hm)
   ·split
    ·exact h2.filter _
    ·exact List.pairwise_cons.2 ⟨fun y hy => h1 y (List.mem_filter.1 hy).1,h2.filter _⟩
theorem VerOk.put {g : Tt.Grd} {n : Int} {l : List Ses} {s : Ses} (h : VerOk g n l) (aw : Bool) (hs : SesOk g n s) : VerOk g n (putG s aw l) :=
 ⟨putG_asc h.asc,fun x hx => by
  rcases putG_mem hx with ⟨a, -⟩ | ⟨a, -⟩
  ·rw [a];exact hs
  ·exact h.each x a⟩
structure RowSS (lo : Nat) (w : World) (u : Value) (ls : List (Value × List Ses)) : Prop where
 row : w.ownsRow lo 110 1 u ls.length (ls.map (·.1))
 each : ∀ q ∈ ls,RowS lo w q.1 q.2
theorem RowSS.nil (lo : Nat) (w : World) : RowSS lo w (.slice none 0 0) []:=⟨World.ownsRow_nil _ _ _ _,fun q h => by cases h⟩
theorem RowSS.but {b lo : Nat} {w w' : World} {u : Value} {ls : List (Value × List Ses)} (h : RowSS lo w u ls) (hb : b < lo) (ho : But b w.heap.size w w') : RowSS lo w' u ls:=⟨row_but h.row hb ho,fun q hq => row_but (h.each q hq) hb ho⟩
theorem RowSS.alloc {lo : Nat} {w : World} {u : Value} {ls : List (Value × List Ses)} (h : RowSS lo w u ls) (o : Obj) : RowSS lo (w.alloc o) u ls:=⟨h.row.alloc o,fun q hq => World.ownsRow.alloc (h.each q hq) o⟩
theorem RowSS.snoc {lo : Nat} {w w' : World} {u u' : Value} {ls : List (Value × List Ses)} {q : Value × List Ses} (h : RowSS lo w u ls) (hq : RowS lo w q.1 q.2) (hg : w.grownBy w' u.ownBlock) (hown : w'.ownsRow lo 110 1 u' (ls.length + 1) (ls.map (·.1) ++ [q.1])) : RowSS lo w' u' (ls ++ [q]):=by
 have hk : ∀ r : Value × List Ses,RowS lo w r.1 r.2 -> RowS lo w' r.1 r.2:=fun r hr => World.ownsRow.kept hr hg (row_apart_ty hr h.row (by decide))
 refine ⟨by rw [List.length_append,List.map_append];exact hown,fun r hr => ?_⟩;rcases List.mem_append.1 hr with h1 | h1
 ·exact hk r (h.each r h1)
 ·rw [List.mem_singleton.1 h1];exact hk q hq
set_option maxHeartbeats 8000000 in
set_option maxRecDepth 100000 in
theorem states62v (b : Nat) (g : Tt.Grd) (t : Tt.Trm) (p : Option Addr) (c : Nat) (w : World) (hd : Dice b w) (g0 : 1 <= g.days) (g1 : g.days <= 5) (g2 : 2 <= g.slots) (g3 : g.slots <= 8) (k0 : 1 <= t.weeks) (k1 : t.weeks <= 8) : Calls Tryz.prog 62 #[.pointer (some ⟨b,0,none⟩),grdVal g,trmVal t (.slice p t.hols.length c)] w fun e w' => ∃ (u : Value) (ls : List (Value × List Ses)),e = .returned u /\ RowSS w.heap.size w' u ls /\ ls.length <= 4 /\ (∀ q ∈ ls,q.2.length <= 12 /\ VerOk g t.weeks q.2) /\ Sofar b w w':=by
 obtain ⟨i0,hii,hz0,hz1,hz2⟩:=info_parts infoSes;obtain ⟨i1,hji,hy0,hy1,hy2⟩:=info_parts infoSl;unfold grdVal trmVal;have hblt:=hd.lt;obtain ⟨P,hP⟩ : ∃ g,g = w.heap.size:=⟨_,rfl⟩
 obtain ⟨Q,hQ⟩ : ∃ g,g = w.heap.size + 1:=⟨_,rfl⟩
 obtain ⟨w0,hw0⟩ : ∃ X,X = ((w.alloc (.cells #[.int .i64 g.days,.int .i64 g.slots,.int .i64 g.begin_,.int .i64 g.mins] 90)).alloc (.cells #[.int .i64 t.first,.int .i64 t.weeks,.slice p t.hols.length c] 93)):=⟨_,rfl⟩
 have HS_w0:=Lh (show Sofar b w w0 from by rw [hw0];exact (((Sofar.refl hd).alloc _).alloc _));have HP_w0:=Lh (show Blk P #[.int .i64 g.days,.int .i64 g.slots,.int .i64 g.begin_,.int .i64 g.mins] 90 w0 from by rw [hw0,hP];exact (Blk.new' _ _ _ (by simp)).alloc _);have lP : w.heap.size <= P:=by omega
 have HQ_w0:=Lh (show Blk Q #[.int .i64 t.first,.int .i64 t.weeks,.slice p t.hols.length c] 93 w0 from by rw [hw0,hQ];exact Blk.new' _ _ _ (by simp));have lQ : w.heap.size <= Q:=by omega
 have nQP : Q ≠ P:=by omega
 have bP : b < P:=by omega
 have bQ : b < Q:=by omega
 go_enter Tryz.func62,Tryz.ntmps62;go_upto_region 1 with (fail);rw [<- hw0,<- hQ,<- hP];clear hw0 hP hQ;have nPb : P ≠ b:=by omega
 have nQb : Q ≠ b:=by omega
 have HWB:=Lh hblt;go_wp2_with fail;refine (next_any b 5 _ HS_w0.out.dice (by omega) (by omega)).mono ?_;rintro e w1 ⟨a1,rfl,l1,u1, -,hd,ho⟩;have u1:=u1 (by omega);have HS_w1:=Lh (HS_w0.out.only hd ho);have HP_w1:=Lh (HP_w0.out.only ho (by omega));have HQ_w1:=Lh (HQ_w0.out.only ho (by omega));clear hd ho HS_w0 HP_w0 HQ_w0;go_wp2_with fail;go_loopw [7,8,9] (fun ov nv iv wr => ∃ (ls : List (Value × List Ses)) (ns : List Ses) (n : Int),iv = .int .i64 n /\ 0 <= n /\ n <= 4 /\ ls.length + n <= 4 /\ ns.length + 3 * n <= 12 /\ Hid (RowSS w.heap.size wr ov ls) /\ Hid (∀ q ∈ ls,q.2.length <= 12 /\ VerOk g t.weeks q.2) /\ Hid (VerOk g t.weeks ns) /\ Hid (RowS w.heap.size wr nv ns) /\ Hid (Blk P #[.int .i64 g.days,.int .i64 g.slots,.int .i64 g.begin_,.int .i64 g.mins] 90 wr) /\ Hid (Blk Q #[.int .i64 t.first,.int .i64 t.weeks,.slice p t.hols.length c] 93 wr) /\ Hid (Sofar b w wr)) (fun _ _ iv _ => (intOf iv).toNat)
 case atStart => exact ⟨[],[],a1,rfl,by omega,by omega,by simp;omega,by simp;omega,Lh (RowSS.nil _ _),Lh (fun q h => by cases h),Lh (VerOk.nil _ _),Lh (RowS.nil _ _),HP_w1,HQ_w1,HS_w1⟩
 case round =>
  clear HP_w1 HQ_w1 HS_w1;obtain ⟨ls,ns,n,rfl,hn0,hn1,hll,hnl,HO,HLE,HNV,HN,HP_wr,HQ_wr,HS_wr⟩:=hrel;obtain ⟨un,hun⟩ : ∃ X,X = u8:=⟨_,rfl⟩
  subst hun;by_cases hpos : 0 < n
  rotate_left
  ·go_wp2_with fail;go_ret;exact ⟨_,rfl,ls,HO.out,by omega,fun a b h => HLE.out (a,b) h,HS_wr.out⟩
  have hszw : w.heap.size <= wr.heap.size:=HS_wr.out.but.size;go_wp2_with (at_builtin;refine wpList_append_row rfl (.const (.slice none 0 0)) (.tmp 18) 110 rfl w.heap.size 107 i0 _ 6 64 Tryz.underlying110 hii hz0 hz1 hz2 rfl (by decide) _ _ _ rfl (World.ownsRow_nil wr _ _ _) w.heap.size _ _ _ rfl HN.out (sL_cells1 _) (by unfold maxLen;omega) (by omega) hszw ?_);intro v1 x1 hown hgrow hat;have hgrow : wr.grownBy x1 none:=hgrow;have HN1:=Lh (show RowS w.heap.size x1 v1 ns from by simpa [RowS] using hown);have hbl : Below wr.heap.size wr x1:=⟨hgrow.os,hgrow.tape,hgrow.output,hgrow.size,fun k hk => hgrow.block k hk (by simp)⟩
  have HS1:=Lh (HS_wr.out.grown0 hgrow);have HP1:=Lh (HP_wr.out.below hbl HP_wr.out.lt);have HQ1:=Lh (HQ_wr.out.below hbl HQ_wr.out.lt);have HO1:=Lh (HO.out.but HWB.out (But.of_below hbl));clear hown hgrow hat hbl hszw HO HN HP_wr HQ_wr HS_wr;go_wp2_with fail;refine (next_any b 3 _ HS1.out.dice (by omega) (by omega)).mono ?_;rintro e x2 ⟨m,rfl,m0,m1, -,hd,ho⟩;have m1:=m1 (by omega);have HS2:=Lh (HS1.out.only hd ho);have HP2:=Lh (HP1.out.only ho nPb);have HQ2:=Lh (HQ1.out.only ho nQb);have HO2:=Lh (HO1.out.but HWB.out ho.but);have HN2:=Lh (show RowS w.heap.size x2 v1 ns from row_but HN1.out HWB.out ho.but);clear hd ho HS1 HP1 HQ1 HO1 HN1;go_wp2_with fail;go_loopw [8,10] (fun nv iv wr => ∃ (zs : List Ses) (k : Int),iv = .int .i64 k /\ 0 <= k /\ k <= 3 /\ zs.length + k <= ns.length + 3 /\ Hid (RowSS w.heap.size wr u7 ls) /\ Hid (VerOk g t.weeks zs) /\ Hid (RowS w.heap.size wr nv zs) /\ Hid (Blk P #[.int .i64 g.days,.int .i64 g.slots,.int .i64 g.begin_,.int .i64 g.mins] 90 wr) /\ Hid (Blk Q #[.int .i64 t.first,.int .i64 t.weeks,.slice p t.hols.length c] 93 wr) /\ Hid (Sofar b w wr)) (fun _ iv _ => (intOf iv).toNat)
  case atStart => exact ⟨ns,1 + m,by go_num,by omega,by omega,by omega,HO2,HNV,HN2,HP2,HQ2,HS2⟩
  case round =>
   clear HO2 HN2 HP2 HQ2 HS2;obtain ⟨zs,k,rfl,hk0,hk1,hzl,HO,HZV,HN,HP,HQ,HS⟩:=hrel;by_cases hkp : 0 < k
   rotate_left
   ·have hszw : w.heap.size <= wr.heap.size:=HS.out.but.size;obtain ⟨po,co,hu⟩:=ownsRow_len HO.out.row;subst hu;obtain ⟨pz,cz,hz⟩:=HN.out.slice;subst hz;go_wp2_with (at_builtin;refine wpList_append_own_at _ rfl (.tmp 55) (.tmp 57) 95 rfl w.heap.size 110 i1 _ 1 24 Tryz.underlying95 hji hy0 hy1 hy2 rfl (by decide) _ _ _ rfl (World.ownsRow.alloc HO.out.row _) ⟨wr.heap.size,0,none⟩ 1 1 [.slice pz zs.length cz] rfl rfl (cell_one _ _ _) (by intro u hu;simp at hu;subst hu;rfl) (by unfold maxLen;omega) (by omega) (by simp;omega) ?_);intro v8 x8 hown8 hgrow _ hat;have HO8:=Lh (RowSS.snoc (q:=(.slice pz zs.length cz,zs)) (HO.out.alloc (.cells #[.slice pz zs.length cz] 110)) (World.ownsRow.alloc HN.out _) hgrow hown8);have HS8:=Lh ((HS.out.alloc (.cells #[.slice pz zs.length cz] 110)).grow (World.ownsRow.alloc HO.out.row _) (Nat.le_refl _) HWB.out (by simp;omega) hgrow);have HN8:=Lh (show RowS w.heap.size x8 (.slice pz zs.length cz) zs from World.ownsRow.kept (World.ownsRow.alloc HN.out _) hgrow (row_apart_ty (World.ownsRow.alloc HN.out _) (World.ownsRow.alloc HO.out.row (.cells #[.slice pz zs.length cz] 110)) (by decide)));have HP8:=Lh ((HP.out.alloc (.cells #[.slice pz zs.length cz] 110)).grown (World.ownsRow.alloc HO.out.row _) hgrow (by decide));have HQ8:=Lh ((HQ.out.alloc (.cells #[.slice pz zs.length cz] 110)).grown (World.ownsRow.alloc HO.out.row _) hgrow (by decide));have HL8:=Lh (show ∀ q ∈ ls ++ [(.slice pz zs.length cz,zs)],q.2.length <= 12 /\ VerOk g t.weeks q.2 from fun q hq => by
     rcases List.mem_append.1 hq with h | h
     ·exact HLE.out q h
     ·rw [List.mem_singleton.1 h];exact ⟨by show zs.length <= 12;omega,HZV.out⟩)
    clear hown8 hgrow hat HO HS HN HP HQ;go_wp2_with fail;go_roundw
    case rel => exact ⟨ls ++ [(.slice pz zs.length cz,zs)],zs,n - 1,by go_num,by omega,by omega,by rw [List.length_append];simp;omega,by omega,HO8,HL8,HZV,HN8,HP8,HQ8,HS8⟩
    case measure => simp [intOf];omega
   obtain ⟨wa,hwa⟩ : ∃ X,X = wr:=⟨_,rfl⟩
   rw [<- hwa] at HO HN HP HQ HS ⊢;clear hwa;have hbB : b < wa.heap.size:=HS.out.dice.lt;have hsw : w.heap.size <= wa.heap.size:=HS.out.but.size;obtain ⟨pz,cz,hz⟩:=HN.out.slice;subst hz;go_upto_region 9 with (fail);have HP0:=HP;have HQ0:=HQ;have HSa:=HS;clear HP HQ HS;refine wp_region_tail 14 (by kernel_rfl) (fun listed a x => ∃ (l0 l1 l2 l3 l4 l5 l6 l7 l8 l9 l10 l11 l12 l13 : Bool) (t11 t27 t28 t29 t30 t31 t32 t33 t34 t35 t36 t37 t38 t39 : Value),listed = #[l0,l1,l2,l3,l4,l5,l6,l7,l8,l9,l10,l11,l12,l13,false] /\ a = ⟨(.pointer (some ⟨b,0,none⟩) :: .agg #[.int .i64 g.days,.int .i64 g.slots,.int .i64 g.begin_,.int .i64 g.mins] :: .agg #[.int .i64 t.first,.int .i64 t.weeks,.slice p t.hols.length c] :: undef :: .pointer (some ⟨P,0,none⟩) :: .pointer (some ⟨Q,0,none⟩) :: .slice none 0 0 :: u7 :: .slice pz zs.length cz :: .int .i64 n :: .int .i64 k :: t11 :: .pointer (some ⟨b,0,none⟩) :: .int .i64 a1 :: .int .i64 n :: .bool true :: u16 :: u17 :: un :: v1 :: .pointer (some ⟨b,0,none⟩) :: .int .i64 m :: .int .i64 (1 + m) :: .int .i64 k :: .bool true :: u25 :: u26 :: t27 :: t28 :: t29 :: t30 :: t31 :: t32 :: t33 :: t34 :: t35 :: t36 :: t37 :: t38 :: t39 :: u40 :: u41 :: u42 :: u43 :: u44 :: u45 :: u46 :: u47 :: u48 :: u49 :: u50 :: u51 :: u52 :: u53 :: u54 :: u55 :: u56 :: u57 :: u58 :: undef :: []).toArray,[]⟩ /\ Hid (l0 = true -> t27 = .pointer (some ⟨b,0,none⟩)) /\ Hid (l1 = true -> ∃ (n : Int),t28 = .int .i64 n /\ 0 <= n /\ n <= 3) /\ Hid (l2 = true -> ∃ (n : Int),t29 = .int .i64 n /\ 49 <= n /\ n <= 52) /\ Hid (l3 = true -> ∃ (ch : UInt8),t30 = .int .u8 ch.toNat /\ 49 <= ch.toNat /\ ch.toNat <= 52) /\ Hid (l4 = true -> l5 = false -> ∃ (ch : UInt8) (g : Nat),t31 = .slice (some ⟨g,0,none⟩) 1 1 /\ wa.heap.size <= g /\ Blk g #[.int .u8 ch.toNat] 5 x /\ 49 <= ch.toNat /\ ch.toNat <= 52) /\ Hid (l5 = true -> ∃ (ch : UInt8),t32 = .string ⟨#[ch]⟩ /\ 49 <= ch.toNat /\ ch.toNat <= 52) /\ Hid (l6 = true -> ∃ (ch : UInt8),t33 = .string (⟨#[99]⟩ ++ ⟨#[ch]⟩) /\ 49 <= ch.toNat /\ ch.toNat <= 52) /\ Hid (l7 = true -> t34 = .pointer (some ⟨b,0,none⟩)) /\ Hid (l8 = true -> t35 = .agg #[.int .i64 g.days,.int .i64 g.slots,.int .i64 g.begin_,.int .i64 g.mins]) /\ Hid (l9 = true -> t36 = .pointer (some ⟨Q,1,none⟩)) /\ Hid (l10 = true -> t37 = .int .i64 t.weeks) /\ Hid (l11 = true -> ∃ (y : Tt.Tim),t38 = .agg #[.int .i64 y.weeks,.int .i64 y.day,.int .i64 y.start,.int .i64 y.len] /\ Tt.TimOk g t.weeks y) /\ Hid (l12 = true -> ∃ (ch : UInt8) (y : Tt.Tim),t39 = .agg #[.string (⟨#[99]⟩ ++ ⟨#[ch]⟩),.int .i64 y.weeks,.int .i64 y.day,.int .i64 y.start,.int .i64 y.len,.string ⟨#[]⟩] /\ 49 <= ch.toNat /\ ch.toNat <= 52 /\ Tt.TimOk g t.weeks y) /\ Hid (l13 = true -> ∃ (S : Nat),t11 = .pointer (some ⟨S,0,none⟩) /\ wa.heap.size <= S /\ Blk S #[.string ⟨#[]⟩,.int .i64 0,.int .i64 0,.int .i64 0,.int .i64 0,.string ⟨#[]⟩] 107 x) /\ Hid (Sofar b wa x)) (by decide) (by kernel_rfl) (by kernel_rfl) ?_ ?_ ?_ ?_
   ·exact ⟨false,false,false,false,false,false,false,false,false,false,false,false,false,false,_,_,_,_,_,_,_,_,_,_,_,_,_,_,rfl,rfl,Lh (fun h => by cases h),Lh (fun h => by cases h),Lh (fun h => by cases h),Lh (fun h => by cases h),Lh (fun h => by cases h),Lh (fun h => by cases h),Lh (fun h => by cases h),Lh (fun h => by cases h),Lh (fun h => by cases h),Lh (fun h => by cases h),Lh (fun h => by cases h),Lh (fun h => by cases h),Lh (fun h => by cases h),Lh (fun h => by cases h),Lh (Sofar.start HSa.out.dice)⟩
   ·intro listed a x hj;obtain ⟨l0,l1,l2,l3,l4,l5,hj⟩:=hj;obtain ⟨l6,l7,l8,l9,l10,l11,hj⟩:=hj;obtain ⟨l12,l13,t11,t27,t28,t29,hj⟩:=hj;obtain ⟨t30,t31,t32,t33,t34,t35,hj⟩:=hj;obtain ⟨t36,t37,t38,t39,hj⟩:=hj;obtain ⟨h1, -⟩:=hj;subst h1;exact ⟨rfl,fun k h1 h2 => by (have h2 : k < 15:=h2);obtain rfl : k = 14:=(by omega);rfl⟩
   ·intro listed a x i hj hlt hu haf;obtain ⟨l0,l1,l2,l3,l4,l5,hj⟩:=hj;obtain ⟨l6,l7,l8,l9,l10,l11,hj⟩:=hj;obtain ⟨l12,l13,t11,t27,t28,t29,hj⟩:=hj;obtain ⟨t30,t31,t32,t33,t34,t35,hj⟩:=hj;obtain ⟨t36,t37,t38,t39,hl_,ha_,hj⟩:=hj;obtain ⟨H0,H1,H2,H3,H4,H5,hj⟩:=hj;obtain ⟨H6,H7,H8,H9,H10,H11,hj⟩:=hj;obtain ⟨H12,H13,hj⟩:=hj;have HS:=hj;clear hj;subst hl_;subst ha_;rcases (show ∀ i : Nat,i < 14 -> (i = 0 ∨ i = 1 ∨ i = 2 ∨ i = 3 ∨ i = 4 ∨ i = 5 ∨ i = 6 ∨ i = 7 ∨ i = 8 ∨ i = 9 ∨ i = 10 ∨ i = 11 ∨ i = 12 ∨ i = 13) by decide) i hlt with rfl | rfl | rfl | rfl | rfl | rfl | rfl | rfl | rfl | rfl | rfl | rfl | rfl | rfl
    ·have haf:=haf _ rfl;clear haf;have hu : l0 = false:=hu;refine wpOp_of_list_any rfl fun QQ hQ => ?_
     have hQQ:=Lh hQ;clear hQ;simp only [List.getElem_toArray,List.getElem_cons_zero];go_wp2_with fail;exact hQQ.out _ _ ⟨true,l1,l2,l3,l4,l5,l6,l7,l8,l9,l10,l11,l12,l13,_,_,_,_,_,_,_,_,_,_,_,_,_,_,rfl,rfl,Lh (fun _ => rfl),H1,H2,H3,H4,H5,H6,H7,H8,H9,H10,H11,H12,H13,HS⟩
    ·have haf:=haf _ rfl;have q0 : l0 = true:=haf ⟨0,Go.Ground.data⟩ (by simp) rfl;clear haf;have hu : l1 = false:=hu;have e0:=(H0.out q0)
     subst e0;clear H0;refine wpOp_of_list_any rfl fun QQ hQ => ?_
     have hQQ:=Lh hQ;clear hQ;simp only [List.getElem_toArray,List.getElem_cons_zero,List.getElem_cons_succ];go_wp2_with fail;refine (next_any b 4 _ HS.out.dice (by omega) (by omega)).mono ?_;rintro e x1 ⟨v,rfl,h0,h1, -,hd1,ho1⟩;have h1:=h1 (by omega);have hk:=Kept.only ho1 hbB;have HS1:=Lh (HS.out.only hd1 ho1);clear ho1 hd1;go_wp2_with fail;exact hQQ.out _ _ ⟨l0,true,l2,l3,l4,l5,l6,l7,l8,l9,l10,l11,l12,l13,_,_,_,_,_,_,_,_,_,_,_,_,_,_,rfl,rfl,Lh (fun _ => rfl),Lh (fun _ => ⟨_,rfl,by omega,by omega⟩),H2,H3,Lh (fun h h2 => (by obtain ⟨ch,g,e,c0,c1,c2,c3⟩:=H4.out h h2;exact ⟨ch,g,e,c0,(hk _ _ _ c0 c1),c2,c3⟩)),H5,H6,H7,H8,H9,H10,H11,H12,Lh (fun h => (by obtain ⟨S,e,c0,c1⟩:=H13.out h;exact ⟨S,e,c0,(hk _ _ _ c0 c1)⟩)),HS1⟩
    ·have haf:=haf _ rfl;have q1 : l1 = true:=haf ⟨1,Go.Ground.data⟩ (by simp) rfl;clear haf;have hu : l2 = false:=hu;obtain ⟨n1,e1,c1_0,c1_1⟩:=(H1.out q1)
     subst e1;clear H1;refine wpOp_of_list_any rfl fun QQ hQ => ?_
     have hQQ:=Lh hQ;clear hQ;simp only [List.getElem_toArray,List.getElem_cons_zero,List.getElem_cons_succ];go_wp2_with fail;exact hQQ.out _ _ ⟨l0,l1,true,l3,l4,l5,l6,l7,l8,l9,l10,l11,l12,l13,_,_,_,_,_,_,_,_,_,_,_,_,_,_,rfl,rfl,H0,Lh (fun _ => ⟨n1,rfl,c1_0,c1_1⟩),Lh (fun _ => ⟨_,rfl,by omega,by omega⟩),H3,H4,H5,H6,H7,H8,H9,H10,H11,H12,H13,HS⟩
    ·have haf:=haf _ rfl;have q2 : l2 = true:=haf ⟨2,Go.Ground.data⟩ (by simp) rfl;clear haf;have hu : l3 = false:=hu;obtain ⟨n2,e2,c2_0,c2_1⟩:=(H2.out q2)
     subst e2;clear H2;refine wpOp_of_list_any rfl fun QQ hQ => ?_
     have hQQ:=Lh hQ;clear hQ;simp only [List.getElem_toArray,List.getElem_cons_zero,List.getElem_cons_succ];go_wp2_with fail;exact hQQ.out _ _ ⟨l0,l1,l2,true,l4,l5,l6,l7,l8,l9,l10,l11,l12,l13,_,_,_,_,_,_,_,_,_,_,_,_,_,_,rfl,rfl,H0,H1,Lh (fun _ => ⟨n2,rfl,c2_0,c2_1⟩),Lh (fun _ => ⟨_,congrArg (Value.int .u8) (byte_of _ (by omega) (by omega)),(byte_in (by omega) (by omega)).1,(byte_in (by omega) (by omega)).2⟩),H4,H5,H6,H7,H8,H9,H10,H11,H12,H13,HS⟩
    ·have haf:=haf _ rfl;have q3 : l3 = true:=haf ⟨3,Go.Ground.data⟩ (by simp) rfl;clear haf;have hu : l4 = false:=hu;obtain ⟨ch3,e3,c3_0,c3_1⟩:=(H3.out q3)
     subst e3;clear H3;refine wpOp_of_list_any rfl fun QQ hQ => ?_
     have hQQ:=Lh hQ;clear hQ;simp only [List.getElem_toArray,List.getElem_cons_zero,List.getElem_cons_succ];go_wp2_with fail;exact hQQ.out _ _ ⟨l0,l1,l2,l3,true,l5,l6,l7,l8,l9,l10,l11,l12,l13,_,_,_,_,_,_,_,_,_,_,_,_,_,_,rfl,rfl,H0,H1,H2,Lh (fun _ => ⟨ch3,rfl,c3_0,c3_1⟩),Lh (fun _ _ => ⟨_,_,rfl,HS.out.but.size,Blk.new x _ _,c3_0,c3_1⟩),H5,H6,H7,H8,H9,H10,H11,H12,Lh (fun h => (by obtain ⟨S,e,c0,c1⟩:=H13.out h;exact ⟨S,e,c0,((Kept.alloc _ x _) _ _ _ c0 c1)⟩)),Lh (HS.out.alloc _)⟩
    ·have haf:=haf _ rfl;have q4 : l4 = true:=haf ⟨4,Go.Ground.data⟩ (by simp) rfl;clear haf;have hu : l5 = false:=hu;obtain ⟨ch4,g4,e4,c4_0,c4_1,c4_2,c4_3⟩:=(H4.out q4 hu)
     subst e4;clear H4;have hcv:=one_byte_blk c4_1;refine wpOp_of_list_any rfl fun QQ hQ => ?_
     have hQQ:=Lh hQ;clear hQ;simp only [List.getElem_toArray,List.getElem_cons_zero,List.getElem_cons_succ];go_wp2_with fail;exact hQQ.out _ _ ⟨l0,l1,l2,l3,l4,true,l6,l7,l8,l9,l10,l11,l12,l13,_,_,_,_,_,_,_,_,_,_,_,_,_,_,rfl,rfl,H0,H1,H2,H3,Lh (fun _ h => by cases h),Lh (fun _ => ⟨_,rfl,c4_2,c4_3⟩),H6,H7,H8,H9,H10,H11,H12,H13,HS⟩
    ·have haf:=haf _ rfl;have q5 : l5 = true:=haf ⟨5,Go.Ground.data⟩ (by simp) rfl;clear haf;have hu : l6 = false:=hu;obtain ⟨ch5,e5,c5_0,c5_1⟩:=(H5.out q5)
     subst e5;clear H5;refine wpOp_of_list_any rfl fun QQ hQ => ?_
     have hQQ:=Lh hQ;clear hQ;simp only [List.getElem_toArray,List.getElem_cons_zero,List.getElem_cons_succ];go_wp2_with fail;exact hQQ.out _ _ ⟨l0,l1,l2,l3,l4,l5,true,l7,l8,l9,l10,l11,l12,l13,_,_,_,_,_,_,_,_,_,_,_,_,_,_,rfl,rfl,H0,H1,H2,H3,H4,Lh (fun _ => ⟨ch5,rfl,c5_0,c5_1⟩),Lh (fun _ => ⟨_,rfl,c5_0,c5_1⟩),H7,H8,H9,H10,H11,H12,H13,HS⟩
    ·have haf:=haf _ rfl;clear haf;have hu : l7 = false:=hu;refine wpOp_of_list_any rfl fun QQ hQ => ?_
     have hQQ:=Lh hQ;clear hQ;simp only [List.getElem_toArray,List.getElem_cons_zero,List.getElem_cons_succ];go_wp2_with fail;exact hQQ.out _ _ ⟨l0,l1,l2,l3,l4,l5,l6,true,l8,l9,l10,l11,l12,l13,_,_,_,_,_,_,_,_,_,_,_,_,_,_,rfl,rfl,H0,H1,H2,H3,H4,H5,H6,Lh (fun _ => rfl),H8,H9,H10,H11,H12,H13,HS⟩
    ·have haf:=haf _ rfl;clear haf;have hu : l8 = false:=hu;have hc0 : x.cell? ⟨P,0,none⟩ = some (.int .i64 g.days):=(HS.out.blk HP0.out nPb).cell 0;have hc1 : x.cell? ⟨P,1,none⟩ = some (.int .i64 g.slots):=(HS.out.blk HP0.out nPb).cell 1;have hc2 : x.cell? ⟨P,2,none⟩ = some (.int .i64 g.begin_):=(HS.out.blk HP0.out nPb).cell 2;have hc3 : x.cell? ⟨P,3,none⟩ = some (.int .i64 g.mins):=(HS.out.blk HP0.out nPb).cell 3;refine wpOp_of_list_any rfl fun QQ hQ => ?_
     have hQQ:=Lh hQ;clear hQ;simp only [List.getElem_toArray,List.getElem_cons_zero,List.getElem_cons_succ];go_wp2_with fail;exact hQQ.out _ _ ⟨l0,l1,l2,l3,l4,l5,l6,l7,true,l9,l10,l11,l12,l13,_,_,_,_,_,_,_,_,_,_,_,_,_,_,rfl,rfl,H0,H1,H2,H3,H4,H5,H6,H7,Lh (fun _ => rfl),H9,H10,H11,H12,H13,HS⟩
    ·have haf:=haf _ rfl;clear haf;have hu : l9 = false:=hu;refine wpOp_of_list_any rfl fun QQ hQ => ?_
     have hQQ:=Lh hQ;clear hQ;simp only [List.getElem_toArray,List.getElem_cons_zero,List.getElem_cons_succ];go_wp2_with fail;exact hQQ.out _ _ ⟨l0,l1,l2,l3,l4,l5,l6,l7,l8,true,l10,l11,l12,l13,_,_,_,_,_,_,_,_,_,_,_,_,_,_,rfl,rfl,H0,H1,H2,H3,H4,H5,H6,H7,H8,Lh (fun _ => rfl),H10,H11,H12,H13,HS⟩
    ·have haf:=haf _ rfl;have q9 : l9 = true:=haf ⟨9,Go.Ground.data⟩ (by simp) rfl;clear haf;have hu : l10 = false:=hu;have e9:=(H9.out q9)
     subst e9;clear H9;have hc : x.cell? ⟨Q,1,none⟩ = some (.int .i64 t.weeks):=(HS.out.blk HQ0.out nQb).cell 1;refine wpOp_of_list_any rfl fun QQ hQ => ?_
     have hQQ:=Lh hQ;clear hQ;simp only [List.getElem_toArray,List.getElem_cons_zero,List.getElem_cons_succ];go_wp2_with fail;exact hQQ.out _ _ ⟨l0,l1,l2,l3,l4,l5,l6,l7,l8,l9,true,l11,l12,l13,_,_,_,_,_,_,_,_,_,_,_,_,_,_,rfl,rfl,H0,H1,H2,H3,H4,H5,H6,H7,H8,Lh (fun _ => rfl),Lh (fun _ => rfl),H11,H12,H13,HS⟩
    ·have haf:=haf _ rfl;have q7 : l7 = true:=haf ⟨7,Go.Ground.data⟩ (by simp) rfl;have q8 : l8 = true:=haf ⟨8,Go.Ground.data⟩ (by simp) rfl;have q10 : l10 = true:=haf ⟨10,Go.Ground.data⟩ (by simp) rfl;clear haf;have hu : l11 = false:=hu;have e7:=(H7.out q7)
     subst e7;clear H7;have e8:=(H8.out q8)
     subst e8;clear H8;have e10:=(H10.out q10)
     subst e10;clear H10;refine wpOp_of_list_any rfl fun QQ hQ => ?_
     have hQQ:=Lh hQ;clear hQ;simp only [List.getElem_toArray,List.getElem_cons_zero,List.getElem_cons_succ];go_wp2_with fail;refine (time72v b g t.weeks _ HS.out.dice k0 k1 g0 g1 g2 g3).mono ?_;rintro e x1 ⟨y,rfl,hy,hs1⟩;have hk:=Kept.but hs1.but (B:=wa.heap.size) hbB;have HS1:=Lh (HS.out.trans hs1);clear hs1;unfold timVal;go_wp2_with fail;exact hQQ.out _ _ ⟨l0,l1,l2,l3,l4,l5,l6,l7,l8,l9,l10,true,l12,l13,_,_,_,_,_,_,_,_,_,_,_,_,_,_,rfl,rfl,H0,H1,H2,H3,Lh (fun h h2 => (by obtain ⟨ch,g,e,c0,c1,c2,c3⟩:=H4.out h h2;exact ⟨ch,g,e,c0,(hk _ _ _ c0 c1),c2,c3⟩)),H5,H6,Lh (fun _ => rfl),Lh (fun _ => rfl),H9,Lh (fun _ => rfl),Lh (fun _ => ⟨_,rfl,hy⟩),H12,Lh (fun h => (by obtain ⟨S,e,c0,c1⟩:=H13.out h;exact ⟨S,e,c0,(hk _ _ _ c0 c1)⟩)),HS1⟩
    ·have haf:=haf _ rfl;have q6 : l6 = true:=haf ⟨6,Go.Ground.data⟩ (by simp) rfl;have q11 : l11 = true:=haf ⟨11,Go.Ground.data⟩ (by simp) rfl;clear haf;have hu : l12 = false:=hu;obtain ⟨ch6,e6,c6_0,c6_1⟩:=(H6.out q6)
     subst e6;clear H6;obtain ⟨y11,e11,c11_0⟩:=(H11.out q11)
     subst e11;clear H11;refine wpOp_of_list_any rfl fun QQ hQ => ?_
     have hQQ:=Lh hQ;clear hQ;simp only [List.getElem_toArray,List.getElem_cons_zero,List.getElem_cons_succ];go_wp2_with fail;exact hQQ.out _ _ ⟨l0,l1,l2,l3,l4,l5,l6,l7,l8,l9,l10,l11,true,l13,_,_,_,_,_,_,_,_,_,_,_,_,_,_,rfl,rfl,H0,H1,H2,H3,H4,H5,Lh (fun _ => ⟨ch6,rfl,c6_0,c6_1⟩),H7,H8,H9,H10,Lh (fun _ => ⟨y11,rfl,c11_0⟩),Lh (fun _ => ⟨_,_,rfl,c6_0,c6_1,c11_0⟩),H13,HS⟩
    ·have haf:=haf _ rfl;clear haf;have hu : l13 = false:=hu;refine wpOp_of_list_any rfl fun QQ hQ => ?_
     have hQQ:=Lh hQ;clear hQ;simp only [List.getElem_toArray,List.getElem_cons_zero,List.getElem_cons_succ];go_wp2_with fail;exact hQQ.out _ _ ⟨l0,l1,l2,l3,l4,l5,l6,l7,l8,l9,l10,l11,l12,true,_,_,_,_,_,_,_,_,_,_,_,_,_,_,rfl,rfl,H0,H1,H2,H3,Lh (fun h h2 => (by obtain ⟨ch,g,e,c0,c1,c2,c3⟩:=H4.out h h2;exact ⟨ch,g,e,c0,((Kept.alloc _ x _) _ _ _ c0 c1),c2,c3⟩)),H5,H6,H7,H8,H9,H10,H11,H12,Lh (fun _ => ⟨_,rfl,HS.out.but.size,Blk.new x _ _⟩),Lh (HS.out.alloc _)⟩
   ·intro listed a x hj hall;obtain ⟨l0,l1,l2,l3,l4,l5,hj⟩:=hj;obtain ⟨l6,l7,l8,l9,l10,l11,hj⟩:=hj;obtain ⟨l12,l13,t11,t27,t28,t29,hj⟩:=hj;obtain ⟨t30,t31,t32,t33,t34,t35,hj⟩:=hj;obtain ⟨t36,t37,t38,t39,hl_,ha_,hj⟩:=hj;obtain ⟨H0,H1,H2,H3,H4,H5,hj⟩:=hj;obtain ⟨H6,H7,H8,H9,H10,H11,hj⟩:=hj;obtain ⟨H12,H13,hj⟩:=hj;have HS:=hj;clear hj;subst hl_;subst ha_;have q13 : l13 = true:=hall 13 (by omega);have q12 : l12 = true:=hall 12 (by omega);clear hall;obtain ⟨S13,e13,c13_0,c13_1⟩:=(H13.out q13)
    subst e13;obtain ⟨ch12,y12,e12,c12_0,c12_1,c12_2⟩:=(H12.out q12)
    subst e12;have f0 : x.cell? ⟨S13,0,none⟩ = some (.string ⟨#[]⟩):=c13_1.cell 0;have f1 : x.cell? ⟨S13,1,none⟩ = some (.int .i64 0):=c13_1.cell 1;have f2 : x.cell? ⟨S13,2,none⟩ = some (.int .i64 0):=c13_1.cell 2;have f3 : x.cell? ⟨S13,3,none⟩ = some (.int .i64 0):=c13_1.cell 3;have f4 : x.cell? ⟨S13,4,none⟩ = some (.int .i64 0):=c13_1.cell 4;have f5 : x.cell? ⟨S13,5,none⟩ = some (.string ⟨#[]⟩):=c13_1.cell 5;have z0:=c13_1.frozen 0;have z1:=c13_1.frozen 1;have z2:=c13_1.frozen 2;have z3:=c13_1.frozen 3;have z4:=c13_1.frozen 4;have z5:=c13_1.frozen 5;refine tail_any (fun a x => ∃ (t11 t27 t28 t29 t30 t31 t32 t33 t34 t35 t36 t37 t38 t39 : Value),a = ⟨(.pointer (some ⟨b,0,none⟩) :: .agg #[.int .i64 g.days,.int .i64 g.slots,.int .i64 g.begin_,.int .i64 g.mins] :: .agg #[.int .i64 t.first,.int .i64 t.weeks,.slice p t.hols.length c] :: undef :: .pointer (some ⟨P,0,none⟩) :: .pointer (some ⟨Q,0,none⟩) :: .slice none 0 0 :: u7 :: .slice pz zs.length cz :: .int .i64 n :: .int .i64 k :: t11 :: .pointer (some ⟨b,0,none⟩) :: .int .i64 a1 :: .int .i64 n :: .bool true :: u16 :: u17 :: un :: v1 :: .pointer (some ⟨b,0,none⟩) :: .int .i64 m :: .int .i64 (1 + m) :: .int .i64 k :: .bool true :: u25 :: u26 :: t27 :: t28 :: t29 :: t30 :: t31 :: t32 :: t33 :: t34 :: t35 :: t36 :: t37 :: t38 :: t39 :: u40 :: u41 :: u42 :: u43 :: u44 :: u45 :: u46 :: u47 :: u48 :: u49 :: u50 :: u51 :: u52 :: u53 :: u54 :: u55 :: u56 :: u57 :: u58 :: undef :: []).toArray,[]⟩ /\ ∃ (S : Nat) (ch : UInt8) (y : Tt.Tim),t11 = .pointer (some ⟨S,0,none⟩) /\ wa.heap.size <= S /\ Blk S #[.string (⟨#[99]⟩ ++ ⟨#[ch]⟩),.int .i64 y.weeks,.int .i64 y.day,.int .i64 y.start,.int .i64 y.len,.string ⟨#[]⟩] 107 x /\ 49 <= ch.toNat /\ ch.toNat <= 52 /\ Tt.TimOk g t.weeks y /\ Sofar b wa x) ?_ fun QQ hQ => ?_
    ·intro a x hpost;obtain ⟨t11,t27,t28,t29,t30,t31,hpost⟩:=hpost;obtain ⟨t32,t33,t34,t35,t36,t37,hpost⟩:=hpost;obtain ⟨t38,t39,ha_,hpost⟩:=hpost;subst ha_;obtain ⟨S,ch,y,rfl,lS,hBS,hc0,hc1,hy,hs⟩:=hpost;obtain ⟨s,hs0⟩ : ∃ s,s = (⟨#[99]⟩ ++ ⟨#[ch]⟩ : ByteArray):=⟨_,rfl⟩
     rw [<- hs0] at hBS;have HSO:=Lh (show ClsOk s from ⟨ch,hs0.trans (two_bytes _ _),hc0,hc1⟩);have HTM:=Lh hy;clear hs0 hc0 hc1 hy;have HSx:=Lh hs;have HB:=Lh hBS;clear hs hBS;have nSb : S ≠ b:=by omega
     have bS : b < S:=by omega
     go_wp2_with fail;refine (one_any b 2 _ HSx.out.dice (by omega) (by omega)).mono ?_;rintro e x4 ⟨bb,rfl,hd,ho⟩;have HSy:=Lh (HSx.out.only hd ho);have HBy:=Lh (HB.out.only ho nSb);clear hd ho HSx HB;go_upto_if 41 with (fail)
     go_cut [] from 42 to 49 (fun wx => ∃ rm : ByteArray,Hid (RmOk rm) /\ Hid (Blk S #[.string s,.int .i64 y.weeks,.int .i64 y.day,.int .i64 y.start,.int .i64 y.len,.string rm] 107 wx) /\ Hid (Sofar b wa wx))
     case first =>
      cases bb
      ·go_wp2_with fail;go_meet;exact ⟨⟨#[]⟩,Lh (.inl rfl),HBy,HSy⟩
      ·go_wp2_with fail;refine (next_any b 2 _ HSy.out.dice (by omega) (by omega)).mono ?_;rintro e x5 ⟨v,rfl,v0,v1, -,hd,ho⟩;have v1:=v1 (by omega);have HSz:=Lh (HSy.out.only hd ho);have HBz:=Lh (HBy.out.only ho nSb);clear hd ho;rcases (show v = 0 ∨ v = 1 by omega) with rfl | rfl
       ·have hcv:=one_byte_blk (c:=49) (Blk.new x5 #[.int .u8 49] 5);have fz : (x5.alloc (.cells #[.int .u8 49] 5)).frozen? ⟨S,5,none⟩ = false:=(HBz.out.alloc _).frozen 5;have cz : (x5.alloc (.cells #[.int .u8 49] 5)).cell? ⟨S,5,none⟩ = some (.string ⟨#[]⟩):=(HBz.out.alloc _).cell 5;go_wp2_with fail;go_meet;exact ⟨_,Lh (.inr <| .inl ((two_bytes _ _).trans rfl)),Lh ((HBz.out.alloc _).set 5 _),Lh ((HSz.out.alloc _).set lS bS 5 _)⟩
       ·have hcv:=one_byte_blk (c:=50) (Blk.new x5 #[.int .u8 50] 5);have fz : (x5.alloc (.cells #[.int .u8 50] 5)).frozen? ⟨S,5,none⟩ = false:=(HBz.out.alloc _).frozen 5;have cz : (x5.alloc (.cells #[.int .u8 50] 5)).cell? ⟨S,5,none⟩ = some (.string ⟨#[]⟩):=(HBz.out.alloc _).cell 5;go_wp2_with fail;go_meet;exact ⟨_,Lh (.inr <| .inr ((two_bytes _ _).trans rfl)),Lh ((HBz.out.alloc _).set 5 _),Lh ((HSz.out.alloc _).set lS bS 5 _)⟩
     case rest =>
     obtain ⟨rm,HRM,HBb,HSb⟩:=hcut;obtain ⟨wb,hwb⟩ : ∃ X,X = wc:=⟨_,rfl⟩
     rw [<- hwb] at HBb HSb ⊢;clear hwb wc HBy HSy;have HNb:=Lh (show RowS w.heap.size wb (.slice pz zs.length cz) zs from row_but HN.out HWB.out HSb.out.but);have hbb : b < wb.heap.size:=HSb.out.dice.lt;have hswb : w.heap.size <= wb.heap.size:=Nat.le_trans hsw HSb.out.but.size;go_upto_region 12 with (fail);refine wp_region_tail 4 (by kernel_rfl) (fun listed a x => ∃ (l0 l1 l2 l3 : Bool) (t50 t51 t52 t53 : Value),listed = #[l0,l1,l2,l3,false,false] /\ a = ⟨(.pointer (some ⟨b,0,none⟩) :: .agg #[.int .i64 g.days,.int .i64 g.slots,.int .i64 g.begin_,.int .i64 g.mins] :: .agg #[.int .i64 t.first,.int .i64 t.weeks,.slice p t.hols.length c] :: undef :: .pointer (some ⟨P,0,none⟩) :: .pointer (some ⟨Q,0,none⟩) :: .slice none 0 0 :: u7 :: .slice pz zs.length cz :: .int .i64 n :: .int .i64 k :: .pointer (some ⟨S,0,none⟩) :: .pointer (some ⟨b,0,none⟩) :: .int .i64 a1 :: .int .i64 n :: .bool true :: u16 :: u17 :: un :: v1 :: .pointer (some ⟨b,0,none⟩) :: .int .i64 m :: .int .i64 (1 + m) :: .int .i64 k :: .bool true :: u25 :: u26 :: t27 :: t28 :: t29 :: t30 :: t31 :: t32 :: t33 :: t34 :: t35 :: t36 :: t37 :: t38 :: t39 :: .pointer (some ⟨b,0,none⟩) :: .bool bb :: u42 :: u43 :: u44 :: u45 :: u46 :: u47 :: u48 :: u49 :: t50 :: t51 :: t52 :: t53 :: u54 :: u55 :: u56 :: u57 :: u58 :: undef :: []).toArray,[]⟩ /\ Hid (l0 = true -> t50 = .slice pz zs.length cz) /\ Hid (l1 = true -> t51 = .agg #[.string s,.int .i64 y.weeks,.int .i64 y.day,.int .i64 y.start,.int .i64 y.len,.string rm]) /\ Hid (l2 = true -> t52 = .pointer (some ⟨b,0,none⟩)) /\ Hid (l3 = true -> ∃ (v : Bool),t53 = .bool v) /\ Hid (Sofar b wb x)) (by decide) (by kernel_rfl) (by kernel_rfl) ?_ ?_ ?_ ?_
     ·exact ⟨false,false,false,false,_,_,_,_,rfl,rfl,Lh (fun h => by cases h),Lh (fun h => by cases h),Lh (fun h => by cases h),Lh (fun h => by cases h),Lh (Sofar.start HSb.out.dice)⟩
     ·intro listed a x hj;obtain ⟨l0,l1,l2,l3,t50,t51,hj⟩:=hj;obtain ⟨t52,t53,hj⟩:=hj;obtain ⟨h1, -⟩:=hj;subst h1;exact ⟨rfl,fun k h1 h2 => by (have h2 : k < 6:=h2);rcases (show k = 4 ∨ k = 5 by omega) with rfl | rfl <;> rfl⟩
     ·intro listed a x i hj hlt hu haf;obtain ⟨l0,l1,l2,l3,t50,t51,hj⟩:=hj;obtain ⟨t52,t53,hl_,ha_,H0,H1,hj⟩:=hj;obtain ⟨H2,H3,hj⟩:=hj;have HS:=hj;clear hj;subst hl_;subst ha_;rcases (show ∀ i : Nat,i < 4 -> (i = 0 ∨ i = 1 ∨ i = 2 ∨ i = 3) by decide) i hlt with rfl | rfl | rfl | rfl
      ·have haf:=haf _ rfl;clear haf;have hu : l0 = false:=hu;refine wpOp_of_list_any rfl fun QQ hQ => ?_
       have hQQ:=Lh hQ;clear hQ;simp only [List.getElem_toArray,List.getElem_cons_zero];go_wp2_with fail;exact hQQ.out _ _ ⟨true,l1,l2,l3,_,_,_,_,rfl,rfl,Lh (fun _ => rfl),H1,H2,H3,HS⟩
      ·have haf:=haf _ rfl;clear haf;have hu : l1 = false:=hu;have hc0 : x.cell? ⟨S,0,none⟩ = some (.string s):=(HS.out.blk HBb.out nSb).cell 0;have hc1 : x.cell? ⟨S,1,none⟩ = some (.int .i64 y.weeks):=(HS.out.blk HBb.out nSb).cell 1;have hc2 : x.cell? ⟨S,2,none⟩ = some (.int .i64 y.day):=(HS.out.blk HBb.out nSb).cell 2;have hc3 : x.cell? ⟨S,3,none⟩ = some (.int .i64 y.start):=(HS.out.blk HBb.out nSb).cell 3;have hc4 : x.cell? ⟨S,4,none⟩ = some (.int .i64 y.len):=(HS.out.blk HBb.out nSb).cell 4;have hc5 : x.cell? ⟨S,5,none⟩ = some (.string rm):=(HS.out.blk HBb.out nSb).cell 5;refine wpOp_of_list_any rfl fun QQ hQ => ?_
       have hQQ:=Lh hQ;clear hQ;simp only [List.getElem_toArray,List.getElem_cons_zero,List.getElem_cons_succ];go_wp2_with fail;exact hQQ.out _ _ ⟨l0,true,l2,l3,_,_,_,_,rfl,rfl,H0,Lh (fun _ => rfl),H2,H3,HS⟩
      ·have haf:=haf _ rfl;clear haf;have hu : l2 = false:=hu;refine wpOp_of_list_any rfl fun QQ hQ => ?_
       have hQQ:=Lh hQ;clear hQ;simp only [List.getElem_toArray,List.getElem_cons_zero,List.getElem_cons_succ];go_wp2_with fail;exact hQQ.out _ _ ⟨l0,l1,true,l3,_,_,_,_,rfl,rfl,H0,H1,Lh (fun _ => rfl),H3,HS⟩
      ·have haf:=haf _ rfl;have q2 : l2 = true:=haf ⟨2,Go.Ground.data⟩ (by simp) rfl;clear haf;have hu : l3 = false:=hu;have e2:=(H2.out q2)
       subst e2;clear H2;refine wpOp_of_list_any rfl fun QQ hQ => ?_
       have hQQ:=Lh hQ;clear hQ;simp only [List.getElem_toArray,List.getElem_cons_zero,List.getElem_cons_succ];go_wp2_with fail;refine (one_any b 4 _ HS.out.dice (by omega) (by omega)).mono ?_;rintro e x1 ⟨v,rfl,hd1,ho1⟩;have hk:=Kept.only ho1 hbb;have HS1:=Lh (HS.out.only hd1 ho1);clear ho1 hd1;go_wp2_with fail;exact hQQ.out _ _ ⟨l0,l1,l2,true,_,_,_,_,rfl,rfl,H0,H1,Lh (fun _ => rfl),Lh (fun _ => ⟨_,rfl⟩),HS1⟩
     ·intro listed a x hj hall;obtain ⟨l0,l1,l2,l3,t50,t51,hj⟩:=hj;obtain ⟨t52,t53,hl_,ha_,H0,H1,hj⟩:=hj;obtain ⟨H2,H3,hj⟩:=hj;have HS:=hj;clear hj;subst hl_;subst ha_;have q0 : l0 = true:=hall 0 (by omega);have q1 : l1 = true:=hall 1 (by omega);have q3 : l3 = true:=hall 3 (by omega);clear hall;have e0:=(H0.out q0)
      subst e0;have e1:=(H1.out q1)
      subst e1;obtain ⟨v3,e3⟩:=(H3.out q3)
      subst e3;have HNx:=Lh (show RowS w.heap.size x (.slice pz zs.length cz) zs from row_but HNb.out HWB.out HS.out.but);refine tail_any (fun a x => ∃ (t8 t50 t51 t52 t53 t54 : Value),a = ⟨(.pointer (some ⟨b,0,none⟩) :: .agg #[.int .i64 g.days,.int .i64 g.slots,.int .i64 g.begin_,.int .i64 g.mins] :: .agg #[.int .i64 t.first,.int .i64 t.weeks,.slice p t.hols.length c] :: undef :: .pointer (some ⟨P,0,none⟩) :: .pointer (some ⟨Q,0,none⟩) :: .slice none 0 0 :: u7 :: t8 :: .int .i64 n :: .int .i64 k :: .pointer (some ⟨S,0,none⟩) :: .pointer (some ⟨b,0,none⟩) :: .int .i64 a1 :: .int .i64 n :: .bool true :: u16 :: u17 :: un :: v1 :: .pointer (some ⟨b,0,none⟩) :: .int .i64 m :: .int .i64 (1 + m) :: .int .i64 k :: .bool true :: u25 :: u26 :: t27 :: t28 :: t29 :: t30 :: t31 :: t32 :: t33 :: t34 :: t35 :: t36 :: t37 :: t38 :: t39 :: .pointer (some ⟨b,0,none⟩) :: .bool bb :: u42 :: u43 :: u44 :: u45 :: u46 :: u47 :: u48 :: u49 :: t50 :: t51 :: t52 :: t53 :: t54 :: u55 :: u56 :: u57 :: u58 :: undef :: []).toArray,[]⟩ /\ ∃ vv : Bool,RowS w.heap.size x t8 (putG ⟨s,y,rm⟩ vv zs) /\ (putG ⟨s,y,rm⟩ vv zs).length <= zs.length + 1 /\ Sofar b wb x) ?_ fun QQ hQ => ?_
      ·intro a x hpost;obtain ⟨t8,t50,t51,t52,t53,t54,hpost⟩:=hpost;obtain ⟨ha_,hpost⟩:=hpost;subst ha_;obtain ⟨vv,hy,hyl,hs⟩:=hpost;obtain ⟨ys,hys⟩ : ∃ ys,ys = putG ⟨s,y,rm⟩ vv zs:=⟨_,rfl⟩
       rw [<- hys] at hy hyl;have HYV:=Lh (show VerOk g t.weeks ys from by rw [hys];exact HZV.out.put _ ⟨HSO.out,HTM.out,HRM.out⟩);clear hys;have HSt:=Lh (HSb.out.trans hs);have HSf:=Lh (HSa.out.trans HSt.out);have HO9:=Lh (HO.out.but HWB.out HSt.out.but);have HP9:=Lh (HSt.out.blk HP0.out nPb);have HQ9:=Lh (HSt.out.blk HQ0.out nQb);have HY9:=Lh hy;clear hs hy;go_wp2_with fail;go_roundw
       case rel => exact ⟨ys,k - 1,by go_num,by omega,by omega,by omega,HO9,HYV,HY9,HP9,HQ9,HSf⟩
       case measure => simp [intOf];omega
      have hQQ:=Lh hQ;clear hQ;simp only [List.drop_succ_cons,List.drop_zero];go_wp2_with fail;refine (show Calls Tryz.prog 123 #[.slice pz zs.length cz,.agg #[.string s,.int .i64 y.weeks,.int .i64 y.day,.int .i64 y.start,.int .i64 y.len,.string rm],.bool v3] x _ from put123v w.heap.size zs pz cz ⟨s,y,rm⟩ v3 x HNx.out (by omega)).mono ?_;rintro e x1 ⟨u9,rfl,hy,hyl,hb⟩;have HY1:=Lh (RowS.mono hy (Nat.le_trans hswb HS.out.but.size));have HYL:=Lh hyl;have HS2:=Lh (HS.out.then (HS.out.dice.kept HS.out.dice.lt hb) (But.of_below hb));clear hy hyl hb;go_wp2_with fail;exact hQQ.out _ _ ⟨_,_,_,_,_,_,rfl,_,HY1.out,HYL.out,HS2.out⟩
    have hQQ:=Lh hQ;clear hQ;simp only [List.drop_succ_cons,List.drop_zero];go_wp2_with fail;exact hQQ.out _ _ ⟨_,_,_,_,_,_,_,_,_,_,_,_,_,_,rfl,_,_,_,rfl,c13_0,(((((c13_1.set 0 _).set 1 _).set 2 _).set 3 _).set 4 _).set 5 _,c12_0,c12_1,c12_2,(((((HS.out.set c13_0 (by omega) 0 _).set c13_0 (by omega) 1 _).set c13_0 (by omega) 2 _).set c13_0 (by omega) 3 _).set c13_0 (by omega) 4 _).set c13_0 (by omega) 5 _⟩
theorem RowS.ses {lo : Nat} {w : World} {v : Value} {xs : List Ses} (h : RowS lo w v xs) : ∃ p c,v = .slice p xs.length c /\ xs.length <= c /\ c <= 9223372036854775807 /\ SesAt w.heap.size w p xs:=by
 rcases h.2 with ⟨hv,h0⟩ | ⟨g,cap,cur,hv,_,hb,h1,h2,_⟩
 ·have e : xs = []:=List.eq_nil_of_length_eq_zero h0;subst e;exact ⟨none,0,hv,Nat.le_refl _,by decide,.inl rfl⟩
 ·refine ⟨some ⟨g,0,none⟩,cap,hv,h1,by unfold maxLen at h2;omega,.inr ⟨g,0,rfl,(Array.getElem?_eq_some_iff.1 hb).1,fun j i s u hs hu => ?_⟩⟩;have hi : i < 6:=by
   have:=(List.getElem?_eq_some_iff.1 hu).1;exact this
  have h3:=h;rw [hv] at h3;have:=RowS.cell h3 j i s u hs hi hu;rw [Nat.zero_add];exact this
theorem RowSS.lst {lo n c : Nat} {w : World} {ao : Option Addr} {ls : List (Value × List Ses)} (h : RowSS lo w (.slice ao n c) ls) (hle : ∀ q ∈ ls,q.2.length <= 100000) : LstAt w.heap.size w ao (ls.map (·.2)):=by
 rcases h.row.2 with ⟨_,h0⟩ | ⟨g,cap,cur,hv,_,hb,_⟩
 ·have e : ls = []:=List.eq_nil_of_length_eq_zero h0;subst e;exact .inl rfl
 ·have ha : ao = some ⟨g,0,none⟩:=by injection hv
  subst ha;refine .inr ⟨g,0,rfl,(Array.getElem?_eq_some_iff.1 hb).1,fun j l hl => ?_⟩;rw [List.getElem?_map] at hl;cases hq : ls[j]? with
  | none => rw [hq] at hl;cases hl
  | some q =>
   rw [hq] at hl;have e : q.2 = l:=by simpa using hl
   subst e;have hm:=List.mem_of_getElem? hq;obtain ⟨p,c2,e2,k1,k2,k3⟩:=(h.each q hm).ses;have:=World.ownsRow.cells h.row (g:=g) rfl j q.1 (by rw [List.getElem?_map,hq];rfl);rw [Addr.add_lit,e2] at this;exact ⟨p,c2,this,k1,k2,hle q hm,k3⟩
theorem makF_valid {g : Tt.Grd} {t : Tt.Trm} {nm : ByteArray} {ls : List (List Ses)} (h : makC g t nm ls = 0) : feedV (makF g t nm ls).1 (makF g t nm ls).2.1 (makF g t nm ls).2.2 = 0:=by
 have hF : makF g t nm ls = (nm,(ls.length : Int),makeE g t 1 ls []):=if_pos h;rw [hF];show feedV nm (ls.length : Int) (makeE g t 1 ls []) = 0
 unfold makC at h;split at h
 ·cases h
 ·split at h
  ·cases h
  ·rename_i h2
   split at h
   ·cases h
   ·rename_i h3
    split at h
    ·rename_i h4;exact absurd h h4
    ·split at h
     ·cases h
     ·rename_i h5
      unfold feedV;rw [if_neg h2,if_neg (by omega),if_neg h5];have:=makeE_valid (g:=g) (t:=t) ls 0 [] (by omega) (show evsV 0 none [] = 0 from rfl);rw [Int.zero_add,Int.zero_add] at this;exact this
end Go.Proofs.YtageielcdebjlaaGreatDoor
