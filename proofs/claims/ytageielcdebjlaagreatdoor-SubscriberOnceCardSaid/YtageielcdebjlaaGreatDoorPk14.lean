/- The theorem of calendars, plain: a reader that sees versions of a timetable in any order. No program in sight. Condition: none. Notices in a row of one's own; events that lie still or in a row of one's own; what a reference to an event finds. No function of the program in sight. Condition: none. Plain facts: a drawn feed is valid; what merging makes of a valid feed in a reader without events, and of a feed that is not newer. No function of the program in sight. Condition: none. subscriber.twin: its contract: the same event, its lists in new memory. -/
import Derived.Test.YtageielcdebjlaaGreatDoorPk13
import Derived.Test.YtageielcdebjlaaGreatDoorPk5
import Derived.Test.YtageielcdebjlaaGreatDoorPk6
import Derived.Test.YtageielcdebjlaaGreatDoorPk4
namespace Go.Proofs.YtageielcdebjlaaGreatDoor
open Go.RowKit
theorem putE_self (e : Ev) : ∀ es : List Ev,e ∈ putE e es
 | [] => by rw [putE];exact List.mem_singleton.2 rfl
 | s :: r => by
  rw [putE];split
  ·exact List.mem_cons_of_mem _ (putE_self e r)
  ·split <;> exact List.mem_cons_self ..
theorem putE_keep {e x : Ev} : ∀ {es : List Ev},x ∈ es -> x.uid ≠ e.uid -> x ∈ putE e es
 | [],h,_ => by cases h
 | s :: r,h,hne => by
  rw [putE];rcases List.mem_cons.1 h with rfl | h
  ·split
   ·exact List.mem_cons_self ..
   ·simp
  ·split
   ·exact List.mem_cons_of_mem _ (putE_keep h hne)
   ·split
    ·exact List.mem_cons_of_mem _ h
    ·exact List.mem_cons_of_mem _ (List.mem_cons_of_mem _ h)
theorem advS_mem {k : Int} {es : List Ev} {e x : Ev} (h : x ∈ advS k es e) : x ∈ es ∨ x = e:=by
 unfold advS at h;split at h
 ·split at h
  ·exact .inl h
  ·exact (mem_putE e x es h).symm
 ·exact (mem_putE e x es h).symm
theorem putE_uid {e o : Ev} {es : List Ev} (h : o ∈ es) : ∃ x ∈ putE e es,x.uid = o.uid:=by
 by_cases hu : o.uid = e.uid
 ·exact ⟨e,putE_self e es,hu.symm⟩
 ·exact ⟨o,putE_keep h hu,rfl⟩
theorem advS_uid {k : Int} {es : List Ev} {e o : Ev} (h : o ∈ es) : ∃ x ∈ advS k es e,x.uid = o.uid:=by
 unfold advS;split
 ·split
  ·exact ⟨o,h,rfl⟩
  ·exact putE_uid h
 ·exact putE_uid h
theorem foldS_mem {k : Int} : ∀ {fs es : List Ev} {x : Ev},x ∈ fs.foldl (advS k) es -> x ∈ es ∨ x ∈ fs
 | [],_,_,h => .inl h
 | e :: r,es,x,h => by
  rcases foldS_mem (fs:=r) h with h | h
  ·rcases advS_mem h with h | h
   ·exact .inl h
   ·exact .inr (by rw [h];exact List.mem_cons_self ..)
  ·exact .inr (List.mem_cons_of_mem _ h)
theorem foldS_uid {k : Int} : ∀ {fs es : List Ev} {o : Ev},o ∈ es -> ∃ x ∈ fs.foldl (advS k) es,x.uid = o.uid
 | [],_,o,h => ⟨o,h,rfl⟩
 | e :: r,es,o,h => by
  obtain ⟨y,hy,hu⟩:=advS_uid (k:=k) (e:=e) h;obtain ⟨x,hx,hv⟩:=foldS_uid (k:=k) (fs:=r) hy;exact ⟨x,hx,hv.trans hu⟩
theorem sesEs_seq {g : Tt.Grd} {t : Tt.Trm} {k : Int} {l : List Ses} {x : Ev} (h : x ∈ sesEs g t k l) : x.seq = k:=by
 unfold sesEs at h;obtain ⟨s, -,rfl⟩:=List.mem_map.1 h;rfl
theorem adv_new {g : Tt.Grd} {t : Tt.Trm} {k : Int} {l : List Ses} {es : List Ev} {x : Ev} (h : x ∈ advV g t k l es) : x ∈ es ∨ x.seq = k:=by
 unfold advV advC at h;obtain ⟨y,hy,rfl⟩:=List.mem_map.1 h;unfold goneE;split
 ·rcases foldS_mem hy with h | h
  ·exact .inl h
  ·exact .inr (sesEs_seq h)
 ·exact .inr rfl
theorem adv_keep {g : Tt.Grd} {t : Tt.Trm} {k : Int} {l : List Ses} {es : List Ev} {o : Ev} (h : o ∈ es) : ∃ x ∈ advV g t k l es,x.uid = o.uid:=by
 unfold advV advC;obtain ⟨y,hy,hu⟩:=foldS_uid (k:=k) (fs:=sesEs g t k l) h;exact ⟨_,List.mem_map.2 ⟨y,hy,rfl⟩,(goneE_uid _ _ _).trans hu⟩
def makK (g : Tt.Grd) (t : Tt.Trm) (ls : List (List Ses)) (k : Nat) : List Ev:=makeE g t 1 (ls.take k) []
theorem makK_new {g : Tt.Grd} {t : Tt.Trm} {ls : List (List Ses)} {i : Nat} : ∀ {j : Nat} {x : Ev},i <= j -> x ∈ makK g t ls j -> x ∈ makK g t ls i ∨ (i : Int) < x.seq
 | 0,x,hij,h => by
  obtain rfl : i = 0:=by omega
  exact .inl h
 | j + 1,x,hij,h => by
  rcases Nat.lt_or_eq_of_le hij with k | k
  ·have hij : i <= j:=by omega
   rcases hl : ls[j]? with _ | l
   ·refine makK_new (j:=j) hij ?_;unfold makK at h ⊢;rwa [List.take_add_one,hl,Option.toList_none,List.append_nil] at h
   ·unfold makK at h;rw [makeE_take g t ls j l hl] at h;rcases adv_new h with h | h
    ·exact makK_new (j:=j) hij h
    ·exact .inr (by omega)
  ·subst k;exact .inl h
theorem makK_keep {g : Tt.Grd} {t : Tt.Trm} {ls : List (List Ses)} {i : Nat} : ∀ {j : Nat} {o : Ev},i <= j -> o ∈ makK g t ls i -> ∃ x ∈ makK g t ls j,x.uid = o.uid
 | 0,o,hij,h => by
  obtain rfl : i = 0:=by omega
  exact ⟨o,h,rfl⟩
 | j + 1,o,hij,h => by
  rcases Nat.lt_or_eq_of_le hij with k | k
  ·have hij : i <= j:=by omega
   obtain ⟨y,hy,hu⟩:=makK_keep (j:=j) hij h;rcases hl : ls[j]? with _ | l
   ·refine ⟨y,?_,hu⟩;unfold makK at hy ⊢;rwa [List.take_add_one,hl,Option.toList_none,List.append_nil]
   ·unfold makK at hy ⊢;rw [makeE_take g t ls j l hl];obtain ⟨x,hx,hv⟩:=adv_keep (g:=g) (t:=t) (k:=(j : Int) + 1) (l:=l) hy;exact ⟨x,hx,hv.trans hu⟩
  ·subst k;exact ⟨o,h,rfl⟩
theorem makK_valid (g : Tt.Grd) (t : Tt.Trm) (ls : List (List Ses)) (k : Nat) (hk : k <= ls.length) : evsV (k : Int) none (makK g t ls k) = 0:=by
 have:=makeE_valid (g:=g) (t:=t) (ls.take k) 0 [] (by decide) rfl;rw [List.length_take,Nat.min_eq_left hk] at this;unfold makK;simpa using this
theorem makK_asc (g : Tt.Grd) (t : Tt.Trm) (ls : List (List Ses)) (k : Nat) : AscU (makK g t ls k):=AscU_makeE g t _ _ _ List.Pairwise.nil
theorem check_seq {e : Ev} {v : Int} (h : checkV e v = 0) : 1 <= e.seq /\ e.seq <= v:=by
 unfold checkV at h;split at h
 ·cases h
 ·omega
theorem makK_seq {g : Tt.Grd} {t : Tt.Trm} {ls : List (List Ses)} {k : Nat} (hk : k <= ls.length) {e : Ev} (h : e ∈ makK g t ls k) : 1 <= e.seq /\ e.seq <= k:=check_seq (evsV_each _ _ _ (makK_valid g t ls k hk) e h).2
theorem findFrom_get (u : ByteArray) : ∀ (es : List Ev) (k : Int),0 <= k -> (getE u es = none /\ findFrom u es k = -1) ∨ ∃ (j : Nat) (o : Ev),getE u es = some o /\ findFrom u es k = k + j /\ es[j]? = some o
 | [],_,_ => .inl ⟨rfl,rfl⟩
 | e :: r,k,hk => by
  by_cases h : e.uid = u
  ·refine .inr ⟨0,e,?_,?_,rfl⟩
   ·unfold getE;rw [List.find?_cons_of_pos (by simpa using h)]
   ·unfold findFrom;rw [if_pos h];simp
  ·have h1 : getE u (e :: r) = getE u r:=by unfold getE;rw [List.find?_cons_of_neg (by simpa using h)]
   have h2 : findFrom u (e :: r) k = findFrom u r (k + 1):=by rw [findFrom,if_neg h]
   rw [h1,h2];rcases findFrom_get u r (k + 1) (by omega) with h3 | ⟨j,o,h3,h4,h5⟩
   ·exact .inl h3
   ·exact .inr ⟨j + 1,o,h3,by rw [h4];push_cast;omega,by simpa using h5⟩
theorem stepM_get (out : List Ev) (ns : List Nt) (e : Ev) : stepM (out,ns) e = match getE e.uid out with | none => (putE e out,noteN (toldV true e.canc) e ns) | some o => if o.seq < e.seq then (putE e out,noteN (toldV o.canc e.canc) e ns) else (out,ns):=by
 rcases findFrom_get e.uid out 0 (Int.le_refl _) with ⟨h1,h2⟩ | ⟨j,o,h1,h2,h3⟩
 ·rw [stepM_none h2,h1]
 ·rw [stepM_some (i:=j) (by omega) h3,h1]
def noteE (es : List Ev) (e : Ev) : List Nt :=
 match getE e.uid es with
 | none => noteN (toldV true e.canc) e []
 | some o => if o.seq < e.seq then noteN (toldV o.canc e.canc) e [] else []
theorem noteN_app (c : Int) (e : Ev) (ns : List Nt) : noteN c e ns = ns ++ noteN c e []:=by
 unfold noteN;split <;> simp
theorem AscU.ne {es : List Ev} (h : AscU es) : es.Pairwise (fun a b => a.uid ≠ b.uid):=h.imp (fun {a b} hab e => by rw [e,lessU_irrefl] at hab;cases hab)
theorem AscU.nodup {es : List Ev} (h : AscU es) : es.Nodup:=h.ne.imp (fun hab e => hab (by rw [e]))
theorem AscU.ext {xs ys : List Ev} (hx : AscU xs) (hy : AscU ys) (h : ∀ a,a ∈ xs ↔ a ∈ ys) : xs = ys:=hx.same hy ((List.perm_ext_iff_of_nodup hx.nodup hy.nodup).2 h)
theorem mrg_go {es : List Ev} (hes : AscU es) : ∀ (fs pre out : List Ev) (ns : List Nt),AscU (pre ++ fs) -> (∀ f ∈ fs,f ∈ es ∨ ∀ o ∈ es,o.uid = f.uid -> o.seq < f.seq) -> AscU out -> (∀ f ∈ pre,f ∈ out) -> (∀ x ∈ out,x ∈ pre ∨ x ∈ es) -> (∀ o ∈ es,o ∈ out ∨ ∃ f ∈ pre,f.uid = o.uid) ->
  ∃ out',fs.foldl stepM (out,ns) = (out',ns ++ fs.flatMap (noteE es)) /\ AscU out' /\ (∀ f ∈ pre ++ fs,f ∈ out') /\ ∀ x ∈ out',x ∈ pre ++ fs ∨ x ∈ es
 | [],pre,out,ns,_,_,h1,h2,h3,_ => ⟨out,by simp,h1,by simpa using h2,by simpa using h3⟩
 | e :: r,pre,out,ns,hp,hn,h1,h2,h3,h4 => by
  have hne : ∀ f ∈ pre,f.uid ≠ e.uid:=fun f hf => (List.pairwise_append.1 hp.ne).2.2 f hf e (by simp)
  have hg : getE e.uid out = getE e.uid es:=by
   cases hx : getE e.uid out with
   | none =>
    refine (getE_no fun o ho hu => ?_).symm;rcases h4 o ho with h | ⟨f,hf,hv⟩
    ·exact getE_none hx o h hu
    ·exact hne f hf (hv.trans hu)
   | some o =>
    obtain ⟨a,b⟩:=getE_some hx;rcases h3 o a with h | h
    ·exact absurd b (hne o h)
    ·rw [<- b];exact (getE_yes hes h).symm
  have hput : ∃ out',(putE e out,noteN (0 : Int) e ns).1 = out' /\ AscU out' /\ (∀ f ∈ pre ++ [e],f ∈ out') /\ (∀ x ∈ out',x ∈ pre ++ [e] ∨ x ∈ es) /\ ∀ o ∈ es,o ∈ out' ∨ ∃ f ∈ pre ++ [e],f.uid = o.uid:=by
   refine ⟨_,rfl,h1.put,fun f hf => ?_,fun x hx => ?_,fun o ho => ?_⟩
   ·rcases List.mem_append.1 hf with hf | hf
    ·exact putE_keep (h2 f hf) (hne f hf)
    ·obtain rfl:=List.mem_singleton.1 hf;exact putE_self _ _
   ·rcases mem_putE e x out hx with rfl | hx
    ·exact .inl (by simp)
    ·rcases h3 x hx with h | h
     ·exact .inl (by simp [h])
     ·exact .inr h
   ·by_cases hu : e.uid = o.uid
    ·exact .inr ⟨e,by simp,hu⟩
    ·rcases h4 o ho with h | ⟨f,hf,hv⟩
     ·exact .inl (putE_keep h (fun q => hu q.symm))
     ·exact .inr ⟨f,by simp [hf],hv⟩
  have hfin : ∀ (out1 : List Ev) (ns1 : List Nt),stepM (out,ns) e = (out1,ns1) -> ns1 = ns ++ noteE es e -> AscU out1 -> (∀ f ∈ pre ++ [e],f ∈ out1) -> (∀ x ∈ out1,x ∈ pre ++ [e] ∨ x ∈ es) -> (∀ o ∈ es,o ∈ out1 ∨ ∃ f ∈ pre ++ [e],f.uid = o.uid) ->
    ∃ out',(e :: r).foldl stepM (out,ns) = (out',ns ++ (e :: r).flatMap (noteE es)) /\ AscU out' /\ (∀ f ∈ pre ++ e :: r,f ∈ out') /\ ∀ x ∈ out',x ∈ pre ++ e :: r ∨ x ∈ es:=by
   intro out1 ns1 hst hns g1 g2 g3 g4;obtain ⟨out',k1,k2,k3,k4⟩:=mrg_go hes r (pre ++ [e]) out1 ns1 (by simpa using hp) (fun f hf => hn f (by simp [hf])) g1 g2 g3 g4;refine ⟨out',?_,k2,by simpa using k3,by simpa using k4⟩;rw [List.foldl_cons,hst,k1,hns,List.flatMap_cons,List.append_assoc]
  obtain ⟨po,rfl,p1,p2,p3,p4⟩:=hput;cases hx : getE e.uid es with
  | none =>
   refine hfin (putE e out) (noteN (toldV true e.canc) e ns) ?_ ?_ p1 p2 p3 p4
   ·rw [stepM_get,hg,hx]
   ·unfold noteE;rw [hx,noteN_app]
  | some o =>
   obtain ⟨ho,hu⟩:=getE_some hx;by_cases hlt : o.seq < e.seq
   ·refine hfin (putE e out) (noteN (toldV o.canc e.canc) e ns) ?_ ?_ p1 p2 p3 p4
    ·rw [stepM_get,hg,hx];exact if_pos hlt
    ·unfold noteE;rw [hx,noteN_app];simp only [if_pos hlt]
   ·have he : e ∈ es:=by
     rcases hn e (by simp) with h | h
     ·exact h
     ·exact absurd (h o ho hu) hlt
    have heo : e ∈ out:=by
     rcases h4 e he with h | ⟨f,hf,hv⟩
     ·exact h
     ·exact absurd hv (hne f hf)
    refine hfin out ns ?_ ?_ h1 (fun f hf => ?_) (fun x hx => ?_) (fun x hx => ?_)
    ·rw [stepM_get,hg,hx];exact if_neg hlt
    ·unfold noteE;rw [hx];simp only [if_neg hlt];simp
    ·rcases List.mem_append.1 hf with hf | hf
     ·exact h2 f hf
     ·obtain rfl:=List.mem_singleton.1 hf;exact heo
    ·rcases h3 x hx with h | h
     ·exact .inl (by simp [h])
     ·exact .inr h
    ·rcases h4 x hx with h | ⟨f,hf,hv⟩
     ·exact .inl h
     ·exact .inr ⟨f,by simp [hf],hv⟩
theorem mrg_later {es fs : List Ev} (hes : AscU es) (hfs : AscU fs) (hsub : ∀ o ∈ es,∃ f ∈ fs,f.uid = o.uid) (hnew : ∀ f ∈ fs,f ∈ es ∨ ∀ o ∈ es,o.uid = f.uid -> o.seq < f.seq) : mrg es fs = (fs,fs.flatMap (noteE es)):=by
 obtain ⟨out',k1,k2,k3,k4⟩:=mrg_go hes fs [] es [] (by simpa using hfs) hnew hes (fun f hf => by cases hf) (fun x hx => .inr hx) (fun o ho => .inl ho);have he : out' = fs:=k2.ext hfs fun a => ⟨fun ha => by
  rcases k4 a ha with h | h
  ·simpa using h
  ·obtain ⟨f,hf,hu⟩:=hsub a h;have:=k2.one (k3 f (by simpa using hf)) ha hu;rwa [<- this],fun ha => k3 a (by simpa using ha)⟩
 unfold mrg;rw [k1,he,List.nil_append]
def tellS (S : List ByteArray) (n : Nt) : List ByteArray:=S.filter (fun u => !decide (u = n.uid)) ++ (if n.kind = 3 then [] else [n.uid])
def tellV (S : List ByteArray) (ns : List Nt) : List ByteArray:=ns.foldl tellS S
theorem tellV_app (S : List ByteArray) (xs ys : List Nt) : tellV S (xs ++ ys) = tellV (tellV S xs) ys:=List.foldl_append ..
theorem tellS_nodup {S : List ByteArray} (n : Nt) (h : S.Nodup) : (tellS S n).Nodup:=by
 unfold tellS;refine List.pairwise_append.2 ⟨h.filter _,by split <;> simp,fun a ha b hb => ?_⟩;have h1 : a ≠ n.uid:=by have:=(List.mem_filter.1 ha).2;simpa using this
 split at hb
 ·cases hb
 ·rw [List.mem_singleton.1 hb];exact h1
theorem tellV_nodup : ∀ (ns : List Nt) {S : List ByteArray},S.Nodup -> (tellV S ns).Nodup
 | [],_,h => h
 | n :: r,_,h => tellV_nodup r (tellS_nodup n h)
theorem tellS_mem (S : List ByteArray) (n : Nt) (u : ByteArray) : u ∈ tellS S n ↔ (u ∈ S /\ u ≠ n.uid) ∨ (n.kind ≠ 3 /\ u = n.uid):=by
 unfold tellS;rw [List.mem_append,List.mem_filter];by_cases h : n.kind = 3 <;> simp [h]
theorem tellV_mem : ∀ (ns : List Nt) (S : List ByteArray) (u : ByteArray),ns.Pairwise (fun a b => a.uid ≠ b.uid) -> (u ∈ tellV S ns ↔ (u ∈ S /\ ∀ n ∈ ns,n.uid ≠ u) ∨ ∃ n ∈ ns,n.uid = u /\ n.kind ≠ 3)
 | [],S,u,_ => by simp [tellV]
 | n :: r,S,u,h => by
  obtain ⟨h1,h2⟩:=List.pairwise_cons.1 h;show u ∈ tellV (tellS S n) r ↔ _
  rw [tellV_mem r (tellS S n) u h2,tellS_mem];constructor
  ·rintro (⟨⟨a,b⟩ | ⟨a,b⟩,c⟩ | ⟨m,hm,a,b⟩)
   ·refine .inl ⟨a,fun m hm => ?_⟩;rcases List.mem_cons.1 hm with rfl | hm
    ·exact fun q => b q.symm
    ·exact c m hm
   ·exact .inr ⟨n,by simp,b.symm,a⟩
   ·exact .inr ⟨m,by simp [hm],a,b⟩
  ·rintro (⟨a,c⟩ | ⟨m,hm,a,b⟩)
   ·exact .inl ⟨.inl ⟨a,fun q => c n (by simp) q.symm⟩,fun m hm => c m (by simp [hm])⟩
   ·rcases List.mem_cons.1 hm with rfl | hm
    ·exact .inl ⟨.inr ⟨b,a.symm⟩,fun k hk q => h1 k hk (a.trans q.symm)⟩
    ·exact .inr ⟨m,hm,a,b⟩
theorem noteE_mem {es : List Ev} {e : Ev} {n : Nt} (h : n ∈ noteE es e) : n.uid = e.uid /\ n.seq = e.seq /\ (n.kind = 3 ↔ e.canc = true) /\ (∀ o ∈ es,o.uid = e.uid -> o.seq < e.seq ∨ getE e.uid es ≠ some o):=by
 have hN : ∀ c,n ∈ noteN (toldV c e.canc) e [] -> n.uid = e.uid /\ n.seq = e.seq /\ (n.kind = 3 ↔ e.canc = true):=fun c hc => by
  unfold noteN at hc;split at hc
  ·cases hc
  ·obtain rfl:=List.mem_singleton.1 (by simpa using hc);refine ⟨rfl,rfl,?_⟩;rename_i g;show toldV c e.canc = 3 ↔ _
   revert g
   cases c <;> cases e.canc <;> decide
 unfold noteE at h;cases hx : getE e.uid es with
 | none =>
  rw [hx] at h;obtain ⟨a,b,c⟩:=hN true h;exact ⟨a,b,c,fun o ho hu => .inr (by simp)⟩
 | some o =>
  rw [hx] at h;by_cases hlt : o.seq < e.seq
  ·simp only [if_pos hlt] at h;obtain ⟨a,b,c⟩:=hN o.canc h;refine ⟨a,b,c,fun p hp hu => ?_⟩;by_cases hq : p = o
   ·rw [hq];exact .inl hlt
   ·exact .inr (by simp;exact fun q => hq q.symm)
  ·simp only [if_neg hlt] at h;cases h
theorem noteE_pair {es : List Ev} : ∀ {fs : List Ev},fs.Pairwise (fun a b => a.uid ≠ b.uid) -> (fs.flatMap (noteE es)).Pairwise (fun a b => a.uid ≠ b.uid)
 | [],_ => List.Pairwise.nil
 | e :: r,h => by
  obtain ⟨h1,h2⟩:=List.pairwise_cons.1 h;rw [List.flatMap_cons];refine List.pairwise_append.2 ⟨?_,noteE_pair h2,fun a ha b hb => ?_⟩
  ·have hN : ∀ c,(noteN c e []).Pairwise (fun a b => a.uid ≠ b.uid):=fun c => by unfold noteN;split <;> simp
   unfold noteE;split
   ·exact hN _
   ·split
    ·exact hN _
    ·exact List.Pairwise.nil
  ·obtain ⟨f,hf,hbf⟩:=List.mem_flatMap.1 hb;rw [(noteE_mem ha).1,(noteE_mem hbf).1];exact h1 f hf
structure Told (E : Nat -> List Ev) (k : Nat) (T : List Nt) : Prop where
 low : ∀ n ∈ T,n.seq <= k
 once : T.Pairwise (fun a b => a.uid = b.uid -> a.seq < b.seq)
 shown : ∀ u,u ∈ tellV [] T ↔ ∃ e ∈ E k,e.uid = u /\ e.canc = false
 nodup : (tellV [] T).Nodup
theorem Told.next {E : Nat -> List Ev} {k j : Nat} {T : List Nt} (h : Told E k T) (hkj : k < j) (hk : AscU (E k)) (hj : AscU (E j)) (hsk : ∀ e ∈ E k,e.seq <= k) (hsj : ∀ e ∈ E j,e.seq <= j)
  (hnew : ∀ x ∈ E j,x ∈ E k ∨ (k : Int) < x.seq) (hkeep : ∀ o ∈ E k,∃ x ∈ E j,x.uid = o.uid) : Told E j (T ++ (E j).flatMap (noteE (E k))):=by
 have hlt : ∀ n ∈ (E j).flatMap (noteE (E k)),∃ e ∈ E j,n ∈ noteE (E k) e /\ n.uid = e.uid /\ n.seq = e.seq /\ (n.kind = 3 ↔ e.canc = true) /\ (k : Int) < e.seq:=by
  intro n hn;obtain ⟨e,he,hm⟩:=List.mem_flatMap.1 hn;obtain ⟨a,b,c,d⟩:=noteE_mem hm;refine ⟨e,he,hm,a,b,c,?_⟩;rcases hnew e he with hx | hx
  ·rcases d e hx rfl with q | q
   ·omega
   ·exact absurd (getE_yes hk hx) q
  ·exact hx
 have hpair:=noteE_pair (es:=E k) hj.ne;refine ⟨fun n hn => ?_,List.pairwise_append.2 ⟨h.once,hpair.imp (fun q r => absurd r q),fun a ha b hb _ => ?_⟩,fun u => ?_,?_⟩
 ·rcases List.mem_append.1 hn with hn | hn
  ·have:=h.low n hn;omega
  ·obtain ⟨e,he, -, -,b, -, -⟩:=hlt n hn;rw [b];exact hsj e he
 ·obtain ⟨e,he, -, -,c, -,d⟩:=hlt b hb;have:=h.low a ha;omega
 ·rw [tellV_app,tellV_mem _ _ _ hpair,h.shown];constructor
  ·rintro (⟨⟨o,ho,hu,hc⟩,hno⟩ | ⟨n,hn,hu,hc⟩)
   ·obtain ⟨x,hx,hv⟩:=hkeep o ho;rcases hnew x hx with hxk | hxk
    ·have:=hk.one hxk ho hv;subst this;exact ⟨x,hx,hu,hc⟩
    ·exfalso;have hg : getE x.uid (E k) = some o:=by rw [hv];exact getE_yes hk ho
     have hs:=hsk o ho;have hne : noteE (E k) x ≠ []:=by
      unfold noteE;rw [hg];simp only [if_pos (show o.seq < x.seq by omega)];unfold noteN;rw [hc];rw [if_neg (by cases x.canc <;> decide)];simp
     obtain ⟨n,hn⟩:=List.exists_mem_of_ne_nil _ hne;exact hno n (List.mem_flatMap.2 ⟨x,hx,hn⟩) ((noteE_mem hn).1.trans (hv.trans hu))
   ·obtain ⟨e,he, -,a, -,c, -⟩:=hlt n hn;refine ⟨e,he,a.symm.trans hu,?_⟩;cases hq : e.canc with
    | false => rfl
    | true => exact absurd (c.2 hq) hc
  ·rintro ⟨e,he,hu,hc⟩;rcases hnew e he with hek | hek
   ·refine .inl ⟨⟨e,hek,hu,hc⟩,fun n hn q => ?_⟩;obtain ⟨x,hx, -,a, -, -,d⟩:=hlt n hn;have:=hj.one hx he (by rw [<- a,q,hu]);subst this;have:=hsk x hek;omega
   ·refine .inr ?_;have hne : noteE (E k) e ≠ []:=by
     unfold noteE;cases hx : getE e.uid (E k) with
     | none =>
      simp only;unfold noteN;rw [hc,if_neg (by decide)];simp
     | some o =>
      have:=hsk o (getE_some hx).1;simp only [if_pos (show o.seq < e.seq by omega)];unfold noteN;rw [hc,if_neg (by cases o.canc <;> decide)];simp
    obtain ⟨n,hn⟩:=List.exists_mem_of_ne_nil _ hne;obtain ⟨a, -,c, -⟩:=noteE_mem hn;exact ⟨n,List.mem_flatMap.2 ⟨e,he,hn⟩,a.trans hu,fun q => by rw [c.1 q] at hc;cases hc⟩
 ·rw [tellV_app];exact tellV_nodup _ h.nodup
theorem told_first (g : Tt.Grd) (t : Tt.Trm) (ls : List (List Ses)) : Told (makK g t ls) 0 []:=by
 refine ⟨fun _ h => (by cases h),List.Pairwise.nil,fun u => ?_,List.Pairwise.nil⟩;have h0 : makK g t ls 0 = []:=rfl;rw [h0];simp [tellV]
theorem told_next {g : Tt.Grd} {t : Tt.Trm} {ls : List (List Ses)} {k j : Nat} {T : List Nt} (h : Told (makK g t ls) k T) (hkj : k < j) (hj : j <= ls.length) : Told (makK g t ls) j (T ++ (makK g t ls j).flatMap (noteE (makK g t ls k))) :=
 h.next hkj (makK_asc ..) (makK_asc ..) (fun e he => (makK_seq (by omega) he).2) (fun e he => (makK_seq hj he).2) (fun x hx => makK_new (by omega) hx) (fun o ho => makK_keep (by omega) ho)
theorem mrg_ver {g : Tt.Grd} {t : Tt.Trm} {ls : List (List Ses)} {k j : Nat} (hkj : k < j) (hj : j <= ls.length) : mrg (makK g t ls k) (makK g t ls j) = (makK g t ls j,(makK g t ls j).flatMap (noteE (makK g t ls k))) :=
 mrg_later (makK_asc ..) (makK_asc ..) (fun o ho => makK_keep (by omega) ho) (fun f hf => (makK_new (by omega) hf).imp id (fun hs o ho _ => by have:=(makK_seq (by omega) ho).2;omega))
theorem merge_ver {g : Tt.Grd} {t : Tt.Trm} {ls : List (List Ses)} {k j : Nat} {nm : ByteArray} (hk : k <= ls.length) (hj : j <= ls.length) (hl : ls.length <= 64) (h256k : (makK g t ls k).length <= 256) (h256 : (makK g t ls j).length <= 256) (hf : feedV nm (j : Int) (makK g t ls j) = 0) :
  mergeV (k : Int) 0 (makK g t ls k) nm (j : Int) (makK g t ls j) = (((max k j : Nat) : Int),0,makK g t ls (max k j),(if k < j then (makK g t ls j).flatMap (noteE (makK g t ls k)) else []),0):=by
 have hr : rdOk (k : Int) (makK g t ls k) = true:=(rdOk_iff _ _).2 ⟨by omega,by omega,h256k,makK_valid g t ls k hk⟩;unfold mergeV;rw [if_neg (by rw [hr];decide),if_neg (by rw [hf];decide)];by_cases hle : (j : Int) <= k
 ·rw [if_pos hle,Nat.max_eq_left (by omega),if_neg (by omega)]
 ·rw [if_neg hle,mrg_ver (by omega) hj,if_neg (by show ¬ (256 : Int) < ((makK g t ls j).length : Int);omega),Nat.max_eq_right (by omega),if_pos (by omega)]
theorem told_ver {g : Tt.Grd} {t : Tt.Trm} {ls : List (List Ses)} {k j : Nat} {T : List Nt} (h : Told (makK g t ls) k T) (hj : j <= ls.length) : Told (makK g t ls) (max k j) (T ++ (if k < j then (makK g t ls j).flatMap (noteE (makK g t ls k)) else [])):=by
 by_cases hkj : k < j
 ·rw [if_pos hkj,Nat.max_eq_right (by omega)];exact told_next h hkj hj
 ·rw [if_neg hkj,Nat.max_eq_left (by omega),List.append_nil];exact h
def insK (x : ByteArray) (out : List ByteArray) : Nat -> Nat
 | 0 => 0
 | k + 1 => match out[k]? with
  | some y => if lessU x y = true then insK x out k else k + 1
  | none => k + 1
def insS (out : List ByteArray) (x : ByteArray) : List ByteArray:=out.take (insK x out out.length) ++ x :: out.drop (insK x out out.length)
def ascV (l : List ByteArray) : List ByteArray:=l.foldl insS []
theorem insK_le (x : ByteArray) (out : List ByteArray) : ∀ k,insK x out k <= k
 | 0 => Nat.le_refl _
 | k + 1 => by
  unfold insK;split
  ·split
   ·have:=insK_le x out k;omega
   ·omega
  ·omega
theorem insK_low (x : ByteArray) (out : List ByteArray) : ∀ k j y,insK x out k <= j -> j < k -> out[j]? = some y -> lessU x y = true
 | 0,j,y,_,h,_ => by omega
 | k + 1,j,y,h1,h2,h3 => by
  unfold insK at h1;split at h1
  ·rename_i z hz
   split at h1
   ·rename_i g
    rcases Nat.lt_or_eq_of_le (show j <= k by omega) with q | q
    ·exact insK_low x out k j y h1 q h3
    ·subst q;rw [hz] at h3;cases h3;exact g
   ·omega
  ·omega
theorem insK_high (x : ByteArray) (out : List ByteArray) : ∀ k,insK x out k = 0 ∨ ∀ y,out[insK x out k - 1]? = some y -> ¬ lessU x y = true
 | 0 => .inl rfl
 | k + 1 => by
  unfold insK;split
  ·rename_i z hz
   split
   ·exact insK_high x out k
   ·rename_i g
    refine .inr fun y hy => ?_
    rw [Nat.add_sub_cancel,hz] at hy;cases hy;exact g
  ·rename_i hz
   refine .inr fun y hy => ?_
   rw [Nat.add_sub_cancel,hz] at hy;cases hy
theorem insS_perm (x : ByteArray) (out : List ByteArray) : (insS out x).Perm (x :: out):=by
 unfold insS;refine List.perm_middle.trans ?_;rw [List.take_append_drop]
def AscS (l : List ByteArray) : Prop:=l.Pairwise (fun a b => lessU a b = true)
theorem insS_asc {x : ByteArray} {out : List ByteArray} (h : AscS out) (hx : x ∉ out) : AscS (insS out x):=by
 unfold insS;obtain ⟨K,hK⟩ : ∃ K,K = insK x out out.length:=⟨_,rfl⟩
 have hKl : K <= out.length:=by rw [hK];exact insK_le _ _ _
 rw [<- hK];have hap : AscS (out.take K ++ out.drop K):=by rw [List.take_append_drop];exact h
 obtain ⟨a1,a2,a3⟩:=List.pairwise_append.1 hap;have hup : ∀ y ∈ out.drop K,lessU x y = true:=by
  intro y hy;obtain ⟨i,hi⟩:=List.mem_iff_getElem?.1 hy;rw [List.getElem?_drop] at hi;have:=(List.getElem?_eq_some_iff.1 hi).1;exact insK_low x out out.length (K + i) y (by omega) this hi
 have hlo : ∀ y ∈ out.take K,lessU y x = true:=by
  rcases insK_high x out out.length with h0 | h0
  ·rw [<- hK] at h0;rw [h0];intro y hy;simp at hy
  ·rw [<- hK] at h0;intro y hy;have hK0 : 0 < K:=by
    rcases Nat.eq_zero_or_pos K with q | q
    ·rw [q] at hy;simp at hy
    ·exact q
   obtain ⟨z,hz⟩ : ∃ z,out[K - 1]? = some z:=⟨_,List.getElem?_eq_getElem (by omega)⟩
   have hnz:=h0 z hz;have hzx : lessU z x = true:=less_total (by simpa using hnz) (fun q => hx (by rw [q];exact List.mem_of_getElem? hz));obtain ⟨i,hi⟩:=List.mem_iff_getElem?.1 hy;have hiK : i < K:=by have:=(List.getElem?_eq_some_iff.1 hi).1;rw [List.length_take] at this;omega
   rw [List.getElem?_take_of_lt hiK] at hi;rcases Nat.lt_or_eq_of_le (show i <= K - 1 by omega) with q | q
   ·obtain ⟨b1,b2⟩:=List.getElem?_eq_some_iff.1 hi;obtain ⟨c1,c2⟩:=List.getElem?_eq_some_iff.1 hz;have:=List.pairwise_iff_getElem.1 h i (K - 1) b1 c1 q;rw [b2,c2] at this;exact lessU_trans this hzx
   ·subst q;rw [hz] at hi;cases hi;exact hzx
 exact List.pairwise_append.2 ⟨a1,List.pairwise_cons.2 ⟨hup,a2⟩,fun a ha b hb => by
  rcases List.mem_cons.1 hb with rfl | hb
  ·exact hlo a ha
  ·exact a3 a ha b hb⟩
theorem ascV_go : ∀ (l out : List ByteArray),AscS out -> l.Nodup -> (∀ x ∈ l,x ∉ out) -> AscS (l.foldl insS out) /\ ∀ u,u ∈ l.foldl insS out ↔ u ∈ out ∨ u ∈ l
 | [],out,h,_,_ => ⟨h,fun u => by simp⟩
 | x :: r,out,h,hn,hd => by
  obtain ⟨h1,h2⟩:=List.nodup_cons.1 hn;obtain ⟨k1,k2⟩:=ascV_go r (insS out x) (insS_asc h (hd x (by simp))) h2 (fun y hy q => by
   rcases List.mem_cons.1 ((insS_perm x out).mem_iff.1 q) with rfl | q
   ·exact h1 hy
   ·exact hd y (by simp [hy]) q)
  refine ⟨k1,fun u => ?_⟩;rw [List.foldl_cons,k2,(insS_perm x out).mem_iff];simp only [List.mem_cons];constructor
  ·rintro ((a | a) | a)
   ·exact .inr (.inl a)
   ·exact .inl a
   ·exact .inr (.inr a)
  ·rintro (a | a | a)
   ·exact .inl (.inr a)
   ·exact .inl (.inl a)
   ·exact .inr a
theorem AscS.ext : ∀ {xs ys : List ByteArray},AscS xs -> AscS ys -> (∀ a,a ∈ xs ↔ a ∈ ys) -> xs = ys
 | [],[],_,_,_ => rfl
 | [],y :: q,_,_,h => by have:=(h y).2 (by simp);cases this
 | x :: r,[],_,_,h => by have:=(h x).1 (by simp);cases this
 | x :: r,y :: q,hx,hy,h => by
  obtain ⟨h1,h2⟩:=List.pairwise_cons.1 hx;obtain ⟨k1,k2⟩:=List.pairwise_cons.1 hy;have he : x = y:=by
   rcases List.mem_cons.1 ((h x).1 (by simp)) with e1 | hm
   ·exact e1
   ·rcases List.mem_cons.1 ((h y).2 (by simp)) with e2 | hn
    ·exact e2.symm
    ·have:=lessU_trans (k1 x hm) (h1 y hn);rw [lessU_irrefl] at this;cases this
  subst he;rw [AscS.ext h2 k2 fun a => ⟨fun ha => by
   rcases List.mem_cons.1 ((h a).1 (by simp [ha])) with rfl | q
   ·have:=h1 a ha;rw [lessU_irrefl] at this;cases this
   ·exact q,fun ha => by
   rcases List.mem_cons.1 ((h a).2 (by simp [ha])) with rfl | q
   ·have:=k1 a ha;rw [lessU_irrefl] at this;cases this
   ·exact q⟩]
theorem told_shown {g : Tt.Grd} {t : Tt.Trm} {ls : List (List Ses)} {k : Nat} {T : List Nt} (h : Told (makK g t ls) k T) : ascV (tellV [] T) = ((makK g t ls k).filter (fun e => !e.canc)).map (·.uid):=by
 obtain ⟨k1,k2⟩:=ascV_go (tellV [] T) [] List.Pairwise.nil h.nodup (fun x _ q => by cases q);refine AscS.ext k1 ?_ fun u => ?_
 ·exact List.pairwise_map.2 ((makK_asc g t ls k).filter _)
 ·show u ∈ List.foldl insS [] _ ↔ _
  rw [k2,h.shown];simp only [List.mem_map,List.mem_filter];constructor
  ·rintro (q | ⟨e,he,hu,hc⟩)
   ·cases q
   ·exact ⟨e,⟨he,by simp [hc]⟩,hu⟩
  ·rintro ⟨e,⟨he,hc⟩,hu⟩;exact .inr ⟨e,he,hu,by simpa using hc⟩
theorem infoNt : (Tryz.prog.info? 99).map (fun i => (i.zero,i.size,i.bytes)) = some (some (.agg #[.int .i64 0,.string ⟨#[]⟩,.int .i64 0]),3,32):=by kernel_rfl
def nCells (ns : List Nt) : List Value:=ns.flatMap fun n => [.int .i64 n.kind,.string n.uid,.int .i64 n.seq]
theorem nCells_get : ∀ (ns : List Nt) (j i : Nat) (n : Nt),ns[j]? = some n -> i < 3 -> (nCells ns)[j * 3 + i]? = [Value.int .i64 n.kind,.string n.uid,.int .i64 n.seq][i]?
 | [],_,_,_,h,_ => by simp at h
 | n0 :: r,0,i,n,h,hi => by
  simp at h;subst h;show ([Value.int .i64 n0.kind,.string n0.uid,.int .i64 n0.seq] ++ nCells r)[0 * 3 + i]? = _
  rw [show 0 * 3 + i = i by omega,List.getElem?_append_left (by show i < 3;exact hi)]
 | n0 :: r,j + 1,i,n,h,hi => by
  show ([Value.int .i64 n0.kind,.string n0.uid,.int .i64 n0.seq] ++ nCells r)[(j + 1) * 3 + i]? = _
  rw [List.getElem?_append_right (by show 3 <= _;omega),show (j + 1) * 3 + i - [Value.int .i64 n0.kind,.string n0.uid,.int .i64 n0.seq].length = j * 3 + i by show _ - 3 = _;omega];exact nCells_get r j i n (by simpa using h) hi
theorem nCells_snoc (ns : List Nt) (n : Nt) : nCells (ns ++ [n]) = nCells ns ++ [.int .i64 n.kind,.string n.uid,.int .i64 n.seq]:=by
 unfold nCells;simp
def RowN (lo : Nat) (w : World) (v : Value) (ns : List Nt) : Prop:=w.ownsRow lo 99 3 v ns.length (nCells ns)
theorem RowN.nil (lo : Nat) (w : World) : RowN lo w (.slice none 0 0) []:=World.ownsRow_nil _ _ _ _
theorem RowN.snoc {lo : Nat} {w : World} {v : Value} {ns : List Nt} {n : Nt} (h : w.ownsRow lo 99 3 v (ns.length + 1) (nCells ns ++ [.int .i64 n.kind,.string n.uid,.int .i64 n.seq])) : RowN lo w v (ns ++ [n]):=by
 unfold RowN;rw [nCells_snoc,List.length_append];exact h
theorem RowN.nts {lo : Nat} {w : World} {v : Value} {ns : List Nt} (h : RowN lo w v ns) : ∃ ao c,v = .slice ao ns.length c /\ Nts w.heap.size w ao ns:=by
 rcases (show w.ownsRow lo 99 3 v ns.length (nCells ns) from h).2 with ⟨hv,h0⟩ | ⟨g,cap,cur,hv,r2,r3,r4,r5,_⟩
 ·have : ns = []:=List.eq_nil_of_length_eq_zero h0;subst this;exact ⟨none,0,hv,.inl rfl⟩
 ·have hc : ∀ (j i : Nat) (n : Nt) (u : Value),ns[j]? = some n -> i < 3 -> [Value.int .i64 n.kind,.string n.uid,.int .i64 n.seq][i]? = some u -> w.cell? ⟨g,0 + j * 3 + i,none⟩ = some u:=fun j i n u hj hi hu => by
   have:=World.ownsRow.cells h (g:=g) (by rw [hv];rfl) (j * 3 + i) u (by rw [nCells_get ns j i n hj hi];exact hu);rw [Addr.add_lit] at this;rw [<- this,show 0 + j * 3 + i = 0 + (j * 3 + i) by omega]
  exact ⟨_,cap,hv,.inr ⟨g,0,rfl,(Array.getElem?_eq_some_iff.1 r3).1,fun j n hj => ⟨hc j 0 n _ hj (by omega) rfl,hc j 1 n _ hj (by omega) rfl,hc j 2 n _ hj (by omega) rfl⟩⟩⟩
theorem check_ser {e : Ev} {v : Int} (h : checkV e v = 0) : Tt.serV e.days = 0:=by
 unfold checkV at h;split at h
 ·cases h
 ·split at h
  ·contradiction
  ·rename_i h2
   simpa using h2
theorem rd_lists {v : Int} {es : List Ev} (h : rdOk v es = true) : ∀ e ∈ es,e.days.ex.length <= 1000000 /\ e.days.xt.length <= 1000000:=by
 intro e he;have hh:=((Tt.serV_zero _).1 (check_ser (evsV_each v es none ((rdOk_iff v es).1 h).2.2.2 e he).2)).1.n;omega
def Twin (e : Ev) (w : World) (x : Ending) (w' : World) : Prop:=∃ (q : Option Addr) (d : Nat) (q2 : Option Addr) (d2 : Nat),x = .returned (evVal e (.slice q e.days.ex.length d) (.slice q2 e.days.xt.length d2)) /\ RowI w.heap.size w' (.slice q e.days.ex.length d) e.days.ex /\ RowI w.heap.size w' (.slice q2 e.days.xt.length d2) e.days.xt /\ Below w.heap.size w w'
set_option maxHeartbeats 16000000 in
set_option maxRecDepth 100000 in
theorem twin80 (e : Ev) (p p2 : Option Addr) (c c2 : Nat) (w : World) (hI : Ints w.heap.size w p e.days.ex) (hI2 : Ints w.heap.size w p2 e.days.xt) (hn : e.days.ex.length <= 1000000) (hn2 : e.days.xt.length <= 1000000) :
  Calls Tryz.prog 80 #[evVal e (.slice p e.days.ex.length c) (.slice p2 e.days.xt.length c2)] w (Twin e w):=by
 have HB:=Lh ((Blk.new w (evCells e (.slice p e.days.ex.length c) (.slice p2 e.days.xt.length c2)) 82).alloc (.cells #[.string ⟨#[]⟩,.int .i64 0,.bool false,.int .i64 0,.int .i64 0,.int .i64 0,.int .i64 0,.slice none 0 0,.slice none 0 0,.int .i64 0,.int .i64 0,.string ⟨#[]⟩,.string ⟨#[]⟩] 82));have HR:=Lh (Blk.new (w.alloc (.cells (evCells e (.slice p e.days.ex.length c) (.slice p2 e.days.xt.length c2)) 82)) #[.string ⟨#[]⟩,.int .i64 0,.bool false,.int .i64 0,.int .i64 0,.int .i64 0,.int .i64 0,.slice none 0 0,.slice none 0 0,.int .i64 0,.int .i64 0,.string ⟨#[]⟩,.string ⟨#[]⟩] 82);have HR:=Lh (show Blk (w.heap.size + 1) #[.string ⟨#[]⟩,.int .i64 0,.bool false,.int .i64 0,.int .i64 0,.int .i64 0,.int .i64 0,.slice none 0 0,.slice none 0 0,.int .i64 0,.int .i64 0,.string ⟨#[]⟩,.string ⟨#[]⟩] 82 _ from by simpa using HR.out);have HL:=Lh ((below_box w (.cells (evCells e (.slice p e.days.ex.length c) (.slice p2 e.days.xt.length c2)) 82)).alloc (by simp) (.cells #[.string ⟨#[]⟩,.int .i64 0,.bool false,.int .i64 0,.int .i64 0,.int .i64 0,.int .i64 0,.slice none 0 0,.slice none 0 0,.int .i64 0,.int .i64 0,.string ⟨#[]⟩,.string ⟨#[]⟩] 82));have HI:=Lh ((hI.below HL.out).mono HL.out.size);have HI2:=Lh ((hI2.below HL.out).mono HL.out.size);have hsz0 : w.heap.size <= ((w.alloc (.cells (evCells e (.slice p e.days.ex.length c) (.slice p2 e.days.xt.length c2)) 82)).alloc (.cells #[.string ⟨#[]⟩,.int .i64 0,.bool false,.int .i64 0,.int .i64 0,.int .i64 0,.int .i64 0,.slice none 0 0,.slice none 0 0,.int .i64 0,.int .i64 0,.string ⟨#[]⟩,.string ⟨#[]⟩] 82)).heap.size:=by simp;omega
 obtain ⟨w0,hw0⟩ : ∃ w0,w0 = (w.alloc (.cells (evCells e (.slice p e.days.ex.length c) (.slice p2 e.days.xt.length c2)) 82)).alloc (.cells #[.string ⟨#[]⟩,.int .i64 0,.bool false,.int .i64 0,.int .i64 0,.int .i64 0,.int .i64 0,.slice none 0 0,.slice none 0 0,.int .i64 0,.int .i64 0,.string ⟨#[]⟩,.string ⟨#[]⟩] 82):=⟨_,rfl⟩
 rw [<- hw0] at HB HR HL HI HI2 hsz0;clear hI hI2;unfold evVal;unfold evCells at hw0 ⊢;have HW0:=Lh hw0;clear hw0;go_enter Tryz.func80,Tryz.ntmps80;go_upto_region 1 with (fail);rw [<- HW0.out];clear HW0;refine wp_region_tail 10 (by kernel_rfl) (fun listed a x => ∃ (l0 l1 l2 l3 l4 l5 l6 l7 l8 l9 : Bool) (t3 t4 t5 t6 t7 t8 t9 t10 t11 t12 : Value),listed = #[l0,l1,l2,l3,l4,l5,l6,l7,l8,l9,false,false,false,false] /\ a = ⟨(.agg #[.string e.uid,.int .i64 e.seq,.bool e.canc,.int .i64 e.days.first,.int .i64 e.days.last,.int .i64 e.days.every,.int .i64 e.days.wd,.slice p e.days.ex.length c,.slice p2 e.days.xt.length c2,.int .i64 e.start,.int .i64 e.mins,.string e.summ,.string e.loc] :: .pointer (some ⟨w.heap.size,0,none⟩) :: .pointer (some ⟨w.heap.size + 1,0,none⟩) :: t3 :: t4 :: t5 :: t6 :: t7 :: t8 :: t9 :: t10 :: t11 :: t12 :: undef :: undef :: undef :: []).toArray,[]⟩ /\ Hid (l0 = true -> t3 = .pointer (some ⟨w.heap.size,3,none⟩)) /\ Hid (l1 = true -> t4 = .pointer (some ⟨w.heap.size,7,none⟩)) /\ Hid (l2 = true -> t5 = .slice p e.days.ex.length c) /\ Hid (l3 = true -> ∃ (pq : Option Addr) (cq : Nat),t6 = .slice pq e.days.ex.length cq /\ RowI w0.heap.size x (.slice pq e.days.ex.length cq) e.days.ex) /\ Hid (l4 = true -> t7 = .pointer (some ⟨w.heap.size,3,none⟩)) /\ Hid (l5 = true -> t8 = .pointer (some ⟨w.heap.size,8,none⟩)) /\ Hid (l6 = true -> t9 = .slice p2 e.days.xt.length c2) /\ Hid (l7 = true -> ∃ (pq : Option Addr) (cq : Nat),t10 = .slice pq e.days.xt.length cq /\ RowI w0.heap.size x (.slice pq e.days.xt.length cq) e.days.xt) /\ Hid (l8 = true -> t11 = .pointer (some ⟨w.heap.size,3,none⟩)) /\ Hid (l9 = true -> t12 = .pointer (some ⟨w.heap.size,7,none⟩)) /\ Hid (Made w0 x)) (by decide) (by kernel_rfl) (by kernel_rfl) ?_ ?_ ?_ ?_
 ·exact ⟨false,false,false,false,false,false,false,false,false,false,_,_,_,_,_,_,_,_,_,_,rfl,rfl,Lh (fun h => by cases h),Lh (fun h => by cases h),Lh (fun h => by cases h),Lh (fun h => by cases h),Lh (fun h => by cases h),Lh (fun h => by cases h),Lh (fun h => by cases h),Lh (fun h => by cases h),Lh (fun h => by cases h),Lh (fun h => by cases h),Lh (Made.start w0)⟩
 ·intro listed a x hj;obtain ⟨l0,l1,l2,l3,l4,l5,hj⟩:=hj;obtain ⟨l6,l7,l8,l9,t3,t4,hj⟩:=hj;obtain ⟨t5,t6,t7,t8,t9,t10,hj⟩:=hj;obtain ⟨t11,t12,hj⟩:=hj;obtain ⟨h1, -⟩:=hj;subst h1;exact ⟨rfl,fun k h1 h2 => by (have h2 : k < 14:=h2);rcases (show k = 10 ∨ k = 11 ∨ k = 12 ∨ k = 13 by omega) with rfl | rfl | rfl | rfl <;> rfl⟩
 ·intro listed a x i hj hlt hu haf;obtain ⟨l0,l1,l2,l3,l4,l5,hj⟩:=hj;obtain ⟨l6,l7,l8,l9,t3,t4,hj⟩:=hj;obtain ⟨t5,t6,t7,t8,t9,t10,hj⟩:=hj;obtain ⟨t11,t12,hl_,ha_,H0,H1,hj⟩:=hj;obtain ⟨H2,H3,H4,H5,H6,H7,hj⟩:=hj;obtain ⟨H8,H9,hj⟩:=hj;have HS:=hj;clear hj;subst hl_;subst ha_;rcases (show ∀ i : Nat,i < 10 -> (i = 0 ∨ i = 1 ∨ i = 2 ∨ i = 3 ∨ i = 4 ∨ i = 5 ∨ i = 6 ∨ i = 7 ∨ i = 8 ∨ i = 9) by decide) i hlt with rfl | rfl | rfl | rfl | rfl | rfl | rfl | rfl | rfl | rfl
  ·have haf:=haf _ rfl;clear haf;have hu : l0 = false:=hu;refine wpOp_of_list_any rfl fun QQ hQ => ?_
   have hQQ:=Lh hQ;clear hQ;simp only [List.getElem_toArray,List.getElem_cons_zero];go_wp2_with fail;exact hQQ.out _ _ ⟨true,l1,l2,l3,l4,l5,l6,l7,l8,l9,_,_,_,_,_,_,_,_,_,_,rfl,rfl,Lh (fun _ => rfl),H1,H2,H3,H4,H5,H6,H7,H8,H9,HS⟩
  ·have haf:=haf _ rfl;have q0 : l0 = true:=haf ⟨0,Go.Ground.data⟩ (by simp) rfl;clear haf;have hu : l1 = false:=hu;have e0:=(H0.out q0)
   subst e0;clear H0;refine wpOp_of_list_any rfl fun QQ hQ => ?_
   have hQQ:=Lh hQ;clear hQ;simp only [List.getElem_toArray,List.getElem_cons_zero,List.getElem_cons_succ];go_wp2_with fail;exact hQQ.out _ _ ⟨l0,true,l2,l3,l4,l5,l6,l7,l8,l9,_,_,_,_,_,_,_,_,_,_,rfl,rfl,Lh (fun _ => rfl),Lh (fun _ => rfl),H2,H3,H4,H5,H6,H7,H8,H9,HS⟩
  ·have haf:=haf _ rfl;have q1 : l1 = true:=haf ⟨1,Go.Ground.data⟩ (by simp) rfl;clear haf;have hu : l2 = false:=hu;have e1:=(H1.out q1)
   subst e1;clear H1;have hc : x.cell? ⟨w.heap.size,7,none⟩ = some (.slice p e.days.ex.length c):=(HS.out.blk HB.out).cell 7;refine wpOp_of_list_any rfl fun QQ hQ => ?_
   have hQQ:=Lh hQ;clear hQ;simp only [List.getElem_toArray,List.getElem_cons_zero,List.getElem_cons_succ];go_wp2_with fail;exact hQQ.out _ _ ⟨l0,l1,true,l3,l4,l5,l6,l7,l8,l9,_,_,_,_,_,_,_,_,_,_,rfl,rfl,H0,Lh (fun _ => rfl),Lh (fun _ => rfl),H3,H4,H5,H6,H7,H8,H9,HS⟩
  ·have haf:=haf _ rfl;have q2 : l2 = true:=haf ⟨2,Go.Ground.data⟩ (by simp) rfl;clear haf;have hu : l3 = false:=hu;have e2:=(H2.out q2)
   subst e2;clear H2;refine wpOp_of_list_any rfl fun QQ hQ => ?_
   have hQQ:=Lh hQ;clear hQ;simp only [List.getElem_toArray,List.getElem_cons_zero,List.getElem_cons_succ];go_wp2_with fail;refine (clone146 x.heap.size _ _ _ x ((HI.out.below HS.out.below).mono HS.out.below.size) hn).mono ?_;rintro y x1 ⟨u,rfl,hX,hb1⟩;have hk:=Kept.made (B:=w0.heap.size) hb1;have HS1:=Lh (HS.out.then hb1);have hX : RowI w0.heap.size x1 u _:=ownsRow_mono hX HS.out.below.size;obtain ⟨pq,cq,hv⟩:=hX.slice;subst hv;have HX1:=Lh hX;clear hX hb1;go_wp2_with fail;exact hQQ.out _ _ ⟨l0,l1,l2,true,l4,l5,l6,l7,l8,l9,_,_,_,_,_,_,_,_,_,_,rfl,rfl,H0,H1,Lh (fun _ => rfl),Lh (fun _ => ⟨_,_,rfl,HX1.out⟩),H4,H5,H6,Lh (fun h => (by obtain ⟨pq,cq,e,c0⟩:=H7.out h;exact ⟨pq,cq,e,(row_kept c0 hk)⟩)),H8,H9,HS1⟩
  ·have haf:=haf _ rfl;clear haf;have hu : l4 = false:=hu;refine wpOp_of_list_any rfl fun QQ hQ => ?_
   have hQQ:=Lh hQ;clear hQ;simp only [List.getElem_toArray,List.getElem_cons_zero,List.getElem_cons_succ];go_wp2_with fail;exact hQQ.out _ _ ⟨l0,l1,l2,l3,true,l5,l6,l7,l8,l9,_,_,_,_,_,_,_,_,_,_,rfl,rfl,H0,H1,H2,H3,Lh (fun _ => rfl),H5,H6,H7,H8,H9,HS⟩
  ·have haf:=haf _ rfl;have q4 : l4 = true:=haf ⟨4,Go.Ground.data⟩ (by simp) rfl;clear haf;have hu : l5 = false:=hu;have e4:=(H4.out q4)
   subst e4;clear H4;refine wpOp_of_list_any rfl fun QQ hQ => ?_
   have hQQ:=Lh hQ;clear hQ;simp only [List.getElem_toArray,List.getElem_cons_zero,List.getElem_cons_succ];go_wp2_with fail;exact hQQ.out _ _ ⟨l0,l1,l2,l3,l4,true,l6,l7,l8,l9,_,_,_,_,_,_,_,_,_,_,rfl,rfl,H0,H1,H2,H3,Lh (fun _ => rfl),Lh (fun _ => rfl),H6,H7,H8,H9,HS⟩
  ·have haf:=haf _ rfl;have q5 : l5 = true:=haf ⟨5,Go.Ground.data⟩ (by simp) rfl;clear haf;have hu : l6 = false:=hu;have e5:=(H5.out q5)
   subst e5;clear H5;have hc : x.cell? ⟨w.heap.size,8,none⟩ = some (.slice p2 e.days.xt.length c2):=(HS.out.blk HB.out).cell 8;refine wpOp_of_list_any rfl fun QQ hQ => ?_
   have hQQ:=Lh hQ;clear hQ;simp only [List.getElem_toArray,List.getElem_cons_zero,List.getElem_cons_succ];go_wp2_with fail;exact hQQ.out _ _ ⟨l0,l1,l2,l3,l4,l5,true,l7,l8,l9,_,_,_,_,_,_,_,_,_,_,rfl,rfl,H0,H1,H2,H3,H4,Lh (fun _ => rfl),Lh (fun _ => rfl),H7,H8,H9,HS⟩
  ·have haf:=haf _ rfl;have q6 : l6 = true:=haf ⟨6,Go.Ground.data⟩ (by simp) rfl;clear haf;have hu : l7 = false:=hu;have e6:=(H6.out q6)
   subst e6;clear H6;refine wpOp_of_list_any rfl fun QQ hQ => ?_
   have hQQ:=Lh hQ;clear hQ;simp only [List.getElem_toArray,List.getElem_cons_zero,List.getElem_cons_succ];go_wp2_with fail;refine (clone146 x.heap.size _ _ _ x ((HI2.out.below HS.out.below).mono HS.out.below.size) hn2).mono ?_;rintro y x1 ⟨u,rfl,hX,hb1⟩;have hk:=Kept.made (B:=w0.heap.size) hb1;have HS1:=Lh (HS.out.then hb1);have hX : RowI w0.heap.size x1 u _:=ownsRow_mono hX HS.out.below.size;obtain ⟨pq,cq,hv⟩:=hX.slice;subst hv;have HX1:=Lh hX;clear hX hb1;go_wp2_with fail;exact hQQ.out _ _ ⟨l0,l1,l2,l3,l4,l5,l6,true,l8,l9,_,_,_,_,_,_,_,_,_,_,rfl,rfl,H0,H1,H2,Lh (fun h => (by obtain ⟨pq,cq,e,c0⟩:=H3.out h;exact ⟨pq,cq,e,(row_kept c0 hk)⟩)),H4,H5,Lh (fun _ => rfl),Lh (fun _ => ⟨_,_,rfl,HX1.out⟩),H8,H9,HS1⟩
  ·have haf:=haf _ rfl;clear haf;have hu : l8 = false:=hu;refine wpOp_of_list_any rfl fun QQ hQ => ?_
   have hQQ:=Lh hQ;clear hQ;simp only [List.getElem_toArray,List.getElem_cons_zero,List.getElem_cons_succ];go_wp2_with fail;exact hQQ.out _ _ ⟨l0,l1,l2,l3,l4,l5,l6,l7,true,l9,_,_,_,_,_,_,_,_,_,_,rfl,rfl,H0,H1,H2,H3,H4,H5,H6,H7,Lh (fun _ => rfl),H9,HS⟩
  ·have haf:=haf _ rfl;have q8 : l8 = true:=haf ⟨8,Go.Ground.data⟩ (by simp) rfl;clear haf;have hu : l9 = false:=hu;have e8:=(H8.out q8)
   subst e8;clear H8;refine wpOp_of_list_any rfl fun QQ hQ => ?_
   have hQQ:=Lh hQ;clear hQ;simp only [List.getElem_toArray,List.getElem_cons_zero,List.getElem_cons_succ];go_wp2_with fail;exact hQQ.out _ _ ⟨l0,l1,l2,l3,l4,l5,l6,l7,l8,true,_,_,_,_,_,_,_,_,_,_,rfl,rfl,H0,H1,H2,H3,H4,H5,H6,H7,Lh (fun _ => rfl),Lh (fun _ => rfl),HS⟩
 ·intro listed a x hj hall;obtain ⟨l0,l1,l2,l3,l4,l5,hj⟩:=hj;obtain ⟨l6,l7,l8,l9,t3,t4,hj⟩:=hj;obtain ⟨t5,t6,t7,t8,t9,t10,hj⟩:=hj;obtain ⟨t11,t12,hl_,ha_,H0,H1,hj⟩:=hj;obtain ⟨H2,H3,H4,H5,H6,H7,hj⟩:=hj;obtain ⟨H8,H9,hj⟩:=hj;have HS:=hj;clear hj;subst hl_;subst ha_;have q3 : l3 = true:=hall 3 (by omega);have q7 : l7 = true:=hall 7 (by omega);have q9 : l9 = true:=hall 9 (by omega);clear hall;obtain ⟨pq3,cq3,e3,c3_0⟩:=(H3.out q3)
  subst e3;obtain ⟨pq7,cq7,e7,c7_0⟩:=(H7.out q7)
  subst e7;have e9:=(H9.out q9)
  subst e9;have f7 : x.cell? ⟨w.heap.size,7,none⟩ = some (.slice p e.days.ex.length c):=(HS.out.blk HB.out).cell 7;have f8 : x.cell? ⟨w.heap.size,8,none⟩ = some (.slice p2 e.days.xt.length c2):=(HS.out.blk HB.out).cell 8;have z7:=(HS.out.blk HB.out).frozen 7;have z8:=(HS.out.blk HB.out).frozen 8;have B1:=(HS.out.blk HB.out).set 7 (.slice pq3 e.days.ex.length cq3);have HB2:=Lh (show Blk w.heap.size (evCells e (.slice pq3 e.days.ex.length cq3) (.slice pq7 e.days.xt.length cq7)) 82 _ from B1.set 8 (.slice pq7 e.days.xt.length cq7));have HR2:=Lh (((HS.out.blk HR.out).set_other (show w.heap.size + 1 ≠ w.heap.size by omega) 7 (.slice pq3 e.days.ex.length cq3)).set_other (show w.heap.size + 1 ≠ w.heap.size by omega) 8 (.slice pq7 e.days.xt.length cq7));have HX2:=Lh (show RowI w.heap.size _ (.slice pq3 e.days.ex.length cq3) e.days.ex from row_set (row_set (ownsRow_mono c3_0 (by omega)) (HS.out.blk HB.out) (by decide) 7 (.slice pq3 e.days.ex.length cq3)) B1 (by decide) 8 (.slice pq7 e.days.xt.length cq7));have HY2:=Lh (show RowI w.heap.size _ (.slice pq7 e.days.xt.length cq7) e.days.xt from row_set (row_set (ownsRow_mono c7_0 (by omega)) (HS.out.blk HB.out) (by decide) 7 (.slice pq3 e.days.ex.length cq3)) B1 (by decide) 8 (.slice pq7 e.days.xt.length cq7));have HL2:=Lh (((HL.out.trans (HS.out.below.mono hsz0)).setCell (show w.heap.size <= (⟨w.heap.size,7,none⟩ : Addr).block from Nat.le_refl _) (.slice pq3 e.days.ex.length cq3)).setCell (show w.heap.size <= (⟨w.heap.size,8,none⟩ : Addr).block from Nat.le_refl _) (.slice pq7 e.days.xt.length cq7));clear B1;refine tail_any (fun a x => ∃ (t3 t4 t5 t6 t7 t8 t9 t10 t11 t12 t13 t14 : Value),a = ⟨(.agg #[.string e.uid,.int .i64 e.seq,.bool e.canc,.int .i64 e.days.first,.int .i64 e.days.last,.int .i64 e.days.every,.int .i64 e.days.wd,.slice p e.days.ex.length c,.slice p2 e.days.xt.length c2,.int .i64 e.start,.int .i64 e.mins,.string e.summ,.string e.loc] :: .pointer (some ⟨w.heap.size,0,none⟩) :: .pointer (some ⟨w.heap.size + 1,0,none⟩) :: t3 :: t4 :: t5 :: t6 :: t7 :: t8 :: t9 :: t10 :: t11 :: t12 :: t13 :: t14 :: undef :: []).toArray,[]⟩ /\ ∃ (q q2 : Option Addr) (d d2 : Nat),Blk w.heap.size (evCells e (.slice q e.days.ex.length d) (.slice q2 e.days.xt.length d2)) 82 x /\ Blk (w.heap.size + 1) #[.string ⟨#[]⟩,.int .i64 0,.bool false,.int .i64 0,.int .i64 0,.int .i64 0,.int .i64 0,.slice none 0 0,.slice none 0 0,.int .i64 0,.int .i64 0,.string ⟨#[]⟩,.string ⟨#[]⟩] 82 x /\ RowI w.heap.size x (.slice q e.days.ex.length d) e.days.ex /\ RowI w.heap.size x (.slice q2 e.days.xt.length d2) e.days.xt /\ Below w.heap.size w x) ?_ fun QQ hQ => ?_
  ·intro a x hpost;obtain ⟨t3,t4,t5,t6,t7,t8,hpost⟩:=hpost;obtain ⟨t9,t10,t11,t12,t13,t14,hpost⟩:=hpost;obtain ⟨ha_,hpost⟩:=hpost;subst ha_;obtain ⟨q,q2,d,d2,b1,b2,b3,b4,b5⟩:=hpost;have y0 : x.cell? ⟨w.heap.size,0,none⟩ = some (.string e.uid):=b1.cell 0;have y1 : x.cell? ⟨w.heap.size,1,none⟩ = some (.int .i64 e.seq):=b1.cell 1;have y2 : x.cell? ⟨w.heap.size,2,none⟩ = some (.bool e.canc):=b1.cell 2;have y3 : x.cell? ⟨w.heap.size,3,none⟩ = some (.int .i64 e.days.first):=b1.cell 3;have y4 : x.cell? ⟨w.heap.size,4,none⟩ = some (.int .i64 e.days.last):=b1.cell 4;have y5 : x.cell? ⟨w.heap.size,5,none⟩ = some (.int .i64 e.days.every):=b1.cell 5;have y6 : x.cell? ⟨w.heap.size,6,none⟩ = some (.int .i64 e.days.wd):=b1.cell 6;have y7 : x.cell? ⟨w.heap.size,7,none⟩ = some (.slice q e.days.ex.length d):=b1.cell 7;have y8 : x.cell? ⟨w.heap.size,8,none⟩ = some (.slice q2 e.days.xt.length d2):=b1.cell 8;have y9 : x.cell? ⟨w.heap.size,9,none⟩ = some (.int .i64 e.start):=b1.cell 9;have y10 : x.cell? ⟨w.heap.size,10,none⟩ = some (.int .i64 e.mins):=b1.cell 10;have y11 : x.cell? ⟨w.heap.size,11,none⟩ = some (.string e.summ):=b1.cell 11;have y12 : x.cell? ⟨w.heap.size,12,none⟩ = some (.string e.loc):=b1.cell 12;have r0 : x.cell? ⟨w.heap.size + 1,0,none⟩ = some (.string ⟨#[]⟩):=b2.cell 0;have r1 : x.cell? ⟨w.heap.size + 1,1,none⟩ = some (.int .i64 0):=b2.cell 1;have r2 : x.cell? ⟨w.heap.size + 1,2,none⟩ = some (.bool false):=b2.cell 2;have r3 : x.cell? ⟨w.heap.size + 1,3,none⟩ = some (.int .i64 0):=b2.cell 3;have r4 : x.cell? ⟨w.heap.size + 1,4,none⟩ = some (.int .i64 0):=b2.cell 4;have r5 : x.cell? ⟨w.heap.size + 1,5,none⟩ = some (.int .i64 0):=b2.cell 5;have r6 : x.cell? ⟨w.heap.size + 1,6,none⟩ = some (.int .i64 0):=b2.cell 6;have r7 : x.cell? ⟨w.heap.size + 1,7,none⟩ = some (.slice none 0 0):=b2.cell 7;have r8 : x.cell? ⟨w.heap.size + 1,8,none⟩ = some (.slice none 0 0):=b2.cell 8;have r9 : x.cell? ⟨w.heap.size + 1,9,none⟩ = some (.int .i64 0):=b2.cell 9;have r10 : x.cell? ⟨w.heap.size + 1,10,none⟩ = some (.int .i64 0):=b2.cell 10;have r11 : x.cell? ⟨w.heap.size + 1,11,none⟩ = some (.string ⟨#[]⟩):=b2.cell 11;have r12 : x.cell? ⟨w.heap.size + 1,12,none⟩ = some (.string ⟨#[]⟩):=b2.cell 12;have z0:=b2.frozen 0;have z1:=b2.frozen 1;have z2:=b2.frozen 2;have z3:=b2.frozen 3;have z4:=b2.frozen 4;have z5:=b2.frozen 5;have z6:=b2.frozen 6;have z7:=b2.frozen 7;have z8:=b2.frozen 8;have z9:=b2.frozen 9;have z10:=b2.frozen 10;have z11:=b2.frozen 11;have z12:=b2.frozen 12;have h1:=Lh b1;have h2:=Lh b2;have h3:=Lh b3;have h4:=Lh b4;have h5:=Lh b5;clear b1 b2 b3 b4 b5;go_wp2_with fail;obtain ⟨W,hW,B9,fX,fK⟩:=fillEv h2.out e (.slice q e.days.ex.length d) (.slice q2 e.days.xt.length d2);rw [<- hW];have X9:=fX _ _ _ h3.out;have Y9:=fX _ _ _ h4.out;have L9:=fK w.heap.size w (by omega) h5.out;clear hW fX fK y0 r0 z0 y1 r1 z1 y2 r2 z2 y3 r3 z3 y4 r4 z4 y5 r5 z5 y6 r6 z6 y7 r7 z7 y8 r8 z8 y9 r9 z9 y10 r10 z10 y11 r11 z11 y12 r12 z12;have r0 : W.cell? ⟨w.heap.size + 1,0,none⟩ = some (.string e.uid):=B9.cell 0;have r1 : W.cell? ⟨w.heap.size + 1,1,none⟩ = some (.int .i64 e.seq):=B9.cell 1;have r2 : W.cell? ⟨w.heap.size + 1,2,none⟩ = some (.bool e.canc):=B9.cell 2;have r3 : W.cell? ⟨w.heap.size + 1,3,none⟩ = some (.int .i64 e.days.first):=B9.cell 3;have r4 : W.cell? ⟨w.heap.size + 1,4,none⟩ = some (.int .i64 e.days.last):=B9.cell 4;have r5 : W.cell? ⟨w.heap.size + 1,5,none⟩ = some (.int .i64 e.days.every):=B9.cell 5;have r6 : W.cell? ⟨w.heap.size + 1,6,none⟩ = some (.int .i64 e.days.wd):=B9.cell 6;have r7 : W.cell? ⟨w.heap.size + 1,7,none⟩ = some (.slice q e.days.ex.length d):=B9.cell 7;have r8 : W.cell? ⟨w.heap.size + 1,8,none⟩ = some (.slice q2 e.days.xt.length d2):=B9.cell 8;have r9 : W.cell? ⟨w.heap.size + 1,9,none⟩ = some (.int .i64 e.start):=B9.cell 9;have r10 : W.cell? ⟨w.heap.size + 1,10,none⟩ = some (.int .i64 e.mins):=B9.cell 10;have r11 : W.cell? ⟨w.heap.size + 1,11,none⟩ = some (.string e.summ):=B9.cell 11;have r12 : W.cell? ⟨w.heap.size + 1,12,none⟩ = some (.string e.loc):=B9.cell 12;refine bodyPost_ret (v:=evVal e (.slice q e.days.ex.length d) (.slice q2 e.days.xt.length d2)) (by simp [results,Tryz.results80,go_sem,r0,r1,r2,r3,r4,r5,r6,r7,r8,r9,r10,r11,r12,evVal,evCells]) rfl ?_;exact ⟨q,d,q2,d2,rfl,X9,Y9,L9⟩
  have hQQ:=Lh hQ;clear hQ;simp only [List.drop_succ_cons,List.drop_zero];go_wp2_with fail;exact hQQ.out _ _ ⟨_,_,_,_,_,_,_,_,_,_,_,_,rfl,_,_,_,_,HB2.out,HR2.out,HX2.out,HY2.out,HL2.out⟩
end Go.Proofs.YtageielcdebjlaaGreatDoor
