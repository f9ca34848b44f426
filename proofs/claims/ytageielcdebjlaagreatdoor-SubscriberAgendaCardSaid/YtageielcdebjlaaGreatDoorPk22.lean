/- subscriber.find with slices.BinarySearchFunc: its contract. Plain facts: a binary search over ascending identifiers finds what Find finds. No program in sight. Condition: none. Plain facts on merging: the place of a search is the place of Put; the fold over a feed's events; the merged list stays valid. No program in sight. Condition: none. Notices in a row of one's own; events that lie still or in a row of one's own; what a reference to an event finds. No function of the program in sight. Condition: none. -/
import Derived.Test.YtageielcdebjlaaGreatDoorPk9
import Derived.Test.YtageielcdebjlaaGreatDoorPk21
import Derived.Test.YtageielcdebjlaaGreatDoorRowT
namespace Go.Proofs.YtageielcdebjlaaGreatDoor
open Go.RowKit

/-- How an identifier compares with another. -/
def cmpU (a b : ByteArray) : Int := Lib.compareBytes a.data.toList b.data.toList

set_option maxHeartbeats 4000000 in
set_option maxRecDepth 100000 in
theorem cmp155 (e : Ev) (u : ByteArray) (p p2 : Option Addr) (n n2 c c2 : Nat) (w : World) :
    Calls Tryz.prog 155 #[evVal e (.slice p n c) (.slice p2 n2 c2), .string u] w fun x w' => x = .returned (.int .i64 (cmpU e.uid u)) ∧ Below w.heap.size w w' := by
  have HC : Hid (∀ W, Calls Tryz.prog 130 #[.string e.uid, .string u] W fun x w' => x = .returned (.int .i64 (cmpU e.uid u)) ∧ w' = W) := Lib.hid (fun W => Tryz.strings_Compare e.uid u W)
  unfold evVal evCells
  go_enter Tryz.func155, Tryz.ntmps155
  go_wp2_with fail
  refine (HC.out _).mono ?_
  rintro x w1 ⟨rfl, hw⟩; rw [hw]
  clear hw w1; go_wp2_with fail
  go_ret; exact ⟨rfl, below_box _ _⟩

/-- Is a given event ahead of the place sought? -/
def ahead (es : List Ev) (u : ByteArray) (k : Nat) : Prop := ∃ e, es[k]? = some e ∧ cmpU e.uid u < 0
/-- What a search leaves: the place, and whether the event stands there. -/
def Sought (es : List Ev) (u : ByteArray) (w : World) (x : Ending) (w' : World) : Prop := ∃ (i : Nat) (f : Bool), x = .returned (.tuple #[.int .i64 i, .bool f]) ∧ i ≤ es.length ∧ (∀ k, k < i → ahead es u k) ∧ (∀ k, i ≤ k → ¬ ahead es u k) ∧ (f = true ↔ ∃ e, es[i]? = some e ∧ cmpU e.uid u = 0) ∧ Below w.heap.size w w'

set_option maxHeartbeats 16000000 in
set_option maxRecDepth 100000 in
theorem search154 (es : List Ev) (u : ByteArray) (ao : Option Addr) (c : Nat) (w : World) (hE : Evs w.heap.size w ao es) (hn : es.length ≤ 1000000000) (hS : ∀ a b, a ≤ b → ahead es u b → ahead es u a) :
    Calls Tryz.prog 154 #[.slice ao es.length c, .string u, .func (.func 155) #[] #[]] w (Sought es u w) := by
  have HE := Lib.hid hE; have HS := Lib.hid hS; clear hE hS; obtain ⟨n, hne⟩ : ∃ n, n = es.length := ⟨_, rfl⟩
  rw [← hne] at hn ⊢
  have HN := Lib.hid hne; clear hne; have hni : (n : Int) ≤ 1000000000 := by omega
  go_enter Tryz.func154, Tryz.ntmps154
  go_wp2_with fail
  go_loopw [9, 10] (fun iv jv wr => ∃ i j : Nat, iv = .int .i64 i ∧ jv = .int .i64 j ∧ i ≤ j ∧ j ≤ n ∧ Hid (∀ k, k < i → ahead es u k) ∧ Hid (∀ k, j ≤ k → ¬ ahead es u k) ∧ Hid (Below w.heap.size w wr)) (fun iv jv _ => (intOf jv - intOf iv).toNat)
  case atStart => exact ⟨0, n, rfl, rfl, Nat.zero_le _, Nat.le_refl _, Lib.hid (fun k h => absurd h (Nat.not_lt_zero _)), Lib.hid (fun k h ⟨e, he, _⟩ => by have := (List.getElem?_eq_some_iff.1 he).1; rw [← HN.out] at this; omega), Lib.hid (Below.refl _ _)⟩
  case round =>
    obtain ⟨i, j, rfl, rfl, hij, hjn, HA, HZ, HL⟩ := hrel; by_cases hlt : i < j
    · have hlti : (i : Int) < j := by omega
      have hij2 : (i : Int) + j ≤ 2000000000 := by omega
      obtain ⟨h, hh⟩ : ∃ h : Nat, ((i : Int) + j) / 2 = h := ⟨(i + j) / 2, by omega⟩
      have hhi : i ≤ h := by omega
      have hhj : h < j := by omega
      have hhn : (h : Int) < n := by omega
      have hke : h < es.length := by rw [← HN.out]; omega
      obtain ⟨g, o, hao, hg, hc⟩ : ∃ g o, ao = some ⟨g, o, none⟩ ∧ g < w.heap.size ∧ ∀ (j : Nat) (e : Ev), es[j]? = some e → EvB e ∧ ∃ v v', EvC g (o + j * 13) e v v' w ∧ SlI w.heap.size w v e.days.ex ∧ SlI w.heap.size w v' e.days.xt := by
        rcases HE.out with h | h
        · exfalso; rw [h] at hke; simp at hke
        · exact h
      subst hao; obtain ⟨-, v, v', hv, ⟨px, kx, hx, -⟩, ⟨py, ky, hy, -⟩⟩ := hc h _ (List.getElem?_eq_getElem hke)
      obtain ⟨e, hee⟩ : ∃ e, e = es[h] := ⟨_, rfl⟩
      rw [← hee] at hv hx hy
      have HX := Lib.hid (show es[h]? = some e from by rw [List.getElem?_eq_getElem hke, hee])
      subst hx; subst hy; obtain ⟨c0, c1, c2, c3, c4, c5, c6, c7, c8, c9, c10, c11, c12⟩ := hv.below hg HL.out
      clear hc hv hee; go_wp2_with fail
      refine (cmp155 e u _ _ _ _ _ _ _).mono ?_
      rintro x w1 ⟨rfl, hb1⟩; have HL1 := Lib.hid (HL.out.trans (hb1.mono HL.out.size))
      clear hb1 c0 c1 c2 c3 c4 c5 c6 c7 c8 c9 c10 c11 c12 hh; by_cases hcmp : cmpU e.uid u < 0
      · have HA1 := Lib.hid (show ∀ k, k < h + 1 → ahead es u k from fun k hk => HS.out k h (by omega) ⟨e, HX.out, hcmp⟩)
        go_wp2_with fail
        go_roundw
        case rel => exact ⟨h + 1, j, by go_num, rfl, by omega, hjn, HA1, HZ, HL1⟩
        case measure => simp [intOf]; omega
      · have HZ1 := Lib.hid (show ∀ k, h ≤ k → ¬ ahead es u k from fun k hk ha => by
          obtain ⟨e2, he2, hlt2⟩ := HS.out h k hk ha
          rw [HX.out] at he2
          cases he2
          exact hcmp hlt2)
        go_wp2_with fail
        go_roundw
        case rel => exact ⟨i, h, rfl, rfl, by omega, by omega, HA, HZ1, HL1⟩
        case measure => simp [intOf]; omega
    · obtain rfl : i = j := by omega
      by_cases hin : i < n
      · have hini : (i : Int) < n := by omega
        have hke : i < es.length := by rw [← HN.out]; omega
        obtain ⟨g, o, hao, hg, hc⟩ : ∃ g o, ao = some ⟨g, o, none⟩ ∧ g < w.heap.size ∧ ∀ (j : Nat) (e : Ev), es[j]? = some e → EvB e ∧ ∃ v v', EvC g (o + j * 13) e v v' w ∧ SlI w.heap.size w v e.days.ex ∧ SlI w.heap.size w v' e.days.xt := by
          rcases HE.out with h | h
          · exfalso; rw [h] at hke; simp at hke
          · exact h
        subst hao; obtain ⟨-, v, v', hv, ⟨px, kx, hx, -⟩, ⟨py, ky, hy, -⟩⟩ := hc i _ (List.getElem?_eq_getElem hke)
        obtain ⟨e, hee⟩ : ∃ e, e = es[i] := ⟨_, rfl⟩
        rw [← hee] at hv hx hy
        have HX := Lib.hid (show es[i]? = some e from by rw [List.getElem?_eq_getElem hke, hee])
        subst hx; subst hy; obtain ⟨c0, c1, c2, c3, c4, c5, c6, c7, c8, c9, c10, c11, c12⟩ := hv.below hg HL.out
        clear hc hv hee; go_wp2_with fail
        refine (cmp155 e u _ _ _ _ _ _ _).mono ?_
        rintro x w1 ⟨rfl, hb1⟩; have HL1 := Lib.hid (HL.out.trans (hb1.mono HL.out.size))
        clear hb1 c0 c1 c2 c3 c4 c5 c6 c7 c8 c9 c10 c11 c12; have HF := Lib.hid (show ((cmpU e.uid u == 0) = true ↔ ∃ e2, es[i]? = some e2 ∧ cmpU e2.uid u = 0) from by
          rw [beq_iff_eq]
          exact ⟨fun h => ⟨e, HX.out, h⟩, fun ⟨e2, h2, h3⟩ => by rw [HX.out] at h2; cases h2; exact h3⟩)
        go_wp2_with fail
        go_ret2
        exact ⟨i, _, rfl, by rw [← HN.out]; exact hjn, HA.out, HZ.out, HF.out, HL1.out⟩
      · have hini : ¬ (i : Int) < n := by omega
        have HF := Lib.hid (show (false = true ↔ ∃ e2, es[i]? = some e2 ∧ cmpU e2.uid u = 0) from
          ⟨fun h => (by cases h), fun ⟨e2, h2, _⟩ => by have := (List.getElem?_eq_some_iff.1 h2).1; rw [← HN.out] at this; omega⟩)
        go_wp2_with fail
        go_ret2
        exact ⟨i, _, rfl, by rw [← HN.out]; exact hjn, HA.out, HZ.out, HF.out, HL.out⟩

set_option maxHeartbeats 4000000 in
set_option maxRecDepth 100000 in
theorem find81 (es : List Ev) (u : ByteArray) (ao : Option Addr) (c : Nat) (w : World) (hE : Evs w.heap.size w ao es) (hn : es.length ≤ 1000000000) (hS : ∀ a b, a ≤ b → ahead es u b → ahead es u a) :
    Calls Tryz.prog 81 #[.slice ao es.length c, .string u] w (Sought es u w) := by
  have HC := Lib.hid (search154 es u ao c w hE hn hS)
  clear hE hS; go_enter Tryz.func81, Tryz.ntmps81
  go_wp2_with fail
  refine HC.out.mono ?_
  rintro x w1 ⟨i, f, rfl, h1, h2, h3, h4, h5⟩; have H := Lib.hid (And.intro h1 (And.intro h2 (And.intro h3 (And.intro h4 h5))))
  clear h1 h2 h3 h4 h5; go_wp2_with fail
  go_ret2
  exact ⟨i, f, rfl, H.out.1, H.out.2.1, H.out.2.2.1, H.out.2.2.2.1, H.out.2.2.2.2⟩
end Go.Proofs.YtageielcdebjlaaGreatDoor
namespace Go.Proofs.YtageielcdebjlaaGreatDoor
open Go.RowKit

theorem findFrom_none (u : ByteArray) : ∀ (es : List Ev) (k : Int), (∀ e ∈ es, ¬ e.uid = u) → findFrom u es k = -1
  | [], _, _ => rfl
  | e :: r, k, h => by
    unfold findFrom
    rw [if_neg (h e (List.mem_cons_self ..))]
    exact findFrom_none u r (k + 1) (fun a ha => h a (List.mem_cons_of_mem _ ha))
theorem findFrom_at (u : ByteArray) : ∀ (es : List Ev) (k : Int) (i : Nat) (e : Ev), es[i]? = some e → e.uid = u → (∀ j a, j < i → es[j]? = some a → ¬ a.uid = u) → findFrom u es k = k + i
  | [], _, _, _, h, _, _ => by simp at h
  | s :: r, k, 0, e, h, he, _ => by
    simp at h; subst h
    unfold findFrom
    rw [if_pos he]; simp
  | s :: r, k, i + 1, e, h, he, hj => by
    unfold findFrom
    rw [if_neg (hj 0 s (by omega) (by simp)), findFrom_at u r (k + 1) i e (by simpa using h) he (fun j a hja ha => hj (j + 1) a (by omega) (by simpa using ha))]
    omega
theorem compare_less : ∀ x y : List UInt8, (Lib.compareBytes x y < 0 ↔ x < y) ∧ (Lib.compareBytes x y = 0 ↔ x = y)
  | [], [] => by simp [Lib.compareBytes]
  | [], _ :: _ => by simp [Lib.compareBytes]
  | _ :: _, [] => by simp [Lib.compareBytes]
  | a :: xs, b :: ys => by
    obtain ⟨h1, h2⟩ := compare_less xs ys
    unfold Lib.compareBytes
    by_cases k1 : a < b
    · rw [if_pos k1]
      have hne : ¬ a = b := fun e => by rw [e] at k1; exact absurd k1 (UInt8.lt_irrefl _)
      simp [List.cons_lt_cons_iff, k1, hne]
    · rw [if_neg k1]
      by_cases k2 : b < a
      · rw [if_pos k2]
        have hne : ¬ a = b := fun e => by rw [e] at k2; exact absurd k2 (UInt8.lt_irrefl _)
        simp [List.cons_lt_cons_iff, k1, hne]
      · rw [if_neg k2]
        have he : a = b := UInt8.le_antisymm (UInt8.not_lt.1 k2) (UInt8.not_lt.1 k1)
        subst he; simp [h1, h2]
theorem cmpU_less (a b : ByteArray) : cmpU a b < 0 ↔ lessU a b = true := by
  rw [lessU_iff, Lib.toList_data, Lib.toList_data]; exact (compare_less _ _).1
theorem cmpU_same (a b : ByteArray) : cmpU a b = 0 ↔ a = b := by
  unfold cmpU
  rw [(compare_less _ _).2]
  exact ⟨fun h => ByteArray.ext (Array.toList_inj.mp h), fun h => by rw [h]⟩
theorem ahead_mono {es : List Ev} (h : UpU es) (u : ByteArray) : ∀ a b, a ≤ b → ahead es u b → ahead es u a := by
  rintro a b hab ⟨e, he, hl⟩; have hb : b < es.length := (List.getElem?_eq_some_iff.1 he).1
  obtain ⟨s, hs⟩ : ∃ s, es[a]? = some s := ⟨_, List.getElem?_eq_getElem (by omega)⟩
  exact ⟨s, hs, (cmpU_less _ _).2 (h.first hab hs he ((cmpU_less _ _).1 hl))⟩
/-- The place that a search gives, where nothing stands there: Find finds nothing. -/
theorem sought_none {es : List Ev} {u : ByteArray} {i : Nat} (h : UpU es) (h1 : ∀ k, k < i → ahead es u k) (h2 : ∀ k, i ≤ k → ¬ ahead es u k) (hf : ¬ ∃ e, es[i]? = some e ∧ cmpU e.uid u = 0) : findFrom u es 0 = -1 := by
  refine findFrom_none u es 0 (fun e he hu => ?_)
  obtain ⟨j, hj⟩ := List.mem_iff_getElem?.1 he
  rcases Nat.lt_trichotomy j i with k | k | k
  · obtain ⟨s, hs, hl⟩ := h1 j k
    rw [hj] at hs; cases hs
    rw [hu, (cmpU_same u u).2 rfl] at hl
    exact absurd hl (by decide)
  · subst k; exact hf ⟨e, hj, (cmpU_same _ _).2 hu⟩
  · have hi : i < es.length := by have := (List.getElem?_eq_some_iff.1 hj).1; omega
    exact h2 i (Nat.le_refl _) ⟨es[i], List.getElem?_eq_getElem hi, (cmpU_less _ _).2 (by rw [← hu]; exact h i j _ _ k (List.getElem?_eq_getElem hi) hj)⟩
/-- The place that a search gives, where the event stands there: Find finds it. -/
theorem sought_some {es : List Ev} {u : ByteArray} {i : Nat} {e : Ev} (h1 : ∀ k, k < i → ahead es u k) (he : es[i]? = some e) (hc : cmpU e.uid u = 0) : findFrom u es 0 = i := by
  rw [findFrom_at u es 0 i e he ((cmpU_same _ _).1 hc) (fun j a hj ha hu => ?_)]
  · simp
  · obtain ⟨s, hs, hl⟩ := h1 j hj
    rw [ha] at hs; cases hs
    rw [hu, (cmpU_same u u).2 rfl] at hl
    exact absurd hl (by decide)
end Go.Proofs.YtageielcdebjlaaGreatDoor
namespace Go.Proofs.YtageielcdebjlaaGreatDoor
open Go.RowKit

/-- A notice, if there is one, behind the others. -/
def noteN (c : Int) (e : Ev) (ns : List Nt) : List Nt := if c = 0 then ns else ns ++ [⟨c, e.uid, e.seq⟩]
/-- One event of a feed merged. -/
def stepM (s : List Ev × List Nt) (e : Ev) : List Ev × List Nt :=
  if findFrom e.uid s.1 0 < 0 then (putE e s.1, noteN (toldV true e.canc) e s.2)
  else match s.1[(findFrom e.uid s.1 0).toNat]? with
    | none => s
    | some o => if o.seq < e.seq then (putE e s.1, noteN (toldV o.canc e.canc) e s.2) else s
/-- A feed's events merged into a reader's. -/
def mrg (es fs : List Ev) : List Ev × List Nt := fs.foldl stepM (es, [])
/-- What a reader knows behind a feed, what it is told, and the error. -/
def mergeV (rv tag : Int) (es : List Ev) (n : ByteArray) (v : Int) (fs : List Ev) : Int × Int × List Ev × List Nt × Int :=
  if rdOk rv es = false then (0, 0, [], [], 1)
  else if feedV n v fs ≠ 0 then (0, 0, [], [], feedV n v fs)
  else if v ≤ rv then (rv, tag, es, [], 0)
  else if 256 < ((mrg es fs).1.length : Int) then (0, 0, [], [], 2)
  else (v, tag, (mrg es fs).1, (mrg es fs).2, 0)

theorem mrg_take (es fs : List Ev) (k : Nat) (e : Ev) (h : fs[k]? = some e) : mrg es (fs.take (k + 1)) = stepM (mrg es (fs.take k)) e := by
  obtain ⟨h1, h2⟩ := List.getElem?_eq_some_iff.1 h
  unfold mrg
  rw [List.take_succ_eq_append_getElem h1, List.foldl_append, h2]
  rfl
theorem mrg_all (es fs : List Ev) : mrg es (fs.take fs.length) = mrg es fs := by rw [List.take_length]

theorem ahead_T {ts : List (Ev × Value × Value)} {t : Ev × Value × Value} {i : Nat} (h1 : ∀ k, k < i → ahead (ts.map (·.1)) t.1.uid k) : AheadT t ts i := by
  intro j s hj hs; obtain ⟨e, he, hl⟩ := h1 j hj
  rw [List.getElem?_map, hs] at he
  cases he
  exact (cmpU_less _ _).1 hl
/-- Where the search finds nothing: Put lays the event in there. -/
theorem place_none {ts : List (Ev × Value × Value)} {t : Ev × Value × Value} {i : Nat} (hi : i ≤ ts.length) (h1 : ∀ k, k < i → ahead (ts.map (·.1)) t.1.uid k) (h2 : ∀ k, i ≤ k → ¬ ahead (ts.map (·.1)) t.1.uid k)
    (hf : ¬ ∃ e, (ts.map (·.1))[i]? = some e ∧ cmpU e.uid t.1.uid = 0) : putT t ts = ts.take i ++ t :: ts.drop i := by
  rcases Nat.lt_or_eq_of_le hi with k | k
  · have hs : ts[i]? = some ts[i] := List.getElem?_eq_getElem k
    have hm : (ts.map (·.1))[i]? = some ts[i].1 := by rw [List.getElem?_map, hs]; rfl
    refine putT_new t ts i _ (ahead_T h1) hs ?_ (fun he => hf ⟨_, hm, (cmpU_same _ _).2 he⟩)
    rw [← Bool.not_eq_true]; exact fun hl => h2 i (Nat.le_refl _) ⟨_, hm, (cmpU_less _ _).2 hl⟩
  · subst k; rw [putT_end t ts (ahead_T h1), List.take_length, List.drop_length]
/-- Where the search finds the event: Put takes its place. -/
theorem place_some {ts : List (Ev × Value × Value)} {t s : Ev × Value × Value} {i : Nat} (h1 : ∀ k, k < i → ahead (ts.map (·.1)) t.1.uid k) (hs : ts[i]? = some s) (hc : cmpU s.1.uid t.1.uid = 0) : putT t ts = ts.set i t := by
  have he := (cmpU_same _ _).1 hc
  rw [putT_same t ts i s (ahead_T h1) hs (by rw [he]; exact lessU_irrefl _) he]
  exact (List.set_eq_take_append_cons_drop ..).symm ▸ (by rw [if_pos (List.getElem?_eq_some_iff.1 hs).1])

theorem stepM_none {out : List Ev} {ns : List Nt} {e : Ev} (h : findFrom e.uid out 0 = -1) : stepM (out, ns) e = (putE e out, noteN (toldV true e.canc) e ns) := by
  unfold stepM
  rw [if_pos (by show findFrom e.uid out 0 < 0; rw [h]; decide)]
theorem stepM_some {out : List Ev} {ns : List Nt} {e o : Ev} {i : Nat} (h : findFrom e.uid out 0 = i) (ho : out[i]? = some o) : stepM (out, ns) e = if o.seq < e.seq then (putE e out, noteN (toldV o.canc e.canc) e ns) else (out, ns) := by
  unfold stepM
  rw [if_neg (by show ¬ findFrom e.uid out 0 < 0; rw [h]; omega)]
  show (match out[(findFrom e.uid out 0).toNat]? with | none => (out, ns) | some o => if o.seq < e.seq then (putE e out, noteN (toldV o.canc e.canc) e ns) else (out, ns)) = _
  rw [h, Int.toNat_natCast, ho]

theorem evsV_each (v : Int) : ∀ (es : List Ev) (p : Option ByteArray), evsV v p es = 0 → ∀ e ∈ es, rightB e.uid.data.toList = true ∧ checkV e v = 0
  | [], _, _, _, he => by cases he
  | s :: r, p, h, e, he => by
    obtain ⟨h1, h2, h3, h4⟩ := (evsV_cons v p s r).1 h
    rcases List.mem_cons.1 he with rfl | he
    · exact ⟨h1, h3⟩
    · exact evsV_each v r _ h4 e he
theorem stepM_valid {v : Int} {s : List Ev × List Nt} {e : Ev} (hr : rightB e.uid.data.toList = true) (hc : checkV e v = 0) (h : evsV v none s.1 = 0) : evsV v none (stepM s e).1 = 0 := by
  unfold stepM
  split
  · exact evsV_put v e hr hc s.1 none rfl h
  · split
    · exact h
    · split
      · exact evsV_put v e hr hc s.1 none rfl h
      · exact h
theorem mrg_valid {v : Int} : ∀ (fs : List Ev) (s : List Ev × List Nt), (∀ e ∈ fs, rightB e.uid.data.toList = true ∧ checkV e v = 0) → evsV v none s.1 = 0 → evsV v none (fs.foldl stepM s).1 = 0
  | [], _, _, h => h
  | e :: r, s, hf, h => by
    rw [List.foldl_cons]
    exact mrg_valid r _ (fun a ha => hf a (List.mem_cons_of_mem _ ha)) (stepM_valid (hf e (List.mem_cons_self ..)).1 (hf e (List.mem_cons_self ..)).2 h)
theorem mrg_ok {rv v : Int} {es fs : List Ev} (hv : rv ≤ v) (he : evsV rv none es = 0) (hf : evsV v none fs = 0) (k : Nat) : evsV v none (mrg es (fs.take k)).1 = 0 :=
  mrg_valid (fs.take k) (es, []) (fun e h => evsV_each v fs none hf e (List.mem_of_mem_take h)) (evsV_mono hv es none he)
theorem putE_len (e : Ev) : ∀ es : List Ev, (putE e es).length ≤ es.length + 1
  | [] => Nat.le_refl _
  | s :: r => by
    unfold putE
    split
    · simpa using putE_len e r
    · split <;> simp
theorem stepM_len (s : List Ev × List Nt) (e : Ev) : (stepM s e).1.length ≤ s.1.length + 1 ∧ (stepM s e).2.length ≤ s.2.length + 1 := by
  have hn : ∀ c, (noteN c e s.2).length ≤ s.2.length + 1 := fun c => by unfold noteN; split <;> simp
  unfold stepM
  split
  · exact ⟨putE_len e s.1, hn _⟩
  · split
    · omega
    · split
      · exact ⟨putE_len e s.1, hn _⟩
      · omega
theorem mrg_len (es fs : List Ev) : ∀ k, k ≤ fs.length → (mrg es (fs.take k)).1.length ≤ es.length + k ∧ (mrg es (fs.take k)).2.length ≤ k
  | 0, _ => by show es.length ≤ es.length + 0 ∧ 0 ≤ 0; omega
  | k + 1, h => by
    have ih := mrg_len es fs k (by omega)
    rw [mrg_take es fs k _ (List.getElem?_eq_getElem (show k < fs.length by omega))]
    have := stepM_len (mrg es (fs.take k)) fs[k]
    omega
/-- The reader behind a feed is valid. -/
theorem rdOk_iff (v : Int) (es : List Ev) : rdOk v es = true ↔ 0 ≤ v ∧ v ≤ 64 ∧ es.length ≤ 256 ∧ evsV v none es = 0 := by
  unfold rdOk
  simp only [Bool.and_eq_true, Bool.not_eq_true', decide_eq_false_iff_not, decide_eq_true_eq]
  omega
theorem feedV_ok {n : ByteArray} {v : Int} {es : List Ev} (h : feedV n v es = 0) : 0 ≤ v ∧ v ≤ 64 ∧ es.length ≤ 256 ∧ evsV v none es = 0 := by
  unfold feedV at h
  split at h
  · cases h
  · split at h
    · cases h
    · split at h
      · cases h
      · exact ⟨by omega, by omega, by omega, h⟩
end Go.Proofs.YtageielcdebjlaaGreatDoor
namespace Go.Proofs.YtageielcdebjlaaGreatDoor
open Go.RowKit

theorem infoNt : (Tryz.prog.info? 99).map (fun i => (i.zero, i.size, i.bytes)) = some (some (.agg #[.int .i64 0, .string ⟨#[]⟩, .int .i64 0]), 3, 32) := by kernel_rfl
/-- The cells of some notices. -/
def nCells (ns : List Nt) : List Value := ns.flatMap fun n => [.int .i64 n.kind, .string n.uid, .int .i64 n.seq]
theorem nCells_snoc (ns : List Nt) (n : Nt) : nCells (ns ++ [n]) = nCells ns ++ [.int .i64 n.kind, .string n.uid, .int .i64 n.seq] := by
  unfold nCells; simp
/-- Notices in a row of one's own. -/
def RowN (lo : Nat) (w : World) (v : Value) (ns : List Nt) : Prop := w.ownsRow lo 99 3 v ns.length (nCells ns)
theorem RowN.nil (lo : Nat) (w : World) : RowN lo w (.slice none 0 0) [] := World.ownsRow_nil _ _ _ _
theorem RowN.snoc {lo : Nat} {w : World} {v : Value} {ns : List Nt} {n : Nt} (h : w.ownsRow lo 99 3 v (ns.length + 1) (nCells ns ++ [.int .i64 n.kind, .string n.uid, .int .i64 n.seq])) : RowN lo w v (ns ++ [n]) := by
  unfold RowN
  rw [nCells_snoc, List.length_append]
  exact h
/-- Events that lie still below N, or in a row of one's own from N on; what they refer to lies below N. -/
structure Lies (N : Nat) (w0 w : World) (ao : Option Addr) (c : Nat) (ts : List (Ev × Value × Value)) : Prop where
  nil : ao = none → c = 0
  cap : ts.length ≤ c
  ref : ∀ t ∈ ts, RefS N w0 t
  at' : Seg N w0 ao ts ∨ w.ownsRow N 82 13 (.slice ao ts.length c) ts.length (tCells ts)
theorem Lies.row {N : Nat} {w0 w w' : World} {ao : Option Addr} {c : Nat} {ts : List (Ev × Value × Value)} (h : Lies N w0 w ao c ts) (f : w.ownsRow N 82 13 (.slice ao ts.length c) ts.length (tCells ts) → w'.ownsRow N 82 13 (.slice ao ts.length c) ts.length (tCells ts)) : Lies N w0 w' ao c ts :=
  ⟨h.nil, h.cap, h.ref, h.at'.imp id f⟩
theorem Lies.made {N : Nat} {w0 w w' : World} {ao : Option Addr} {c : Nat} {ts : List (Ev × Value × Value)} (h : Lies N w0 w ao c ts) (hb : Below w.heap.size w w') : Lies N w0 w' ao c ts := h.row (fun k => row_made k hb)
theorem Lies.set {N : Nat} {w0 w : World} {ao : Option Addr} {c : Nat} {ts : List (Ev × Value × Value)} (h : Lies N w0 w ao c ts) {g : Nat} {cs : Array Value} {ty : TypeId} (hg : Blk g cs ty w) (hte : ty ≠ 82) (i : Nat) (u : Value) : Lies N w0 (w.setCell ⟨g, i, none⟩ u) ao c ts := h.row (fun k => row_set k hg hte i u)
theorem Lies.seg {N : Nat} {w0 w : World} {ao : Option Addr} {c : Nat} {ts : List (Ev × Value × Value)} (h : Lies N w0 w ao c ts) (hb : Below N w0 w) (hN : N ≤ w.heap.size) : Seg w.heap.size w ao ts := by
  have hr : ∀ t ∈ ts, RefS w.heap.size w t := fun t ht => ((h.ref t ht).below hb).mono hN
  rcases h.at' with k | k
  · exact (k.below hb).mono hN
  · refine ⟨?_, hr⟩
    rcases k.2 with ⟨hv, h0⟩ | ⟨g, cap, cur, hv, r2, r3, r4, r5, _⟩
    · exact .inl (List.eq_nil_of_length_eq_zero h0)
    · refine .inr ⟨g, 0, ?_, (Array.getElem?_eq_some_iff.1 r3).1, fun j u hj => ?_⟩
      · simp only [Value.slice.injEq] at hv
        exact hv.1
      · have := k.cells (g := g) (by rw [hv]; rfl) j u hj
        rw [Addr.add_lit] at this
        exact this
theorem Lies.own {N : Nat} {w0 w : World} {u : Value} {ts : List (Ev × Value × Value)} (h : w.ownsRow N 82 13 u ts.length (tCells ts)) (hr : ∀ t ∈ ts, RefS N w0 t) : ∃ ao c, u = .slice ao ts.length c ∧ Lies N w0 w ao c ts := by
  rcases h.2 with ⟨hv, h0⟩ | ⟨g, cap, cur, hv, r2, r3, r4, r5, r6⟩
  · exact ⟨none, 0, by rw [hv, h0], fun _ => rfl, by omega, hr, .inr (by rw [h0] at h ⊢; rw [hv] at h; exact h)⟩
  · exact ⟨_, cap, hv, fun e => (by cases e), r4, hr, .inr (by rw [← hv]; exact h)⟩
end Go.Proofs.YtageielcdebjlaaGreatDoor
