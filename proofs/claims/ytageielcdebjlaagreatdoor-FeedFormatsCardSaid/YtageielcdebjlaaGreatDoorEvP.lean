/- The parser's event (function 108) on the lines of an event. -/
import Derived.Test.YtageielcdebjlaaGreatDoorPk23
namespace Go.Proofs.YtageielcdebjlaaGreatDoor
open Go.RowKit

theorem str_data (s : ByteArray) : str s.data.toList = s := Lib.mk_data s
theorem EvSt.row {b g G R B k n : Nat} {xs : List ByteArray} {z : ByteArray} {cs rs : Array Value} {w0 w : World} {v : Value} {ys : List Value} (h : EvSt b g G R xs z cs rs w0 w) (hr : w.ownsRow B 3 k v n ys) (i : Nat) (u : Value) : (w.setCell ⟨G, i, none⟩ u).ownsRow B 3 k v n ys := row_set hr h.ev (by decide) i u
theorem EvSt.start {b g o cap : Nat} {xs : List ByteArray} {z : ByteArray} {w : World} {cs rs : Array Value} (h : Par b g o cap xs z false w) (hg : g < w.heap.size) : EvSt b g (w.heap.size + 1) w.heap.size xs z cs rs w ((w.alloc (.cells rs 82)).alloc (.cells cs 82)) := by
  have h1 : Below w.heap.size w ((w.alloc (.cells rs 82)).alloc (.cells cs 82)) := (below_box w _).trans ((below_box _ _).mono (by simp))
  exact ⟨⟨o, cap, h.below h1 hg⟩, Blk.new' _ _ 82 (by simp), (Blk.new w _ 82).alloc _, But.of_below h1⟩
theorem trim_M (l : List UInt8) : Lib.trimSuffix (l ++ [77]) [77] = l := by
  unfold Lib.trimSuffix Lib.hasSuffix
  simp [List.take_left']
theorem zone_cell {b g o cap : Nat} {xs : List ByteArray} {z : ByteArray} {bad : Bool} {w : World} (h : Par b g o cap xs z bad w) : w.cell? ⟨b, 1, none⟩ = some (.string z) := by rw [Lib.cell_of_heap h.hb]; rfl
theorem EvSt.zone {b g G R : Nat} {xs : List ByteArray} {z : ByteArray} {cs rs : Array Value} {w0 w : World} (h : EvSt b g G R xs z cs rs w0 w) : w.cell? ⟨b, 1, none⟩ = some (.string z) := by
  obtain ⟨o, cap, hp⟩ := h.par; exact zone_cell hp
theorem EvSt.bad {b g G R : Nat} {xs : List ByteArray} {z : ByteArray} {cs rs : Array Value} {w0 w : World} (h : EvSt b g G R xs z cs rs w0 w) : w.cell? ⟨b, 2, none⟩ = some (.bool false) := by
  obtain ⟨o, cap, hp⟩ := h.par; exact hp.c2
theorem EvSt.fz {b g G R : Nat} {xs : List ByteArray} {z : ByteArray} {cs rs : Array Value} {w0 w : World} (h : EvSt b g G R xs z cs rs w0 w) (i : Nat) : w.frozen? ⟨b, i, none⟩ = false := by
  obtain ⟨o, cap, hp⟩ := h.par; exact hp.f0 i
theorem EvSt.good {b g G R : Nat} {xs : List ByteArray} {z : ByteArray} {cs rs : Array Value} {w0 w : World} (h : EvSt b g G R xs z cs rs w0 w) (hG : G ≠ b) (hR : R ≠ b) : EvSt b g G R xs z cs rs w0 (w.setCell ⟨b, 2, none⟩ (.bool false)) := by
  obtain ⟨o, cap, hp⟩ := h.par
  exact h.only hG hR ⟨o, cap, hp.set2 false⟩ (only_set w b 2 _)
theorem EvSt.below {b g G R : Nat} {xs : List ByteArray} {z : ByteArray} {cs rs : Array Value} {w0 w w' : World} (h : EvSt b g G R xs z cs rs w0 w) (hg : g < w0.heap.size) (hb : Below w.heap.size w w') : EvSt b g G R xs z cs rs w0 w' := by
  obtain ⟨o, cap, hp⟩ := h.par
  exact ⟨⟨o, cap, hp.below hb (Nat.lt_of_lt_of_le hg h.but.size)⟩, h.ev.below hb h.ev.lt, h.res.below hb h.res.lt, h.but.trans (But.of_below (hb.mono h.but.size))⟩
theorem Par.setAll {b g o cap : Nat} {xs : List ByteArray} {z : ByteArray} {bad : Bool} {G : Nat} (hb : G ≠ b) (hg : G ≠ g) : ∀ (us : List Value) (i : Nat) (w : World), Par b g o cap xs z bad w → Par b g o cap xs z bad (setAll w G i us)
  | [], _, _, h => h
  | u :: r, i, _, h => Par.setAll hb hg r (i + 1) _ (h.set hb hg i u)
theorem EvSt.done {b g G R : Nat} {xs : List ByteArray} {z : ByteArray} {ds ks : List Value} {cs : Array Value} {w0 w : World} (h : EvSt b g G R xs z cs ds.toArray w0 w) (hl : ds.length = ks.length) (hR : R ≠ b) (hg : R ≠ g) (h0 : w0.heap.size ≤ R) :
    Blk R ks.toArray 82 (setAll w R 0 ks) ∧ (∃ o cap, Par b g o cap xs z false (setAll w R 0 ks)) ∧ But b w0.heap.size w0 (setAll w R 0 ks) ∧ ∀ (B k n : Nat) (v : Value) (ys : List Value), w.ownsRow B 3 k v n ys → (setAll w R 0 ks).ownsRow B 3 k v n ys := by
  obtain ⟨o, cap, hp⟩ := h.par
  refine ⟨?_, ⟨o, cap, hp.setAll hR hg ks 0 w⟩, but_setAll h0 ks 0 w h.but, fun B k n v ys hr => row_setAll (by decide) ks 0 w _ hr h.res⟩
  have h1 := Blk.puts (g := R) (ty := 82) ks [] ds [] w (by simpa using h.res) hl
  simpa using h1
theorem prefix_ne {a c : UInt8} (l k : List UInt8) (h : a ≠ c) : Lib.hasPrefix (a :: l) (c :: k) = false := by
  unfold Lib.hasPrefix
  simp only [List.isPrefixOf, Bool.and_eq_false_imp, beq_iff_eq]
  exact fun hc => absurd hc.symm h
theorem RowI.first {lo : Nat} {w : World} {v : Value} {x : Int} (h : RowI lo w v [x]) : ∃ g c, v = .slice (some ⟨g, 0, none⟩) 1 c ∧ w.cell? ⟨g, 0, none⟩ = some (.int .i64 x) := by
  obtain ⟨ao, c, rfl, hi⟩ := h.ints
  rcases h.2 with ⟨hv, h0⟩ | ⟨g, _, _, hv, _⟩
  · cases h0
  · obtain ⟨a, ha, _, hc⟩ := hi 0 x rfl
    cases hv
    cases ha
    exact ⟨g, c, rfl, hc⟩
/-- The rest of the lines begins with this sign. -/
def HeadIs (p : UInt8 → Prop) (ls : List ByteArray) : Prop := ∃ (c : UInt8) (l : List UInt8) (r : List ByteArray), ls = str (c :: l) :: r ∧ p c
theorem see_else {b g G R : Nat} {ls : List ByteArray} {z K : ByteArray} {cs rs : Array Value} {w0 w : World} {c : UInt8} {k : List UInt8} {p : UInt8 → Prop} (h : EvSt b g G R ls z cs rs w0 w) (hh : HeadIs p ls) (hp : ∀ a, p a → a ≠ c) (hK : K.data.toList = c :: k) :
    Calls Tryz.prog 107 #[.pointer (some ⟨b, 0, none⟩), .string K] w fun e w' => ∃ q, e = .returned (.tuple #[.string q, .bool false]) ∧ w' = w := by
  obtain ⟨a, l, r, rfl, ha⟩ := hh; exact see_other h (by rw [hK]; exact prefix_ne l k (hp a ha))

set_option maxRecDepth 100000 in
set_option maxHeartbeats 16000000 in
theorem event108 (b g o cap : Nat) (rest : List ByteArray) (e : Ev) (ver m : Int) (z : ByteArray) (w : World) (hpar : Par b g o cap ((evLines e z.data.toList).map str ++ rest) z false w) (hg : g < w.heap.size) (hb3 : 3 < b) (hL : Lens w) (hm : w.cell? ⟨0, 0, none⟩ = some (.int .i64 m))
    (hck : checkV e ver = 0) (hver : ver ≤ 64) (hz : z.size ≤ 1000) :
    Calls Tryz.prog 108 #[.pointer (some ⟨b, 0, none⟩)] w fun x w' => ∃ v v', x = .returned (evVal e v v') ∧ RowI w.heap.size w' v e.days.ex ∧ RowI w.heap.size w' v' e.days.xt ∧ (∃ o cap, Par b g o cap rest z false w') ∧ But b w.heap.size w w' := by
  obtain ⟨q0, q1, hsv, -, st0, st1, mi0, mi1, -, hls, hll⟩ := check_all hck
  have hss := lab_size hls; have hsl := lab_size hll; have HH := Lib.hid ((Tt.serV_zero e.days).1 hsv).1
  have hf0 := HH.out.f0; have hf1 := HH.out.f1; have hxn : e.days.ex.length ≤ 140 ∧ e.days.xt.length ≤ 140 := by have := HH.out.n; omega
  have HDD := Lib.hid (head_days hsv)
  have HL := Lib.hid hL; have HM := Lib.hid hm; have hbw : b < w.heap.size := hpar.lt
  obtain ⟨G, hG⟩ : ∃ G, G = w.heap.size + 1 := ⟨_, rfl⟩
  obtain ⟨R, hR⟩ : ∃ R, R = w.heap.size := ⟨_, rfl⟩
  have HGb := Lib.hid (show G ≠ b by omega)
  have HRb := Lib.hid (show R ≠ b by omega)
  have HGg := Lib.hid (show G ≠ g by omega)
  have HRg := Lib.hid (show R ≠ g by omega)
  have HRG := Lib.hid (show R ≠ G by omega)
  have HG0 := Lib.hid (show w.heap.size ≤ G by omega)
  have HR0 := Lib.hid (show w.heap.size ≤ R by omega)
  have Hgw := Lib.hid hg; have Hbw := Lib.hid hbw; have Hb3 := Lib.hid hb3; have HS0 := Lib.hid (EvSt.start (cs := #[.string ⟨#[]⟩, .int .i64 0, .bool false, .int .i64 0, .int .i64 0, .int .i64 0, .int .i64 0, .slice none 0 0, .slice none 0 0, .int .i64 0, .int .i64 0, .string ⟨#[]⟩, .string ⟨#[]⟩]) (rs := #[.string ⟨#[]⟩, .int .i64 0, .bool false, .int .i64 0, .int .i64 0, .int .i64 0, .int .i64 0, .slice none 0 0, .slice none 0 0, .int .i64 0, .int .i64 0, .string ⟨#[]⟩, .string ⟨#[]⟩]) hpar hg)
  rw [← hG, ← hR] at HS0
  obtain ⟨w0, hw0⟩ : ∃ w0, w0 = ((w.alloc (.cells #[.string ⟨#[]⟩, .int .i64 0, .bool false, .int .i64 0, .int .i64 0, .int .i64 0, .int .i64 0, .slice none 0 0, .slice none 0 0, .int .i64 0, .int .i64 0, .string ⟨#[]⟩, .string ⟨#[]⟩] 82)).alloc (.cells #[.string ⟨#[]⟩, .int .i64 0, .bool false, .int .i64 0, .int .i64 0, .int .i64 0, .int .i64 0, .slice none 0 0, .slice none 0 0, .int .i64 0, .int .i64 0, .string ⟨#[]⟩, .string ⟨#[]⟩] 82)) := ⟨_, rfl⟩
  rw [← hw0] at HS0
  obtain ⟨A, hA⟩ : ∃ A : ByteArray, A = ⟨#[59, 84, 90, 73, 68, 61]⟩ ++ z ++ ⟨#[58]⟩ := ⟨_, rfl⟩
  have HA := Lib.hid (show A.data.toList = [59, 84, 90, 73, 68, 61] ++ z.data.toList ++ [58] from by rw [hA]; simp [ByteArray.data_append, Array.toList_append])
  have hAs : A.size ≤ 1007 := by rw [hA, ByteArray.size_append, ByteArray.size_append]; have : (⟨#[59, 84, 90, 73, 68, 61]⟩ : ByteArray).size = 6 := rfl; have : (⟨#[58]⟩ : ByteArray).size = 1 := rfl; omega
  obtain ⟨r10, h10⟩ : ∃ q, q = (evC e).map str ++ rest := ⟨_, rfl⟩
  obtain ⟨r9, h9⟩ : ∃ q, q = (evL e).map str ++ r10 := ⟨_, rfl⟩
  obtain ⟨r8, h8⟩ : ∃ q, q = (evS e).map str ++ r9 := ⟨_, rfl⟩
  obtain ⟨r7, h7⟩ : ∃ q, q = (evR e z.data.toList).map str ++ r8 := ⟨_, rfl⟩
  obtain ⟨r6, h6⟩ : ∃ q, q = (evX e z.data.toList).map str ++ r7 := ⟨_, rfl⟩
  have hall : (evLines e z.data.toList).map str ++ rest = (evA e z.data.toList).map str ++ r6 := by
    rw [h6, h7, h8, h9, h10]; unfold evLines; simp only [List.map_append, List.append_assoc]
  rw [hall] at HS0
  have HL10 := Lib.hid h10; have HL9 := Lib.hid h9; have HL8 := Lib.hid h8; have HL7 := Lib.hid h7; have HL6 := Lib.hid h6; have HE8 := Lib.hid (show HeadIs (fun c => c = 83) r8 from ⟨83, _, r9, by rw [h8]; rfl, rfl⟩)
  have HE7 := Lib.hid (show HeadIs (fun c => c = 82 ∨ c = 83) r7 from by
    rw [h7]; unfold evR
    split
    · rw [h8]; exact ⟨83, _, r9, rfl, .inr rfl⟩
    · exact ⟨82, _, r8, rfl, .inl rfl⟩)
  have HE10 := Lib.hid (show HeadIs (fun c => c = 83) r10 from by
    rw [h10]; unfold evC
    split
    · exact ⟨83, _, _, rfl, rfl⟩
    · exact ⟨83, _, _, rfl, rfl⟩)
  clear h6 h7 h8 h9 h10 hall hls hll hck hL hm hpar hg hbw hb3; go_enter Tryz.func108, Tryz.ntmps108
  go_upto_region 2 with (fail)
  rw [← hG, ← hR, ← hw0]; have Hw0 := Lib.hid hw0; clear hw0 hG hR; obtain ⟨rs, hrs⟩ : ∃ rs : Array Value, rs = #[.string ⟨#[]⟩, .int .i64 0, .bool false, .int .i64 0, .int .i64 0, .int .i64 0, .int .i64 0, .slice none 0 0, .slice none 0 0, .int .i64 0, .int .i64 0, .string ⟨#[]⟩, .string ⟨#[]⟩] := ⟨_, rfl⟩
  have HRS := Lib.hid hrs; have HS0 := Lib.hid (show EvSt b g G R ((evA e z.data.toList).map str ++ r6) z #[.string ⟨#[]⟩, .int .i64 0, .bool false, .int .i64 0, .int .i64 0, .int .i64 0, .int .i64 0, .slice none 0 0, .slice none 0 0, .int .i64 0, .int .i64 0, .string ⟨#[]⟩, .string ⟨#[]⟩] rs w w0 from by rw [hrs]; exact HS0.out)
  clear hrs; have hzc := HS0.out.zone; go_wp2_with fail
  rw [← hA]; clear hA hzc; have HS1 := Lib.hid (show EvSt b g G R (str ([66, 69, 71, 73, 78, 58, 86, 69, 86, 69, 78, 84] ++ []) :: str ([85, 73, 68, 58] ++ e.uid.data.toList) :: str ([83, 69, 81, 85, 69, 78, 67, 69, 58] ++ Lib.decDigits e.seq.toNat) :: str ([68, 84, 83, 84, 65, 82, 84, 59, 84, 90, 73, 68, 61] ++ z.data.toList ++ [58] ++ Tt.stampL e.days.first e.start) :: str ([68, 85, 82, 65, 84, 73, 79, 78, 58, 80, 84] ++ Lib.decDigits e.mins.toNat ++ [77]) :: str ([82, 82, 85, 76, 69, 58] ++ Tt.ruleL e.days) :: r6) z #[.string ⟨#[]⟩, .int .i64 0, .bool false, .int .i64 0, .int .i64 0, .int .i64 0, .int .i64 0, .slice none 0 0, .slice none 0 0, .int .i64 0, .int .i64 0, .string ⟨#[]⟩, .string ⟨#[]⟩] rs w w0 from HS0.out)
  clear HS0; obtain ⟨w1, hx⟩ : ∃ w1, w1 = w0 := ⟨_, rfl⟩
  rw [← hx] at HS1 ⊢
  clear hx; refine (take_line (k := [66, 69, 71, 73, 78, 58, 86, 69, 86, 69, 78, 84]) (l := []) (xs := str ([85, 73, 68, 58] ++ e.uid.data.toList) :: str ([83, 69, 81, 85, 69, 78, 67, 69, 58] ++ Lib.decDigits e.seq.toNat) :: str ([68, 84, 83, 84, 65, 82, 84, 59, 84, 90, 73, 68, 61] ++ z.data.toList ++ [58] ++ Tt.stampL e.days.first e.start) :: str ([68, 85, 82, 65, 84, 73, 79, 78, 58, 80, 84] ++ Lib.decDigits e.mins.toNat ++ [77]) :: str ([82, 82, 85, 76, 69, 58] ++ Tt.ruleL e.days) :: r6) (by rfl) HS1.out HGb.out HRb.out).mono ?_
  rintro x w2 ⟨rfl, hs, ho⟩; have HS2 := Lib.hid hs; clear hs ho; clear HS1; go_wp2_with fail
  refine (take_line (k := [85, 73, 68, 58]) (l := e.uid.data.toList) (xs := str ([83, 69, 81, 85, 69, 78, 67, 69, 58] ++ Lib.decDigits e.seq.toNat) :: str ([68, 84, 83, 84, 65, 82, 84, 59, 84, 90, 73, 68, 61] ++ z.data.toList ++ [58] ++ Tt.stampL e.days.first e.start) :: str ([68, 85, 82, 65, 84, 73, 79, 78, 58, 80, 84] ++ Lib.decDigits e.mins.toNat ++ [77]) :: str ([82, 82, 85, 76, 69, 58] ++ Tt.ruleL e.days) :: r6) (by rfl) HS2.out HGb.out HRb.out).mono ?_
  rintro x w3 ⟨rfl, hs, ho⟩; have HS3 := Lib.hid hs; clear hs ho; clear HS2; rw [str_data]
  have fz0 := HS3.out.ev.frozen 0; have cz0 := HS3.out.ev.cell 0; simp only [List.getElem?_toArray, List.getElem?_cons_zero] at cz0
  go_wp2_with fail
  obtain ⟨w4, hX⟩ : ∃ X, X = (w3.setCell ⟨G, 0, none⟩ (.string e.uid)) := ⟨_, rfl⟩
  rw [← hX]; have HS4 := Lib.hid (show EvSt b g G R (str ([83, 69, 81, 85, 69, 78, 67, 69, 58] ++ Lib.decDigits e.seq.toNat) :: str ([68, 84, 83, 84, 65, 82, 84, 59, 84, 90, 73, 68, 61] ++ z.data.toList ++ [58] ++ Tt.stampL e.days.first e.start) :: str ([68, 85, 82, 65, 84, 73, 79, 78, 58, 80, 84] ++ Lib.decDigits e.mins.toNat ++ [77]) :: str ([82, 82, 85, 76, 69, 58] ++ Tt.ruleL e.days) :: r6) z #[.string e.uid, .int .i64 0, .bool false, .int .i64 0, .int .i64 0, .int .i64 0, .int .i64 0, .slice none 0 0, .slice none 0 0, .int .i64 0, .int .i64 0, .string ⟨#[]⟩, .string ⟨#[]⟩] rs w w4 from by rw [hX]; exact (HS3.out.set HGb.out HGg.out HRG.out HG0.out 0 (.string e.uid)))
  clear hX fz0 cz0; clear HS3; refine (take_line (k := [83, 69, 81, 85, 69, 78, 67, 69, 58]) (l := Lib.decDigits e.seq.toNat) (xs := str ([68, 84, 83, 84, 65, 82, 84, 59, 84, 90, 73, 68, 61] ++ z.data.toList ++ [58] ++ Tt.stampL e.days.first e.start) :: str ([68, 85, 82, 65, 84, 73, 79, 78, 58, 80, 84] ++ Lib.decDigits e.mins.toNat ++ [77]) :: str ([82, 82, 85, 76, 69, 58] ++ Tt.ruleL e.days) :: r6) (by rfl) HS4.out HGb.out HRb.out).mono ?_
  rintro x w5 ⟨rfl, hs, ho⟩; have HS5 := Lib.hid hs; clear hs ho; clear HS4; go_wp2_with fail
  refine (num_line (n := e.seq) HS5.out Hgw.out HGb.out HRb.out (by omega) (by omega)).mono ?_
  rintro x w6 ⟨rfl, hs, ho⟩; have HS6 := Lib.hid hs; clear hs ho; clear HS5; have fz1 := HS6.out.ev.frozen 1; have cz1 := HS6.out.ev.cell 1; simp only [List.getElem?_toArray, List.getElem?_cons_zero, List.getElem?_cons_succ] at cz1
  go_wp2_with fail
  obtain ⟨w7, hX⟩ : ∃ X, X = (w6.setCell ⟨G, 1, none⟩ (.int .i64 e.seq)) := ⟨_, rfl⟩
  rw [← hX]; have HS7 := Lib.hid (show EvSt b g G R (str ([68, 84, 83, 84, 65, 82, 84, 59, 84, 90, 73, 68, 61] ++ z.data.toList ++ [58] ++ Tt.stampL e.days.first e.start) :: str ([68, 85, 82, 65, 84, 73, 79, 78, 58, 80, 84] ++ Lib.decDigits e.mins.toNat ++ [77]) :: str ([82, 82, 85, 76, 69, 58] ++ Tt.ruleL e.days) :: r6) z #[.string e.uid, .int .i64 e.seq, .bool false, .int .i64 0, .int .i64 0, .int .i64 0, .int .i64 0, .slice none 0 0, .slice none 0 0, .int .i64 0, .int .i64 0, .string ⟨#[]⟩, .string ⟨#[]⟩] rs w w7 from by rw [hX]; exact (HS6.out.set HGb.out HGg.out HRG.out HG0.out 1 (.int .i64 e.seq)))
  clear hX fz1 cz1; clear HS6; refine (take_line (k := [68, 84, 83, 84, 65, 82, 84] ++ A.data.toList) (l := Tt.stampL e.days.first e.start) (xs := str ([68, 85, 82, 65, 84, 73, 79, 78, 58, 80, 84] ++ Lib.decDigits e.mins.toNat ++ [77]) :: str ([82, 82, 85, 76, 69, 58] ++ Tt.ruleL e.days) :: r6) (by rw [ByteArray.data_append, Array.toList_append]) (show EvSt b g G R (str (([68, 84, 83, 84, 65, 82, 84] ++ A.data.toList) ++ Tt.stampL e.days.first e.start) :: str ([68, 85, 82, 65, 84, 73, 79, 78, 58, 80, 84] ++ Lib.decDigits e.mins.toNat ++ [77]) :: str ([82, 82, 85, 76, 69, 58] ++ Tt.ruleL e.days) :: r6) z #[.string e.uid, .int .i64 e.seq, .bool false, .int .i64 0, .int .i64 0, .int .i64 0, .int .i64 0, .slice none 0 0, .slice none 0 0, .int .i64 0, .int .i64 0, .string ⟨#[]⟩, .string ⟨#[]⟩] rs w w7 from by rw [HA.out]; simpa only [List.append_assoc, List.cons_append, List.nil_append] using HS7.out) HGb.out HRb.out).mono ?_
  rintro x w8 ⟨rfl, hs, ho⟩; have HS8 := Lib.hid hs; clear hs ho; clear HS7; go_wp2_with fail
  refine (days_line (ds := [e.days.first]) (start := e.start) HS8.out Hgw.out HGb.out HRb.out Hb3.out (Nat.le_of_lt Hbw.out) HL.out HM.out (by simp) (fun d hd => by rw [List.mem_singleton.1 hd]; exact ⟨hf0, hf1⟩) st0 st1 (by simp)).mono ?_
  rintro x w9 ⟨vd, rfl, hrow, hs, ho⟩; have HS9 := Lib.hid hs; have HD9 := Lib.hid (show RowI w.heap.size w9 vd ([e.days.first]) from ownsRow_mono hrow HS8.out.but.size)
  clear hs ho hrow; clear HS8; have fz9 := HS9.out.ev.frozen 9; have cz9 := HS9.out.ev.cell 9; simp only [List.getElem?_toArray, List.getElem?_cons_zero, List.getElem?_cons_succ] at cz9
  go_wp2_with fail
  obtain ⟨w10, hX⟩ : ∃ X, X = (w9.setCell ⟨G, 9, none⟩ (.int .i64 e.start)) := ⟨_, rfl⟩
  rw [← hX]; have HS10 := Lib.hid (show EvSt b g G R (str ([68, 85, 82, 65, 84, 73, 79, 78, 58, 80, 84] ++ Lib.decDigits e.mins.toNat ++ [77]) :: str ([82, 82, 85, 76, 69, 58] ++ Tt.ruleL e.days) :: r6) z #[.string e.uid, .int .i64 e.seq, .bool false, .int .i64 0, .int .i64 0, .int .i64 0, .int .i64 0, .slice none 0 0, .slice none 0 0, .int .i64 e.start, .int .i64 0, .string ⟨#[]⟩, .string ⟨#[]⟩] rs w w10 from by rw [hX]; exact (HS9.out.set HGb.out HGg.out HRG.out HG0.out 9 (.int .i64 e.start)))
  have HD10 := Lib.hid (show RowI w.heap.size w10 vd [e.days.first] from by rw [hX]; exact (HS9.out.row HD9.out 9 (.int .i64 e.start)))
  clear hX fz9 cz9; clear HS9 HD9; refine (take_line (k := [68, 85, 82, 65, 84, 73, 79, 78, 58, 80, 84]) (l := Lib.decDigits e.mins.toNat ++ [77]) (xs := str ([82, 82, 85, 76, 69, 58] ++ Tt.ruleL e.days) :: r6) (by rfl) (show EvSt b g G R (str ([68, 85, 82, 65, 84, 73, 79, 78, 58, 80, 84] ++ (Lib.decDigits e.mins.toNat ++ [77])) :: str ([82, 82, 85, 76, 69, 58] ++ Tt.ruleL e.days) :: r6) z #[.string e.uid, .int .i64 e.seq, .bool false, .int .i64 0, .int .i64 0, .int .i64 0, .int .i64 0, .slice none 0 0, .slice none 0 0, .int .i64 e.start, .int .i64 0, .string ⟨#[]⟩, .string ⟨#[]⟩] rs w w10 from by simpa only [List.append_assoc] using HS10.out) HGb.out HRb.out).mono ?_
  rintro x w11 ⟨rfl, hs, ho⟩; have HS11 := Lib.hid hs; have HD11 := Lib.hid (row_but HD10.out Hbw.out ho.but)
  clear hs ho; clear HS10 HD10; go_wp2_with fail
  refine (Tryz.strings_TrimSuffix _ _ _ (by rw [show (str (Lib.decDigits e.mins.toNat ++ [77])).size = (Lib.decDigits e.mins.toNat ++ [77]).length from size_mk _, List.length_append]; have := Tt.dec_len 4 e.mins.toNat (by omega); simp only [List.length_cons, List.length_nil]; omega)).mono ?_
  rintro x wt ⟨rfl, hx⟩; rw [hx]
  clear hx wt; rw [show (⟨(Lib.trimSuffix (str (Lib.decDigits e.mins.toNat ++ [77])).data.toList (⟨#[77]⟩ : ByteArray).data.toList).toArray⟩ : ByteArray) = str (Lib.decDigits e.mins.toNat) from by rw [show (str (Lib.decDigits e.mins.toNat ++ [77])).data.toList = Lib.decDigits e.mins.toNat ++ [77] from rfl, show (⟨#[77]⟩ : ByteArray).data.toList = [77] from rfl, trim_M]; rfl]
  go_wp2_with fail
  refine (num_line (n := e.mins) HS11.out Hgw.out HGb.out HRb.out (by omega) (by omega)).mono ?_
  rintro x w12 ⟨rfl, hs, ho⟩; have HS12 := Lib.hid hs; have HD12 := Lib.hid (row_but HD11.out Hbw.out ho)
  clear hs ho; clear HS11 HD11; have fz10 := HS12.out.ev.frozen 10; have cz10 := HS12.out.ev.cell 10; simp only [List.getElem?_toArray, List.getElem?_cons_zero, List.getElem?_cons_succ] at cz10
  go_wp2_with fail
  obtain ⟨w13, hX⟩ : ∃ X, X = (w12.setCell ⟨G, 10, none⟩ (.int .i64 e.mins)) := ⟨_, rfl⟩
  rw [← hX]; have HS13 := Lib.hid (show EvSt b g G R (str ([82, 82, 85, 76, 69, 58] ++ Tt.ruleL e.days) :: r6) z #[.string e.uid, .int .i64 e.seq, .bool false, .int .i64 0, .int .i64 0, .int .i64 0, .int .i64 0, .slice none 0 0, .slice none 0 0, .int .i64 e.start, .int .i64 e.mins, .string ⟨#[]⟩, .string ⟨#[]⟩] rs w w13 from by rw [hX]; exact (HS12.out.set HGb.out HGg.out HRG.out HG0.out 10 (.int .i64 e.mins)))
  have HD13 := Lib.hid (show RowI w.heap.size w13 vd [e.days.first] from by rw [hX]; exact (HS12.out.row HD12.out 10 (.int .i64 e.mins)))
  clear hX fz10 cz10; clear HS12 HD12; refine (take_line (k := [82, 82, 85, 76, 69, 58]) (l := Tt.ruleL e.days) (xs := r6) (by rfl) HS13.out HGb.out HRb.out).mono ?_
  rintro x w14 ⟨rfl, hs, ho⟩; have HS14 := Lib.hid hs; have HD14 := Lib.hid (row_but HD13.out Hbw.out ho.but)
  clear hs ho; clear HS13 HD13; have hbz := HS14.out.bad; obtain ⟨g2, c2, hvd, hv0⟩ : ∃ g2 c2, vd = .slice (some ⟨g2, 0, none⟩) 1 c2 ∧ w14.cell? ⟨g2, 0, none⟩ = some (.int .i64 e.days.first) := RowI.first HD14.out
  subst hvd; go_wp2_with fail
  clear hbz hv0; refine (parse180 e.days (str (Tt.ruleL e.days)) w14 HH.out rfl (HL.out.below Hb3.out (HS14.out.but.below (Nat.le_refl b) (Nat.le_of_lt Hbw.out))) (Nat.lt_of_lt_of_le Hb3.out (Nat.le_trans (Nat.le_of_lt Hbw.out) HS14.out.but.size))).mono ?_
  rintro x w15 ⟨rfl, hb⟩; have HS15 := Lib.hid (HS14.out.below Hgw.out hb)
  have HD15 := Lib.hid (show RowI w.heap.size w15 (.slice (some ⟨g2, 0, none⟩) 1 c2) [e.days.first] from ownsRow_below HD14.out hb)
  clear hb; clear HS14 HD14; clear HD15; have hbz := HS15.out.bad; have hfz := HS15.out.fz 2; obtain ⟨w16, hX⟩ : ∃ X, X = w15.alloc (.cells #[.int .i64 e.days.first, .int .i64 e.days.last, .int .i64 e.days.every, .int .i64 e.days.wd, .slice none 0 0, .slice none 0 0] 80) := ⟨_, rfl⟩
  obtain ⟨P, hP⟩ : ∃ P, P = w15.heap.size := ⟨_, rfl⟩
  have HS16 := Lib.hid (show EvSt b g G R r6 z #[.string e.uid, .int .i64 e.seq, .bool false, .int .i64 0, .int .i64 0, .int .i64 0, .int .i64 0, .slice none 0 0, .slice none 0 0, .int .i64 e.start, .int .i64 e.mins, .string ⟨#[]⟩, .string ⟨#[]⟩] rs w w16 from by rw [hX]; exact HS15.out.below Hgw.out (below_box _ _))
  have HP16 := Lib.hid (show Blk P #[.int .i64 e.days.first, .int .i64 e.days.last, .int .i64 e.days.every, .int .i64 e.days.wd, .slice none 0 0, .slice none 0 0] 80 w16 from by rw [hX, hP]; exact Blk.new _ _ 80)
  have HPb := Lib.hid (show P ≠ b from by rw [hP]; have := HS15.out.but.size; have := Hbw.out; omega)
  have HPG := Lib.hid (show P ≠ G from by rw [hP]; have := HS15.out.ev.lt; omega)
  go_upto_region 13 with (fail)
  rw [← hX, ← hP]; clear hX hP hbz hfz; clear HS15; have hbz := HS16.out.bad; have hfz := HS16.out.fz 2; go_upto_region 14 with (fail)
  obtain ⟨w17, hX⟩ : ∃ X, X = w16.setCell ⟨b, 2, none⟩ (.bool false) := ⟨_, rfl⟩
  rw [← hX]; have HS17 := Lib.hid (show EvSt b g G R r6 z #[.string e.uid, .int .i64 e.seq, .bool false, .int .i64 0, .int .i64 0, .int .i64 0, .int .i64 0, .slice none 0 0, .slice none 0 0, .int .i64 e.start, .int .i64 e.mins, .string ⟨#[]⟩, .string ⟨#[]⟩] rs w w17 from by rw [hX]; exact HS16.out.good HGb.out HRb.out)
  have HP17 := Lib.hid (show Blk P #[.int .i64 e.days.first, .int .i64 e.days.last, .int .i64 e.days.every, .int .i64 e.days.wd, .slice none 0 0, .slice none 0 0] 80 w17 from by rw [hX]; exact HP16.out.set_other HPb.out 2 _)
  clear hX hbz hfz HP16; clear HS16; have p0 := HP17.out.cell 0; have p1 := HP17.out.cell 1; have p2 := HP17.out.cell 2; have p3 := HP17.out.cell 3; have p4 := HP17.out.cell 4; have p5 := HP17.out.cell 5; simp only [List.getElem?_toArray, List.getElem?_cons_zero, List.getElem?_cons_succ] at p0 p1 p2 p3 p4 p5
  have fz3 := HS17.out.ev.frozen 3; have cz3 := HS17.out.ev.cell 3; simp only [List.getElem?_toArray, List.getElem?_cons_zero, List.getElem?_cons_succ] at cz3
  have fz4 := HS17.out.ev.frozen 4; have cz4 := HS17.out.ev.cell 4; simp only [List.getElem?_toArray, List.getElem?_cons_zero, List.getElem?_cons_succ] at cz4
  have fz5 := HS17.out.ev.frozen 5; have cz5 := HS17.out.ev.cell 5; simp only [List.getElem?_toArray, List.getElem?_cons_zero, List.getElem?_cons_succ] at cz5
  have fz6 := HS17.out.ev.frozen 6; have cz6 := HS17.out.ev.cell 6; simp only [List.getElem?_toArray, List.getElem?_cons_zero, List.getElem?_cons_succ] at cz6
  have fz7 := HS17.out.ev.frozen 7; have cz7 := HS17.out.ev.cell 7; simp only [List.getElem?_toArray, List.getElem?_cons_zero, List.getElem?_cons_succ] at cz7
  have fz8 := HS17.out.ev.frozen 8; have cz8 := HS17.out.ev.cell 8; simp only [List.getElem?_toArray, List.getElem?_cons_zero, List.getElem?_cons_succ] at cz8
  go_upto_region 15 with (fail)
  obtain ⟨w18, hX⟩ : ∃ X, X = ((((((w17.setCell ⟨G, 3, none⟩ (.int .i64 e.days.first)).setCell ⟨G, 4, none⟩ (.int .i64 e.days.last)).setCell ⟨G, 5, none⟩ (.int .i64 e.days.every)).setCell ⟨G, 6, none⟩ (.int .i64 e.days.wd)).setCell ⟨G, 7, none⟩ (.slice none 0 0)).setCell ⟨G, 8, none⟩ (.slice none 0 0)) := ⟨_, rfl⟩
  rw [← hX]; have HS18 := Lib.hid (show EvSt b g G R (r6) z #[.string e.uid, .int .i64 e.seq, .bool false, .int .i64 e.days.first, .int .i64 e.days.last, .int .i64 e.days.every, .int .i64 e.days.wd, .slice none 0 0, .slice none 0 0, .int .i64 e.start, .int .i64 e.mins, .string ⟨#[]⟩, .string ⟨#[]⟩] rs w w18 from by rw [hX]; exact ((((((HS17.out.set HGb.out HGg.out HRG.out HG0.out 3 (.int .i64 e.days.first)).set HGb.out HGg.out HRG.out HG0.out 4 (.int .i64 e.days.last)).set HGb.out HGg.out HRG.out HG0.out 5 (.int .i64 e.days.every)).set HGb.out HGg.out HRG.out HG0.out 6 (.int .i64 e.days.wd)).set HGb.out HGg.out HRG.out HG0.out 7 (.slice none 0 0)).set HGb.out HGg.out HRG.out HG0.out 8 (.slice none 0 0)))
  clear hX fz3 cz3 fz4 cz4 fz5 cz5 fz6 cz6 fz7 cz7 fz8 cz8; clear HS17; clear p0 p1 p2 p3 p4 p5 HP17 HPb HPG; obtain ⟨bl, hbl⟩ : ∃ bl : Bool, bl = !(decide (e.days.ex = [])) := ⟨_, rfl⟩
  have HBF := Lib.hid (show bl = false → e.days.ex = [] from fun h => by rw [hbl] at h; simpa using h)
  have HBT := Lib.hid (show bl = true → e.days.ex ≠ [] from fun h => by rw [hbl] at h; simpa using h)
  clear hbl; have HLF := Lib.hid (show bl = false → r6 = r7 from fun h => by rw [HL6.out]; unfold evX; rw [if_pos (HBF.out h)]; rfl)
  have HLT := Lib.hid (show bl = true → r6 = str (([69, 88, 68, 65, 84, 69] ++ A.data.toList) ++ Tt.stampsL e.start e.days.ex) :: r7 from fun h => by rw [HL6.out, HA.out]; unfold evX; rw [if_neg (HBT.out h)]; simp only [List.map_cons, List.map_nil, List.append_assoc, List.cons_append, List.nil_append])
  have HC : Hid (Calls Tryz.prog 107 #[.pointer (some ⟨b, 0, none⟩), .string (⟨#[69, 88, 68, 65, 84, 69]⟩ ++ A)] w18 fun x w' => ∃ q, x = .returned (.tuple #[.string q, .bool bl]) ∧ w' = w18) := Lib.hid (by
    cases bl
    · have h1 := HS18.out; rw [HLF.out (by first | rfl | trivial)] at h1
      exact see_else (c := 69) h1 HE7.out (by rintro a (rfl | rfl) <;> decide) (by rw [ByteArray.data_append, Array.toList_append]; rfl)
    · have h1 := HS18.out; rw [HLT.out (by first | rfl | trivial)] at h1
      refine (see_line (k := [69, 88, 68, 65, 84, 69] ++ A.data.toList) (by rw [ByteArray.data_append, Array.toList_append]) h1).mono ?_
      rintro x w' ⟨rfl, rfl⟩; exact ⟨_, rfl, rfl⟩)
  go_wp2_with fail
  refine HC.out.mono ?_
  rintro x wq ⟨q, rfl, hx⟩; rw [hx]
  clear hx wq HC; go_upto_if 78 with (fail)
  go_cut [79] (fun _ wx => ∃ (px : Option Addr) (cx : Nat), Hid (EvSt b g G R (r7) z #[.string e.uid, .int .i64 e.seq, .bool false, .int .i64 e.days.first, .int .i64 e.days.last, .int .i64 e.days.every, .int .i64 e.days.wd, (.slice px e.days.ex.length cx), .slice none 0 0, .int .i64 e.start, .int .i64 e.mins, .string ⟨#[]⟩, .string ⟨#[]⟩] rs w wx) ∧ Hid (RowI w.heap.size wx (.slice px e.days.ex.length cx) e.days.ex))
  case first =>
    cases bl
    · go_wp2_with fail
      go_meet
      exact ⟨none, 0, Lib.hid (by rw [← HLF.out (by first | rfl | trivial), show e.days.ex.length = 0 from by rw [HBF.out (by first | rfl | trivial)]; rfl]; exact HS18.out), Lib.hid (by rw [HBF.out (by first | rfl | trivial)]; exact RowI.nil _ _)⟩
    · have HS18t := Lib.hid (show EvSt b g G R (str (([69, 88, 68, 65, 84, 69] ++ A.data.toList) ++ Tt.stampsL e.start e.days.ex) :: r7) z #[.string e.uid, .int .i64 e.seq, .bool false, .int .i64 e.days.first, .int .i64 e.days.last, .int .i64 e.days.every, .int .i64 e.days.wd, .slice none 0 0, .slice none 0 0, .int .i64 e.start, .int .i64 e.mins, .string ⟨#[]⟩, .string ⟨#[]⟩] rs w w18 from by rw [← HLT.out (by first | rfl | trivial)]; exact HS18.out)
      clear HS18; obtain ⟨w18t, hx⟩ : ∃ q, q = w18 := ⟨_, rfl⟩
      rw [← hx] at HS18t ⊢
      clear hx; go_wp2_with fail
      refine (take_line (k := [69, 88, 68, 65, 84, 69] ++ A.data.toList) (l := Tt.stampsL e.start e.days.ex) (xs := r7) (by rw [ByteArray.data_append, Array.toList_append]) HS18t.out HGb.out HRb.out).mono ?_
      rintro x wxt1 ⟨rfl, hs, ho⟩; have HSxt1 := Lib.hid hs; clear hs ho; clear HS18t; go_wp2_with fail
      refine (days_line (ds := e.days.ex) (start := e.start) HSxt1.out Hgw.out HGb.out HRb.out Hb3.out (Nat.le_of_lt Hbw.out) HL.out HM.out (HBT.out (by first | rfl | trivial)) HDD.out.1 st0 st1 hxn.1).mono ?_
      rintro x wxt2 ⟨vz, rfl, hrow, hs, ho⟩; have HSxt2 := Lib.hid hs; have HXxt2 := Lib.hid (show RowI w.heap.size wxt2 vz (e.days.ex) from ownsRow_mono hrow HSxt1.out.but.size)
      clear hs ho hrow; clear HSxt1; obtain ⟨px, cx, hv⟩ := HXxt2.out.slice
      subst hv; have fz7 := HSxt2.out.ev.frozen 7; have cz7 := HSxt2.out.ev.cell 7; simp only [List.getElem?_toArray, List.getElem?_cons_zero, List.getElem?_cons_succ] at cz7
      go_wp2_with fail
      obtain ⟨wxt3, hX⟩ : ∃ X, X = (wxt2.setCell ⟨G, 7, none⟩ ((.slice px e.days.ex.length cx))) := ⟨_, rfl⟩
      rw [← hX]; have HSxt3 := Lib.hid (show EvSt b g G R (r7) z #[.string e.uid, .int .i64 e.seq, .bool false, .int .i64 e.days.first, .int .i64 e.days.last, .int .i64 e.days.every, .int .i64 e.days.wd, (.slice px e.days.ex.length cx), .slice none 0 0, .int .i64 e.start, .int .i64 e.mins, .string ⟨#[]⟩, .string ⟨#[]⟩] rs w wxt3 from by rw [hX]; exact (HSxt2.out.set HGb.out HGg.out HRG.out HG0.out 7 ((.slice px e.days.ex.length cx))))
      have HXxt3 := Lib.hid (show RowI w.heap.size wxt3 (.slice px e.days.ex.length cx) e.days.ex from by rw [hX]; exact (HSxt2.out.row HXxt2.out 7 ((.slice px e.days.ex.length cx))))
      clear hX fz7 cz7; clear HSxt2 HXxt2; go_meet
      exact ⟨px, cx, HSxt3, HXxt3⟩
  case rest =>
    clear HLF HLT HBF HBT HS18; obtain ⟨px, cx, HSc, HXc⟩ := hcut; obtain ⟨bl, hbl⟩ : ∃ bl : Bool, bl = !(decide (e.days.xt = [])) := ⟨_, rfl⟩
    have HBF := Lib.hid (show bl = false → e.days.xt = [] from fun h => by rw [hbl] at h; simpa using h)
    have HBT := Lib.hid (show bl = true → e.days.xt ≠ [] from fun h => by rw [hbl] at h; simpa using h)
    clear hbl; have HLF := Lib.hid (show bl = false → r7 = r8 from fun h => by rw [HL7.out]; unfold evR; rw [if_pos (HBF.out h)]; rfl)
    have HLT := Lib.hid (show bl = true → r7 = str (([82, 68, 65, 84, 69] ++ A.data.toList) ++ Tt.stampsL e.start e.days.xt) :: r8 from fun h => by rw [HL7.out, HA.out]; unfold evR; rw [if_neg (HBT.out h)]; simp only [List.map_cons, List.map_nil, List.append_assoc, List.cons_append, List.nil_append])
    have HC : Hid (Calls Tryz.prog 107 #[.pointer (some ⟨b, 0, none⟩), .string (⟨#[82, 68, 65, 84, 69]⟩ ++ A)] wc fun x w' => ∃ q, x = .returned (.tuple #[.string q, .bool bl]) ∧ w' = wc) := Lib.hid (by
      cases bl
      · have h1 := HSc.out; rw [HLF.out (by first | rfl | trivial)] at h1
        exact see_else (c := 82) h1 HE8.out (by rintro a rfl; decide) (by rw [ByteArray.data_append, Array.toList_append]; rfl)
      · have h1 := HSc.out; rw [HLT.out (by first | rfl | trivial)] at h1
        refine (see_line (k := [82, 68, 65, 84, 69] ++ A.data.toList) (by rw [ByteArray.data_append, Array.toList_append]) h1).mono ?_
        rintro x w' ⟨rfl, rfl⟩; exact ⟨_, rfl, rfl⟩)
    go_wp2_with fail
    refine HC.out.mono ?_
    rintro x wq ⟨q, rfl, hx⟩; rw [hx]
    clear hx wq HC; go_upto_if 97 with (fail)
    go_cut [98] (fun _ wx => ∃ (py : Option Addr) (cy : Nat), Hid (EvSt b g G R (r8) z #[.string e.uid, .int .i64 e.seq, .bool false, .int .i64 e.days.first, .int .i64 e.days.last, .int .i64 e.days.every, .int .i64 e.days.wd, (.slice px e.days.ex.length cx), (.slice py e.days.xt.length cy), .int .i64 e.start, .int .i64 e.mins, .string ⟨#[]⟩, .string ⟨#[]⟩] rs w wx) ∧ Hid (RowI w.heap.size wx (.slice py e.days.xt.length cy) e.days.xt) ∧ Hid (RowI w.heap.size wx (.slice px e.days.ex.length cx) e.days.ex))
    case first =>
      cases bl
      · go_wp2_with fail
        go_meet
        exact ⟨none, 0, Lib.hid (by rw [← HLF.out (by first | rfl | trivial), show e.days.xt.length = 0 from by rw [HBF.out (by first | rfl | trivial)]; rfl]; exact HSc.out), Lib.hid (by rw [HBF.out (by first | rfl | trivial)]; exact RowI.nil _ _), HXc⟩
      · have HSct := Lib.hid (show EvSt b g G R (str (([82, 68, 65, 84, 69] ++ A.data.toList) ++ Tt.stampsL e.start e.days.xt) :: r8) z #[.string e.uid, .int .i64 e.seq, .bool false, .int .i64 e.days.first, .int .i64 e.days.last, .int .i64 e.days.every, .int .i64 e.days.wd, (.slice px e.days.ex.length cx), .slice none 0 0, .int .i64 e.start, .int .i64 e.mins, .string ⟨#[]⟩, .string ⟨#[]⟩] rs w wc from by rw [← HLT.out (by first | rfl | trivial)]; exact HSc.out)
        clear HSc; obtain ⟨wct, hx⟩ : ∃ q, q = wc := ⟨_, rfl⟩
        rw [← hx] at HSct ⊢
        have HXct := Lib.hid (show RowI w.heap.size wct (.slice px e.days.ex.length cx) e.days.ex from by rw [hx]; exact HXc.out)
        clear hx; go_wp2_with fail
        refine (take_line (k := [82, 68, 65, 84, 69] ++ A.data.toList) (l := Tt.stampsL e.start e.days.xt) (xs := r8) (by rw [ByteArray.data_append, Array.toList_append]) HSct.out HGb.out HRb.out).mono ?_
        rintro x wyt1 ⟨rfl, hs, ho⟩; have HSyt1 := Lib.hid hs; have HXyt1 := Lib.hid (row_but HXct.out Hbw.out ho.but)
        clear hs ho; clear HSct HXct; go_wp2_with fail
        refine (days_line (ds := e.days.xt) (start := e.start) HSyt1.out Hgw.out HGb.out HRb.out Hb3.out (Nat.le_of_lt Hbw.out) HL.out HM.out (HBT.out (by first | rfl | trivial)) HDD.out.2 st0 st1 hxn.2).mono ?_
        rintro x wyt2 ⟨vz, rfl, hrow, hs, ho⟩; have HSyt2 := Lib.hid hs; have HYyt2 := Lib.hid (show RowI w.heap.size wyt2 vz (e.days.xt) from ownsRow_mono hrow HSyt1.out.but.size)
        have HXyt2 := Lib.hid (row_but HXyt1.out Hbw.out ho)
        clear hs ho hrow; clear HSyt1 HXyt1; obtain ⟨py, cy, hv⟩ := HYyt2.out.slice
        subst hv; have fz8 := HSyt2.out.ev.frozen 8; have cz8 := HSyt2.out.ev.cell 8; simp only [List.getElem?_toArray, List.getElem?_cons_zero, List.getElem?_cons_succ] at cz8
        go_wp2_with fail
        obtain ⟨wyt3, hX⟩ : ∃ X, X = (wyt2.setCell ⟨G, 8, none⟩ ((.slice py e.days.xt.length cy))) := ⟨_, rfl⟩
        rw [← hX]; have HSyt3 := Lib.hid (show EvSt b g G R (r8) z #[.string e.uid, .int .i64 e.seq, .bool false, .int .i64 e.days.first, .int .i64 e.days.last, .int .i64 e.days.every, .int .i64 e.days.wd, (.slice px e.days.ex.length cx), (.slice py e.days.xt.length cy), .int .i64 e.start, .int .i64 e.mins, .string ⟨#[]⟩, .string ⟨#[]⟩] rs w wyt3 from by rw [hX]; exact (HSyt2.out.set HGb.out HGg.out HRG.out HG0.out 8 ((.slice py e.days.xt.length cy))))
        have HXyt3 := Lib.hid (show RowI w.heap.size wyt3 (.slice px e.days.ex.length cx) e.days.ex from by rw [hX]; exact (HSyt2.out.row HXyt2.out 8 ((.slice py e.days.xt.length cy))))
        have HYyt3 := Lib.hid (show RowI w.heap.size wyt3 (.slice py e.days.xt.length cy) e.days.xt from by rw [hX]; exact (HSyt2.out.row HYyt2.out 8 ((.slice py e.days.xt.length cy))))
        clear hX fz8 cz8; clear HSyt2 HXyt2 HYyt2; go_meet
        exact ⟨py, cy, HSyt3, HYyt3, HXyt3⟩
    case rest =>
      clear HLF HLT HBF HBT HSc HXc; obtain ⟨py, cy, HSc, HYc, HXc⟩ := hcut; have HSs := Lib.hid (show EvSt b g G R (str ([83, 85, 77, 77, 65, 82, 89, 58] ++ Tt.esc e.summ.data.toList) :: r9) z #[.string e.uid, .int .i64 e.seq, .bool false, .int .i64 e.days.first, .int .i64 e.days.last, .int .i64 e.days.every, .int .i64 e.days.wd, (.slice px e.days.ex.length cx), (.slice py e.days.xt.length cy), .int .i64 e.start, .int .i64 e.mins, .string ⟨#[]⟩, .string ⟨#[]⟩] rs w wc from by have h := HSc.out; rw [HL8.out] at h; exact h)
      clear HSc; obtain ⟨ws, hx⟩ : ∃ q, q = wc := ⟨_, rfl⟩
      rw [← hx] at HSs HXc HYc ⊢
      have HXs := HXc; have HYs := HYc; clear hx HXc HYc; go_wp2_with fail
      refine (take_line (k := [83, 85, 77, 77, 65, 82, 89, 58]) (l := Tt.esc e.summ.data.toList) (xs := r9) (by rfl) HSs.out HGb.out HRb.out).mono ?_
      rintro x wry1 ⟨rfl, hs, ho⟩; have HSry1 := Lib.hid hs; have HYry1 := Lib.hid (row_but HYs.out Hbw.out ho.but)
      have HXry1 := Lib.hid (row_but HXs.out Hbw.out ho.but)
      clear hs ho; clear HSs HYs HXs; go_wp2_with fail
      refine (text_line (s := e.summ) HSry1.out Hgw.out HGb.out HRb.out (by omega)).mono ?_
      rintro x wry2 ⟨rfl, hs, ho⟩; have HSry2 := Lib.hid hs; have HYry2 := Lib.hid (row_but HYry1.out Hbw.out ho)
      have HXry2 := Lib.hid (row_but HXry1.out Hbw.out ho)
      clear hs ho; clear HSry1 HYry1 HXry1; have fz11 := HSry2.out.ev.frozen 11; have cz11 := HSry2.out.ev.cell 11; simp only [List.getElem?_toArray, List.getElem?_cons_zero, List.getElem?_cons_succ] at cz11
      go_upto_region 22 with (fail)
      obtain ⟨wry3, hX⟩ : ∃ X, X = (wry2.setCell ⟨G, 11, none⟩ (.string e.summ)) := ⟨_, rfl⟩
      rw [← hX]; have HSry3 := Lib.hid (show EvSt b g G R (r9) z #[.string e.uid, .int .i64 e.seq, .bool false, .int .i64 e.days.first, .int .i64 e.days.last, .int .i64 e.days.every, .int .i64 e.days.wd, (.slice px e.days.ex.length cx), (.slice py e.days.xt.length cy), .int .i64 e.start, .int .i64 e.mins, .string e.summ, .string ⟨#[]⟩] rs w wry3 from by rw [hX]; exact (HSry2.out.set HGb.out HGg.out HRG.out HG0.out 11 (.string e.summ)))
      have HYry3 := Lib.hid (show RowI w.heap.size wry3 (.slice py e.days.xt.length cy) e.days.xt from by rw [hX]; exact (HSry2.out.row HYry2.out 11 (.string e.summ)))
      have HXry3 := Lib.hid (show RowI w.heap.size wry3 (.slice px e.days.ex.length cx) e.days.ex from by rw [hX]; exact (HSry2.out.row HXry2.out 11 (.string e.summ)))
      clear hX fz11 cz11; clear HSry2 HYry2 HXry2; obtain ⟨bl, hbl⟩ : ∃ bl : Bool, bl = !(decide (e.loc = ⟨#[]⟩)) := ⟨_, rfl⟩
      have HBF := Lib.hid (show bl = false → e.loc = ⟨#[]⟩ from fun h => by rw [hbl] at h; simpa using h)
      have HBT := Lib.hid (show bl = true → e.loc ≠ ⟨#[]⟩ from fun h => by rw [hbl] at h; simpa using h)
      clear hbl; have HLF := Lib.hid (show bl = false → r9 = r10 from fun h => by rw [HL9.out]; unfold evL; rw [if_pos (HBF.out h)]; rfl)
      have HLT := Lib.hid (show bl = true → r9 = str ([76, 79, 67, 65, 84, 73, 79, 78, 58] ++ Tt.esc e.loc.data.toList) :: r10 from fun h => by rw [HL9.out]; unfold evL; rw [if_neg (HBT.out h)]; rfl)
      have HC : Hid (Calls Tryz.prog 107 #[.pointer (some ⟨b, 0, none⟩), .string ⟨#[76, 79, 67, 65, 84, 73, 79, 78, 58]⟩] wry3 fun x w' => ∃ q, x = .returned (.tuple #[.string q, .bool bl]) ∧ w' = wry3) := Lib.hid (by
        cases bl
        · have h1 := HSry3.out; rw [HLF.out (by first | rfl | trivial)] at h1
          exact see_else (c := 76) h1 HE10.out (by rintro a rfl; decide) rfl
        · have h1 := HSry3.out; rw [HLT.out (by first | rfl | trivial)] at h1
          refine (see_line (k := [76, 79, 67, 65, 84, 73, 79, 78, 58]) rfl h1).mono ?_
          rintro x w' ⟨rfl, rfl⟩; exact ⟨_, rfl, rfl⟩)
      go_wp2_with fail
      refine HC.out.mono ?_
      rintro x wq ⟨q, rfl, hx⟩; rw [hx]
      clear hx wq HC; go_upto_if 119 with (fail)
      go_cut [120] (fun _ wx => Hid (EvSt b g G R r10 z #[.string e.uid, .int .i64 e.seq, .bool false, .int .i64 e.days.first, .int .i64 e.days.last, .int .i64 e.days.every, .int .i64 e.days.wd, (.slice px e.days.ex.length cx), (.slice py e.days.xt.length cy), .int .i64 e.start, .int .i64 e.mins, .string e.summ, .string e.loc] rs w wx) ∧ Hid (RowI w.heap.size wx (.slice px e.days.ex.length cx) e.days.ex) ∧ Hid (RowI w.heap.size wx (.slice py e.days.xt.length cy) e.days.xt))
      case first =>
        cases bl
        · go_wp2_with fail
          go_meet
          exact ⟨Lib.hid (by rw [← HLF.out (by first | rfl | trivial), HBF.out (by first | rfl | trivial)]; exact HSry3.out), HXry3, HYry3⟩
        · have HSm := Lib.hid (show EvSt b g G R (str ([76, 79, 67, 65, 84, 73, 79, 78, 58] ++ Tt.esc e.loc.data.toList) :: r10) z #[.string e.uid, .int .i64 e.seq, .bool false, .int .i64 e.days.first, .int .i64 e.days.last, .int .i64 e.days.every, .int .i64 e.days.wd, (.slice px e.days.ex.length cx), (.slice py e.days.xt.length cy), .int .i64 e.start, .int .i64 e.mins, .string e.summ, .string ⟨#[]⟩] rs w wry3 from by rw [← HLT.out (by first | rfl | trivial)]; exact HSry3.out)
          obtain ⟨wm, hx⟩ : ∃ q, q = wry3 := ⟨_, rfl⟩
          clear HSry3; rw [← hx] at HSm HXry3 HYry3 ⊢
          have HXm := HXry3; have HYm := HYry3; clear hx HXry3 HYry3; go_wp2_with fail
          refine (take_line (k := [76, 79, 67, 65, 84, 73, 79, 78, 58]) (l := Tt.esc e.loc.data.toList) (xs := r10) (by rfl) HSm.out HGb.out HRb.out).mono ?_
          rintro x wlt1 ⟨rfl, hs, ho⟩; have HSlt1 := Lib.hid hs; have HYlt1 := Lib.hid (row_but HYm.out Hbw.out ho.but)
          have HXlt1 := Lib.hid (row_but HXm.out Hbw.out ho.but)
          clear hs ho; clear HSm HYm HXm; go_wp2_with fail
          refine (text_line (s := e.loc) HSlt1.out Hgw.out HGb.out HRb.out (by omega)).mono ?_
          rintro x wlt2 ⟨rfl, hs, ho⟩; have HSlt2 := Lib.hid hs; have HYlt2 := Lib.hid (row_but HYlt1.out Hbw.out ho)
          have HXlt2 := Lib.hid (row_but HXlt1.out Hbw.out ho)
          clear hs ho; clear HSlt1 HYlt1 HXlt1; have fz12 := HSlt2.out.ev.frozen 12; have cz12 := HSlt2.out.ev.cell 12; simp only [List.getElem?_toArray, List.getElem?_cons_zero, List.getElem?_cons_succ] at cz12
          go_wp2_with fail
          obtain ⟨wlt3, hX⟩ : ∃ X, X = (wlt2.setCell ⟨G, 12, none⟩ (.string e.loc)) := ⟨_, rfl⟩
          rw [← hX]; have HSlt3 := Lib.hid (show EvSt b g G R (r10) z #[.string e.uid, .int .i64 e.seq, .bool false, .int .i64 e.days.first, .int .i64 e.days.last, .int .i64 e.days.every, .int .i64 e.days.wd, (.slice px e.days.ex.length cx), (.slice py e.days.xt.length cy), .int .i64 e.start, .int .i64 e.mins, .string e.summ, .string e.loc] rs w wlt3 from by rw [hX]; exact (HSlt2.out.set HGb.out HGg.out HRG.out HG0.out 12 (.string e.loc)))
          have HYlt3 := Lib.hid (show RowI w.heap.size wlt3 (.slice py e.days.xt.length cy) e.days.xt from by rw [hX]; exact (HSlt2.out.row HYlt2.out 12 (.string e.loc)))
          have HXlt3 := Lib.hid (show RowI w.heap.size wlt3 (.slice px e.days.ex.length cx) e.days.ex from by rw [hX]; exact (HSlt2.out.row HXlt2.out 12 (.string e.loc)))
          clear hX fz12 cz12; clear HSlt2 HYlt2 HXlt2; go_meet
          exact ⟨HSlt3, HXlt3, HYlt3⟩
      case rest =>
        clear HLF HLT HBF HBT HSry3 HXry3 HYry3; obtain ⟨HSc, HXc, HYc⟩ := hcut; cases hcn : e.canc
        · have HSn := Lib.hid (show EvSt b g G R (str ([83, 84, 65, 84, 85, 83, 58] ++ [67, 79, 78, 70, 73, 82, 77, 69, 68]) :: str ([69, 78, 68, 58, 86, 69, 86, 69, 78, 84] ++ []) :: rest) z #[.string e.uid, .int .i64 e.seq, .bool false, .int .i64 e.days.first, .int .i64 e.days.last, .int .i64 e.days.every, .int .i64 e.days.wd, (.slice px e.days.ex.length cx), (.slice py e.days.xt.length cy), .int .i64 e.start, .int .i64 e.mins, .string e.summ, .string e.loc] rs w wc from by have h := HSc.out; rw [HL10.out] at h; unfold evC at h; rw [hcn] at h; exact h)
          obtain ⟨wn, hx⟩ : ∃ q, q = wc := ⟨_, rfl⟩
          clear HSc; rw [← hx] at HSn HXc HYc ⊢
          have HXn := HXc; have HYn := HYc; have HCN := Lib.hid hcn; clear hx HXc HYc hcn; go_wp2_with fail
          refine (take_line (k := [83, 84, 65, 84, 85, 83, 58]) (l := [67, 79, 78, 70, 73, 82, 77, 69, 68]) (xs := str ([69, 78, 68, 58, 86, 69, 86, 69, 78, 84] ++ []) :: rest) (by rfl) HSn.out HGb.out HRb.out).mono ?_
          rintro x wef1 ⟨rfl, hs, ho⟩; have HSef1 := Lib.hid hs; have HYef1 := Lib.hid (row_but HYn.out Hbw.out ho.but)
          have HXef1 := Lib.hid (row_but HXn.out Hbw.out ho.but)
          clear hs ho; clear HSn HYn HXn; have hq : ((str [67, 79, 78, 70, 73, 82, 77, 69, 68]).toList == [67, 65, 78, 67, 69, 76, 76, 69, 68]) = false := by rw [Lib.toList_data]; rfl
          have fz2 := HSef1.out.ev.frozen 2; have cz2 := HSef1.out.ev.cell 2; simp only [List.getElem?_toArray, List.getElem?_cons_zero, List.getElem?_cons_succ] at cz2
          go_wp2_with fail
          obtain ⟨wef2, hX⟩ : ∃ X, X = (wef1.setCell ⟨G, 2, none⟩ (.bool false)) := ⟨_, rfl⟩
          rw [← hX]; have HSef2 := Lib.hid (show EvSt b g G R (str ([69, 78, 68, 58, 86, 69, 86, 69, 78, 84] ++ []) :: rest) z #[.string e.uid, .int .i64 e.seq, .bool false, .int .i64 e.days.first, .int .i64 e.days.last, .int .i64 e.days.every, .int .i64 e.days.wd, (.slice px e.days.ex.length cx), (.slice py e.days.xt.length cy), .int .i64 e.start, .int .i64 e.mins, .string e.summ, .string e.loc] rs w wef2 from by rw [hX]; exact (HSef1.out.set HGb.out HGg.out HRG.out HG0.out 2 (.bool false)))
          have HYef2 := Lib.hid (show RowI w.heap.size wef2 (.slice py e.days.xt.length cy) e.days.xt from by rw [hX]; exact (HSef1.out.row HYef1.out 2 (.bool false)))
          have HXef2 := Lib.hid (show RowI w.heap.size wef2 (.slice px e.days.ex.length cx) e.days.ex from by rw [hX]; exact (HSef1.out.row HXef1.out 2 (.bool false)))
          clear hX fz2 cz2; clear HSef1 HYef1 HXef1; refine (take_line (k := [69, 78, 68, 58, 86, 69, 86, 69, 78, 84]) (l := []) (xs := rest) (by rfl) HSef2.out HGb.out HRb.out).mono ?_
          rintro x wef3 ⟨rfl, hs, ho⟩; have HSef3 := Lib.hid hs; have HYef3 := Lib.hid (row_but HYef2.out Hbw.out ho.but)
          have HXef3 := Lib.hid (row_but HXef2.out Hbw.out ho.but)
          clear hs ho; clear HSef2 HYef2 HXef2; have a0 := HSef3.out.ev.cell 0; have a1 := HSef3.out.ev.cell 1; have a2 := HSef3.out.ev.cell 2; have a3 := HSef3.out.ev.cell 3; have a4 := HSef3.out.ev.cell 4; have a5 := HSef3.out.ev.cell 5; have a6 := HSef3.out.ev.cell 6; have a7 := HSef3.out.ev.cell 7; have a8 := HSef3.out.ev.cell 8; have a9 := HSef3.out.ev.cell 9; have a10 := HSef3.out.ev.cell 10; have a11 := HSef3.out.ev.cell 11; have a12 := HSef3.out.ev.cell 12; have hres := HSef3.out.res; rw [HRS.out] at hres
          have f0 := hres.frozen 0; have f1 := hres.frozen 1; have f2 := hres.frozen 2; have f3 := hres.frozen 3; have f4 := hres.frozen 4; have f5 := hres.frozen 5; have f6 := hres.frozen 6; have f7 := hres.frozen 7; have f8 := hres.frozen 8; have f9 := hres.frozen 9; have f10 := hres.frozen 10; have f11 := hres.frozen 11; have f12 := hres.frozen 12; have o0 := hres.cell 0; have o1 := hres.cell 1; have o2 := hres.cell 2; have o3 := hres.cell 3; have o4 := hres.cell 4; have o5 := hres.cell 5; have o6 := hres.cell 6; have o7 := hres.cell 7; have o8 := hres.cell 8; have o9 := hres.cell 9; have o10 := hres.cell 10; have o11 := hres.cell 11; have o12 := hres.cell 12; clear hres; simp only [List.getElem?_toArray, List.getElem?_cons_zero, List.getElem?_cons_succ] at a0 a1 a2 a3 a4 a5 a6 a7 a8 a9 a10 a11 a12 o0 o1 o2 o3 o4 o5 o6 o7 o8 o9 o10 o11 o12
          go_wp2_with fail
          clear a0 f0 o0 a1 f1 o1 a2 f2 o2 a3 f3 o3 a4 f4 o4 a5 f5 o5 a6 f6 o6 a7 f7 o7 a8 f8 o8 a9 f9 o9 a10 f10 o10 a11 f11 o11 a12 f12 o12; have hse := HSef3.out; rw [HRS.out] at hse
          obtain ⟨hA, hB, hC, hD⟩ := EvSt.done (ds := [.string ⟨#[]⟩, .int .i64 0, .bool false, .int .i64 0, .int .i64 0, .int .i64 0, .int .i64 0, .slice none 0 0, .slice none 0 0, .int .i64 0, .int .i64 0, .string ⟨#[]⟩, .string ⟨#[]⟩]) (ks := [.string e.uid, .int .i64 e.seq, .bool false, .int .i64 e.days.first, .int .i64 e.days.last, .int .i64 e.days.every, .int .i64 e.days.wd, (.slice px e.days.ex.length cx), (.slice py e.days.xt.length cy), .int .i64 e.start, .int .i64 e.mins, .string e.summ, .string e.loc]) hse rfl HRb.out HRg.out HR0.out
          have hX := hD _ _ _ _ _ HXef3.out
          have hY := hD _ _ _ _ _ HYef3.out
          clear hD hse; obtain ⟨U, hU⟩ : ∃ U, U = (((((((((((((wef3.setCell ⟨R, 0, none⟩ (.string e.uid)).setCell ⟨R, 1, none⟩ (.int .i64 e.seq)).setCell ⟨R, 2, none⟩ (.bool false)).setCell ⟨R, 3, none⟩ (.int .i64 e.days.first)).setCell ⟨R, 4, none⟩ (.int .i64 e.days.last)).setCell ⟨R, 5, none⟩ (.int .i64 e.days.every)).setCell ⟨R, 6, none⟩ (.int .i64 e.days.wd)).setCell ⟨R, 7, none⟩ ((.slice px e.days.ex.length cx))).setCell ⟨R, 8, none⟩ ((.slice py e.days.xt.length cy))).setCell ⟨R, 9, none⟩ (.int .i64 e.start)).setCell ⟨R, 10, none⟩ (.int .i64 e.mins)).setCell ⟨R, 11, none⟩ (.string e.summ)).setCell ⟨R, 12, none⟩ (.string e.loc)) := ⟨_, rfl⟩
          rw [← hU]; rw [show setAll wef3 R 0 [.string e.uid, .int .i64 e.seq, .bool false, .int .i64 e.days.first, .int .i64 e.days.last, .int .i64 e.days.every, .int .i64 e.days.wd, (.slice px e.days.ex.length cx), (.slice py e.days.xt.length cy), .int .i64 e.start, .int .i64 e.mins, .string e.summ, .string e.loc] = U from by rw [hU]; rfl] at hA hB hC hX hY
          clear hU HSef3 HXef3 HYef3; have r0 := hA.cell 0; have r1 := hA.cell 1; have r2 := hA.cell 2; have r3 := hA.cell 3; have r4 := hA.cell 4; have r5 := hA.cell 5; have r6 := hA.cell 6; have r7 := hA.cell 7; have r8 := hA.cell 8; have r9 := hA.cell 9; have r10 := hA.cell 10; have r11 := hA.cell 11; have r12 := hA.cell 12; simp only [List.getElem?_toArray, List.getElem?_cons_zero, List.getElem?_cons_succ] at r0 r1 r2 r3 r4 r5 r6 r7 r8 r9 r10 r11 r12
          refine bodyPost_ret (v := .agg #[.string e.uid, .int .i64 e.seq, .bool false, .int .i64 e.days.first, .int .i64 e.days.last, .int .i64 e.days.every, .int .i64 e.days.wd, (.slice px e.days.ex.length cx), (.slice py e.days.xt.length cy), .int .i64 e.start, .int .i64 e.mins, .string e.summ, .string e.loc]) (by simp [results, Tryz.results108, go_sem, r0, r1, r2, r3, r4, r5, r6, r7, r8, r9, r10, r11, r12]) rfl ?_
          exact ⟨_, _, by unfold evVal evCells; rw [HCN.out], hX, hY, hB, hC⟩
        · have HSn := Lib.hid (show EvSt b g G R (str ([83, 84, 65, 84, 85, 83, 58] ++ [67, 65, 78, 67, 69, 76, 76, 69, 68]) :: str ([69, 78, 68, 58, 86, 69, 86, 69, 78, 84] ++ []) :: rest) z #[.string e.uid, .int .i64 e.seq, .bool false, .int .i64 e.days.first, .int .i64 e.days.last, .int .i64 e.days.every, .int .i64 e.days.wd, (.slice px e.days.ex.length cx), (.slice py e.days.xt.length cy), .int .i64 e.start, .int .i64 e.mins, .string e.summ, .string e.loc] rs w wc from by have h := HSc.out; rw [HL10.out] at h; unfold evC at h; rw [hcn] at h; exact h)
          obtain ⟨wn, hx⟩ : ∃ q, q = wc := ⟨_, rfl⟩
          clear HSc; rw [← hx] at HSn HXc HYc ⊢
          have HXn := HXc; have HYn := HYc; have HCN := Lib.hid hcn; clear hx HXc HYc hcn; go_wp2_with fail
          refine (take_line (k := [83, 84, 65, 84, 85, 83, 58]) (l := [67, 65, 78, 67, 69, 76, 76, 69, 68]) (xs := str ([69, 78, 68, 58, 86, 69, 86, 69, 78, 84] ++ []) :: rest) (by rfl) HSn.out HGb.out HRb.out).mono ?_
          rintro x wet1 ⟨rfl, hs, ho⟩; have HSet1 := Lib.hid hs; have HYet1 := Lib.hid (row_but HYn.out Hbw.out ho.but)
          have HXet1 := Lib.hid (row_but HXn.out Hbw.out ho.but)
          clear hs ho; clear HSn HYn HXn; have hq : ((str [67, 65, 78, 67, 69, 76, 76, 69, 68]).toList == [67, 65, 78, 67, 69, 76, 76, 69, 68]) = true := by rw [Lib.toList_data]; rfl
          have fz2 := HSet1.out.ev.frozen 2; have cz2 := HSet1.out.ev.cell 2; simp only [List.getElem?_toArray, List.getElem?_cons_zero, List.getElem?_cons_succ] at cz2
          go_wp2_with fail
          obtain ⟨wet2, hX⟩ : ∃ X, X = (wet1.setCell ⟨G, 2, none⟩ (.bool true)) := ⟨_, rfl⟩
          rw [← hX]; have HSet2 := Lib.hid (show EvSt b g G R (str ([69, 78, 68, 58, 86, 69, 86, 69, 78, 84] ++ []) :: rest) z #[.string e.uid, .int .i64 e.seq, .bool true, .int .i64 e.days.first, .int .i64 e.days.last, .int .i64 e.days.every, .int .i64 e.days.wd, (.slice px e.days.ex.length cx), (.slice py e.days.xt.length cy), .int .i64 e.start, .int .i64 e.mins, .string e.summ, .string e.loc] rs w wet2 from by rw [hX]; exact (HSet1.out.set HGb.out HGg.out HRG.out HG0.out 2 (.bool true)))
          have HYet2 := Lib.hid (show RowI w.heap.size wet2 (.slice py e.days.xt.length cy) e.days.xt from by rw [hX]; exact (HSet1.out.row HYet1.out 2 (.bool true)))
          have HXet2 := Lib.hid (show RowI w.heap.size wet2 (.slice px e.days.ex.length cx) e.days.ex from by rw [hX]; exact (HSet1.out.row HXet1.out 2 (.bool true)))
          clear hX fz2 cz2; clear HSet1 HYet1 HXet1; refine (take_line (k := [69, 78, 68, 58, 86, 69, 86, 69, 78, 84]) (l := []) (xs := rest) (by rfl) HSet2.out HGb.out HRb.out).mono ?_
          rintro x wet3 ⟨rfl, hs, ho⟩; have HSet3 := Lib.hid hs; have HYet3 := Lib.hid (row_but HYet2.out Hbw.out ho.but)
          have HXet3 := Lib.hid (row_but HXet2.out Hbw.out ho.but)
          clear hs ho; clear HSet2 HYet2 HXet2; have a0 := HSet3.out.ev.cell 0; have a1 := HSet3.out.ev.cell 1; have a2 := HSet3.out.ev.cell 2; have a3 := HSet3.out.ev.cell 3; have a4 := HSet3.out.ev.cell 4; have a5 := HSet3.out.ev.cell 5; have a6 := HSet3.out.ev.cell 6; have a7 := HSet3.out.ev.cell 7; have a8 := HSet3.out.ev.cell 8; have a9 := HSet3.out.ev.cell 9; have a10 := HSet3.out.ev.cell 10; have a11 := HSet3.out.ev.cell 11; have a12 := HSet3.out.ev.cell 12; have hres := HSet3.out.res; rw [HRS.out] at hres
          have f0 := hres.frozen 0; have f1 := hres.frozen 1; have f2 := hres.frozen 2; have f3 := hres.frozen 3; have f4 := hres.frozen 4; have f5 := hres.frozen 5; have f6 := hres.frozen 6; have f7 := hres.frozen 7; have f8 := hres.frozen 8; have f9 := hres.frozen 9; have f10 := hres.frozen 10; have f11 := hres.frozen 11; have f12 := hres.frozen 12; have o0 := hres.cell 0; have o1 := hres.cell 1; have o2 := hres.cell 2; have o3 := hres.cell 3; have o4 := hres.cell 4; have o5 := hres.cell 5; have o6 := hres.cell 6; have o7 := hres.cell 7; have o8 := hres.cell 8; have o9 := hres.cell 9; have o10 := hres.cell 10; have o11 := hres.cell 11; have o12 := hres.cell 12; clear hres; simp only [List.getElem?_toArray, List.getElem?_cons_zero, List.getElem?_cons_succ] at a0 a1 a2 a3 a4 a5 a6 a7 a8 a9 a10 a11 a12 o0 o1 o2 o3 o4 o5 o6 o7 o8 o9 o10 o11 o12
          go_wp2_with fail
          clear a0 f0 o0 a1 f1 o1 a2 f2 o2 a3 f3 o3 a4 f4 o4 a5 f5 o5 a6 f6 o6 a7 f7 o7 a8 f8 o8 a9 f9 o9 a10 f10 o10 a11 f11 o11 a12 f12 o12; have hse := HSet3.out; rw [HRS.out] at hse
          obtain ⟨hA, hB, hC, hD⟩ := EvSt.done (ds := [.string ⟨#[]⟩, .int .i64 0, .bool false, .int .i64 0, .int .i64 0, .int .i64 0, .int .i64 0, .slice none 0 0, .slice none 0 0, .int .i64 0, .int .i64 0, .string ⟨#[]⟩, .string ⟨#[]⟩]) (ks := [.string e.uid, .int .i64 e.seq, .bool true, .int .i64 e.days.first, .int .i64 e.days.last, .int .i64 e.days.every, .int .i64 e.days.wd, (.slice px e.days.ex.length cx), (.slice py e.days.xt.length cy), .int .i64 e.start, .int .i64 e.mins, .string e.summ, .string e.loc]) hse rfl HRb.out HRg.out HR0.out
          have hX := hD _ _ _ _ _ HXet3.out
          have hY := hD _ _ _ _ _ HYet3.out
          clear hD hse; obtain ⟨U, hU⟩ : ∃ U, U = (((((((((((((wet3.setCell ⟨R, 0, none⟩ (.string e.uid)).setCell ⟨R, 1, none⟩ (.int .i64 e.seq)).setCell ⟨R, 2, none⟩ (.bool true)).setCell ⟨R, 3, none⟩ (.int .i64 e.days.first)).setCell ⟨R, 4, none⟩ (.int .i64 e.days.last)).setCell ⟨R, 5, none⟩ (.int .i64 e.days.every)).setCell ⟨R, 6, none⟩ (.int .i64 e.days.wd)).setCell ⟨R, 7, none⟩ ((.slice px e.days.ex.length cx))).setCell ⟨R, 8, none⟩ ((.slice py e.days.xt.length cy))).setCell ⟨R, 9, none⟩ (.int .i64 e.start)).setCell ⟨R, 10, none⟩ (.int .i64 e.mins)).setCell ⟨R, 11, none⟩ (.string e.summ)).setCell ⟨R, 12, none⟩ (.string e.loc)) := ⟨_, rfl⟩
          rw [← hU]; rw [show setAll wet3 R 0 [.string e.uid, .int .i64 e.seq, .bool true, .int .i64 e.days.first, .int .i64 e.days.last, .int .i64 e.days.every, .int .i64 e.days.wd, (.slice px e.days.ex.length cx), (.slice py e.days.xt.length cy), .int .i64 e.start, .int .i64 e.mins, .string e.summ, .string e.loc] = U from by rw [hU]; rfl] at hA hB hC hX hY
          clear hU HSet3 HXet3 HYet3; have r0 := hA.cell 0; have r1 := hA.cell 1; have r2 := hA.cell 2; have r3 := hA.cell 3; have r4 := hA.cell 4; have r5 := hA.cell 5; have r6 := hA.cell 6; have r7 := hA.cell 7; have r8 := hA.cell 8; have r9 := hA.cell 9; have r10 := hA.cell 10; have r11 := hA.cell 11; have r12 := hA.cell 12; simp only [List.getElem?_toArray, List.getElem?_cons_zero, List.getElem?_cons_succ] at r0 r1 r2 r3 r4 r5 r6 r7 r8 r9 r10 r11 r12
          refine bodyPost_ret (v := .agg #[.string e.uid, .int .i64 e.seq, .bool true, .int .i64 e.days.first, .int .i64 e.days.last, .int .i64 e.days.every, .int .i64 e.days.wd, (.slice px e.days.ex.length cx), (.slice py e.days.xt.length cy), .int .i64 e.start, .int .i64 e.mins, .string e.summ, .string e.loc]) (by simp [results, Tryz.results108, go_sem, r0, r1, r2, r3, r4, r5, r6, r7, r8, r9, r10, r11, r12]) rfl ?_
          exact ⟨_, _, by unfold evVal evCells; rw [HCN.out], hX, hY, hB, hC⟩
end Go.Proofs.YtageielcdebjlaaGreatDoor
