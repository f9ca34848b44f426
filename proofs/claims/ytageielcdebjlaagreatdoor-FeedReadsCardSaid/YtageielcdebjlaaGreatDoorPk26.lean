/- feed.Parse (function 50) on any text: no feed, or a valid feed whose lines these are. Plain facts for timetableref40.Unfold: one line's end in the reading of a text. No program in sight. Condition: none. timetableref40.Unfold: its contract. UNDER WAY: does not build yet. -/
import Derived.Test.YtageielcdebjlaaGreatDoorPk21
import Derived.Test.YtageielcdebjlaaGreatDoorPk25
import Derived.Test.YtageielcdebjlaaGreatDoorUnfoldAll
import Derived.Test.YtageielcdebjlaaGreatDoorPk17
set_option maxRecDepth 100000
set_option maxHeartbeats 40000000
namespace Go.Proofs.YtageielcdebjlaaGreatDoor
open Go.RowKit
structure EvSL (p g M : Nat) (x0 : ByteArray) (rr : List ByteArray) (z : ByteArray) (l : Bool) (w x : World) : Prop where
 ahead : l = false -> ∃ o cap, Par p g o cap (x0 :: rr) z false x
 after : l = true -> ∃ us bd o cap, Left M rr us /\ Par p g o cap us z bd x
 but : But p w.heap.size w x
section
variable {p g M : Nat} {x0 : ByteArray} {rr : List ByteArray} {z : ByteArray} {l : Bool} {w x : World}
theorem EvSL.start (h : ∃ o cap, Par p g o cap (x0 :: rr) z false w) : EvSL p g M x0 rr z false w w.drew := by
 obtain ⟨o, cap, hp⟩ := h; exact ⟨fun _ => ⟨o, cap, hp.other rfl rfl⟩, fun h => (by cases h), but_draw (But.refl p _ w)⟩
theorem EvSL.alloc (h : EvSL p g M x0 rr z l w x) (o : Obj) (hg : g < w.heap.size) : EvSL p g M x0 rr z l w (x.alloc o) := by
 have hgx := Nat.lt_of_lt_of_le hg h.but.size; refine ⟨fun hl => ?_, fun hl => ?_, but_alloc h.but h.but.size o⟩
 ·obtain ⟨q, cap, hp⟩ := h.ahead hl; exact ⟨q, cap, hp.below (below_box x _) hgx⟩
 ·obtain ⟨us, bd, q, cap, hlf, hp⟩ := h.after hl; exact ⟨us, bd, q, cap, hlf, hp.below (below_box x _) hgx⟩
theorem EvSL.feed {n : ByteArray} {v : Int} {ev : Value} (h : EvSL p g M x0 rr z l w x) (hf : FeedB (p + 1) n v ev w) : FeedB (p + 1) n v ev x := hf.block (h.but.block (p + 1) hf.lt (by omega))
theorem EvSL.ev {m : Int} (h : EvSL p g M x0 rr z l w x) (hu : l = false) (hx0 : Lib.hasPrefix x0.data.toList [66, 69, 71, 73, 78, 58, 86, 69, 86, 69, 78, 84] = true) (hM : ∀ x ∈ rr, x.size <= M) (hM2 : M <= 262144) (hg : g < w.heap.size) (h3 : 3 < p) (hL : Lens w) (hE : Errs w) (hm : w.cell? ⟨0, 0, none⟩ = some (.int .i64 m)) (hz : z.size <= 1000) (hp : p < w.heap.size) :
  Calls Tryz.prog 108 #[.pointer (some ⟨p, 0, none⟩)] x fun e x1 => ∃ (ev : Ev) (pv pw : Option Addr) (cv cw : Nat), e = .returned (evVal ev (.slice pv ev.days.ex.length cv) (.slice pw ev.days.xt.length cw)) /\ EvB ev /\ RowI x.heap.size x1 (.slice pv ev.days.ex.length cv) ev.days.ex /\ RowI x.heap.size x1 (.slice pw ev.days.xt.length cw) ev.days.xt /\ EvSL p g M x0 rr z true w x1 /\ But p x.heap.size x x1 := by
 obtain ⟨o, cap, hpar⟩ := h.ahead hu; have hb := h.but.below (Nat.le_refl p) (Nat.le_of_lt hp); refine (event108L p g o cap M x0 rr m z x hpar hx0 hM hM2 (Nat.lt_of_lt_of_le hg h.but.size) h3 (hL.below h3 hb) (hE.below (by omega) hb) ((hb.cell (p := ⟨0, 0, none⟩) (by show 0 < p; omega)).trans hm) hz).mono ?_; rintro e x1 ⟨ev, pv, pw, cv, cw, us, bd, rfl, hEB, hX, hY, hl, ⟨o2, c2, hP⟩, hK⟩; exact ⟨ev, pv, pw, cv, cw, rfl, hEB, hX, hY, ⟨fun h => (by cases h), fun _ => ⟨us, bd, o2, c2, hl, hP⟩, but_then h.but hK h.but.size⟩, hK⟩
end
structure PsL (w0 : World) (R p g M : Nat) (xs us : List ByteArray) (z : ByteArray) (bad : Bool) (n : ByteArray) (v : Int) (ev : Value) (w : World) : Prop where
 par : ∃ o cap, Par p g o cap us z bad w
 left : Left M xs us
 feed : FeedB (p + 1) n v ev w
 res : FeedB R ⟨#[]⟩ 0 (.slice none 0 0) w
 txt : StrAt w (some ⟨g, 0, none⟩) xs
 below : Below R w0 w
 size : p + 2 <= w.heap.size
section
variable {w0 w : World} {R p g M : Nat} {xs us : List ByteArray} {z n : ByteArray} {bad : Bool} {v : Int} {ev : Value}
theorem PsL.kept {w' : World} {us' : List ByteArray} {bad' : Bool} (h : PsL w0 R p g M xs us z bad n v ev w) (hR : R < g) (hg : g < p) (hb : But p w.heap.size w w') (hp : ∃ o cap, Par p g o cap us' z bad' w') (hl : Left M us us') : PsL w0 R p g M xs us' z bad' n v ev w' := by
 have hs := h.size; exact ⟨hp, h.left.trans hl, h.feed.block (hb.block _ h.feed.lt (by omega)), h.res.block (hb.block _ h.res.lt (by omega)), strAt_block h.txt (hb.block g (by omega) (by omega)), h.below.trans (hb.below (by omega) (by omega)), Nat.le_trans hs hb.size⟩
theorem PsL.take (h : PsL w0 R p g M xs us z bad n v ev w) (hR : R < g) (hg : g < p) (hM : ∀ x ∈ xs, x.size <= M) (K : ByteArray) :
  Calls Tryz.prog 105 #[.pointer (some ⟨p, 0, none⟩), .string K] w fun e w' => ∃ (r : ByteArray) (us' : List ByteArray) (c : Bool), e = .returned (.string r) /\ r.size <= M /\ PsL w0 R p g M xs us' z c n v ev w' := by
 obtain ⟨o, cap, hp⟩ := h.par; refine (take105L p g o cap M us z K bad w hp (h.left.sz hM)).mono ?_; rintro e w' ⟨r, us', c, rfl, hr, hl, hc, hq, ho⟩; exact ⟨r, us', c, rfl, hr, h.kept hR hg ho.but hq hl⟩
theorem PsL.num (h : PsL w0 R p g M xs us z bad n v ev w) (hR : R < g) (hg : g < p) (s : ByteArray) (hs : s.size <= 281474976710656) (hE : Errs w) :
  Calls Tryz.prog 106 #[.pointer (some ⟨p, 0, none⟩), .string s] w fun e w' => ∃ (k : Int) (c : Bool), e = .returned (.int .i64 k) /\ PsL w0 R p g M xs us z c n v ev w' := by
 obtain ⟨o, cap, hp⟩ := h.par; have hz := h.size; refine (number106L p g o cap us z s bad w hp (by omega) hs hE).mono ?_; rintro e w' ⟨k, c, rfl, hc, hq, ho⟩; exact ⟨k, c, rfl, h.kept hR hg ho ⟨_, _, hq⟩ (Left.refl _ _)⟩
theorem PsL.setf {n' : ByteArray} {v' : Int} {ev' : Value} (h : PsL w0 R p g M xs us z bad n v ev w) (hR : R < g) (hg : g < p) (i : Nat) (u : Value) (hf : FeedB (p + 1) n' v' ev' (w.setCell ⟨p + 1, i, none⟩ u)) : PsL w0 R p g M xs us z bad n' v' ev' (w.setCell ⟨p + 1, i, none⟩ u) := by
 obtain ⟨o, cap, hp⟩ := h.par; have q : ∀ k, k ≠ p + 1 -> (w.setCell ⟨p + 1, i, none⟩ u).heap[k]? = w.heap[k]? := fun k hk => Below.heap_setCell _ _ _ _ hk
 exact ⟨⟨o, cap, hp.set (by omega) (by omega) i u⟩, h.left, hf, h.res.block (q R (by omega)), strAt_block h.txt (q g (by omega)), h.below.setCell (show R <= p + 1 by omega) _, by simpa [World.setCell] using h.size⟩
theorem PsL.badc (h : PsL w0 R p g M xs us z bad n v ev w) : w.cell? ⟨p, 2, none⟩ = some (.bool bad) := by
 obtain ⟨o, cap, hp⟩ := h.par; exact hp.c2
theorem PsL.see (h : PsL w0 R p g M xs us z bad n v ev w) (K : ByteArray) :
  Calls Tryz.prog 107 #[.pointer (some ⟨p, 0, none⟩), .string K] w fun e w' => ∃ (q : ByteArray) (c : Bool), e = .returned (.tuple #[.string q, .bool c]) /\ w' = w /\ (c = true -> ∃ x r, us = x :: r /\ Lib.hasPrefix x.data.toList K.data.toList = true) := by
 obtain ⟨o, cap, hp⟩ := h.par; cases us with
 | nil => exact (see_end p g o cap z K bad w hp).mono fun e w' hh => ⟨_, _, hh.1, hh.2, fun h => (by cases h)⟩
 | cons x r => exact (see_any p g o cap x r z K bad w hp).mono fun e w' hh => ⟨_, _, hh.1, hh.2, fun h => ⟨x, r, rfl, h⟩⟩
end
def linesLeft (p : Nat) (w : World) : Nat := match w.cell? ⟨p, 0, none⟩ with
 | some (.slice _ k _) => k
 | _ => 0
theorem linesLeft_par {p g o cap : Nat} {us : List ByteArray} {z : ByteArray} {bad : Bool} {w : World} (h : Par p g o cap us z bad w) : linesLeft p w = us.length := by
 unfold linesLeft; rw [h.c0]
def ParsedL (z : ByteArray) (xs : List ByteArray) (w : World) (x : Ending) (w' : World) : Prop :=
 (x = .returned (.tuple #[.agg #[.string ⟨#[]⟩, .int .i64 0, .slice none 0 0], .int .i64 15]) /\ Below w.heap.size w w') ∨
 ∃ (n : ByteArray) (v : Int) (pu : Option Addr) (cu : Nat) (ts : List (Ev × Value × Value)), x = .returned (.tuple #[.agg #[.string n, .int .i64 v, .slice pu ts.length cu], .int .i64 0]) /\ feedV n v (ts.map (·.1)) = 0 /\ (feedL n.data.toList v (ts.map (·.1)) z.data.toList).map str = xs /\ RowT w.heap.size w' (.slice pu ts.length cu) ts /\ Below w.heap.size w w'
theorem parse50L (s z : ByteArray) (m : Int) (ls : List (List UInt8)) (w : World) (hs : s.size <= 262144) (hzc : Tt.code z.data.toList = true) (hu : Tt.unf s.data.toList = some ls) (hm : w.cell? ⟨0, 0, none⟩ = some (.int .i64 m)) (hL : Lens w) (hE : Errs w) (hPw : Pow w) (h6 : 6 < w.heap.size) :
  Calls Tryz.prog 50 #[.string s, .string z] w (ParsedL z (keepX (ls.map str)) w) := by
 have HZ := Lh hzc; have hz : z.size <= 1000 := Nat.le_trans (code_size hzc) (by decide); obtain ⟨xs, hxs⟩ : ∃ xs, xs = keepX (ls.map str) := ⟨_, rfl⟩
 obtain ⟨M, hMM⟩ : ∃ M, M = s.size := ⟨_, rfl⟩
 have hM2 : M <= 262144 := by omega
 have HSM := Lh (show ∀ x ∈ xs, x.size <= M from by
  intro x hx; rw [hxs] at hx; obtain ⟨l, hl, rfl⟩ := List.mem_map.1 (List.mem_filter.1 hx).1; rw [show (str l).size = l.length from size_mk _, hMM, Lib.size_eq]; exact Tt.unf_bound hu l hl)
 have HKX := Lh (show keepX (ls.map str) = xs from hxs.symm); rw [<- hxs]; have HU := Lh hu; have HLW := Lh hL; have HEW := Lh hE; have HPW := Lh hPw; have HM := Lh hm; have H6 := Lh h6; have L0 : Below w.heap.size w (w.alloc (.cells #[.string ⟨#[]⟩, .int .i64 0, .slice none 0 0] 26)) := (Below.refl _ w).alloc (Nat.le_refl _) _; have R0 : FeedB w.heap.size ⟨#[]⟩ 0 (.slice none 0 0) (w.alloc (.cells #[.string ⟨#[]⟩, .int .i64 0, .slice none 0 0] 26)) := heap_alloc_new w _; have hm0 := (L0.cell (p := ⟨0, 0, none⟩) (show 0 < w.heap.size by omega)).trans hm; have hsi : ¬ ((262144 : Int) < (s.size : Int)) := by omega
 clear hzc hu hm hL hE hPw hxs hMM; go_enter Tryz.func50, Tryz.ntmps50; go_wp2_with fail; refine (code_any _ _).mono ?_; rintro e w1 ⟨rfl, hw⟩; rw [hw]; clear hw w1; rw [HZ.out]; go_wp2_with fail; refine (unfold_any s (by omega) _ m hm0).mono ?_; rintro e w1 ⟨hU, hb1⟩; obtain ⟨g, cap, ys, hys, rfl, hstr, hg1, hg2, hcap, hyl, hfz⟩ : ∃ (g cap : Nat) (ys : List ByteArray), ys = ls.map str /\ e = .returned (.tuple #[.slice (some ⟨g, 0, none⟩) ys.length cap, .bool true]) /\ StrAt w1 (some ⟨g, 0, none⟩) ys /\ w.heap.size + 1 <= g /\ g < w1.heap.size /\ ys.length <= cap /\ ys.length <= s.size + 1 /\ ∀ j, w1.frozen? ⟨g, j, none⟩ = false := by
  rcases hU with ⟨h1, _⟩ | ⟨g, cap, ys, h1, h2, h3, h4, h5, h6, h7, t, cs, h8⟩
  ·rw [HU.out] at h1; cases h1
  ·rw [HU.out] at h1; exact ⟨g, cap, ys, map_data_inj (by rw [<- Option.some.inj h1]; simp [List.map_map, Function.comp_def, str]), h2, h3, by simpa using h4, h5, h6, by rw [Lib.size_eq]; exact h7, fun j => Lib.frozen_of_heap h8 j⟩
 have HYS := Lh hys; have hkk : keepX ys = xs := by rw [hys]; exact HKX.out
 have HSTR := Lh hstr; have L1 := L0.trans (hb1.mono (by simp)); have R1 : FeedB w.heap.size ⟨#[]⟩ 0 (.slice none 0 0) w1 := (hb1.block _ (by simp)).trans R0; have s1 : w.heap.size + 1 <= w1.heap.size := by have := hb1.size; simpa using this
 have HFZ := Lh hfz; have HKK := Lh hkk; clear hstr hm0 L0 R0 hb1 hU hys hfz hkk; go_wp2_with fail; refine (delete102 g cap ys _ (by omega) hcap HSTR.out HFZ.out).mono ?_; rintro e w2 ⟨rfl, hstr, ho2⟩; rw [HKK.out] at hstr ⊢; have hxy : xs.length <= ys.length := by rw [<- HKK.out]; exact List.length_filter_le _ _
 have L1 := L1.trans (ho2.below (show w.heap.size <= g by omega)); have R1 := R1.block (ho2.2.2.2.2 w.heap.size (by omega)); have hg2 : g < w2.heap.size := by rw [ho2.2.2.2.1]; exact hg2
 have s1 : w.heap.size + 1 <= w2.heap.size := by rw [ho2.2.2.2.1]; exact s1
 obtain ⟨w1, hw12⟩ : ∃ q, q = w2 := ⟨_, rfl⟩
 rw [<- hw12] at hstr L1 R1 hg2 s1 ⊢; have HSTR := Lh hstr; clear hstr ho2 hw12 HFZ HKK; go_wp2_with fail; obtain ⟨W, hW, P0, F0, R2, L2, T2, s2⟩ := parse_start w.heap.size g cap xs z w w1 0 hg1 hg2 (by omega) HSTR.out L1 R1; rw [show w1.drewN 0 = w1 from rfl] at hW; have HW := Lh hW; obtain ⟨p, hp⟩ : ∃ p, p = w1.heap.size := ⟨_, rfl⟩
 have HPP := Lh hp; rw [<- HPP.out] at P0 F0 s2 s1 hg2; have hRg : w.heap.size < g := by omega
 have hgp2 : g < p := hg2; have HS2 := Lh (show PsL w w.heap.size p g M xs xs z false ⟨#[]⟩ 0 (.slice none 0 0) W from ⟨⟨0, cap, P0⟩, Left.refl _ _, F0, R2, T2, L2, s2⟩); clear hW hp P0 L1 R1 F0 R2 L2 T2 s2; rw [<- HW.out, <- HPP.out]; refine (HS2.out.take hRg hgp2 HSM.out _).mono ?_; rintro e w3 ⟨r3, y3, b3, rfl, hr3, hs⟩; have HS3 := Lh hs; clear hs HS2; go_wp2_with fail; refine (HS3.out.take hRg hgp2 HSM.out _).mono ?_; rintro e w4 ⟨r4, y4, b4, rfl, hr4, hs⟩; have HS4 := Lh hs; clear hs HS3; go_wp2_with fail; refine (HS4.out.take hRg hgp2 HSM.out _).mono ?_; rintro e w5 ⟨r5, y5, b5, rfl, hr5, hs⟩; have HS5 := Lh hs; clear hs HS4; go_wp2_with fail; refine (HS5.out.take hRg hgp2 HSM.out _).mono ?_; rintro e w6 ⟨r6, y6, b6, rfl, hr6, hs⟩; have HS6 := Lh hs; clear hs HS5; have hf := HS6.out.feed.fr 0; have cf := HS6.out.feed.c0; go_wp2_with fail; obtain ⟨w7, hw7⟩ : ∃ w7, w7 = w6.setCell ⟨p + 1, 0, none⟩ (.string r6) := ⟨_, rfl⟩
 rw [<- hw7]; have HS7 := Lh (show PsL w w.heap.size p g M xs y6 z b6 r6 0 (.slice none 0 0) w7 from by rw [hw7]; exact HS6.out.setf hRg hgp2 0 _ HS6.out.feed.name); clear hf cf hw7 HS6; refine (HS7.out.take hRg hgp2 HSM.out _).mono ?_; rintro e w8 ⟨r8, y8, b8, rfl, hr8, hs⟩; have HS8 := Lh hs; clear hs HS7; go_wp2_with fail; refine (HS8.out.num hRg hgp2 _ (by omega) (HEW.out.below (by omega) HS8.out.below)).mono ?_; rintro e w9 ⟨v, b9, rfl, hs⟩; have HS9 := Lh hs; clear hs HS8; have hf := HS9.out.feed.fr 1; have cf := HS9.out.feed.c1; go_upto_block 1 with fail
 obtain ⟨w10, hw10⟩ : ∃ w10, w10 = w9.setCell ⟨p + 1, 1, none⟩ (.int .i64 v) := ⟨_, rfl⟩
 rw [<- hw10]; obtain ⟨n, hn⟩ : ∃ n, n = r6 := ⟨_, rfl⟩
 have HNR := Lh hn; have HS10 := Lh (show PsL w w.heap.size p g M xs y8 z b9 n v (.slice none 0 0) w10 from by rw [hw10, hn]; exact HS9.out.setf hRg hgp2 1 _ HS9.out.feed.rev); clear hf cf hw10 HS9 hn; obtain ⟨i0, hi, hz0, hz1, hz2⟩ := info_parts infoEv; have hfg : p + 1 ≠ g := by omega
 have hp3 : 3 < p := by omega
 go_loopw [] (fun wx => ∃ (pu : Option Addr) (cu : Nat) (ts : List (Ev × Value × Value)) (us : List ByteArray) (bd : Bool), ts.length + us.length <= 300000 /\ Hid (PsL w w.heap.size p g M xs us z bd n v (.slice pu ts.length cu) wx) /\ Hid (RowT (p + 2) wx (.slice pu ts.length cu) ts)) (fun wx => linesLeft p wx)
 case atStart => exact ⟨none, 0, [], y8, b9, by have := HS10.out.left.le; simp; omega, HS10, Lh (RowT.nil _ _)⟩
 case round =>
  clear HS10; obtain ⟨pu, cu, ts, us, bd, hlen, HS, HT⟩ := hrel; have hRw := HS.out.size; have hbad := HS.out.badc; cases bd
  ·go_wp2_with fail; refine (HS.out.see _).mono ?_; rintro e wq ⟨q, c, rfl, hx, hc⟩; rw [hx]; have HCC := Lh hc; clear hx wq hc; cases c
   ·obtain ⟨es, hes⟩ : ∃ es, es = ts.map (·.1) := ⟨_, rfl⟩
    have HES := Lh hes; clear hes; obtain ⟨pa, ca, hva, -, hseg⟩ := HT.out.seg; cases hva; have HEVS : Hid (Evs wr.heap.size wr pu es) := Lh (by rw [HES.out]; exact hseg.evs); have hel : ts.length = es.length := by rw [HES.out, List.length_map]
    have HEL := Lh hel; clear hseg hel HCC; obtain ⟨E, hE⟩ : ∃ E, E = feedV n v es := ⟨_, rfl⟩
    have HE2 := Lh hE; have HV : Hid (∀ W, Below wr.heap.size wr W -> Calls Tryz.prog 46 #[.agg #[.string n, .int .i64 v, .slice pu ts.length cu]] W fun e w' => e = .returned (.int .i64 E) /\ Below W.heap.size W w') := Lh (fun W hW => by
     have h := valid46 n v es pu cu wr.heap.size W hW.size (HEVS.out.below hW) (by have := HEL.out; omega); rw [<- hE, <- HEL.out] at h; exact h)
    clear hE; have cf0 := HS.out.feed.c0; have cf1 := HS.out.feed.c1; have cf2 := HS.out.feed.c2; have hpe : Hid (∀ W, Below wr.heap.size wr W -> PsL w w.heap.size p g M xs us z false n v (.slice pu ts.length cu) W) := Lh (fun W hW => by obtain ⟨o, c, h⟩ := HS.out.par; exact HS.out.kept hRg hgp2 (But.of_below hW) ⟨o, c, h.below hW (by omega)⟩ (Left.refl _ _)); go_wp2_with fail; refine (HV.out _ (Below.refl _ _)).mono ?_; rintro e w11 ⟨rfl, hb11⟩; have HS11 := Lh (hpe.out w11 hb11); have HB11 := Lh hb11; clear hb11 cf0 cf1 cf2 HV hbad; by_cases hE0 : E = 0
    ·subst hE0; have HFV := Lh (show feedV n v es = 0 from HE2.out.symm); obtain ⟨hfl, hfn⟩ := feedL_lines (n := n) HFV.out HZ.out; obtain ⟨fs, hfs⟩ : ∃ fs, fs = (feedL n.data.toList v es z.data.toList).map str := ⟨_, rfl⟩
     have hfn : fs.length <= 4000 := by rw [hfs]; exact hfn
     have HFS := Lh hfs; clear hfl hfs; have HWR : Hid (Calls Tryz.prog 100 #[.agg #[.string n, .int .i64 v, .slice pu ts.length cu], .string z] w11 fun e w' => ∃ g cap, e = .returned (.slice (some ⟨g, 0, none⟩) fs.length cap) /\ StrAt w' (some ⟨g, 0, none⟩) fs /\ Below w11.heap.size w11 w') := Lh (by
      have h := written100 n v pu cu es z wr.heap.size w11 HB11.out.size (HEVS.out.below HB11.out) HFV.out HZ.out (HLW.out.below (by omega) HS11.out.below) (HPW.out.below H6.out HS11.out.below) (by have := HS11.out.size; omega); rw [show es.length = ts.length from HEL.out.symm] at h; refine h.mono ?_; rintro e w' ⟨g2, cap2, rfl, h1, _, _, _, h2⟩; refine ⟨g2, cap2, ?_, by rw [HFS.out]; exact h1, h2⟩; rw [HFS.out, List.length_map])
     have cf0 := HS11.out.feed.c0; have cf1 := HS11.out.feed.c1; have cf2 := HS11.out.feed.c2; go_wp2_with fail; refine HWR.out.mono ?_; rintro e w12 ⟨g2, cap2, rfl, HT2, hb12⟩; have HB12 := Lh (HB11.out.trans (hb12.mono HB11.out.size)); have hTT := Lh HT2; have HS12 := Lh (hpe.out w12 HB12.out); clear cf0 cf1 cf2 hb12 HT2 HWR; have hxl := HS.out.left; go_wp2_with fail; refine (equal_any _ _ _ _ _ _ fs xs rfl rfl (by omega) (by omega) w12 hTT.out HS12.out.txt).mono ?_; rintro e w13 ⟨rfl, q2, hw⟩; rw [hw]; clear hw w13 hxl; have HB13 : Hid (Below wr.heap.size wr (w12.drewN q2)) := Lh (HB12.out.trans ⟨rfl, rfl, rfl, Nat.le_refl _, fun k hk => rfl⟩); obtain ⟨w13, hw⟩ : ∃ w13, w13 = w12.drewN q2 := ⟨_, rfl⟩
     rw [<- hw] at HB13 ⊢; have HS13 := Lh (hpe.out w13 HB13.out); have HT13 := Lh (HT.out.made HB13.out); clear hw hTT HB12 HS12 HS11; by_cases hfx : fs = xs
     ·rw [decide_eq_true hfx]; have HFX := Lh hfx; clear hfx; have cf0 := HS13.out.feed.c0; have cf1 := HS13.out.feed.c1; have cf2 := HS13.out.feed.c2; have hres := HS13.out.res; have cr0 := hres.c0; have cr1 := hres.c1; have cr2 := hres.c2; have fr0 := hres.fr 0; have fr1 := hres.fr 1; have fr2 := hres.fr 2; go_wp2_with fail; obtain ⟨w14, hw⟩ : ∃ w14, w14 = ((w13.setCell ⟨w.heap.size, 0, none⟩ (.string n)).setCell ⟨w.heap.size, 1, none⟩ (.int .i64 v)).setCell ⟨w.heap.size, 2, none⟩ (.slice pu ts.length cu) := ⟨_, rfl⟩
      rw [<- hw]; have R14 : FeedB w.heap.size n v (.slice pu ts.length cu) w14 := by rw [hw]; exact hres.name.rev.evs
      have L14 : Below w.heap.size w w14 := by rw [hw]; exact ((HS13.out.below.setCell (Nat.le_refl _) _).setCell (Nat.le_refl _) _).setCell (Nat.le_refl _) _
      have T14 : RowT (p + 2) w14 (.slice pu ts.length cu) ts := by rw [hw]; exact ((HT13.out.set (show Blk w.heap.size _ 26 w13 from hres) (by decide) (by decide) 0 _).set (show Blk w.heap.size _ 26 _ from hres.name) (by decide) (by decide) 1 _).set (show Blk w.heap.size _ 26 _ from hres.name.rev) (by decide) (by decide) 2 _
      clear hw cf0 cf1 cf2 cr0 cr1 cr2 fr0 fr1 fr2 hres; have cr0 := R14.c0; have cr1 := R14.c1; have cr2 := R14.c2; refine bodyPost_ret (v := .tuple #[.agg #[.string n, .int .i64 v, .slice pu ts.length cu], .int .i64 0]) (by simp [results, Tryz.results50, go_sem, cr0, cr1, cr2]) rfl ?_; exact .inr ⟨n, v, pu, cu, ts, rfl, by rw [<- HES.out]; exact HFV.out, by rw [<- HES.out, <- HFS.out]; exact HFX.out, T14.mono (by omega), L14⟩
     ·rw [decide_eq_false hfx]; clear hfx; have hres := HS13.out.res; have er0 := hres.fr 0; have er1 := hres.fr 1; have er2 := hres.fr 2; have ec0 := hres.c0; have ec1 := hres.c1; have ec2 := hres.c2; go_wp2_with fail; obtain ⟨Y, hY⟩ : ∃ Y, Y = (((w13.setCell ⟨w.heap.size, 0, none⟩ (.string ⟨#[]⟩)).setCell ⟨w.heap.size, 1, none⟩ (.int .i64 0)).setCell ⟨w.heap.size, 2, none⟩ (.slice none 0 0)) := ⟨_, rfl⟩
      rw [<- hY]; have hB : FeedB w.heap.size ⟨#[]⟩ 0 (.slice none 0 0) Y := by rw [hY]; exact hres.name.rev.evs
      have hE : Below w.heap.size w Y := by rw [hY]; exact ((HS13.out.below.setCell (Nat.le_refl _) _).setCell (Nat.le_refl _) _).setCell (Nat.le_refl _) _
      clear hY hres er0 er1 er2 ec0 ec1 ec2; have rr0 := hB.c0; have rr1 := hB.c1; have rr2 := hB.c2; refine bodyPost_ret (v := .tuple #[.agg #[.string ⟨#[]⟩, .int .i64 0, .slice none 0 0], .int .i64 15]) (by simp [results, Tryz.results50, go_sem, rr0, rr1, rr2]) rfl ?_; exact .inl ⟨rfl, hE⟩
    ·have hq0 : (E != 0) = true := by simp [hE0]
     clear hE0; have hres := HS11.out.res; have er0 := hres.fr 0; have er1 := hres.fr 1; have er2 := hres.fr 2; have ec0 := hres.c0; have ec1 := hres.c1; have ec2 := hres.c2; go_wp2_with fail; obtain ⟨Y, hY⟩ : ∃ Y, Y = (((w11.setCell ⟨w.heap.size, 0, none⟩ (.string ⟨#[]⟩)).setCell ⟨w.heap.size, 1, none⟩ (.int .i64 0)).setCell ⟨w.heap.size, 2, none⟩ (.slice none 0 0)) := ⟨_, rfl⟩
     rw [<- hY]; have hB : FeedB w.heap.size ⟨#[]⟩ 0 (.slice none 0 0) Y := by rw [hY]; exact hres.name.rev.evs
     have hE : Below w.heap.size w Y := by rw [hY]; exact ((HS11.out.below.setCell (Nat.le_refl _) _).setCell (Nat.le_refl _) _).setCell (Nat.le_refl _) _
     clear hY hres er0 er1 er2 ec0 ec1 ec2; have rr0 := hB.c0; have rr1 := hB.c1; have rr2 := hB.c2; refine bodyPost_ret (v := .tuple #[.agg #[.string ⟨#[]⟩, .int .i64 0, .slice none 0 0], .int .i64 15]) (by simp [results, Tryz.results50, go_sem, rr0, rr1, rr2]) rfl ?_; exact .inl ⟨rfl, hE⟩
   ·go_upto_region 19 with (fail); obtain ⟨x0, rr, hus, hx0⟩ := HCC.out (by first | rfl | trivial); subst hus; have HX0 := Lh hx0; have HP := Lh HS.out.par; have HF := Lh HS.out.feed; have HMR := Lh (fun x hx => HS.out.left.sz HSM.out x (List.mem_cons_of_mem _ hx)); have hpw : p < wr.heap.size := by omega
    have hpw2 : p <= wr.heap.size := by omega
    have HGW := Lh (show g < wr.heap.size by omega); have HLWr := Lh (HLW.out.below (by omega) HS.out.below); have HEWr := Lh (HEW.out.below (by omega) HS.out.below); have HMWr := Lh ((HS.out.below.cell (p := ⟨0, 0, none⟩) (show 0 < w.heap.size by omega)).trans HM.out); have hts : ts.length <= 300000 := by omega
    have HLL := Lh (show linesLeft p wr = rr.length + 1 from by obtain ⟨o, c, h⟩ := HP.out; exact linesLeft_par h); have hl2 : ts.length + (rr.length + 1) <= 300000 := hlen; have HSS := Lh (show Left M xs (x0 :: rr) /\ FeedB w.heap.size ⟨#[]⟩ 0 (.slice none 0 0) wr /\ StrAt wr (some ⟨g, 0, none⟩) xs /\ Below w.heap.size w wr from ⟨HS.out.left, HS.out.res, HS.out.txt, HS.out.below⟩); clear HS hx0 hbad HCC hlen; refine wp_region_tail 5 (by kernel_rfl) (fun listed a x => ∃ (l0 l1 l2 l3 l4 : Bool) (t60 t61 t62 t63 t64 : Value), listed = #[l0, l1, l2, l3, l4, false, false, false] /\ a = ⟨(.string s :: .string z :: undef :: undef :: .pointer (some ⟨w.heap.size, 0, none⟩) :: .int .i64 0 :: .slice (some ⟨g, 0, none⟩) xs.length cap :: .bool true :: .pointer (some ⟨p, 0, none⟩) :: .pointer (some ⟨p + 1, 0, none⟩) :: .string q :: .bool true :: .string s :: .int .i64 s.size :: .bool false :: undef :: .string z :: .bool true :: .bool false :: undef :: .tuple #[.slice (some ⟨g, 0, none⟩) ys.length cap, .bool true] :: .string s :: .tuple #[.slice (some ⟨g, 0, none⟩) ys.length cap, .bool true] :: .slice (some ⟨g, 0, none⟩) ys.length cap :: .bool true :: .bool true :: .bool false :: undef :: .slice (some ⟨g, 0, none⟩) ys.length cap :: .slice (some ⟨g, 0, none⟩) xs.length cap :: .slice (some ⟨g, 0, none⟩) xs.length cap :: .string z :: .agg #[.slice (some ⟨g, 0, none⟩) xs.length cap, .string z, .bool false] :: .pointer (some ⟨p, 0, none⟩) :: .pointer (some ⟨p, 0, none⟩) :: .string r3 :: .pointer (some ⟨p, 0, none⟩) :: .string r4 :: .pointer (some ⟨p, 0, none⟩) :: .string r5 :: .pointer (some ⟨p, 0, none⟩) :: .string r6 :: .pointer (some ⟨p + 1, 0, none⟩) :: .pointer (some ⟨p, 0, none⟩) :: .pointer (some ⟨p, 0, none⟩) :: .string r8 :: .int .i64 v :: .pointer (some ⟨p + 1, 1, none⟩) :: .pointer (some ⟨p, 0, none⟩) :: .pointer (some ⟨p, 0, none⟩) :: .pointer (some ⟨p, 2, none⟩) :: .bool false :: .bool true :: .tuple #[.string q, .bool true] :: .pointer (some ⟨p, 0, none⟩) :: .tuple #[.string q, .bool true] :: .string q :: .bool true :: .bool true :: .bool false :: t60 :: t61 :: t62 :: t63 :: t64 :: u65 :: u66 :: undef :: undef :: undef :: undef :: undef :: undef :: undef :: undef :: undef :: undef :: undef :: undef :: undef :: undef :: undef :: undef :: undef :: undef :: undef :: []).toArray, []⟩ /\ Hid (l0 = true -> t60 = .pointer (some ⟨p + 1, 2, none⟩)) /\ Hid (l1 = true -> t61 = .slice pu ts.length cu) /\ Hid (l2 = true -> t62 = .pointer (some ⟨p, 0, none⟩)) /\ Hid (l3 = true -> l4 = false -> ∃ (ev : Ev) (pv : Option Addr) (cv : Nat) (pw : Option Addr) (cw : Nat), t63 = evVal ev (.slice pv ev.days.ex.length cv) (.slice pw ev.days.xt.length cw) /\ RowI wr.heap.size x (.slice pv ev.days.ex.length cv) ev.days.ex /\ RowI wr.heap.size x (.slice pw ev.days.xt.length cw) ev.days.xt /\ EvB ev) /\ Hid (l4 = true -> ∃ (ev : Ev) (pv : Option Addr) (cv : Nat) (pw : Option Addr) (cw : Nat) (gg : Nat), t64 = .slice (some ⟨gg, 0, none⟩) 1 1 /\ wr.heap.size <= gg /\ Blk gg (evCells ev (.slice pv ev.days.ex.length cv) (.slice pw ev.days.xt.length cw)) 82 x /\ RowI wr.heap.size x (.slice pv ev.days.ex.length cv) ev.days.ex /\ RowI wr.heap.size x (.slice pw ev.days.xt.length cw) ev.days.xt /\ EvB ev) /\ Hid (EvSL p g M x0 rr z l3 wr x)) (by decide) (by kernel_rfl) (by kernel_rfl) ?_ ?_ ?_ ?_
    ·exact ⟨false, false, false, false, false, _, _, _, _, _, rfl, rfl, Lh (fun h => by cases h), Lh (fun h => by cases h), Lh (fun h => by cases h), Lh (fun h => by cases h), Lh (fun h => by cases h), Lh (EvSL.start HP.out)⟩
    ·intro listed a x hj; obtain ⟨l0, l1, l2, l3, l4, t60, hj⟩ := hj; obtain ⟨t61, t62, t63, t64, hj⟩ := hj; obtain ⟨h1, -⟩ := hj; subst h1; exact ⟨rfl, fun k h1 h2 => by (have h2 : k < 8 := h2); rcases (show k = 5 ∨ k = 6 ∨ k = 7 by omega) with rfl | rfl | rfl <;> rfl⟩
    ·intro listed a x i hj hlt hu haf; obtain ⟨l0, l1, l2, l3, l4, t60, hj⟩ := hj; obtain ⟨t61, t62, t63, t64, hl_, ha_, hj⟩ := hj; obtain ⟨H0, H1, H2, H3, H4, hj⟩ := hj; have HS := hj; clear hj; subst hl_; subst ha_; rcases (show ∀ i : Nat, i < 5 -> (i = 0 ∨ i = 1 ∨ i = 2 ∨ i = 3 ∨ i = 4) by decide) i hlt with rfl | rfl | rfl | rfl | rfl
     ·have haf := haf _ rfl; clear haf; have hu : l0 = false := hu; refine wpOp_of_list_any rfl fun QQ hQ => ?_
      have hQQ := Lh hQ; clear hQ; simp only [eT, eZ]; go_wp2_with fail; exact hQQ.out _ _ ⟨true, l1, l2, l3, l4, _, _, _, _, _, rfl, rfl, Lh (fun _ => rfl), H1, H2, H3, H4, HS⟩
     ·have haf := haf _ rfl; have q0 : l0 = true := haf ⟨0, Go.Ground.data⟩ (by simp) rfl; clear haf; have hu : l1 = false := hu; have e0 := (H0.out q0)
      subst e0; clear H0; have hc := (HS.out.feed HF.out).c2; refine wpOp_of_list_any rfl fun QQ hQ => ?_
      have hQQ := Lh hQ; clear hQ; simp only [eT, eZ, eS]; go_wp2_with fail; exact hQQ.out _ _ ⟨l0, true, l2, l3, l4, _, _, _, _, _, rfl, rfl, Lh (fun _ => rfl), Lh (fun _ => rfl), H2, H3, H4, HS⟩
     ·have haf := haf _ rfl; clear haf; have hu : l2 = false := hu; refine wpOp_of_list_any rfl fun QQ hQ => ?_
      have hQQ := Lh hQ; clear hQ; simp only [eT, eZ, eS]; go_wp2_with fail; exact hQQ.out _ _ ⟨l0, l1, true, l3, l4, _, _, _, _, _, rfl, rfl, H0, H1, Lh (fun _ => rfl), H3, H4, HS⟩
     ·have haf := haf _ rfl; have q2 : l2 = true := haf ⟨2, Go.Ground.data⟩ (by simp) rfl; clear haf; have hu : l3 = false := hu; have e2 := (H2.out q2)
      subst e2; clear H2; refine wpOp_of_list_any rfl fun QQ hQ => ?_
      have hQQ := Lh hQ; clear hQ; simp only [eT, eZ, eS]; go_wp2_with fail; refine (HS.out.ev hu HX0.out HMR.out hM2 HGW.out hp3 HLWr.out HEWr.out HMWr.out hz hpw).mono ?_; rintro e x1 ⟨ev, pv, pw, cv, cw, rfl, hEB, hX, hY, hS1, hK1⟩; have hk := Kept.but hK1 hpw; have HX1 := Lh (show RowI wr.heap.size x1 (.slice pv ev.days.ex.length cv) ev.days.ex from ownsRow_mono hX HS.out.but.size); have HY1 := Lh (show RowI wr.heap.size x1 (.slice pw ev.days.xt.length cw) ev.days.xt from ownsRow_mono hY HS.out.but.size); have HS1 := Lh hS1; have HEB1 := Lh hEB; clear hX hY hS1 hK1 hEB; go_wp2_with fail; exact hQQ.out _ _ ⟨l0, l1, l2, true, l4, _, _, _, _, _, rfl, rfl, H0, H1, Lh (fun _ => rfl), Lh (fun _ _ => ⟨ev, pv, cv, pw, cw, rfl, HX1.out, HY1.out, HEB1.out⟩), Lh (fun h => (by obtain ⟨ev, pv, cv, pw, cw, gg, e, c0, c1, c2, c3, c4⟩ := H4.out h; exact ⟨ev, pv, cv, pw, cw, gg, e, c0, (hk _ _ _ c0 c1), (row_kept c2 hk), (row_kept c3 hk), c4⟩)), HS1⟩
     ·have haf := haf _ rfl; have q3 : l3 = true := haf ⟨3, Go.Ground.data⟩ (by simp) rfl; clear haf; have hu : l4 = false := hu; obtain ⟨ev3, pv3, cv3, pw3, cw3, e3, c3_0, c3_1, c3_2⟩ := (H3.out q3 hu)
      subst e3; clear H3; unfold evVal evCells; have HX1 := Lh c3_0; have HY1 := Lh c3_1; have HEB1 := Lh c3_2; clear c3_0 c3_1 c3_2; refine wpOp_of_list_any rfl fun QQ hQ => ?_
      have hQQ := Lh hQ; clear hQ; simp only [eT, eZ, eS]; go_wp2_with fail; exact hQQ.out _ _ ⟨l0, l1, l2, l3, true, _, _, _, _, _, rfl, rfl, H0, H1, H2, Lh (fun _ h => by cases h), Lh (fun _ => ⟨ev3, pv3, cv3, pw3, cw3, _, rfl, HS.out.but.size, Blk.new x _ _, World.ownsRow.alloc HX1.out _, World.ownsRow.alloc HY1.out _, HEB1.out⟩), Lh (HS.out.alloc _ HGW.out)⟩
    ·intro listed a x hj hall; obtain ⟨l0, l1, l2, l3, l4, t60, hj⟩ := hj; obtain ⟨t61, t62, t63, t64, hl_, ha_, hj⟩ := hj; obtain ⟨H0, H1, H2, H3, H4, hj⟩ := hj; have HS := hj; clear hj; subst hl_; subst ha_; have q1 : l1 = true := hall 1 (by omega); have q3 : l3 = true := hall 3 (by omega); have q4 : l4 = true := hall 4 (by omega); clear hall; have e1 := (H1.out q1)
     subst e1; obtain ⟨ev4, pv4, cv4, pw4, cw4, gg4, e4, c4_0, c4_1, c4_2, c4_3, c4_4⟩ := (H4.out q4)
     subst e4; have HT1 := Lh (HT.out.butT (Nat.lt_add_of_pos_right (by decide)) HS.out.but); have HF1 := HS.out.feed HF.out; have hsz := HS.out.but.size; have hpz : p + 2 <= x.heap.size := Nat.le_trans hRw hsz; have HE1 : RefT (p + 2) x (ev4, (.slice pv4 ev4.days.ex.length cv4), (.slice pw4 ev4.days.xt.length cw4)) := ⟨c4_4, ownsRow_mono c4_2 hRw, ownsRow_mono c4_3 hRw⟩
     obtain ⟨us2, bd2, o1, cap1, hlf, HP1⟩ := HS.out.after q3; have HLF2 := Lh hlf; have HK1 := HS.out.but; clear c4_2 c4_3 c4_4 hlf; refine tail_any (fun a x => ∃ (t60 t61 t62 t63 t64 t65 t66 : Value), a = ⟨(.string s :: .string z :: undef :: undef :: .pointer (some ⟨w.heap.size, 0, none⟩) :: .int .i64 0 :: .slice (some ⟨g, 0, none⟩) xs.length cap :: .bool true :: .pointer (some ⟨p, 0, none⟩) :: .pointer (some ⟨p + 1, 0, none⟩) :: .string q :: .bool true :: .string s :: .int .i64 s.size :: .bool false :: undef :: .string z :: .bool true :: .bool false :: undef :: .tuple #[.slice (some ⟨g, 0, none⟩) ys.length cap, .bool true] :: .string s :: .tuple #[.slice (some ⟨g, 0, none⟩) ys.length cap, .bool true] :: .slice (some ⟨g, 0, none⟩) ys.length cap :: .bool true :: .bool true :: .bool false :: undef :: .slice (some ⟨g, 0, none⟩) ys.length cap :: .slice (some ⟨g, 0, none⟩) xs.length cap :: .slice (some ⟨g, 0, none⟩) xs.length cap :: .string z :: .agg #[.slice (some ⟨g, 0, none⟩) xs.length cap, .string z, .bool false] :: .pointer (some ⟨p, 0, none⟩) :: .pointer (some ⟨p, 0, none⟩) :: .string r3 :: .pointer (some ⟨p, 0, none⟩) :: .string r4 :: .pointer (some ⟨p, 0, none⟩) :: .string r5 :: .pointer (some ⟨p, 0, none⟩) :: .string r6 :: .pointer (some ⟨p + 1, 0, none⟩) :: .pointer (some ⟨p, 0, none⟩) :: .pointer (some ⟨p, 0, none⟩) :: .string r8 :: .int .i64 v :: .pointer (some ⟨p + 1, 1, none⟩) :: .pointer (some ⟨p, 0, none⟩) :: .pointer (some ⟨p, 0, none⟩) :: .pointer (some ⟨p, 2, none⟩) :: .bool false :: .bool true :: .tuple #[.string q, .bool true] :: .pointer (some ⟨p, 0, none⟩) :: .tuple #[.string q, .bool true] :: .string q :: .bool true :: .bool true :: .bool false :: t60 :: t61 :: t62 :: t63 :: t64 :: t65 :: t66 :: undef :: undef :: undef :: undef :: undef :: undef :: undef :: undef :: undef :: undef :: undef :: undef :: undef :: undef :: undef :: undef :: undef :: undef :: undef :: []).toArray, []⟩ /\ ∃ (pu2 : Option Addr) (cu2 : Nat) (t : Ev × Value × Value) (us2 : List ByteArray) (bd2 : Bool), FeedB (p + 1) n v (.slice pu2 (ts.length + 1) cu2) x /\ RowT (p + 2) x (.slice pu2 (ts.length + 1) cu2) (ts ++ [t]) /\ Left M rr us2 /\ (∃ o cap, Par p g o cap us2 z bd2 x) /\ Below p wr x /\ p + 2 <= x.heap.size) ?_ fun QQ hQ => ?_
     ·intro a x hpost; obtain ⟨t60, t61, t62, t63, t64, t65, hpost⟩ := hpost; obtain ⟨t66, ha_, hpost⟩ := hpost; subst ha_; obtain ⟨pu2, cu2, t, us2, bd2, p1, p2, p3, ⟨o5, c5, p4⟩, p5, p6⟩ := hpost; have HQ := Lh (show PsL w w.heap.size p g M xs us2 z bd2 n v (.slice pu2 (ts.length + 1) cu2) x from ⟨⟨o5, c5, p4⟩, (HSS.out.1.trans (Left.tail M x0 rr)).trans p3, p1, HSS.out.2.1.block (p5.block _ (by omega)), strAt_block HSS.out.2.2.1 (p5.block g hgp2), HSS.out.2.2.2.trans (p5.mono (by omega)), p6⟩); have HLE := Lh p3.le; have HLN := Lh (linesLeft_par p4); have HTT := Lh p2; clear p1 p2 p3 p4 p5 p6; go_wp2_with fail; go_roundw
      case rel => exact ⟨pu2, cu2, ts ++ [t], us2, bd2, by have := HLE.out; simp; omega, Lh (by rw [List.length_append]; exact HQ.out), Lh (by rw [List.length_append]; exact HTT.out)⟩
      case measure => rw [HLN.out, HLL.out]; have := HLE.out; omega
     have hQQ := Lh hQ; clear hQ; simp only [List.drop_succ_cons, List.drop_zero]; go_wp2_with (at_builtin; refine wpList_append_own_at _ rfl (.tmp 61) (.tmp 64) 22 rfl (p + 2) 82 i0 _ 13 160 Tryz.underlying22 hi hz0 hz1 hz2 rfl (by decide) _ _ _ rfl HT1.out.row ⟨gg4, 0, none⟩ 1 1 _ rfl rfl (blk_cells c4_1) (evCells_one _ _ _ _ _ _ _) (by unfold maxLen; omega) (by omega) (by omega) ?_); intro v' x8 hown8 hgrow _ hat; obtain ⟨p8, q8, hv8⟩ := ownsRow_len hown8; subst hv8; have T8 := HT1.out.snoc HE1 hgrow hown8; have F8 := HF1.grownT HT1.out.row (Nat.lt_succ_self _) hgrow; have P8 := HP1.grownT HT1.out.row (by omega) hgp2 hgrow; have K8 := below_grownBy (HK1.below (Nat.le_refl p) hpw2) HT1.out.row (by omega) (Nat.le_trans hpw2 hsz) hgrow; have hc := F8.c2; have hz8 := F8.fr 2; have HF9 := Lh (F8.evs (ev' := .slice p8 (ts.length + 1) q8)); have HT9 := Lh (T8.set (show Blk (p + 1) _ 26 x8 from F8) (by decide) (by decide) 2 (.slice p8 (ts.length + 1) q8)); have HP9 := Lh (P8.set (show p + 1 ≠ p by omega) hfg 2 (.slice p8 (ts.length + 1) q8)); have HK9 := Lh (K8.setCell (p := ⟨p + 1, 2, none⟩) (show p <= p + 1 by omega) (.slice p8 (ts.length + 1) q8)); have HZ9 := Lh (show p + 2 <= x8.heap.size from Nat.le_trans hpz hgrow.size); clear hgrow hown8 hat T8 F8 P8 K8 HF1 HT1 HE1 HP1 HK1 c4_0 c4_1; go_wp2_with fail; exact hQQ.out _ _ ⟨_, _, _, _, _, _, _, rfl, _, _, (ev4, _, _), us2, bd2, HF9.out, HT9.out, HLF2.out, ⟨_, _, HP9.out⟩, HK9.out, by simpa [World.setCell] using HZ9.out⟩
  ·skip
   have hres := HS.out.res; have er0 := hres.fr 0; have er1 := hres.fr 1; have er2 := hres.fr 2; have ec0 := hres.c0; have ec1 := hres.c1; have ec2 := hres.c2; go_wp2_with fail; obtain ⟨Y, hY⟩ : ∃ Y, Y = (((wr.setCell ⟨w.heap.size, 0, none⟩ (.string ⟨#[]⟩)).setCell ⟨w.heap.size, 1, none⟩ (.int .i64 0)).setCell ⟨w.heap.size, 2, none⟩ (.slice none 0 0)) := ⟨_, rfl⟩
   rw [<- hY]; have hB : FeedB w.heap.size ⟨#[]⟩ 0 (.slice none 0 0) Y := by rw [hY]; exact hres.name.rev.evs
   have hE : Below w.heap.size w Y := by rw [hY]; exact ((HS.out.below.setCell (Nat.le_refl _) _).setCell (Nat.le_refl _) _).setCell (Nat.le_refl _) _
   clear hY hres er0 er1 er2 ec0 ec1 ec2; have rr0 := hB.c0; have rr1 := hB.c1; have rr2 := hB.c2; refine bodyPost_ret (v := .tuple #[.agg #[.string ⟨#[]⟩, .int .i64 0, .slice none 0 0], .int .i64 15]) (by simp [results, Tryz.results50, go_sem, rr0, rr1, rr2]) rfl ?_; exact .inl ⟨rfl, hE⟩
end Go.Proofs.YtageielcdebjlaaGreatDoor
namespace Tt
theorem unf_start (l : List UInt8) (h : l ≠ []) : unf l = (chopGo [] l).bind (joinL []) := by unfold unf; rw [if_neg h]
theorem unf_line_first (cur r : List UInt8) (h : begins cur = true) : (chopGo cur (13 :: 10 :: r)).bind (joinL []) = none := by
 rw [chopGo_end]; cases chopGo [] r with
 | none => rfl
 | some ls => show joinL [] (cur :: ls) = none; rw [joinL, if_pos h, if_pos rfl]
theorem unf_line_join (cur r : List UInt8) (out : List (List UInt8)) (h : begins cur = true) (ho : out ≠ []) : (chopGo cur (13 :: 10 :: r)).bind (joinL out) = (chopGo [] r).bind (joinL (out.dropLast ++ [out.getLastD [] ++ cur.tail])) := by
 rw [chopGo_end]; cases chopGo [] r with
 | none => rfl
 | some ls => show joinL out (cur :: ls) = _; rw [joinL, if_pos h, if_neg ho]; rfl
theorem unf_line_new (cur r : List UInt8) (out : List (List UInt8)) (h : begins cur = false) : (chopGo cur (13 :: 10 :: r)).bind (joinL out) = (chopGo [] r).bind (joinL (out ++ [cur])) := by
 rw [chopGo_end]; cases chopGo [] r with
 | none => rfl
 | some ls => show joinL out (cur :: ls) = _; rw [joinL, if_neg (by simp [h])]; rfl
theorem unf_done (out : List (List UInt8)) : (chopGo [] []).bind (joinL out) = some out := by rw [chopGo_nil, if_pos rfl]; show joinL out [] = _; rw [joinL]
theorem unf_rest (cur : List UInt8) (out : List (List UInt8)) (h : cur ≠ []) : (chopGo cur []).bind (joinL out) = none := by rw [chopGo_nil, if_neg h]; rfl
end Tt
namespace Go.Proofs.YtageielcdebjlaaGreatDoor
open Go.RowKit
theorem extract_tail (x : ByteArray) (n : Nat) (h : x.size <= n) : (x.extract 1 n).data.toList = x.data.toList.tail := by
 rw [Lib.extract_data, List.drop_one, List.take_of_length_le]; rw [List.length_tail, <- Lib.size_eq]; omega
theorem refUnfold_any (s : ByteArray) (hs : s.size < 4294967281) (w : World) :
  Calls Tryz.prog 38 #[.string s] w fun e w' => Unfolded w.heap.size s.data.toList e w' /\ Below w.heap.size w w' := by
 have HL := Lh (Lib.size_eq s); obtain ⟨i1, hj, hy0, hy2, hy3⟩ := info_parts infoString; go_enter Tryz.func38, Tryz.ntmps38; go_wp2_with fail; go_loopw [4, 5, 6] (fun ov sv iv wr => ∃ (st k : Nat) (out : List ByteArray), sv = .int .i64 st /\ iv = .int .i64 k /\ st <= k /\ k <= s.size /\ wr.ownsRow w.heap.size 9 1 ov out.length (out.map Value.string) /\ Below w.heap.size w wr /\ out.length <= k /\ Hid (s.data.toList ≠ [] -> Tt.unf s.data.toList = (Tt.chopGo ((s.data.toList.take k).drop st) (s.data.toList.drop k)).bind (Tt.joinL (out.map (·.data.toList)))) /\ Hid (0 < st -> out ≠ []) /\ Hid (∀ x ∈ out, x.size <= st)) (fun _ _ iv _ => s.size - (intOf iv).toNat)
 case atStart => exact ⟨0, 0, [], rfl, rfl, Nat.le_refl _, Nat.zero_le _, World.ownsRow_nil _ _ _ _, Below.refl _ _, Nat.zero_le _, fun h => Tt.unf_start _ h, fun h => absurd h (Nat.lt_irrefl _), fun x hx => by cases hx⟩
 case round =>
  obtain ⟨st, k, out, rfl, rfl, hst, hk, hown, hbe, hol, HU, HO, HSZ⟩ := hrel; have hsr := hbe.size; by_cases hlt : k < s.size
  ·obtain ⟨c, hx⟩ : ∃ c : UInt8, s[k]'hlt = c := ⟨_, rfl⟩
   have hcl : s.data.toList[k]? = some c := by rw [<- hx]; exact Lib.data_getElem? s k hlt
   have hdr := drop_cons _ _ _ hcl; have HNE := Lh (show s.data.toList ≠ [] from fun e => by have := HL.out; rw [e, List.length_nil] at this; omega); have hun := HU.out HNE.out; rw [hdr] at hun; have HD := Lh hcl; have HUN := Lh hun; have hki : (k : Int) < (s.size : Int) := by omega
   clear hcl hdr hun; by_cases h1 : c = 10
   ·have t1 := byte_eq c 10 10 rfl h1; have HN := Lh (show Tt.unf s.data.toList = none by rw [HUN.out, h1, Tt.chopGo_feed]; rfl); clear h1; go_wp2_with fail; go_ret2; exact ⟨.inl ⟨HN.out, rfl⟩, hbe⟩
   ·have t1 := byte_ne c 10 10 rfl h1; by_cases h2 : c = 13
    ·have t2 : ((c.toNat : Int) != 13) = false := by rw [h2]; rfl
     by_cases h3 : k + 1 = s.size
     ·have q : (((k : Int) + 1) == (s.size : Int)) = true := beq_iff_eq.2 (by omega); have HN := Lh (show Tt.unf s.data.toList = none by
       rw [HUN.out, show s.data.toList.drop (k + 1) = [] from List.drop_eq_nil_of_le (by rw [<- HL.out]; omega), h2, Tt.chopGo_cut]; rfl)
      clear h1 h2 h3; go_wp2_with fail; go_ret2; exact ⟨.inl ⟨HN.out, rfl⟩, hbe⟩
     ·have q : (((k : Int) + 1) == (s.size : Int)) = false := beq_eq_false_iff_ne.2 (by omega); have hlt2 : k + 1 < s.size := by omega
      obtain ⟨d, hy⟩ : ∃ d : UInt8, s[k + 1]'hlt2 = d := ⟨_, rfl⟩
      have hdl : s.data.toList[k + 1]? = some d := by rw [<- hy]; exact Lib.data_getElem? s (k + 1) hlt2
      have HD2 := Lh (drop_cons _ _ _ hdl); by_cases h4 : d = 10
      ·have t3 : ((d.toNat : Int) != 10) = false := by rw [h4]; rfl
       have hpd : (s.extract st k).data.toList = (s.data.toList.take k).drop st := by
        rw [<- Lib.extract_from_zero]; simp [List.drop_take]
       have HPD := Lh hpd; have hsk : (st : Int) <= (k : Int) := by omega
       have hk1 : (k : Int) <= (s.size : Int) := by omega
       have HLN : Hid (Tt.unf s.data.toList = (Tt.chopGo ((s.data.toList.take k).drop st) (13 :: 10 :: s.data.toList.drop (k + 1 + 1))).bind (Tt.joinL (out.map (·.data.toList)))) := by
        show _ = _
        rw [HUN.out, HD2.out, h2, h4]
       clear h1 h2 h3 hdl hpd; by_cases hbg : Tt.begins ((s.data.toList.take k).drop st) = true
       ·have hfacts : ∃ (h : 0 < (s.extract st k).size) (c : UInt8), (s.extract st k)[0]'h = c /\ 0 < k - st /\ (s.extract st k).toList.isEmpty = false /\ (((c.toNat : Int) == 32) = true ∨ (((c.toNat : Int) == 32) = false /\ ((c.toNat : Int) == 9) = true)) := by
         cases hct : (s.extract st k).data.toList with
         | nil => rw [<- HPD.out, hct] at hbg; cases hbg
         | cons c tl =>
          have hp1 : 0 < (s.extract st k).size := by rw [Lib.size_eq, hct]; simp
          rw [<- HPD.out, hct, Tt.begins_cons] at hbg; refine ⟨hp1, c, ?_, by rw [bs_extract_size s st k (by omega)] at hp1; exact hp1, by rw [Lib.toList_data, hct]; rfl, ?_⟩
          ·have := Lib.data_getElem? (s.extract st k) 0 hp1; rw [hct] at this; simpa using this.symm
          ·by_cases e : c = 32
           ·exact .inl (byte_eq c 32 32 rfl e)
           ·exact .inr ⟨byte_ne c 32 32 rfl e, byte_eq c 9 9 rfl (by simpa [e] using hbg)⟩
        obtain ⟨hp0, c0, e0, hq0, e1, e23⟩ := hfacts; by_cases ho : out = []
        ·have HN := Lh (show Tt.unf s.data.toList = none by rw [HLN.out, ho]; exact Tt.unf_line_first _ _ hbg); have hl0 : out.length = 0 := by rw [ho]; rfl
         obtain ⟨q1, q2, hv⟩ : ∃ q1 q2, u4 = .slice q1 0 q2 := by
          rcases hown.2 with ⟨h1, _⟩ | ⟨g, cap, cur, h1, _⟩
          ·exact ⟨_, _, h1⟩
          ·rw [hl0] at h1; exact ⟨_, _, h1⟩
         clear hbg ho hl0; subst hv; rcases e23 with e2 | ⟨e2, e3⟩
         all_goals
          go_wp2_with fail; go_ret2; exact ⟨.inl ⟨HN.out, rfl⟩, hbe⟩
        ·have HBG := Lh hbg; obtain ⟨init, last, hil⟩ : ∃ init last, out = init ++ [last] := ⟨out.dropLast, out.getLast ho, (List.dropLast_concat_getLast ho).symm⟩
         obtain ⟨n, hn⟩ : ∃ n, n = init.length := ⟨_, rfl⟩
         have hlen : out.length = n + 1 := by rw [hil, hn]; simp
         have hcr := hown.2; have HIL := Lh hil; have HN0 := Lh hn; have HLE := Lh hlen; have hlen1 : n + 1 <= k := by omega
         obtain ⟨g, cap, hv⟩ : ∃ g cap, u4 = .slice (some ⟨g, 0, none⟩) (n + 1) cap := by
          rcases hcr with ⟨_, h1⟩ | ⟨g, cap, cur, hv, hg, hgh, hlc, _⟩
          ·omega
          ·exact ⟨g, cap, by rw [hv, hlen]⟩
         clear hcr hil hn hbg ho; rw [hv, hlen] at hown; subst hv; have hcl : wr.cell? ⟨g, n, none⟩ = some (.string last) := (hown.cellAt n (by omega)).trans (by rw [HIL.out, HN0.out]; simp); have hfr := hown.frozenAt n; clear hlen hol; have hs1 : last.size <= st := HSZ.out last (by rw [HIL.out]; simp); have hs2 : ((s.extract st k).extract 1 (k - st)).size <= k := by rw [ByteArray.size_extract, bs_extract_size s st k (by omega)]; omega
         have hj0 : (0 : Int) <= (n : Int) + 1 - 1 := by omega
         obtain ⟨L, hL⟩ : ∃ L, L = last ++ (s.extract st k).extract 1 (k - st) := ⟨_, rfl⟩
         have hg : w.heap.size <= g := (hown.lt g rfl).1; have HOW := Lh (show (wr.setCell ⟨g, n, none⟩ (.string L)).ownsRow w.heap.size 9 1 (.slice (some ⟨g, 0, none⟩) (n + 1) cap) (init ++ [L]).length ((init ++ [L]).map Value.string) from by
          have := (hown.stored n (.string L)).1; rw [HIL.out, HN0.out] at this; rw [HN0.out]; simpa using this)
         have hsz : L.size <= k := by
          rw [hL, ByteArray.size_append, ByteArray.size_extract, bs_extract_size s st k (by omega)]; omega
         have HN : Hid (s.data.toList ≠ [] -> Tt.unf s.data.toList = (Tt.chopGo ((s.data.toList.take (k + 1 + 1)).drop (k + 1 + 1)) (s.data.toList.drop (k + 1 + 1))).bind (Tt.joinL ((init ++ [L]).map (·.data.toList)))) := by
          intro _; rw [HLN.out, Tt.unf_line_join _ _ _ HBG.out (by rw [HIL.out]; simp), show (s.data.toList.take (k + 1 + 1)).drop (k + 1 + 1) = [] from List.drop_eq_nil_of_le (List.length_take_le _ _), HIL.out, <- HPD.out, hL]; congr 2
          rw [List.map_append, List.map_append]; simp only [List.map_cons, List.map_nil, List.dropLast_concat, List.getLastD_concat]; rw [bs_app, extract_tail _ _ (by rw [bs_extract_size s st k (by omega)]; omega)]
         have HLL := Lh hL; clear hL; rcases e23 with e2 | ⟨e2, e3⟩
         all_goals
          go_wp2_with fail; go_region
          rw [<- HLL.out]; go_wp2_with fail; go_roundw
          case rel => exact ⟨k + 1 + 1, k + 1 + 1, init ++ [L], by go_num, by go_num, by omega, by omega, HOW.out, (hbe.setCell (p := ⟨g, n, none⟩) hg _).drew, by rw [List.length_append, <- HN0.out]; simp; omega, HN, (fun _ => by simp), fun x hx => by
           rcases List.mem_append.1 hx with h | h
           ·have := HSZ.out x (by rw [HIL.out]; simp [h]); omega
           ·rw [List.mem_singleton.1 h]; omega⟩
          case measure => simp [intOf]; omega
       ·have hbg2 : Tt.begins ((s.data.toList.take k).drop st) = false := by simpa using hbg
        have hfacts : ((s.extract st k).toList = []) ∨ (∃ (h : 0 < (s.extract st k).size) (c : UInt8), (s.extract st k)[0]'h = c /\ 0 < k - st /\ (s.extract st k).toList.isEmpty = false /\ ((c.toNat : Int) == 32) = false /\ ((c.toNat : Int) == 9) = false) := by
         cases hct : (s.extract st k).data.toList with
         | nil => exact .inl (by rw [Lib.toList_data, hct])
         | cons c tl =>
          right
          have hp1 : 0 < (s.extract st k).size := by rw [Lib.size_eq, hct]; simp
          rw [<- HPD.out, hct, Tt.begins_cons] at hbg; refine ⟨hp1, c, ?_, by rw [bs_extract_size s st k (by omega)] at hp1; exact hp1, by rw [Lib.toList_data, hct]; rfl, byte_ne c 32 32 rfl (fun e => hbg (by simp [e])), byte_ne c 9 9 rfl (fun e => hbg (by simp [e]))⟩; have := Lib.data_getElem? (s.extract st k) 0 hp1; rw [hct] at this; simpa using this.symm
        have HN : Hid (s.data.toList ≠ [] -> Tt.unf s.data.toList = (Tt.chopGo ((s.data.toList.take (k + 1 + 1)).drop (k + 1 + 1)) (s.data.toList.drop (k + 1 + 1))).bind (Tt.joinL ((out ++ [s.extract st k]).map (·.data.toList)))) := by
         intro _; rw [HLN.out, Tt.unf_line_new _ _ _ hbg2, show (s.data.toList.take (k + 1 + 1)).drop (k + 1 + 1) = [] from List.drop_eq_nil_of_le (List.length_take_le _ _), List.map_append, <- HPD.out]; rfl
        clear hbg hbg2; rcases hfacts with e1 | ⟨hp0, c0, e0, hq0, e1, e2, e3⟩
        all_goals
         go_wp2_with (at_builtin; refine wpList_append_own _ rfl (.tmp 63) (.tmp 65) 60 rfl w.heap.size 9 i1 (.string ⟨#[]⟩) 1 16 Tryz.underlying60 hj hy0 hy2 hy3 rfl (by decide) _ _ _ rfl (hown.alloc _) ⟨wr.heap.size, 0, none⟩ 1 1 [.string (s.extract st k)] rfl rfl (cell_one _ _ _) (by intro u hu; simp at hu; subst hu; rfl) (by unfold maxLen; omega) (by omega) (by simp; omega) ?_); intro v' w3 hown3 hgrow _; have hbe3 : Below w.heap.size w w3 := (hbe.alloc (by omega) _).grown hgrow (by simp; omega) (fun k hk => (hown.lt k hk).1); clear hgrow hown hbe; go_wp2_with fail; go_roundw
         case rel => exact ⟨k + 1 + 1, k + 1 + 1, out ++ [s.extract st k], by go_num, by go_num, by omega, by omega, by simpa using hown3, hbe3, by simp; omega, HN, (fun _ => by simp), fun x hx => by
          rcases List.mem_append.1 hx with h | h
          ·have := HSZ.out x h; omega
          ·rw [List.mem_singleton.1 h, bs_extract_size s st k (by omega)]; omega⟩
         case measure => simp [intOf]; omega
      ·have t3 : ((d.toNat : Int) != 10) = true := by
        have := byte_ne d 10 10 rfl h4; simp only [bne, this]; rfl
       have HN := Lh (show Tt.unf s.data.toList = none by
        rw [HUN.out, HD2.out, h2, Tt.chopGo_lone _ _ _ h4]; rfl)
       clear h1 h2 h3 h4 hdl; go_wp2_with fail; go_ret2; exact ⟨.inl ⟨HN.out, rfl⟩, hbe⟩
    ·have t2 : ((c.toNat : Int) != 13) = true := by
      have := byte_ne c 13 13 rfl h2; simp only [bne, this]; rfl
     have HN : Hid (s.data.toList ≠ [] -> Tt.unf s.data.toList = (Tt.chopGo ((s.data.toList.take (k + 1)).drop st) (s.data.toList.drop (k + 1))).bind (Tt.joinL (out.map (·.data.toList)))) := by
      intro _; rw [HUN.out, Tt.chopGo_plain _ _ _ h2 h1]; obtain ⟨g1, g2⟩ := List.getElem?_eq_some_iff.1 HD.out; rw [List.take_succ_eq_append_getElem g1, g2, List.drop_append_of_le_length (by rw [List.length_take, <- HL.out]; omega)]
     clear h1 h2; go_wp2_with fail; go_roundw
     case rel => exact ⟨st, k + 1, out, rfl, by go_num, by omega, by omega, hown, hbe, by omega, HN, HO, HSZ⟩
     case measure => simp [intOf]; omega
  ·have hke : k = s.size := by omega
   have HK := Lh hke; have hdr : s.data.toList.drop k = [] := List.drop_eq_nil_of_le (by rw [<- HL.out]; omega); have htk : s.data.toList.take k = s.data.toList := List.take_of_length_le (by rw [<- HL.out]; omega); by_cases h1 : st = s.size
   ·have q1 : (((st : Int)) != (s.size : Int)) = false := by simp; omega
    by_cases h2 : st = 0
    ·have q2 : ((st : Int) == 0) = true := beq_iff_eq.2 (by omega); have HN := Lh (show Tt.unf s.data.toList = none by
      have : s.data.toList = [] := List.eq_nil_of_length_eq_zero (by rw [<- HL.out]; omega); rw [this]; rfl)
     clear h1 h2 hdr htk hke; go_wp2_with fail; go_ret2; exact ⟨.inl ⟨HN.out, rfl⟩, hbe⟩
    ·have q2 : ((st : Int) == 0) = false := beq_eq_false_iff_ne.2 (by omega); have hne : s.data.toList ≠ [] := fun e => h2 (by have := HL.out; rw [e, List.length_nil] at this; omega)
     have HN := Lh (show Tt.unf s.data.toList = some (out.map (·.data.toList)) by
      rw [HU.out hne, hdr, htk, List.drop_eq_nil_of_le (by rw [<- HL.out]; omega)]; exact Tt.unf_done _)
     have hoe := HO.out (by omega); clear h1 h2 hdr htk hke hne; rcases hown.2 with ⟨_, h0⟩ | ⟨g, cap, cur, hv, hg, hgh, hlc, _⟩
     ·exact absurd (List.eq_nil_of_length_eq_zero h0) hoe
     ·have ho := Lh (hv ▸ hown); have hglt := (Array.getElem?_eq_some_iff.1 hgh).1; subst hv; clear hown hgh; go_wp2_with fail; go_ret2; refine ⟨.inr ⟨g, cap, out, HN.out, rfl, ?_, hg, hglt, hlc, by rw [<- HL.out]; omega, ?_⟩, hbe⟩
      ·intro j x hx; exact ⟨_, rfl, ho.out.cells (g := g) rfl j (.string x) (by rw [List.getElem?_map, hx]; rfl)⟩
      ·rcases ho.out.2 with ⟨hv0, _⟩ | ⟨g', cap', cur, hv, _, hgb, _⟩
       ·cases hv0
       ·cases hv; exact ⟨_, _, hgb⟩
   ·have q1 : (((st : Int)) != (s.size : Int)) = true := by simp; omega
    have HN := Lh (show Tt.unf s.data.toList = none by
     have hne : s.data.toList ≠ [] := fun e => h1 (by have := HL.out; rw [e, List.length_nil] at this; omega)
     rw [HU.out hne, hdr, htk]; refine Tt.unf_rest _ _ ?_; intro e; have := congrArg List.length e; rw [List.length_drop, <- HL.out] at this; simp at this; omega)
    clear h1 hdr htk hke; go_wp2_with fail; go_ret2; exact ⟨.inl ⟨HN.out, rfl⟩, hbe⟩
end Go.Proofs.YtageielcdebjlaaGreatDoor
