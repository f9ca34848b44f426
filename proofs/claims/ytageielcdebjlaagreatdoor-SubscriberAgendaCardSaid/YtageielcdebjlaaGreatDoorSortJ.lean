/- The second half of the standard library's sort.Sort over rows of any kind: breakPatterns, the functions that only compare, choosePivot, pdqsort, Sort. Conditions: as in the first half. -/
import Derived.Test.YtageielcdebjlaaGreatDoorSortI
namespace Go.Proofs.YtageielcdebjlaaGreatDoor
open Go Go.Proofs Go.Shelf Go.RowKit Go.Lib Go.Sort
variable {P : Program} {ρ : Ren} {α : Type} [Inhabited α]

section
variable {rv : Value} {gl gs : Nat} {lt : α → α → Bool} {n N : Nat} {St : World → Array α → Prop}

set_option maxHeartbeats 4000000 in
set_option maxRecDepth 1000000 in
theorem brk35go (L : LaysGt.n35 P ρ) (T : TypeId) (rS : Reaches P T rv "Swap" gs) (F : Fam P rv gl gs lt n N St) {a K : Nat} {d : Array α} {w : World} (hS : Aside (St w d)) (hb : a + K ≤ n) (hsz : n < 4611686018427387904) (h8 : 8 ≤ K) :
    Calls P (ρ.f 35) #[.iface T rv, .int .i64 a, .int .i64 ((a + K : Nat) : Int)] w fun e w' => e = .returned (.tuple #[]) ∧ St w' (breakPatterns d a (a + K)) := by
  have mixed := L.mixed; have t0 := L.t0; have a0 := L.a0; have z0 := L.z0; have v0 := L.v0; have t3 := L.t3; have a3 := L.a3; have z3 := L.z3; have v3 := L.v3; have t4 := L.t4; have a4 := L.a4; have z4 := L.z4; have v4 := L.v4; have t5 := L.t5; have a5 := L.a5; have z5 := L.z5; have v5 := L.v5; have t9 := L.t9; have a9 := L.a9; have z9 := L.z9; have v9 := L.v9; have t26 := L.t26; have a26 := L.a26; have z26 := L.z26; have v26 := L.v26; have t38 := L.t38; have a38 := L.a38; have z38 := L.z38; have v38 := L.v38; have t43 := L.t43; have a43 := L.a43; have z43 := L.z43; have v43 := L.v43; have t45 := L.t45; have a45 := L.a45; have z45 := L.z45; have v45 := L.v45; have t47 := L.t47; have a47 := L.a47; have z47 := L.z47; have v47 := L.v47; have t56 := L.t56; have a56 := L.a56; have z56 := L.z56; have v56 := L.v56; have t58 := L.t58; have a58 := L.a58; have z58 := L.z58; have v58 := L.v58; have t67 := L.t67; have a67 := L.a67; have z67 := L.z67; have v67 := L.v67; have t73 := L.t73; have a73 := L.a73; have z73 := L.z73; have v73 := L.v73
  have mS : ∀ w, Sem.run P (method (P.types.size + 100) T rv "Swap") w = .ok (gs, rv) w := rS.finds
  have eS := rS.enters; have e44 : ∀ args w, (callFunc (ρ.f 44) args).run P w = .ok (.enter (ρ.f 44) args) w := enters_of L.f44 (by kernel_rfl) rfl
  have e45 : ∀ args w, (callFunc (ρ.f 45) args).run P w = .ok (.enter (ρ.f 45) args) w := enters_of L.f45 (by kernel_rfl) rfl
  rw [breakPatterns_eq d a K h8]
  obtain ⟨M, hM⟩ : ∃ M : Nat, M = 1 <<< bitsLen K := ⟨_, rfl⟩
  have hM1 : 1 ≤ M := by rw [hM, Nat.one_shiftLeft]; exact Nat.two_pow_pos _
  have hM2 : M ≤ 2 * K := by rw [hM, Nat.one_shiftLeft]; exact two_pow_bitsLen_le (by omega)
  have hNP : ∀ w, Calls P (ρ.f 44) #[.int .i64 (K : Int)] w fun e w' => e = .returned (.int .u64 (M : Int)) ∧ w' = w := by rw [hM]; exact fun w => Any.nextPowerOfTwo (LaysGt.n44.elder (P := P) (ρ := ρ) { L with }) K (by omega) w
  rw [← hM]; clear hM; have hLz : ((a : Int) + (K : Int) - (a : Int)) = (K : Int) := by omega
  have h8z : (8 : Int) ≤ (K : Int) := by omega
  go_enter L.f35, BodyGt.n35_ntmps ρ
  go_wp2_with (first | (go_at_fn (ρ.f 44); refine (hNP _).mono ?_; rintro e w' ⟨rfl, rfl⟩))
  go_loopg [9] 3 (fun g1 vi wr => ∃ (t : Nat) (r : UInt64) (dk : Array α), vi = .int .i64 ((a : Int) + (K : Int) / 4 * 2 - 1 + (t : Int)) ∧ t ≤ 3 ∧ 3 - t ≤ g1 ∧ Aside (St wr dk) ∧ w.heap.size < wr.heap.size ∧
      wr.cell? ⟨w.heap.size, 0, none⟩ = some (.int .u64 (r.toNat : Int)) ∧ wr.frozen? ⟨w.heap.size, 0, none⟩ = false ∧
      Hid (bpRest a K M (a + K / 4 * 2 - 1) (3 - t) t (r, dk) = bpRest a K M (a + K / 4 * 2 - 1) 3 0 (UInt64.ofNat K, d)))
  case atStart =>
    refine ⟨0, UInt64.ofNat K, d, by simp, by omega, by omega, F.alloc hS.out _, by simp, ?_, by simp, rfl⟩
    rw [show (UInt64.ofNat K).toNat = K from by simp; omega]
    simp
  case round =>
    obtain ⟨t, r, dk, rfl, ht, hg1, S, lwr, cR, fR, HR⟩ := hrel; by_cases ht3 : t < 3
    · have hle : (a : Int) + (K : Int) / 4 * 2 - 1 + (t : Int) ≤ (a : Int) + (K : Int) / 4 * 2 + 1 := by omega
      obtain ⟨R, hRr⟩ : ∃ R : Nat, R = r.toNat := ⟨_, rfl⟩
      have lR : R < 18446744073709551616 := by rw [hRr]; exact r.toNat_lt
      obtain ⟨R', hR'⟩ : ∃ R' : Nat, R' = xorNextN R := ⟨_, rfl⟩
      have lR' : R' < 18446744073709551616 := by rw [hR']; exact xorNextN_lt R lR
      obtain ⟨O, hO⟩ : ∃ O : Nat, O = R' &&& (M - 1) := ⟨_, rfl⟩
      have lO : O ≤ M - 1 := by rw [hO]; exact Nat.and_le_right
      have eAnd : bits .and .u64 (R' : Int) ((M : Int) - 1) = (O : Int) := by
        rw [show ((M : Int) - 1) = ((M - 1 : Nat) : Int) by omega, bits_and_u64_nat _ _ lR' (by omega), hO]
      rw [← hRr] at cR
      have hNext : Calls P (ρ.f 45) #[.pointer (some ⟨w.heap.size, 0, none⟩)] wr fun e w' => e = .returned (.int .u64 (R' : Int)) ∧ w' = (wr.setCell ⟨w.heap.size, 0, none⟩ (.int .u64 (R' : Int))).drewN 3 := by
        rw [hR']; exact Any.xorshift_Next (LaysGt.n45.elder (P := P) (ρ := ρ) { L with }) _ _ R lR wr cR fR
      have HN : Hid (R' = (xorNext r).toNat ∧ O = (xorNext r).toNat &&& (M - 1)) := by
        have e : R' = (xorNext r).toNat := by rw [hR', hRr, xorNext_toNat]
        exact ⟨e, by rw [hO, e]⟩
      clear hRr hR' hO; have S2 := F.drew (F.setn S.out w.heap.size 0 (.int .u64 (R' : Int)) (F.top hS.out)) 3
      have lw2 : w.heap.size < ((wr.setCell ⟨w.heap.size, 0, none⟩ (.int .u64 (R' : Int))).drewN 3).heap.size := by
        show _ < (wr.setCell ⟨w.heap.size, 0, none⟩ (.int .u64 (R' : Int))).heap.size
        simpa using lwr
      have cR' : ((wr.setCell ⟨w.heap.size, 0, none⟩ (.int .u64 (R' : Int))).drewN 3).cell? ⟨w.heap.size, 0, none⟩ = some (.int .u64 (R' : Int)) := by
        rw [World.cell?_drewN]; exact World.cell?_setCell_same _ _ _ cR
      have fR' : ((wr.setCell ⟨w.heap.size, 0, none⟩ (.int .u64 (R' : Int))).drewN 3).frozen? ⟨w.heap.size, 0, none⟩ = false := by
        rw [World.frozen?_drewN]; simpa using fR
      generalize (wr.setCell ⟨w.heap.size, 0, none⟩ (.int .u64 (R' : Int))).drewN 3 = w2 at hNext S2 lw2 cR' fR'
      clear cR fR S lwr; by_cases hLO : K ≤ O
      · have hOz : (K : Int) ≤ (O : Int) := by omega
        have hs := F.swap S2 (a + K / 4 * 2 - 1 + t) (a + (O - K)) (by omega) (by omega)
        rw [show ((a + K / 4 * 2 - 1 + t : Nat) : Int) = (a : Int) + (K : Int) / 4 * 2 - 1 + (t : Int) by omega, show ((a + (O - K) : Nat) : Int) = ((a : Int) + ((O : Int) - (K : Int))) by omega] at hs
        have S2' : Aside (St w2 dk) := S2
        clear S2; go_wp2_with (first | (go_at_fn (ρ.f 45); refine hNext.mono ?_; rintro e w' ⟨rfl, rfl⟩) | (go_at_fn gs; refine hs.mono ?_; rintro e w3 ⟨rfl, hst, hk⟩))
        go_roundg (3 - (t + 1))
        case measure => omega
        case rel =>
          have hb2 := hk.2 w.heap.size (F.top hS.out) lw2
          exact ⟨t + 1, xorNext r, swp dk (a + K / 4 * 2 - 1 + t) (a + (O - K)), by congr 1; push_cast; omega, by omega, Nat.le_refl _, hst, Nat.lt_of_lt_of_le lw2 hk.1,
            by rw [← HN.out.1]; exact (World.cell?_of_block (a := ⟨w.heap.size, 0, none⟩) hb2).trans cR', (World.frozen?_of_block (a := ⟨w.heap.size, 0, none⟩) hb2).trans fR',
            (show _ = _ by rw [← HR.out, bp_step a K M _ t r dk (O - K) ht3 (by rw [← HN.out.2, if_pos (by omega)])])⟩
      · have hOz : ¬ (K : Int) ≤ (O : Int) := by omega
        have hs := F.swap S2 (a + K / 4 * 2 - 1 + t) (a + (O)) (by omega) (by omega)
        rw [show ((a + K / 4 * 2 - 1 + t : Nat) : Int) = (a : Int) + (K : Int) / 4 * 2 - 1 + (t : Int) by omega, show ((a + (O) : Nat) : Int) = ((a : Int) + (O : Int)) by omega] at hs
        have S2' : Aside (St w2 dk) := S2
        clear S2; go_wp2_with (first | (go_at_fn (ρ.f 45); refine hNext.mono ?_; rintro e w' ⟨rfl, rfl⟩) | (go_at_fn gs; refine hs.mono ?_; rintro e w3 ⟨rfl, hst, hk⟩))
        go_roundg (3 - (t + 1))
        case measure => omega
        case rel =>
          have hb2 := hk.2 w.heap.size (F.top hS.out) lw2
          exact ⟨t + 1, xorNext r, swp dk (a + K / 4 * 2 - 1 + t) (a + (O)), by congr 1; push_cast; omega, by omega, Nat.le_refl _, hst, Nat.lt_of_lt_of_le lw2 hk.1,
            by rw [← HN.out.1]; exact (World.cell?_of_block (a := ⟨w.heap.size, 0, none⟩) hb2).trans cR', (World.frozen?_of_block (a := ⟨w.heap.size, 0, none⟩) hb2).trans fR',
            (show _ = _ by rw [← HR.out, bp_step a K M _ t r dk (O) ht3 (by rw [← HN.out.2, if_neg (by omega)])])⟩
    · obtain rfl : t = 3 := by omega
      have hle : ¬ ((a : Int) + (K : Int) / 4 * 2 - 1 + ((3 : Nat) : Int) ≤ (a : Int) + (K : Int) / 4 * 2 + 1) := by omega
      go_wp2
      go_end0
      refine ⟨rfl, ?_⟩
      rw [← HR.out]; exact S.out

set_option maxRecDepth 1000000 in
theorem brk35 (L : LaysGt.n35 P ρ) (T : TypeId) (rS : Reaches P T rv "Swap" gs) (F : Fam P rv gl gs lt n N St) {a b : Nat} {d : Array α} {w : World} (hS : St w d) (hab : a ≤ b) (hb : b ≤ n) (hsz : n < 4611686018427387904) :
    Calls P (ρ.f 35) #[.iface T rv, .int .i64 a, .int .i64 b] w fun e w' => e = .returned (.tuple #[]) ∧ St w' (breakPatterns d a b) := by
  obtain ⟨K, rfl⟩ : ∃ K, b = a + K := ⟨b - a, by omega⟩
  by_cases h8 : 8 ≤ K
  · exact brk35go L T rS F hS hb hsz h8
  · rw [show breakPatterns d a (a + K) = d by unfold breakPatterns; simp only [Nat.add_sub_cancel_left]; rw [if_neg h8]]
    have mixed := L.mixed; have t0 := L.t0; have a0 := L.a0; have z0 := L.z0; have v0 := L.v0; have t3 := L.t3; have a3 := L.a3; have z3 := L.z3; have v3 := L.v3; have t4 := L.t4; have a4 := L.a4; have z4 := L.z4; have v4 := L.v4; have t5 := L.t5; have a5 := L.a5; have z5 := L.z5; have v5 := L.v5; have t9 := L.t9; have a9 := L.a9; have z9 := L.z9; have v9 := L.v9; have t26 := L.t26; have a26 := L.a26; have z26 := L.z26; have v26 := L.v26; have t38 := L.t38; have a38 := L.a38; have z38 := L.z38; have v38 := L.v38; have t43 := L.t43; have a43 := L.a43; have z43 := L.z43; have v43 := L.v43; have t45 := L.t45; have a45 := L.a45; have z45 := L.z45; have v45 := L.v45; have t47 := L.t47; have a47 := L.a47; have z47 := L.z47; have v47 := L.v47; have t56 := L.t56; have a56 := L.a56; have z56 := L.z56; have v56 := L.v56; have t58 := L.t58; have a58 := L.a58; have z58 := L.z58; have v58 := L.v58; have t67 := L.t67; have a67 := L.a67; have z67 := L.z67; have v67 := L.v67; have t73 := L.t73; have a73 := L.a73; have z73 := L.z73; have v73 := L.v73
    have hLz : ((a : Int) + (K : Int) - (a : Int)) = (K : Int) := by omega
    have h8z : ¬ (8 : Int) ≤ (K : Int) := by omega
    have S0 : Aside (St w d) := hS
    clear hS; go_enter L.f35, BodyGt.n35_ntmps ρ
    go_wp2
    go_end0
    exact ⟨rfl, S0.out⟩

/-- The counter of swaps in a block of its own. -/
def CtrS (cb : Nat) (w : World) (s : Nat) : Prop := w.cell? ⟨cb, 0, none⟩ = some (.int .i64 (s : Int)) ∧ w.frozen? ⟨cb, 0, none⟩ = false

set_option maxHeartbeats 1000000 in
set_option maxRecDepth 1000000 in
theorem ord50 (L : LaysGt.n50 P ρ) (T : TypeId) (rL : Reaches P T rv "Less" gl) (F : Fam P rv gl gs lt n N St) {a b : Nat} {d : Array α} {w : World} {cb s : Nat} (hN : N ≤ cb) (hC : CtrS cb w s) (hS : St w d) (ha : a < n) (hb : b < n) (hs : s < 4611686018427387904) :
    Calls P (ρ.f 50) #[.iface T rv, .int .i64 a, .int .i64 b, .pointer (some ⟨cb, 0, none⟩)] w fun e w' => e = .returned (.tuple #[.int .i64 (order2 lt d a b s).1, .int .i64 (order2 lt d a b s).2.1]) ∧ St w' d ∧ CtrS cb w' (order2 lt d a b s).2.2 := by
  have mixed := L.mixed; have t0 := L.t0; have a0 := L.a0; have z0 := L.z0; have v0 := L.v0; have t3 := L.t3; have a3 := L.a3; have z3 := L.z3; have v3 := L.v3; have t4 := L.t4; have a4 := L.a4; have z4 := L.z4; have v4 := L.v4; have t26 := L.t26; have a26 := L.a26; have z26 := L.z26; have v26 := L.v26; have t38 := L.t38; have a38 := L.a38; have z38 := L.z38; have v38 := L.v38; have t43 := L.t43; have a43 := L.a43; have z43 := L.z43; have v43 := L.v43; have t45 := L.t45; have a45 := L.a45; have z45 := L.z45; have v45 := L.v45; have t71 := L.t71; have a71 := L.a71; have z71 := L.z71; have v71 := L.v71
  have mL : ∀ w, Sem.run P (method (P.types.size + 100) T rv "Less") w = .ok (gl, rv) w := rL.finds
  have eL := rL.enters; obtain ⟨cs, fs⟩ := hC; have hl := F.less hS b a hb ha; have S : Aside (St w d) := hS
  clear hS; cases hlv : lt d[b]! d[a]! with
  | true =>
    rw [hlv] at hl
    rw [show order2 lt d a b s = (b, a, s + 1) by simp [order2, hlv]]
    go_enter L.f50, BodyGt.n50_ntmps ρ
    go_wp2_with (go_at_fn gl; refine hl.mono ?_; rintro e w' ⟨rfl, q, rfl⟩)
    go_ret2
    refine ⟨rfl, F.setn (F.drew S.out q) _ _ _ hN, ?_, by simpa using fs⟩
    rw [show ((s + 1 : Nat) : Int) = (s : Int) + 1 by omega]
    exact World.cell?_setCell_same _ _ _ (by rw [World.cell?_drewN]; exact cs)
  | false =>
    rw [hlv] at hl
    rw [show order2 lt d a b s = (a, b, s) by simp [order2, hlv]]
    go_enter L.f50, BodyGt.n50_ntmps ρ
    go_wp2_with (go_at_fn gl; refine hl.mono ?_; rintro e w' ⟨rfl, q, rfl⟩)
    go_ret2
    exact ⟨rfl, F.drew S.out q, by rw [World.cell?_drewN]; exact cs, by rw [World.frozen?_drewN]; exact fs⟩

set_option maxHeartbeats 1000000 in
set_option maxRecDepth 1000000 in
theorem med47 (L : LaysGt.n47 P ρ) (T : TypeId) (rL : Reaches P T rv "Less" gl) (F : Fam P rv gl gs lt n N St) {a b c : Nat} {d : Array α} {w : World} {cb s : Nat} (hN : N ≤ cb) (hC : CtrS cb w s) (hS : St w d) (ha : a < n) (hb : b < n) (hc : c < n) (hs : s + 3 < 4611686018427387904) :
    Calls P (ρ.f 47) #[.iface T rv, .int .i64 a, .int .i64 b, .int .i64 c, .pointer (some ⟨cb, 0, none⟩)] w fun e w' => e = .returned (.int .i64 (median lt d a b c s).1) ∧ St w' d ∧ CtrS cb w' (median lt d a b c s).2 := by
  have mixed := L.mixed; have t0 := L.t0; have a0 := L.a0; have z0 := L.z0; have v0 := L.v0; have t3 := L.t3; have a3 := L.a3; have z3 := L.z3; have v3 := L.v3; have t4 := L.t4; have a4 := L.a4; have z4 := L.z4; have v4 := L.v4; have t26 := L.t26; have a26 := L.a26; have z26 := L.z26; have v26 := L.v26; have t38 := L.t38; have a38 := L.a38; have z38 := L.z38; have v38 := L.v38; have t43 := L.t43; have a43 := L.a43; have z43 := L.z43; have v43 := L.v43; have t45 := L.t45; have a45 := L.a45; have z45 := L.z45; have v45 := L.v45; have t71 := L.t71; have a71 := L.a71; have z71 := L.z71; have v71 := L.v71; have t74 := L.t74; have a74 := L.a74; have z74 := L.z74; have v74 := L.v74
  have e50 : ∀ args w, (callFunc (ρ.f 50) args).run P w = .ok (.enter (ρ.f 50) args) w := enters_of L.f50 (by kernel_rfl) rfl
  have hz := F.size hS; have l1 := order2_lt' lt d s (hz.symm ▸ ha : a < d.size) (hz.symm ▸ hb : b < d.size)
  have s1 := order2_swaps' lt d a b s; have l2 := order2_lt' lt d (order2 lt d a b s).2.2 l1.2 (hz.symm ▸ hc : c < d.size)
  have s2 := order2_swaps' lt d (order2 lt d a b s).2.1 c (order2 lt d a b s).2.2
  have step : ∀ (t a' b' : Nat) (w1 : World), St w1 d → CtrS cb w1 t → a' < d.size → b' < d.size → t < 4611686018427387904 → _ := fun t a' b' w1 h1 h2 ha' hb' ht =>
    ord50 (P := P) (ρ := ρ) { L with } T rL F (a := a') (b := b') hN h2 h1 (hz ▸ ha') (hz ▸ hb') ht
  have step0 := step s a b w hS hC (hz.symm ▸ ha) (hz.symm ▸ hb) (by omega)
  have hcd : c < d.size := hz.symm ▸ hc
  have HS : Aside _ := step
  clear step hS hC hz; go_enter L.f47, BodyGt.n47_ntmps ρ
  go_wp2_with (go_at_fn_of (ρ.f 50) (Value.int .i64 (b : Int)); refine step0.mono ?_; rintro e w1 ⟨rfl, h1, k1⟩)
  go_wp2_with (go_at_fn_of (ρ.f 50) (Value.int .i64 (c : Int)); refine (HS.out _ _ c w1 h1 k1 l1.2 hcd (by omega)).mono ?_; rintro e w2 ⟨rfl, h2, k2⟩)
  go_wp2_with (go_at_fn_of (ρ.f 50) (Value.int .i64 ((order2 lt d a b s).1 : Int)); refine (HS.out _ _ _ w2 h2 k2 l1.1 l2.1 (by omega)).mono ?_; rintro e w3 ⟨rfl, h3, k3⟩)
  go_ret; exact ⟨rfl, h3, k3⟩

set_option maxHeartbeats 1000000 in
set_option maxRecDepth 1000000 in
theorem adj46 (L : LaysGt.n46 P ρ) (T : TypeId) (rL : Reaches P T rv "Less" gl) (F : Fam P rv gl gs lt n N St) {a : Nat} {d : Array α} {w : World} {cb s : Nat} (hN : N ≤ cb) (hC : CtrS cb w s) (hS : St w d) (ha1 : 1 ≤ a) (ha2 : a + 1 < n) (hsz : n < 4611686018427387904) (hs : s + 3 < 4611686018427387904) :
    Calls P (ρ.f 46) #[.iface T rv, .int .i64 a, .pointer (some ⟨cb, 0, none⟩)] w fun e w' => e = .returned (.int .i64 (medianAdjacent lt d a s).1) ∧ St w' d ∧ CtrS cb w' (medianAdjacent lt d a s).2 := by
  have mixed := L.mixed; have t0 := L.t0; have a0 := L.a0; have z0 := L.z0; have v0 := L.v0; have t3 := L.t3; have a3 := L.a3; have z3 := L.z3; have v3 := L.v3; have t4 := L.t4; have a4 := L.a4; have z4 := L.z4; have v4 := L.v4; have t26 := L.t26; have a26 := L.a26; have z26 := L.z26; have v26 := L.v26; have t38 := L.t38; have a38 := L.a38; have z38 := L.z38; have v38 := L.v38; have t43 := L.t43; have a43 := L.a43; have z43 := L.z43; have v43 := L.v43; have t45 := L.t45; have a45 := L.a45; have z45 := L.z45; have v45 := L.v45; have t71 := L.t71; have a71 := L.a71; have z71 := L.z71; have v71 := L.v71; have t74 := L.t74; have a74 := L.a74; have z74 := L.z74; have v74 := L.v74
  have e47 : ∀ args w, (callFunc (ρ.f 47) args).run P w = .ok (.enter (ρ.f 47) args) w := enters_of L.f47 (by kernel_rfl) rfl
  have hm := med47 (P := P) (ρ := ρ) { L with } T rL F (a := a - 1) (b := a) (c := a + 1) hN hC hS (by omega) (by omega) ha2 hs
  rw [show ((a - 1 : Nat) : Int) = (a : Int) - 1 by omega, show ((a + 1 : Nat) : Int) = (a : Int) + 1 by omega] at hm
  clear hS hC; go_enter L.f46, BodyGt.n46_ntmps ρ
  go_wp2_with (go_at_fn (ρ.f 47); refine hm.mono ?_; rintro e w1 ⟨rfl, h1, k1⟩)
  go_ret; exact ⟨rfl, h1, k1⟩

set_option maxHeartbeats 4000000 in
set_option maxRecDepth 1000000 in
theorem piv36 (L : LaysGt.n36 P ρ) (T : TypeId) (rL : Reaches P T rv "Less" gl) (F : Fam P rv gl gs lt n N St) {a b : Nat} {d : Array α} {w : World} (hS : St w d) (hab : a < b) (hb : b ≤ n) (hsz : n < 4611686018427387904) :
    Calls P (ρ.f 36) #[.iface T rv, .int .i64 a, .int .i64 b] w fun e w' => e = .returned (.tuple #[.int .i64 (choosePivot lt d a b).1, .int .i64 (hintCode (choosePivot lt d a b).2)]) ∧ St w' d := by
  have mixed := L.mixed; have t0 := L.t0; have a0 := L.a0; have z0 := L.z0; have v0 := L.v0; have t3 := L.t3; have a3 := L.a3; have z3 := L.z3; have v3 := L.v3; have t4 := L.t4; have a4 := L.a4; have z4 := L.z4; have v4 := L.v4; have t26 := L.t26; have a26 := L.a26; have z26 := L.z26; have v26 := L.v26; have t38 := L.t38; have a38 := L.a38; have z38 := L.z38; have v38 := L.v38; have t43 := L.t43; have a43 := L.a43; have z43 := L.z43; have v43 := L.v43; have t45 := L.t45; have a45 := L.a45; have z45 := L.z45; have v45 := L.v45; have t60 := L.t60; have a60 := L.a60; have z60 := L.z60; have v60 := L.v60; have t71 := L.t71; have a71 := L.a71; have z71 := L.z71; have v71 := L.v71; have t74 := L.t74; have a74 := L.a74; have z74 := L.z74; have v74 := L.v74
  have e46 : ∀ args w, (callFunc (ρ.f 46) args).run P w = .ok (.enter (ρ.f 46) args) w := enters_of L.f46 (by kernel_rfl) rfl
  have e47 : ∀ args w, (callFunc (ρ.f 47) args).run P w = .ok (.enter (ρ.f 47) args) w := enters_of L.f47 (by kernel_rfl) rfl
  have hN := F.top hS; have hA : St (w.alloc (.cells #[.int .i64 0] (ρ.t 3))) d := F.alloc hS _
  have hK : CtrS w.heap.size (w.alloc (.cells #[.int .i64 0] (ρ.t 3))) 0 := ⟨by rw [World.cell?_alloc_at _ _ _ _ rfl]; rfl, World.frozen?_alloc_at _ _ _ _ rfl⟩
  have MA := fun (x s : Nat) w1 (h1 : St w1 d) (k1 : CtrS w.heap.size w1 s) (hx : 1 ≤ x) (hx2 : x + 1 < n) hs => adj46 (P := P) (ρ := ρ) { L with } T rL F (a := x) hN k1 h1 hx hx2 hsz hs
  have MD := fun (x y z s : Nat) w1 (h1 : St w1 d) (k1 : CtrS w.heap.size w1 s) (hx : x < n) (hy : y < n) (hz : z < n) hs => med47 (P := P) (ρ := ρ) { L with } T rL F (a := x) (b := y) (c := z) hN k1 h1 hx hy hz hs
  clear hS; rw [choosePivot_eq]
  obtain ⟨I, hI⟩ : ∃ I : Nat, I = a + (b - a) / 4 * 1 := ⟨_, rfl⟩
  obtain ⟨J, hJ⟩ : ∃ J : Nat, J = a + (b - a) / 4 * 2 := ⟨_, rfl⟩
  obtain ⟨K, hKK⟩ : ∃ K : Nat, K = a + (b - a) / 4 * 3 := ⟨_, rfl⟩
  have eI : ((a : Int) + ((b : Int) - (a : Int)) / 4) = (I : Int) := by omega
  have eJ : ((a : Int) + ((b : Int) - (a : Int)) / 4 * 2) = (J : Int) := by omega
  have eK : ((a : Int) + ((b : Int) - (a : Int)) / 4 * 3) = (K : Int) := by omega
  by_cases h8 : b - a ≥ 8
  · by_cases h50 : b - a ≥ 50
    · obtain ⟨i1, s1, h1⟩ : ∃ i1 s1, medianAdjacent lt d I 0 = (i1, s1) := ⟨_, _, rfl⟩
      obtain ⟨j1, s2, h2⟩ : ∃ j1 s2, medianAdjacent lt d J s1 = (j1, s2) := ⟨_, _, rfl⟩
      obtain ⟨k1, s3, h3⟩ : ∃ k1 s3, medianAdjacent lt d K s2 = (k1, s3) := ⟨_, _, rfl⟩
      obtain ⟨p, s, h4⟩ : ∃ p s, median lt d i1 j1 k1 s3 = (p, s) := ⟨_, _, rfl⟩
      have hraw : rawPivot lt d a b = (p, s) := by simp only [rawPivot, if_pos h8, if_pos h50, ← hI, ← hJ, ← hKK, h1, h2, h3, h4]
      have m1 := medianAdjacent_mem lt d I 0; rw [h1] at m1
      have m2 := medianAdjacent_mem lt d J s1; rw [h2] at m2
      have m3 := medianAdjacent_mem lt d K s2; rw [h3] at m3
      have n1 := medianAdjacent_count lt d I 0; rw [h1] at n1
      have n2 := medianAdjacent_count lt d J s1; rw [h2] at n2
      have n3 := medianAdjacent_count lt d K s2; rw [h3] at n3
      simp only [] at m1 m2 m3 n1 n2 n3
      have c1 := MA I 0 _ hA hK (by omega) (by omega) (by omega)
      have c2 := fun w1 h k => MA J s1 w1 h k (by omega) (by omega) (by omega)
      have c3 := fun w1 h k => MA K s2 w1 h k (by omega) (by omega) (by omega)
      have c4 := fun w1 h k => MD i1 j1 k1 s3 w1 h k (by omega) (by omega) (by omega) (by omega)
      simp only [h1, h2, h3, h4] at c1 c2 c3 c4
      rw [hraw]
      obtain ⟨Hc, hHc⟩ : ∃ Hc : Int, Hc = hintCode (hintOf s) := ⟨_, rfl⟩
      have hh0 : s = 0 → Hc = 1 := fun h => by rw [hHc, h]; rfl
      have hh12 : s = 12 → Hc = 2 := fun h => by rw [hHc, h]; rfl
      have hhx : s ≠ 0 → s ≠ 12 → Hc = 0 := fun h1 h2 => by rw [hHc]; unfold hintOf; rw [if_neg h1, if_neg h2]; rfl
      show Calls P (ρ.f 36) _ w fun e w' => e = .returned (.tuple #[.int .i64 (p : Int), .int .i64 (hintCode (hintOf s))]) ∧ St w' d
      rw [← hHc]; clear hHc hraw; have C2 : Aside _ := c2
      have C3 : Aside _ := c3
      have C4 : Aside _ := c4
      clear h1 h2 h3 h4 MA MD hI hJ hKK m1 m2 m3 c2 c3 c4 hA hK; go_enter L.f36, BodyGt.n36_ntmps ρ
      go_wp2_with (first
        | (go_at_fn_of (ρ.f 46) (Value.int .i64 (I : Int)); refine c1.mono ?_; rintro e wa ⟨rfl, ha, ka⟩)
        | (go_at_fn_of (ρ.f 46) (Value.int .i64 (J : Int)); refine (C2.out _ ha ka).mono ?_; rintro e wb ⟨rfl, hb, kb⟩)
        | (go_at_fn_of (ρ.f 46) (Value.int .i64 (K : Int)); refine (C3.out _ hb kb).mono ?_; rintro e wc ⟨rfl, hc, kc⟩)
        | (go_at_fn (ρ.f 47); refine (C4.out _ hc kc).mono ?_; rintro e wd ⟨rfl, hd, kd, -⟩))
      all_goals
        go_ret2
        refine ⟨?_, hd⟩
        first
          | (have e0 : (s : Int) = 0 := of_beq_int (by assumption)
             rw [hh0 (by omega)]; rfl)
          | (have e1 : (s : Int) = 12 := of_beq_int (by assumption)
             rw [hh12 (by omega)]; rfl)
          | (have e0 : (s : Int) ≠ 0 := of_bne_int (by assumption)
             have e1 : (s : Int) ≠ 12 := of_bne_int (by assumption)
             rw [hhx (by omega) (by omega)]; rfl)
          | (rw [hh0 (by omega)]; rfl)
    · obtain ⟨p, s, h4⟩ : ∃ p s, median lt d I J K 0 = (p, s) := ⟨_, _, rfl⟩
      have hraw : rawPivot lt d a b = (p, s) := by simp only [rawPivot, if_pos h8, if_neg h50, ← hI, ← hJ, ← hKK, h4]
      have c4 := MD I J K 0 _ hA hK (by omega) (by omega) (by omega) (by omega)
      simp only [h4] at c4
      rw [hraw]
      obtain ⟨Hc, hHc⟩ : ∃ Hc : Int, Hc = hintCode (hintOf s) := ⟨_, rfl⟩
      have hh0 : s = 0 → Hc = 1 := fun h => by rw [hHc, h]; rfl
      have hh12 : s = 12 → Hc = 2 := fun h => by rw [hHc, h]; rfl
      have hhx : s ≠ 0 → s ≠ 12 → Hc = 0 := fun h1 h2 => by rw [hHc]; unfold hintOf; rw [if_neg h1, if_neg h2]; rfl
      show Calls P (ρ.f 36) _ w fun e w' => e = .returned (.tuple #[.int .i64 (p : Int), .int .i64 (hintCode (hintOf s))]) ∧ St w' d
      rw [← hHc]; clear hHc hraw; clear h4 MA MD hI hJ hKK hA hK; go_enter L.f36, BodyGt.n36_ntmps ρ
      go_wp2_with (go_at_fn (ρ.f 47); refine c4.mono ?_; rintro e wd ⟨rfl, hd, kd, -⟩)
      all_goals
        go_ret2
        refine ⟨?_, hd⟩
        first
          | (have e0 : (s : Int) = 0 := of_beq_int (by assumption)
             rw [hh0 (by omega)]; rfl)
          | (have e1 : (s : Int) = 12 := of_beq_int (by assumption)
             rw [hh12 (by omega)]; rfl)
          | (have e0 : (s : Int) ≠ 0 := of_bne_int (by assumption)
             have e1 : (s : Int) ≠ 12 := of_bne_int (by assumption)
             rw [hhx (by omega) (by omega)]; rfl)
          | (rw [hh0 (by omega)]; rfl)
  · obtain ⟨p, hp⟩ : ∃ p : Nat, p = J := ⟨_, rfl⟩
    obtain ⟨s, hs⟩ : ∃ s : Nat, s = 0 := ⟨_, rfl⟩
    have hraw : rawPivot lt d a b = (p, s) := by simp only [rawPivot, if_neg h8, ← hJ, hp, hs]
    rw [hraw]
    obtain ⟨Hc, hHc⟩ : ∃ Hc : Int, Hc = hintCode (hintOf s) := ⟨_, rfl⟩
    have hh0 : s = 0 → Hc = 1 := fun h => by rw [hHc, h]; rfl
    have hh12 : s = 12 → Hc = 2 := fun h => by rw [hHc, h]; rfl
    have hhx : s ≠ 0 → s ≠ 12 → Hc = 0 := fun h1 h2 => by rw [hHc]; unfold hintOf; rw [if_neg h1, if_neg h2]; rfl
    show Calls P (ρ.f 36) _ w fun e w' => e = .returned (.tuple #[.int .i64 (p : Int), .int .i64 (hintCode (hintOf s))]) ∧ St w' d
    rw [← hHc]; clear hHc hraw; subst hp; have A0 : Aside (St (w.alloc (.cells #[.int .i64 0] (ρ.t 3))) d) := hA
    clear MA MD hI hJ hKK hA hK; go_enter L.f36, BodyGt.n36_ntmps ρ
    go_wp2
    all_goals
      go_ret2
      refine ⟨?_, A0.out⟩
      first
        | (have e0 : (s : Int) = 0 := of_beq_int (by assumption)
           rw [hh0 (by omega)]; rfl)
        | (have e1 : (s : Int) = 12 := of_beq_int (by assumption)
           rw [hh12 (by omega)]; rfl)
        | (have e0 : (s : Int) ≠ 0 := of_bne_int (by assumption)
           have e1 : (s : Int) ≠ 12 := of_bne_int (by assumption)
           rw [hhx (by omega) (by omega)]; rfl)
        | (rw [hh0 (by omega)]; rfl)

set_option maxHeartbeats 16000000 in
set_option maxRecDepth 1000000 in
theorem pdq18 (L : LaysGt.n18 P ρ) (T : TypeId) (rL : Reaches P T rv "Less" gl) (rS : Reaches P T rv "Swap" gs) (F : Fam P rv gl gs lt n N St) (hO : SWO lt) (hsz : n < 4611686018427387904) :
    ∀ (Nn a b limit : Nat) (d : Array α) (w : World), b - a < Nn → St w d → a ≤ b → b ≤ n → limit < 4611686018427387904 → Sort.Below lt a b d →
    Calls P (ρ.f 18) #[.iface T rv, .int .i64 a, .int .i64 b, .int .i64 limit] w fun e w' => e = .returned (.tuple #[]) ∧ St w' (pdq lt d a b limit true true) := by
  have mixed := L.mixed; have t0 := L.t0; have a0 := L.a0; have z0 := L.z0; have v0 := L.v0; have t3 := L.t3; have a3 := L.a3; have z3 := L.z3; have v3 := L.v3; have t4 := L.t4; have a4 := L.a4; have z4 := L.z4; have v4 := L.v4; have t5 := L.t5; have a5 := L.a5; have z5 := L.z5; have v5 := L.v5; have t9 := L.t9; have a9 := L.a9; have z9 := L.z9; have v9 := L.v9; have t26 := L.t26; have a26 := L.a26; have z26 := L.z26; have v26 := L.v26; have t38 := L.t38; have a38 := L.a38; have z38 := L.z38; have v38 := L.v38; have t43 := L.t43; have a43 := L.a43; have z43 := L.z43; have v43 := L.v43; have t45 := L.t45; have a45 := L.a45; have z45 := L.z45; have v45 := L.v45; have t47 := L.t47; have a47 := L.a47; have z47 := L.z47; have v47 := L.v47; have t56 := L.t56; have a56 := L.a56; have z56 := L.z56; have v56 := L.v56; have t58 := L.t58; have a58 := L.a58; have z58 := L.z58; have v58 := L.v58; have t60 := L.t60; have a60 := L.a60; have z60 := L.z60; have v60 := L.v60; have t61 := L.t61; have a61 := L.a61; have z61 := L.z61; have v61 := L.v61; have t65 := L.t65; have a65 := L.a65; have z65 := L.z65; have v65 := L.v65; have t67 := L.t67; have a67 := L.a67; have z67 := L.z67; have v67 := L.v67; have t71 := L.t71; have a71 := L.a71; have z71 := L.z71; have v71 := L.v71; have t73 := L.t73; have a73 := L.a73; have z73 := L.z73; have v73 := L.v73; have t74 := L.t74; have a74 := L.a74; have z74 := L.z74; have v74 := L.v74
  have mL : ∀ w, Sem.run P (method (P.types.size + 100) T rv "Less") w = .ok (gl, rv) w := rL.finds
  have eL := rL.enters; have mS : ∀ w, Sem.run P (method (P.types.size + 100) T rv "Swap") w = .ok (gs, rv) w := rS.finds
  have eS := rS.enters; have e33 : ∀ args w, (callFunc (ρ.f 33) args).run P w = .ok (.enter (ρ.f 33) args) w := enters_of L.f33 (by kernel_rfl) rfl
  have e34 : ∀ args w, (callFunc (ρ.f 34) args).run P w = .ok (.enter (ρ.f 34) args) w := enters_of L.f34 (by kernel_rfl) rfl
  have e35 : ∀ args w, (callFunc (ρ.f 35) args).run P w = .ok (.enter (ρ.f 35) args) w := enters_of L.f35 (by kernel_rfl) rfl
  have e36 : ∀ args w, (callFunc (ρ.f 36) args).run P w = .ok (.enter (ρ.f 36) args) w := enters_of L.f36 (by kernel_rfl) rfl
  have e37 : ∀ args w, (callFunc (ρ.f 37) args).run P w = .ok (.enter (ρ.f 37) args) w := enters_of L.f37 (by kernel_rfl) rfl
  have e38 : ∀ args w, (callFunc (ρ.f 38) args).run P w = .ok (.enter (ρ.f 38) args) w := enters_of L.f38 (by kernel_rfl) rfl
  have e39 : ∀ args w, (callFunc (ρ.f 39) args).run P w = .ok (.enter (ρ.f 39) args) w := enters_of L.f39 (by kernel_rfl) rfl
  have e40 : ∀ args w, (callFunc (ρ.f 40) args).run P w = .ok (.enter (ρ.f 40) args) w := enters_of L.f40 (by kernel_rfl) rfl
  have e18 : ∀ args w, (callFunc (ρ.f 18) args).run P w = .ok (.enter (ρ.f 18) args) w := enters_of L.f18 (by kernel_rfl) rfl
  intro Nn; induction Nn with
  | zero => intro _ _ _ _ _ h; exact absurd h (Nat.not_lt_zero _)
  | succ Nn ih =>
    intro a b limit d w hN hS hab hb hlimit hBel0; have hdn := F.size hS; go_enter L.f18, BodyGt.n18_ntmps ρ
    go_wp2
    go_loopg [1, 2, 3, 8, 9] (b - a) (fun k s1 s2 s3 s8 s9 wr => ∃ (a' b' lim : Nat) (wb wp : Bool) (dk : Array α), s1 = .int .i64 a' ∧ s2 = .int .i64 b' ∧ s3 = .int .i64 lim ∧ s8 = .bool wb ∧ s9 = .bool wp ∧
      a' ≤ b' ∧ b' ≤ n ∧ b' - a' ≤ k ∧ k ≤ b - a ∧ lim ≤ limit ∧ dk.size = n ∧ Sort.Below lt a' b' dk ∧ Aside (St wr dk) ∧ Aside (pdq lt dk a' b' lim wb wp = pdq lt d a b limit true true))
    case atStart => exact ⟨a, b, limit, true, true, d, rfl, rfl, rfl, rfl, rfl, hab, hb, Nat.le_refl _, Nat.le_refl _, Nat.le_refl _, hdn, hBel0, hS, rfl⟩
    case round =>
      clear hS; obtain ⟨a', b', lim, wb, wp, dk, rfl, rfl, rfl, rfl, rfl, hab', hb', hk, hkN, hlim, hds, hBel, S, A⟩ := hrel; by_cases h12 : b' - a' ≤ 12
      · have h12z : (b' : Int) - (a' : Int) ≤ 12 := by omega
        have hc := ins33 (P := P) (ρ := ρ) { L with } T rL rS F S.out hab' hb' hsz
        go_wp2_with (go_at_fn (ρ.f 33); refine hc.mono ?_; rintro e w1 ⟨rfl, h1⟩)
        (try simp only [Exit.inBlock, Exit.then]); refine bodyPost_ret (results_none rfl _ _ _) rfl ?_
        refine ⟨rfl, ?_⟩
        rw [← A.out, pdq_small h12]; exact h1
      · have h12z : ¬ ((b' : Int) - (a' : Int) ≤ 12) := by omega
        by_cases hl0 : lim = 0
        · subst hl0; have hc := heap34 (P := P) (ρ := ρ) { L with } T rL rS F S.out hab' hb' hsz
          go_wp2_with (go_at_fn (ρ.f 34); refine hc.mono ?_; rintro e w1 ⟨rfl, h1⟩)
          (try simp only [Exit.inBlock, Exit.then]); refine bodyPost_ret (results_none rfl _ _ _) rfl ?_
          refine ⟨rfl, ?_⟩
          rw [← A.out, pdq_heap h12 rfl]; exact h1
        · have hl0z : ¬ ((lim : Int) = 0) := by omega
          obtain ⟨s1, B1, hc1, s2, B2, hpv, s3, B3⟩ := rd_facts (lt := lt) (limit := lim) (wb := wb) (wp := wp) hO partialInsertionSort_holds reverseRange_holds (show a' < b' by omega) (show b' ≤ dk.size by omega) hBel
          go_upto_if 35 with fail
          go_cut [3] from 19 (fun s3 wc => s3 = .int .i64 (rd lt dk a' b' lim wb wp).lim ∧ Aside (St wc (rd lt dk a' b' lim wb wp).d1))
          case first =>
            cases wb
            · have hc := brk35 (P := P) (ρ := ρ) { L with } T rS F S.out hab' hb' hsz
              go_wp2_with (go_at_fn (ρ.f 35); refine hc.mono ?_; rintro e w1 ⟨rfl, h1⟩)
              go_meet
              case rel =>
                refine ⟨?_, h1⟩
                show Value.int .i64 ((lim : Int) - 1) = Value.int .i64 ((lim - 1 : Nat) : Int)
                congr 1
                omega
            · go_wp2_with fail
              go_meet
              case rel => exact ⟨rfl, S⟩
          case rest =>
            obtain ⟨rfl, S1⟩ := hcut; have hc17 := piv36 (P := P) (ρ := ρ) { L with } T rL F S1.out (show a' < b' by omega) hb' hsz
            change Calls P (ρ.f 36) _ _ fun e w' => e = .returned (.tuple #[.int .i64 (rd lt dk a' b' lim wb wp).c.1, .int .i64 (hintCode (rd lt dk a' b' lim wb wp).c.2)]) ∧ St w' (rd lt dk a' b' lim wb wp).d1 at hc17
            go_upto_if 50 with (go_at_fn (ρ.f 36); refine hc17.mono ?_; rintro e w2 ⟨rfl, h2⟩)
            have S2 : Aside (St w2 (rd lt dk a' b' lim wb wp).d1) := h2
            clear h2 S1 hc17; go_cut [11, 12] from 19 (fun s11 s12 wc => s11 = .int .i64 (rd lt dk a' b' lim wb wp).pivot ∧ s12 = .int .i64 (hintCode (rd lt dk a' b' lim wb wp).hint) ∧ Aside (St wc (rd lt dk a' b' lim wb wp).d2))
            case first =>
              by_cases hh : (rd lt dk a' b' lim wb wp).c.2 = .decreasing
              · have hcode : hintCode (rd lt dk a' b' lim wb wp).c.2 = 2 := by rw [hh]; rfl
                obtain ⟨e2, epv, eht⟩ := rd_dec hh
                have hc18 := rev37 (P := P) (ρ := ρ) { L with } T rS F S2.out hab' hb' hsz
                go_wp2_with (go_at_fn (ρ.f 37); refine hc18.mono ?_; rintro e w3 ⟨rfl, h3⟩)
                go_meet
                case rel =>
                  refine ⟨?_, by rw [eht]; rfl, by rw [e2]; exact h3⟩
                  rw [epv]
                  congr 1
                  omega
              · have hcode : ¬ (hintCode (rd lt dk a' b' lim wb wp).c.2 = 2) := fun h => hh (hintCode_two h)
                obtain ⟨e2, epv, eht⟩ := rd_not hh
                go_wp2_with fail
                go_meet
                case rel => exact ⟨by rw [epv], by rw [eht], by rw [e2]; exact S2⟩
            case rest =>
              clear S2; obtain ⟨rfl, rfl, S3⟩ := hcut; go_upto_region 15 with fail
              go_cut [12, 68] from 19 (fun s12 s68 wx => s12 = .int .i64 (hintCode (rd lt dk a' b' lim wb wp).hint) ∧ s68 = .bool (wb && wp && decide ((rd lt dk a' b' lim wb wp).hint = .increasing)) ∧ wx = wc)
              case first =>
                cases wb <;> cases wp <;> cases hh3 : (rd lt dk a' b' lim _ _).hint <;>
                  (have hcode3 := congrArg hintCode hh3
                   simp only [hintCode] at hcode3
                   go_wp2_with fail
                   go_meet
                   exact ⟨by simp [hh3, hintCode], by simp [hh3, hintCode], rfl⟩)
              case rest =>
                obtain ⟨rfl, rfl, rfl⟩ := hcut; go_upto_if 68 with fail
                go_cut [] from 19 (fun wx => (rd lt dk a' b' lim wb wp).pi.2 = false ∧ Aside (St wx (rd lt dk a' b' lim wb wp).pi.1))
                case first =>
                  cases h68 : (wb && wp && decide ((rd lt dk a' b' lim wb wp).hint = .increasing))
                  · have epi := rd_pi_no h68; go_wp2_with fail
                    go_meet
                    case rel => exact ⟨by rw [epi], by rw [epi]; exact S3⟩
                  · have epi := rd_pi_yes h68; have hc19 := par38 (P := P) (ρ := ρ) { L with } T rL rS F S3.out (show a' < b' by omega) hb' hsz
                    rw [← epi] at hc19
                    go_wp2_with (go_at_fn (ρ.f 38); refine hc19.mono ?_; rintro e w4 ⟨rfl, h4⟩)
                    all_goals first
                      | (have hp2 : (rd lt dk a' b' lim wb wp).pi.2 = false := by rw [epi]; assumption
                         go_meet
                         exact ⟨hp2, h4⟩)
                      | (have hp2 : (rd lt dk a' b' lim wb wp).pi.2 = true := by rw [epi]; assumption
                         (try simp only [Exit.inBlock, Exit.then]); refine bodyPost_ret (results_none rfl _ _ _) rfl ?_
                         refine ⟨rfl, ?_⟩
                         rw [← A.out, pdq_done h12 hl0 hp2]; exact h4)
                case rest =>
                  clear S3; obtain ⟨hp2, S5⟩ := hcut; go_upto_region 17 with fail
                  go_cut [82] from 19 (fun s82 wx => s82 = .bool (decide (a' > 0) && !lt (rd lt dk a' b' lim wb wp).pi.1[a' - 1]! (rd lt dk a' b' lim wb wp).pi.1[(rd lt dk a' b' lim wb wp).pivot]!) ∧ Aside (St wx (rd lt dk a' b' lim wb wp).pi.1))
                  case first =>
                    rcases Nat.eq_zero_or_pos a' with ha0 | ha0
                    · have ha0z : decide ((a' : Int) > 0) = false := decide_eq_false (by omega)
                      go_wp2_with fail
                      go_meet
                      case rel => exact ⟨by simp [ha0], S5⟩
                    · have ha0z : (a' : Int) > 0 := by omega
                      have hl := F.less S5.out (a' - 1) (rd lt dk a' b' lim wb wp).pivot (by omega) (by omega)
                      rw [show ((a' - 1 : Nat) : Int) = (a' : Int) - 1 by omega] at hl
                      cases hlv : lt (rd lt dk a' b' lim wb wp).pi.1[a' - 1]! (rd lt dk a' b' lim wb wp).pi.1[(rd lt dk a' b' lim wb wp).pivot]! <;>
                        (rw [hlv] at hl
                         go_wp2_with (go_at_fn gl; refine hl.mono ?_; rintro e w' ⟨rfl, nq, rfl⟩)
                         go_meet
                         exact ⟨by simp [ha0, hlv], F.drew S5.out nq⟩)
                  case rest =>
                    clear S5; obtain ⟨rfl, S6⟩ := hcut; cases h87 : (decide (a' > 0) && !lt (rd lt dk a' b' lim wb wp).pi.1[a' - 1]! (rd lt dk a' b' lim wb wp).pi.1[(rd lt dk a' b' lim wb wp).pivot]!)
                    · obtain ⟨mid, ap, d4, hx⟩ : ∃ mid ap d4, partition lt (rd lt dk a' b' lim wb wp).pi.1 a' b' (rd lt dk a' b' lim wb wp).pivot = (mid, ap, d4) := ⟨(partition lt (rd lt dk a' b' lim wb wp).pi.1 a' b' (rd lt dk a' b' lim wb wp).pivot).1, (partition lt (rd lt dk a' b' lim wb wp).pi.1 a' b' (rd lt dk a' b' lim wb wp).pivot).2.1, (partition lt (rd lt dk a' b' lim wb wp).pi.1 a' b' (rd lt dk a' b' lim wb wp).pivot).2.2, rfl⟩
                      obtain ⟨r1, r2, r3, r4, r5, r6, r7⟩ := round_part hO (partition_holds lt) hpv.1 hpv.2 (show b' ≤ (rd lt dk a' b' lim wb wp).pi.1.size by omega) B3 hx
                      have hc22 := pa40 (P := P) (ρ := ρ) { L with } T rL rS F S6.out hpv.1 hpv.2 hb' hsz
                      rw [hx] at hc22
                      have X : Aside (partition lt (rd lt dk a' b' lim wb wp).pi.1 a' b' (rd lt dk a' b' lim wb wp).pivot = (mid, ap, d4)) := hx
                      clear hx; go_upto_if 108 with (go_at_fn (ρ.f 40); refine hc22.mono ?_; rintro e w7 ⟨rfl, h7⟩)
                      have hx := X.out; have hs4 : d4.size = n := r3.trans (s3.trans hds)
                      have S7 : Aside (St w7 d4) := h7
                      clear h7 S6; by_cases h4 : mid - a' < b' - mid
                      · have h4z : (mid : Int) - (a' : Int) < (b' : Int) - (mid : Int) := by omega
                        have hih := ih a' mid (rd lt dk a' b' lim wb wp).lim d4 w7 (by omega) S7.out (by omega) (by omega) (Nat.lt_of_le_of_lt (Nat.le_trans rd_lim_le hlim) hlimit) r4
                        obtain ⟨pL, sL⟩ := pdq_sorts lt hO d4 a' mid (rd lt dk a' b' lim wb wp).lim true true (by omega) (by omega) r4
                        go_wp2_with (go_at_fn (ρ.f 18); refine hih.mono ?_; rintro e w8 ⟨rfl, h8⟩)
                        go_roundg (b' - (mid + 1))
                        case measure => omega
                        case rel =>
                          refine ⟨mid + 1, b', (rd lt dk a' b' lim wb wp).lim, decide (mid - a' ≥ (b' - a') / 8), ap, pdq lt d4 a' mid (rd lt dk a' b' lim wb wp).lim true true, by simp, rfl, rfl, ?_, rfl, by omega, by omega, Nat.le_refl _, by omega, Nat.le_trans rd_lim_le hlim, by rw [pL.1, hs4], (r6 _ pL sL).1, h8, ?_⟩
                          · exact congrArg Value.bool (eighth (by omega) (by omega))
                          · show _ = _
                            rw [← A.out, pdq_left h12 hl0 hp2 h87 (by rw [hx]; exact ⟨r1, r2⟩) (by rw [hx]; exact h4), hx]
                      · have h4z : ¬ ((mid : Int) - (a' : Int) < (b' : Int) - (mid : Int)) := by omega
                        have hih := ih (mid + 1) b' (rd lt dk a' b' lim wb wp).lim d4 w7 (by omega) S7.out (by omega) (by omega) (Nat.lt_of_le_of_lt (Nat.le_trans rd_lim_le hlim) hlimit) r5
                        rw [show ((mid + 1 : Nat) : Int) = (mid : Int) + 1 by omega] at hih
                        obtain ⟨pL, sL⟩ := pdq_sorts lt hO d4 (mid + 1) b' (rd lt dk a' b' lim wb wp).lim true true (by omega) (by omega) r5
                        go_wp2_with (go_at_fn (ρ.f 18); refine hih.mono ?_; rintro e w8 ⟨rfl, h8⟩)
                        go_roundg (mid - a')
                        case measure => omega
                        case rel =>
                          refine ⟨a', mid, (rd lt dk a' b' lim wb wp).lim, decide (b' - mid ≥ (b' - a') / 8), ap, pdq lt d4 (mid + 1) b' (rd lt dk a' b' lim wb wp).lim true true, rfl, rfl, rfl, ?_, rfl, by omega, by omega, Nat.le_refl _, by omega, Nat.le_trans rd_lim_le hlim, by rw [pL.1, hs4], (r7 _ pL sL).1, h8, ?_⟩
                          · exact congrArg Value.bool (eighth (by omega) (by omega))
                          · show _ = _
                            rw [← A.out, pdq_right h12 hl0 hp2 h87 (by rw [hx]; exact ⟨r1, r2⟩) (by rw [hx]; exact h4), hx]
                    · have h87' := h87; simp only [Bool.and_eq_true, decide_eq_true_eq, Bool.not_eq_true'] at h87'
                      obtain ⟨mid, d4, hx⟩ : ∃ mid d4, partitionEqual lt (rd lt dk a' b' lim wb wp).pi.1 a' b' (rd lt dk a' b' lim wb wp).pivot = (mid, d4) := ⟨(partitionEqual lt (rd lt dk a' b' lim wb wp).pi.1 a' b' (rd lt dk a' b' lim wb wp).pivot).1, (partitionEqual lt (rd lt dk a' b' lim wb wp).pi.1 a' b' (rd lt dk a' b' lim wb wp).pivot).2, rfl⟩
                      obtain ⟨r1, r2, r3, r4, _⟩ := round_eq hO (partitionEqual_holds lt) h87'.1 hpv.1 hpv.2 (show b' ≤ (rd lt dk a' b' lim wb wp).pi.1.size by omega) B3 h87'.2 hx
                      have hc21 := pe39 (P := P) (ρ := ρ) { L with } T rL rS F S6.out hpv.1 hpv.2 hb' hsz
                      rw [hx] at hc21
                      have X : Aside (partitionEqual lt (rd lt dk a' b' lim wb wp).pi.1 a' b' (rd lt dk a' b' lim wb wp).pivot = (mid, d4)) := hx
                      clear hx; go_wp2_with (go_at_fn (ρ.f 39); refine hc21.mono ?_; rintro e w7 ⟨rfl, h7⟩)
                      go_roundg (b' - mid)
                      case measure => omega
                      case rel =>
                        have hx := X.out; exact ⟨mid, b', (rd lt dk a' b' lim wb wp).lim, wb, wp, d4, rfl, rfl, rfl, rfl, rfl, r2, hb', Nat.le_refl _, by omega, Nat.le_trans rd_lim_le hlim, by rw [r3, s3, hds], r4, h7, (show _ = _ by rw [← A.out, pdq_eq h12 hl0 hp2 h87 (by rw [hx]; exact ⟨r1, r2⟩), hx])⟩

set_option maxHeartbeats 1000000 in
set_option maxRecDepth 1000000 in
/-- sort.Sort: the row behind it holds a permutation of what it held, in ascending order. -/
theorem sort11 (L : LaysGt.n11 P ρ) (T : TypeId) (rL : Reaches P T rv "Less" gl) (rS : Reaches P T rv "Swap" gs) (F : Fam P rv gl gs lt n N St) {gn : Nat} (rN : Reaches P T rv "Len" gn) (hO : SWO lt) (hsz : n < 4611686018427387904) {d : Array α} {w : World} (hS : St w d)
    (hlen : Calls P gn #[rv] w fun e w' => e = .returned (.int .i64 n) ∧ ∃ q, w' = w.drewN q) :
    Calls P (ρ.f 11) #[.iface T rv] w fun e w' => e = .returned (.tuple #[]) ∧ ∃ d', PermIn 0 d.size d d' ∧ SortedIn lt 0 d.size d' ∧ St w' d' := by
  have mixed := L.mixed; have t0 := L.t0; have a0 := L.a0; have z0 := L.z0; have v0 := L.v0; have t3 := L.t3; have a3 := L.a3; have z3 := L.z3; have v3 := L.v3; have t4 := L.t4; have a4 := L.a4; have z4 := L.z4; have v4 := L.v4; have t5 := L.t5; have a5 := L.a5; have z5 := L.z5; have v5 := L.v5; have t9 := L.t9; have a9 := L.a9; have z9 := L.z9; have v9 := L.v9; have t26 := L.t26; have a26 := L.a26; have z26 := L.z26; have v26 := L.v26; have t38 := L.t38; have a38 := L.a38; have z38 := L.z38; have v38 := L.v38; have t43 := L.t43; have a43 := L.a43; have z43 := L.z43; have v43 := L.v43; have t45 := L.t45; have a45 := L.a45; have z45 := L.z45; have v45 := L.v45; have t47 := L.t47; have a47 := L.a47; have z47 := L.z47; have v47 := L.v47; have t56 := L.t56; have a56 := L.a56; have z56 := L.z56; have v56 := L.v56; have t58 := L.t58; have a58 := L.a58; have z58 := L.z58; have v58 := L.v58; have t60 := L.t60; have a60 := L.a60; have z60 := L.z60; have v60 := L.v60; have t61 := L.t61; have a61 := L.a61; have z61 := L.z61; have v61 := L.v61; have t65 := L.t65; have a65 := L.a65; have z65 := L.z65; have v65 := L.v65; have t67 := L.t67; have a67 := L.a67; have z67 := L.z67; have v67 := L.v67; have t71 := L.t71; have a71 := L.a71; have z71 := L.z71; have v71 := L.v71; have t73 := L.t73; have a73 := L.a73; have z73 := L.z73; have v73 := L.v73; have t74 := L.t74; have a74 := L.a74; have z74 := L.z74; have v74 := L.v74
  have mN : ∀ w, Sem.run P (method (P.types.size + 100) T rv "Len") w = .ok (gn, rv) w := rN.finds
  have eN := rN.enters; have hz := F.size hS; by_cases h1 : n ≤ 1
  · have S : Aside (St w d) := hS
    clear hS; go_enter L.f11, BodyGt.n11_ntmps ρ
    go_wp2_with (go_at_fn gn; refine hlen.mono ?_; rintro e w' ⟨rfl, q, rfl⟩)
    all_goals first
      | (exfalso; omega)
      | ((try simp only [Exit.inBlock, Exit.then]); refine bodyPost_ret (results_none rfl _ _ _) rfl ?_
         exact ⟨rfl, d, ⟨rfl, fun _ _ => rfl, List.Perm.refl _⟩, fun i j hi hj hij => by omega, F.drew S.out q⟩)
  · have e17 : ∀ args w, (callFunc (ρ.f 17) args).run P w = .ok (.enter (ρ.f 17) args) w := enters_of L.f17 (by kernel_rfl) rfl
    have e18 : ∀ args w, (callFunc (ρ.f 18) args).run P w = .ok (.enter (ρ.f 18) args) w := enters_of L.f18 (by kernel_rfl) rfl
    have hb := fun w => Any.bits_Len (LaysGg.n13.bits (({ L with } : LaysGt.n17 P ρ).elder)) (n : Int) w (by omega) (by omega)
    change ∀ w, Calls P (ρ.f 17) _ w _ at hb
    have wr : IntKind.u64.wrap (n : Int) = n := by simp [IntKind.wrap, IntKind.bits, IntKind.signed]; omega
    have hlim : Lib.bitLen n < 4611686018427387904 := Nat.lt_of_le_of_lt (Lib.bitLen_le n 62 (by omega) (by omega)) (by omega)
    have hp := fun q => pdq18 (P := P) (ρ := ρ) { L with } T rL rS F hO hsz (n + 1) 0 n (Lib.bitLen n) d (w.drewN q) (by omega) (F.drew hS q) (Nat.zero_le _) (Nat.le_refl _) hlim (Or.inl rfl)
    have hsr := pdq_sorts lt hO d 0 d.size (Lib.bitLen d.size) true true (Nat.zero_le _) (Nat.le_refl _) (Or.inl rfl)
    have HR : Aside _ := hsr
    rw [hz] at HR
    clear hS hsr; go_enter L.f11, BodyGt.n11_ntmps ρ
    go_wp2_with (first
      | (go_at_fn gn; refine hlen.mono ?_; rintro e w' ⟨rfl, q, rfl⟩)
      | (go_at_fn (ρ.f 17); refine (hb _).mono ?_; rintro e w' ⟨rfl, rfl⟩)
      | (go_at_fn (ρ.f 18); refine (hp _).mono ?_; rintro e w' ⟨rfl, h8⟩))
    all_goals first
      | (exfalso; omega)
      | (go_end0; rw [hz]; exact ⟨rfl, _, HR.out.1, HR.out.2, h8⟩)

end
end Go.Proofs.YtageielcdebjlaaGreatDoor
