/- Contracts of both devices at whatever index; the walk of carrierlaw03.BlockPlays. -/
import Derived.Test.YtnfmjbmcboiacaaActs
import Derived.Deep.CutBlock
namespace Go.Proofs.Ytnfmjbmcboiacaa
open Go Go.RowKit Go.Proofs

def mayW (N : Nat) (i : Int) (p : List UInt8) : Prop := 0 ≤ i ∧ i < (N : Int) ∧ p.length ≤ 32
instance (N : Nat) (i : Int) (p : List UInt8) : Decidable (mayW N i p) := by unfold mayW; infer_instance
/-- What a write answers, and leaves. -/
def wrCode (N : Nat) (i : Int) (p : List UInt8) : Int := if mayW N i p then 0 else 1
def wrTs (N : Nat) (i : Int) (p : List UInt8) (ts : List Wt) : List Wt := if mayW N i p then ts ++ [⟨i.toNat, p⟩] else ts
theorem wrTs_len (N : Nat) (i : Int) (p : List UInt8) (ts : List Wt) : (wrTs N i p ts).length ≤ ts.length + 1 := by unfold wrTs; split <;> simp
/-- What a read answers. -/
def rdOut (N : Nat) (i : Int) (s : List UInt8) (ts : List Wt) : List UInt8 × Int := if 0 ≤ i ∧ i < (N : Int) then (now i.toNat (blk s i.toNat) ts, 0) else ([], 1)

theorem DvPost.same_ {w : World} {F : Nat → Prop} {d n : Nat} {s : List UInt8} {ts : List Wt} (h : Dv w F d n s ts) : DvPost w w F d n s ts := ⟨F, h, Chg.refl _ _, New.refl _ _ _⟩
theorem RvPost.same_ {w : World} {F : Nat → Prop} {d n : Nat} {s : List UInt8} {ts : List Wt} (h : Rv w F d n s ts) : RvPost w w F d n s ts := ⟨F, h, Chg.refl _ _, New.refl _ _ _⟩
theorem dwrite_w (d N : Nat) (i : Int) (F G : Nat → Prop) (s p : List UInt8) (ts : List Wt) (v : Value) (w : World) (h : Dv w F d N s ts) (hb : Bs w G v p) (hm : ts.length ≤ 1000000) (c : Int) (hc : Hid (wrCode N i p = c)) (ts' : List Wt) (ht : Hid (wrTs N i p ts = ts')) :
    Calls Try.prog 12 #[.pointer (some ⟨d, 0, none⟩), .int .i64 i, v] w fun e w' => e = .returned (.int .i64 c) ∧ DvPost w w' F d N s ts' := by
  have hc := hc.out
  have ht := ht.out
  unfold wrCode at hc
  unfold wrTs at ht
  by_cases hw : mayW N i p
  · rw [if_pos hw] at hc ht
    subst hc; subst ht
    obtain ⟨h1, h2, h3⟩ := hw
    obtain ⟨k, rfl⟩ := Int.eq_ofNat_of_zero_le h1
    exact dwrite_ok d N k F G s p ts v w h (by omega) h3 hb hm
  · rw [if_neg hw] at hc ht
    subst hc; subst ht
    refine (dwrite_no d N i F G s p ts v w h hb ?_).mono fun e w' h' => ⟨h'.1, by rw [← h'.2]; exact DvPost.same_ h⟩
    unfold mayW at hw
    omega
theorem rput_w (d N : Nat) (i : Int) (F G : Nat → Prop) (s p : List UInt8) (ts : List Wt) (v : Value) (w : World) (h : Rv w F d N s ts) (hb : Bs w G v p) (hm : ts.length ≤ 1000000) (c : Int) (hc : Hid (wrCode N i p = c)) (ts' : List Wt) (ht : Hid (wrTs N i p ts = ts')) :
    Calls Try.prog 21 #[.pointer (some ⟨d, 0, none⟩), .int .i64 i, v] w fun e w' => e = .returned (.int .i64 c) ∧ RvPost w w' F d N s ts' := by
  have hc := hc.out
  have ht := ht.out
  unfold wrCode at hc
  unfold wrTs at ht
  by_cases hw : mayW N i p
  · rw [if_pos hw] at hc ht
    subst hc; subst ht
    obtain ⟨h1, h2, h3⟩ := hw
    obtain ⟨k, rfl⟩ := Int.eq_ofNat_of_zero_le h1
    exact rput_ok d N k F G s p ts v w h (by omega) h3 hb hm
  · rw [if_neg hw] at hc ht
    subst hc; subst ht
    refine (rput_no d N i F G s p ts v w h hb ?_).mono fun e w' h' => ⟨h'.1, by rw [← h'.2]; exact RvPost.same_ h⟩
    unfold mayW at hw
    omega
def ReadW (w : World) (R : List UInt8) (c : Int) (e : Ending) (w' : World) : Prop := ∃ A k, e = .returned (.tuple #[.slice A R.length k, .int .i64 c]) ∧ Bs w' (fun b => w.heap.size ≤ b) (.slice A R.length k) R ∧ Same w w'
theorem dread_w (d N : Nat) (i : Int) (F : Nat → Prop) (s : List UInt8) (ts : List Wt) (w : World) (h : Dv w F d N s ts) (R : List UInt8) (c : Int) (hq : Hid (rdOut N i s ts = (R, c))) :
    Calls Try.prog 14 #[.pointer (some ⟨d, 0, none⟩), .int .i64 i] w (ReadW w R c) := by
  have hq := hq.out
  unfold rdOut at hq
  by_cases hi : 0 ≤ i ∧ i < (N : Int)
  · rw [if_pos hi] at hq
    obtain ⟨k, rfl⟩ := Int.eq_ofNat_of_zero_le hi.1
    injection hq with h1 h2
    subst h2
    refine (dread_s d N k F s ts w h (by omega) R h1).mono ?_
    rintro e w' ⟨g, he, hG⟩
    refine ⟨some ⟨g, 0, none⟩, 32, ?_, ?_, hG.sm⟩
    · rw [hG.len]; exact he
    · rw [hG.len]; exact hG.bs
  · rw [if_neg hi] at hq
    injection hq with h1 h2
    subst h1; subst h2
    exact (dread_no d N i F s ts w h (by omega)).mono fun e w' h' => ⟨none, 0, h'.1, Bs.nil_ _ _, by rw [← h'.2]; exact Chg.refl _ _⟩
theorem rread_w (d N : Nat) (i : Int) (F : Nat → Prop) (s : List UInt8) (ts : List Wt) (w : World) (h : Rv w F d N s ts) (hf : Fine N s ts) (R : List UInt8) (c : Int) (hq : Hid (rdOut N i s ts = (R, c))) :
    Calls Try.prog 19 #[.pointer (some ⟨d, 0, none⟩), .int .i64 i] w (ReadW w R c) := by
  have hq := hq.out
  unfold rdOut at hq
  by_cases hi : 0 ≤ i ∧ i < (N : Int)
  · rw [if_pos hi] at hq
    obtain ⟨k, rfl⟩ := Int.eq_ofNat_of_zero_le hi.1
    injection hq with h1 h2
    subst h2
    have hk : k < N := by omega
    have hl : R.length = 32 := by rw [← h1]; exact now_len ts _ (blk_len hf.1 hk) (fun t ht => (hf.2 t ht).2)
    refine (rread_s d N k F s ts w h hk R (Lib.hid (by rw [blk_allB hk ts s hf]; exact h1))).mono ?_
    rintro e w' ⟨A, c, he, hb, hs⟩
    refine ⟨A, c, ?_, ?_, hs⟩
    · rw [hl]; exact he
    · rw [hl]; exact hb
  · rw [if_neg hi] at hq
    injection hq with h1 h2
    subst h1; subst h2
    exact (rread_no d N i F s ts w h (by omega)).mono fun e w' h' => ⟨none, 0, h'.1, Bs.nil_ _ _, by rw [← h'.2]; exact Chg.refl _ _⟩

theorem tmod_bd (a b : Int) (hb : 0 < b) : -b < a.tmod b ∧ a.tmod b < b := ⟨Int.lt_tmod_of_pos a hb, Int.tmod_lt_of_pos a hb⟩
/-- Where the loop of the acts stands: both devices hold the same. -/
def PlayAt (w0 wr : World) (d m N j : Nat) : Prop := ∃ F G s ts, Two w0 wr F G d m N s ts s ts ∧ ts.length ≤ j
theorem PlayAt.same {w0 w1 w2 : World} {d m N j : Nat} (h : PlayAt w0 w1 d m N j) (hs : Same w1 w2) : PlayAt w0 w2 d m N j := by
  obtain ⟨F, G, s, ts, hT, hl⟩ := h
  exact ⟨F, G, s, ts, hT.keep hs, hl⟩

/-- Where the last loop stands: all bytes lie in a slice of their own. -/
def PlayL (w0 wr : World) (F G : Nat → Prop) (d m N : Nat) (s : List UInt8) (ts : List Wt) (A : Option Addr) (L : List UInt8) (c B : Nat) : Prop := Two w0 wr F G d m N s ts s ts ∧ Bs wr (fun b => B ≤ b) (.slice A L.length c) L
theorem Bs.mid' {w : World} {F : Nat → Prop} {g o c k : Nat} {l : List UInt8} {n : Nat} (h : Bs w F (.slice (some ⟨g, o, none⟩) n c) l) (hk : 32 * k + 32 ≤ l.length) : Bs w F (.slice (some ⟨g, o + 32 * k, none⟩) 32 (c - 32 * k)) (blk l k) := by
  obtain ⟨A, c', hv, h1, h2, h3⟩ := h
  injection hv with e1 e2 e3
  subst e1; subst e3
  obtain ⟨b, o', hA, hF, hx⟩ := h3 (by omega)
  injection hA with hA
  injection hA with e4 e5
  subst e4; subst e5
  have hl : (blk l k).length = 32 := by unfold blk; rw [List.length_take, List.length_drop]; omega
  refine ⟨_, c - 32 * k, by rw [hl], by omega, by omega, fun _ => ⟨g, o + 32 * k, rfl, hF, fun i x hi => ?_⟩⟩
  rw [blk_get] at hi
  split at hi
  · have := hx (32 * k + i) x hi
    rwa [← Nat.add_assoc] at this
  · cases hi
theorem five_cells {w : World} {b : Nat} {v0 v1 v2 v3 v4 : Value} {t : TypeId} (h : w.heap[b]? = some (.cells #[v0, v1, v2, v3, v4] t (0, 0))) : w.cell? ⟨b, 0, none⟩ = some v0 ∧ w.cell? ⟨b, 1, none⟩ = some v1 ∧ w.cell? ⟨b, 2, none⟩ = some v2 ∧ w.cell? ⟨b, 3, none⟩ = some v3 ∧ w.cell? ⟨b, 4, none⟩ = some v4 := by
  simp [World.cell?, h]

set_option maxHeartbeats 25600000 in
set_option maxRecDepth 100000 in
theorem blockPlays_walk (n : Int) (v : Value) (l : List ActD) (w : World) (_hn0 : -9223372036854775808 ≤ n) (_hn1 : n ≤ 9223372036854775807) (hv : Acts w (fun k => k < w.heap.size) v l) :
    Calls Try.prog 8 #[.int .i64 n, v] w fun e w' => e = .returned (.bool true) ∧ Same w w' := by
  obtain ⟨A, cap, hv', hlc, hcm, -, -⟩ := id hv
  subst hv'
  by_cases hsm : smallA l = true
  · have HSM := Lib.hid hsm
    have hl60 : l.length ≤ 60 := by unfold smallA at hsm; simp at hsm; exact hsm.2
    have hl60' : (l.length : Int) ≤ 60 := by omega
    obtain ⟨r, hr⟩ : ∃ r : Int, n.tmod 6 = r := ⟨_, rfl⟩
    have hr0 : -6 < r ∧ r < 6 := by subst hr; exact tmod_bd n 6 (by omega)
    obtain ⟨N, hN⟩ : ∃ N : Nat, (min (max r 0) 4096).toNat = N := ⟨_, rfl⟩
    have hN5 : N ≤ 5 := by omega
    have hN5' : (N : Int) ≤ 5 := by omega
    obtain ⟨s0, HS0⟩ : ∃ s0 : List UInt8, Hid (List.replicate (32 * N) 0 = s0) := ⟨_, Lib.hid rfl⟩
    have HN := Lib.hid hN
    clear hsm hN
    go_enter Try.func8, Try.ntmps8
    go_wp2_with fail
    refine (kept_any _).mono ?_
    rintro _ w0 ⟨rfl, hs0⟩
    have hv0 := hv.same hs0
    go_wp2_with fail
    refine (small_is _ l _ _ hv0 true HSM).mono ?_
    rintro _ _ ⟨rfl, rfl⟩
    go_wp2_with fail
    refine (dnew_any r (by omega) (by omega) w0).mono ?_
    rintro _ w1 ⟨d, F, rfl, hd, hs1, ho⟩
    go_wp2_with fail
    refine (rnew_any r (by omega) (by omega) w1).mono ?_
    rintro _ w2 ⟨m, G, rfl, hd2, hs2, ho2⟩
    have hT0 : PlayAt w0 w2 d m N 0 := ⟨F, G, s0, [], Two.start hd hs1 ho hd2 hs2 ho2 HN.out HS0, Nat.le_refl _⟩
    clear hd hs1 ho hd2 hs2 ho2 hr
    go_wp2_with fail
    go_loopw [8] (fun i wr => ∃ j : Nat, i = .int .i64 j ∧ j ≤ l.length ∧ PlayAt w0 wr d m N j) (fun i _ => l.length - (intOf i).toNat)
    case atStart => exact ⟨0, rfl, Nat.zero_le _, hT0⟩
    case round =>
      obtain ⟨j, rfl, hj, F1, G1, s, ts, hT, htl⟩ := hrel
      clear hT0
      by_cases hlt : j < l.length
      · obtain ⟨bb, oo, x, hA, -, hx, hok, hat⟩ := (hv0.same hT.same).at_ hlt
        subst hA
        obtain ⟨vp, vl, c0, c1, c2, c3, c4, hbp, hbl⟩ := hat
        obtain ⟨Ap, cp, hvp, -, -, -⟩ := id hbp
        subst hvp
        obtain ⟨Al, cl, hvl, -, -, -⟩ := id hbl
        subst hvl
        obtain ⟨k0, k1, k2, k3, k4, k5⟩ := hok
        have hjl : (j : Int) < (l.length : Int) := by omega
        obtain ⟨at_, HAT⟩ : ∃ a : Int, Hid ((if 20 ≤ x.what then x.i.tmod 6 else x.i) = a) := ⟨_, Lib.hid rfl⟩
        have hat0 : -9223372036854775808 ≤ at_ ∧ at_ ≤ 9223372036854775807 := by
          have := HAT.out
          have h6 := tmod_bd x.i 6 (by omega)
          split at this <;> omega
        obtain ⟨hat1, hat2⟩ := hat0
        have hT1 := hT.keep (Chg.alloc_ (fun _ => False) wr (.cells #[.int .u8 x.what, .int .i64 x.i, .slice Ap x.p.length cp, .slice Al x.lost.length cl, .int .i64 x.torn] 47))
        have hM := heap_alloc_new wr (.cells #[.int .u8 x.what, .int .i64 x.i, .slice Ap x.p.length cp, .slice Al x.lost.length cl, .int .i64 x.torn] 47)
        have hbp1 := hbp.alloc (.cells #[.int .u8 x.what, .int .i64 x.i, .slice Ap x.p.length cp, .slice Al x.lost.length cl, .int .i64 x.torn] 47)
        have hbl1 := hbl.keep (Chg.alloc_ (fun _ => False) wr (.cells #[.int .u8 x.what, .int .i64 x.i, .slice Ap x.p.length cp, .slice Al x.lost.length cl, .int .i64 x.torn] 47)) (fun _ _ h => h)
        have hF1 : ∀ g, F1 g → g < wr.heap.size := hT.a.lt
        have hG1 : ∀ g, G1 g → g < wr.heap.size := hT.b.lt
        have HM := Lib.hid hM
        have hwz := hT.same.size
        clear hM hT hbp hbl
        go_upto_region 9 with fail
        generalize wr.alloc (.cells #[.int .u8 x.what, .int .i64 x.i, .slice Ap x.p.length cp, .slice Al x.lost.length cl, .int .i64 x.torn] 47) = W1 at *
        generalize wr.heap.size = M at *
        obtain ⟨m0, m1, m2, m3, m4⟩ := five_cells HM.out
        clear c0 c1 c2 c3 c4
        go_upto_if 48 with (fail)
        go_cut [10] (fun v wc => v = .int .i64 at_ ∧ wc = W1)
        case first =>
          by_cases h20 : 20 ≤ x.what
          · have HQ : Hid (x.i.tmod 6 = at_) := Lib.hid (by have := HAT.out; rwa [if_pos h20] at this)
            go_wp2_with fail
            go_meet
            case rel => exact ⟨by rw [HQ.out], rfl⟩
          · have HQ : Hid (x.i = at_) := Lib.hid (by have := HAT.out; rwa [if_neg h20] at this)
            have h20' : x.what < 20 := by omega
            go_wp2_with fail
            go_meet
            case rel => exact ⟨by rw [HQ.out], rfl⟩
        case rest =>
          obtain ⟨rfl, rfl⟩ := hcut
          obtain ⟨z, hz⟩ : ∃ z : Nat, x.what.tmod 8 = (z : Int) := ⟨(x.what % 8).toNat, by rw [Int.tmod_eq_emod_of_nonneg k0]; omega⟩
          have hz8 : z < 8 := by rw [Int.tmod_eq_emod_of_nonneg k0] at hz; omega
          have HTL := Lib.hid htl
          go_upto_block 2 with fail
          go_cut [11] (fun v wc => v = .bool true ∧ PlayAt w0 wc d m N (j + 1))
          case first =>
            have hnF : ¬ F1 M := fun h => by have := hF1 M h; omega
            have hnG : ¬ G1 M := fun h => by have := hG1 M h; omega
            have hww := hs0.size
            obtain ⟨zb, HZB⟩ : ∃ b : Bool, Hid (decide (z ≤ 4) = b) := ⟨_, Lib.hid rfl⟩
            go_upto_if 67 with (fail)
            go_cut [67] (fun v wx => v = .bool zb ∧ wx = wc)
            case first =>
              rcases (show z = 0 ∨ z = 1 ∨ z = 2 ∨ z = 3 ∨ z = 4 ∨ z = 5 ∨ z = 6 ∨ z = 7 by omega) with rfl | rfl | rfl | rfl | rfl | rfl | rfl | rfl
              all_goals
                go_wp2_with fail
                go_meet
                case rel => exact ⟨by rw [← HZB.out]; rfl, rfl⟩
            case rest =>
            obtain ⟨rfl, rfl⟩ := hcut
            cases zb
            case true =>
              obtain ⟨cd, HCD⟩ : ∃ c, Hid (wrCode N at_ x.p = c) := ⟨_, Lib.hid rfl⟩
              obtain ⟨ts2, HTS⟩ : ∃ t, Hid (wrTs N at_ x.p ts = t) := ⟨_, Lib.hid rfl⟩
              have HL2 : Hid (ts2.length ≤ j + 1) := Lib.hid (by rw [← HTS.out]; have := wrTs_len N at_ x.p ts; omega)
              have hT2 := hT1.keep ((Chg.refl (fun _ => False) _).drew)
              have hbp2 := hbp1.drew
              have htl2 : ts.length ≤ 1000000 := by omega
              have hcd : (cd == cd) = true := by simp
              clear hT1 hbp1
              go_wp2_with fail
              go_region_held3 (fun w' => w'.cell? ⟨M, 2, none⟩ = some (.slice Ap x.p.length cp)) (go_keep) (first | (go_at_call 12; ((with_reducible refine (dwrite_w d N at_ F1 _ s x.p ts _ _ hT2.a hbp2 htl2 cd HCD ts2 HTS).mono ?_); rintro _ w5 ⟨rfl, hP⟩; obtain ⟨F2, hT3⟩ := hT2.dstep hP; have hbp3 := hbp2.keep hP.choose_spec.2.1 (fun k hk hF => by have := hT2.aold k hF; omega); have q2 := hP.choose_spec.2.1.cell' m2 hnF)) | (go_at_call 21; ((with_reducible refine (rput_w m N at_ G1 _ s x.p ts _ _ hT3.b hbp3 htl2 cd HCD ts2 HTS).mono ?_); rintro _ w6 ⟨rfl, hP2⟩; obtain ⟨G2, hT4⟩ := hT3.rstep hP2; have q2' := hP2.choose_spec.2.1.cell' q2 hnG)))
              all_goals
                clear hP hP2
                go_wp2_with fail
                go_meet
                case rel => exact ⟨rfl, F2, G2, s, ts2, hT4, HL2.out⟩
            case false =>
              have hz4 : ¬ z ≤ 4 := by simpa using HZB.out
              by_cases hz5 : z = 5
              · subst hz5
                obtain ⟨S1, HS1⟩ : ∃ S, Hid (synced s ts = S) := ⟨_, Lib.hid rfl⟩
                have HS2 : Hid (allB s ts = S1) := Lib.hid (by rw [← HS1.out]; exact (crash_whole ts 0 s hT1.a.fine).symm)
                clear hz4 hz8
                go_wp2_with fail
                refine (dsync_ok d N F1 s ts _ hT1.a).mono ?_
                rintro _ w5 ⟨rfl, hP⟩
                rw [HS1.out] at hP
                obtain ⟨F2, hT3⟩ := hT1.dstep hP
                clear hP hT1
                go_wp2_with fail
                refine (rsync_any m N G1 s ts _ hT3.b).mono ?_
                rintro _ w6 ⟨rfl, hP⟩
                rw [HS2.out] at hP
                obtain ⟨G2, hT4⟩ := hT3.rstep hP
                clear hP hT3
                go_wp2_with fail
                go_meet
                case rel => exact ⟨rfl, F2, G2, S1, [], hT4, Nat.zero_le _⟩
              · obtain ⟨S1, HS1⟩ : ∃ S, Hid (crash x.lost x.torn ts.length 0 s ts = S) := ⟨_, Lib.hid rfl⟩
                have htl2 : ts.length ≤ 1000000 := by omega
                have hz6 : ((z : Int) == 5) = false := by rw [beq_eq_false_iff_ne]; omega
                clear hz4 hz8 hz5
                go_wp2_with fail
                refine (dcrash_ok d N x.torn k4 k5 F1 _ s ts x.lost _ _ hT1.a hbl1 (fun k hk hF => by have := hT1.aold k hF; omega)).mono ?_
                rintro _ w5 ⟨rfl, hP⟩
                rw [HS1.out] at hP
                obtain ⟨F2, hT3⟩ := hT1.dstep hP
                have hbl2 := hbl1.keep hP.choose_spec.2.1 (fun k hk hF => by have := hT1.aold k hF; omega)
                have q3 := hP.choose_spec.2.1.cell' m3 hnF
                have q4 := hP.choose_spec.2.1.cell' m4 hnF
                clear hP hT1 hbl1
                go_wp2_with fail
                refine (rcrash_ok m N x.torn k4 k5 G1 _ s ts x.lost _ _ hT3.b hbl2 htl2).mono ?_
                rintro _ w6 ⟨rfl, hP⟩
                rw [HS1.out] at hP
                obtain ⟨G2, hT4⟩ := hT3.rstep hP
                clear hP hT3 hbl2
                go_wp2_with fail
                go_meet
                case rel => exact ⟨rfl, F2, G2, S1, [], hT4, Nat.zero_le _⟩
          case rest =>
            obtain ⟨rfl, F3, G3, s3, ts3, hT3, hl3⟩ := hcut
            clear hT1 hbp1 hbl1 m0 m1 m2 m3 m4 hF1 hG1 htl
            obtain ⟨R, cr, HQ⟩ : ∃ R c, Hid (rdOut N at_ s3 ts3 = (R, c)) := ⟨_, _, Lib.hid rfl⟩
            have HL3 := Lib.hid hl3
            clear hl3
            go_wp2_with fail
            refine (dread_w d N at_ F3 s3 ts3 _ hT3.a R cr HQ).mono ?_
            rintro _ w7 ⟨A7, c7, rfl, hb7, hs7⟩
            have hT4 := hT3.keep hs7
            clear hT3 hs7
            go_wp2_with fail
            refine (rread_w m N at_ G3 s3 ts3 _ hT4.b hT4.a.fine R cr HQ).mono ?_
            rintro _ w8 ⟨A8, c8, rfl, hb8, hs8⟩
            have hT5 := hT4.keep hs8
            have hb78 := hb7.same hs8
            clear hT4 hs8 hb7
            go_wp2_with fail
            obtain ⟨vf, vw, vs, hD⟩ := id hT5.b
            obtain ⟨d0, d1, -, -⟩ := two_cells hD.blk
            obtain ⟨AW, cW, hvw, -, -⟩ := hD.lens
            subst hvw
            obtain ⟨AF, cF, hvf, -, -, -⟩ := id hD.safe
            subst hvf
            obtain ⟨hq, -, -⟩ := hD.quo
            have hqw : IntKind.i64.wrap (N : Int) = (N : Int) := by rw [IntKind.wrap_i64]; omega
            clear hD
            have hT6 := hT5.keep ((Chg.refl (fun _ => False) w8).drew)
            have hb79 := hb78.drew
            have hb89 := hb8.drew
            clear hT5 hb78 hb8
            go_region_held3 (fun w' => w'.cell? ⟨m, 0, none⟩ = some (.slice AF s3.length cF) ∧ w'.cell? ⟨m, 1, none⟩ = some (.slice AW ts3.length cW)) (go_keep) (first | (go_at_call 17; ((with_reducible refine (alike_same _ _ R _ _ _ hb79 hb89).mono ?_); rintro _ w9 ⟨rfl, hs9⟩; have hT7 := hT6.keep hs9; have q0 := hs9.cell' d0 (fun h => h); have q1 := hs9.cell' d1 (fun h => h))) | (go_at_call 23; ((with_reducible refine (dwaiting_any d N F3 s3 ts3 _ hT7.a).mono ?_); rintro _ _ ⟨rfl, rfl⟩)) | (go_at_call 20; ((with_reducible refine (dsize_any d N F3 s3 ts3 _ hT7.a).mono ?_); rintro _ _ ⟨rfl, rfl⟩)))
            all_goals
              go_wp2_with fail
              go_roundw
              case rel => exact ⟨j + 1, by go_num, by omega, F3, G3, s3, ts3, hT7, HL3.out⟩
              case measure => simp [intOf]; omega
      · have hjl : (l.length : Int) ≤ (j : Int) := by omega
        obtain ⟨L, HL⟩ : ∃ L, Hid (allB s ts = L) := ⟨_, Lib.hid rfl⟩
        have hfine := hT.a.fine
        have hLl : L.length = 32 * N := by rw [← HL.out]; exact allB_len ts s hfine
        have HLL := Lib.hid hLl
        have HF := Lib.hid hfine
        clear hLl hfine
        go_wp2_with fail
        refine (rall_any m N G1 s ts _ hT.b).mono ?_
        rintro _ w5 ⟨v5, rfl, R5⟩
        rw [HL.out] at R5
        obtain ⟨A5, c5, hv5⟩ := R5.form
        subst hv5
        have hT5 : PlayL w0 w5 F1 G1 d m N s ts A5 L c5 wr.heap.size := ⟨hT.keep R5.2, R5.bs⟩
        clear R5 hT
        go_wp2_with fail
        go_loopw [17] (fun i wq => ∃ k : Nat, i = .int .i64 k ∧ k ≤ N ∧ PlayL w0 wq F1 G1 d m N s ts A5 L c5 wr.heap.size) (fun i _ => N - (intOf i).toNat)
        case atStart => exact ⟨0, rfl, Nat.zero_le _, hT5⟩
        case round =>
          obtain ⟨k, rfl, hk, hT6, hb6⟩ := hrel
          clear hT5
          by_cases hkl : k < N
          · have hkl' : (k : Int) < (N : Int) := by omega
            obtain ⟨R, HR⟩ : ∃ R, Hid (now k (blk s k) ts = R) := ⟨_, Lib.hid rfl⟩
            have HR2 : Hid (blk L k = R) := Lib.hid (by rw [← HR.out, ← HL.out]; exact blk_allB hkl ts s HF.out)
            obtain ⟨b5, o5, hA5, hF5, hx5⟩ : ∃ b o, A5 = some ⟨b, o, none⟩ ∧ True ∧ True := by
              obtain ⟨A', c', hv', h1, h2, h3⟩ := id hb6
              injection hv' with e1 e2 e3
              obtain ⟨b, o, hA, -, -⟩ := h3 (by have := HLL.out; omega)
              exact ⟨b, o, by rw [e1, hA], trivial, trivial⟩
            subst hA5
            have hL1 : 32 * k + 32 ≤ L.length := by have := HLL.out; omega
            have hL2 : L.length ≤ 160 := by have := HLL.out; omega
            have hL3 : L.length ≤ c5 := hb6.bounds.2.1
            clear hF5 hx5
            go_wp2_with fail
            refine (dsize_any d N F1 s ts _ hT6.a).mono ?_
            rintro _ _ ⟨rfl, rfl⟩
            go_wp2_with fail
            refine (dread_s d N k F1 s ts _ hT6.a hkl R HR).mono ?_
            rintro _ w7 ⟨g7, rfl, hG⟩
            have hT7 := hT6.keep hG.sm
            have hb7 := hG.bs
            have hb67 := hb6.same hG.sm
            have hbm := hb67.mid' (k := k) hL1
            rw [HR2.out] at hbm
            clear hT6 hG hb6
            go_wp2_with fail
            refine (alike_same _ _ R _ _ _ hb7 hbm).mono ?_
            rintro _ w8 ⟨rfl, hs8⟩
            have hT8 := hT7.keep hs8
            have hb68 := hb67.same hs8
            clear hT7 hs8 hb67 hb7 hbm
            go_wp2_with fail
            go_roundw
            case rel => exact ⟨k + 1, by go_num, by omega, hT8, hb68⟩
            case measure => simp [intOf]; omega
          · have hkl' : (N : Int) ≤ (k : Int) := by omega
            go_wp2_with fail
            refine (dsize_any d N F1 s ts _ hT6.a).mono ?_
            rintro _ _ ⟨rfl, rfl⟩
            go_wp2_with fail
            go_ret
            exact ⟨rfl, hs0.trans hT6.same⟩
  · have HSM : Hid (smallA l = false) := Lib.hid (by simpa using hsm)
    clear hsm
    go_enter Try.func8, Try.ntmps8
    go_wp2_with fail
    refine (kept_any _).mono ?_
    rintro _ w0 ⟨rfl, hs0⟩
    have hv0 := hv.same hs0
    go_wp2_with fail
    refine (small_is _ l _ _ hv0 false HSM).mono ?_
    rintro _ _ ⟨rfl, rfl⟩
    go_wp2_with fail
    refine (kept_any _).mono ?_
    rintro _ w1 ⟨rfl, hs1⟩
    go_wp2_with fail
    go_ret
    exact ⟨rfl, hs0.trans hs1⟩
end Go.Proofs.Ytnfmjbmcboiacaa
