/- The walk of carrierlaw03.BlockOwn: what was handed in, and answered, may be written over. -/
import Derived.Test.YtnfmjbmcboiacaaTwo
namespace Go.Proofs.Ytnfmjbmcboiacaa
open Go Go.RowKit Go.Proofs

/-- A loop that writes over an own slice, whose block lies between B and C: where it stands; ws: the world ahead of the loop. -/
def Over (ws wr : World) (B C : Nat) (v : Value) (n : Nat) : Prop := ∃ l : List UInt8, l.length = n ∧ Own wr B v l ∧ (∀ g, v.ownBlock = some g → g < C) ∧ Chg (fun k => B ≤ k ∧ k < C) ws wr
theorem Over.start {ws : World} {B C : Nat} {v : Value} {l : List UInt8} {n : Nat} (h : Own ws B v l) (hn : l.length = n) (hC : ∀ g, v.ownBlock = some g → g < C) : Over ws ws B C v n := ⟨l, hn, h, hC, Chg.refl _ _⟩
/-- The cell of the k-th byte, and what a store into it leaves. -/
theorem Over.step {ws wr : World} {B C n k : Nat} {v : Value} (h : Over ws wr B C v n) (hk : k < n) :
    ∃ g c x, v = .slice (some ⟨g, 0, none⟩) n c ∧ n ≤ c ∧ c ≤ 9223372036854775807 ∧ wr.cell? ⟨g, k, none⟩ = some (.int .u8 x) ∧ wr.frozen? ⟨g, k, none⟩ = false ∧ ∀ b : UInt8, Over ws (wr.setCell ⟨g, k, none⟩ (.int .u8 (b.toNat : Int))) B C v n := by
  obtain ⟨l, rfl, ho, hC, hc⟩ := h
  obtain ⟨g, c, rfl, hg1, hg2, hlc, hcm, hcell, hfz⟩ := Own.cell_at ho (by omega)
  refine ⟨g, c, _, rfl, hlc, hcm, hcell k l[k] (List.getElem?_eq_getElem hk), hfz k, fun b => ⟨l.set k b, by simp, Own.stored ho k b, hC, hc.setCell (p := ⟨g, k, none⟩) (fun _ => ⟨hg1, hC g rfl⟩) _⟩⟩
/-- A loop that writes over a row of bytes in block g. -/
def OverG (ws wr : World) (g n : Nat) : Prop := ∃ (l : List UInt8) (t : TypeId), l.length = n ∧ wr.heap[g]? = some (.cells (bvs l).toArray t (0, 0)) ∧ Chg (fun k => k = g) ws wr
theorem row_set {w : World} {g : Nat} {l : List UInt8} {t : TypeId} (h : w.heap[g]? = some (.cells (bvs l).toArray t (0, 0))) (k : Nat) (b : UInt8) : (w.setCell ⟨g, k, none⟩ (.int .u8 (b.toNat : Int))).heap[g]? = some (.cells (bvs (l.set k b)).toArray t (0, 0)) := by
  simp [World.setCell, Array.getElem?_modify, h, bvs]
theorem OverG.step {ws wr : World} {g n k : Nat} (h : OverG ws wr g n) (hk : k < n) : ∃ x, wr.cell? ⟨g, k, none⟩ = some (.int .u8 x) ∧ wr.frozen? ⟨g, k, none⟩ = false ∧ ∀ b : UInt8, OverG ws (wr.setCell ⟨g, k, none⟩ (.int .u8 (b.toNat : Int))) g n := by
  obtain ⟨l, t, rfl, hg, hc⟩ := h
  refine ⟨(l[k].toNat : Int), ?_, ?_, fun b => ⟨l.set k b, t, by simp, row_set hg k b, hc.setCell (p := ⟨g, k, none⟩) (fun _ => rfl) _⟩⟩
  · rw [cell_of_row wr g k _ _ _ hg, List.getElem?_toArray, bvs_get, List.getElem?_eq_getElem hk]; rfl
  · simp [World.frozen?, hg]

theorem own_now (p : List UInt8) (hp : p.length ≤ 32) : (now 0 (blk (synced (List.replicate (32 * 1) 0) [⟨0, p⟩]) 0) []).take p.length = p := by
  have hF : Fine 1 (List.replicate (32 * 1) 0) [⟨0, p⟩] := ⟨by simp, by simp; exact hp⟩
  unfold synced
  rw [crash_whole _ _ _ hF]
  show (blk (allB _ _) 0).take p.length = p
  rw [blk_allB (by omega) _ _ hF]
  show (lay (blk _ 0) 0 p).take p.length = p
  unfold lay
  simp

set_option maxHeartbeats 3200000 in
set_option maxRecDepth 100000 in
theorem blockOwn_walk (v : Value) (p : List UInt8) (F0 : Nat → Prop) (b : UInt8) (w : World) (hp : Bs w F0 v p) :
    Calls Try.prog 4 #[v, .int .u8 (b.toNat : Int)] w fun e w' => e = .returned (.bool true) ∧ Same w w' := by
  obtain ⟨A, cap, hv, -, -, -⟩ := id hp
  subst hv
  by_cases hs : p.length ≤ 32
  · have hs' : (p.length : Int) ≤ 32 := by omega
    obtain ⟨s0, HS0⟩ : ∃ s0 : List UInt8, Hid (List.replicate (32 * 1) 0 = s0) := ⟨_, Lib.hid rfl⟩
    obtain ⟨R, HR⟩ : ∃ R, Hid (now 0 (blk (synced s0 [⟨0, p⟩]) 0) [] = R) := ⟨_, Lib.hid rfl⟩
    have HT : Hid (R.take p.length = p) := Lib.hid (by rw [← HR.out, ← HS0.out]; exact own_now p hs)
    go_enter Try.func4, Try.ntmps4
    go_wp2_with fail
    refine (kept_any _).mono ?_
    rintro _ w0 ⟨rfl, hs0⟩
    have hp0 := (hp.same hs0).old
    go_wp2_with fail
    refine (dnew_any 1 (by omega) (by omega) w0).mono ?_
    rintro _ w1 ⟨d, F, rfl, hv, hs1, ho⟩
    have hM := Made.of_new (m := 1) hv hs1 ho (by omega)
    rw [HS0.out] at hM
    have hp1 := hp0.same hs1
    have hs1sz := hs1.size
    clear hv hs1 ho
    go_wp2_with fail
    refine (join_nil _ p _ w1 hp1 (by omega)).mono ?_
    rintro _ w2 ⟨v2, rfl, R2⟩
    obtain ⟨A2, c2, hv2⟩ := R2.form
    have hb2 := R2.bs
    have ho2 := R2.1
    subst hv2
    have hM2 := hM.keep R2.2
    have hlt1 : Lt F w1 := hM.dv.lt
    have hp2 := hp1.same R2.2
    have hsz12 := R2.2.size
    clear R2 hM
    go_wp2_with fail
    refine (dwrite_ok d 1 0 F _ _ p [] _ _ hM2.dv (by omega) hs hb2 (by simp)).mono ?_
    rintro _ w3 ⟨rfl, hP⟩
    obtain ⟨F3, hD3, hc3, hn3⟩ := hP
    have hF3 : ∀ k, F3 k → ¬ (w1.heap.size ≤ k ∧ k < w2.heap.size) := fun k hk h => by
      rcases hn3 k hk with h1 | h1
      · have := hlt1 k h1; omega
      · omega
    have hsz23 := hc3.size
    have hM3 : Made w0 w3 F3 d 1 s0 [⟨0, p⟩] := ⟨hD3, hn3.since hM2.old hM2.same.size, hM2.same.since hc3 hM2.old⟩
    have hp3 := hp2.keep hc3 (fun k hk hF => by have := hM2.old k hF; have := hk.2; omega)
    have ho3 : Over w3 w3 w1.heap.size w2.heap.size (.slice A2 p.length c2) p.length := Over.start (ho2.keep hc3 (fun g hg hF => by have := hlt1 g hF; have := (ho2.lt hg).1; omega)) rfl (fun g hg => (ho2.lt hg).2)
    have hsz01 := hM2.same.size
    clear hD3 hc3 hn3 hM2 hb2 ho2 hp2 hp1
    go_wp2_with fail
    go_loopw [7] (fun i wr => ∃ k : Nat, i = .int .i64 k ∧ k ≤ p.length ∧ Over w3 wr w1.heap.size w2.heap.size (.slice A2 p.length c2) p.length) (fun i _ => p.length - (intOf i).toNat)
    case atStart => exact ⟨0, rfl, Nat.zero_le _, ho3⟩
    case round =>
      obtain ⟨k, rfl, hk, hO⟩ := hrel
      by_cases hkl : k < p.length
      · obtain ⟨g, c, x, hv, hnc, hcm, hcx, hfx, hst⟩ := hO.step hkl
        injection hv with e1 e2 e3
        subst e1; subst e3
        have HST := Lib.hid (hst b)
        clear hst e2
        go_wp2_with fail
        go_roundw
        case rel => exact ⟨k + 1, by go_num, by omega, HST.out⟩
        case measure => simp [intOf]; omega
      · obtain ⟨lx, -, -, -, hcx⟩ := hO
        have hD4 := hM3.dv.keep hcx (fun k hk h => hF3 k hk h)
        have hM4 : Made w0 wr F3 d 1 s0 [⟨0, p⟩] := ⟨hD4, hM3.old, Chg.since hM3.same hcx (fun k hk => by have := hM3.same.size; omega)⟩
        have hp4 := hp3.keep hcx (fun k hk h => by have := hk.2; omega)
        clear hD4 hcx ho3 hM3 hp3
        go_wp2_with fail
        refine (dread_s d 1 0 F3 _ _ _ hM4.dv (by omega) _ (Lib.hid rfl)).mono ?_
        rintro _ w5 ⟨g5, rfl, hG⟩
        have hM5 := hM4.keep hG.sm
        have hp5 := hp4.same hG.sm
        obtain ⟨g', hv', hg5, hb5, hl5, -⟩ := hG
        injection hv' with hv'
        injection hv' with hv'
        injection hv' with hv' _
        subst hv'
        have hlt4 := hM4.dv.lt
        have ho5 : OverG w5 w5 g5 32 := ⟨_, _, hl5, hb5, Chg.refl _ _⟩
        have hsz04 := hM4.same.size
        clear hb5 hl5 hM4 hp4
        go_wp2_with fail
        go_loopw [10] (fun i wq => ∃ k : Nat, i = .int .i64 k ∧ k ≤ 32 ∧ OverG w5 wq g5 32) (fun i _ => 32 - (intOf i).toNat)
        case atStart => exact ⟨0, rfl, Nat.zero_le _, ho5⟩
        case round =>
          obtain ⟨k, rfl, hk, hO⟩ := hrel
          by_cases hkl : k < 32
          · obtain ⟨x, hcx, hfx, hst⟩ := hO.step hkl
            have HST := Lib.hid (hst b)
            clear hst
            have hkl' : (k : Int) < 32 := by omega
            go_wp2_with fail
            go_roundw
            case rel => exact ⟨k + 1, by go_num, by omega, HST.out⟩
            case measure => simp [intOf]; omega
          · obtain ⟨lx, tx, -, -, hcx⟩ := hO
            have hkl' : (32 : Int) ≤ (k : Int) := by omega
            have hD6 := hM5.dv.keep hcx (fun k hk h => by have := hlt4 k hk; omega)
            have hM6 : Made w0 wr F3 d 1 s0 [⟨0, p⟩] := ⟨hD6, hM5.old, Chg.since hM5.same hcx (fun k hk => by omega)⟩
            have hp6 := hp5.keep hcx (fun k hk h => by have := hk.2; omega)
            clear hD6 hcx ho5 hM5 hp5
            go_wp2_with fail
            refine (dsync_ok d 1 F3 _ _ _ hM6.dv).mono ?_
            rintro _ w7 ⟨rfl, hP⟩
            obtain ⟨F7, hM7⟩ := hM6.step hP
            have hp7 := hp6.keep hP.choose_spec.2.1 (fun k hk hF => by have := hM6.old k hF; have := hk.2; omega)
            clear hP hM6 hp6
            go_wp2_with fail
            refine (dread_s d 1 0 F7 _ _ _ hM7.dv (by omega) R HR).mono ?_
            rintro _ w8 ⟨g8, rfl, hG⟩
            have hb8 := hG.bs.takeN (k := p.length) (by rw [hG.len]; exact hs)
            rw [HT.out] at hb8
            have hp8 := hp7.same hG.sm
            have hsame := hM7.same.trans hG.sm
            clear hG hM7 hp7
            go_wp2_with fail
            refine (alike_same _ _ p _ _ _ hb8 hp8).mono ?_
            rintro _ w9 ⟨rfl, hs9⟩
            go_wp2_with fail
            go_ret
            exact ⟨rfl, (hs0.trans hsame).trans hs9⟩
  · have hs' : (32 : Int) < (p.length : Int) := by omega
    go_enter Try.func4, Try.ntmps4
    go_wp2_with fail
    refine (kept_any _).mono ?_
    rintro _ w0 ⟨rfl, hs0⟩
    go_wp2_with fail
    refine (kept_any _).mono ?_
    rintro _ w1 ⟨rfl, hs1⟩
    go_wp2_with fail
    go_ret
    exact ⟨rfl, hs0.trans hs1⟩
end Go.Proofs.Ytnfmjbmcboiacaa
