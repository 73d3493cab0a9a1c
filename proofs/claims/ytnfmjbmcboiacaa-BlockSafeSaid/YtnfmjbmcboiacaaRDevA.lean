/- The walks of carrierref03.Device: Put where it may not be, All, Read, Sync. -/
import Derived.Test.YtnfmjbmcboiacaaRDev
import Derived.StillTailTactics
namespace Go.Proofs.Ytnfmjbmcboiacaa
open Go Go.RowKit Go.Proofs

/-- The row of the writes that wait: two cells a write. -/
theorem RvV.write_at {w : World} {F : Nat → Prop} {d n : Nat} {vf vw : Value} {s : List UInt8} {ts : List Wt} {vs : List Value} (h : RvV w F d vf vw n s ts vs) {k : Nat} {t : Wt} (hk : ts[k]? = some t) :
    ∃ g cap v, vw = .slice (some ⟨g, 0, none⟩) ts.length cap ∧ F g ∧ vs[k]? = some v ∧ w.cell? ⟨g, k * 2, none⟩ = some (.int .i64 (t.i : Int)) ∧ w.cell? ⟨g, k * 2 + 1, none⟩ = some v ∧ Bs w (fun b => F b ∧ b ≠ d ∧ b ≠ g) v t.p := by
  have hlt : k < ts.length := (List.getElem?_eq_some_iff.1 hk).1
  have hv : vs[k]? = some (vs[k]'(by rw [h.vlen]; exact hlt)) := List.getElem?_eq_getElem _
  obtain ⟨g1, g2⟩ := tcells_get ts vs k t _ hk hv
  rcases h.own.2 with ⟨h1, h2⟩ | ⟨g, cap, cur, h1, hb, hg, hnc, hc, hs, ht⟩
  · omega
  · have he : ∀ j x, (tcells ts vs)[j]? = some x → w.cell? ⟨g, j, none⟩ = some x := fun j x hj => by
      rw [cell_of_row w g j cur _ (0, 0) hg]
      rw [← ht, List.getElem?_take] at hj
      split at hj
      · simpa using hj
      · cases hj
    refine ⟨g, cap, _, h1, (h.row g (by rw [h1]; rfl)).1, hv, by rw [show k * 2 = 2 * k by omega]; exact he _ _ g1, by rw [show k * 2 = 2 * k by omega]; exact he _ _ g2, (h.each k t _ hk hv).mono (fun b _ hb => ⟨hb.1, hb.2.1, fun e => hb.2.2 (by rw [h1, e]; rfl)⟩)⟩


theorem RvV.quo {w : World} {F : Nat → Prop} {d n : Nat} {vf vw : Value} {s : List UInt8} {ts : List Wt} {vs : List Value} (h : RvV w F d vf vw n s ts vs) : ((s.length : Int)).tdiv 32 = (n : Int) ∧ (n : Int) ≤ 4096 ∧ s.length ≤ 140737488355328 := by
  have h1 := h.fine.1
  have h2 := h.few
  refine ⟨?_, by omega, by omega⟩
  rw [Int.tdiv_eq_ediv_of_nonneg (by omega)]; omega

/-- A write that may not be. -/
theorem rput_no (d n : Nat) (i : Int) (F G : Nat → Prop) (s p : List UInt8) (ts : List Wt) (v : Value) (w : World) (h : Rv w F d n s ts) (hb : Bs w G v p) (hbad : i < 0 ∨ (n : Int) ≤ i ∨ 32 < p.length) :
    Calls Try.prog 21 #[.pointer (some ⟨d, 0, none⟩), .int .i64 i, v] w fun e w' => e = .returned (.int .i64 1) ∧ w = w' := by
  obtain ⟨vf, vw, vs, hD⟩ := h
  obtain ⟨c0, c1, f0, f1⟩ := two_cells hD.blk
  obtain ⟨A2, cap2, hv2, -, -, -⟩ := id hb
  subst hv2
  obtain ⟨AF, capF, hvF, -, -, -⟩ := id hD.safe
  subst hvF
  obtain ⟨hq, hn5, -⟩ := hD.quo
  by_cases h0 : i < 0
  · clear hbad
    go_enter Try.func21, Try.ntmps21
    go_wp2_with fail
    go_ret
    exact ⟨rfl, rfl⟩
  · have h0' : 0 ≤ i := by omega
    by_cases h1 : (n : Int) ≤ i
    · clear hbad h0
      go_enter Try.func21, Try.ntmps21
      go_wp2_with fail
      go_ret
      exact ⟨rfl, rfl⟩
    · have h1' : i < (n : Int) := by omega
      have h2 : (32 : Int) < (p.length : Int) := by omega
      clear hbad h0 h1
      go_enter Try.func21, Try.ntmps21
      go_wp2_with fail
      go_ret
      exact ⟨rfl, rfl⟩

theorem wp_still_tail {P : Program} {id : Nat} {Q : Exit → Act → World → Prop} {a : Act} {w : World} {l : List Oper} (n : Nat) (hm : P.follows .mixedOrders = true) (hB : Region.lexTailB .any l.toArray n = true)
    (h : wpStill P l.toArray w.drew (fun a' => wpList P l.toArray Q (l.drop n) a' w.drew) (l.take n) a) : (Code.region id l.toArray true).wp P Q a w := wp_region_still_tail n hm hB h
/-- Where the loops of All stand. -/
structure AllAt (w wr : World) (v : Value) (N : Nat) (cur : List UInt8) : Prop where
  own : Own wr w.heap.size v cur
  len : cur.length = N
  same : Same w wr
theorem AllAt.store {w wr : World} {A : Option Addr} {c N : Nat} {cur : List UInt8} (h : AllAt w wr (.slice A N c) N cur) (hN : 0 < N) :
    ∃ g, A = some ⟨g, 0, none⟩ ∧ N ≤ c ∧ c ≤ 9223372036854775807 ∧ w.heap.size ≤ g ∧ g < wr.heap.size ∧ (∀ k x, cur[k]? = some x → wr.cell? ⟨g, k, none⟩ = some (.int .u8 (x.toNat : Int))) ∧ (∀ k, wr.frozen? ⟨g, k, none⟩ = false) ∧ ∀ k (b : UInt8), AllAt w (wr.setCell ⟨g, k, none⟩ (.int .u8 (b.toNat : Int))).drew (.slice A N c) N (cur.set k b) := by
  obtain ⟨ho, hl, hs⟩ := h
  obtain ⟨g, c', hv, h1, h2, h3, h4, h5, h6⟩ := Own.cell_at ho (by omega)
  injection hv with e1 e2 e3
  subst e1; subst e3
  refine ⟨g, rfl, by omega, h4, h1, h2, h5, h6, fun k b => ⟨?_, by simpa using hl, (hs.far (p := ⟨g, k, none⟩) h1 _).drew⟩⟩
  exact Own.stored (w := wr) ho k b

set_option maxHeartbeats 3200000 in
set_option maxRecDepth 100000 in
theorem rall_any (d n : Nat) (F : Nat → Prop) (s : List UInt8) (ts : List Wt) (w : World) (h : Rv w F d n s ts) :
    Calls Try.prog 26 #[.pointer (some ⟨d, 0, none⟩)] w fun e w' => ∃ v', e = .returned v' ∧ Fresh w w' v' (allB s ts) := by
  obtain ⟨vf, vw, vs, hD⟩ := h
  obtain ⟨c0, c1, f0, f1⟩ := two_cells hD.blk
  obtain ⟨A, cap, hv, hcap, hlen⟩ := hD.lens
  subst hv
  obtain ⟨-, hn5, hsl⟩ := hD.quo
  have hdl := lt_of_block hD.blk
  obtain ⟨res, hres⟩ : ∃ res, allB s ts = res := ⟨_, rfl⟩
  rw [hres]
  have HS := Lib.hid hres
  have HN := Lib.hid hD.fine.1
  clear hres
  go_enter Try.func26, Try.ntmps26
  go_wp2_with fail
  refine (join_nil _ s _ _ hD.safe hsl).mono ?_
  rintro _ w1 ⟨v1, rfl, R1⟩
  obtain ⟨A1, cp1, hv1⟩ := R1.form
  subst hv1
  have hA0 : AllAt w w1 (.slice A1 s.length cp1) s.length s := ⟨R1.1, rfl, R1.2⟩
  clear R1
  go_wp2_with fail
  go_loopw [4] (fun i wr => ∃ j : Nat, i = .int .i64 j ∧ j ≤ ts.length ∧ ∃ cur, AllAt w wr (.slice A1 s.length cp1) s.length cur ∧ allB cur (ts.drop j) = res) (fun i _ => ts.length - (intOf i).toNat)
  case atStart =>
    refine ⟨0, rfl, Nat.zero_le _, s, hA0, ?_⟩
    rw [List.drop_zero]; exact HS.out
  case round =>
    obtain ⟨j, rfl, hj, cur, hA, hres⟩ := hrel
    have HR := Lib.hid hres
    clear hres hA0
    have k1 := hA.same.cell' c1 (fun h => h)
    by_cases hlt : j < ts.length
    · obtain ⟨t, ht⟩ : ∃ t, ts[j]? = some t := ⟨_, List.getElem?_eq_getElem hlt⟩
      obtain ⟨g, cap', v, hv, hgF, hvs, hc2, hc3, hbs⟩ := hD.write_at ht
      injection hv with hv1 hv2 hv3
      subst hv1; subst hv3
      obtain ⟨A3, cap3, hv3, hpc, hpm, -⟩ := id hbs
      subst hv3
      obtain ⟨hti, hpl⟩ := hD.fine.2 t (List.mem_of_getElem? ht)
      have hpl' : (t.p.length : Int) ≤ 32 := by omega
      have hti' : (t.i : Int) < (n : Int) := by omega
      have hjl : (j : Int) < (ts.length : Int) := by omega
      have HT := Lib.hid ht
      have HV := Lib.hid hvs
      have hmx : maxLen = 9223372036854775807 := by decide +kernel
      have hcm3 : cap3 ≤ 9223372036854775807 := by omega
      have hN0 : 0 < s.length := by have := HN.out; omega
      have hfit : 32 * t.i + t.p.length ≤ cur.length := by have := HN.out; have := hA.len; omega
      clear ht hvs hv2 hpm hmx
      go_wp2_with fail
      go_loopw [5] (fun i wq => ∃ k : Nat, i = .int .i64 k ∧ k ≤ t.p.length ∧ AllAt w wq (.slice A1 s.length cp1) s.length (lay cur (32 * t.i) (t.p.take k))) (fun i _ => t.p.length - (intOf i).toNat)
      case atStart => exact ⟨0, rfl, Nat.zero_le _, by rw [lay_zero]; exact hA⟩
      case round =>
        obtain ⟨k, rfl, hk, hQ⟩ := hrel
        have k1 := hQ.same.cell' c1 (fun h => h)
        have k2 := hQ.same.cell' hc2 (fun h => h)
        have k3 := hQ.same.cell' hc3 (fun h => h)
        by_cases hkl : k < t.p.length
        · obtain ⟨-, bp, op, x, hA3, -, hx, hcx⟩ := (hbs.same hQ.same).at_ hkl
          subst hA3
          obtain ⟨g1, hA1, hNc, hcm, hg1, hg2, hcell, hfz, hst⟩ := hQ.store hN0
          subst hA1
          have hkl' : (k : Int) < (t.p.length : Int) := by omega
          have hz1 := hfz (32 * t.i + k)
          obtain ⟨y, hy⟩ : ∃ y, (lay cur (32 * t.i) (t.p.take k))[32 * t.i + k]? = some y := ⟨_, List.getElem?_eq_getElem (by have := hA.len; rw [hQ.len]; omega)⟩
          have hcy := hcell _ _ hy
          have HST := Lib.hid (hst (32 * t.i + k) x)
          have HX := Lib.hid hx
          have hfit' := Lib.hid hfit
          have e1 : IntKind.i64.wrap (32 * (t.i : Int)) = 32 * (t.i : Int) := by rw [IntKind.wrap_i64]; omega
          have e2 : IntKind.i64.wrap (32 * (t.i : Int) + (k : Int)) = 32 * (t.i : Int) + (k : Int) := by rw [IntKind.wrap_i64]; omega
          have e3 : (32 * (t.i : Int) + (k : Int)).toNat = 32 * t.i + k := by omega
          have e4 : 0 ≤ 32 * (t.i : Int) + (k : Int) := by omega
          have e5 : 32 * (t.i : Int) + (k : Int) < (s.length : Int) := by have := hA.len; omega
          clear hx hy hcell hfz hst hfit
          go_wp2_with fail
          refine wp_still_tail 24 (by kernel_rfl) (by kernel_rfl) ?_
          simp only [List.take_succ_cons, List.take_zero, List.drop_succ_cons, List.drop_zero]
          iterate 24 still_step
          refine wpStill_nil ?_
          clear e1 e2
          go_wp2_with fail
          go_roundw
          case rel =>
            refine ⟨k + 1, by go_num, by omega, ?_⟩
            rw [← lay_step hfit'.out HX.out]; exact HST.out
          case measure => simp [intOf]; omega
        · have hkp : t.p.length ≤ k := by omega
          rw [lay_all _ _ _ hkp] at hQ
          go_wp2_with fail
          go_roundw
          case rel =>
            refine ⟨j + 1, by go_num, by omega, _, hQ, ?_⟩
            have e := HR.out
            rw [List.drop_eq_getElem_cons hlt, getElem_of HT.out] at e
            exact e
          case measure => simp [intOf]; omega
    · have hjl : ts.length ≤ j := by omega
      have hR := HR.out
      rw [List.drop_of_length_le hjl] at hR
      have HR2 := Lib.hid hR
      clear hR
      go_wp2_with fail
      go_ret
      refine ⟨_, rfl, ?_, hA.same⟩
      have ho := hA.own
      rw [show cur = res from HR2.out] at ho
      exact ho

/-- What Read answers: a piece of new bytes. -/
def RReadPost (w : World) (l : List UInt8) (e : Ending) (w' : World) : Prop := ∃ A c, e = .returned (.tuple #[.slice A 32 c, .int .i64 0]) ∧ Bs w' (fun k => w.heap.size ≤ k) (.slice A 32 c) l ∧ Same w w'
theorem rread_no (d n : Nat) (i : Int) (F : Nat → Prop) (s : List UInt8) (ts : List Wt) (w : World) (h : Rv w F d n s ts) (hbad : i < 0 ∨ (n : Int) ≤ i) :
    Calls Try.prog 19 #[.pointer (some ⟨d, 0, none⟩), .int .i64 i] w fun e w' => e = .returned (.tuple #[.slice none 0 0, .int .i64 1]) ∧ w = w' := by
  obtain ⟨vf, vw, vs, hD⟩ := h
  obtain ⟨c0, c1, f0, f1⟩ := two_cells hD.blk
  obtain ⟨AF, capF, hvF, -, -, -⟩ := id hD.safe
  subst hvF
  obtain ⟨hq, hn5, -⟩ := hD.quo
  by_cases h0 : i < 0
  · clear hbad
    go_enter Try.func19, Try.ntmps19
    go_wp2_with fail
    go_ret2
    exact ⟨rfl, rfl⟩
  · have h0' : 0 ≤ i := by omega
    have h1 : (n : Int) ≤ i := by omega
    clear hbad h0
    go_enter Try.func19, Try.ntmps19
    go_wp2_with fail
    go_ret2
    exact ⟨rfl, rfl⟩
theorem Bs.mid {w : World} {F : Nat → Prop} {g c k : Nat} {l : List UInt8} {n : Nat} (h : Bs w F (.slice (some ⟨g, 0, none⟩) n c) l) (hk : 32 * k + 32 ≤ l.length) : Bs w F (.slice (some ⟨g, 32 * k, none⟩) 32 (c - 32 * k)) (blk l k) := by
  obtain ⟨A, c', hv, h1, h2, h3⟩ := h
  injection hv with e1 e2 e3
  subst e1; subst e3
  obtain ⟨b, o, hA, hF, hx⟩ := h3 (by omega)
  injection hA with hA
  injection hA with e4 e5
  subst e4; subst e5
  have hl : (blk l k).length = 32 := by unfold blk; rw [List.length_take, List.length_drop]; omega
  refine ⟨_, c - 32 * k, by rw [hl], by omega, by omega, fun _ => ⟨g, 32 * k, rfl, hF, fun i x hi => ?_⟩⟩
  rw [blk_get] at hi
  split at hi
  · have := hx (32 * k + i) x hi
    rwa [Nat.zero_add] at this
  · cases hi

set_option maxHeartbeats 1600000 in
theorem rread_ok (d n k : Nat) (F : Nat → Prop) (s : List UInt8) (ts : List Wt) (w : World) (h : Rv w F d n s ts) (hk : k < n) :
    Calls Try.prog 19 #[.pointer (some ⟨d, 0, none⟩), .int .i64 (k : Int)] w (RReadPost w (blk (allB s ts) k)) := by
  obtain ⟨vf, vw, vs, hD⟩ := id h
  obtain ⟨c0, c1, f0, f1⟩ := two_cells hD.blk
  obtain ⟨AF, capF, hvF, -, -, -⟩ := id hD.safe
  subst hvF
  obtain ⟨hq, hn5, -⟩ := hD.quo
  have hk1 : (k : Int) < (n : Int) := by omega
  have hal := allB_len ts s hD.fine
  obtain ⟨L, hL⟩ : ∃ L, allB s ts = L := ⟨_, rfl⟩
  rw [hL] at hal
  have HL := Lib.hid hL
  have hLl : 32 * k + 32 ≤ L.length := by omega
  have hLu : L.length ≤ 131072 := by omega
  rw [hL]
  clear hL
  go_enter Try.func19, Try.ntmps19
  go_wp2_with fail
  refine (rall_any d n F s ts w h).mono ?_
  rintro _ w1 ⟨v1, rfl, R1⟩
  rw [HL.out] at R1
  obtain ⟨g, c, hv, h1, h2, h3, h4, -, -⟩ := Own.cell_at R1.1 (by omega)
  subst hv
  have hb := R1.bs.mid (k := k) hLl
  have hs := R1.2
  clear R1 hal
  go_wp2_with fail
  go_ret2
  exact ⟨_, _, by simp [show 32 * k + 32 - 32 * k = 32 by omega], hb, hs⟩
end Go.Proofs.Ytnfmjbmcboiacaa
