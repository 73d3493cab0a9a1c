/- The walks of carrierref03.Device: Sync, Crash. -/
import Derived.Test.YtnfmjbmcboiacaaRDevA
namespace Go.Proofs.Ytnfmjbmcboiacaa
open Go Go.RowKit Go.Proofs

theorem RvPost.trans {w w1 w2 : World} {F F1 : Nat → Prop} {d n : Nat} {s : List UInt8} {ts : List Wt} (hc : Chg F w w1) (hn : New F F1 w w1) (h : RvPost w1 w2 F1 d n s ts) : RvPost w w2 F d n s ts := by
  obtain ⟨F2, h1, h2, h3⟩ := h
  refine ⟨F2, h1, hc.trans' h2 (fun i hi h => ?_), hn.trans h3 hc.size h2.size⟩
  rcases hn i h with h | h
  · exact h
  · omega

theorem RvV.synced {w w1 : World} {F : Nat → Prop} {d n : Nat} {vf vw v : Value} {s : List UInt8} {ts : List Wt} {vs : List Value} (h : RvV w F d vf vw n s ts vs) (hf : Fresh w w1 v (allB s ts)) :
    RvPost w ((w1.setCell ⟨d, 0, none⟩ v).setCell ⟨d, 1, none⟩ (.slice none 0 0)) F d n (allB s ts) [] := by
  have hdl := lt_of_block h.blk
  have hs := hf.2
  have hsz := hs.size
  have hb := hf.bs.old
  have hb1 := hs.at_ h.blk (fun h => h)
  have hc : Chg (fun k => k = d) w1 ((w1.setCell ⟨d, 0, none⟩ v).setCell ⟨d, 1, none⟩ (.slice none 0 0)) :=
    Chg.setCell (S := fun k => k = d) (Chg.setCell (S := fun k => k = d) (Chg.refl _ w1) (p := ⟨d, 0, none⟩) (fun _ => rfl) _) (p := ⟨d, 1, none⟩) (fun _ => rfl) _
  refine ⟨fun k => F k ∨ (w.heap.size ≤ k ∧ k < w1.heap.size), ⟨v, .slice none 0 0, [], two_set1 (two_set0 hb1), ?_, ⟨allB_len ts s h.fine, by simp⟩, h.few, World.ownsRow_nil _ _ _ _, rfl, by simp, .inl h.mine, by simp [Value.ownBlock], ?_⟩, (hs.any F).trans (hc.mono (fun k hk => by subst hk; exact h.mine)), ?_⟩
  · refine (hb.keep hc (fun k hk e => by have := hk.1; omega)).mono (fun b _ hb => ⟨.inr hb, ?_, by simp [Value.ownBlock]⟩)
    have := hb.1; omega
  · intro k hk
    rcases hk with hk | hk
    · have := h.lt k hk; simp; omega
    · simp; omega
  · intro k hk
    rcases hk with hk | hk
    · exact .inl hk
    · exact .inr ⟨hk.1, by simpa using hk.2⟩

set_option maxHeartbeats 800000 in
theorem rsync_any (d n : Nat) (F : Nat → Prop) (s : List UInt8) (ts : List Wt) (w : World) (h : Rv w F d n s ts) :
    Calls Try.prog 25 #[.pointer (some ⟨d, 0, none⟩)] w fun e w' => e = .returned (.tuple #[]) ∧ RvPost w w' F d n (allB s ts) [] := by
  obtain ⟨vf, vw, vs, hD⟩ := id h
  obtain ⟨c0, c1, f0, f1⟩ := two_cells hD.blk
  have hdl := lt_of_block hD.blk
  go_enter Try.func25, Try.ntmps25
  go_wp2_with fail
  refine (rall_any d n F s ts w h).mono ?_
  rintro _ w1 ⟨v1, rfl, R1⟩
  have R := hD.synced R1
  have k0 := R1.2.cell' c0 (fun h => h)
  have k1 := R1.2.cell' c1 (fun h => h)
  have g0 := (R1.2.frozen (p := ⟨d, 0, none⟩) hdl (fun h => h)).trans f0
  have g1 := (R1.2.frozen (p := ⟨d, 1, none⟩) hdl (fun h => h)).trans f1
  obtain ⟨A1, cp1, hv1⟩ := R1.form
  subst hv1
  clear R1
  go_wp2_with fail
  go_end0
  exact ⟨rfl, R⟩

/-- Where the loop of Crash stands: the writes L are left so far, in the slice vL (their bytes' slices us). -/
structure LeftAt (w wr : World) (F : Nat → Prop) (d : Nat) (lost : List Bool) (torn : Int) (m j : Nat) (all : List Wt) (rest : List Wt) (vL : Value) (L : List Wt) (us : List Value) : Prop where
  own : wr.ownsRow 0 68 2 vL L.length (tcells L us)
  vlen : us.length = L.length
  few : L.length ≤ j
  each : ∀ (k : Nat) (t : Wt) (v : Value), L[k]? = some t → us[k]? = some v → Bs wr (fun b => F b ∧ b ≠ d) v t.p
  new : ∀ g, vL.ownBlock = some g → w.heap.size ≤ g
  same : Same w wr
  eq : L ++ leftW lost torn m j rest = all

theorem leftW_cons (lost : List Bool) (torn : Int) (m k : Nat) (t : Wt) (ts : List Wt) : leftW lost torn m k (t :: ts) = if lost.getD k false then leftW lost torn m (k + 1) ts else ⟨t.i, kept lost torn m k t.p⟩ :: leftW lost torn m (k + 1) ts := rfl
theorem LeftAt.lens {w wr : World} {F : Nat → Prop} {d : Nat} {lost : List Bool} {torn : Int} {m j : Nat} {all rest L : List Wt} {vL : Value} {us : List Value} (h : LeftAt w wr F d lost torn m j all rest vL L us) : ∃ A cap, vL = .slice A L.length cap := by
  rcases h.own.2 with ⟨h1, h2⟩ | ⟨g, cap, cur, h1, _⟩
  · exact ⟨none, 0, by rw [h1, h2]⟩
  · exact ⟨_, _, h1⟩
theorem LeftAt.skip {w wr w2 : World} {F : Nat → Prop} {d : Nat} {lost : List Bool} {torn : Int} {m j : Nat} {all ts L : List Wt} {vL : Value} {us : List Value} {t : Wt} (h : LeftAt w wr F d lost torn m j all (ts.drop j) vL L us) (ht : ts[j]? = some t)
    (hl : lost.getD j false = true) (hs : Same wr w2) : LeftAt w w2 F d lost torn m (j + 1) all (ts.drop (j + 1)) vL L us := by
  have hlt : j < ts.length := (List.getElem?_eq_some_iff.1 ht).1
  refine ⟨ownsRow_keep h.own hs (fun _ _ h => h), h.vlen, Nat.le_succ_of_le h.few, fun k t v h1 h2 => (h.each k t v h1 h2).same hs, h.new, h.same.trans hs, ?_⟩
  have e := h.eq
  rw [List.drop_eq_getElem_cons hlt, getElem_of ht, leftW_cons, if_pos hl] at e
  exact e
theorem LeftAt.add {w wr wx w2 : World} {F : Nat → Prop} {d : Nat} {lost : List Bool} {torn : Int} {m j : Nat} {all ts L : List Wt} {vL vL' v : Value} {us : List Value} {t : Wt} {p : List UInt8} (h : LeftAt w wr F d lost torn m j all (ts.drop j) vL L us) (ht : ts[j]? = some t)
    (hl : lost.getD j false = false) (hp : kept lost torn m j t.p = p) (hs : Same wr wx) (hv : Bs wr (fun b => F b ∧ b ≠ d) v p) (hF : Lt F w)
    (ho : w2.ownsRow 0 68 2 vL' (L.length + 1) (tcells L us ++ [.int .i64 (t.i : Int), v])) (hg : wx.grownBy w2 vL.ownBlock) (hat : vL'.ownBlock = vL.ownBlock ∨ vL'.ownBlock = some wx.heap.size) :
    LeftAt w w2 F d lost torn m (j + 1) all (ts.drop (j + 1)) vL' (L ++ [⟨t.i, p⟩]) (us ++ [v]) := by
  have hlt : j < ts.length := (List.getElem?_eq_some_iff.1 ht).1
  have hsx : Same w wx := h.same.trans hs
  have hc2 : Chg (fun k => vL.ownBlock = some k) wx w2 := Chg.of_grown hg (fun k h => h)
  have hfr : ∀ {u : Value} {q : List UInt8}, Bs wr (fun b => F b ∧ b ≠ d) u q → Bs w2 (fun b => F b ∧ b ≠ d) u q := fun hb => (hb.same hs).keep hc2 (fun b hb e => by have := h.new b e; have := hF b hb.1; omega)
  refine ⟨?_, by simp [h.vlen], by have := h.few; simp; omega, fun k t1 v1 h1 h2 => ?_, fun g hg' => ?_, hsx.trans' hc2 (fun k hk e => by have := h.new k e; omega), ?_⟩
  · rw [List.length_append, tcells_append _ _ _ _ h.vlen]; exact ho
  · by_cases hk : k < L.length
    · rw [List.getElem?_append_left hk] at h1
      rw [List.getElem?_append_left (by rw [h.vlen]; exact hk)] at h2
      exact hfr (h.each k t1 v1 h1 h2)
    · have hkl : k = L.length := by
        have h3 := (List.getElem?_eq_some_iff.1 h1).1
        simp at h3; omega
      subst hkl
      have e1 : t1 = ⟨t.i, p⟩ := by simpa using h1.symm
      have e2 : v1 = v := by rw [← h.vlen] at h2; simpa using h2.symm
      subst e1; subst e2
      exact hfr hv
  · rcases hat with e | e
    · rw [e] at hg'; exact h.new g hg'
    · rw [e] at hg'; injection hg' with hg'; subst hg'; exact hsx.size
  · have e := h.eq
    rw [List.drop_eq_getElem_cons hlt, getElem_of ht, leftW_cons, if_neg (by rw [hl]; simp), hp] at e
    rw [List.append_assoc]; exact e
theorem RvV.left {w wr : World} {F : Nat → Prop} {d n : Nat} {vf vw vL : Value} {s : List UInt8} {ts L : List Wt} {vs us : List Value} {lost : List Bool} {torn : Int} {m j : Nat} (h : RvV w F d vf vw n s ts vs) (hl : LeftAt w wr F d lost torn m j (leftW lost torn m 0 ts) [] vL L us) :
    RvPost w (wr.setCell ⟨d, 1, none⟩ vL) F d n s (leftW lost torn m 0 ts) := by
  have e : L = leftW lost torn m 0 ts := by have := hl.eq; rwa [show leftW lost torn m j [] = [] from rfl, List.append_nil] at this
  rw [← e]
  have hf : Fine n s L := by rw [e]; exact leftW_fine ts 0 h.fine
  have hdl := lt_of_block h.blk
  have hs := hl.same
  have hsz := hs.size
  have hc : Chg (fun k => k = d) wr (wr.setCell ⟨d, 1, none⟩ vL) := Chg.setCell (S := fun k => k = d) (Chg.refl _ wr) (p := ⟨d, 1, none⟩) (fun _ => rfl) _
  have hnw : ∀ b, b < w.heap.size → vL.ownBlock ≠ some b := fun b hb e => by have := hl.new b e; omega
  refine ⟨fun k => F k ∨ (w.heap.size ≤ k ∧ k < wr.heap.size), ⟨vf, vL, us, two_set1 (hs.at_ h.blk (fun h => h)), ?_, hf, h.few, ?_, hl.vlen, fun k t v h1 h2 => ?_, .inl h.mine, fun g hg => ?_, ?_⟩, (hs.any F).trans (hc.mono (fun k hk => by subst hk; exact h.mine)), ?_⟩
  · exact ((h.safe.old.same hs).keep hc (fun k hk => hk.1.2.1)).mono (fun b _ hb => ⟨.inl hb.1.1, hb.1.2.1, hnw b hb.2⟩)
  · exact ownsRow_setCell_other hl.own (fun e => hnw d hdl e) _
  · exact ((hl.each k t v h1 h2).keep hc (fun k hk => hk.2)).mono (fun b _ hb => ⟨.inl hb.1, hb.2, hnw b (h.lt b hb.1)⟩)
  · have := hl.new g hg
    have := (World.ownsRow.lt hl.own g hg).2
    exact ⟨.inr ⟨by omega, by omega⟩, by omega⟩
  · intro k hk
    rcases hk with hk | hk
    · have := h.lt k hk; simp; omega
    · simp; omega
  · intro k hk
    rcases hk with hk | hk
    · exact .inl hk
    · exact .inr ⟨hk.1, by simpa using hk.2⟩

theorem two_at {w : World} {b : Nat} {x y : Value} {t : TypeId} (h : w.heap[b]? = some (.cells #[x, y] t (0, 0))) : ∀ j u, [x, y][j]? = some u → w.cell? ((⟨b, 0, none⟩ : Addr).add j) = some u := by
  intro j u hj
  rw [addr_add, Nat.zero_add]
  obtain ⟨a, b, -, -⟩ := two_cells h
  match j, hj with
  | 0, hj => simp at hj; subst hj; exact a
  | 1, hj => simp at hj; subst hj; exact b

set_option maxHeartbeats 6400000 in
set_option maxRecDepth 100000 in
theorem rcrash_ok (d n : Nat) (torn : Int) (ht0 : -9223372036854775808 ≤ torn) (ht1 : torn ≤ 9223372036854775807) (F G : Nat → Prop) (s : List UInt8) (ts : List Wt) (lost : List Bool) (vl : Value) (w : World) (h : Rv w F d n s ts) (hl : Bl w G vl lost) (hm : ts.length ≤ 1000000) :
    Calls Try.prog 22 #[.pointer (some ⟨d, 0, none⟩), vl, .int .i64 torn] w fun e w' => e = .returned (.tuple #[]) ∧ RvPost w w' F d n (crash lost torn ts.length 0 s ts) [] := by
  obtain ⟨vf, vw, vs, hD⟩ := h
  obtain ⟨c0, c1, f0, f1⟩ := two_cells hD.blk
  obtain ⟨A, cap, hv, hcap, hlen⟩ := hD.lens
  subst hv
  obtain ⟨AL, capL, hvL, hlL, hcL, -⟩ := id hl
  subst hvL
  have hmx : maxLen = 9223372036854775807 := by decide +kernel
  have hcL' : lost.length ≤ 9223372036854775807 := by omega
  have hdl := lt_of_block hD.blk
  obtain ⟨i0, hi, hz0, hz1, hz2⟩ := info_parts info_rwrite
  obtain ⟨all, hall⟩ : ∃ all, leftW lost torn ts.length 0 ts = all := ⟨_, rfl⟩
  obtain ⟨res, hres⟩ : ∃ res, crash lost torn ts.length 0 s ts = res := ⟨_, rfl⟩
  have HM := Lib.hid hmx
  have HS : Hid (allB s all = res) := Lib.hid (by rw [← hall, allB_left]; exact hres)
  have HA := Lib.hid hall
  rw [hres]
  clear hres hall hmx hcL
  go_enter Try.func22, Try.ntmps22
  go_wp2_with fail
  go_loopw [2, 6, 7] (fun tr vL i wr => ∃ j : Nat, i = .int .i64 j ∧ j ≤ ts.length ∧ ∃ q : Int, tr = .int .i64 q ∧ (j < ts.length → q = torn) ∧ ∃ L us, LeftAt w wr F d lost torn ts.length j all (ts.drop j) vL L us) (fun _ _ i _ => ts.length - (intOf i).toNat)
  case atStart =>
    refine ⟨0, rfl, Nat.zero_le _, torn, rfl, fun _ => rfl, [], [], World.ownsRow_nil _ _ _ _, rfl, Nat.le_refl _, by simp, by simp [Value.ownBlock], Chg.refl _ _, ?_⟩
    rw [List.drop_zero]; exact HA.out
  case round =>
    obtain ⟨j, rfl, hj, q, rfl, hqt, L, us, hR⟩ := hrel
    have e1 := hR.same.cell' c1 (fun e => e)
    have hdr : d < wr.heap.size := Nat.lt_of_lt_of_le hdl hR.same.size
    by_cases hlt : j < ts.length
    · obtain rfl : q = torn := hqt hlt
      obtain ⟨t, ht⟩ : ∃ t, ts[j]? = some t := ⟨_, List.getElem?_eq_getElem hlt⟩
      obtain ⟨g, cap', v, hv, hgF, hvs, hc2, hc3, hbs⟩ := hD.write_at ht
      injection hv with hv1 hv2 hv3
      subst hv1; subst hv3
      have k2 := hR.same.cell' hc2 (fun h => h)
      have k3 := hR.same.cell' hc3 (fun h => h)
      obtain ⟨A3, cap3, hv3, hpc, hpm, -⟩ := id hbs
      subst hv3
      obtain ⟨AV, capV, hvV⟩ := hR.lens
      subst hvV
      obtain ⟨hti, hpl⟩ := hD.fine.2 t (List.mem_of_getElem? ht)
      have hbs4 := Lib.hid ((hbs.same hR.same).mono (fun b _ hb => (⟨hb.1, hb.2.1⟩ : F b ∧ b ≠ d)))
      have HT := Lib.hid ht
      have hts1 : (1 : Int) ≤ (ts.length : Int) := by omega
      have hjl : (j : Int) < (ts.length : Int) := by omega
      have hpl' : (t.p.length : Int) ≤ 32 := by omega
      have hpc' : t.p.length ≤ cap3 := hpc
      have hcm3 : cap3 ≤ 9223372036854775807 := by have := HM.out; omega
      have hLm : (L.length + 1) * 32 ≤ 140737488355328 := by have := hR.few; omega
      have hLx : L.length + 1 ≤ maxLen := by have := hR.few; unfold maxLen; omega
      have hlb : Bl wr G (.slice AL lost.length capL) lost := hl.keep hR.same (fun k _ e => e)
      have HLm := Lib.hid hLm
      have HLx := Lib.hid hLx
      clear ht hvs hv2 hc2 hc3 c0 c1 f0 f1 hpm hqt hLm hLx
      by_cases hlo : lost[j]? = some true
      · obtain ⟨bl, ol, hAL, -, kl⟩ := hlb.at_ hlo
        have hbl := cell_lt kl
        subst hAL
        have hjlo : j < lost.length := (List.getElem?_eq_some_iff.1 hlo).1
        have hgd : lost.getD j false = true := by rw [List.getD_eq_getElem?_getD, hlo]; rfl
        have HL := Lib.hid hgd
        clear hlo hgd
        go_wp2_with fail
        go_roundw
        case rel => exact ⟨j + 1, by go_num, by omega, _, rfl, fun _ => rfl, L, us, hR.skip HT.out HL.out (Chg.alloc_ _ _ _)⟩
        case measure => simp [intOf]; omega
      · have hgd : lost.getD j false = false := by
          rw [List.getD_eq_getElem?_getD]
          cases hx : lost[j]? with
          | none => rfl
          | some x => cases x with
            | false => rfl
            | true => exact absurd hx hlo
        have HK := Lib.hid (getD_of_not hgd q ts.length t.p)
        have HG := Lib.hid hgd
        clear hgd
        by_cases hjb : j < lost.length
        · have hlo2 : lost[j]? = some false := by
            have := List.getElem?_eq_getElem hjb
            cases hx : lost[j] with
            | false => rw [this, hx]
            | true => rw [hx] at this; exact absurd this hlo
          obtain ⟨bl, ol, hAL, -, kl⟩ := hlb.at_ hlo2
          have hbl := cell_lt kl
          subst hAL
          clear hlo2
          by_cases hlast : j + 1 = ts.length
          · have hq : ((j : Int) == (ts.length : Int) - 1) = true := by simp; omega
            have HL := Lib.hid hlast
            clear hlast hlo
            by_cases hn0 : q < 0
            · have hn0l : q < (t.p.length : Int) := by omega
              have HP : Hid (kept lost q ts.length j t.p = t.p.take 0) := by
                show _ = _
                rw [HK.out]
                rw [if_pos HL.out, show (min (max q 0) (t.p.length : Int)).toNat = 0 by omega]
              have hbs5 : Hid (Bs wr (fun b => F b ∧ b ≠ d) (.slice A3 0 cap3) (t.p.take 0)) := Lib.hid (hbs4.out.takeN (k := 0) (Nat.zero_le _))
              have hown5 := Lib.hid (ownsRow_keep hR.own (((Chg.refl (fun _ => False) wr).alloc (.cells #[.int .i64 (t.i : Int), .slice A3 0 cap3] 68)).alloc (.cells #[.int .i64 (t.i : Int), .slice A3 0 cap3] 68)) (fun _ _ h => h))
              have hnew5 : Hid (0 < 1 → ∃ ad, some (⟨wr.heap.size + 1, 0, none⟩ : Addr) = some ad ∧ ∀ (j : Nat) (u : Value), [.int .i64 (t.i : Int), .slice A3 0 cap3][j]? = some u → ((wr.alloc (.cells #[.int .i64 (t.i : Int), .slice A3 0 cap3] 68)).alloc (.cells #[.int .i64 (t.i : Int), .slice A3 0 cap3] 68)).cell? (ad.add j) = some u) := Lib.hid (by simpa using two_new_cells (wr.alloc (.cells #[.int .i64 (t.i : Int), .slice A3 0 cap3] 68)) (.int .i64 (t.i : Int)) (.slice A3 0 cap3) 68)
              go_wp2_with (at_builtin; refine wl_app _ rfl _ _ 52 rfl 68 i0 _ 2 32 Try.underlying52 hi hz0 hz1 hz2 rfl (by omega) (.slice AV L.length capV) L.length (tcells L us) rfl hown5.out _ 1 1 [.int .i64 (t.i : Int), .slice A3 0 cap3] rfl rfl hnew5.out (by simp [Value.oneCell']) HLm.out HLx.out ?_)
              intro A9 cp9 w9 hown9 hgr9 hat9
              have hR9 := hR.add HT.out HG.out HP.out (((Chg.refl (fun _ => False) wr).alloc _).alloc _) hbs5.out hD.lt hown9 hgr9 (by simpa using hat9)
              clear hown9 hgr9 hat9
              go_wp2_with fail
              go_roundw
              case rel => exact ⟨j + 1, by go_num, by omega, _, rfl, fun h => absurd h (by have := HL.out; omega), _, _, hR9⟩
              case measure => simp [intOf]; omega
            · have hn0p : 0 ≤ q := by omega
              by_cases hn1 : q < (t.p.length : Int)
              · obtain ⟨z, hz⟩ : ∃ z : Nat, q = (z : Int) := ⟨q.toNat, by omega⟩
                have hqp : z ≤ t.p.length := by omega
                have hq1 : (z : Int) < (t.p.length : Int) := by omega
                subst hz
                have HP : Hid (kept lost (z : Int) ts.length j t.p = t.p.take z) := by
                  show _ = _
                  rw [HK.out]
                  rw [if_pos HL.out, show (min (max (z : Int) 0) (t.p.length : Int)).toNat = z by omega]
                have hbs5 : Hid (Bs wr (fun b => F b ∧ b ≠ d) (.slice A3 z cap3) (t.p.take z)) := Lib.hid (hbs4.out.takeN (k := z) hqp)
                have hown5 := Lib.hid (ownsRow_keep hR.own (((Chg.refl (fun _ => False) wr).alloc (.cells #[.int .i64 (t.i : Int), .slice A3 z cap3] 68)).alloc (.cells #[.int .i64 (t.i : Int), .slice A3 z cap3] 68)) (fun _ _ h => h))
                have hnew5 : Hid (0 < 1 → ∃ ad, some (⟨wr.heap.size + 1, 0, none⟩ : Addr) = some ad ∧ ∀ (j : Nat) (u : Value), [.int .i64 (t.i : Int), .slice A3 z cap3][j]? = some u → ((wr.alloc (.cells #[.int .i64 (t.i : Int), .slice A3 z cap3] 68)).alloc (.cells #[.int .i64 (t.i : Int), .slice A3 z cap3] 68)).cell? (ad.add j) = some u) := Lib.hid (by simpa using two_new_cells (wr.alloc (.cells #[.int .i64 (t.i : Int), .slice A3 z cap3] 68)) (.int .i64 (t.i : Int)) (.slice A3 z cap3) 68)
                go_wp2_with (at_builtin; refine wl_app _ rfl _ _ 52 rfl 68 i0 _ 2 32 Try.underlying52 hi hz0 hz1 hz2 rfl (by omega) (.slice AV L.length capV) L.length (tcells L us) rfl hown5.out _ 1 1 [.int .i64 (t.i : Int), .slice A3 z cap3] rfl rfl hnew5.out (by simp [Value.oneCell']) HLm.out HLx.out ?_)
                intro A9 cp9 w9 hown9 hgr9 hat9
                have hR9 := hR.add HT.out HG.out HP.out (((Chg.refl (fun _ => False) wr).alloc _).alloc _) hbs5.out hD.lt hown9 hgr9 (by simpa using hat9)
                clear hown9 hgr9 hat9
                go_wp2_with fail
                go_roundw
                case rel => exact ⟨j + 1, by go_num, by omega, _, rfl, fun _ => rfl, _, _, hR9⟩
                case measure => simp [intOf]; omega
              · have hn2 : (t.p.length : Int) ≤ q := by omega
                have HP : Hid (kept lost q ts.length j t.p = t.p) := by
                  show _ = _
                  rw [HK.out]
                  rw [if_pos HL.out, show (min (max q 0) (t.p.length : Int)).toNat = t.p.length by omega, List.take_length]
                have hbs5 : Hid (Bs wr (fun b => F b ∧ b ≠ d) (.slice A3 t.p.length cap3) (t.p)) := Lib.hid (hbs4.out)
                have hown5 := Lib.hid (ownsRow_keep hR.own (((Chg.refl (fun _ => False) wr).alloc (.cells #[.int .i64 (t.i : Int), .slice A3 t.p.length cap3] 68)).alloc (.cells #[.int .i64 (t.i : Int), .slice A3 t.p.length cap3] 68)) (fun _ _ h => h))
                have hnew5 : Hid (0 < 1 → ∃ ad, some (⟨wr.heap.size + 1, 0, none⟩ : Addr) = some ad ∧ ∀ (j : Nat) (u : Value), [.int .i64 (t.i : Int), .slice A3 t.p.length cap3][j]? = some u → ((wr.alloc (.cells #[.int .i64 (t.i : Int), .slice A3 t.p.length cap3] 68)).alloc (.cells #[.int .i64 (t.i : Int), .slice A3 t.p.length cap3] 68)).cell? (ad.add j) = some u) := Lib.hid (by simpa using two_new_cells (wr.alloc (.cells #[.int .i64 (t.i : Int), .slice A3 t.p.length cap3] 68)) (.int .i64 (t.i : Int)) (.slice A3 t.p.length cap3) 68)
                go_wp2_with (at_builtin; refine wl_app _ rfl _ _ 52 rfl 68 i0 _ 2 32 Try.underlying52 hi hz0 hz1 hz2 rfl (by omega) (.slice AV L.length capV) L.length (tcells L us) rfl hown5.out _ 1 1 [.int .i64 (t.i : Int), .slice A3 t.p.length cap3] rfl rfl hnew5.out (by simp [Value.oneCell']) HLm.out HLx.out ?_)
                intro A9 cp9 w9 hown9 hgr9 hat9
                have hR9 := hR.add HT.out HG.out HP.out (((Chg.refl (fun _ => False) wr).alloc _).alloc _) hbs5.out hD.lt hown9 hgr9 (by simpa using hat9)
                clear hown9 hgr9 hat9
                go_wp2_with fail
                go_roundw
                case rel => exact ⟨j + 1, by go_num, by omega, _, rfl, fun _ => rfl, _, _, hR9⟩
                case measure => simp [intOf]; omega
          · have hq : ((j : Int) == (ts.length : Int) - 1) = false := by simp; omega
            have HL := Lib.hid hlast
            clear hlast hlo
            have HP : Hid (kept lost q ts.length j t.p = t.p) := by
              show _ = _
              rw [HK.out]
              rw [if_neg HL.out]
            have hbs5 : Hid (Bs wr (fun b => F b ∧ b ≠ d) (.slice A3 t.p.length cap3) (t.p)) := Lib.hid (hbs4.out)
            have hown5 := Lib.hid (ownsRow_keep hR.own (((Chg.refl (fun _ => False) wr).alloc (.cells #[.int .i64 (t.i : Int), .slice A3 t.p.length cap3] 68)).alloc (.cells #[.int .i64 (t.i : Int), .slice A3 t.p.length cap3] 68)) (fun _ _ h => h))
            have hnew5 : Hid (0 < 1 → ∃ ad, some (⟨wr.heap.size + 1, 0, none⟩ : Addr) = some ad ∧ ∀ (j : Nat) (u : Value), [.int .i64 (t.i : Int), .slice A3 t.p.length cap3][j]? = some u → ((wr.alloc (.cells #[.int .i64 (t.i : Int), .slice A3 t.p.length cap3] 68)).alloc (.cells #[.int .i64 (t.i : Int), .slice A3 t.p.length cap3] 68)).cell? (ad.add j) = some u) := Lib.hid (by simpa using two_new_cells (wr.alloc (.cells #[.int .i64 (t.i : Int), .slice A3 t.p.length cap3] 68)) (.int .i64 (t.i : Int)) (.slice A3 t.p.length cap3) 68)
            go_wp2_with (at_builtin; refine wl_app _ rfl _ _ 52 rfl 68 i0 _ 2 32 Try.underlying52 hi hz0 hz1 hz2 rfl (by omega) (.slice AV L.length capV) L.length (tcells L us) rfl hown5.out _ 1 1 [.int .i64 (t.i : Int), .slice A3 t.p.length cap3] rfl rfl hnew5.out (by simp [Value.oneCell']) HLm.out HLx.out ?_)
            intro A9 cp9 w9 hown9 hgr9 hat9
            have hR9 := hR.add HT.out HG.out HP.out (((Chg.refl (fun _ => False) wr).alloc _).alloc _) hbs5.out hD.lt hown9 hgr9 (by simpa using hat9)
            clear hown9 hgr9 hat9
            go_wp2_with fail
            go_roundw
            case rel => exact ⟨j + 1, by go_num, by omega, _, rfl, fun _ => rfl, _, _, hR9⟩
            case measure => simp [intOf]; omega
        · have hjb' : (lost.length : Int) ≤ (j : Int) := by omega
          by_cases hlast : j + 1 = ts.length
          · have hq : ((j : Int) == (ts.length : Int) - 1) = true := by simp; omega
            have HL := Lib.hid hlast
            clear hlast hlo
            by_cases hn0 : q < 0
            · have hn0l : q < (t.p.length : Int) := by omega
              have HP : Hid (kept lost q ts.length j t.p = t.p.take 0) := by
                show _ = _
                rw [HK.out]
                rw [if_pos HL.out, show (min (max q 0) (t.p.length : Int)).toNat = 0 by omega]
              have hbs5 : Hid (Bs wr (fun b => F b ∧ b ≠ d) (.slice A3 0 cap3) (t.p.take 0)) := Lib.hid (hbs4.out.takeN (k := 0) (Nat.zero_le _))
              have hown5 := Lib.hid (ownsRow_keep hR.own (((Chg.refl (fun _ => False) wr).alloc (.cells #[.int .i64 (t.i : Int), .slice A3 0 cap3] 68)).alloc (.cells #[.int .i64 (t.i : Int), .slice A3 0 cap3] 68)) (fun _ _ h => h))
              have hnew5 : Hid (0 < 1 → ∃ ad, some (⟨wr.heap.size + 1, 0, none⟩ : Addr) = some ad ∧ ∀ (j : Nat) (u : Value), [.int .i64 (t.i : Int), .slice A3 0 cap3][j]? = some u → ((wr.alloc (.cells #[.int .i64 (t.i : Int), .slice A3 0 cap3] 68)).alloc (.cells #[.int .i64 (t.i : Int), .slice A3 0 cap3] 68)).cell? (ad.add j) = some u) := Lib.hid (by simpa using two_new_cells (wr.alloc (.cells #[.int .i64 (t.i : Int), .slice A3 0 cap3] 68)) (.int .i64 (t.i : Int)) (.slice A3 0 cap3) 68)
              go_wp2_with (at_builtin; refine wl_app _ rfl _ _ 52 rfl 68 i0 _ 2 32 Try.underlying52 hi hz0 hz1 hz2 rfl (by omega) (.slice AV L.length capV) L.length (tcells L us) rfl hown5.out _ 1 1 [.int .i64 (t.i : Int), .slice A3 0 cap3] rfl rfl hnew5.out (by simp [Value.oneCell']) HLm.out HLx.out ?_)
              intro A9 cp9 w9 hown9 hgr9 hat9
              have hR9 := hR.add HT.out HG.out HP.out (((Chg.refl (fun _ => False) wr).alloc _).alloc _) hbs5.out hD.lt hown9 hgr9 (by simpa using hat9)
              clear hown9 hgr9 hat9
              go_wp2_with fail
              go_roundw
              case rel => exact ⟨j + 1, by go_num, by omega, _, rfl, fun h => absurd h (by have := HL.out; omega), _, _, hR9⟩
              case measure => simp [intOf]; omega
            · have hn0p : 0 ≤ q := by omega
              by_cases hn1 : q < (t.p.length : Int)
              · obtain ⟨z, hz⟩ : ∃ z : Nat, q = (z : Int) := ⟨q.toNat, by omega⟩
                have hqp : z ≤ t.p.length := by omega
                have hq1 : (z : Int) < (t.p.length : Int) := by omega
                subst hz
                have HP : Hid (kept lost (z : Int) ts.length j t.p = t.p.take z) := by
                  show _ = _
                  rw [HK.out]
                  rw [if_pos HL.out, show (min (max (z : Int) 0) (t.p.length : Int)).toNat = z by omega]
                have hbs5 : Hid (Bs wr (fun b => F b ∧ b ≠ d) (.slice A3 z cap3) (t.p.take z)) := Lib.hid (hbs4.out.takeN (k := z) hqp)
                have hown5 := Lib.hid (ownsRow_keep hR.own (((Chg.refl (fun _ => False) wr).alloc (.cells #[.int .i64 (t.i : Int), .slice A3 z cap3] 68)).alloc (.cells #[.int .i64 (t.i : Int), .slice A3 z cap3] 68)) (fun _ _ h => h))
                have hnew5 : Hid (0 < 1 → ∃ ad, some (⟨wr.heap.size + 1, 0, none⟩ : Addr) = some ad ∧ ∀ (j : Nat) (u : Value), [.int .i64 (t.i : Int), .slice A3 z cap3][j]? = some u → ((wr.alloc (.cells #[.int .i64 (t.i : Int), .slice A3 z cap3] 68)).alloc (.cells #[.int .i64 (t.i : Int), .slice A3 z cap3] 68)).cell? (ad.add j) = some u) := Lib.hid (by simpa using two_new_cells (wr.alloc (.cells #[.int .i64 (t.i : Int), .slice A3 z cap3] 68)) (.int .i64 (t.i : Int)) (.slice A3 z cap3) 68)
                go_wp2_with (at_builtin; refine wl_app _ rfl _ _ 52 rfl 68 i0 _ 2 32 Try.underlying52 hi hz0 hz1 hz2 rfl (by omega) (.slice AV L.length capV) L.length (tcells L us) rfl hown5.out _ 1 1 [.int .i64 (t.i : Int), .slice A3 z cap3] rfl rfl hnew5.out (by simp [Value.oneCell']) HLm.out HLx.out ?_)
                intro A9 cp9 w9 hown9 hgr9 hat9
                have hR9 := hR.add HT.out HG.out HP.out (((Chg.refl (fun _ => False) wr).alloc _).alloc _) hbs5.out hD.lt hown9 hgr9 (by simpa using hat9)
                clear hown9 hgr9 hat9
                go_wp2_with fail
                go_roundw
                case rel => exact ⟨j + 1, by go_num, by omega, _, rfl, fun _ => rfl, _, _, hR9⟩
                case measure => simp [intOf]; omega
              · have hn2 : (t.p.length : Int) ≤ q := by omega
                have HP : Hid (kept lost q ts.length j t.p = t.p) := by
                  show _ = _
                  rw [HK.out]
                  rw [if_pos HL.out, show (min (max q 0) (t.p.length : Int)).toNat = t.p.length by omega, List.take_length]
                have hbs5 : Hid (Bs wr (fun b => F b ∧ b ≠ d) (.slice A3 t.p.length cap3) (t.p)) := Lib.hid (hbs4.out)
                have hown5 := Lib.hid (ownsRow_keep hR.own (((Chg.refl (fun _ => False) wr).alloc (.cells #[.int .i64 (t.i : Int), .slice A3 t.p.length cap3] 68)).alloc (.cells #[.int .i64 (t.i : Int), .slice A3 t.p.length cap3] 68)) (fun _ _ h => h))
                have hnew5 : Hid (0 < 1 → ∃ ad, some (⟨wr.heap.size + 1, 0, none⟩ : Addr) = some ad ∧ ∀ (j : Nat) (u : Value), [.int .i64 (t.i : Int), .slice A3 t.p.length cap3][j]? = some u → ((wr.alloc (.cells #[.int .i64 (t.i : Int), .slice A3 t.p.length cap3] 68)).alloc (.cells #[.int .i64 (t.i : Int), .slice A3 t.p.length cap3] 68)).cell? (ad.add j) = some u) := Lib.hid (by simpa using two_new_cells (wr.alloc (.cells #[.int .i64 (t.i : Int), .slice A3 t.p.length cap3] 68)) (.int .i64 (t.i : Int)) (.slice A3 t.p.length cap3) 68)
                go_wp2_with (at_builtin; refine wl_app _ rfl _ _ 52 rfl 68 i0 _ 2 32 Try.underlying52 hi hz0 hz1 hz2 rfl (by omega) (.slice AV L.length capV) L.length (tcells L us) rfl hown5.out _ 1 1 [.int .i64 (t.i : Int), .slice A3 t.p.length cap3] rfl rfl hnew5.out (by simp [Value.oneCell']) HLm.out HLx.out ?_)
                intro A9 cp9 w9 hown9 hgr9 hat9
                have hR9 := hR.add HT.out HG.out HP.out (((Chg.refl (fun _ => False) wr).alloc _).alloc _) hbs5.out hD.lt hown9 hgr9 (by simpa using hat9)
                clear hown9 hgr9 hat9
                go_wp2_with fail
                go_roundw
                case rel => exact ⟨j + 1, by go_num, by omega, _, rfl, fun _ => rfl, _, _, hR9⟩
                case measure => simp [intOf]; omega
          · have hq : ((j : Int) == (ts.length : Int) - 1) = false := by simp; omega
            have HL := Lib.hid hlast
            clear hlast hlo
            have HP : Hid (kept lost q ts.length j t.p = t.p) := by
              show _ = _
              rw [HK.out]
              rw [if_neg HL.out]
            have hbs5 : Hid (Bs wr (fun b => F b ∧ b ≠ d) (.slice A3 t.p.length cap3) (t.p)) := Lib.hid (hbs4.out)
            have hown5 := Lib.hid (ownsRow_keep hR.own (((Chg.refl (fun _ => False) wr).alloc (.cells #[.int .i64 (t.i : Int), .slice A3 t.p.length cap3] 68)).alloc (.cells #[.int .i64 (t.i : Int), .slice A3 t.p.length cap3] 68)) (fun _ _ h => h))
            have hnew5 : Hid (0 < 1 → ∃ ad, some (⟨wr.heap.size + 1, 0, none⟩ : Addr) = some ad ∧ ∀ (j : Nat) (u : Value), [.int .i64 (t.i : Int), .slice A3 t.p.length cap3][j]? = some u → ((wr.alloc (.cells #[.int .i64 (t.i : Int), .slice A3 t.p.length cap3] 68)).alloc (.cells #[.int .i64 (t.i : Int), .slice A3 t.p.length cap3] 68)).cell? (ad.add j) = some u) := Lib.hid (by simpa using two_new_cells (wr.alloc (.cells #[.int .i64 (t.i : Int), .slice A3 t.p.length cap3] 68)) (.int .i64 (t.i : Int)) (.slice A3 t.p.length cap3) 68)
            go_wp2_with (at_builtin; refine wl_app _ rfl _ _ 52 rfl 68 i0 _ 2 32 Try.underlying52 hi hz0 hz1 hz2 rfl (by omega) (.slice AV L.length capV) L.length (tcells L us) rfl hown5.out _ 1 1 [.int .i64 (t.i : Int), .slice A3 t.p.length cap3] rfl rfl hnew5.out (by simp [Value.oneCell']) HLm.out HLx.out ?_)
            intro A9 cp9 w9 hown9 hgr9 hat9
            have hR9 := hR.add HT.out HG.out HP.out (((Chg.refl (fun _ => False) wr).alloc _).alloc _) hbs5.out hD.lt hown9 hgr9 (by simpa using hat9)
            clear hown9 hgr9 hat9
            go_wp2_with fail
            go_roundw
            case rel => exact ⟨j + 1, by go_num, by omega, _, rfl, fun _ => rfl, _, _, hR9⟩
            case measure => simp [intOf]; omega
    · have hjl : ts.length ≤ j := by omega
      rw [List.drop_of_length_le hjl] at hR
      obtain ⟨AV, capV, hvV⟩ := hR.lens
      subst hvV
      have hfr := (hR.same.frozen (p := ⟨d, 1, none⟩) hdl (fun h => h)).trans f1
      rw [← HA.out] at hR
      have hP := hD.left hR
      rw [HA.out] at hP
      obtain ⟨F2, hv2, hc2, hn2⟩ := hP
      clear hR c0 c1 f0 f1
      go_wp2_with fail
      refine (rsync_any d n F2 s all _ hv2).mono ?_
      rintro _ w9 ⟨rfl, hP⟩
      rw [HS.out] at hP
      have R := RvPost.trans hc2 hn2 hP
      clear hP hv2 hc2 hn2
      go_wp2_with fail
      go_end0
      exact ⟨rfl, R⟩
end Go.Proofs.Ytnfmjbmcboiacaa
