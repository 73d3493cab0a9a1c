/- The walk of carrierlaw03.BlockSafe: what was synced stays, but where something is written over it. -/
import Derived.Test.YtnfmjbmcboiacaaSafe
import Derived.Test.YtnfmjbmcboiacaaPlays
namespace Go.Proofs.Ytnfmjbmcboiacaa
open Go Go.RowKit Go.Proofs

theorem info_bs : (Try.prog.info? 25).map (fun i => (i.zero, i.size, i.bytes)) = some (some (.slice none 0 0), 1, 24) := by kernel_rfl
theorem one_new_cell (w : World) (x : Value) (t : TypeId) : 0 < 1 → ∃ ad, some (⟨w.heap.size, 0, none⟩ : Addr) = some ad ∧ ∀ j u, [x][j]? = some u → (w.alloc (.cells #[x] t)).cell? (ad.add j) = some u := by
  refine fun _ => ⟨_, rfl, fun j u hj => ?_⟩
  rw [addr_add, Nat.zero_add, World.cell?_alloc_at _ _ _ _ rfl]
  match j, hj with
  | 0, hj => simpa using hj
theorem WasAt.cells {w0 wr : World} {F : Nat → Prop} {d : Nat} {s1 : List UInt8} {C k : Nat} {vW : Value} {us : List Value} (h : WasAt w0 wr F d s1 C k vW us) (hk : 0 < k) :
    ∃ g cap, vW = .slice (some ⟨g, 0, none⟩) us.length cap ∧ us.length ≤ cap ∧ cap ≤ 9223372036854775807 ∧ C ≤ g ∧ g < wr.heap.size ∧ ∀ i u, us[i]? = some u → wr.cell? ⟨g, i, none⟩ = some u := by
  have hmx : maxLen = 9223372036854775807 := by decide +kernel
  rcases h.own.2 with ⟨h1, h2⟩ | ⟨g, cap, cur, h1, hb, hg, hnc, hc, hs, ht⟩
  · have := h.len; omega
  · refine ⟨g, cap, h1, hnc, by omega, h.new g (by rw [h1]; rfl), lt_of_block hg, fun i u hi => ?_⟩
    rw [cell_of_row wr g i cur _ _ hg]
    rw [← ht, List.getElem?_take] at hi
    split at hi
    · simpa using hi
    · cases hi

/-- Where the third loop stands: which blocks are written over is told in the row of block T. -/
structure TouchAt (w0 wD wr : World) (C D T d : Nat) (s1 : List UInt8) (j : Nat) (F : Nat → Prop) (ts : List Wt) (tb : List Bool) : Prop where
  dv : Made w0 wr F d 4 s1 ts
  few : ts.length ≤ j
  low : ∀ g, F g → g < C ∨ D ≤ g
  row : wr.heap[T]? = some (.cells (tb.map Value.bool).toArray 49 (0, 0))
  four : tb.length = 4
  told : ∀ t ∈ ts, tb[t.i]? = some true
  chg : Chg (fun k => k < C ∨ D ≤ k ∨ k = T) wD wr
def Tch (w0 wD wr : World) (C D T d : Nat) (s1 : List UInt8) (n : Nat) (i : Value) : Prop := ∃ j : Nat, i = .int .i64 j ∧ j ≤ n ∧ ∃ F ts tb, TouchAt w0 wD wr C D T d s1 j F ts tb
theorem TouchAt.wrote {w0 wD wr w1 : World} {C D T d j : Nat} {s1 : List UInt8} {F : Nat → Prop} {ts ts' : List Wt} {tb : List Bool} (h : TouchAt w0 wD wr C D T d s1 j F ts tb) (hT : C ≤ T ∧ T < D) (hD : D ≤ wr.heap.size) (hp : DvPost wr w1 F d 4 s1 ts') (hf : ts'.length ≤ j + 1) :
    ∃ F', Made w0 w1 F' d 4 s1 ts' ∧ (∀ g, F' g → g < C ∨ D ≤ g) ∧ w1.heap[T]? = some (.cells (tb.map Value.bool).toArray 49 (0, 0)) ∧ Chg (fun k => k < C ∨ D ≤ k ∨ k = T) wD w1 ∧ ts'.length ≤ j + 1 := by
  obtain ⟨F', h1, h2, h3⟩ := id hp
  refine ⟨F', ⟨h1, h3.since h.dv.old h.dv.same.size, h.dv.same.since h2 h.dv.old⟩, fun g hg => ?_, h2.at_ h.row (fun hF => by have := h.low T hF; omega), h.chg.trans (h2.mono (fun k hk => by have := h.low k hk; omega)), hf⟩
  rcases h3 g hg with h4 | h4
  · exact h.low g h4
  · right; omega
theorem bools_set {w : World} {T : Nat} {tb : List Bool} {t : TypeId} (h : w.heap[T]? = some (.cells (tb.map Value.bool).toArray t (0, 0))) (k : Nat) (b : Bool) : (w.setCell ⟨T, k, none⟩ (.bool b)).heap[T]? = some (.cells ((tb.set k b).map Value.bool).toArray t (0, 0)) := by
  simp [World.setCell, Array.getElem?_modify, h, List.map_set]
theorem bools_cell {w : World} {T : Nat} {tb : List Bool} {t : TypeId} (h : w.heap[T]? = some (.cells (tb.map Value.bool).toArray t (0, 0))) {k : Nat} {b : Bool} (hk : tb[k]? = some b) : w.cell? ⟨T, k, none⟩ = some (.bool b) ∧ w.frozen? ⟨T, k, none⟩ = false := by
  constructor
  · rw [cell_of_row w T k _ _ _ h, List.getElem?_toArray, List.getElem?_map, hk]; rfl
  · simp [World.frozen?, h]

theorem wrTs_may {N : Nat} {i : Int} {p : List UInt8} {ts : List Wt} (h : mayW N i p) : wrTs N i p ts = ts ++ [⟨i.toNat, p⟩] := by unfold wrTs; rw [if_pos h]
theorem wrTs_not {N : Nat} {i : Int} {p : List UInt8} {ts : List Wt} (h : ¬ mayW N i p) : wrTs N i p ts = ts := by unfold wrTs; rw [if_neg h]

set_option maxHeartbeats 25600000 in
set_option maxRecDepth 100000 in
theorem blockSafe_walk (v1 v2 vl : Value) (l more : List ActD) (lost : List Bool) (torn : Int) (w : World) (ht0 : -9223372036854775808 ≤ torn) (ht1 : torn ≤ 9223372036854775807) (h1 : Acts w (fun k => k < w.heap.size) v1 l) (h2 : Acts w (fun k => k < w.heap.size) v2 more) (hl : Bl w (fun k => k < w.heap.size) vl lost) :
    Calls Try.prog 7 #[v1, v2, vl, .int .i64 torn] w fun e w' => e = .returned (.bool true) ∧ Same w w' := by
  obtain ⟨A1, cap1, hv1, hlc1, hcm1, -, -⟩ := id h1
  subst hv1
  obtain ⟨A2, cap2, hv2, hlc2, hcm2, -, -⟩ := id h2
  subst hv2
  obtain ⟨AL, capL, hvL, -, -, -⟩ := id hl
  subst hvL
  by_cases hsm : smallA l = true
  · by_cases hsm2 : smallA more = true
    · by_cases hlo : lost.length ≤ 60
      · have HSM := Lib.hid hsm
        have HSM2 := Lib.hid hsm2
        have hlo' : (lost.length : Int) ≤ 60 := by omega
        have hl60 : l.length ≤ 60 := by unfold smallA at hsm; simp at hsm; exact hsm.2
        have hm60 : more.length ≤ 60 := by unfold smallA at hsm2; simp at hsm2; exact hsm2.2
        obtain ⟨s0, HS0⟩ : ∃ s0 : List UInt8, Hid (List.replicate (32 * 4) 0 = s0) := ⟨_, Lib.hid rfl⟩
        clear hsm hsm2
        go_enter Try.func7, Try.ntmps7
        go_wp2_with fail
        refine (kept_any _).mono ?_
        rintro _ w0 ⟨rfl, hs0⟩
        have h10 := h1.same hs0
        have h20 := h2.same hs0
        have hl0 := hl.keep hs0 (fun _ _ h => h)
        have hww := hs0.size
        go_wp2_with fail
        refine (small_is _ l _ _ h10 true HSM).mono ?_
        rintro _ _ ⟨rfl, rfl⟩
        go_wp2_with fail
        refine (small_is _ more _ _ h20 true HSM2).mono ?_
        rintro _ _ ⟨rfl, rfl⟩
        go_wp2_with fail
        refine (dnew_any 4 (by omega) (by omega) w0).mono ?_
        rintro _ w1 ⟨d, F, rfl, hd, hs1, ho⟩
        have hM := Made.of_new (m := 4) hd hs1 ho (by omega)
        rw [HS0.out] at hM
        have hW0 : WritesAt w0 w1 d s0 0 := ⟨F, [], hM, Nat.le_refl _⟩
        clear hd hs1 ho hM
        go_wp2_with fail
        go_loopw [10] (fun i wr => ∃ j : Nat, i = .int .i64 j ∧ j ≤ l.length ∧ WritesAt w0 wr d s0 j) (fun i _ => l.length - (intOf i).toNat)
        case atStart => exact ⟨0, rfl, Nat.zero_le _, hW0⟩
        case round =>
          obtain ⟨j, rfl, hj, F1, ts, hM, htl⟩ := hrel
          clear hW0
          by_cases hlt : j < l.length
          · obtain ⟨bb, oo, x, hA, hbb, hx, hok, hat⟩ := (h10.same hM.same).at_ hlt
            subst hA
            obtain ⟨vp, vl', c0, c1, c2, c3, c4, hbp, hbl⟩ := hat
            obtain ⟨Ap, cp, hvp, -, -, -⟩ := id hbp
            subst hvp
            obtain ⟨q, hq⟩ : ∃ q : Int, x.i.tmod 4 = q := ⟨_, rfl⟩
            have hjl : (j : Int) < (l.length : Int) := by omega
            have hM2 := hM.keep ((Chg.refl (fun _ => False) wr).drew)
            have hbp2 := hbp.drew
            have hnb : ¬ F1 bb := fun h => by have := hM.old bb h; omega
            obtain ⟨cd, HCD⟩ : ∃ c, Hid (wrCode 4 q x.p = c) := ⟨_, Lib.hid rfl⟩
            obtain ⟨ts2, HTS⟩ : ∃ t, Hid (wrTs 4 q x.p ts = t) := ⟨_, Lib.hid rfl⟩
            have HL2 : Hid (ts2.length ≤ j + 1) := Lib.hid (by rw [← HTS.out]; have := wrTs_len 4 q x.p ts; omega)
            have htl2 : ts.length ≤ 1000000 := by omega
            clear hM hbp hbl c0 c3 c4 hx hok
            go_wp2_with fail
            go_region_held3 (fun w' => w'.cell? ⟨bb, oo + j * 5 + 1, none⟩ = some (.int .i64 x.i) ∧ w'.cell? ⟨bb, oo + j * 5 + 2, none⟩ = some (.slice Ap x.p.length cp)) (go_keep) ((go_at_call 12; ((with_reducible refine (dwrite_w d 4 q F1 _ s0 x.p ts _ _ hM2.dv hbp2 htl2 cd HCD ts2 HTS).mono ?_); rintro _ w5 ⟨rfl, hP⟩; obtain ⟨F2, hM3⟩ := hM2.step hP; have q1 := hP.choose_spec.2.1.cell' c1 hnb; have q2 := hP.choose_spec.2.1.cell' c2 hnb)))
            all_goals
              clear hP
              go_wp2_with fail
              go_roundw
              case rel => exact ⟨j + 1, by go_num, by omega, F2, ts2, hM3, HL2.out⟩
              case measure => simp [intOf]; omega
          · have hjl : (l.length : Int) ≤ (j : Int) := by omega
            obtain ⟨s1, HS1⟩ : ∃ S, Hid (synced s0 ts = S) := ⟨_, Lib.hid rfl⟩
            go_wp2_with fail
            refine (dsync_ok d 4 F1 s0 ts _ hM.dv).mono ?_
            rintro _ w5 ⟨rfl, hP⟩
            rw [HS1.out] at hP
            obtain ⟨F2, hM3⟩ := hM.step hP
            have hlow : ∀ g, F2 g → g < w5.heap.size := hM3.dv.lt
            have hW0 : WasAt w0 w5 F2 d s1 w5.heap.size 0 (.slice none 0 0) [] := ⟨hM3, World.ownsRow_nil _ _ _ _, rfl, by simp, by simp [Value.ownBlock], hlow⟩
            have hC5 : w0.heap.size ≤ w5.heap.size := hM3.same.size
            obtain ⟨i0, hi, hz0, hz1, hz2⟩ := info_parts info_bs
            clear hP hM hM3 hlow
            go_wp2_with fail
            go_loopw [11, 12] (fun vW i wq => ∃ k : Nat, i = .int .i64 k ∧ k ≤ 4 ∧ ∃ us, w5.heap.size ≤ wq.heap.size ∧ WasAt w0 wq F2 d s1 w5.heap.size k vW us) (fun _ i _ => 4 - (intOf i).toNat)
            case atStart => exact ⟨0, rfl, by omega, [], Nat.le_refl _, hW0⟩
            case round =>
              obtain ⟨k, rfl, hk, us, hCw, hW⟩ := hrel
              clear hW0
              by_cases hk4 : k < 4
              · have hk4' : (k : Int) < 4 := by omega
                obtain ⟨AW, cW, hvW⟩ := hW.lens
                subst hvW
                obtain ⟨R, HR⟩ : ∃ R, Hid (now k (blk s1 k) [] = R) := ⟨_, Lib.hid rfl⟩
                have hus := hW.len
                have HUS := Lib.hid hus
                clear hus
                go_wp2_with fail
                refine (dread_s d 4 k F2 _ _ _ hW.dv.dv hk4 R HR).mono ?_
                rintro _ w7 ⟨g7, rfl, hG⟩
                rw [← HR.out] at hG
                have hown7 := Lib.hid (ownsRow_keep hW.own (hG.sm.trans (Chg.alloc_ (fun _ => False) w7 (.cells #[.slice (some ⟨g7, 0, none⟩) 32 32] 25))) (fun _ _ h => h))
                have hnew7 := Lib.hid (one_new_cell w7 (.slice (some ⟨g7, 0, none⟩) 32 32) 25)
                have hb1 : (us.length + 1) * 24 ≤ 140737488355328 := by have := HUS.out; omega
                have hb2 : us.length + 1 ≤ maxLen := by have := HUS.out; unfold maxLen; omega
                have HB1 := Lib.hid hb1
                have HB2 := Lib.hid hb2
                clear hb1 hb2
                go_wp2_with (at_builtin; refine wl_app _ rfl _ _ 48 rfl 25 i0 _ 1 24 Try.underlying48 hi hz0 hz1 hz2 rfl (by omega) (.slice AW us.length cW) us.length us rfl hown7.out _ 1 1 [.slice (some ⟨g7, 0, none⟩) 32 32] rfl rfl hnew7.out (by simp [Value.oneCell']) HB1.out HB2.out ?_)
                intro A9 cp9 w9 hown9 hgr9 hat9
                have hsz9 : w5.heap.size ≤ w9.heap.size := by have ha := hgr9.size; have hb := hG.sm.size; simp at ha; omega
                have hW9 := hW.add hG hCw hown9 hgr9 (by simpa using hat9)
                clear hown9 hgr9 hat9 hG hW
                go_wp2_with fail
                go_roundw
                case rel => exact ⟨k + 1, by go_num, by omega, _, hsz9, hW9⟩
                case measure => simp [intOf]; omega
              · obtain rfl : k = 4 := by omega
                obtain ⟨gW, cW, hvW, hWc, hWm, hWC, hWs, hWx⟩ := hW.cells (by omega)
                subst hvW
                have HUS := Lib.hid hW.len
                have hT0 : TouchAt w0 (wr.alloc (.cells #[.bool false, .bool false, .bool false, .bool false] 49)) (wr.alloc (.cells #[.bool false, .bool false, .bool false, .bool false] 49)) w5.heap.size (wr.heap.size + 1) wr.heap.size d s1 0 F2 [] [false, false, false, false] :=
                  ⟨hW.dv.keep (Chg.alloc_ _ _ _), Nat.le_refl _, fun g hg => .inl (hW.low g hg), heap_alloc_new wr _, rfl, by simp, Chg.refl _ _⟩
                have hWxD : ∀ i u, us[i]? = some u → (wr.alloc (.cells #[.bool false, .bool false, .bool false, .bool false] 49)).cell? ⟨gW, i, none⟩ = some u := fun i u hi => (Chg.alloc_ (fun _ => False) wr (.cells #[.bool false, .bool false, .bool false, .bool false] 49)).cell' (hWx i u hi) (fun h => h)
                have hWeD : ∀ (i : Nat) (u : Value), us[i]? = some u → ∃ g, u = .slice (some ⟨g, 0, none⟩) 32 32 ∧ Bs (wr.alloc (.cells #[.bool false, .bool false, .bool false, .bool false] 49)) (fun b => w5.heap.size ≤ b ∧ b < wr.heap.size) u (blk s1 i) := fun i u hi => by
                  obtain ⟨g, hu, -, hb⟩ := hW.each i u hi
                  exact ⟨g, hu, (hb.old.mono (G := fun b => w5.heap.size ≤ b ∧ b < wr.heap.size) (fun b _ h => ⟨h.1.1, h.2⟩)).alloc _⟩
                have HWX := Lib.hid hWxD
                have HWE := Lib.hid hWeD
                have hf1 : Fine 4 s1 [] := hW.dv.dv.fine
                have hDsz : wr.heap.size + 1 ≤ (wr.alloc (.cells #[.bool false, .bool false, .bool false, .bool false] 49)).heap.size := by simp
                clear hW hWx hWxD hWeD
                go_upto_region 16 with fail
                generalize wr.alloc (.cells #[.bool false, .bool false, .bool false, .bool false] 49) = wD at *
                generalize wr.heap.size = T at *
                go_wp2_with fail
                go_loopw [16] (fun i wr => Tch w0 wD wr w5.heap.size (T + 1) T d s1 more.length i) (fun i _ => more.length - (intOf i).toNat)
                case atStart => exact ⟨0, rfl, Nat.zero_le _, F2, [], _, hT0⟩
                case round =>
                  obtain ⟨j, rfl, hj, F3, ts3, tb, hT⟩ := hrel
                  clear hT0
                  have hDr : T + 1 ≤ wr.heap.size := Nat.le_trans hDsz hT.chg.size
                  by_cases hlt : j < more.length
                  · obtain ⟨bb, oo, x, hA, hbb, hx, hok, hat⟩ := (h20.same hT.dv.same).at_ hlt
                    subst hA
                    obtain ⟨vp, vl', c0, c1, c2, c3, c4, hbp, hbl⟩ := hat
                    obtain ⟨Ap, cp, hvp, -, -, -⟩ := id hbp
                    subst hvp
                    have hjl : (j : Int) < (more.length : Int) := by omega
                    have hT2 : TouchAt w0 wD wr.drew w5.heap.size (T + 1) T d s1 j F3 ts3 tb := ⟨hT.dv.keep ((Chg.refl (fun _ => False) wr).drew), hT.few, hT.low, hT.row, hT.four, hT.told, hT.chg.drew⟩
                    have hbp2 := hbp.drew
                    have hnb : ¬ F3 bb := fun h => by have := hT.dv.old bb h; omega
                    have htl2 : ts3.length ≤ 1000000 := by have := hT.few; omega
                    have hCT : w5.heap.size ≤ T ∧ T < T + 1 := by omega
                    clear hT hbp hbl c0 c3 c4 hx hok
                    by_cases hmay : mayW 4 (x.i.tmod 4) x.p
                    · obtain ⟨k, hk⟩ : ∃ k : Nat, x.i.tmod 4 = (k : Int) := ⟨(x.i.tmod 4).toNat, by have := hmay.1; omega⟩
                      have hk4 : k < 4 := by have := hmay.2.1; omega
                      have hk4' : (k : Int) < 4 := by omega
                      have HCD : Hid (wrCode 4 (k : Int) x.p = 0) := Lib.hid (by rw [hk] at hmay; unfold wrCode; rw [if_pos hmay])
                      have HTS : Hid (wrTs 4 (k : Int) x.p ts3 = ts3 ++ [⟨k, x.p⟩]) := Lib.hid (by rw [hk] at hmay; rw [wrTs_may hmay]; rfl)
                      obtain ⟨b, hb⟩ : ∃ b, tb[k]? = some b := ⟨_, List.getElem?_eq_getElem (by rw [hT2.four]; exact hk4)⟩
                      have HB := Lib.hid hb
                      clear hmay hb
                      go_wp2_with fail
                      go_region_held3 (fun w' => w'.cell? ⟨bb, oo + j * 5 + 1, none⟩ = some (.int .i64 x.i) ∧ w'.cell? ⟨bb, oo + j * 5 + 2, none⟩ = some (.slice Ap x.p.length cp)) (go_keep) ((go_at_call 12; ((with_reducible refine (dwrite_w d 4 (k : Int) F3 _ s1 x.p ts3 _ _ hT2.dv.dv hbp2 htl2 0 HCD _ HTS).mono ?_); rintro _ w6 ⟨rfl, hP⟩; have q1 := hP.choose_spec.2.1.cell' c1 hnb; have q2 := hP.choose_spec.2.1.cell' c2 hnb)))
                      all_goals
                        obtain ⟨F4, hM4, hlow4, hrow4, hchg4, hlen4⟩ := hT2.wrote hCT hDr hP (by have := hT2.few; simp; omega)
                        obtain ⟨e0, e1⟩ := bools_cell hrow4 HB.out
                        have HR4 := Lib.hid (bools_set hrow4 k true)
                        have HM4 := Lib.hid hM4
                        have hF4 : T + 1 ≤ w6.heap.size := by have := hP.choose_spec.2.1.size; have : wr.drew.heap.size = wr.heap.size := rfl; omega
                        have hnT : ¬ F4 T := fun h => by have := hlow4 T h; omega
                        have hTC := hC5
                        clear hP hrow4 hM4
                        have HREL : Tch w0 wD (w6.setCell ⟨T, k, none⟩ (.bool true)) w5.heap.size (T + 1) T d s1 more.length (.int .i64 ((j : Int) + 1)) := by
                          have hcs : Chg (fun b => b = T) w6 (w6.setCell ⟨T, k, none⟩ (.bool true)) := Chg.setCell (S := fun b => b = T) (Chg.refl _ w6) (p := ⟨T, k, none⟩) (fun _ => rfl) _
                          refine ⟨j + 1, rfl, by omega, F4, ts3 ++ [⟨k, x.p⟩], tb.set k true, ⟨HM4.out.dv.keep hcs (fun b hb e => hnT (e ▸ hb)), HM4.out.old, HM4.out.same.since hcs (fun b hb => by omega)⟩, hlen4, hlow4, HR4.out, by simp [hT2.four], ?_, hchg4.trans (hcs.mono (fun b hb => .inr (.inr hb)))⟩
                          intro t ht
                          rw [List.getElem?_set]
                          by_cases hkt : k = t.i
                          · rw [if_pos hkt, if_pos (by rw [hT2.four]; exact hk4)]
                          · rw [if_neg hkt]
                            rcases List.mem_append.1 ht with h | h
                            · exact hT2.told t h
                            · rw [List.mem_singleton.1 h] at hkt; exact absurd rfl hkt
                        have HREL := Lib.hid HREL
                        go_wp2_with fail
                        go_roundw
                        case rel => first | exact HREL.out | ((repeat apply Exists.intro); exact ⟨HREL.out, rfl⟩)
                        case measure => simp [intOf]; omega
                    · obtain ⟨q, hq⟩ : ∃ q : Int, x.i.tmod 4 = q := ⟨_, rfl⟩
                      have HCD : Hid (wrCode 4 q x.p = 1) := Lib.hid (by rw [hq] at hmay; unfold wrCode; rw [if_neg hmay])
                      have HTS : Hid (wrTs 4 q x.p ts3 = ts3) := Lib.hid (by rw [hq] at hmay; exact wrTs_not hmay)
                      clear hmay
                      go_wp2_with fail
                      first | (go_region_law ((go_simp; go_at_call 12; ((with_reducible refine (dwrite_w d 4 q F3 _ s1 x.p ts3 _ _ hT2.dv.dv hbp2 htl2 1 HCD _ HTS).mono ?_); rintro _ w6 ⟨rfl, hP⟩; have q1 := hP.choose_spec.2.1.cell' c1 hnb; have q2 := hP.choose_spec.2.1.cell' c2 hnb)))) | fail
                      all_goals
                        obtain ⟨F4, hM4, hlow4, hrow4, hchg4, hlen4⟩ := hT2.wrote hCT hDr hP (by have := hT2.few; omega)
                        have HM4 := Lib.hid hM4
                        have HR4 := Lib.hid hrow4
                        clear hP hrow4 hM4
                        go_wp2_with fail
                        go_roundw
                        case rel =>
                          have HREL : Tch w0 wD w6 w5.heap.size (T + 1) T d s1 more.length (.int .i64 ((j : Int) + 1)) := ⟨j + 1, rfl, by omega, F4, ts3, tb, HM4.out, hlen4, hlow4, HR4.out, hT2.four, hT2.told, hchg4⟩
                          first | exact HREL | ((repeat apply Exists.intro); exact ⟨HREL, rfl⟩)
                        case measure => simp [intOf]; omega
                  · have hjl : (more.length : Int) ≤ (j : Int) := by omega
                    obtain ⟨S2, HS2⟩ : ∃ S, Hid (crash lost torn ts3.length 0 s1 ts3 = S) := ⟨_, Lib.hid rfl⟩
                    have hf3 := hT.dv.dv.fine
                    have HUN : Hid (∀ i, i < 4 → tb[i]? = some false → blk S2 i = blk s1 i) := Lib.hid (fun i hi hti => by
                      rw [← HS2.out]
                      refine blk_crash hi ts3 0 s1 hf3 (fun t ht e => ?_)
                      have := hT.told t ht
                      rw [e, hti] at this
                      cases this)
                    have hl3 := hl0.keep hT.dv.same (fun _ _ h => h)
                    go_wp2_with fail
                    refine (dcrash_ok d 4 torn ht0 ht1 F3 _ s1 ts3 lost _ _ hT.dv.dv hl3 (fun k hk hF => by have := hT.dv.old k hF; omega)).mono ?_
                    rintro _ w9 ⟨rfl, hP⟩
                    rw [HS2.out] at hP
                    obtain ⟨F9, hM9⟩ := hT.dv.step hP
                    have hcD : Chg (fun k => k < w5.heap.size ∨ T + 1 ≤ k ∨ k = T) wD w9 := hT.chg.trans (hP.choose_spec.2.1.mono (fun k hk => by have := hT.low k hk; omega))
                    have hrow9 := Lib.hid (hP.choose_spec.2.1.at_ hT.row (fun hF => by have := hT.low T hF; omega))
                    have HWX9 : Hid (∀ i u, us[i]? = some u → w9.cell? ⟨gW, i, none⟩ = some u) := Lib.hid (fun i u hi => hcD.cell' (HWX.out i u hi) (fun (h : gW < w5.heap.size ∨ T + 1 ≤ gW ∨ gW = T) => by omega))
                    have HWE9 : Hid (∀ (i : Nat) (u : Value), us[i]? = some u → ∃ g, u = .slice (some ⟨g, 0, none⟩) 32 32 ∧ Bs w9 (fun b => w5.heap.size ≤ b ∧ b < T) u (blk s1 i)) := Lib.hid (fun i u hi => by
                      obtain ⟨g, hu, hb⟩ := HWE.out i u hi
                      exact ⟨g, hu, hb.keep hcD (fun b hb h => by omega)⟩)
                    have H4 := Lib.hid hT.four
                    clear hP hT hcD hl3 hf3
                    go_wp2_with fail
                    go_loopw [17] (fun i wx => ∃ k : Nat, i = .int .i64 k ∧ k ≤ 4 ∧ Made w0 wx F9 d 4 S2 [] ∧ Same w9 wx) (fun i _ => 4 - (intOf i).toNat)
                    case atStart => exact ⟨0, rfl, by omega, hM9, Chg.refl _ _⟩
                    case round =>
                      obtain ⟨k, rfl, hk, hMx, hsx⟩ := hrel
                      clear hM9
                      by_cases hk4 : k < 4
                      · have hk4' : (k : Int) < 4 := by omega
                        obtain ⟨R, HR⟩ : ∃ R, Hid (now k (blk S2 k) [] = R) := ⟨_, Lib.hid rfl⟩
                        obtain ⟨b, hb⟩ : ∃ b, tb[k]? = some b := ⟨_, List.getElem?_eq_getElem (by rw [H4.out]; exact hk4)⟩
                        obtain ⟨u, hu⟩ : ∃ u, us[k]? = some u := ⟨_, List.getElem?_eq_getElem (by rw [HUS.out]; exact hk4)⟩
                        obtain ⟨gu, hue, hbu⟩ := HWE9.out k u hu
                        subst hue
                        have HB := Lib.hid hb
                        have hcu := HWX9.out k _ hu
                        have HUSL : Hid (us.length = 4) := HUS
                        have hk5 : k < us.length := by have := HUS.out; omega
                        have hk6 : (k : Int) < (us.length : Int) := by omega
                        clear hb hu
                        go_wp2_with fail
                        refine (dread_s d 4 k F9 _ _ _ hMx.dv hk4 R HR).mono ?_
                        rintro _ w10 ⟨g10, rfl, hG⟩
                        have hM10 := hMx.keep hG.sm
                        have hs10 := hsx.trans hG.sm
                        have hb10 := hG.bs
                        obtain ⟨e0, -⟩ := bools_cell (hs10.at_ hrow9.out (fun h => h)) HB.out
                        have hcu10 := hs10.cell' hcu (fun h => h)
                        clear hG hMx hsx hcu
                        cases b with
                        | true =>
                          go_wp2_with fail
                          go_roundw
                          case rel => exact ⟨k + 1, by go_num, by omega, hM10, hs10⟩
                          case measure => simp [intOf]; omega
                        | false =>
                          have hbu10 := hbu.same hs10
                          have hRR : R = blk s1 k := by rw [← HR.out]; exact HUN.out k hk4 HB.out
                          rw [← hRR] at hbu10
                          clear hRR
                          go_wp2_with fail
                          refine (alike_same _ _ R _ _ _ hb10 hbu10).mono ?_
                          rintro _ w11 ⟨rfl, hs11⟩
                          have hM11 := hM10.keep hs11
                          have hs12 := hs10.trans hs11
                          clear hM10 hs10 hs11
                          go_wp2_with fail
                          go_roundw
                          case rel => exact ⟨k + 1, by go_num, by omega, hM11, hs12⟩
                          case measure => simp [intOf]; omega
                      · have hk4' : (4 : Int) ≤ (k : Int) := by omega
                        go_wp2_with fail
                        refine (dwaiting_any d 4 F9 _ _ _ hMx.dv).mono ?_
                        rintro _ _ ⟨rfl, rfl⟩
                        go_wp2_with fail
                        go_ret
                        exact ⟨rfl, hs0.trans hMx.same⟩
      · have hlo' : (60 : Int) < (lost.length : Int) := by omega
        have HSM := Lib.hid hsm
        have HSM2 := Lib.hid hsm2
        clear hsm hsm2
        go_enter Try.func7, Try.ntmps7
        go_wp2_with fail
        refine (kept_any _).mono ?_
        rintro _ w0 ⟨rfl, hs0⟩
        have h10 := h1.same hs0
        have h20 := h2.same hs0
        go_wp2_with fail
        refine (small_is _ l _ _ h10 true HSM).mono ?_
        rintro _ _ ⟨rfl, rfl⟩
        go_wp2_with fail
        refine (small_is _ more _ _ h20 true HSM2).mono ?_
        rintro _ _ ⟨rfl, rfl⟩
        go_wp2_with fail
        refine (kept_any _).mono ?_
        rintro _ w1 ⟨rfl, hs1⟩
        go_wp2_with fail
        go_ret
        exact ⟨rfl, hs0.trans hs1⟩
    · have HSM := Lib.hid hsm
      have HSM2 : Hid (smallA more = false) := Lib.hid (by simpa using hsm2)
      clear hsm hsm2
      go_enter Try.func7, Try.ntmps7
      go_wp2_with fail
      refine (kept_any _).mono ?_
      rintro _ w0 ⟨rfl, hs0⟩
      have h10 := h1.same hs0
      have h20 := h2.same hs0
      go_wp2_with fail
      refine (small_is _ l _ _ h10 true HSM).mono ?_
      rintro _ _ ⟨rfl, rfl⟩
      go_wp2_with fail
      refine (small_is _ more _ _ h20 false HSM2).mono ?_
      rintro _ _ ⟨rfl, rfl⟩
      go_wp2_with fail
      refine (kept_any _).mono ?_
      rintro _ w1 ⟨rfl, hs1⟩
      go_wp2_with fail
      go_ret
      exact ⟨rfl, hs0.trans hs1⟩
  · have HSM : Hid (smallA l = false) := Lib.hid (by simpa using hsm)
    clear hsm
    go_enter Try.func7, Try.ntmps7
    go_wp2_with fail
    refine (kept_any _).mono ?_
    rintro _ w0 ⟨rfl, hs0⟩
    have h10 := h1.same hs0
    have h20 := h2.same hs0
    go_wp2_with fail
    refine (small_is _ l _ _ h10 false HSM).mono ?_
    rintro _ _ ⟨rfl, rfl⟩
    go_wp2_with fail
    refine (kept_any _).mono ?_
    rintro _ w1 ⟨rfl, hs1⟩
    go_wp2_with fail
    go_ret
    exact ⟨rfl, hs0.trans hs1⟩
end Go.Proofs.Ytnfmjbmcboiacaa
