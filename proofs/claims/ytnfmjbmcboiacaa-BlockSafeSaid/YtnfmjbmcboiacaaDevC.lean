/- The walks of block.Device: Crash, Sync. -/
import Derived.Test.YtnfmjbmcboiacaaDevR
namespace Go.Proofs.Ytnfmjbmcboiacaa
open Go Go.RowKit Go.Proofs

/-- The slice value v reads as the list l of bools. -/
def Bl (w : World) (F : Nat → Prop) (v : Value) (l : List Bool) : Prop :=
  ∃ A cap, v = .slice A l.length cap ∧ l.length ≤ cap ∧ cap ≤ maxLen ∧
    (0 < l.length → ∃ b o, A = some ⟨b, o, none⟩ ∧ F b ∧ ∀ i x, l[i]? = some x → w.cell? ⟨b, o + i, none⟩ = some (.bool x))
theorem Bl.nil_ (w : World) (F : Nat → Prop) : Bl w F (.slice none 0 0) [] := ⟨none, 0, rfl, Nat.le_refl _, Nat.zero_le _, fun h => absurd h (by simp)⟩
theorem Bl.keep {S F : Nat → Prop} {w w' : World} {v : Value} {l : List Bool} (h : Bl w F v l) (hc : Chg S w w') (hd : ∀ k, F k → ¬ S k) : Bl w' F v l := by
  obtain ⟨A, cap, rfl, h1, h2, h3⟩ := h
  refine ⟨A, cap, rfl, h1, h2, fun h0 => ?_⟩
  obtain ⟨b, o, hA, hF, hx⟩ := h3 h0
  exact ⟨b, o, hA, hF, fun i x hi => hc.cell' (hx i x hi) (hd b hF)⟩
theorem Bl.mono {w : World} {F G : Nat → Prop} {v : Value} {l : List Bool} (h : Bl w F v l) (hF : ∀ k, F k → k < w.heap.size → G k) : Bl w G v l := by
  obtain ⟨A, cap, rfl, h1, h2, h3⟩ := h
  refine ⟨A, cap, rfl, h1, h2, fun h0 => ?_⟩
  obtain ⟨b, o, hA, hF', hx⟩ := h3 h0
  exact ⟨b, o, hA, hF b hF' (cell_lt (hx 0 l[0] (List.getElem?_eq_getElem h0))), hx⟩
theorem Bl.at_ {w : World} {F : Nat → Prop} {A : Option Addr} {n c : Nat} {l : List Bool} (h : Bl w F (.slice A n c) l) {k : Nat} {x : Bool} (hk : l[k]? = some x) :
    ∃ b o, A = some ⟨b, o, none⟩ ∧ F b ∧ w.cell? ⟨b, o + k, none⟩ = some (.bool x) := by
  obtain ⟨A1, c1, hv, h1, h2, h3⟩ := h
  injection hv with e1 e2 e3
  subst e1; subst e2; subst e3
  obtain ⟨b, o, hA, hF, hx⟩ := h3 (by have := (List.getElem?_eq_some_iff.1 hk).1; omega)
  exact ⟨b, o, hA, hF, hx k x hk⟩

/-- Where the loop of Crash stands. -/
structure CrashAt (w wr : World) (gs n : Nat) (lost : List Bool) (torn : Int) (m j : Nat) (res : List UInt8) (rest : List Wt) (sj : List UInt8) : Prop where
  safe : wr.heap[gs]? = some (.cells (bvs sj).toArray 66 (0, 0))
  len : sj.length = 32 * n
  chg : Chg (fun k => k = gs) w wr
  eq : crash lost torn m j sj rest = res
theorem crash_cons (lost : List Bool) (torn : Int) (m k : Nat) (s : List UInt8) (t : Wt) (ts : List Wt) : crash lost torn m k s (t :: ts) = crash lost torn m (k + 1) (lay s (32 * t.i) (kept lost torn m k t.p)) ts := rfl
/-- A round: the bytes p are what is kept of the write. -/
theorem CrashAt.step {w wr w2 : World} {gs n : Nat} {lost : List Bool} {torn : Int} {m j : Nat} {res : List UInt8} {ts : List Wt} {sj : List UInt8} {t : Wt} {p : List UInt8} (h : CrashAt w wr gs n lost torn m j res (ts.drop j) sj) (ht : ts[j]? = some t) (hti : t.i < n) (hpl : p.length ≤ 32)
    (hp : kept lost torn m j t.p = p) (hg : w2.heap[gs]? = some (.cells (bvs (lay sj (t.i * 32) p)).toArray 66 (0, 0))) (hc : Chg (fun k => k = gs) wr w2) : CrashAt w w2 gs n lost torn m (j + 1) res (ts.drop (j + 1)) (lay sj (t.i * 32) p) := by
  have hlt : j < ts.length := (List.getElem?_eq_some_iff.1 ht).1
  refine ⟨hg, ?_, h.chg.trans hc, ?_⟩
  · rw [lay_len (by rw [h.len]; omega)]; exact h.len
  · have e := h.eq
    rw [List.drop_eq_getElem_cons hlt, getElem_of ht, crash_cons, hp, show 32 * t.i = t.i * 32 by omega] at e
    exact e
/-- A round that lays nothing. -/
theorem CrashAt.skip {w wr w2 : World} {gs n : Nat} {lost : List Bool} {torn : Int} {m j : Nat} {res : List UInt8} {ts : List Wt} {sj : List UInt8} {t : Wt} (h : CrashAt w wr gs n lost torn m j res (ts.drop j) sj) (ht : ts[j]? = some t)
    (hp : kept lost torn m j t.p = []) (hc : Same wr w2) : CrashAt w w2 gs n lost torn m (j + 1) res (ts.drop (j + 1)) sj := by
  have hlt : j < ts.length := (List.getElem?_eq_some_iff.1 ht).1
  refine ⟨hc.at_ h.safe (fun h => h), h.len, h.chg.trans (hc.any _), ?_⟩
  have e := h.eq
  rw [List.drop_eq_getElem_cons hlt, getElem_of ht, crash_cons, hp, lay_nil] at e
  exact e
theorem DvV.crashed {w wr : World} {F : Nat → Prop} {d gs n : Nat} {vw : Value} {s : List UInt8} {ts : List Wt} {vs : List Value} {lost : List Bool} {torn : Int} {m j : Nat} {res sj : List UInt8} (h : DvV w F d gs vw n s ts vs) (hc : CrashAt w wr gs n lost torn m j res [] sj) :
    DvPost w (wr.setCell ⟨d, 1, none⟩ (.slice none 0 0)) F d n res [] := by
  have e : sj = res := hc.eq
  subst e
  have hF : Chg F w wr := hc.chg.mono (fun k hk => by subst hk; exact h.mine.2)
  refine ⟨F, ⟨gs, .slice none 0 0, [], two_set1 (hc.chg.at_ h.blk h.ne), ?_, ⟨hc.len, by simp⟩, h.few, World.ownsRow_nil _ _ _ _, rfl, by simp, h.mine, by simp [Value.ownBlock], h.ne, ?_⟩, hF.setCell (fun _ => h.mine.1) _, New.refl _ _ _⟩
  · rw [Below.heap_setCell _ _ _ _ h.ne.symm]; exact hc.safe
  · intro k hk
    have := h.lt k hk
    have := hc.chg.size
    simp; omega

theorem kept_lost {lost : List Bool} {torn : Int} {m k : Nat} {p : List UInt8} (h : lost[k]? = some true) : kept lost torn m k p = [] := by
  unfold kept; simp [h]
theorem getD_of_not {lost : List Bool} {k : Nat} (h : lost.getD k false = false) (torn : Int) (m : Nat) (p : List UInt8) : kept lost torn m k p = if k + 1 = m then p.take (min (max torn 0) p.length).toNat else p := by
  unfold kept; rw [h]; simp

set_option maxHeartbeats 3200000 in
set_option maxRecDepth 100000 in
theorem dcrash_ok (d n : Nat) (torn : Int) (ht0 : -9223372036854775808 ≤ torn) (ht1 : torn ≤ 9223372036854775807) (F G : Nat → Prop) (s : List UInt8) (ts : List Wt) (lost : List Bool) (vl : Value) (w : World) (h : Dv w F d n s ts) (hl : Bl w G vl lost) (hdj : Dj G F) :
    Calls Try.prog 13 #[.pointer (some ⟨d, 0, none⟩), vl, .int .i64 torn] w fun e w' => e = .returned (.tuple #[]) ∧ DvPost w w' F d n (crash lost torn ts.length 0 s ts) [] := by
  obtain ⟨gs, vw, vs, hD⟩ := h
  obtain ⟨c0, c1, f0, f1⟩ := two_cells hD.blk
  obtain ⟨A, cap, hv, hcap, hlen⟩ := hD.lens
  subst hv
  obtain ⟨AL, capL, hvL, hlL, hcL, -⟩ := id hl
  subst hvL
  have hmx : maxLen = 9223372036854775807 := by decide +kernel
  have hcL' : lost.length ≤ 9223372036854775807 := by omega
  have hdl := lt_of_block hD.blk
  have hn := hD.few
  obtain ⟨res, hres⟩ : ∃ res, crash lost torn ts.length 0 s ts = res := ⟨_, rfl⟩
  rw [hres]
  have HS := Lib.hid hres
  have HM := Lib.hid hmx
  clear hres hmx hcL
  go_enter Try.func13, Try.ntmps13
  go_wp2_with fail
  go_loopw [15] (fun i wr => ∃ j : Nat, i = .int .i64 j ∧ j ≤ ts.length ∧ ∃ sj, CrashAt w wr gs n lost torn ts.length j res (ts.drop j) sj) (fun i _ => ts.length - (intOf i).toNat)
  case atStart =>
    refine ⟨0, rfl, Nat.zero_le _, s, hD.safe, hD.fine.1, Chg.refl _ _, ?_⟩
    rw [List.drop_zero]; exact HS.out
  case round =>
    obtain ⟨j, rfl, hj, sj, hR⟩ := hrel
    have e0 := hR.chg.cell' c0 (fun e => hD.ne e)
    have e1 := hR.chg.cell' c1 (fun e => hD.ne e)
    have hdr : d < wr.heap.size := Nat.lt_of_lt_of_le hdl hR.chg.size
    by_cases hlt : j < ts.length
    · obtain ⟨t, ht⟩ : ∃ t, ts[j]? = some t := ⟨_, List.getElem?_eq_getElem hlt⟩
      obtain ⟨g, cap', v, hv, hgF, hvs, hc2, hc3, hbs⟩ := hD.write_at ht
      injection hv with hv1 hv2 hv3
      subst hv1; subst hv3
      have hgs : g ≠ gs := (hD.row g rfl).2.2
      have k2 := hR.chg.cell' hc2 hgs
      have k3 := hR.chg.cell' hc3 hgs
      obtain ⟨A3, cap3, hv3, hpc, hpm, -⟩ := id hbs
      subst hv3
      obtain ⟨hti, hpl⟩ := hD.fine.2 t (List.mem_of_getElem? ht)
      have hti' : (t.i : Int) < (n : Int) := by omega
      have hbs4 := Lib.hid (hbs.keep hR.chg (fun k hk => hk.2.2.1))
      have HT := Lib.hid ht
      have HM2 := Lib.hid hgs
      have hts1 : (1 : Int) ≤ (ts.length : Int) := by omega
      have hjl : (j : Int) < (ts.length : Int) := by omega
      have hpl' : (t.p.length : Int) ≤ 32 := by omega
      have hpc' : t.p.length ≤ cap3 := hpc
      have hcm3 : cap3 ≤ 9223372036854775807 := by have := HM.out; omega
      have hlb : Bl wr G (.slice AL lost.length capL) lost := hl.keep hR.chg (fun k hk e => hdj k hk (by subst e; exact hD.mine.2))
      clear ht hvs hv2 hc2 hc3 c0 c1 f0 f1 hgs hpm
      by_cases hlo : lost[j]? = some true
      · obtain ⟨bl, ol, hAL, -, kl⟩ := hlb.at_ hlo
        have hbl := cell_lt kl
        subst hAL
        have hjlo : j < lost.length := (List.getElem?_eq_some_iff.1 hlo).1
        have HL := Lib.hid hlo
        clear hlo
        go_wp2_with fail
        go_roundw
        case rel => exact ⟨j + 1, by go_num, by omega, sj, hR.skip HT.out (kept_lost HL.out) (Chg.alloc_ _ _ _)⟩
        case measure => simp [intOf]; omega
      · have hgd : lost.getD j false = false := by
          rw [List.getD_eq_getElem?_getD]
          cases hx : lost[j]? with
          | none => rfl
          | some x => cases x with
            | false => rfl
            | true => exact absurd hx hlo
        have HK := Lib.hid (getD_of_not hgd torn ts.length t.p)
        clear hgd
        by_cases hjb : j < lost.length
        · have hlo2 : lost[j]? = some false := by
            have := List.getElem?_eq_getElem hjb
            cases hx : lost[j] with
            | false => rw [this, hx]
            | true => rw [hx] at this; exact absurd this hlo
          obtain ⟨bl, ol, hAL, -, kl⟩ := hlb.at_ hlo2
          have hbl := cell_lt kl
          subst hAL
          clear hlo2
          by_cases hlast : j + 1 = ts.length
          · have hq : ((j : Int) == (ts.length : Int) - 1) = true := by simp; omega
            have HL := Lib.hid hlast
            clear hlast hlo
            by_cases hn0 : torn < 0
            · have hn0n : max torn 0 = 0 := by omega
              have hn0m : min 0 (t.p.length : Int) = 0 := by omega
              have HN0 := Lib.hid hn0n
              have HN1 := Lib.hid hn0m
              clear hn0n hn0m
              have HP : Hid (kept lost torn ts.length j t.p = t.p.take 0) := by
                show _ = _
                rw [HK.out]
                rw [if_pos HL.out, HN0.out, HN1.out]; rfl
              have hb5 : Hid (Bs (wr.alloc (.cells #[.int .i64 (t.i : Int), .slice A3 0 cap3] 64)) _ (.slice A3 0 cap3) (t.p.take 0)) := Lib.hid ((hbs4.out.takeN (k := 0) (Nat.zero_le _)).alloc _)
              have hl5 : (t.p.take 0).length ≤ 32 := by simp
              have hg5 := Lib.hid ((Chg.alloc_ (fun _ => False) wr (.cells #[.int .i64 (t.i : Int), .slice A3 0 cap3] 64)).at_ hR.safe (fun h => h))
              have hfit : t.i * 32 + (t.p.take 0).length ≤ sj.length := by rw [hR.len]; omega
              have hfit5 := Lib.hid hfit
              have hl6 := Lib.hid hl5
              clear hfit hl5
              go_wp2_with fail
              go_region_law ((refine step_copyB rfl _ _ _ _ rfl Try.underlying25 gs (t.i * 32) 32 32 rfl A3 0 cap3 rfl _ (t.p.take 0) hb5.out.drew hl6.out sj 66 hg5.out hfit5.out ?_; intro w2 hg2 hc2))
              all_goals
                go_wp2_with fail
                go_roundw
                case rel => exact ⟨j + 1, by go_num, by omega, _, hR.step HT.out hti hl6.out HP.out hg2.out ((((Chg.refl _ wr).alloc _).drew).trans hc2.out)⟩
                case measure => simp [intOf]; omega
            · have hn0p : 0 ≤ torn := by omega
              by_cases hn1 : torn ≤ (t.p.length : Int)
              · obtain ⟨q, hq0⟩ : ∃ q : Nat, torn = (q : Int) := ⟨torn.toNat, by omega⟩
                have hqp : q ≤ t.p.length := by omega
                have hq1 : (q : Int) ≤ (t.p.length : Int) := by omega
                have HQ := Lib.hid hq0
                subst hq0
                have HP : Hid (kept lost (q : Int) ts.length j t.p = t.p.take q) := by
                  show _ = _
                  rw [HK.out]
                  rw [if_pos HL.out, show (min (max (q : Int) 0) (t.p.length : Int)).toNat = q by omega]
                have hb5 : Hid (Bs (wr.alloc (.cells #[.int .i64 (t.i : Int), .slice A3 q cap3] 64)) _ (.slice A3 q cap3) (t.p.take q)) := Lib.hid ((hbs4.out.takeN (k := q) hqp).alloc _)
                have hl5 : (t.p.take q).length ≤ 32 := by rw [List.length_take]; omega
                have hg5 := Lib.hid ((Chg.alloc_ (fun _ => False) wr (.cells #[.int .i64 (t.i : Int), .slice A3 q cap3] 64)).at_ hR.safe (fun h => h))
                have hfit : t.i * 32 + (t.p.take q).length ≤ sj.length := by rw [hR.len]; omega
                have hfit5 := Lib.hid hfit
                have hl6 := Lib.hid hl5
                clear hfit hl5
                go_wp2_with fail
                go_region_law ((refine step_copyB rfl _ _ _ _ rfl Try.underlying25 gs (t.i * 32) 32 32 rfl A3 q cap3 rfl _ (t.p.take q) hb5.out.drew hl6.out sj 66 hg5.out hfit5.out ?_; intro w2 hg2 hc2))
                all_goals
                  go_wp2_with fail
                  go_roundw
                  case rel => exact ⟨j + 1, by go_num, by omega, _, hR.step HT.out hti hl6.out HP.out hg2.out ((((Chg.refl _ wr).alloc _).drew).trans hc2.out)⟩
                  case measure => simp [intOf]; omega
              · have hn2 : (t.p.length : Int) < torn := by omega
                have HP : Hid (kept lost torn ts.length j t.p = t.p) := by
                  show _ = _
                  rw [HK.out]
                  rw [if_pos HL.out, show (min (max torn 0) (t.p.length : Int)).toNat = t.p.length by omega, List.take_length]
                have hb5 : Hid (Bs (wr.alloc (.cells #[.int .i64 (t.i : Int), .slice A3 t.p.length cap3] 64)) _ (.slice A3 t.p.length cap3) (t.p)) := Lib.hid (hbs4.out.alloc _)
                have hl5 : (t.p).length ≤ 32 := hpl
                have hg5 := Lib.hid ((Chg.alloc_ (fun _ => False) wr (.cells #[.int .i64 (t.i : Int), .slice A3 t.p.length cap3] 64)).at_ hR.safe (fun h => h))
                have hfit : t.i * 32 + (t.p).length ≤ sj.length := by rw [hR.len]; omega
                have hfit5 := Lib.hid hfit
                have hl6 := Lib.hid hl5
                clear hfit hl5
                go_wp2_with fail
                go_region_law ((refine step_copyB rfl _ _ _ _ rfl Try.underlying25 gs (t.i * 32) 32 32 rfl A3 t.p.length cap3 rfl _ (t.p) hb5.out.drew hl6.out sj 66 hg5.out hfit5.out ?_; intro w2 hg2 hc2))
                all_goals
                  go_wp2_with fail
                  go_roundw
                  case rel => exact ⟨j + 1, by go_num, by omega, _, hR.step HT.out hti hl6.out HP.out hg2.out ((((Chg.refl _ wr).alloc _).drew).trans hc2.out)⟩
                  case measure => simp [intOf]; omega
          · have hq : ((j : Int) == (ts.length : Int) - 1) = false := by simp; omega
            have HL := Lib.hid hlast
            clear hlast hlo
            have HP : Hid (kept lost torn ts.length j t.p = t.p) := by
              show _ = _
              rw [HK.out]
              rw [if_neg HL.out]
            have hb5 : Hid (Bs (wr.alloc (.cells #[.int .i64 (t.i : Int), .slice A3 t.p.length cap3] 64)) _ (.slice A3 t.p.length cap3) (t.p)) := Lib.hid (hbs4.out.alloc _)
            have hl5 : (t.p).length ≤ 32 := hpl
            have hg5 := Lib.hid ((Chg.alloc_ (fun _ => False) wr (.cells #[.int .i64 (t.i : Int), .slice A3 t.p.length cap3] 64)).at_ hR.safe (fun h => h))
            have hfit : t.i * 32 + (t.p).length ≤ sj.length := by rw [hR.len]; omega
            have hfit5 := Lib.hid hfit
            have hl6 := Lib.hid hl5
            clear hfit hl5
            go_wp2_with fail
            go_region_law ((refine step_copyB rfl _ _ _ _ rfl Try.underlying25 gs (t.i * 32) 32 32 rfl A3 t.p.length cap3 rfl _ (t.p) hb5.out.drew hl6.out sj 66 hg5.out hfit5.out ?_; intro w2 hg2 hc2))
            all_goals
              go_wp2_with fail
              go_roundw
              case rel => exact ⟨j + 1, by go_num, by omega, _, hR.step HT.out hti hl6.out HP.out hg2.out ((((Chg.refl _ wr).alloc _).drew).trans hc2.out)⟩
              case measure => simp [intOf]; omega
        · have hjb' : (lost.length : Int) ≤ (j : Int) := by omega
          by_cases hlast : j + 1 = ts.length
          · have hq : ((j : Int) == (ts.length : Int) - 1) = true := by simp; omega
            have HL := Lib.hid hlast
            clear hlast hlo
            by_cases hn0 : torn < 0
            · have hn0n : max torn 0 = 0 := by omega
              have hn0m : min 0 (t.p.length : Int) = 0 := by omega
              have HN0 := Lib.hid hn0n
              have HN1 := Lib.hid hn0m
              clear hn0n hn0m
              have HP : Hid (kept lost torn ts.length j t.p = t.p.take 0) := by
                show _ = _
                rw [HK.out]
                rw [if_pos HL.out, HN0.out, HN1.out]; rfl
              have hb5 : Hid (Bs (wr.alloc (.cells #[.int .i64 (t.i : Int), .slice A3 0 cap3] 64)) _ (.slice A3 0 cap3) (t.p.take 0)) := Lib.hid ((hbs4.out.takeN (k := 0) (Nat.zero_le _)).alloc _)
              have hl5 : (t.p.take 0).length ≤ 32 := by simp
              have hg5 := Lib.hid ((Chg.alloc_ (fun _ => False) wr (.cells #[.int .i64 (t.i : Int), .slice A3 0 cap3] 64)).at_ hR.safe (fun h => h))
              have hfit : t.i * 32 + (t.p.take 0).length ≤ sj.length := by rw [hR.len]; omega
              have hfit5 := Lib.hid hfit
              have hl6 := Lib.hid hl5
              clear hfit hl5
              go_wp2_with fail
              go_region_law ((refine step_copyB rfl _ _ _ _ rfl Try.underlying25 gs (t.i * 32) 32 32 rfl A3 0 cap3 rfl _ (t.p.take 0) hb5.out.drew hl6.out sj 66 hg5.out hfit5.out ?_; intro w2 hg2 hc2))
              all_goals
                go_wp2_with fail
                go_roundw
                case rel => exact ⟨j + 1, by go_num, by omega, _, hR.step HT.out hti hl6.out HP.out hg2.out ((((Chg.refl _ wr).alloc _).drew).trans hc2.out)⟩
                case measure => simp [intOf]; omega
            · have hn0p : 0 ≤ torn := by omega
              by_cases hn1 : torn ≤ (t.p.length : Int)
              · obtain ⟨q, hq0⟩ : ∃ q : Nat, torn = (q : Int) := ⟨torn.toNat, by omega⟩
                have hqp : q ≤ t.p.length := by omega
                have hq1 : (q : Int) ≤ (t.p.length : Int) := by omega
                have HQ := Lib.hid hq0
                subst hq0
                have HP : Hid (kept lost (q : Int) ts.length j t.p = t.p.take q) := by
                  show _ = _
                  rw [HK.out]
                  rw [if_pos HL.out, show (min (max (q : Int) 0) (t.p.length : Int)).toNat = q by omega]
                have hb5 : Hid (Bs (wr.alloc (.cells #[.int .i64 (t.i : Int), .slice A3 q cap3] 64)) _ (.slice A3 q cap3) (t.p.take q)) := Lib.hid ((hbs4.out.takeN (k := q) hqp).alloc _)
                have hl5 : (t.p.take q).length ≤ 32 := by rw [List.length_take]; omega
                have hg5 := Lib.hid ((Chg.alloc_ (fun _ => False) wr (.cells #[.int .i64 (t.i : Int), .slice A3 q cap3] 64)).at_ hR.safe (fun h => h))
                have hfit : t.i * 32 + (t.p.take q).length ≤ sj.length := by rw [hR.len]; omega
                have hfit5 := Lib.hid hfit
                have hl6 := Lib.hid hl5
                clear hfit hl5
                go_wp2_with fail
                go_region_law ((refine step_copyB rfl _ _ _ _ rfl Try.underlying25 gs (t.i * 32) 32 32 rfl A3 q cap3 rfl _ (t.p.take q) hb5.out.drew hl6.out sj 66 hg5.out hfit5.out ?_; intro w2 hg2 hc2))
                all_goals
                  go_wp2_with fail
                  go_roundw
                  case rel => exact ⟨j + 1, by go_num, by omega, _, hR.step HT.out hti hl6.out HP.out hg2.out ((((Chg.refl _ wr).alloc _).drew).trans hc2.out)⟩
                  case measure => simp [intOf]; omega
              · have hn2 : (t.p.length : Int) < torn := by omega
                have HP : Hid (kept lost torn ts.length j t.p = t.p) := by
                  show _ = _
                  rw [HK.out]
                  rw [if_pos HL.out, show (min (max torn 0) (t.p.length : Int)).toNat = t.p.length by omega, List.take_length]
                have hb5 : Hid (Bs (wr.alloc (.cells #[.int .i64 (t.i : Int), .slice A3 t.p.length cap3] 64)) _ (.slice A3 t.p.length cap3) (t.p)) := Lib.hid (hbs4.out.alloc _)
                have hl5 : (t.p).length ≤ 32 := hpl
                have hg5 := Lib.hid ((Chg.alloc_ (fun _ => False) wr (.cells #[.int .i64 (t.i : Int), .slice A3 t.p.length cap3] 64)).at_ hR.safe (fun h => h))
                have hfit : t.i * 32 + (t.p).length ≤ sj.length := by rw [hR.len]; omega
                have hfit5 := Lib.hid hfit
                have hl6 := Lib.hid hl5
                clear hfit hl5
                go_wp2_with fail
                go_region_law ((refine step_copyB rfl _ _ _ _ rfl Try.underlying25 gs (t.i * 32) 32 32 rfl A3 t.p.length cap3 rfl _ (t.p) hb5.out.drew hl6.out sj 66 hg5.out hfit5.out ?_; intro w2 hg2 hc2))
                all_goals
                  go_wp2_with fail
                  go_roundw
                  case rel => exact ⟨j + 1, by go_num, by omega, _, hR.step HT.out hti hl6.out HP.out hg2.out ((((Chg.refl _ wr).alloc _).drew).trans hc2.out)⟩
                  case measure => simp [intOf]; omega
          · have hq : ((j : Int) == (ts.length : Int) - 1) = false := by simp; omega
            have HL := Lib.hid hlast
            clear hlast hlo
            have HP : Hid (kept lost torn ts.length j t.p = t.p) := by
              show _ = _
              rw [HK.out]
              rw [if_neg HL.out]
            have hb5 : Hid (Bs (wr.alloc (.cells #[.int .i64 (t.i : Int), .slice A3 t.p.length cap3] 64)) _ (.slice A3 t.p.length cap3) (t.p)) := Lib.hid (hbs4.out.alloc _)
            have hl5 : (t.p).length ≤ 32 := hpl
            have hg5 := Lib.hid ((Chg.alloc_ (fun _ => False) wr (.cells #[.int .i64 (t.i : Int), .slice A3 t.p.length cap3] 64)).at_ hR.safe (fun h => h))
            have hfit : t.i * 32 + (t.p).length ≤ sj.length := by rw [hR.len]; omega
            have hfit5 := Lib.hid hfit
            have hl6 := Lib.hid hl5
            clear hfit hl5
            go_wp2_with fail
            go_region_law ((refine step_copyB rfl _ _ _ _ rfl Try.underlying25 gs (t.i * 32) 32 32 rfl A3 t.p.length cap3 rfl _ (t.p) hb5.out.drew hl6.out sj 66 hg5.out hfit5.out ?_; intro w2 hg2 hc2))
            all_goals
              go_wp2_with fail
              go_roundw
              case rel => exact ⟨j + 1, by go_num, by omega, _, hR.step HT.out hti hl6.out HP.out hg2.out ((((Chg.refl _ wr).alloc _).drew).trans hc2.out)⟩
              case measure => simp [intOf]; omega
    · have hjl : ts.length ≤ j := by omega
      rw [List.drop_of_length_le hjl] at hR
      have hfr := (hR.chg.frozen (p := ⟨d, 1, none⟩) hdl hD.ne).trans f1
      have HR := Lib.hid hR
      clear hR
      go_wp2_with fail
      go_end0
      exact ⟨rfl, hD.crashed HR.out⟩

/-- Behind a sync. -/
def synced (s : List UInt8) (ts : List Wt) : List UInt8 := crash [] 32 ts.length 0 s ts
theorem dsync_ok (d n : Nat) (F : Nat → Prop) (s : List UInt8) (ts : List Wt) (w : World) (h : Dv w F d n s ts) :
    Calls Try.prog 16 #[.pointer (some ⟨d, 0, none⟩)] w fun e w' => e = .returned (.tuple #[]) ∧ DvPost w w' F d n (synced s ts) [] := by
  go_enter Try.func16, Try.ntmps16
  go_wp2_with fail
  refine (dcrash_ok d n 32 (by omega) (by omega) F (fun _ => False) s ts [] _ _ h (Bl.nil_ _ _) (fun _ h => h.elim)).mono ?_
  rintro _ w1 ⟨rfl, hP⟩
  go_wp2_with fail
  go_end0
  exact ⟨rfl, hP⟩
end Go.Proofs.Ytnfmjbmcboiacaa
