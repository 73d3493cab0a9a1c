/- The walk of carrierlaw03.BlockTorn: the last write alone is torn, and just if it isn't lost. -/
import Derived.Test.YtnfmjbmcboiacaaLDOwn
namespace Go.Proofs.Ytnfmjbmcboiacaa
open Go Go.RowKit Go.Proofs

theorem mk_own (w : World) (k : Nat) (h : k ≤ maxLen) : Own (w.alloc (.cells (bvs (List.replicate k 0)).toArray 5)) w.heap.size (.slice (some ⟨w.heap.size, 0, none⟩) k k) (List.replicate k 0) := by
  refine ⟨by rw [bvs_length, List.length_replicate, Nat.mul_one], .inr ⟨w.heap.size, k, (bvs (List.replicate k 0)).toArray, by rw [List.length_replicate], Nat.le_refl _, heap_alloc_new w _, by rw [List.length_replicate]; exact Nat.le_refl _, h, by simp, by simp; exact List.take_of_length_le (by simp)⟩⟩
theorem fill_set (b : UInt8) (j k : Nat) (h : j < k) : (List.replicate j b ++ List.replicate (k - j) 0).set j b = List.replicate (j + 1) b ++ List.replicate (k - (j + 1)) 0 := by
  have e : k - j = (k - (j + 1)) + 1 := by omega
  rw [e, List.replicate_succ, List.set_append_right _ _ (by simp)]
  simp [List.replicate_succ']

def firstL : List UInt8 := [102, 105, 114, 115, 116]
theorem torn_fine (s0 : List UInt8) (hs : s0.length = 64) (k : Nat) (b : UInt8) (hk : k ≤ 32) : Fine 2 s0 [⟨0, firstL⟩, ⟨1, List.replicate k b⟩] := ⟨by omega, by
  intro t ht
  simp at ht
  rcases ht with rfl | rfl
  · exact ⟨by decide, by decide⟩
  · simpa using hk⟩
/-- How many bytes of the last write are laid. -/
def tornTo (torn : Int) (lost : Bool) (k : Nat) : Nat := if lost then 0 else (min (max torn 0) (k : Int)).toNat
theorem torn_kept (torn : Int) (lost : Bool) (k : Nat) (b : UInt8) : kept [false, lost] torn 2 1 (List.replicate k b) = List.replicate (tornTo torn lost k) b := by
  unfold kept tornTo
  cases lost
  · simp [List.take_replicate]; omega
  · simp
theorem torn_left (torn : Int) (lost : Bool) (s0 : List UInt8) (k : Nat) (b : UInt8) : crash [false, lost] torn 2 0 s0 [⟨0, firstL⟩, ⟨1, List.replicate k b⟩] = lay (lay s0 0 firstL) 32 (List.replicate (tornTo torn lost k) b) := by
  show lay (lay s0 (32 * 0) (kept [false, lost] torn 2 0 firstL)) (32 * 1) (kept [false, lost] torn 2 1 (List.replicate k b)) = _
  rw [torn_kept]
  have e : kept [false, lost] torn 2 0 firstL = firstL := by unfold kept; simp
  rw [e]
theorem torn_a (torn : Int) (lost : Bool) (s0 : List UInt8) (hs : s0.length = 64) (k : Nat) (b : UInt8) (hk : k ≤ 32) : (now 0 (blk (crash [false, lost] torn 2 0 s0 [⟨0, firstL⟩, ⟨1, List.replicate k b⟩]) 0) []).take 5 = firstL := by
  have ht : tornTo torn lost k ≤ 32 := by unfold tornTo; split <;> omega
  rw [torn_left]
  show (blk _ 0).take 5 = _
  have h1 : (lay s0 0 firstL).length = 64 := by rw [lay_len (by rw [hs]; decide)]; exact hs
  apply List.ext_getElem?
  intro j
  rw [List.getElem?_take, blk_get, lay_get (by simp; omega), lay_get (by rw [hs]; decide)]
  have hl : firstL.length = 5 := rfl
  by_cases hj : j < 5
  · rw [if_pos hj, if_pos (by omega), if_pos (by omega), if_neg (by omega), if_pos (by omega)]; congr 1; omega
  · rw [if_neg hj, List.getElem?_eq_none (by omega)]
theorem torn_c (torn : Int) (lost : Bool) (s0 : List UInt8) (hs : s0 = List.replicate 64 0) (k : Nat) (b : UInt8) (hk : k ≤ 32) (i : Nat) (hi : i < 32) : (now 1 (blk (crash [false, lost] torn 2 0 s0 [⟨0, firstL⟩, ⟨1, List.replicate k b⟩]) 1) [])[i]? = some (if i < tornTo torn lost k then b else 0) := by
  have ht : tornTo torn lost k ≤ 32 := by unfold tornTo; split <;> omega
  have hs' : s0.length = 64 := by rw [hs]; simp
  have hl : firstL.length = 5 := rfl
  rw [torn_left]
  show (blk _ 1)[i]? = _
  have h1 : (lay s0 0 firstL).length = 64 := by rw [lay_len (by rw [hs', hl]; omega)]; exact hs'
  rw [blk_get, if_pos hi, lay_get (by simp; omega), if_neg (by omega)]
  simp only [List.length_replicate]
  by_cases h : i < tornTo torn lost k
  · rw [if_pos (by omega), if_pos h, List.getElem?_replicate, if_pos (by omega)]
  · rw [if_neg (by omega), if_neg h, lay_get (by rw [hs', hl]; omega), if_neg (by omega), if_neg (by omega), hs, List.getElem?_replicate, if_pos (by omega)]

/-- A loop that only looks: its counter. -/
def StayAt (w0 wr : World) (n : Nat) (i : Value) : Prop := ∃ q : Nat, i = .int .i64 q ∧ q ≤ n ∧ wr = w0
theorem StayAt.mk_ {w : World} {n q : Nat} {i : Value} (h : i = .int .i64 q) (hq : q ≤ n) : StayAt w w n i := ⟨q, h, hq, rfl⟩
/-- Where the loop that fills the bytes stands. -/
def FillAt (ws wr : World) (B : Nat) (v : Value) (b : UInt8) (j k : Nat) : Prop := Own wr B v (List.replicate j b ++ List.replicate (k - j) 0) ∧ Chg (fun g => v.ownBlock = some g) ws wr
theorem FillAt.step {ws wr : World} {B : Nat} {A : Option Addr} {c : Nat} {b : UInt8} {j k : Nat} (h : FillAt ws wr B (.slice A k c) b j k) (hj : j < k) :
    ∃ g x, A = some ⟨g, 0, none⟩ ∧ k ≤ c ∧ c ≤ 9223372036854775807 ∧ wr.cell? ⟨g, j, none⟩ = some (.int .u8 x) ∧ wr.frozen? ⟨g, j, none⟩ = false ∧ FillAt ws (wr.setCell ⟨g, j, none⟩ (.int .u8 (b.toNat : Int))) B (.slice A k c) b (j + 1) k := by
  obtain ⟨ho, hc⟩ := h
  have hlen : (List.replicate j b ++ List.replicate (k - j) 0).length = k := by simp; omega
  obtain ⟨g, c', hv, hg1, hg2, hlc, hcm, hcell, hfz⟩ := Own.cell_at ho (by omega)
  injection hv with e1 e2 e3
  subst e1; subst e3
  have hx := List.getElem?_eq_getElem (show j < (List.replicate j b ++ List.replicate (k - j) 0).length by omega)
  refine ⟨g, _, rfl, by omega, hcm, hcell j _ hx, hfz j, ?_, hc.setCell (p := ⟨g, j, none⟩) (fun _ => rfl) _⟩
  have := Own.stored ho j b
  rwa [fill_set b j k hj] at this

set_option maxHeartbeats 6400000 in
set_option maxRecDepth 100000 in
theorem blockTorn_walk (n torn : Int) (lost : Bool) (b : UInt8) (hn0 : 0 ≤ n) (_hn1 : n ≤ 255) (ht0 : -9223372036854775808 ≤ torn) (ht1 : torn ≤ 9223372036854775807) (w : World) :
    Calls Try.prog 3 #[.int .u8 n, .int .i64 torn, .bool lost, .int .u8 (b.toNat : Int)] w fun e w' => e = .returned (.bool true) ∧ Same w w' := by
  obtain ⟨k, hk⟩ : ∃ k : Nat, n.tmod 33 = (k : Int) := ⟨(n % 33).toNat, by rw [Int.tmod_eq_emod_of_nonneg hn0]; omega⟩
  have hk32 : k ≤ 32 := by rw [Int.tmod_eq_emod_of_nonneg hn0] at hk; omega
  have hk33 : (k : Int) ≤ 32 := by omega
  obtain ⟨s0, HS0⟩ : ∃ s0 : List UInt8, Hid (List.replicate (32 * 2) 0 = s0) := ⟨_, Lib.hid rfl⟩
  have HS1 : Hid (s0 = List.replicate 64 0) := Lib.hid HS0.out.symm
  have hs0l : s0.length = 64 := by rw [HS1.out]; simp
  obtain ⟨P, HP⟩ : ∃ P : List UInt8, Hid (List.replicate k b = P) := ⟨_, Lib.hid rfl⟩
  have hPl : P.length = k := by rw [← HP.out]; simp
  obtain ⟨ts, HTS⟩ : ∃ ts : List Wt, Hid ([⟨0, firstL⟩, ⟨1, P⟩] = ts) := ⟨_, Lib.hid rfl⟩
  have htl : ts.length = 2 := by rw [← HTS.out]; rfl
  obtain ⟨S, HS⟩ : ∃ S, Hid (crash [false, lost] torn ts.length 0 s0 ts = S) := ⟨_, Lib.hid rfl⟩
  obtain ⟨RA, HRA⟩ : ∃ R, Hid (now 0 (blk S 0) [] = R) := ⟨_, Lib.hid rfl⟩
  obtain ⟨RC, HRC⟩ : ∃ R, Hid (now 1 (blk S 1) [] = R) := ⟨_, Lib.hid rfl⟩
  have HA5 : Hid (RA.take 5 = firstL) := Lib.hid (by rw [← HRA.out, ← HS.out, htl, ← HTS.out, ← HP.out]; exact torn_a torn lost s0 hs0l k b hk32)
  have HC5 : Hid (∀ i, i < 32 → RC[i]? = some (if i < tornTo torn lost k then b else 0)) := Lib.hid (fun i hi => by rw [← HRC.out, ← HS.out, htl, ← HTS.out, ← HP.out]; exact torn_c torn lost s0 HS1.out k b hk32 i hi)
  obtain ⟨Z, HZ⟩ : ∃ Z : Array Value, Hid ((bvs (List.replicate k 0)).toArray = Z) := ⟨_, Lib.hid rfl⟩
  have hmk : ∀ w, (Instr.makeSlice 25 (.int .i64 (k : Int)) (.int .i64 (k : Int))).run Try.prog w = .ok (.slice (some ⟨w.heap.size, 0, none⟩) k k) (w.alloc (.cells Z 5)) := fun w => by rw [← HZ.out]; exact run_mkB k w (by omega)
  have kc := fun (w : World) (C : Array Value) (n c : Nat) => Lib.run_convert_bytes_const (P := Try.prog) w 25 5 C n c Try.underlying25 Try.underlying5
  have HPL := Lib.hid hPl
  have HTL := Lib.hid htl
  clear hs0l hPl htl
  go_enter Try.func3, Try.ntmps3
  go_wp2_with fail
  refine (kept_any _).mono ?_
  rintro _ w0 ⟨rfl, hs0⟩
  go_wp2_with fail
  refine (dnew_any 2 (by omega) (by omega) w0).mono ?_
  rintro _ w1 ⟨d, F, rfl, hv, hs1, ho⟩
  have hM := Made.of_new (m := 2) hv hs1 ho (by omega)
  rw [HS0.out] at hM
  have hs1sz := hs1.size
  clear hv hs1 ho
  have hown := mk_own w1 k (by unfold maxLen; omega)
  rw [HZ.out] at hown
  have hM2 := hM.keep (Chg.alloc_ (fun _ => False) w1 (.cells Z 5))
  have hFl : FillAt (w1.alloc (.cells Z 5)) (w1.alloc (.cells Z 5)) w1.heap.size (.slice (some ⟨w1.heap.size, 0, none⟩) k k) b 0 k := ⟨by simpa using hown, Chg.refl _ _⟩
  have hltF : ∀ k, F k → k < w1.heap.size := hM.dv.lt
  have HOW := Lib.hid hown
  clear hM hown
  go_upto_region 6 with fail
  generalize hw2 : w1.alloc (.cells Z 5) = w2 at *
  have hsz2 : w2.heap.size = w1.heap.size + 1 := by rw [← hw2]; simp
  have HSZ := Lib.hid hsz2
  clear hw2 hsz2
  generalize w1.heap.size = B at *
  go_wp2_with fail
  go_loopw [12] (fun i wr => ∃ j : Nat, i = .int .i64 j ∧ j ≤ k ∧ FillAt w2 wr B (.slice (some ⟨B, 0, none⟩) k k) b j k) (fun i _ => k - (intOf i).toNat)
  case atStart => exact ⟨0, rfl, Nat.zero_le _, hFl⟩
  case round =>
    obtain ⟨j, rfl, hj, hR⟩ := hrel
    by_cases hlt : j < k
    · obtain ⟨g, x, hA, hkc, hcm, hcx, hfx, hst⟩ := hR.step hlt
      injection hA with hA
      injection hA with hA
      subst hA
      have hlt' : (j : Int) < (k : Int) := by omega
      have HST := Lib.hid hst
      clear hst
      go_wp2_with fail
      go_roundw
      case rel => exact ⟨j + 1, by go_num, by omega, HST.out⟩
      case measure => simp [intOf]; omega
    · obtain rfl : j = k := by omega
      have hbp : Bs wr (fun g => g = B) (.slice (some ⟨B, 0, none⟩) j j) P := by
        have := Own.bs (F := fun g => g = B) hR.1 (fun g hg => by simp [Value.ownBlock] at hg; exact hg.symm)
        rw [Nat.sub_self, List.replicate_zero, List.append_nil, HP.out] at this
        exact this
      have hcR : Chg (fun g => g = B) w2 wr := hR.2.mono (fun g hg => by simp [Value.ownBlock] at hg; exact hg.symm)
      have hMr : Made w0 wr F d 2 s0 [] := ⟨hM2.dv.keep hcR (fun k hk e => by have := hltF k hk; omega), hM2.old, hM2.same.since hcR (fun k hk => by omega)⟩
      have hBr : B < wr.heap.size := by have := hcR.size; have := HSZ.out; omega
      clear hR hcR hM2 hFl
      go_wp2_with fail
      refine (dwrite_ok d 2 0 F _ _ firstL [] _ _ (hMr.keep (Chg.alloc_ _ _ _)).dv (by omega) (by decide) (bs_litm wr _ _ _ firstL 5 rfl (by unfold maxLen; omega) rfl) (by simp)).mono ?_
      rintro _ w3 ⟨rfl, hP⟩
      obtain ⟨F3, hD3, hc3, hn3⟩ := hP
      have hM3 : Made w0 w3 F3 d 2 s0 [⟨0, firstL⟩] := ⟨hD3, hn3.since hMr.old (by have := hMr.same.size; simp; omega), ((hMr.same).alloc _).since hc3 hMr.old⟩
      have hbp3 := (hbp.alloc _).keep hc3 (fun g hg hF => by have := hltF g hF; omega)
      clear hD3 hc3 hn3 hMr
      go_wp2_with fail
      refine (dwrite_ok d 2 1 F3 _ _ P _ _ _ hM3.dv (by omega) (by rw [HPL.out]; exact hk32) hbp3 (by simp)).mono ?_
      rintro _ w4 ⟨rfl, hP⟩
      obtain ⟨F4, hM4⟩ := hM3.step hP
      have hM4 : Made w0 w4 F4 d 2 s0 [⟨0, firstL⟩, ⟨1, P⟩] := hM4
      rw [HTS.out] at hM4
      have hlt4 := hM4.dv.lt
      clear hP hM3 hbp hbp3
      go_wp2_with fail
      refine (dcrash_ok d 2 torn ht0 ht1 F4 _ _ _ [false, lost] _ _ (hM4.keep (Chg.alloc_ _ _ _)).dv (bl_lit w4 _ _ [false, lost] 2 rfl (by unfold maxLen; omega) rfl) (fun k hk hF => by have := hlt4 k hF; omega)).mono ?_
      rintro _ w5 ⟨rfl, hP⟩
      rw [HS.out] at hP
      obtain ⟨F5, hM5⟩ := (hM4.keep (Chg.alloc_ _ _ _)).step hP
      clear hP hM4 hlt4
      go_wp2_with fail
      refine (dread_s d 2 0 F5 _ _ _ hM5.dv (by omega) RA HRA).mono ?_
      rintro _ w6 ⟨g6, rfl, hG6⟩
      have hM6 := hM5.keep hG6.sm
      have hb6 := hG6.bs.takeN (k := 5) (by rw [hG6.len]; omega)
      rw [HA5.out] at hb6
      clear hG6 hM5
      go_wp2_with fail
      refine (dread_s d 2 1 F5 _ _ _ hM6.dv (by omega) RC HRC).mono ?_
      rintro _ w7 ⟨g7, rfl, hG7⟩
      have hsm := hM6.same.trans hG7.sm
      have hb7 := hb6.same hG7.sm
      obtain ⟨g7', hv7, -, hrow, hl7, -⟩ := hG7
      injection hv7 with hv7
      injection hv7 with hv7
      injection hv7 with hv7 _
      subst hv7
      have hcv := run_toS w7 _ _ _ hb7
      have HROW := Lib.hid hrow
      clear hM6 hb6 hrow hl7
      by_cases ha : torn < 0
      · have hto : Hid (tornTo torn lost j = 0) := Lib.hid (by unfold tornTo; cases lost <;> simp <;> omega)
        go_wp2_with fail
        go_loopw [18] (fun i wq => StayAt w7 wq 32 i) (fun i _ => 32 - (intOf i).toNat)
        case atStart => exact StayAt.mk_ (q := 0) rfl (by omega)
        case round =>
          obtain ⟨q, rfl, hq, rfl⟩ := hrel
          by_cases hq32 : q < 32
          · have hc := HC5.out q hq32
            rw [hto.out] at hc
            have hq33 : (q : Int) < 32 := by omega
            rw [if_neg (Nat.not_lt_zero q)] at hc
            have hcell : wr.cell? ⟨g7, q, none⟩ = some (.int .u8 0) := by rw [cell_of_row wr g7 q _ _ _ HROW.out, List.getElem?_toArray, bvs_get, hc]; rfl
            have HC := Lib.hid hc
            clear hc
            have hqi : (0 : Int) ≤ (q : Int) := by omega
            go_wp2_with fail
            go_roundw
            case rel => first | exact StayAt.mk_ (q := q + 1) (by go_num) (by omega) | ((repeat apply Exists.intro); refine ⟨?_, rfl⟩; exact StayAt.mk_ (q := q + 1) (by go_num) (by omega))
            case measure => simp [intOf]; omega
          · have hq33 : (32 : Int) ≤ (q : Int) := by omega
            go_wp2_with fail
            go_ret
            exact ⟨rfl, hs0.trans hsm⟩
      · have ha2 : 0 ≤ torn := by omega
        cases lost with
        | true =>
          have hto : Hid (tornTo torn true j = 0) := Lib.hid (by unfold tornTo; simp)
          go_wp2_with fail
          go_loopw [18] (fun i wq => StayAt w7 wq 32 i) (fun i _ => 32 - (intOf i).toNat)
          case atStart => exact StayAt.mk_ (q := 0) rfl (by omega)
          case round =>
            obtain ⟨q, rfl, hq, rfl⟩ := hrel
            by_cases hq32 : q < 32
            · have hc := HC5.out q hq32
              rw [hto.out] at hc
              have hq33 : (q : Int) < 32 := by omega
              rw [if_neg (Nat.not_lt_zero q)] at hc
              have hcell : wr.cell? ⟨g7, q, none⟩ = some (.int .u8 0) := by rw [cell_of_row wr g7 q _ _ _ HROW.out, List.getElem?_toArray, bvs_get, hc]; rfl
              have HC := Lib.hid hc
              clear hc
              have hqi : (0 : Int) ≤ (q : Int) := by omega
              go_wp2_with fail
              go_roundw
              case rel => first | exact StayAt.mk_ (q := q + 1) (by go_num) (by omega) | ((repeat apply Exists.intro); refine ⟨?_, rfl⟩; exact StayAt.mk_ (q := q + 1) (by go_num) (by omega))
              case measure => simp [intOf]; omega
            · have hq33 : (32 : Int) ≤ (q : Int) := by omega
              go_wp2_with fail
              go_ret
              exact ⟨rfl, hs0.trans hsm⟩
        | false =>
          by_cases hb : torn ≤ (j : Int)
          · obtain ⟨z, hz⟩ : ∃ z : Nat, torn = (z : Int) := ⟨torn.toNat, by omega⟩
            subst hz
            have hzj : z ≤ j := by omega
            have hzn : ¬ ((z : Int) < 0) := by omega
            have hzd : decide ((z : Int) < 0) = false := by simp
            have hjz : decide (j < z) = false := by simp; omega
            have hto : Hid (tornTo (z : Int) false j = z) := Lib.hid (by unfold tornTo; simp; omega)
            go_wp2_with fail
            go_loopw [18] (fun i wq => StayAt w7 wq 32 i) (fun i _ => 32 - (intOf i).toNat)
            case atStart => exact StayAt.mk_ (q := 0) rfl (by omega)
            case round =>
              obtain ⟨q, rfl, hq, rfl⟩ := hrel
              by_cases hq32 : q < 32
              · have hc := HC5.out q hq32
                rw [hto.out] at hc
                have hq33 : (q : Int) < 32 := by omega
                by_cases hqt : q < z
                · rw [if_pos hqt] at hc
                  have hcell : wr.cell? ⟨g7, q, none⟩ = some (.int .u8 (b.toNat : Int)) := by rw [cell_of_row wr g7 q _ _ _ HROW.out, List.getElem?_toArray, bvs_get, hc]; rfl
                  have HC := Lib.hid hc
                  clear hc
                  have hqi : (q : Int) < (z : Int) := by omega
                  go_wp2_with fail
                  go_roundw
                  case rel => first | exact StayAt.mk_ (q := q + 1) (by go_num) (by omega) | ((repeat apply Exists.intro); refine ⟨?_, rfl⟩; exact StayAt.mk_ (q := q + 1) (by go_num) (by omega))
                  case measure => simp [intOf]; omega
                · rw [if_neg hqt] at hc
                  have hcell : wr.cell? ⟨g7, q, none⟩ = some (.int .u8 0) := by rw [cell_of_row wr g7 q _ _ _ HROW.out, List.getElem?_toArray, bvs_get, hc]; rfl
                  have HC := Lib.hid hc
                  clear hc
                  have hqi : (z : Int) ≤ (q : Int) := by omega
                  go_wp2_with fail
                  go_roundw
                  case rel => first | exact StayAt.mk_ (q := q + 1) (by go_num) (by omega) | ((repeat apply Exists.intro); refine ⟨?_, rfl⟩; exact StayAt.mk_ (q := q + 1) (by go_num) (by omega))
                  case measure => simp [intOf]; omega
              · have hq33 : (32 : Int) ≤ (q : Int) := by omega
                go_wp2_with fail
                go_ret
                exact ⟨rfl, hs0.trans hsm⟩
          · have hb2 : (j : Int) < torn := by omega
            have hto : Hid (tornTo torn false j = j) := Lib.hid (by unfold tornTo; simp; omega)
            go_wp2_with fail
            go_loopw [18] (fun i wq => StayAt w7 wq 32 i) (fun i _ => 32 - (intOf i).toNat)
            case atStart => exact StayAt.mk_ (q := 0) rfl (by omega)
            case round =>
              obtain ⟨q, rfl, hq, rfl⟩ := hrel
              by_cases hq32 : q < 32
              · have hc := HC5.out q hq32
                rw [hto.out] at hc
                have hq33 : (q : Int) < 32 := by omega
                by_cases hqt : q < j
                · rw [if_pos hqt] at hc
                  have hcell : wr.cell? ⟨g7, q, none⟩ = some (.int .u8 (b.toNat : Int)) := by rw [cell_of_row wr g7 q _ _ _ HROW.out, List.getElem?_toArray, bvs_get, hc]; rfl
                  have HC := Lib.hid hc
                  clear hc
                  have hqi : (q : Int) < (j : Int) := by omega
                  go_wp2_with fail
                  go_roundw
                  case rel => first | exact StayAt.mk_ (q := q + 1) (by go_num) (by omega) | ((repeat apply Exists.intro); refine ⟨?_, rfl⟩; exact StayAt.mk_ (q := q + 1) (by go_num) (by omega))
                  case measure => simp [intOf]; omega
                · rw [if_neg hqt] at hc
                  have hcell : wr.cell? ⟨g7, q, none⟩ = some (.int .u8 0) := by rw [cell_of_row wr g7 q _ _ _ HROW.out, List.getElem?_toArray, bvs_get, hc]; rfl
                  have HC := Lib.hid hc
                  clear hc
                  have hqi : (j : Int) ≤ (q : Int) := by omega
                  go_wp2_with fail
                  go_roundw
                  case rel => first | exact StayAt.mk_ (q := q + 1) (by go_num) (by omega) | ((repeat apply Exists.intro); refine ⟨?_, rfl⟩; exact StayAt.mk_ (q := q + 1) (by go_num) (by omega))
                  case measure => simp [intOf]; omega
              · have hq33 : (32 : Int) ≤ (q : Int) := by omega
                go_wp2_with fail
                go_ret
                exact ⟨rfl, hs0.trans hsm⟩
end Go.Proofs.Ytnfmjbmcboiacaa
