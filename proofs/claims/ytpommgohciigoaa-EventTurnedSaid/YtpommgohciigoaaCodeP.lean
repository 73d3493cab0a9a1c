/- The walks of carrierref02's ReadNum, ReadInt, ReadText, End. -/
import Derived.Test.YtpommgohciigoaaCodeX
import Derived.BigRegion
namespace Go.Proofs.Ytpommgohciigoaa
open Go Go.RowKit Go.Proofs

/-- The document's reader, as a value. -/
abbrev rdr (v : Value) (e : Int) : Value := .agg #[v, .int .i64 e]

theorem dig_sum (acc x k sc : Nat) (hs : sc = 128 ^ k) (hb : acc + x % 128 * 128 ^ k < 18446744073709551616) :
    IntKind.u64.wrap ((acc : Int) + IntKind.u64.wrap ((x : Int) % 128 * (sc : Int))) = ((acc + x % 128 * 128 ^ k : Nat) : Int) := by
  subst hs
  have e : (x : Int) % 128 * ((128 ^ k : Nat) : Int) = ((x % 128 * 128 ^ k : Nat) : Int) := by
    rw [Int.natCast_mul]; congr 1
  rw [e]
  generalize x % 128 * 128 ^ k = y at *
  simp only [IntKind.wrap_u64]
  omega
theorem Bs.cut {w : World} {F : Nat → Prop} {b o cap k : Nat} {l : List UInt8} (h : Bs w F (.slice (some ⟨b, o, none⟩) l.length cap) l) (hk : k ≤ l.length) :
    Bs w F (.slice (some ⟨b, o + k, none⟩) (l.length - k) (cap - k)) (l.drop k) := by
  obtain ⟨A, c, hv, h1, h2, h3⟩ := h
  injection hv with e1 e2 e3
  subst e1; subst e3
  refine ⟨_, _, by rw [List.length_drop], by rw [List.length_drop]; omega, by omega, fun h0 => ?_⟩
  rw [List.length_drop] at h0
  obtain ⟨b', o', hA, hF, hx⟩ := h3 (by omega)
  injection hA with hA
  injection hA with hb ho
  subst hb; subst ho
  refine ⟨b, o + k, rfl, hF, fun i x hi => ?_⟩
  rw [List.getElem?_drop] at hi
  rw [Nat.add_assoc]
  exact hx _ x hi
theorem Bs.over {w : World} {F : Nat → Prop} {k c : Nat} {A : Option Addr} {l : List UInt8} (hk : l.length ≤ k) (hc : c ≤ maxLen) : Bs w F (.slice A (l.length - k) c) (l.drop k) :=
  ⟨A, c, by rw [List.length_drop], by rw [List.length_drop]; omega, hc, fun h0 => by rw [List.length_drop] at h0; omega⟩

theorem scale_up (k sc : Nat) (hs : sc = 128 ^ k) (hk : k ≤ 8) : IntKind.u64.wrap ((sc : Int) * 128) = ((128 ^ (k + 1) : Nat) : Int) := by
  have := pow128_le8 hk
  rw [Nat.pow_succ, ← hs]
  rw [← hs] at this
  simp only [IntKind.wrap_u64]
  omega

set_option maxHeartbeats 800000 in
set_option maxRecDepth 100000 in
theorem pnum_ok (v : Value) (F : Nat → Prop) (l : List UInt8) (w : World) (h : Bs w F v l) :
    Calls Try.prog 43 #[rdr v 0] w fun en w' => ∃ v', en = .returned (.tuple #[.int .u64 (rdNum 0 0 l).1, rdr v' (rdNum 0 0 l).2.2]) ∧ Bs w' F v' (rdNum 0 0 l).2.1 ∧ Same w w' := by
  obtain ⟨A, cap, hv, hlc, hcm, hcell⟩ := id h
  subst hv
  unfold maxLen at hcm
  go_enter Try.func43, Try.ntmps43
  go_wp2_with fail
  go_loop [4, 5, 6] (fun n s i => ∃ k acc sc : Nat, n = .int .u64 acc ∧ s = .int .u64 sc ∧ i = .int .i64 k ∧ NumAt l k acc ∧ sc = 128 ^ k) (fun _ _ i => (10 - (intOf i).toNat))
  case atStart => exact ⟨0, 0, 1, rfl, rfl, rfl, ⟨Nat.zero_le _, by omega, by simp, rfl⟩, rfl⟩
  case round =>
    obtain ⟨k, acc, sc, rfl, rfl, rfl, ⟨hk, hk9, hacc, hrd⟩, hsc⟩ := hrel
    have HR := Lib.hid hrd
    have HA := Lib.hid hacc
    have HS := Lib.hid hsc
    clear hrd hacc hsc
    by_cases hlt : k < l.length
    · obtain ⟨-, b, o, x, hA, -, hx, hcx⟩ := h.at_ hlt
      subst hA
      have hx256 := UInt8.toNat_lt x
      have hbl : b < w.heap.size := cell_lt hcx
      have HX := Lib.hid hx
      clear hx hcell
      by_cases h9 : k = 9
      · have hk9' : ((k : Int) == 9) = true := by simp; omega
        have hk9l : 9 ≤ k := by omega
        have hp := pow128_le hk9
        have hk0 : (0 : Int) < (k : Int) := by omega
        clear h9
        by_cases hbig : 1 < x.toNat
        · have hb1 : (1 : Int) < (x.toNat : Int) := by omega
          clear hp
          have HD : Hid (rdNum 0 0 l = (0, [], 2)) := by show _ = _; rw [← HR.out, drop_at HX.out, rdNum_bad (by omega)]
          go_wp2_with fail
          refine bodyPost_ret (v := .tuple #[.int .u64 0, rdr (.slice none 0 0) 2]) (by simp [results, Try.results43, go_sem]) rfl ?_
          rw [HD.out]
          exact ⟨_, rfl, Bs.nil_ _ _, (Chg.alloc_ _ _ _).alloc _⟩
        · have hb1 : (x.toNat : Int) ≤ 1 := by omega
          by_cases hz : x.toNat = 0
          · have hx0 : ((x.toNat : Int) == 0) = true := by simp; omega
            have hxz : x.toNat ≤ 0 := by omega
            clear hz hp
            have HD : Hid (rdNum 0 0 l = (0, [], 2)) := by show _ = _; rw [← HR.out, drop_at HX.out, rdNum_bad (by omega)]
            go_wp2_with fail
            refine bodyPost_ret (v := .tuple #[.int .u64 0, rdr (.slice none 0 0) 2]) (by simp [results, Try.results43, go_sem]) rfl ?_
            rw [HD.out]
            exact ⟨_, rfl, Bs.nil_ _ _, (Chg.alloc_ _ _ _).alloc _⟩
          · have hx0 : ((x.toNat : Int) == 0) = false := by simp; omega
            have hx1 : 1 ≤ x.toNat := by omega
            clear hz
            have hw1 : IntKind.i64.wrap ((k : Int) + 1) = (k : Int) + 1 := by rw [IntKind.wrap_i64]; omega
            have hw2 : (0 : Int) ≤ (k : Int) + 1 := by omega
            have hw3 : ((k : Int) + 1).toNat = k + 1 := by omega
            have hw4 : (k : Int) + 1 ≤ (l.length : Int) := by omega
            have HD : Hid (rdNum 0 0 l = (acc + x.toNat * 128 ^ k, l.drop (k + 1), 0)) := by show _ = _; rw [← HR.out, drop_at HX.out, rdNum_last (by omega) (by omega)]
            have E := dig_sum acc x.toNat k sc HS.out (by have := HA.out; have := Nat.mul_le_mul (show x.toNat % 128 ≤ 1 by omega) hp; omega)
            rw [Nat.mod_eq_of_lt (show x.toNat < 128 by omega)] at E
            have HE := Lib.hid E
            clear E hp
            by_cases hcap : cap = k + 1
            · subst hcap
              have HB : Hid (Bs w F (.slice (some ⟨b, o, none⟩) 0 0) (l.drop (k + 1))) := by
                have h0 : Bs w F (.slice (some ⟨b, o, none⟩) (l.length - (k + 1)) 0) (l.drop (k + 1)) := Bs.over (by omega) (Nat.zero_le _)
                rw [show l.length - (k + 1) = 0 by omega] at h0
                exact h0
              go_wp2_with fail
              all_goals
                go_region
                all_goals
                  go_wp2_with fail
                  refine bodyPost_ret (v := .tuple #[.int .u64 (IntKind.u64.wrap ((acc : Int) + IntKind.u64.wrap ((x.toNat : Int) % 128 * (sc : Int)))), rdr (.slice (some ⟨b, o, none⟩) 0 0) 0]) (by simp [results, Try.results43, go_sem]) rfl ?_
                  rw [HD.out, HE.out]
                  exact ⟨_, rfl, HB.out.same (((Chg.refl _ w).alloc _).alloc _).drew, (((Chg.refl _ w).alloc _).alloc _).drew⟩
            · have HB := Lib.hid (h.cut (k := k + 1) (by omega))
              go_wp2_with fail
              all_goals
                go_region
                all_goals
                  go_wp2_with fail
                  refine bodyPost_ret (v := .tuple #[.int .u64 (IntKind.u64.wrap ((acc : Int) + IntKind.u64.wrap ((x.toNat : Int) % 128 * (sc : Int)))), rdr (.slice (some ⟨b, o + (k + 1), none⟩) (l.length - (k + 1)) (cap - (k + 1))) 0]) (by simp [results, Try.results43, go_sem]) rfl ?_
                  rw [HD.out, HE.out]
                  exact ⟨_, rfl, HB.out.same (((Chg.refl _ w).alloc _).alloc _).drew, (((Chg.refl _ w).alloc _).alloc _).drew⟩
      · have hk9' : ((k : Int) == 9) = false := by simp; omega
        have hk8 : k ≤ 8 := by omega
        have hp := pow128_le8 hk8
        clear h9
        by_cases hb : x.toNat < 128
        · have hb' : (x.toNat : Int) < 128 := by omega
          by_cases hz : x.toNat = 0
          · have hx0 : ((x.toNat : Int) == 0) = true := by simp; omega
            have hxz : x.toNat ≤ 0 := by omega
            by_cases hk0 : k = 0
            · have hk0' : (k : Int) ≤ 0 := by omega
              have hkz : k ≤ 0 := by omega
              clear hz hk0
              have hw1 : IntKind.i64.wrap ((k : Int) + 1) = (k : Int) + 1 := by rw [IntKind.wrap_i64]; omega
              have hw2 : (0 : Int) ≤ (k : Int) + 1 := by omega
              have hw3 : ((k : Int) + 1).toNat = k + 1 := by omega
              have hw4 : (k : Int) + 1 ≤ (l.length : Int) := by omega
              have HD : Hid (rdNum 0 0 l = (acc + x.toNat * 128 ^ k, l.drop (k + 1), 0)) := by show _ = _; rw [← HR.out, drop_at HX.out, rdNum_last (by omega) (by omega)]
              have E := dig_sum acc x.toNat k sc HS.out (by have := HA.out; have := Nat.mul_le_mul (show x.toNat % 128 ≤ 127 by omega) hp; omega)
              rw [Nat.mod_eq_of_lt (show x.toNat < 128 by omega)] at E
              have HE := Lib.hid E
              clear E hp
              by_cases hcap : cap = k + 1
              · subst hcap
                have HB : Hid (Bs w F (.slice (some ⟨b, o, none⟩) 0 0) (l.drop (k + 1))) := by
                  have h0 : Bs w F (.slice (some ⟨b, o, none⟩) (l.length - (k + 1)) 0) (l.drop (k + 1)) := Bs.over (by omega) (Nat.zero_le _)
                  rw [show l.length - (k + 1) = 0 by omega] at h0
                  exact h0
                go_wp2_with fail
                all_goals
                  go_region
                  all_goals
                    go_wp2_with fail
                    refine bodyPost_ret (v := .tuple #[.int .u64 (IntKind.u64.wrap ((acc : Int) + IntKind.u64.wrap ((x.toNat : Int) % 128 * (sc : Int)))), rdr (.slice (some ⟨b, o, none⟩) 0 0) 0]) (by simp [results, Try.results43, go_sem]) rfl ?_
                    rw [HD.out, HE.out]
                    exact ⟨_, rfl, HB.out.same (((Chg.refl _ w).alloc _).alloc _).drew, (((Chg.refl _ w).alloc _).alloc _).drew⟩
              · have HB := Lib.hid (h.cut (k := k + 1) (by omega))
                go_wp2_with fail
                all_goals
                  go_region
                  all_goals
                    go_wp2_with fail
                    refine bodyPost_ret (v := .tuple #[.int .u64 (IntKind.u64.wrap ((acc : Int) + IntKind.u64.wrap ((x.toNat : Int) % 128 * (sc : Int)))), rdr (.slice (some ⟨b, o + (k + 1), none⟩) (l.length - (k + 1)) (cap - (k + 1))) 0]) (by simp [results, Try.results43, go_sem]) rfl ?_
                    rw [HD.out, HE.out]
                    exact ⟨_, rfl, HB.out.same (((Chg.refl _ w).alloc _).alloc _).drew, (((Chg.refl _ w).alloc _).alloc _).drew⟩
            · have hk0' : (0 : Int) < (k : Int) := by omega
              clear hz hk0 hp
              have HD : Hid (rdNum 0 0 l = (0, [], 2)) := by show _ = _; rw [← HR.out, drop_at HX.out, rdNum_bad (by omega)]
              go_wp2_with fail
              refine bodyPost_ret (v := .tuple #[.int .u64 0, rdr (.slice none 0 0) 2]) (by simp [results, Try.results43, go_sem]) rfl ?_
              rw [HD.out]
              exact ⟨_, rfl, Bs.nil_ _ _, (Chg.alloc_ _ _ _).alloc _⟩
          · have hx0 : ((x.toNat : Int) == 0) = false := by simp; omega
            have hx1 : 1 ≤ x.toNat := by omega
            clear hz
            have hw1 : IntKind.i64.wrap ((k : Int) + 1) = (k : Int) + 1 := by rw [IntKind.wrap_i64]; omega
            have hw2 : (0 : Int) ≤ (k : Int) + 1 := by omega
            have hw3 : ((k : Int) + 1).toNat = k + 1 := by omega
            have hw4 : (k : Int) + 1 ≤ (l.length : Int) := by omega
            have HD : Hid (rdNum 0 0 l = (acc + x.toNat * 128 ^ k, l.drop (k + 1), 0)) := by show _ = _; rw [← HR.out, drop_at HX.out, rdNum_last (by omega) (by omega)]
            have E := dig_sum acc x.toNat k sc HS.out (by have := HA.out; have := Nat.mul_le_mul (show x.toNat % 128 ≤ 127 by omega) hp; omega)
            rw [Nat.mod_eq_of_lt (show x.toNat < 128 by omega)] at E
            have HE := Lib.hid E
            clear E hp
            by_cases hcap : cap = k + 1
            · subst hcap
              have HB : Hid (Bs w F (.slice (some ⟨b, o, none⟩) 0 0) (l.drop (k + 1))) := by
                have h0 : Bs w F (.slice (some ⟨b, o, none⟩) (l.length - (k + 1)) 0) (l.drop (k + 1)) := Bs.over (by omega) (Nat.zero_le _)
                rw [show l.length - (k + 1) = 0 by omega] at h0
                exact h0
              go_wp2_with fail
              all_goals
                go_region
                all_goals
                  go_wp2_with fail
                  refine bodyPost_ret (v := .tuple #[.int .u64 (IntKind.u64.wrap ((acc : Int) + IntKind.u64.wrap ((x.toNat : Int) % 128 * (sc : Int)))), rdr (.slice (some ⟨b, o, none⟩) 0 0) 0]) (by simp [results, Try.results43, go_sem]) rfl ?_
                  rw [HD.out, HE.out]
                  exact ⟨_, rfl, HB.out.same (((Chg.refl _ w).alloc _).alloc _).drew, (((Chg.refl _ w).alloc _).alloc _).drew⟩
            · have HB := Lib.hid (h.cut (k := k + 1) (by omega))
              go_wp2_with fail
              all_goals
                go_region
                all_goals
                  go_wp2_with fail
                  refine bodyPost_ret (v := .tuple #[.int .u64 (IntKind.u64.wrap ((acc : Int) + IntKind.u64.wrap ((x.toNat : Int) % 128 * (sc : Int)))), rdr (.slice (some ⟨b, o + (k + 1), none⟩) (l.length - (k + 1)) (cap - (k + 1))) 0]) (by simp [results, Try.results43, go_sem]) rfl ?_
                  rw [HD.out, HE.out]
                  exact ⟨_, rfl, HB.out.same (((Chg.refl _ w).alloc _).alloc _).drew, (((Chg.refl _ w).alloc _).alloc _).drew⟩
        · have hb' : (128 : Int) ≤ (x.toNat : Int) := by omega
          have E := dig_sum acc x.toNat k sc HS.out (by have := HA.out; have := Nat.mul_le_mul (show x.toNat % 128 ≤ 127 by omega) hp; omega)
          have HE := Lib.hid E
          clear E hp
          go_wp2_with fail
          all_goals
            go_round
            case rel => exact ⟨k + 1, _, _, congrArg (Value.int .u64) HE.out, congrArg (Value.int .u64) (scale_up k sc HS.out hk8), rfl, NumAt.step HX.out (by omega) hk8 HA.out HR.out, rfl⟩
            case measure => simp [intOf]; omega
    · have HD : Hid (rdNum 0 0 l = (0, [], 3)) := by show _ = _; rw [← HR.out, List.drop_eq_nil_of_le (by omega)]; rfl
      go_wp2_with fail
      refine bodyPost_ret (v := .tuple #[.int .u64 0, rdr (.slice none 0 0) 3]) (by simp [results, Try.results43, go_sem]) rfl ?_
      rw [HD.out]
      exact ⟨_, rfl, Bs.nil_ _ _, (Chg.alloc_ _ _ _).alloc _⟩
end Go.Proofs.Ytpommgohciigoaa
