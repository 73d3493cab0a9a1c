/- The walk of code.Reader's Num. -/
import Derived.Test.YtpommgohciigoaaCodeR
namespace Go.Proofs.Ytpommgohciigoaa
open Go Go.RowKit Go.Proofs

/-- Where the loop of Num stands: k digits are read, and make acc. -/
def NumAt (l : List UInt8) (k acc : Nat) : Prop := k ≤ l.length ∧ k ≤ 9 ∧ acc < 128 ^ k ∧ rdNum k acc (l.drop k) = rdNum 0 0 l

theorem pow7 (k : Nat) : (2 : Nat) ^ (7 * k) = 128 ^ k := by rw [Nat.pow_mul]
theorem dig_bits (acc x k : Nat) (hacc : acc < 128 ^ k) (hx : x < 256) (hb : x % 128 * 128 ^ k < 18446744073709551616) (hac : acc < 18446744073709551616) :
    bits BinOp.or IntKind.u64 (acc : Int) (IntKind.u64.wrap (IntKind.u64.wrap (bits BinOp.and IntKind.u8 (x : Int) 127) * 2 ^ (7 * k))) = ((acc + x % 128 * 128 ^ k : Nat) : Int) := by
  have e1 : bits BinOp.and IntKind.u8 (x : Int) 127 = ((x % 128 : Nat) : Int) := by
    have := u8_and_nat x 127 hx (by omega)
    rw [nat_mask7] at this
    exact this
  have e2 : IntKind.u64.wrap ((x % 128 : Nat) : Int) = ((x % 128 : Nat) : Int) := by rw [IntKind.wrap_u64]; omega
  have e3 : ((x % 128 : Nat) : Int) * 2 ^ (7 * k) = ((x % 128 * 128 ^ k : Nat) : Int) := by
    rw [← pow7, Int.natCast_mul, Int.natCast_pow]; rfl
  have e4 : IntKind.u64.wrap ((x % 128 * 128 ^ k : Nat) : Int) = ((x % 128 * 128 ^ k : Nat) : Int) := by rw [IntKind.wrap_u64]; omega
  rw [e1, e2, e3, e4, u64_or_nat _ _ hac hb, Nat.or_comm, nat_join (7 * k) _ _ (by rw [pow7]; exact Nat.mul_mod_left _ _) (by rw [pow7]; exact hacc), Nat.add_comm]
theorem pow128_le {k : Nat} (h : k ≤ 9) : 128 ^ k ≤ 9223372036854775808 := Nat.le_trans (Nat.pow_le_pow_right (by omega) h) (by decide)
theorem pow128_le8 {k : Nat} (h : k ≤ 8) : 128 ^ k ≤ 72057594037927936 := Nat.le_trans (Nat.pow_le_pow_right (by omega) h) (by decide)

theorem drop_at {l : List UInt8} {k : Nat} {x : UInt8} (h : l[k]? = some x) : l.drop k = x :: l.drop (k + 1) := by
  obtain ⟨h1, h2⟩ := List.getElem?_eq_some_iff.1 h
  rw [List.drop_eq_getElem_cons h1, h2]
theorem rdNum_more {k acc : Nat} {x : UInt8} {r : List UInt8} (hb : 128 ≤ x.toNat) (hk : k ≤ 8) : rdNum k acc (x :: r) = rdNum (k + 1) (acc + x.toNat % 128 * 128 ^ k) r := by
  rw [rdNum, if_neg (by omega), if_neg (by omega)]
theorem rdNum_bad {k acc : Nat} {x : UInt8} {r : List UInt8} (h : (k = 9 ∧ 1 < x.toNat) ∨ (0 < k ∧ x.toNat = 0)) : rdNum k acc (x :: r) = (0, [], 2) := by rw [rdNum, if_pos h]
theorem rdNum_last {k acc : Nat} {x : UInt8} {r : List UInt8} (h : ¬ ((k = 9 ∧ 1 < x.toNat) ∨ (0 < k ∧ x.toNat = 0))) (hb : x.toNat < 128) : rdNum k acc (x :: r) = (acc + x.toNat * 128 ^ k, r, 0) := by
  rw [rdNum, if_neg h, if_pos hb]
/-- One digit more. -/
theorem NumAt.step {l : List UInt8} {k acc : Nat} {x : UInt8} (hx : l[k]? = some x) (hb : 128 ≤ x.toNat) (hk : k ≤ 8) (hacc : acc < 128 ^ k) (hr : rdNum k acc (l.drop k) = rdNum 0 0 l) :
    NumAt l (k + 1) (acc + x.toNat % 128 * 128 ^ k) := by
  have hl : k < l.length := (List.getElem?_eq_some_iff.1 hx).1
  refine ⟨by omega, by omega, ?_, by rw [← hr, drop_at hx, rdNum_more hb hk]⟩
  have h1 : x.toNat % 128 ≤ 127 := by omega
  have h2 := Nat.mul_le_mul_right (128 ^ k) h1
  rw [Nat.pow_succ]
  omega

/-- The bytes from the k-th on. -/
theorem RdV.cut {w : World} {F : Nat → Prop} {a b o cap k : Nat} {l : List UInt8} {e : Int} (h : RdV w F a (.slice (some ⟨b, o, none⟩) l.length cap) l e) (hk : k ≤ l.length) :
    RdPost w (w.setCell ⟨a, 0, none⟩ (.slice (some ⟨b, o + k, none⟩) (l.length - k) (cap - k))) F a (l.drop k) e := by
  refine h.set ?_
  obtain ⟨A, c, hv, h1, h2, h3⟩ := h.bs
  injection hv with e1 e2 e3
  subst e1; subst e3
  refine ⟨_, _, by rw [List.length_drop], by rw [List.length_drop]; omega, by omega, fun h0 => ?_⟩
  rw [List.length_drop] at h0
  obtain ⟨b', o', hA, hF, hx⟩ := h3 (by omega)
  injection hA with hA
  injection hA with hb ho
  subst hb; subst ho
  refine ⟨b, o + k, rfl, hF, fun i x hi => ?_⟩
  rw [List.getElem?_drop] at hi
  rw [Nat.add_assoc]
  exact hx _ x hi
theorem RdV.over {w : World} {F : Nat → Prop} {a k c : Nat} {v : Value} {A : Option Addr} {l : List UInt8} {e : Int} (h : RdV w F a v l e) (hk : l.length ≤ k) (hc : c ≤ maxLen) :
    RdPost w (w.setCell ⟨a, 0, none⟩ (.slice A (l.length - k) c)) F a (l.drop k) e :=
  h.set ⟨A, c, by rw [List.length_drop], by rw [List.length_drop]; omega, hc, fun h0 => by rw [List.length_drop] at h0; omega⟩

set_option maxHeartbeats 400000 in
set_option maxRecDepth 100000 in
theorem rnum_any_ok (a : Nat) (F : Nat → Prop) (l : List UInt8) (w : World) (h : Rd w F a l 0) :
    Calls Try.prog 39 #[.pointer (some ⟨a, 0, none⟩)] w fun en w' => en = .returned (.int .u64 (rdNum 0 0 l).1) ∧ RdPost w w' F a (rdNum 0 0 l).2.1 (rdNum 0 0 l).2.2 := by
  have h' := h
  obtain ⟨v, hR⟩ := h'
  obtain ⟨c0, c1, f0, f1⟩ := two_cells hR.blk
  obtain ⟨A, cap, hv, hlc, hcm, hcell⟩ := id hR.bs
  subst hv
  unfold maxLen at hcm
  go_enter Try.func39, Try.ntmps39
  go_wp2_with fail
  refine (rerr_any a F l 0 w h).mono ?_
  rintro _ _ ⟨rfl, rfl⟩
  go_wp2_with fail
  go_loop [3, 15] (fun n i => ∃ k acc : Nat, n = .int .u64 acc ∧ i = .int .i64 k ∧ NumAt l k acc) (fun _ i => (l.length - (intOf i).toNat))
  case atStart => exact ⟨0, 0, rfl, rfl, Nat.zero_le _, by omega, by simp, rfl⟩
  case round =>
    obtain ⟨k, acc, rfl, rfl, hk, hk9, hacc, hrd⟩ := hrel
    have HR := Lib.hid hrd
    have HA := Lib.hid hacc
    clear hrd hacc
    by_cases hlt : k < l.length
    · obtain ⟨-, b, o, x, hA, -, hx, hcx⟩ := hR.bs.at_ hlt
      subst hA
      have hx256 := UInt8.toNat_lt x
      have HX := Lib.hid hx
      clear hx hcell
      by_cases h9 : k = 9
      · have hk9' : ((k : Int) == 9) = true := by simp; omega
        have hk9l : 9 ≤ k := by omega
        have hp := pow128_le hk9
        clear h9
        by_cases hbig : 1 < x.toNat
        · have hb1 : (1 : Int) < (x.toNat : Int) := by omega
          clear hp
          have HD : Hid (rdNum 0 0 l = (0, [], 2)) := by show _ = _; rw [← HR.out, drop_at HX.out, rdNum_bad (by omega)]
          go_wp2_with fail
          refine (rfail_any a F l 0 2 w h).mono ?_
          rintro _ w1 ⟨rfl, R⟩
          go_wp2
          go_ret
          rw [HD.out]
          exact ⟨rfl, R⟩
        · have hb1 : (x.toNat : Int) ≤ 1 := by omega
          have hb2 : (x.toNat : Int) < 128 := by omega
          have hk0 : (0 : Int) < (k : Int) := by omega
          by_cases hz : x.toNat = 0
          · have hx0 : ((x.toNat : Int) == 0) = true := by simp; omega
            have hxz : x.toNat ≤ 0 := by omega
            clear hz hp
            have HD : Hid (rdNum 0 0 l = (0, [], 2)) := by show _ = _; rw [← HR.out, drop_at HX.out, rdNum_bad (by omega)]
            go_wp2_with fail
            refine (rfail_any a F l 0 2 w h).mono ?_
            rintro _ w1 ⟨rfl, R⟩
            go_wp2
            go_ret
            rw [HD.out]
            exact ⟨rfl, R⟩
          · have hx0 : ((x.toNat : Int) == 0) = false := by simp; omega
            have hx1 : 1 ≤ x.toNat := by omega
            clear hz
            have HD : Hid (rdNum 0 0 l = (acc + x.toNat * 128 ^ k, l.drop (k + 1), 0)) := by show _ = _; rw [← HR.out, drop_at HX.out, rdNum_last (by omega) (by omega)]
            have E := dig_bits acc x.toNat k HA.out hx256 (by have := Nat.mul_le_mul (show x.toNat % 128 ≤ 1 by omega) hp; omega) (by have := HA.out; omega)
            rw [Nat.mod_eq_of_lt (show x.toNat < 128 by omega)] at E
            have HE := Lib.hid E
            clear E hp
            go_wp2_with fail
            all_goals
              go_ret
              rw [HD.out]
              refine ⟨ret_int HE.out, ?_⟩
              first | exact hR.cut (by omega) | exact hR.over (by omega) (by unfold maxLen; omega)
      · have hk9' : ((k : Int) == 9) = false := by simp; omega
        have hk8 : k ≤ 8 := by omega
        have hp := pow128_le8 hk8
        clear h9
        by_cases hb : x.toNat < 128
        · have hb' : (x.toNat : Int) < 128 := by omega
          by_cases hz : x.toNat = 0
          · have hx0 : ((x.toNat : Int) == 0) = true := by simp; omega
            have hxz : x.toNat ≤ 0 := by omega
            by_cases hk0 : k = 0
            · have hk0' : (k : Int) ≤ 0 := by omega
              clear hz
              have hkz : k ≤ 0 := by omega
              clear hk0
              have HD : Hid (rdNum 0 0 l = (acc + x.toNat * 128 ^ k, l.drop (k + 1), 0)) := by show _ = _; rw [← HR.out, drop_at HX.out, rdNum_last (by omega) (by omega)]
              have E := dig_bits acc x.toNat k HA.out hx256 (by have := Nat.mul_le_mul (show x.toNat % 128 ≤ 127 by omega) hp; omega) (by have := HA.out; omega)
              rw [Nat.mod_eq_of_lt (show x.toNat < 128 by omega)] at E
              have HE := Lib.hid E
              clear E hp
              go_wp2_with fail
              all_goals
                go_ret
                rw [HD.out]
                refine ⟨ret_int HE.out, ?_⟩
                first | exact hR.cut (by omega) | exact hR.over (by omega) (by unfold maxLen; omega)
            · have hk0' : (0 : Int) < (k : Int) := by omega
              clear hz hk0 hp
              have HD : Hid (rdNum 0 0 l = (0, [], 2)) := by show _ = _; rw [← HR.out, drop_at HX.out, rdNum_bad (by omega)]
              go_wp2_with fail
              refine (rfail_any a F l 0 2 w h).mono ?_
              rintro _ w1 ⟨rfl, R⟩
              go_wp2
              go_ret
              rw [HD.out]
              exact ⟨rfl, R⟩
          · have hx0 : ((x.toNat : Int) == 0) = false := by simp; omega
            have hx1 : 1 ≤ x.toNat := by omega
            clear hz
            have HD : Hid (rdNum 0 0 l = (acc + x.toNat * 128 ^ k, l.drop (k + 1), 0)) := by show _ = _; rw [← HR.out, drop_at HX.out, rdNum_last (by omega) (by omega)]
            have E := dig_bits acc x.toNat k HA.out hx256 (by have := Nat.mul_le_mul (show x.toNat % 128 ≤ 127 by omega) hp; omega) (by have := HA.out; omega)
            rw [Nat.mod_eq_of_lt (show x.toNat < 128 by omega)] at E
            have HE := Lib.hid E
            clear E hp
            go_wp2_with fail
            all_goals
              go_ret
              rw [HD.out]
              refine ⟨ret_int HE.out, ?_⟩
              first | exact hR.cut (by omega) | exact hR.over (by omega) (by unfold maxLen; omega)
        · have hb' : (128 : Int) ≤ (x.toNat : Int) := by omega
          have E := dig_bits acc x.toNat k HA.out hx256 (by have := Nat.mul_le_mul (show x.toNat % 128 ≤ 127 by omega) hp; omega) (by have := HA.out; omega)
          have HE := Lib.hid E
          clear E hp
          go_wp2_with fail
          go_round
          case rel => exact ⟨k + 1, _, congrArg (Value.int .u64) HE.out, rfl, NumAt.step HX.out (by omega) hk8 HA.out HR.out⟩
          case measure => simp [intOf]; omega
    · have HD : Hid (rdNum 0 0 l = (0, [], 3)) := by show _ = _; rw [← HR.out, List.drop_eq_nil_of_le (by omega)]; rfl
      go_wp2_with fail
      refine (rfail_any a F l 0 3 w h).mono ?_
      rintro _ w1 ⟨rfl, R⟩
      go_wp2
      go_ret
      rw [HD.out]
      exact ⟨rfl, R⟩
end Go.Proofs.Ytpommgohciigoaa
