/- api.Event as a value, and the walks of the functions that only look at one. -/
import Derived.Test.YtpommgohciigoaaCodeM
import Derived.Deep.RegionHeld3
import Derived.StillTailTactics
namespace Go.Proofs.Ytpommgohciigoaa
open Go Go.RowKit Go.Proofs

/-- An event's value. -/
def evv (id tx : Int) (owner : ByteArray) (tries table kind key : Int) (text : ByteArray) : Value :=
  .agg #[.int .i64 id, .int .i64 tx, .string owner, .int .i64 tries, .int .i64 table, .int .u8 kind, .int .i64 key, .string text]
/-- May it be? -/
def EvOk (id tx : Int) (os : Nat) (tries table kind : Int) (ts : Nat) : Prop :=
  1 ≤ id ∧ 1 ≤ tx ∧ os ≤ 40 ∧ ts ≤ 40 ∧ 0 ≤ tries ∧ tries ≤ 2147483647 ∧ 0 ≤ table ∧ table ≤ 3 ∧ 1 ≤ kind ∧ kind ≤ 4
instance (id tx : Int) (os : Nat) (tries table kind : Int) (ts : Nat) : Decidable (EvOk id tx os tries table kind ts) := by unfold EvOk; infer_instance

/-- Whose is it? -/
def dueB (o s : ByteArray) : Bool := o.toList.isEmpty || o.toList == s.toList
theorem size_zero_iff (o : ByteArray) : ((o.size : Int) == 0) = o.toList.isEmpty := by
  rw [Bool.eq_iff_iff, ByteArray.toList_eq]
  have := size_toList o
  simp only [beq_iff_eq, List.isEmpty_iff]
  constructor
  · intro h; exact List.eq_nil_of_length_eq_zero (by omega)
  · intro h; rw [h] at this; simp at this; omega

set_option maxHeartbeats 800000 in
theorem edue_any (id tx : Int) (o : ByteArray) (tries table kind key : Int) (t s : ByteArray) (w : World) :
    Calls Try.prog 20 #[evv id tx o tries table kind key t, .string s] w fun en w' => en = .returned (.bool (dueB o s)) ∧ Same w w' := by
  unfold evv
  go_enter Try.func20, Try.ntmps20
  go_wp2_with fail
  all_goals (go_ret; refine ⟨ret_bool ?_, by first | exact Chg.alloc_ _ _ _ | exact (Chg.alloc_ _ _ _).drew⟩; first | (simp [dueB, *]; done) | rfl)
set_option maxHeartbeats 800000 in
theorem pdue_any (id tx : Int) (o : ByteArray) (tries table kind key : Int) (t s : ByteArray) (w : World) :
    Calls Try.prog 21 #[evv id tx o tries table kind key t, .string s] w fun en w' => en = .returned (.bool (dueB o s)) ∧ Same w w' := by
  unfold evv
  go_enter Try.func21, Try.ntmps21
  go_wp2_with fail
  all_goals (go_ret; refine ⟨ret_bool ?_, by first | exact Chg.alloc_ _ _ _ | exact (Chg.alloc_ _ _ _).drew⟩; first | (simp [dueB, *, ByteArray.toList_eq]; done) | (rw [size_zero_iff]; rfl))

set_option maxHeartbeats 1600000 in
theorem eright_any (id tx : Int) (o : ByteArray) (tries table kind key : Int) (t : ByteArray) (w : World) :
    Calls Try.prog 13 #[evv id tx o tries table kind key t] w fun en w' => en = .returned (.bool (decide (EvOk id tx o.size tries table kind t.size))) ∧ Same w w' := by
  unfold evv
  go_enter Try.func13, Try.ntmps13
  go_wp2_with fail
  all_goals (go_ret; refine ⟨ret_bool ?_, by first | exact Chg.alloc_ _ _ _ | exact (Chg.alloc_ _ _ _).drew⟩; (rw [Bool.eq_iff_iff]; simp only [decide_eq_true_iff]; unfold EvOk; (try simp); omega))
set_option maxHeartbeats 1600000 in
theorem pright_any (id tx : Int) (o : ByteArray) (tries table kind key : Int) (t : ByteArray) (w : World) :
    Calls Try.prog 18 #[evv id tx o tries table kind key t] w fun en w' => en = .returned (.bool (decide (EvOk id tx o.size tries table kind t.size))) ∧ Same w w' := by
  unfold evv
  go_enter Try.func18, Try.ntmps18
  go_wp2_with fail
  all_goals (go_ret; refine ⟨ret_bool ?_, by first | exact Chg.alloc_ _ _ _ | exact (Chg.alloc_ _ _ _).drew⟩; (rw [Bool.eq_iff_iff]; simp only [decide_eq_true_iff]; unfold EvOk; (try simp); omega))

/-- So much of a text as may be. -/
def cutB (t : ByteArray) (n : Nat) : ByteArray := if t.size ≤ n then t else t.extract 0 n
theorem cut_any (t : ByteArray) (w : World) :
    Calls Try.prog 22 #[.string t, .int .i64 40] w fun en w' => en = .returned (.string (cutB t 40)) ∧ w = w' := by
  by_cases hs : t.size ≤ 40
  · have hs' : (t.size : Int) ≤ 40 := by omega
    have HC : Hid (cutB t 40 = t) := by show _ = _; unfold cutB; rw [if_pos hs]
    clear hs
    go_enter Try.func22, Try.ntmps22
    go_wp2_with fail
    go_ret
    rw [HC.out]
    exact ⟨rfl, rfl⟩
  · have hs' : (40 : Int) < (t.size : Int) := by omega
    have HC : Hid (cutB t 40 = t.extract 0 40) := by show _ = _; unfold cutB; rw [if_neg hs]
    go_enter Try.func22, Try.ntmps22
    go_wp2_with fail
    go_ret
    rw [HC.out]
    exact ⟨rfl, rfl⟩

theorem i64_and_mask (a k : Int) (hk : 0 ≤ k) (hm : k < 9223372036854775808) : 0 ≤ bits BinOp.and IntKind.i64 a k ∧ bits BinOp.and IntKind.i64 a k ≤ k := by
  obtain ⟨m, rfl⟩ := Int.eq_ofNat_of_zero_le hk
  have e : bits BinOp.and IntKind.i64 a (m : Int) = IntKind.i64.wrap ((BitVec.ofInt 64 a &&& BitVec.ofInt 64 (m : Int)).toNat : Int) := rfl
  rw [e, BitVec.toNat_and, ofInt_u64 m (by omega), IntKind.wrap_i64]
  have h : (BitVec.ofInt 64 a).toNat &&& m ≤ m := Nat.and_le_right
  omega

theorem wp_still_tail {P : Program} {id : Nat} {Q : Exit → Act → World → Prop} {a : Act} {w : World} {l : List Oper} (n : Nat) (hm : P.follows .mixedOrders = true) (hB : Region.lexTailB .any l.toArray n = true)
    (h : wpStill P l.toArray w.drew (fun a' => wpList P l.toArray Q (l.drop n) a' w.drew) (l.take n) a) : (Code.region id l.toArray true).wp P Q a w := wp_region_still_tail n hm hB h
theorem cut_still (t : ByteArray) (w : World) :
    Calls Try.prog 22 #[.string t, .int .i64 40] w fun en w' => en = .returned (.string (cutB t 40)) ∧ w' = w :=
  (cut_any t w).mono fun _ _ h => ⟨h.1, h.2.symm⟩

/-- What Of answers: an event that may be. -/
def OfPost (o : ByteArray) (key : Int) (t : ByteArray) (w : World) (en : Ending) (w' : World) : Prop :=
  ∃ id tx tries table kind : Int, en = .returned (evv id tx (cutB o 40) tries table kind key (cutB t 40)) ∧ EvOk id tx (cutB o 40).size tries table kind (cutB t 40).size ∧ id ≤ 9223372036854775807 ∧ tx ≤ 9223372036854775807 ∧ Same w w'

theorem cutB_size (t : ByteArray) (n : Nat) : (cutB t n).size ≤ n := by
  unfold cutB
  split
  · assumption
  · simp [ByteArray.size_extract]; omega

set_option maxHeartbeats 1600000 in
theorem of_any (id tx : Int) (o : ByteArray) (tries table kind key : Int) (t : ByteArray) (w : World) (h1 : id ≤ 9223372036854775807) (h2 : tx ≤ 9223372036854775807) (h3 : 0 ≤ table) (_h4 : table ≤ 255) (h5 : 0 ≤ kind) (_h6 : kind ≤ 255) :
    Calls Try.prog 10 #[.int .i64 id, .int .i64 tx, .string o, .int .i64 tries, .int .u8 table, .int .u8 kind, .agg #[.int .i64 key, .string t]] w (OfPost o key t w) := by
  have hid := i64_and_mask id 1023 (by omega) (by omega)
  have htx := i64_and_mask tx 15 (by omega) (by omega)
  have htr := i64_and_mask tries 2147483647 (by omega) (by omega)
  have ht4 : table.tmod 4 = table % 4 := Int.tmod_eq_emod_of_nonneg h3
  have hk4 : kind.tmod 4 = kind % 4 := Int.tmod_eq_emod_of_nonneg h5
  have hC1 := Lib.hid (fun W => cut_still o W)
  have hC2 := Lib.hid (fun W => cut_still t W)
  go_enter Try.func10, Try.ntmps10
  go_upto_if 16 with (fail)
  go_cut [0] (fun v wc => ∃ id1 : Int, v = .int .i64 id1 ∧ 1 ≤ id1 ∧ id1 ≤ 9223372036854775807 ∧ wc = (w.alloc (.cells #[.int .i64 key, .string t] 23)).alloc (.cells #[.int .i64 0, .int .i64 0, .string ⟨#[]⟩, .int .i64 0, .int .i64 0, .int .u8 0, .int .i64 0, .string ⟨#[]⟩] 26))
  case first =>
    go_wp2_with fail
    all_goals
      go_meet
      case rel => first | exact ⟨_, rfl, by omega, by omega, rfl⟩ | exact ⟨_, rfl, by unfold wrap64; omega, by unfold wrap64; omega, rfl⟩
  case rest =>
    obtain ⟨id1, rfl, hi1, hi2, rfl⟩ := hcut
    go_upto_if 21 with (fail)
    go_cut [1] (fun v wc => ∃ tx1 : Int, v = .int .i64 tx1 ∧ 1 ≤ tx1 ∧ tx1 ≤ 9223372036854775807 ∧ wc = (w.alloc (.cells #[.int .i64 key, .string t] 23)).alloc (.cells #[.int .i64 0, .int .i64 0, .string ⟨#[]⟩, .int .i64 0, .int .i64 0, .int .u8 0, .int .i64 0, .string ⟨#[]⟩] 26))
    case first =>
      go_wp2_with fail
      all_goals
        go_meet
        case rel => first | exact ⟨_, rfl, by omega, by omega, rfl⟩ | exact ⟨_, rfl, by unfold wrap64; omega, by unfold wrap64; omega, rfl⟩
    case rest =>
      obtain ⟨tx1, rfl, hj1, hj2, rfl⟩ := hcut
      go_upto_region 5 with fail
      refine wp_still_tail 19 (by kernel_rfl) (by kernel_rfl) ?_
      simp only [List.take_succ_cons, List.take_zero, List.drop_succ_cons, List.drop_zero]
      iterate 3 still_step
      still_call (hC1.out _)
      iterate 12 still_step
      still_call (hC2.out _)
      iterate 2 still_step
      refine wpStill_nil ?_
      go_wp2_with fail
      refine bodyPost_ret (v := evv id1 tx1 (cutB o 40) (bits BinOp.and IntKind.i64 tries 2147483647) (table % 4) (1 + kind % 4) key (cutB t 40)) (by simp [results, Try.results10, go_sem, evv]) rfl ?_
      exact ⟨_, _, _, _, _, rfl, ⟨hi1, hj1, cutB_size o 40, cutB_size t 40, htr.1, htr.2, by omega, by omega, by omega, by omega⟩, hi2, hj2, (((Chg.refl _ w).alloc _).alloc _).drew⟩
end Go.Proofs.Ytpommgohciigoaa
