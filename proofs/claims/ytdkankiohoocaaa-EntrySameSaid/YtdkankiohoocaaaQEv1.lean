/- api.Event as a value, and the walks of the functions that only look at one. -/
import Derived.Test.YtdkankiohoocaaaQCode3
import Derived.Deep.RegionHeld3
import Derived.StillTailTactics
namespace Go.Proofs.Ytdkankiohoocaaa
set_option linter.unusedSimpArgs false
set_option linter.unusedVariables false
open Go Go.RowKit Go.Proofs

/-- An event's value. -/
def evv (id tx : Int) (owner : ByteArray) (tries table kind key : Int) (text : ByteArray) : Value :=
  .agg #[.int .i64 id, .int .i64 tx, .string owner, .int .i64 tries, .int .i64 table, .int .u8 kind, .int .i64 key, .string text]
/-- May it be? -/
def EvOk (id tx : Int) (os : Nat) (tries table kind : Int) (ts : Nat) : Prop :=
  1 ≤ id ∧ 1 ≤ tx ∧ os ≤ 40 ∧ ts ≤ 40 ∧ 0 ≤ tries ∧ tries ≤ 2147483647 ∧ 0 ≤ table ∧ table ≤ 3 ∧ 1 ≤ kind ∧ kind ≤ 4
instance (id tx : Int) (os : Nat) (tries table kind : Int) (ts : Nat) : Decidable (EvOk id tx os tries table kind ts) := by unfold EvOk; infer_instance

/-- Whose is it? -/
def dueB (o s : ByteArray) : Bool := o.toList.isEmpty || o.toList == s.toList
theorem size_zero_iff (o : ByteArray) : ((o.size : Int) == 0) = o.toList.isEmpty := by
  rw [Bool.eq_iff_iff, ByteArray.toList_eq]
  have := size_toList o
  simp only [beq_iff_eq, List.isEmpty_iff]
  constructor
  · intro h; exact List.eq_nil_of_length_eq_zero (by omega)
  · intro h; rw [h] at this; simp at this; omega



/-- So much of a text as may be. -/
def cutB (t : ByteArray) (n : Nat) : ByteArray := if t.size ≤ n then t else t.extract 0 n
theorem cut_any (t : ByteArray) (w : World) :
    Calls Try.prog 23 #[.string t, .int .i64 40] w fun en w' => en = .returned (.string (cutB t 40)) ∧ w = w' := by
  by_cases hs : t.size ≤ 40
  · have hs' : (t.size : Int) ≤ 40 := by omega
    have HC : Hid (cutB t 40 = t) := by show _ = _; unfold cutB; rw [if_pos hs]
    clear hs
    go_enter Try.func23, Try.ntmps23
    go_wp2_with fail
    go_ret
    rw [HC.out]
    exact ⟨rfl, rfl⟩
  · have hs' : (40 : Int) < (t.size : Int) := by omega
    have HC : Hid (cutB t 40 = t.extract 0 40) := by show _ = _; unfold cutB; rw [if_neg hs]
    go_enter Try.func23, Try.ntmps23
    go_wp2_with fail
    go_ret
    rw [HC.out]
    exact ⟨rfl, rfl⟩

theorem i64_and_mask (a k : Int) (hk : 0 ≤ k) (hm : k < 9223372036854775808) : 0 ≤ bits BinOp.and IntKind.i64 a k ∧ bits BinOp.and IntKind.i64 a k ≤ k := by
  obtain ⟨m, rfl⟩ := Int.eq_ofNat_of_zero_le hk
  have e : bits BinOp.and IntKind.i64 a (m : Int) = IntKind.i64.wrap ((BitVec.ofInt 64 a &&& BitVec.ofInt 64 (m : Int)).toNat : Int) := rfl
  rw [e, BitVec.toNat_and, ofInt_u64 m (by omega), IntKind.wrap_i64]
  have h : (BitVec.ofInt 64 a).toNat &&& m ≤ m := Nat.and_le_right
  omega

theorem wp_still_tail {P : Program} {id : Nat} {Q : Exit → Act → World → Prop} {a : Act} {w : World} {l : List Oper} (n : Nat) (hm : P.follows .mixedOrders = true) (hB : Region.lexTailB .any l.toArray n = true)
    (h : wpStill P l.toArray w.drew (fun a' => wpList P l.toArray Q (l.drop n) a' w.drew) (l.take n) a) : (Code.region id l.toArray true).wp P Q a w := wp_region_still_tail n hm hB h
theorem cut_still (t : ByteArray) (w : World) :
    Calls Try.prog 23 #[.string t, .int .i64 40] w fun en w' => en = .returned (.string (cutB t 40)) ∧ w' = w :=
  (cut_any t w).mono fun _ _ h => ⟨h.1, h.2.symm⟩

/-- What Of answers: an event that may be. -/
def OfPost (o : ByteArray) (key : Int) (t : ByteArray) (w : World) (en : Ending) (w' : World) : Prop :=
  ∃ id tx tries table kind : Int, en = .returned (evv id tx (cutB o 40) tries table kind key (cutB t 40)) ∧ EvOk id tx (cutB o 40).size tries table kind (cutB t 40).size ∧ id ≤ 9223372036854775807 ∧ tx ≤ 9223372036854775807 ∧ Same w w'

theorem cutB_size (t : ByteArray) (n : Nat) : (cutB t n).size ≤ n := by
  unfold cutB
  split
  · assumption
  · simp [ByteArray.size_extract]; omega

set_option maxHeartbeats 1600000 in
set_option maxRecDepth 100000 in
theorem of_any (id tx : Int) (o : ByteArray) (tries table kind key : Int) (t : ByteArray) (w : World) (h1 : id ≤ 9223372036854775807) (h2 : tx ≤ 9223372036854775807) (h3 : 0 ≤ table) (_h4 : table ≤ 255) (h5 : 0 ≤ kind) (_h6 : kind ≤ 255) :
    Calls Try.prog 24 #[.int .i64 id, .int .i64 tx, .string o, .int .i64 tries, .int .u8 table, .int .u8 kind, .agg #[.int .i64 key, .string t]] w (OfPost o key t w) := by
  have hid := i64_and_mask id 1023 (by omega) (by omega)
  have htx := i64_and_mask tx 15 (by omega) (by omega)
  have htr := i64_and_mask tries 2147483647 (by omega) (by omega)
  have ht4 : table.tmod 4 = table % 4 := Int.tmod_eq_emod_of_nonneg h3
  have hk4 : kind.tmod 4 = kind % 4 := Int.tmod_eq_emod_of_nonneg h5
  have hC1 := Lib.hid (fun W => cut_still o W)
  have hC2 := Lib.hid (fun W => cut_still t W)
  go_enter Try.func24, Try.ntmps24
  go_upto_if 16 with (fail)
  go_cut [0] (fun v wc => ∃ id1 : Int, v = .int .i64 id1 ∧ 1 ≤ id1 ∧ id1 ≤ 9223372036854775807 ∧ wc = (w.alloc (.cells #[.int .i64 key, .string t] 43)).alloc (.cells #[.int .i64 0, .int .i64 0, .string ⟨#[]⟩, .int .i64 0, .int .i64 0, .int .u8 0, .int .i64 0, .string ⟨#[]⟩] 49))
  case first =>
    go_wp2_with fail
    all_goals
      go_meet
      case rel => first | exact ⟨_, rfl, by omega, by omega, rfl⟩ | exact ⟨_, rfl, by unfold wrap64; omega, by unfold wrap64; omega, rfl⟩
  case rest =>
    obtain ⟨id1, rfl, hi1, hi2, rfl⟩ := hcut
    go_upto_if 21 with (fail)
    go_cut [1] (fun v wc => ∃ tx1 : Int, v = .int .i64 tx1 ∧ 1 ≤ tx1 ∧ tx1 ≤ 9223372036854775807 ∧ wc = (w.alloc (.cells #[.int .i64 key, .string t] 43)).alloc (.cells #[.int .i64 0, .int .i64 0, .string ⟨#[]⟩, .int .i64 0, .int .i64 0, .int .u8 0, .int .i64 0, .string ⟨#[]⟩] 49))
    case first =>
      go_wp2_with fail
      all_goals
        go_meet
        case rel => first | exact ⟨_, rfl, by omega, by omega, rfl⟩ | exact ⟨_, rfl, by unfold wrap64; omega, by unfold wrap64; omega, rfl⟩
    case rest =>
      obtain ⟨tx1, rfl, hj1, hj2, rfl⟩ := hcut
      go_upto_region 5 with fail
      refine wp_still_tail 19 (by kernel_rfl) (by kernel_rfl) ?_
      simp only [List.take_succ_cons, List.take_zero, List.drop_succ_cons, List.drop_zero]
      iterate 3 still_step
      still_call (hC1.out _)
      iterate 12 still_step
      still_call (hC2.out _)
      iterate 2 still_step
      refine wpStill_nil ?_
      go_wp2_with fail
      refine bodyPost_ret (v := evv id1 tx1 (cutB o 40) (bits BinOp.and IntKind.i64 tries 2147483647) (table % 4) (1 + kind % 4) key (cutB t 40)) (by simp [results, Try.results24, go_sem, evv]) rfl ?_
      exact ⟨_, _, _, _, _, rfl, ⟨hi1, hj1, cutB_size o 40, cutB_size t 40, htr.1, htr.2, by omega, by omega, by omega, by omega⟩, hi2, hj2, (((Chg.refl _ w).alloc _).alloc _).drew⟩
end Go.Proofs.Ytdkankiohoocaaa
/- The walks of event's scan, and of the document's num. -/
namespace Go.Proofs.Ytdkankiohoocaaa
set_option linter.unusedSimpArgs false
set_option linter.unusedVariables false
open Go Go.RowKit Go.Proofs

theorem readInt_len (l : List UInt8) (e : Int) : (readInt l e).2.1.length ≤ l.length := readNum_len l e
theorem readText_len (l : List UInt8) (e most : Int) : (readText l e most).2.1.length ≤ l.length := by
  have h := readNum_len l e
  unfold readText rdText
  split
  · exact h
  · split
    · simp
    · split
      · simp
      · simp; omega

/-- A number between two; what is left, the error. -/
def stepNum (least most : Nat) (st : List UInt8 × Int) : Nat × (List UInt8 × Int) :=
  if (readNum st.1 st.2).2.2 = 0 ∧ ((readNum st.1 st.2).1 < least ∨ most < (readNum st.1 st.2).1) then (0, [], 2) else readNum st.1 st.2

/-- A scan in block s, whose reader lies in block a; wr: was a number wrong? -/
structure ScV (w : World) (F : Nat → Prop) (s a : Nat) (l : List UInt8) (e : Int) (wr : Bool) : Prop where
  blk : w.heap[s]? = some (.cells #[.pointer (some ⟨a, 0, none⟩), .bool wr] 146 (0, 0))
  rd : Rd w F a l e
  ns : ¬ F s
  len : l.length ≤ 140737488355328
def Sc (w : World) (F : Nat → Prop) (s a : Nat) (st : List UInt8 × Int) : Prop := ∃ l e wr, ScV w F s a l e wr ∧ st = if wr = true then ([], 2) else (l, e)
def ScPost (w w' : World) (F : Nat → Prop) (s a : Nat) (st : List UInt8 × Int) : Prop := Sc w' F s a st ∧ Chg (fun k => k = s ∨ k = a) w w'

theorem ScV.keep {w w' : World} {F : Nat → Prop} {s a : Nat} {l : List UInt8} {e : Int} {wr : Bool} (h : ScV w F s a l e wr) {S : Nat → Prop} (hc : Chg S w w') (hs : ¬ S s) (hF : ∀ k, F k → ¬ S k) : ScV w' F s a l e wr :=
  ⟨hc.at_ h.blk hs, h.rd.keep hc hF, h.ns, h.len⟩
theorem ScV.read {w w' : World} {F : Nat → Prop} {s a : Nat} {l l1 : List UInt8} {e e1 : Int} {wr : Bool} (h : ScV w F s a l e wr) (hp : RdPost w w' F a l1 e1) (hl : l1.length ≤ l.length) : ScV w' F s a l1 e1 wr :=
  ⟨hp.2.at_ h.blk (fun e => h.ns (e ▸ h.rd.mine)), hp.1, h.ns, Nat.le_trans hl h.len⟩
theorem ScV.wrong {w : World} {F : Nat → Prop} {s a : Nat} {l : List UInt8} {e : Int} {wr : Bool} (h : ScV w F s a l e wr) : ScV (w.setCell ⟨s, 1, none⟩ (.bool true)) F s a l e true := by
  have hc : Chg (fun k => k = s) w (w.setCell ⟨s, 1, none⟩ (.bool true)) := Chg.setCell (S := fun k => k = s) (Chg.refl _ w) (p := ⟨s, 1, none⟩) (fun _ => rfl) _
  exact ⟨two_set1 h.blk, h.rd.keep hc (fun k hk e => h.ns (e ▸ hk)), h.ns, h.len⟩

theorem readNum_err (l : List UInt8) (e : Int) (he : e ≠ 0) : readNum l e = (0, l, e) := by unfold readNum; rw [if_neg he]
theorem stepNum_wrong (least most : Nat) : stepNum least most ([], 2) = (0, [], 2) := by
  unfold stepNum; rw [readNum_err _ _ (by decide)]; simp

/-- What num answers. -/
def NumPost (least most : Nat) (st : List UInt8 × Int) (w : World) (F : Nat → Prop) (s a : Nat) (en : Ending) (w' : World) : Prop :=
  ∃ n : Nat, en = .returned (.int .u64 n) ∧ n < 18446744073709551616 ∧ ((stepNum least most st).2.2 = 0 → n = (stepNum least most st).1) ∧ ScPost w w' F s a (stepNum least most st).2

set_option maxHeartbeats 1600000 in
theorem snum_any (least most s a : Nat) (F : Nat → Prop) (st : List UInt8 × Int) (w : World) (h : Sc w F s a st) :
    Calls Try.prog 84 #[.pointer (some ⟨s, 0, none⟩), .int .u64 least, .int .u64 most] w (NumPost least most st w F s a) := by
  obtain ⟨l, e, wr, hV, rfl⟩ := h
  obtain ⟨c0, c1, f0, f1⟩ := two_cells hV.blk
  cases wr
  · have hle := readNum_le l e
    have hll := readNum_len l e
    obtain ⟨n, l1, e1, HQ⟩ : ∃ n l1 e1, Hid (readNum l e = (n, l1, e1)) := ⟨_, _, _, rfl⟩
    rw [HQ.out] at hle hll
    simp only at hle hll
    by_cases he : e1 = 0
    · have he0 : (e1 == 0) = true := by simp [he]
      by_cases h1 : n < least
      · have h1' : (n : Int) < (least : Int) := by omega
        have HD : Hid (stepNum least most (l, e) = (0, [], 2)) := by show _ = _; unfold stepNum; simp only; rw [HQ.out, if_pos ⟨he, .inl h1⟩]
        clear he h1
        go_enter Try.func84, Try.ntmps84
        go_wp2_with fail
        refine (rnum_is a F l e _ hV.rd n l1 e1 HQ.out).mono ?_
        rintro _ w1 ⟨rfl, hP⟩
        have hV1 := hV.read hP hll
        obtain ⟨c0', c1', f0', f1'⟩ := two_cells hV1.blk
        go_wp2_with fail
        refine (rerr_any a F l1 e1 _ hV1.rd).mono ?_
        rintro _ _ ⟨rfl, rfl⟩
        go_wp2_with fail
        go_ret
        refine ⟨n, rfl, hle, ?_, ?_⟩
        · (try simp only [Bool.false_eq_true, if_false]); rw [HD.out]; intro h; cases h
        · (try simp only [Bool.false_eq_true, if_false]); rw [HD.out]
          exact ⟨⟨l1, e1, true, hV1.wrong, rfl⟩, (hP.2.mono (fun _ h => .inr h)).setCell (p := ⟨s, 1, none⟩) (fun _ => .inl rfl) _⟩
      · have h1' : (least : Int) ≤ (n : Int) := by omega
        by_cases h2 : most < n
        · have h2' : (most : Int) < (n : Int) := by omega
          have HD : Hid (stepNum least most (l, e) = (0, [], 2)) := by show _ = _; unfold stepNum; simp only; rw [HQ.out, if_pos ⟨he, .inr h2⟩]
          clear he h1 h2
          go_enter Try.func84, Try.ntmps84
          go_wp2_with fail
          refine (rnum_is a F l e _ hV.rd n l1 e1 HQ.out).mono ?_
          rintro _ w1 ⟨rfl, hP⟩
          have hV1 := hV.read hP hll
          obtain ⟨c0', c1', f0', f1'⟩ := two_cells hV1.blk
          go_wp2_with fail
          refine (rerr_any a F l1 e1 _ hV1.rd).mono ?_
          rintro _ _ ⟨rfl, rfl⟩
          go_wp2_with fail
          go_ret
          refine ⟨n, rfl, hle, ?_, ?_⟩
          · (try simp only [Bool.false_eq_true, if_false]); rw [HD.out]; intro h; cases h
          · (try simp only [Bool.false_eq_true, if_false]); rw [HD.out]
            exact ⟨⟨l1, e1, true, hV1.wrong, rfl⟩, (hP.2.mono (fun _ h => .inr h)).setCell (p := ⟨s, 1, none⟩) (fun _ => .inl rfl) _⟩
        · have h2' : (n : Int) ≤ (most : Int) := by omega
          have HD : Hid (stepNum least most (l, e) = (n, l1, e1)) := by show _ = _; unfold stepNum; simp only; rw [HQ.out, if_neg (fun h => by rcases h.2 with h | h <;> omega)]
          clear he h1 h2
          go_enter Try.func84, Try.ntmps84
          go_wp2_with fail
          refine (rnum_is a F l e _ hV.rd n l1 e1 HQ.out).mono ?_
          rintro _ w1 ⟨rfl, hP⟩
          have hV1 := hV.read hP hll
          obtain ⟨c0', c1', f0', f1'⟩ := two_cells hV1.blk
          go_wp2_with fail
          refine (rerr_any a F l1 e1 _ hV1.rd).mono ?_
          rintro _ _ ⟨rfl, rfl⟩
          go_wp2_with fail
          go_ret
          refine ⟨n, rfl, hle, ?_, ?_⟩
          · (try simp only [Bool.false_eq_true, if_false]); rw [HD.out]; intro _; rfl
          · (try simp only [Bool.false_eq_true, if_false]); rw [HD.out]
            exact ⟨⟨l1, e1, false, hV1, rfl⟩, hP.2.mono (fun _ h => .inr h)⟩
    · have he0 : (e1 == 0) = false := by simp [he]
      have HD : Hid (stepNum least most (l, e) = (n, l1, e1)) := by show _ = _; unfold stepNum; simp only; rw [HQ.out, if_neg (fun h => he h.1)]
      clear he
      go_enter Try.func84, Try.ntmps84
      go_wp2_with fail
      refine (rnum_is a F l e _ hV.rd n l1 e1 HQ.out).mono ?_
      rintro _ w1 ⟨rfl, hP⟩
      have hV1 := hV.read hP hll
      obtain ⟨c0', c1', f0', f1'⟩ := two_cells hV1.blk
      go_wp2_with fail
      refine (rerr_any a F l1 e1 _ hV1.rd).mono ?_
      rintro _ _ ⟨rfl, rfl⟩
      go_wp2_with fail
      go_ret
      refine ⟨n, rfl, hle, ?_, ?_⟩
      · (try simp only [Bool.false_eq_true, if_false]); rw [HD.out]; intro _; rfl
      · (try simp only [Bool.false_eq_true, if_false]); rw [HD.out]
        exact ⟨⟨l1, e1, false, hV1, rfl⟩, hP.2.mono (fun _ h => .inr h)⟩
  · go_enter Try.func84, Try.ntmps84
    go_wp2_with fail
    go_ret
    refine ⟨0, rfl, by omega, ?_, ?_⟩
    · (try simp only [if_true]); rw [stepNum_wrong]; intro _; rfl
    · (try simp only [if_true]); rw [stepNum_wrong]; exact ⟨⟨l, e, true, hV, rfl⟩, Chg.refl _ _⟩

set_option maxHeartbeats 800000 in
theorem stext_any (s a : Nat) (F : Nat → Prop) (st : List UInt8 × Int) (w : World) (h : Sc w F s a st) :
    Calls Try.prog 85 #[.pointer (some ⟨s, 0, none⟩)] w fun en w' => en = .returned (.string ⟨(readText st.1 st.2 40).1.toArray⟩) ∧ ScPost w w' F s a (readText st.1 st.2 40).2 := by
  obtain ⟨l, e, wr, hV, rfl⟩ := h
  obtain ⟨c0, c1, f0, f1⟩ := two_cells hV.blk
  cases wr
  · have hll := readText_len l e 40
    go_enter Try.func85, Try.ntmps85
    go_wp2_with fail
    refine (rtext_any' a F l e 40 _ hV.rd hV.len (by omega) (by omega)).mono ?_
    rintro _ w1 ⟨rfl, hP⟩
    go_wp2_with fail
    go_ret
    exact ⟨rfl, ⟨_, _, false, hV.read hP hll, rfl⟩, hP.2.mono (fun _ h => .inr h)⟩
  · go_enter Try.func85, Try.ntmps85
    go_wp2_with fail
    go_ret
    have e1 : readText [] 2 40 = ([], [], 2) := by unfold readText; rw [readNum_err _ _ (by decide)]; rfl
    simp only []
    rw [e1]
    exact ⟨rfl, ⟨l, e, true, hV, rfl⟩, Chg.refl _ _⟩
end Go.Proofs.Ytdkankiohoocaaa
