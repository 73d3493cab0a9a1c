/- The walk of carrierlaw09.nine: the document's example; and EventDue. -/
import Derived.Test.YtpommgohciigoaaEvQ
import Derived.Test.YtpommgohciigoaaEvF
namespace Go.Proofs.Ytpommgohciigoaa
open Go Go.RowKit Go.Proofs

def nineL : List UInt8 := [1, 2, 0, 0, 0, 1, 6, 1, 120]
theorem nine_lit (w : World) (n : Nat) (hn : n = w.heap.size) : Bs (w.alloc (.cells #[.int .u8 1, .int .u8 2, .int .u8 0, .int .u8 0, .int .u8 0, .int .u8 1, .int .u8 6, .int .u8 1, .int .u8 120] 5)) (fun k => k = n) (.slice (some ⟨n, 0, none⟩) 9 9) nineL := by
  subst hn
  exact bs_lit w _ _ nineL 9 rfl (by unfold maxLen; omega) rfl
theorem nineL_len : nineL.length ≤ 140737488355328 := by decide
theorem dec_nine : decE nineL = ⟨1, 2, [], 0, 0, 1, 3, [120], 0⟩ := by rfl
theorem decV_nine : decV (decE nineL) = .tuple #[evv 1 2 ⟨#[]⟩ 0 0 1 3 ⟨#[120]⟩, .int .i64 0] := by rw [dec_nine]; rfl
theorem enc_nine : encB 1 2 ⟨#[]⟩ 0 0 1 3 ⟨#[120]⟩ = nineL := by
  have a0 : numB 0 = [0] := numB_small (by omega)
  have a1 : numB 1 = [1] := numB_small (by omega)
  have a2 : numB 2 = [2] := numB_small (by omega)
  have a6 : numB 6 = [6] := numB_small (by omega)
  show numB 1 ++ numB 2 ++ (numB 0 ++ []) ++ numB 0 ++ numB 0 ++ numB 1 ++ numB 6 ++ (numB 1 ++ [120]) = _
  rw [a0, a1, a2, a6]; rfl
theorem ok_nine : EvOk 1 2 (ByteArray.size ⟨#[]⟩) 0 0 1 (ByteArray.size ⟨#[120]⟩) := by decide

theorem edecode_is (A : Option Addr) (n c : Nat) (F0 : Nat → Prop) (l : List UInt8) (w : World) (h : Bs w F0 (.slice A n c) l) (hl : l.length ≤ 140737488355328) (v : Value) (hq : Hid (decV (decE l) = v)) :
    Calls Try.prog 12 #[.slice A n c] w fun en w' => en = .returned v ∧ Same w w' :=
  (edecode_any _ F0 l w h hl).mono fun en w' h => by rw [hq.out] at h; exact h
theorem pdecode_is (A : Option Addr) (n c : Nat) (F0 : Nat → Prop) (l : List UInt8) (w : World) (h : Bs w F0 (.slice A n c) l) (hl : l.length ≤ 140737488355328) (v : Value) (hq : Hid (decV (decE l) = v)) :
    Calls Try.prog 16 #[.slice A n c] w fun en w' => en = .returned v ∧ Same w w' :=
  (pdecode_any _ F0 l w h hl).mono fun en w' h => by rw [hq.out] at h; exact h
theorem eencode_is (id tx : Int) (o : ByteArray) (tries table kind key : Int) (t : ByteArray) (w : World) (hk : EvOk id tx o.size tries table kind t.size) (h1 : id ≤ 9223372036854775807) (h2 : tx ≤ 9223372036854775807) (h3 : -9223372036854775808 ≤ key) (h4 : key ≤ 9223372036854775807)
    (l : List UInt8) (hq : Hid (encB id tx o tries table kind key t = l)) :
    Calls Try.prog 11 #[evv id tx o tries table kind key t] w fun en w' => ∃ A c, en = .returned (.slice A l.length c) ∧ Fresh w w' (.slice A l.length c) l :=
  (eencode_any id tx o tries table kind key t w hk h1 h2 h3 h4).mono fun en w' ⟨v, h1, h2⟩ => by
    rw [hq.out] at h2
    obtain ⟨A, c, rfl⟩ := h2.form
    exact ⟨A, c, h1, h2⟩
theorem pencode_is (id tx : Int) (o : ByteArray) (tries table kind key : Int) (t : ByteArray) (w : World) (hk : EvOk id tx o.size tries table kind t.size) (h1 : id ≤ 9223372036854775807) (h2 : tx ≤ 9223372036854775807) (h3 : -9223372036854775808 ≤ key) (h4 : key ≤ 9223372036854775807)
    (l : List UInt8) (hq : Hid (encB id tx o tries table kind key t = l)) :
    Calls Try.prog 15 #[evv id tx o tries table kind key t] w fun en w' => ∃ A c, en = .returned (.slice A l.length c) ∧ Fresh w w' (.slice A l.length c) l :=
  (pencode_any id tx o tries table kind key t w hk h1 h2 h3 h4).mono fun en w' ⟨v, h1, h2⟩ => by
    rw [hq.out] at h2
    obtain ⟨A, c, rfl⟩ := h2.form
    exact ⟨A, c, h1, h2⟩

set_option maxHeartbeats 1600000 in
theorem nine_any (w : World) :
    Calls Try.prog 9 #[] w fun en w' => en = .returned (.bool true) ∧ Same w w' := by
  go_enter Try.func9, Try.ntmps9
  go_wp2_with fail
  refine (edecode_is _ _ _ _ nineL _ (nine_lit (w.alloc _) _ (by simp)) nineL_len _ (Lib.hid decV_nine)).mono ?_
  rintro _ w1 ⟨rfl, hs1⟩
  unfold evv
  obtain ⟨hE, -, -, hs1'⟩ := two_new hs1
  have hX := heap_alloc_new w1 (.cells #[.int .i64 1, .int .i64 2, .string ⟨#[]⟩, .int .i64 0, .int .i64 0, .int .u8 1, .int .i64 3, .string ⟨#[120]⟩] 26)
  have hal : Same w1 (w1.alloc (.cells #[.int .i64 1, .int .i64 2, .string ⟨#[]⟩, .int .i64 0, .int .i64 0, .int .u8 1, .int .i64 3, .string ⟨#[120]⟩] 26)) := Chg.alloc_ _ _ _
  have HX := Lib.hid hX
  have HE := Lib.hid (hal.at_ hE (fun h => h))
  have HS := Lib.hid (hs1'.trans hal)
  clear hX hE hal hs1 hs1'
  go_upto_region 3 with fail
  generalize w1.alloc (.cells #[.int .i64 1, .int .i64 2, .string ⟨#[]⟩, .int .i64 0, .int .i64 0, .int .u8 1, .int .i64 3, .string ⟨#[120]⟩] 26) = W1 at *
  generalize w1.heap.size = X at *
  have hS1 := HS.out
  generalize w.heap.size = E at *
  obtain ⟨a0, a1, a2, a3, a4, a5, a6, a7⟩ := ev_cells HE.out
  go_wp2_with fail
  refine (eencode_is 1 2 ⟨#[]⟩ 0 0 1 3 ⟨#[120]⟩ _ ok_nine (by omega) (by omega) (by omega) (by omega) nineL (Lib.hid enc_nine)).mono ?_
  rintro _ w2 ⟨A2, c2, rfl, R2⟩
  clear a0 a1 a2 a3 a4 a5 a6 a7
  have HS2 := Lib.hid (HS.out.trans R2.sm)
  have HX2 := Lib.hid (R2.sm.at_ HX.out (fun h => h))
  have HE2 := Lib.hid (R2.sm.at_ HE.out (fun h => h))
  have hb2 := R2.bs
  clear R2 HX HE HS
  go_wp2_with fail
  refine (alike_same _ _ nineL _ _ _ (hb2.alloc _) (nine_lit w2 _ rfl)).mono ?_
  rintro _ w3 ⟨rfl, hs3⟩
  have hs23 : Same w2 w3 := (Chg.alloc_ _ _ _).trans hs3
  obtain ⟨a0, a1, a2, a3, a4, a5, a6, a7⟩ := ev_cells (hs23.at_ HE2.out (fun h => h))
  obtain ⟨x0, x1, x2, x3, x4, x5, x6, x7⟩ := ev_cells (hs23.at_ HX2.out (fun h => h))
  have HS3 := Lib.hid (HS2.out.trans hs23)
  clear hs3 hs23 HE2 HX2 HS2 hb2
  go_wp2_with fail
  refine (eright_any 1 2 ⟨#[]⟩ 0 0 1 3 ⟨#[120]⟩ _).mono ?_
  rintro _ w4 ⟨rfl, hs4⟩
  rw [decide_eq_true ok_nine]
  go_wp2_with fail
  go_ret
  exact ⟨rfl, HS3.out.trans hs4⟩
end Go.Proofs.Ytpommgohciigoaa
