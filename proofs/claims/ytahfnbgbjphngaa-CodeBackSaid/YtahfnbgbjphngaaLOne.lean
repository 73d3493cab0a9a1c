/- The walk of carrierlaw02.CodeOne: a number has one form. -/
import Derived.Test.YtahfnbgbjphngaaCodeL
import Derived.Deep.RegionHeld3
namespace Go.Proofs.Ytahfnbgbjphngaa
open Go Go.RowKit Go.Proofs

/-! ### the plain law -/
/-- Digits behind each of which there are more, and then nought: this is no number's form. -/
theorem rdNum_long (l : List UInt8) : ∀ i acc (r : List UInt8), (∀ b ∈ l, 128 ≤ b.toNat) → i ≤ 9 → 0 < l.length + i → rdNum i acc (l ++ (0 :: r)) = (0, [], 2) := by
  induction l with
  | nil =>
    intro i acc r _ hi h0
    simp at h0
    exact rdNum_bad (.inr ⟨h0, rfl⟩)
  | cons x l ih =>
    intro i acc r hb hi _
    have hx := hb x (by simp)
    by_cases h9 : i = 9
    · exact rdNum_bad (.inl ⟨h9, by omega⟩)
    · rw [List.cons_append, rdNum_more hx (by omega)]
      exact ih _ _ _ (fun b h => hb b (by simp [h])) (by omega) (by omega)

theorem dMore_ge (n : Nat) : 128 ≤ (dMore n).toNat := by
  unfold dMore
  rw [UInt8.toNat_ofNat']
  omega
theorem numB_more (n : Nat) : ∃ l b, numB n = l ++ [b] ∧ ∀ x ∈ l, 128 ≤ x.toNat := by
  induction n using Nat.strongRecOn with
  | _ n ih =>
    by_cases h : n < 128
    · exact ⟨[], _, numB_small h, by simp⟩
    · obtain ⟨l, b, h1, h2⟩ := ih (n / 128) (by omega)
      refine ⟨dMore n :: l, b, by rw [numB_big h, h1]; rfl, fun x hx => ?_⟩
      rcases List.mem_cons.1 hx with rfl | hx
      · exact dMore_ge n
      · exact h2 x hx
/-- A byte with its highest bit. -/
def hi (b : UInt8) : UInt8 := b ||| 128
theorem hi_ge : ∀ b : Fin 256, 128 ≤ (hi (UInt8.ofNat b.val)).toNat := by decide +kernel
theorem hi_bits : ∀ b : Fin 256, bits BinOp.or IntKind.u8 ((b.val : Nat) : Int) 128 = ((hi (UInt8.ofNat b.val)).toNat : Int) := by decide +kernel
theorem hi_ge' (b : UInt8) : 128 ≤ (hi b).toNat := by have := hi_ge ⟨b.toNat, b.toNat_lt⟩; simpa using this
theorem hi_bits' (b : UInt8) : bits BinOp.or IntKind.u8 (b.toNat : Int) 128 = ((hi b).toNat : Int) := by have := hi_bits ⟨b.toNat, b.toNat_lt⟩; simpa using this
theorem one_read (l : List UInt8) (b : UInt8) (j : Nat) (h : ∀ x ∈ l, 128 ≤ x.toNat) : readNum ((l ++ [hi b]) ++ List.replicate j 128 ++ [0]) 0 = (0, [], 2) := by
  show rdNum 0 0 _ = _
  refine rdNum_long _ 0 0 [] (fun x hx => ?_) (by omega) (by simp only [List.length_append, List.length_cons, List.length_nil, List.length_replicate]; omega)
  rcases List.mem_append.1 hx with hx | hx
  · rcases List.mem_append.1 hx with hx | hx
    · exact h x hx
    · rw [List.mem_singleton.1 hx]; exact hi_ge' b
  · rw [(List.mem_replicate.1 hx).2]; decide

def oneL (l : List UInt8) (b : UInt8) (j : Nat) : List UInt8 := l ++ [hi b] ++ List.replicate j 128
theorem oneL_step (l : List UInt8) (b : UInt8) (j : Nat) : oneL l b j ++ [(128 : UInt8)] = oneL l b (j + 1) := by
  unfold oneL; rw [List.append_assoc, ← List.replicate_succ']
theorem oneL_zero (l : List UInt8) (b : UInt8) : oneL l b 0 = l ++ [hi b] := by unfold oneL; rw [List.replicate_zero, List.append_nil]
theorem oneL_len (l : List UInt8) (b : UInt8) (j : Nat) : (oneL l b j).length = l.length + 1 + j := by unfold oneL; simp only [List.length_append, List.length_cons, List.length_nil, List.length_replicate]
def oneQ (l : List UInt8) (b : UInt8) (j : Nat) : List UInt8 := oneL l b j ++ [0]
theorem oneQ_read (l : List UInt8) (b : UInt8) (j : Nat) (h : ∀ x ∈ l, 128 ≤ x.toNat) : readNum (oneQ l b j) 0 = (0, [], 2) := one_read l b j h

/-! ### the walk -/
/-- A store into an own slice of bytes. -/
theorem Own.stored {w : World} {base g n c : Nat} {l : List UInt8} (h : Own w base (.slice (some ⟨g, 0, none⟩) n c) l) (j : Nat) (b : UInt8) :
    Own (w.setCell ⟨g, j, none⟩ (.int .u8 (b.toNat : Int))) base (.slice (some ⟨g, 0, none⟩) n c) (l.set j b) := by
  have hn : n = l.length := by obtain ⟨A, cap, h1⟩ := h.form; injection h1
  subst hn
  have := (World.ownsRow.stored h j (.int .u8 (b.toNat : Int))).1
  show World.ownsRow _ _ _ _ _ (l.set j b).length (bvs (l.set j b))
  rw [List.length_set]
  have e : bvs (l.set j b) = (bvs l).set j (.int .u8 (b.toNat : Int)) := by simp [bvs, List.map_set]
  rw [e]; exact this
/-- An own slice of a byte or more: where it lies; what its cells hold. -/
theorem Own.cell_at {w : World} {base : Nat} {v : Value} {l : List UInt8} (h : Own w base v l) (h0 : 0 < l.length) :
    ∃ g c, v = .slice (some ⟨g, 0, none⟩) l.length c ∧ base ≤ g ∧ g < w.heap.size ∧ l.length ≤ c ∧ c ≤ 9223372036854775807 ∧ (∀ j x, l[j]? = some x → w.cell? ⟨g, j, none⟩ = some (.int .u8 (x.toNat : Int))) ∧ ∀ j, w.frozen? ⟨g, j, none⟩ = false := by
  obtain ⟨g, c, hv, hb, hg⟩ := World.ownsRow.form h h0
  subst hv
  have hbs := (Own.bs (F := fun _ => True) h (fun _ _ => trivial))
  obtain ⟨-, h1, h2⟩ := hbs.bounds
  obtain ⟨A, c', hv, _, _, hx⟩ := hbs
  injection hv with e1 _ e3
  subst e3
  obtain ⟨b, o, hA, _, hc⟩ := hx h0
  rw [← e1] at hA
  injection hA with hA
  injection hA with e4 e5
  subst e4; subst e5
  refine ⟨g, c, rfl, hb, hg, h1, h2, fun j x hj => by have := hc j x hj; rwa [Nat.zero_add] at this, fun j => World.ownsRow.frozenAt h j⟩

set_option maxHeartbeats 1600000 in
set_option maxRecDepth 100000 in
theorem codeOne_walk (n long : Int) (hn0 : 0 ≤ n) (hn1 : n ≤ 18446744073709551615) (hl0 : 0 ≤ long) (hl1 : long ≤ 255) (w : World) :
    Calls Try.prog 3 #[.int .u64 n, .int .u8 long] w fun e w' => e = .returned (.bool true) ∧ Same w w' := by
  obtain ⟨l, b, hnb, hlb⟩ := numB_more n.toNat
  have hlen := numB_len10 hn1
  rw [hnb, List.length_append] at hlen
  simp only [List.length_cons, List.length_nil] at hlen
  have HN : Hid ([] ++ numB n.toNat = l ++ [b]) := hnb
  have HLB := Lib.hid hlb
  have HNB := Lib.hid hnb
  clear hlb hnb
  go_enter Try.func3, Try.ntmps3
  go_wp2_with fail
  refine (three_any _).mono ?_
  rintro _ w0 ⟨rfl, hs0⟩
  go_wp2_with fail
  refine (wnum_any _ n hn0 hn1 _ [] _ (Wr.new w0) (by simp)).mono ?_
  rintro _ w1 ⟨rfl, F1, hW1, hc1, hn1'⟩
  rw [HN.out] at hW1
  have hs1 : Same w w1 := Chg.since (hs0.alloc _) hc1 (fun k hk => by have := hs0.size; omega)
  clear hc1 hn1' hs0
  go_wp2_with fail
  refine (wbytes_any _ F1 _ w1 hW1 (by simp; omega)).mono ?_
  rintro _ w2 ⟨v2, rfl, R2⟩
  have hs2 : Same w w2 := hs1.trans R2.2
  have hsz2 := hs1.size
  obtain ⟨A2, cap2, rfl⟩ := R2.form
  have hb2 := R2.bs.old
  clear R2 hs1 hW1
  have hll : (l ++ [b]).length = l.length + 1 := by simp
  have HLL := Lib.hid hll
  rw [hll] at hb2 ⊢
  clear hll
  have hne : ((l.length : Int) + 1 == 0) = false := by rw [beq_eq_false_iff_ne]; omega
  go_wp2_with fail
  refine (join_nil _ (l ++ [b]) _ w2 hb2 (by rw [HLL.out]; omega)).mono ?_
  rintro _ w3 ⟨v3, rfl, R3⟩
  obtain ⟨g, c, rfl, hg1, hg2, hlc, hcm, hcell, hfz⟩ := Own.cell_at R3.1 (by rw [HLL.out]; omega)
  have hF4 : Fresh w2 (w3.setCell ⟨g, l.length, none⟩ (.int .u8 ((hi b).toNat : Int))) (.slice (some ⟨g, 0, none⟩) (l.length + 1) c) (l ++ [hi b]) := by
    have h := Own.stored R3.1 l.length (hi b)
    have e : (l ++ [b]).set l.length (hi b) = l ++ [hi b] := by simp
    rw [e, HLL.out] at h
    exact ⟨h, R3.2.setCell (fun h => by simp at h; omega) _⟩
  have HF4 := Lib.hid hF4
  rw [HLL.out] at hlc ⊢
  have hcb := hcell l.length b (by simp)
  have hfb := hfz l.length
  clear R3 hcell hfz hF4
  go_wp2_with fail
  rw [hi_bits' b]
  generalize w3.setCell ⟨g, l.length, none⟩ (.int .u8 ((hi b).toNat : Int)) = w4 at *
  go_loopw [7, 8] (fun q i wr => ∃ j : Nat, i = .int .i64 j ∧ (j : Int) ≤ long % 12 ∧ Fresh w2 wr q (oneL l b j)) (fun _ i _ => (12 - (intOf i).toNat))
  case atStart => exact ⟨0, rfl, by omega, by rw [oneL_zero]; exact HF4.out⟩
  case round =>
    obtain ⟨j, rfl, hj, hF⟩ := hrel
    have HF := Lib.hid hF
    have hlq : (oneL l b j).length ≤ 30 := by
      rw [oneL_len]; omega
    clear hF
    by_cases hjl : (j : Int) < long % 12
    · go_wp2_with (at_builtin; refine wl_appB rfl _ _ rfl _ (oneL l b j) _ _ _ (fun _ => True) [128] rfl rfl (HF.out.own (Chg.alloc_ _ _ _)) (bs_one _ _ _ _ rfl) ?e2 ?_)
      case e2 => first | omega | (simp; omega)
      intro A' k cap' w5 hout
      have R := HF.out.app (Chg.alloc_ _ _ _) hout
      rw [oneL_step] at R
      have HR := Lib.hid R
      clear hout R
      go_wp2_with fail
      go_roundw
      case rel => exact ⟨j + 1, by go_num, by omega, HR.out⟩
      case measure => simp [intOf]; omega
    · go_wp2_with (at_builtin; refine wl_appB rfl _ _ rfl _ (oneL l b j) _ _ _ (fun _ => True) [0] rfl rfl (HF.out.own (Chg.alloc_ _ _ _)) (bs_one _ _ _ _ rfl) ?e3 ?_)
      case e3 => first | omega | (simp; omega)
      intro A' k cap' w5 hout
      have R := HF.out.app (Chg.alloc_ _ _ _) hout
      have HQ := Lib.hid (oneQ_read l b j HLB.out)
      have hlq' : (oneQ l b j).length ≤ 40 := by unfold oneQ; rw [List.length_append]; simp only [List.length_cons, List.length_nil]; omega
      rw [show oneL l b j ++ [0] = oneQ l b j from rfl] at R
      generalize oneQ l b j = q at *
      clear hout hlq
      have hbp := hb2.same R.2
      have hbq := R.bs
      have hs5 : Same w w5 := hs2.trans R.2
      obtain ⟨A5, c5, hv5⟩ := R.form
      rw [hv5] at hbq ⊢
      clear R HF
      go_wp2_with fail
      refine (newr_any _ q _ w5 hbq (by omega)).mono ?_
      rintro _ w6 ⟨a6, F6, rfl, hR6, hs6, hN6⟩
      have hs6' := hs5.trans hs6
      have hbp6 := hbp.same hs6
      have hbq6 := hbq.same hs6
      go_wp2_with fail
      refine (pnum_is _ _ q 0 w6 hbq6 0 [] 2 HQ.out).mono ?_
      rintro _ w7 ⟨v7, rfl, hb7, hs7⟩
      obtain ⟨A7, c7, hv7, -, -, -⟩ := id hb7
      subst hv7
      have hsW0 := hs6'.trans hs7
      have hR7 := hR6.keep hs7 (fun _ _ h => h)
      have hbp7 := hbp6.same hs7
      have hold6 : w.heap.size ≤ a6 := by have := hN6 a6 hR6.mine; have := hs5.size; omega
      go_wp2_with fail
      obtain ⟨W, hW⟩ : ∃ W, W = w7.alloc (.cells #[.slice A7 0 c7, .int .i64 2] 35) := ⟨_, rfl⟩
      have hRW : Rd W F6 a6 q 0 := by rw [hW]; exact hR7.keep (Chg.alloc_ (fun _ => False) _ _) (fun _ _ h => h)
      have hsW : Same w W := by rw [hW]; exact hsW0.alloc _
      have hbpW := hbp7.same (w' := W) (by rw [hW]; exact Chg.alloc_ _ _ _)
      have hblk : W.heap[w7.heap.size]? = some (.cells #[.slice A7 0 c7, .int .i64 2] 35 (0, 0)) := by rw [hW]; exact heap_alloc_new w7 _
      have hlt6 : a6 < w7.heap.size := by obtain ⟨v, h⟩ := hR7; exact h.lt _ h.mine
      obtain ⟨c0, c1, -, -⟩ := two_cells hblk
      rw [← hW]
      generalize w7.heap.size = M at *
      clear hW hblk hR6 hR7 hb7 hs5 hs6 hs6' hs7 hsW0 hbp hbq hbp6 hbq6 hbp7 hN6
      go_region_held3 (fun w' => w'.cell? ⟨M, 1, none⟩ = some (.int .i64 2)) (go_keep) (first | (go_at_call 16; refine (rnumb_is n hn0 hn1 _ (l ++ [b]) HNB.out).mono ?_; rintro _ w8 ⟨v8, rfl, R8⟩; obtain ⟨A8, c8, hv8⟩ := R8.form; rw [HLL.out] at hv8; subst hv8; have k8 := R8.2.cell' c1 (fun h => h); have hR8 := hRW.drew.keep R8.2 (fun _ _ h => h); have hbp8 := (hbpW.drewN 1).same R8.2; have hs8 := hsW.drew.trans R8.2) | (go_at_call 15; refine (alike_same _ _ (l ++ [b]) _ _ _ hbp8 R8.bs).mono ?_; rintro _ w9 ⟨rfl, hs9'⟩; have k9 := hs9'.cell' k8 (fun h => h); have hR9 := hR8.keep hs9' (fun _ _ h => h); have hs9 := hs8.trans hs9') | (go_at_call 17; refine (rnum_is a6 F6 q 0 _ hR9 0 [] 2 HQ.out).mono ?_; rintro _ w10 ⟨rfl, hR10, hc10⟩; have k10 := hc10.cell' k9 (show ¬ M = a6 by omega)) | (go_at_call 18; refine (rerr_any a6 F6 [] 2 _ hR10).mono ?_; rintro _ _ ⟨rfl, rfl⟩))
      all_goals
        go_wp2_with fail
        go_ret
        exact ⟨rfl, Chg.since hs9 hc10 (fun k hk => by omega)⟩
end Go.Proofs.Ytahfnbgbjphngaa
