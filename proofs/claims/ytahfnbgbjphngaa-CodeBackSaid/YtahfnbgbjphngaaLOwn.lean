/- The walk of carrierlaw02.CodeOwn: what was handed in, and answered, may be written over. -/
import Derived.Test.YtahfnbgbjphngaaLOne
namespace Go.Proofs.Ytahfnbgbjphngaa
open Go Go.RowKit Go.Proofs

theorem numB_9 : numB (9 : Int).toNat = [9] := by
  have e : numB 9 = [dLast 9] := numB_small (by omega)
  show numB 9 = _
  rw [e]; rfl
theorem numB_1 : numB (1 : Int).toNat = [1] := by
  have e : numB 1 = [dLast 1] := numB_small (by omega)
  show numB 1 = _
  rw [e]; rfl

/-- A loop that writes over an own slice, whose block lies between B and C: where it stands; ws: the world ahead of the loop. -/
def Over (ws wr : World) (B C : Nat) (v : Value) (n : Nat) : Prop := ∃ l : List UInt8, l.length = n ∧ Own wr B v l ∧ (∀ g, v.ownBlock = some g → g < C) ∧ Chg (fun k => B ≤ k ∧ k < C) ws wr
theorem Over.start {ws : World} {B C : Nat} {v : Value} {l : List UInt8} {n : Nat} (h : Own ws B v l) (hn : l.length = n) (hC : ∀ g, v.ownBlock = some g → g < C) : Over ws ws B C v n := ⟨l, hn, h, hC, Chg.refl _ _⟩
/-- The cell of the k-th byte, and what a store into it leaves. -/
theorem Over.step {ws wr : World} {B C n k : Nat} {v : Value} (h : Over ws wr B C v n) (hk : k < n) :
    ∃ g c x, v = .slice (some ⟨g, 0, none⟩) n c ∧ n ≤ c ∧ c ≤ 9223372036854775807 ∧ wr.cell? ⟨g, k, none⟩ = some (.int .u8 x) ∧ wr.frozen? ⟨g, k, none⟩ = false ∧ ∀ b : UInt8, Over ws (wr.setCell ⟨g, k, none⟩ (.int .u8 (b.toNat : Int))) B C v n := by
  obtain ⟨l, rfl, ho, hC, hc⟩ := h
  obtain ⟨g, c, rfl, hg1, hg2, hlc, hcm, hcell, hfz⟩ := Own.cell_at ho (by omega)
  refine ⟨g, c, _, rfl, hlc, hcm, hcell k l[k] (List.getElem?_eq_getElem hk), hfz k, fun b => ⟨l.set k b, by simp, Own.stored ho k b, hC, hc.setCell (p := ⟨g, k, none⟩) (fun _ => ⟨hg1, hC g rfl⟩) _⟩⟩

theorem fresh_91 {w w' : World} {v : Value} (h : Fresh w w' v ([9] ++ numB (1 : Int).toNat)) : Own w' w.heap.size v [9, 1] := by
  have h := h.1
  rw [numB_1] at h
  exact h
theorem Wr.alloc {w : World} {F : Nat → Prop} {a : Nat} {l : List UInt8} (h : Wr w F a l) (o : Obj) : Wr (w.alloc o) F a l := h.keep (Chg.alloc_ (fun _ => False) _ _) (fun _ _ h => h)

set_option maxHeartbeats 4000000 in
set_option maxRecDepth 100000 in
theorem codeOwn_walk (v : Value) (p : List UInt8) (F : Nat → Prop) (b : UInt8) (w : World) (hp : Bs w F v p) :
    Calls Try.prog 4 #[v, .int .u8 (b.toNat : Int)] w fun e w' => e = .returned (.bool true) ∧ Same w w' := by
  obtain ⟨A, cap, hv, -, -, -⟩ := id hp
  subst hv
  by_cases hs : p.length ≤ 60
  · have hs' : (p.length : Int) ≤ 60 := by omega
    go_enter Try.func4, Try.ntmps4
    go_wp2_with fail
    refine (three_any _).mono ?_
    rintro _ w0 ⟨rfl, hs0⟩
    have hp0 := (hp.same hs0).old
    go_wp2_with fail
    refine (join_nil _ p _ w0 hp0 (by omega)).mono ?_
    rintro _ w1 ⟨v1, rfl, R1⟩
    have hp1 := hp0.same R1.2
    have hs1 : Same w w1 := hs0.trans R1.2
    obtain ⟨A1, c1, hv1⟩ := R1.form
    have hb1 := R1.bs.old
    have ho1 := R1.1
    subst hv1
    clear R1
    go_wp2_with fail
    refine (newr_any _ p _ w1 hb1 (by omega)).mono ?_
    rintro _ w2 ⟨a2, F2, rfl, hR2, hs2, hN2⟩
    have ho2 : Over w2 w2 w0.heap.size w1.heap.size (.slice A1 p.length c1) p.length :=
      Over.start (ho1.keep hs2 (fun _ _ h => h)) rfl (fun g hg => (ho1.lt hg).2)
    go_wp2_with fail
    go_loopw [7] (fun i wr => ∃ k : Nat, i = .int .i64 k ∧ k ≤ p.length ∧ Over w2 wr w0.heap.size w1.heap.size (.slice A1 p.length c1) p.length) (fun i _ => p.length - (intOf i).toNat)
    case atStart => exact ⟨0, rfl, Nat.zero_le _, ho2⟩
    case round =>
      obtain ⟨k, rfl, hk, hO⟩ := hrel
      by_cases hkl : k < p.length
      · obtain ⟨g, c, x, hv, hnc, hcm, hcx, hfx, hst⟩ := hO.step hkl
        injection hv with e1 e2 e3
        subst e1; subst e3
        have HST := Lib.hid (hst b)
        clear hst e2
        go_wp2_with fail
        go_roundw
        case rel => exact ⟨k + 1, by go_num, by omega, HST.out⟩
        case measure => simp [intOf]; omega
      · obtain ⟨lx, -, -, -, hcx⟩ := hO
        have hsz12 := hs2.size
        have hsz01 := hs1.size
        have hR3 := hR2.keep hcx (fun k hk h => by have := hN2 k hk; omega)
        have hp3 := (hp1.same hs2).keep hcx (fun k hk h => by omega)
        have hsr : Same w wr := Chg.since (hs1.trans hs2) hcx (fun k hk => by have := hs0.size; omega)
        have hold2 : w.heap.size ≤ a2 := by have := hN2 a2 hR2.mine; omega
        obtain ⟨n6, l6, e6, HQ⟩ : ∃ n6 l6 e6, Hid (readNum p 0 = (n6, l6, e6)) := ⟨_, _, _, rfl⟩
        clear hR2 hs2 hN2 ho2 hb1 hp1 ho1 hcx
        go_wp2_with fail
        refine (pnum_is _ _ p 0 wr hp3 n6 l6 e6 HQ.out).mono ?_
        rintro _ w3 ⟨v3, rfl, hb3, hs3⟩
        obtain ⟨A3, c3, hv3, -, -, -⟩ := id hb3
        subst hv3
        have hR4 := hR3.keep hs3 (fun _ _ h => h)
        have hsr3 := hsr.trans hs3
        clear hb3 hs3 hp3 hR3 hsr
        go_wp2_with fail
        obtain ⟨W, hW⟩ : ∃ W, W = w3.alloc (.cells #[.slice A3 l6.length c3, .int .i64 e6] 35) := ⟨_, rfl⟩
        have hRW : Rd W F2 a2 p 0 := by rw [hW]; exact hR4.keep (Chg.alloc_ (fun _ => False) _ _) (fun _ _ h => h)
        have hsW : Same w W := by rw [hW]; exact hsr3.alloc _
        have hblk : W.heap[w3.heap.size]? = some (.cells #[.slice A3 l6.length c3, .int .i64 e6] 35 (0, 0)) := by rw [hW]; exact heap_alloc_new w3 _
        have hWs : W.heap.size = w3.heap.size + 1 := by rw [hW]; simp
        have hltW : Lt F2 w3 := by obtain ⟨v, h⟩ := hR4; exact h.lt
        have hW0 := Wr.new W
        have hltM : ∀ k, F2 k → k < w3.heap.size := hltW
        have hmne : w3.heap.size ≠ a2 := by have := hltW a2 hRW.mine; omega
        have hsz3 := hsr3.size
        rw [hWs] at hW0
        rw [← hW]
        clear hW
        generalize w3.heap.size = M at *
        have HW := Lib.hid hWs
        clear hWs hsr3
        refine (wnum_any _ 9 (by omega) (by omega) _ [] _ hW0 (by simp)).mono ?_
        rintro _ w4 ⟨rfl, F4, hW4, hc4, hn4⟩
        have hs4 : Same W w4 := Chg.since (Chg.alloc_ _ _ _) hc4 (fun k hk => by have := HW.out; omega)
        have hf4 := hn4.since (n := M + 1) (fun k hk => by omega) (by have := HW.out; simp; omega)
        have hF4 : ∀ k, F4 k → M < k := fun k hk => by have := hf4 k hk; omega
        rw [show [] ++ numB (9 : Int).toNat = [9] from numB_9] at hW4
        clear hc4 hn4 hf4 hW0
        go_wp2_with fail
        refine (wbytes_any _ F4 _ w4 hW4 (by simp)).mono ?_
        rintro _ w5 ⟨v5, rfl, R5⟩
        obtain ⟨A5, c5, hv5⟩ := R5.form
        subst hv5
        have hs5 := hs4.trans R5.2
        have hW5 := hW4.keep R5.2 (fun _ _ h => h)
        have hlt4 : Lt F4 w4 := by obtain ⟨v, h⟩ := hW4; exact h.lt
        have ho5 : Over w5 w5 w4.heap.size w5.heap.size (.slice A5 1 c5) 1 := Over.start R5.1 rfl (fun g hg => (R5.1.lt hg).2)
        have hsz4 := hs4.size
        have hMW : M < W.heap.size := by have := HW.out; omega
        clear R5 hW4 hs4 hltW
        go_wp2_with fail
        go_loopw [12] (fun i wr => ∃ k : Nat, i = .int .i64 k ∧ k ≤ 1 ∧ Over w5 wr w4.heap.size w5.heap.size (.slice A5 1 c5) 1) (fun i _ => 1 - (intOf i).toNat)
        case atStart => exact ⟨0, rfl, Nat.zero_le _, ho5⟩
        case round =>
          obtain ⟨k, rfl, hk, hO⟩ := hrel
          by_cases hkl : k < 1
          · obtain ⟨g, c, x, hv, hnc, hcm, hcx, hfx, hst⟩ := hO.step hkl
            injection hv with e1 e2 e3
            subst e1; subst e3
            have HST := Lib.hid (hst b)
            clear hst e2
            go_wp2_with fail
            go_roundw
            case rel => exact ⟨k + 1, by go_num, by omega, HST.out⟩
            case measure => simp [intOf]; omega
          · obtain ⟨lx, -, -, -, hcx⟩ := hO
            have hR5 := (hRW.keep hs5 (fun _ _ h => h)).keep hcx (fun k hk h => by have := hltM k hk; omega)
            have hW6 := hW5.keep hcx (fun k hk h => by have := hlt4 k hk; omega)
            have hb6 := (hs5.at_ hblk (fun h => h))
            have hb7 := hcx.at_ hb6 (fun h => by omega)
            have hsr7 : Same w wr := Chg.since (hsW.trans hs5) hcx (fun k hk => by omega)
            obtain ⟨c0, c1, -, -⟩ := two_cells hb7
            clear hb6 hcx hRW hW5 ho5 hsW hs5 hblk hs0 hp hp0
            clear hb7
            go_wp2_with fail
            have hF4' : ∀ {w8 : World}, Wr w8 F4 (M + 1) [9] → ∀ k, F4 k → k < w8.heap.size := fun h => by obtain ⟨v, h⟩ := h; exact h.lt
            go_region_held3 (fun w' => w'.cell? ⟨M, 1, none⟩ = some (.int .i64 e6)) (go_keep) (first | (go_at_call 17; refine (rnum_is a2 F2 p 0 _ hR5.drew n6 l6 e6 HQ.out).mono ?_; rintro _ w8 ⟨rfl, hR8, hc8⟩; have k8 := hc8.cell' c1 (show ¬ M = a2 by omega); have hW8 := hW6.drew.keep hc8 (fun k hk (h : k = a2) => by have := hF4 k hk; have := hltM a2 hR8.mine; omega); have hs8 : Same w w8 := Chg.since hsr7.drew hc8 (fun k hk => by omega)) | (go_at_call 18; refine (rerr_any a2 F2 l6 e6 _ hR8).mono ?_; rintro _ _ ⟨rfl, rfl⟩) | (go_at_call 10; ((with_reducible refine (wnum_any _ 1 (by omega) (by omega) F4 [9] w8 hW8 (by simp)).mono ?_); rintro _ w9 ⟨rfl, F9, hW9, hc9, hn9⟩; have k9 := hc9.cell' k8 (show ¬ F4 M from fun h => by have := hF4 M h; omega); have hs9 : Same w w9 := Chg.since hs8 hc9 (fun k hk => by have := hF4 k hk; omega))) | (go_at_call 10; ((with_reducible refine (wnum_any _ 1 (by omega) (by omega) F4 [9] (w8.alloc _) (hW8.alloc _) (by simp)).mono ?_); rintro _ w9 ⟨rfl, F9, hW9, hc9, hn9⟩; have k9 := hc9.cell' (Lib.cell?_alloc_some _ k8) (show ¬ F4 M from fun h => by have := hF4 M h; omega); have hs9 : Same w w9 := Chg.since (hs8.alloc _) hc9 (fun k hk => by have := hF4 k hk; omega); have hlit9 := (bs_lit w8 5 #[.int .u8 9, .int .u8 1] [9, 1] 2 rfl (by unfold maxLen; simp) rfl).keep hc9 (fun k hk h => by have := hF4' hW8 k h; omega))) | (go_at_call 11; ((with_reducible refine (wbytes_any _ F9 _ w9 hW9 (by rw [numB_1]; simp)).mono ?_); rintro _ w10 ⟨v10, rfl, R10⟩; have k10 := R10.2.cell' k9 (fun h => h); have hs10 := hs9.trans R10.2; have R11 := fresh_91 R10; obtain ⟨A10, c10, hv10⟩ : ∃ A c, v10 = .slice A 2 c := R11.form; subst hv10; have hx10 := (Own.bs (F := fun _ => True) R11 (fun _ _ => trivial)); (try have hlit10 := hlit9.same R10.2))) | (go_at_call 11; ((with_reducible refine (wbytes_any _ F9 _ (w9.alloc _) (hW9.alloc _) (by rw [numB_1]; simp)).mono ?_); rintro _ w10 ⟨v10, rfl, R10⟩; have k10 := R10.2.cell' (Lib.cell?_alloc_some _ k9) (fun h => h); have hs10 := (hs9.alloc _).trans R10.2; have R11 := fresh_91 R10; obtain ⟨A10, c10, hv10⟩ : ∃ A c, v10 = .slice A 2 c := R11.form; subst hv10; have hx10 := (Own.bs (F := fun _ => True) R11 (fun _ _ => trivial)); have hlit10 := (bs_lit w9 5 #[.int .u8 9, .int .u8 1] [9, 1] 2 rfl (by unfold maxLen; simp) rfl).same R10.2)) | (go_at_call 15; ((with_reducible refine (alike_same _ _ [9, 1] _ _ w10 hx10 hlit10).mono ?_); rintro _ w12 ⟨rfl, hs12'⟩; have k12 := hs12'.cell' k10 (fun h => h); have hs12 := hs10.trans hs12')) | (go_at_call 15; ((with_reducible refine (alike_same _ _ [9, 1] _ _ (w10.alloc _) (hx10.alloc _) (bs_lit w10 5 #[.int .u8 9, .int .u8 1] [9, 1] 2 rfl (by unfold maxLen; simp) rfl)).mono ?_); rintro _ w12 ⟨rfl, hs12'⟩; have k12 := hs12'.cell' (Lib.cell?_alloc_some _ k10) (fun h => h); have hs12 := (hs10.alloc _).trans hs12')))
            all_goals
              go_wp2_with fail
              go_ret
              exact ⟨rfl, hs12⟩
  · have hs' : (60 : Int) < (p.length : Int) := by omega
    go_enter Try.func4, Try.ntmps4
    go_wp2_with fail
    refine (three_any _).mono ?_
    rintro _ w0 ⟨rfl, hs0⟩
    go_wp2_with fail
    refine (three_any _).mono ?_
    rintro _ w1 ⟨rfl, hs1⟩
    go_wp2_with fail
    go_ret
    exact ⟨rfl, hs0.trans hs1⟩
end Go.Proofs.Ytahfnbgbjphngaa
