/- The walk of carrierlaw02.CodeBack: what is laid is read, one by one. -/
import Derived.Test.YtahfnbgbjphngaaLBackB
import Derived.Deep.RegionHeld3
namespace Go.Proofs.Ytahfnbgbjphngaa
open Go Go.RowKit Go.Proofs

def restK (l : List It) (k : Nat) : List UInt8 := (l.drop k).flatMap (fun x => itB x.kind x.n x.s)
theorem restK_end (l : List It) : restK l l.length = [] := by simp [restK]
theorem restK_zero (l : List It) : restK l 0 = layK l l.length := by simp [restK, layK]
theorem restK_succ (l : List It) (k : Nat) (h : k < l.length) : restK l k = itB l[k].kind l[k].n l[k].s ++ restK l (k + 1) := by
  unfold restK
  rw [List.drop_eq_getElem_cons h, List.flatMap_cons]
theorem bytes_eta (s : ByteArray) : (⟨s.data.toList.toArray⟩ : ByteArray) = s := by simp
theorem layK_len (l : List It) (hs : SmallL l) (hn : ∀ x ∈ l, 0 ≤ x.n ∧ x.n ≤ 18446744073709551615) (k : Nat) (hk : k ≤ l.length) : (layK l k).length ≤ 70 * k := by
  induction k with
  | zero => rw [layK_zero]; simp
  | succ k ih =>
    rw [layK_succ l k (by omega), List.length_append]
    have h1 := ih (by omega)
    have h2 := hn l[k] (List.getElem_mem (by omega))
    have h3 := itB_len l[k].kind l[k].n l[k].s h2.1 h2.2 (hs.1 k (by omega))
    omega

theorem rtext_s (a : Nat) (F : Nat → Prop) (l : List UInt8) (w : World) (h : Rd w F a l 0) (hl : l.length ≤ 140737488355328) (s : ByteArray) (l1 : List UInt8) (hq : Hid (readText l 0 60 = (s.data.toList, l1, 0))) :
    Calls Try.prog 21 #[.pointer (some ⟨a, 0, none⟩), .int .i64 60] w fun en w' => en = .returned (.string s) ∧ RdPost w w' F a l1 0 :=
  (rtext_is a F l 0 60 w h hl (by omega) (by omega) _ _ _ hq.out).mono fun e w' h => by rw [bytes_eta] at h; exact h

set_option maxHeartbeats 4000000 in
set_option maxRecDepth 100000 in
theorem codeBack_walk (v : Value) (l : List It) (w : World) (h : Its w v l) :
    Calls Try.prog 7 #[v] w fun e w' => e = .returned (.bool true) ∧ Same w w' := by
  obtain ⟨A, c, hv, hlc, hcm, hb3, -⟩ := id h
  have hns : ∀ x ∈ l, 0 ≤ x.n ∧ x.n ≤ 18446744073709551615 := fun x hx => ⟨(hb3 x hx).2.2.1, (hb3 x hx).2.2.2⟩
  have HNS := Lib.hid hns
  clear hb3 hns
  subst hv
  go_enter Try.func7, Try.ntmps7
  go_wp2_with fail
  refine (three_any _).mono ?_
  rintro _ w0 ⟨rfl, hs0⟩
  go_wp2_with fail
  refine (small_any _ l _ (h.same hs0)).mono ?_
  rintro _ _ ⟨a, rfl, ha, rfl⟩
  cases a
  · clear ha
    go_wp2_with fail
    refine (three_any _).mono ?_
    rintro _ w1 ⟨rfl, hs1⟩
    go_wp2_with fail
    go_ret
    exact ⟨rfl, hs0.trans hs1⟩
  · have hsm : SmallL l := ha.1 rfl
    have HSM := Lib.hid hsm
    have hl30 := hsm.2
    clear ha hsm
    go_wp2_with fail
    refine (laid_any _ l _ (h.same hs0) HSM.out).mono ?_
    rintro _ w1 ⟨A1, c1, A2, c2, rfl, hb1, hb2, hs1⟩
    have hs01 := hs0.trans hs1
    have hLlen : (layK l l.length).length ≤ 2100 := by have := layK_len l HSM.out HNS.out l.length (Nat.le_refl _); omega
    go_wp2_with fail
    refine (newr_any _ (layK l l.length) _ _ hb1 (by omega)).mono ?_
    rintro _ w2 ⟨a, F, rfl, hR, hs2, hF⟩
    have hb1' := Lib.hid (hb1.same hs2)
    have hb2' := Lib.hid (hb2.same hs2)
    have hw2 := hs01.trans hs2
    have hFw : ∀ k, F k → w1.heap.size ≤ k := hF
    have hlt1 := Lib.hid (hb1.old.same hs2)
    have hlt2 := Lib.hid (hb2.old.same hs2)
    rw [← restK_zero] at hR
    go_wp2_with fail
    have haw : w1.heap.size ≤ a := hFw a hR.mine
    have hw1 : w.heap.size ≤ w1.heap.size := hs01.size
    have hrl : ∀ k, k ≤ l.length → (restK l k).length ≤ 2100 := by
      intro k hk
      have h1 : layK l l.length = layK l k ++ restK l k := by
        unfold layK restK
        rw [List.take_length, ← List.flatMap_append, List.take_append_drop]
      have h2 : (layK l l.length).length = (layK l k).length + (restK l k).length := by rw [h1, List.length_append]
      omega
    have HRL := Lib.hid hrl
    clear hrl hb1 hb2 hFw hF
    go_loopg [6] l.length (fun gk i wr => ∃ k, i = .int .i64 (k : Nat) ∧ k + gk = l.length ∧ Rd wr F a (restK l k) 0 ∧ Chg (fun k => k = a) w2 wr)
    case atStart => exact ⟨0, rfl, by omega, hR, Chg.refl _ _⟩
    case round =>
      obtain ⟨k, rfl, hk, hR3, hc⟩ := hrel
      clear hR
      by_cases hg : 0 < gk
      · have hkl : k < l.length := by omega
        have hk1 : (k : Int) < (l.length : Int) := by omega
        obtain ⟨b, o, c', hv, -, -, x1, x2, x3, y1, y2, y3, y4⟩ := (h.same hw2).item hkl
        injection hv with e1 e2 e3
        subst e1; subst e3
        clear e2
        have hbw : b < w.heap.size := by obtain ⟨b', o', c'', hv', -, -, x1', -⟩ := h.item hkl; injection hv' with e1; injection e1 with e1; injection e1 with e1; subst e1; exact cell_lt x1'
        have hba : ¬ b = a := by omega
        have hNext := restK_succ l k hkl
        have hsz := HSM.out.1 k hkl
        have hlk := HRL.out k (by omega)
        generalize l[k].kind = kd at *
        generalize l[k].n = n at *
        generalize l[k].s = s at *
        obtain ⟨nn, rfl⟩ : ∃ m : Nat, n = (m : Int) := ⟨n.toNat, by omega⟩
        obtain ⟨l2, HL2⟩ : ∃ l2, Hid (restK l (k + 1) = l2) := ⟨_, Lib.hid rfl⟩
        have HN : Hid (restK l k = itB kd (nn : Int) s ++ l2) := by show _ = _; rw [← HL2.out]; exact hNext
        clear hNext
        generalize restK l k = lk at *
        have z1 := hc.cell' x1 (fun e => by have e' : b = a := e; omega)
        have z2 := hc.cell' x2 (fun e => by have e' : b = a := e; omega)
        have z3 := hc.cell' x3 (fun e => by have e' : b = a := e; omega)
        have X2 := Lib.hid x2
        have X3 := Lib.hid x3
        clear x1 x2 x3
        by_cases hx : kd % 3 = 0
        · have hx3 : (kd % 3 == 0) = true := by simp [hx]
          have hx2 := Lib.hid hx
          clear hx
          have HQ : Hid (readNum lk 0 = (nn, l2, 0)) := by
            show _ = _
            rw [HN.out]; unfold itB; rw [if_pos hx2.out]
            have e : ((nn : Int)).toNat = nn := by omega
            rw [e]; exact readNum_back nn l2 (by omega)
          have ZZ := X2
          go_wp2_with fail
          go_region_held3 (fun w' => w'.cell? ⟨b, o + k * 3 + 1, none⟩ = some (.int .u64 (nn : Int))) (go_keep) (first | (go_at_call 17; refine (rnum_is a F lk 0 _ hR3.drew nn l2 0 HQ.out).mono ?_; rintro _ w4 ⟨rfl, hR4, hc4⟩; have z4 := (hc.trans hc4.undrew).cell' ZZ.out (fun e => hba e)))
          all_goals
            go_wp2_with fail
            go_roundg (gk - 1)
            case measure => omega
            case rel => exact ⟨k + 1, by go_num, by omega, by rw [HL2.out]; exact hR4, hc.trans hc4.undrew⟩
        · have hx3 : (kd % 3 == 0) = false := by simp [hx]
          have hx2 := Lib.hid hx
          clear hx
          by_cases hy : kd % 3 = 1
          · have hx5 : (kd % 3 == 1) = true := by simp [hy]
            have hx4 := Lib.hid hy
            clear hy
            have hwr : IntKind.i64.wrap (nn : Int) = wrap64 (nn : Int) := by rw [IntKind.wrap_i64]; unfold wrap64; rfl
            have HQ : Hid (readInt lk 0 = (wrap64 (nn : Int), l2, 0)) := by
              show _ = _
              rw [HN.out]; unfold itB; rw [if_neg hx2.out, if_pos hx4.out]
              exact readInt_back _ _ (by unfold wrap64; omega) (by unfold wrap64; omega)
            have ZZ := X2
            go_wp2_with fail
            go_region_held3 (fun w' => w'.cell? ⟨b, o + k * 3 + 1, none⟩ = some (.int .u64 (nn : Int))) (go_keep) (first | (go_at_call 24; refine (rint_is a F lk 0 _ hR3.drew (wrap64 (nn : Int)) l2 0 HQ.out).mono ?_; rintro _ w4 ⟨rfl, hR4, hc4⟩; have z4 := (hc.trans hc4.undrew).cell' ZZ.out (fun e => hba e)))
            all_goals
              go_wp2_with fail
              go_roundg (gk - 1)
              case measure => omega
              case rel => exact ⟨k + 1, by go_num, by omega, by rw [HL2.out]; exact hR4, hc.trans hc4.undrew⟩
          · have hx5 : (kd % 3 == 1) = false := by simp [hy]
            have hx4 := Lib.hid hy
            clear hy
            have HQ : Hid (readText lk 0 60 = (s.data.toList, l2, 0)) := by
              show _ = _
              rw [HN.out]; unfold itB; rw [if_neg hx2.out, if_neg hx4.out]
              have e := size_toList s
              exact readText_back _ _ _ (by omega) (by omega)
            have ZZ := X3
            go_wp2_with fail
            go_region_held3 (fun w' => w'.cell? ⟨b, o + k * 3 + 2, none⟩ = some (.string s)) (go_keep) (first | (go_at_call 21; refine (rtext_s a F lk _ hR3.drew (by omega) s l2 HQ).mono ?_; rintro _ w4 ⟨rfl, hR4, hc4⟩; have z4 := (hc.trans hc4.undrew).cell' ZZ.out (fun e => hba e)))
            all_goals
              go_wp2_with fail
              go_roundg (gk - 1)
              case measure => omega
              case rel => exact ⟨k + 1, by go_num, by omega, by rw [HL2.out]; exact hR4, hc.trans hc4.undrew⟩
      · have hk1 : (l.length : Int) ≤ (k : Int) := by omega
        have hkl : k = l.length := by omega
        subst hkl
        rw [restK_end] at hR3
        have hp1 := hlt1.out.keep hc (fun k hk (e : k = a) => by have := hk.2; omega)
        have hp2 := hlt2.out.keep hc (fun k hk (e : k = a) => by have := hk.2; omega)
        have hsr : Same w wr := hw2.since hc (fun k hk => by omega)
        go_wp2_with fail
        refine (alike_same _ _ _ _ _ _ hp1 hp2).mono ?_
        rintro _ w4 ⟨rfl, hs4⟩
        have hR4 := hR3.keep hs4 (fun _ _ h => h)
        clear hp1 hp2 hR3
        go_wp2_with fail
        refine (rend_any a F [] 0 _ hR4).mono ?_
        rintro _ _ ⟨rfl, rfl⟩
        rw [show endErr [] 0 = 0 from rfl]
        go_wp2_with fail
        refine (rleft_any a F [] 0 _ hR4).mono ?_
        rintro _ _ ⟨rfl, rfl⟩
        go_wp2_with fail
        go_ret
        exact ⟨rfl, hsr.trans hs4⟩
end Go.Proofs.Ytahfnbgbjphngaa
