/- The walk of carrierlaw09.EventTurned: an event's bytes in which one is another one, that are cut, or go on. -/
import Derived.Test.YtpommgohciigoaaEvC
import Derived.Test.YtpommgohciigoaaLEvRight
namespace Go.Proofs.Ytpommgohciigoaa
open Go Go.RowKit Go.Proofs

/-! ### bytes of the call's own, byte by byte -/
theorem Own.stored {w : World} {base g n c : Nat} {l : List UInt8} (h : Own w base (.slice (some ⟨g, 0, none⟩) n c) l) (j : Nat) (b : UInt8) :
    Own (w.setCell ⟨g, j, none⟩ (.int .u8 (b.toNat : Int))) base (.slice (some ⟨g, 0, none⟩) n c) (l.set j b) := by
  have hn : n = l.length := by obtain ⟨A, cap, h1⟩ := h.form; injection h1
  subst hn
  have := (World.ownsRow.stored h j (.int .u8 (b.toNat : Int))).1
  show World.ownsRow _ _ _ _ _ (l.set j b).length (bvs (l.set j b))
  rw [List.length_set]
  have e : bvs (l.set j b) = (bvs l).set j (.int .u8 (b.toNat : Int)) := by simp [bvs, List.map_set]
  rw [e]; exact this
/-- An own slice of a byte or more: where it lies; what its cells hold. -/
theorem Own.cell_at {w : World} {base : Nat} {v : Value} {l : List UInt8} (h : Own w base v l) (h0 : 0 < l.length) :
    ∃ g c, v = .slice (some ⟨g, 0, none⟩) l.length c ∧ base ≤ g ∧ g < w.heap.size ∧ l.length ≤ c ∧ c ≤ 9223372036854775807 ∧ (∀ j x, l[j]? = some x → w.cell? ⟨g, j, none⟩ = some (.int .u8 (x.toNat : Int))) ∧ ∀ j, w.frozen? ⟨g, j, none⟩ = false := by
  obtain ⟨g, c, hv, hb, hg⟩ := World.ownsRow.form h h0
  subst hv
  have hbs := (Own.bs (F := fun _ => True) h (fun _ _ => trivial))
  obtain ⟨-, h1, h2⟩ := hbs.bounds
  obtain ⟨A, c', hv, _, _, hx⟩ := hbs
  injection hv with e1 _ e3
  subst e3
  obtain ⟨b, o, hA, _, hc⟩ := hx h0
  rw [← e1] at hA
  injection hA with hA
  injection hA with e4 e5
  subst e4; subst e5
  refine ⟨g, c, rfl, hb, hg, h1, h2, fun j x hj => by have := hc j x hj; rwa [Nat.zero_add] at this, fun j => World.ownsRow.frozenAt h j⟩


/-- What Decode tells of bytes: an error; or an event that may be, whose own bytes these are. -/
theorem dec_cases (l : List UInt8) : (∃ f : Int, f ≠ 0 ∧ decV (decE l) = .tuple #[noEv, .int .i64 f]) ∨
    ∃ (id tx : Int) (o : ByteArray) (tries table kind key : Int) (t : ByteArray), decV (decE l) = .tuple #[evv id tx o tries table kind key t, .int .i64 0] ∧ EvOk id tx o.size tries table kind t.size ∧ id ≤ 9223372036854775807 ∧ tx ≤ 9223372036854775807 ∧ -9223372036854775808 ≤ key ∧ key ≤ 9223372036854775807 ∧ encB id tx o tries table kind key t = l := by
  by_cases h : (decE l).f = 0
  · right
    obtain ⟨h1, h2, h3, h4, h5, h6⟩ := dec_canon l h
    refine ⟨_, _, _, _, _, _, _, _, ?_, ?_, h2, h3, h4, h5, h6⟩
    · unfold decV; rw [if_pos h]
    · have e : ∀ x : List UInt8, (⟨x.toArray⟩ : ByteArray).size = x.length := fun x => by simp [ByteArray.size]
      rw [e, e]; exact h1
  · left
    exact ⟨(decE l).f, h, by unfold decV; rw [if_neg h]⟩

set_option maxHeartbeats 6400000 in
set_option maxRecDepth 100000 in
theorem eventTurned_walk (id tx : Int) (o : ByteArray) (key : Int) (t : ByteArray) (n : Int) (b : UInt8) (cut : Bool) (vm : Value) (more : List UInt8) (F0 : Nat → Prop) (hid : id ≤ 9223372036854775807) (htx : tx ≤ 9223372036854775807) (hy0 : -9223372036854775808 ≤ key) (hy1 : key ≤ 9223372036854775807) (hn0 : 0 ≤ n) (hn1 : n ≤ 255) (w : World) (hm : Bs w F0 vm more) :
    Calls Try.prog 5 #[.int .i64 id, .int .i64 tx, .string o, .agg #[.int .i64 key, .string t], .int .u8 n, .int .u8 (b.toNat : Int), .bool cut, vm] w fun en w' => en = .returned (.bool true) ∧ Same w w' := by
  have hB := Lib.hid (heap_alloc_new w (.cells #[.int .i64 key, .string t] 23))
  have hal : Same w (w.alloc (.cells #[.int .i64 key, .string t] 23)) := Chg.alloc_ _ _ _
  have HAL := Lib.hid hal
  obtain ⟨AM, cM, hvm, -, -, -⟩ := _root_.id hm
  subst hvm
  have hmw := hm.same hal
  clear hal
  have hb255 : (b.toNat : Int) ≤ 255 := by have := b.toNat_lt; omega
  by_cases ho : o.size ≤ 60
  · have ho' : (o.size : Int) ≤ 60 := by omega
    by_cases ht : t.size ≤ 60
    · have ht' : (t.size : Int) ≤ 60 := by omega
      by_cases hml : more.length ≤ 10
      · have hml' : (more.length : Int) ≤ 10 := by omega
        go_enter Try.func5, Try.ntmps5
        go_wp2_with fail
        refine (nine_any _).mono ?_
        rintro _ w0 ⟨rfl, hs0⟩
        have hB0 := Lib.hid (hs0.at_ hB.out (fun h => h))
        have HS0 := Lib.hid (HAL.out.trans hs0)
        obtain ⟨c0, c1, -, -⟩ := two_cells hB0.out
        have hm0 := hmw.same hs0
        clear hs0 hmw
        generalize w.heap.size = B at *
        go_wp2_with fail
        refine (of_any id tx o 3 n (b.toNat : Int) key t _ hid htx hn0 hn1 (by omega) hb255).mono ?_
        rintro _ w1 ⟨id1, tx1, tr1, tb1, kd1, rfl, hok, hi1, hx1, hs1⟩
        unfold evv
        obtain ⟨o1, HO⟩ : ∃ S : ByteArray, cutB o 40 = S := ⟨_, rfl⟩
        obtain ⟨t1, HT⟩ : ∃ S : ByteArray, cutB t 40 = S := ⟨_, rfl⟩
        rw [HO, HT] at hok
        rw [HO, HT]
        clear HO HT c0 c1
        obtain ⟨L, HL⟩ : ∃ L, Hid (encB id1 tx1 o1 tr1 tb1 kd1 key t1 = L) := ⟨_, Lib.hid rfl⟩
        have hll : L.length ≤ 200 ∧ 0 < L.length := by rw [← HL.out]; exact enc_len id1 tx1 o1 tr1 tb1 kd1 key t1 hok hi1 hx1 hy0 hy1
        obtain ⟨Q, HQ⟩ : ∃ Q, Hid (L ++ more = Q) := ⟨_, Lib.hid rfl⟩
        have hql : Q.length ≤ 210 ∧ 0 < Q.length := by rw [← HQ.out, List.length_append]; omega
        have HOK := Lib.hid hok
        have hm1 := hm0.same hs1
        have HS1 := Lib.hid (HS0.out.trans hs1)
        clear hok hs1 hm0
        go_wp2_with fail
        refine (pencode_is id1 tx1 o1 tr1 tb1 kd1 key t1 _ HOK.out hi1 hx1 hy0 hy1 L HL).mono ?_
        rintro _ w2 ⟨A2, c2, rfl, R2⟩
        have hb2 := R2.bs
        have hm2 := hm1.same R2.sm
        have HS2 := Lib.hid (HS1.out.trans R2.sm)
        clear R2 hm1
        go_wp2_with fail
        refine (join_s _ _ _ _ _ _ L more Q _ _ _ hb2 hm2 (by omega) HQ).mono ?_
        rintro _ w3 ⟨A3, c3, rfl, R3⟩
        have hF3 : Hid (Fresh w2 w3 (.slice A3 Q.length c3) Q) := Lib.hid R3
        obtain ⟨g3, c3', hv3, hg31, hg32, hlc, hcm, hcell, hfz⟩ := Own.cell_at R3.1 hql.2
        injection hv3 with hv31 hv32 hv33
        subst hv31; subst hv33
        obtain ⟨k, hk⟩ : ∃ k : Nat, n.tmod (Q.length : Int) = (k : Int) := ⟨(n % (Q.length : Int)).toNat, by rw [Int.tmod_eq_emod_of_nonneg hn0]; have := Int.emod_nonneg n (show (Q.length : Int) ≠ 0 by omega); omega⟩
        have hkl : k < Q.length := by
          rw [Int.tmod_eq_emod_of_nonneg hn0] at hk
          have := Int.emod_lt_of_pos n (show (0 : Int) < (Q.length : Int) by omega)
          omega
        have hkl' : (k : Int) < (Q.length : Int) := by omega
        have hq0 : ((Q.length : Int) == 0) = false := by rw [beq_eq_false_iff_ne]; omega
        clear R3 hb2 hm2 hv32
        cases cut with
        | true =>
          obtain ⟨P, HP⟩ : ∃ P, Hid (Q.take k = P) := ⟨_, Lib.hid rfl⟩
          have hPl : P.length = k := by rw [← HP.out, List.length_take]; omega
          have hbz : Bs w3 (fun b => w2.heap.size ≤ b) (.slice (some ⟨g3, 0, none⟩) k c3) P := by
            rw [← HP.out]; exact hF3.out.bs.takeN (by omega)
          have HSZ := Lib.hid (HS2.out.trans hF3.out.sm)
          have hPm : P.length ≤ 210 := by omega
          subst hPl
          clear hcell hfz
          rcases dec_cases P with ⟨f, hf, HV⟩ | ⟨id2, tx2, o2, tr2, tb2, kd2, ky2, t2, HV, hok2, hi2, hx2, hy20, hy21, henc⟩
          · have hf0 : (f == 0) = false := by simp [hf]
            have hf1 : (f != 0) = true := by simp [hf]
            clear hf
            have HV := Lib.hid HV
            go_wp2_with fail
            refine (edecode_is _ _ _ _ P _ hbz (by omega) _ HV).mono ?_
            rintro _ v1 ⟨rfl, hs1⟩
            unfold noEv evv
            have hb1 := (hbz.same hs1).alloc (.cells #[.int .i64 0, .int .i64 0, .string ⟨#[]⟩, .int .i64 0, .int .i64 0, .int .u8 0, .int .i64 0, .string ⟨#[]⟩] 26)
            have HSA := Lib.hid (HSZ.out.trans (hs1.trans (Chg.alloc_ (fun _ => False) v1 (.cells #[.int .i64 0, .int .i64 0, .string ⟨#[]⟩, .int .i64 0, .int .i64 0, .int .u8 0, .int .i64 0, .string ⟨#[]⟩] 26))))
            have hX := Lib.hid (heap_alloc_new v1 (.cells #[.int .i64 0, .int .i64 0, .string ⟨#[]⟩, .int .i64 0, .int .i64 0, .int .u8 0, .int .i64 0, .string ⟨#[]⟩] 26))
            clear hs1 hbz
            go_upto_region 9 with fail
            generalize v1.alloc (.cells #[.int .i64 0, .int .i64 0, .string ⟨#[]⟩, .int .i64 0, .int .i64 0, .int .u8 0, .int .i64 0, .string ⟨#[]⟩] 26) = V1 at *
            generalize v1.heap.size = X at *
            go_wp2_with fail
            refine (pdecode_is _ _ _ _ P _ hb1 (by omega) _ HV).mono ?_
            rintro _ v2 ⟨rfl, hs2⟩
            unfold noEv evv
            have hb2 := (hb1.same hs2).alloc (.cells #[.int .i64 0, .int .i64 0, .string ⟨#[]⟩, .int .i64 0, .int .i64 0, .int .u8 0, .int .i64 0, .string ⟨#[]⟩] 26)
            have hal2 : Same v2 (v2.alloc (.cells #[.int .i64 0, .int .i64 0, .string ⟨#[]⟩, .int .i64 0, .int .i64 0, .int .u8 0, .int .i64 0, .string ⟨#[]⟩] 26)) := Chg.alloc_ _ _ _
            have HSB := Lib.hid (HSA.out.trans (hs2.trans hal2))
            have hX2 := Lib.hid ((hs2.trans hal2).at_ hX.out (fun h => h))
            have hY2 := Lib.hid (heap_alloc_new v2 (.cells #[.int .i64 0, .int .i64 0, .string ⟨#[]⟩, .int .i64 0, .int .i64 0, .int .u8 0, .int .i64 0, .string ⟨#[]⟩] 26))
            clear hs2 hal2 hb1
            go_upto_region 10 with fail
            generalize v2.alloc (.cells #[.int .i64 0, .int .i64 0, .string ⟨#[]⟩, .int .i64 0, .int .i64 0, .int .u8 0, .int .i64 0, .string ⟨#[]⟩] 26) = V2 at *
            generalize v2.heap.size = Y at *
            obtain ⟨x0, x1, x2, x3, x4, x5, x6, x7⟩ := ev_cells hX2.out
            obtain ⟨y0, y1, y2, y3, y4, y5, y6, y7⟩ := ev_cells hY2.out
            go_wp2_with fail
            go_ret
            exact ⟨rfl, HSB.out⟩
          · have HR2 : Hid (decide (EvOk id2 tx2 o2.size tr2 tb2 kd2 t2.size) = true) := Lib.hid (decide_eq_true hok2)
            have HOK2 := Lib.hid hok2
            have HEN := Lib.hid henc
            clear hok2 henc
            have HV := Lib.hid HV
            go_wp2_with fail
            refine (edecode_is _ _ _ _ P _ hbz (by omega) _ HV).mono ?_
            rintro _ v1 ⟨rfl, hs1⟩
            unfold evv
            have hb1 := (hbz.same hs1).alloc (.cells #[.int .i64 id2, .int .i64 tx2, .string o2, .int .i64 tr2, .int .i64 tb2, .int .u8 kd2, .int .i64 ky2, .string t2] 26)
            have HSA := Lib.hid (HSZ.out.trans (hs1.trans (Chg.alloc_ (fun _ => False) v1 (.cells #[.int .i64 id2, .int .i64 tx2, .string o2, .int .i64 tr2, .int .i64 tb2, .int .u8 kd2, .int .i64 ky2, .string t2] 26))))
            have hX := Lib.hid (heap_alloc_new v1 (.cells #[.int .i64 id2, .int .i64 tx2, .string o2, .int .i64 tr2, .int .i64 tb2, .int .u8 kd2, .int .i64 ky2, .string t2] 26))
            clear hs1 hbz
            go_upto_region 9 with fail
            generalize v1.alloc (.cells #[.int .i64 id2, .int .i64 tx2, .string o2, .int .i64 tr2, .int .i64 tb2, .int .u8 kd2, .int .i64 ky2, .string t2] 26) = V1 at *
            generalize v1.heap.size = X at *
            go_wp2_with fail
            refine (pdecode_is _ _ _ _ P _ hb1 (by omega) _ HV).mono ?_
            rintro _ v2 ⟨rfl, hs2⟩
            unfold evv
            have hb2 := (hb1.same hs2).alloc (.cells #[.int .i64 id2, .int .i64 tx2, .string o2, .int .i64 tr2, .int .i64 tb2, .int .u8 kd2, .int .i64 ky2, .string t2] 26)
            have hal2 : Same v2 (v2.alloc (.cells #[.int .i64 id2, .int .i64 tx2, .string o2, .int .i64 tr2, .int .i64 tb2, .int .u8 kd2, .int .i64 ky2, .string t2] 26)) := Chg.alloc_ _ _ _
            have HSB := Lib.hid (HSA.out.trans (hs2.trans hal2))
            have hX2 := Lib.hid ((hs2.trans hal2).at_ hX.out (fun h => h))
            have hY2 := Lib.hid (heap_alloc_new v2 (.cells #[.int .i64 id2, .int .i64 tx2, .string o2, .int .i64 tr2, .int .i64 tb2, .int .u8 kd2, .int .i64 ky2, .string t2] 26))
            clear hs2 hal2 hb1
            go_upto_region 10 with fail
            generalize v2.alloc (.cells #[.int .i64 id2, .int .i64 tx2, .string o2, .int .i64 tr2, .int .i64 tb2, .int .u8 kd2, .int .i64 ky2, .string t2] 26) = V2 at *
            generalize v2.heap.size = Y at *
            obtain ⟨x0, x1, x2, x3, x4, x5, x6, x7⟩ := ev_cells hX2.out
            obtain ⟨y0, y1, y2, y3, y4, y5, y6, y7⟩ := ev_cells hY2.out
            go_wp2_with fail
            refine (eright_b id2 tx2 o2 tr2 tb2 kd2 ky2 t2 _ true HR2).mono ?_
            rintro _ v3 ⟨rfl, hs3⟩
            have hX3 := Lib.hid (hs3.at_ hX2.out (fun h => h))
            have HSC := Lib.hid (HSB.out.trans hs3)
            have hb3 := hb2.same hs3
            clear hs3 hb2 x0 x1 x2 x3 x4 x5 x6 x7 y0 y1 y2 y3 y4 y5 y6 y7
            obtain ⟨x0, x1, x2, x3, x4, x5, x6, x7⟩ := ev_cells hX3.out
            go_wp2_with fail
            refine (eencode_is id2 tx2 o2 tr2 tb2 kd2 ky2 t2 _ HOK2.out hi2 hx2 hy20 hy21 P HEN).mono ?_
            rintro _ v4 ⟨A9, c9, rfl, R9⟩
            have hb4 := hb3.same R9.sm
            have hb9 := R9.bs
            have HSD := Lib.hid (HSC.out.trans R9.sm)
            clear R9 hb3 x0 x1 x2 x3 x4 x5 x6 x7
            go_wp2_with fail
            refine (alike_same _ _ P _ _ _ hb9 hb4).mono ?_
            rintro _ v5 ⟨rfl, hs5⟩
            go_wp2_with fail
            go_ret
            exact ⟨rfl, HSD.out.trans hs5⟩
        | false =>
          obtain ⟨P, HP⟩ : ∃ P, Hid (Q.set k b = P) := ⟨_, Lib.hid rfl⟩
          have hPl : P.length = Q.length := by rw [← HP.out, List.length_set]
          have hx := hcell k _ (List.getElem?_eq_getElem hkl)
          have hz := hfz k
          have hown : Own (w3.setCell ⟨g3, k, none⟩ (.int .u8 (b.toNat : Int))) w2.heap.size (.slice (some ⟨g3, 0, none⟩) Q.length c3) P := by
            rw [← HP.out]; exact Own.stored hF3.out.1 k b
          have hbz : Bs (w3.setCell ⟨g3, k, none⟩ (.int .u8 (b.toNat : Int))) (fun b => w2.heap.size ≤ b) (.slice (some ⟨g3, 0, none⟩) Q.length c3) P := Own.bs hown (fun g hg => (hown.lt hg).1)
          have HBZ := Lib.hid hbz
          have HSZ : Hid (Same w (w3.setCell ⟨g3, k, none⟩ (.int .u8 (b.toNat : Int)))) := Lib.hid (HS2.out.trans (hF3.out.sm.far (p := ⟨g3, k, none⟩) hg31 _))
          have hPm : P.length ≤ 210 := by omega
          have HPL := Lib.hid hPl
          clear hcell hfz hown hbz hPl
          go_upto_region 8 with fail
          generalize w3.setCell ⟨g3, k, none⟩ (.int .u8 (b.toNat : Int)) = W3 at *
          have hbz := HBZ.out
          rw [← HPL.out] at hbz
          rw [← HPL.out]
          rcases dec_cases P with ⟨f, hf, HV⟩ | ⟨id2, tx2, o2, tr2, tb2, kd2, ky2, t2, HV, hok2, hi2, hx2, hy20, hy21, henc⟩
          · have hf0 : (f == 0) = false := by simp [hf]
            have hf1 : (f != 0) = true := by simp [hf]
            clear hf
            have HV := Lib.hid HV
            go_wp2_with fail
            refine (edecode_is _ _ _ _ P _ hbz (by omega) _ HV).mono ?_
            rintro _ v1 ⟨rfl, hs1⟩
            unfold noEv evv
            have hb1 := (hbz.same hs1).alloc (.cells #[.int .i64 0, .int .i64 0, .string ⟨#[]⟩, .int .i64 0, .int .i64 0, .int .u8 0, .int .i64 0, .string ⟨#[]⟩] 26)
            have HSA := Lib.hid (HSZ.out.trans (hs1.trans (Chg.alloc_ (fun _ => False) v1 (.cells #[.int .i64 0, .int .i64 0, .string ⟨#[]⟩, .int .i64 0, .int .i64 0, .int .u8 0, .int .i64 0, .string ⟨#[]⟩] 26))))
            have hX := Lib.hid (heap_alloc_new v1 (.cells #[.int .i64 0, .int .i64 0, .string ⟨#[]⟩, .int .i64 0, .int .i64 0, .int .u8 0, .int .i64 0, .string ⟨#[]⟩] 26))
            clear hs1 hbz
            go_upto_region 9 with fail
            generalize v1.alloc (.cells #[.int .i64 0, .int .i64 0, .string ⟨#[]⟩, .int .i64 0, .int .i64 0, .int .u8 0, .int .i64 0, .string ⟨#[]⟩] 26) = V1 at *
            generalize v1.heap.size = X at *
            go_wp2_with fail
            refine (pdecode_is _ _ _ _ P _ hb1 (by omega) _ HV).mono ?_
            rintro _ v2 ⟨rfl, hs2⟩
            unfold noEv evv
            have hb2 := (hb1.same hs2).alloc (.cells #[.int .i64 0, .int .i64 0, .string ⟨#[]⟩, .int .i64 0, .int .i64 0, .int .u8 0, .int .i64 0, .string ⟨#[]⟩] 26)
            have hal2 : Same v2 (v2.alloc (.cells #[.int .i64 0, .int .i64 0, .string ⟨#[]⟩, .int .i64 0, .int .i64 0, .int .u8 0, .int .i64 0, .string ⟨#[]⟩] 26)) := Chg.alloc_ _ _ _
            have HSB := Lib.hid (HSA.out.trans (hs2.trans hal2))
            have hX2 := Lib.hid ((hs2.trans hal2).at_ hX.out (fun h => h))
            have hY2 := Lib.hid (heap_alloc_new v2 (.cells #[.int .i64 0, .int .i64 0, .string ⟨#[]⟩, .int .i64 0, .int .i64 0, .int .u8 0, .int .i64 0, .string ⟨#[]⟩] 26))
            clear hs2 hal2 hb1
            go_upto_region 10 with fail
            generalize v2.alloc (.cells #[.int .i64 0, .int .i64 0, .string ⟨#[]⟩, .int .i64 0, .int .i64 0, .int .u8 0, .int .i64 0, .string ⟨#[]⟩] 26) = V2 at *
            generalize v2.heap.size = Y at *
            obtain ⟨x0, x1, x2, x3, x4, x5, x6, x7⟩ := ev_cells hX2.out
            obtain ⟨y0, y1, y2, y3, y4, y5, y6, y7⟩ := ev_cells hY2.out
            go_wp2_with fail
            go_ret
            exact ⟨rfl, HSB.out⟩
          · have HR2 : Hid (decide (EvOk id2 tx2 o2.size tr2 tb2 kd2 t2.size) = true) := Lib.hid (decide_eq_true hok2)
            have HOK2 := Lib.hid hok2
            have HEN := Lib.hid henc
            clear hok2 henc
            have HV := Lib.hid HV
            go_wp2_with fail
            refine (edecode_is _ _ _ _ P _ hbz (by omega) _ HV).mono ?_
            rintro _ v1 ⟨rfl, hs1⟩
            unfold evv
            have hb1 := (hbz.same hs1).alloc (.cells #[.int .i64 id2, .int .i64 tx2, .string o2, .int .i64 tr2, .int .i64 tb2, .int .u8 kd2, .int .i64 ky2, .string t2] 26)
            have HSA := Lib.hid (HSZ.out.trans (hs1.trans (Chg.alloc_ (fun _ => False) v1 (.cells #[.int .i64 id2, .int .i64 tx2, .string o2, .int .i64 tr2, .int .i64 tb2, .int .u8 kd2, .int .i64 ky2, .string t2] 26))))
            have hX := Lib.hid (heap_alloc_new v1 (.cells #[.int .i64 id2, .int .i64 tx2, .string o2, .int .i64 tr2, .int .i64 tb2, .int .u8 kd2, .int .i64 ky2, .string t2] 26))
            clear hs1 hbz
            go_upto_region 9 with fail
            generalize v1.alloc (.cells #[.int .i64 id2, .int .i64 tx2, .string o2, .int .i64 tr2, .int .i64 tb2, .int .u8 kd2, .int .i64 ky2, .string t2] 26) = V1 at *
            generalize v1.heap.size = X at *
            go_wp2_with fail
            refine (pdecode_is _ _ _ _ P _ hb1 (by omega) _ HV).mono ?_
            rintro _ v2 ⟨rfl, hs2⟩
            unfold evv
            have hb2 := (hb1.same hs2).alloc (.cells #[.int .i64 id2, .int .i64 tx2, .string o2, .int .i64 tr2, .int .i64 tb2, .int .u8 kd2, .int .i64 ky2, .string t2] 26)
            have hal2 : Same v2 (v2.alloc (.cells #[.int .i64 id2, .int .i64 tx2, .string o2, .int .i64 tr2, .int .i64 tb2, .int .u8 kd2, .int .i64 ky2, .string t2] 26)) := Chg.alloc_ _ _ _
            have HSB := Lib.hid (HSA.out.trans (hs2.trans hal2))
            have hX2 := Lib.hid ((hs2.trans hal2).at_ hX.out (fun h => h))
            have hY2 := Lib.hid (heap_alloc_new v2 (.cells #[.int .i64 id2, .int .i64 tx2, .string o2, .int .i64 tr2, .int .i64 tb2, .int .u8 kd2, .int .i64 ky2, .string t2] 26))
            clear hs2 hal2 hb1
            go_upto_region 10 with fail
            generalize v2.alloc (.cells #[.int .i64 id2, .int .i64 tx2, .string o2, .int .i64 tr2, .int .i64 tb2, .int .u8 kd2, .int .i64 ky2, .string t2] 26) = V2 at *
            generalize v2.heap.size = Y at *
            obtain ⟨x0, x1, x2, x3, x4, x5, x6, x7⟩ := ev_cells hX2.out
            obtain ⟨y0, y1, y2, y3, y4, y5, y6, y7⟩ := ev_cells hY2.out
            go_wp2_with fail
            refine (eright_b id2 tx2 o2 tr2 tb2 kd2 ky2 t2 _ true HR2).mono ?_
            rintro _ v3 ⟨rfl, hs3⟩
            have hX3 := Lib.hid (hs3.at_ hX2.out (fun h => h))
            have HSC := Lib.hid (HSB.out.trans hs3)
            have hb3 := hb2.same hs3
            clear hs3 hb2 x0 x1 x2 x3 x4 x5 x6 x7 y0 y1 y2 y3 y4 y5 y6 y7
            obtain ⟨x0, x1, x2, x3, x4, x5, x6, x7⟩ := ev_cells hX3.out
            go_wp2_with fail
            refine (eencode_is id2 tx2 o2 tr2 tb2 kd2 ky2 t2 _ HOK2.out hi2 hx2 hy20 hy21 P HEN).mono ?_
            rintro _ v4 ⟨A9, c9, rfl, R9⟩
            have hb4 := hb3.same R9.sm
            have hb9 := R9.bs
            have HSD := Lib.hid (HSC.out.trans R9.sm)
            clear R9 hb3 x0 x1 x2 x3 x4 x5 x6 x7
            go_wp2_with fail
            refine (alike_same _ _ P _ _ _ hb9 hb4).mono ?_
            rintro _ v5 ⟨rfl, hs5⟩
            go_wp2_with fail
            go_ret
            exact ⟨rfl, HSD.out.trans hs5⟩
      · have hml' : (10 : Int) < (more.length : Int) := by omega
        go_enter Try.func5, Try.ntmps5
        go_wp2_with fail
        refine (nine_any _).mono ?_
        rintro _ w0 ⟨rfl, hs0⟩
        have hB0 := Lib.hid (hs0.at_ hB.out (fun h => h))
        obtain ⟨c0, c1, -, -⟩ := two_cells hB0.out
        have HS0 := Lib.hid (HAL.out.trans hs0)
        clear hs0
        generalize w.heap.size = B at *
        go_wp2_with fail
        refine (nine_any _).mono ?_
        rintro _ w1 ⟨rfl, hs1⟩
        go_wp2_with fail
        go_ret
        exact ⟨rfl, HS0.out.trans hs1⟩
    · have ht' : (60 : Int) < (t.size : Int) := by omega
      go_enter Try.func5, Try.ntmps5
      go_wp2_with fail
      refine (nine_any _).mono ?_
      rintro _ w0 ⟨rfl, hs0⟩
      have hB0 := Lib.hid (hs0.at_ hB.out (fun h => h))
      obtain ⟨c0, c1, -, -⟩ := two_cells hB0.out
      have HS0 := Lib.hid (HAL.out.trans hs0)
      clear hs0
      generalize w.heap.size = B at *
      go_wp2_with fail
      refine (nine_any _).mono ?_
      rintro _ w1 ⟨rfl, hs1⟩
      go_wp2_with fail
      go_ret
      exact ⟨rfl, HS0.out.trans hs1⟩
  · have ho' : (60 : Int) < (o.size : Int) := by omega
    go_enter Try.func5, Try.ntmps5
    go_wp2_with fail
    refine (nine_any _).mono ?_
    rintro _ w0 ⟨rfl, hs0⟩
    have HS0 := Lib.hid (HAL.out.trans hs0)
    clear hs0
    generalize w.heap.size = B at *
    go_wp2_with fail
    refine (nine_any _).mono ?_
    rintro _ w1 ⟨rfl, hs1⟩
    go_wp2_with fail
    go_ret
    exact ⟨rfl, HS0.out.trans hs1⟩
end Go.Proofs.Ytpommgohciigoaa
