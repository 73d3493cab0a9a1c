/- The law EntryTurned. -/
import Derived.Test.YtdkankiohoocaaaQLeFd
import Derived.Test.YtdkankiohoocaaaQLeG
import Derived.Test.YtdkankiohoocaaaQRfQ
namespace Go.Proofs.Ytdkankiohoocaaa
set_option linter.unusedSimpArgs false
set_option linter.unusedVariables false
open Go Go.RowKit Go.Proofs

/-! ### bytes of the call's own, byte by byte -/
theorem Own.stored {w : World} {base g n c : Nat} {l : List UInt8} (h : Own w base (.slice (some ⟨g, 0, none⟩) n c) l) (j : Nat) (b : UInt8) :
    Own (w.setCell ⟨g, j, none⟩ (.int .u8 (b.toNat : Int))) base (.slice (some ⟨g, 0, none⟩) n c) (l.set j b) := by
  have hn : n = l.length := by obtain ⟨A, cap, h1⟩ := h.form; injection h1
  subst hn
  have := (World.ownsRow.stored h j (.int .u8 (b.toNat : Int))).1
  show World.ownsRow _ _ _ _ _ (l.set j b).length (bvs (l.set j b))
  rw [List.length_set]
  have e : bvs (l.set j b) = (bvs l).set j (.int .u8 (b.toNat : Int)) := by simp [bvs, List.map_set]
  rw [e]; exact this
/-- An own slice of a byte or more: where it lies; what its cells hold. -/
theorem Own.cell_at {w : World} {base : Nat} {v : Value} {l : List UInt8} (h : Own w base v l) (h0 : 0 < l.length) :
    ∃ g c, v = .slice (some ⟨g, 0, none⟩) l.length c ∧ base ≤ g ∧ g < w.heap.size ∧ l.length ≤ c ∧ c ≤ 9223372036854775807 ∧ (∀ j x, l[j]? = some x → w.cell? ⟨g, j, none⟩ = some (.int .u8 (x.toNat : Int))) ∧ ∀ j, w.frozen? ⟨g, j, none⟩ = false := by
  obtain ⟨g, c, hv, hb, hg⟩ := World.ownsRow.form h h0
  subst hv
  have hbs := (Own.bs (F := fun _ => True) h (fun _ _ => trivial))
  obtain ⟨-, h1, h2⟩ := hbs.bounds
  obtain ⟨A, c', hv, _, _, hx⟩ := hbs
  injection hv with e1 _ e3
  subst e3
  obtain ⟨b, o, hA, _, hc⟩ := hx h0
  rw [← e1] at hA
  injection hA with hA
  injection hA with e4 e5
  subst e4; subst e5
  refine ⟨g, c, rfl, hb, hg, h1, h2, fun j x hj => by have := hc j x hj; rwa [Nat.zero_add] at this, fun j => World.ownsRow.frozenAt h j⟩



theorem bodyB_len (e : EntD) (h : e.ok) (h1 : 1 ≤ e.kind ∧ e.kind ≤ 11) : (bodyB e).length ≤ 4000000 := by
  have a1 := opsB_len e.ops h.ops h.fewO
  have a2 := plsB_len e.evs h.evs h.fewE
  have a3 := idsB_len e h.tx h.next h.nextID
  have a4 := textB_len e.name h.name
  have a5 := intB_len _ h.at_
  have a6 := intB_len _ h.tickAt
  have a7 := numW_len _ h.n
  have a8 := numW_len _ h.tickN
  have a9 := numW_len _ h.max
  have b1 := numsB_len e.opn h.opn
  have b2 := h.fewN
  have b3 : (numB e.opn.length).length ≤ 10 := by
    have := numW_len (e.opn.length : Int) ⟨by omega, by omega⟩
    simpa using this
  unfold bodyB
  repeat' split
  all_goals first | (simp only [List.length_append]; omega) | omega | simp
theorem entB_len (e : EntD) (h : e.ok) (h1 : 1 ≤ e.kind ∧ e.kind ≤ 11) : (entB e).length ≤ 4000001 ∧ 0 < (entB e).length := by
  have := bodyB_len e h h1
  unfold entB
  rw [List.length_cons]
  omega

set_option maxHeartbeats 6400000 in
set_option maxRecDepth 100000 in
theorem entryTurned_any (r : RawD) (vo vk vg vs : Value) (F : Nat → Prop) (w : World) (h : RawS w F r vo vk vg vs) (n : Int) (hn0 : 0 ≤ n) (hn1 : n ≤ 65535) (b : UInt8) (cut : Bool) (vm : Value) (more : List UInt8) (F0 : Nat → Prop) (hm : Bs w F0 vm more) :
    Calls Try.prog 7 #[rawV r vo vk vg vs, .int .u16 n, .int .u8 (b.toNat : Int), .bool cut, vm] w fun en w' => en = .returned (.bool true) ∧ Same w w' := by
  obtain ⟨Ao, co, Ak, ck, Ag, cg, As, cs, rfl, rfl, rfl, rfl⟩ := h.forms
  obtain ⟨AM, cM, hvm, -, -, -⟩ := _root_.id hm
  subst hvm
  have HB := Lib.hid (heap_alloc_new w (.cells #[.int .u8 r.kind, .int .i64 r.tx, .int .i64 r.n, .int .i64 r.at_, .string r.name, .int .u8 r.max, .slice Ao r.opn.length co, .slice Ak r.keys.length ck, .string r.text, .slice Ag r.gone.length cg, .slice As r.spools.length cs] 25))
  have hal : Same w (w.alloc (.cells #[.int .u8 r.kind, .int .i64 r.tx, .int .i64 r.n, .int .i64 r.at_, .string r.name, .int .u8 r.max, .slice Ao r.opn.length co, .slice Ak r.keys.length ck, .string r.text, .slice Ag r.gone.length cg, .slice As r.spools.length cs] 25)) := Chg.alloc_ _ _ _
  have HAL := Lib.hid hal
  have HR := Lib.hid h
  have HM := Lib.hid hm
  have hb255 : (b.toNat : Int) ≤ 255 := by have := b.toNat_lt; omega
  clear h hm hal
  unfold rawV
  unfold rawCells
  go_enter Try.func7, Try.ntmps7
  go_upto_region 1 with fail
  generalize w.alloc (.cells #[.int .u8 r.kind, .int .i64 r.tx, .int .i64 r.n, .int .i64 r.at_, .string r.name, .int .u8 r.max, .slice Ao r.opn.length co, .slice Ak r.keys.length ck, .string r.text, .slice Ag r.gone.length cg, .slice As r.spools.length cs] 25) = W0 at *
  obtain ⟨B, hB⟩ : ∃ n, w.heap.size = n := ⟨_, rfl⟩
  rw [hB] at HB ⊢
  clear hB
  go_wp2_with fail
  refine (nine_any _).mono ?_
  rintro _ w1 ⟨rfl, hs1⟩
  have HB1 := Lib.hid (hs1.at_ HB.out (fun h => h))
  have HS1 := Lib.hid (HAL.out.trans hs1)
  obtain ⟨x0, x1, x2, x3, x4, x5, x6, x7, x8, x9, x10⟩ := raw_cells HB1.out
  clear hs1 HB HAL
  by_cases hsm : SmallR r
  · go_wp2_with fail
    refine (small_any r _ _ _ _ F w1 (HR.out.same HS1.out) true (by simpa using hsm)).mono ?_
    rintro _ w2 ⟨rfl, hs2⟩
    have HB2 := Lib.hid (hs2.at_ HB1.out (fun h => h))
    have HS2 := Lib.hid (HS1.out.trans hs2)
    clear x0 x1 x2 x3 x4 x5 x6 x7 x8 x9 x10
    obtain ⟨x0, x1, x2, x3, x4, x5, x6, x7, x8, x9, x10⟩ := raw_cells HB2.out
    clear hs2 HB1 HS1
    by_cases hml : more.length ≤ 10
    · have hml' : ¬ (more.length : Int) > 10 := by omega
      go_wp2_with fail
      refine (lof_any r _ _ _ _ F w2 (HR.out.same HS2.out) hsm).mono ?_
      rintro _ w3 ⟨e, uo, ue, up, rfl, hE, hs3, hO⟩
      have hlen := entB_len e hO.rd.ok ⟨hO.rd.kind.1, hO.rd.kind.2⟩
      have HS3 := Lib.hid (HS2.out.trans hs3)
      clear hs3 HB2 HS2 x0 x1 x2 x3 x4 x5 x6 x7 x8 x9 x10
      obtain ⟨L, HL⟩ : ∃ L, Hid (entB e = L) := ⟨_, Lib.hid rfl⟩
      rw [HL.out] at hlen
      obtain ⟨Q, HQ⟩ : ∃ Q, Hid (L ++ more = Q) := ⟨_, Lib.hid rfl⟩
      have hql : Q.length ≤ 4000011 ∧ 0 < Q.length := by rw [← HQ.out, List.length_append]; omega
      go_wp2_with fail
      refine (rencode_any e ⟨hO.rd.kind.1, hO.rd.kind.2⟩ hO.rd.ok _ _ _ w3 _ hE).mono ?_
      rintro _ w4 ⟨v4, rfl, R4⟩
      rw [HL.out] at R4
      obtain ⟨A4, c4, hv4⟩ := R4.form
      subst hv4
      have hb4 := R4.bs
      have HS4 := Lib.hid (HS3.out.trans R4.sm)
      clear R4 hO hE HS3
      go_wp2_with fail
      refine (join_any _ _ L more _ _ _ hb4 (HM.out.same HS4.out) (by omega)).mono ?_
      rintro _ w5 ⟨v5, rfl, R5⟩
      rw [HQ.out] at R5
      have HF5 := Lib.hid R5
      obtain ⟨g3, c3, rfl, hg31, hg32, hlc, hcm, hcell, hfz⟩ := Own.cell_at R5.1 hql.2
      obtain ⟨k, hk⟩ : ∃ k : Nat, n.tmod (Q.length : Int) = (k : Int) := ⟨(n % (Q.length : Int)).toNat, by rw [Int.tmod_eq_emod_of_nonneg hn0]; have := Int.emod_nonneg n (show (Q.length : Int) ≠ 0 by omega); omega⟩
      have hkl : k < Q.length := by
        rw [Int.tmod_eq_emod_of_nonneg hn0] at hk
        have := Int.emod_lt_of_pos n (show (0 : Int) < (Q.length : Int) by omega)
        omega
      have hkl' : (k : Int) < (Q.length : Int) := by omega
      have hq0 : ((Q.length : Int) == 0) = false := by rw [beq_eq_false_iff_ne]; omega
      clear R5 hb4
      cases cut with
      | true =>
        obtain ⟨P, HP⟩ : ∃ P, Hid (Q.take k = P) := ⟨_, Lib.hid rfl⟩
        have hPl : P.length = k := by rw [← HP.out, List.length_take]; omega
        have hbz : Bs w5 (fun b => w4.heap.size ≤ b) (.slice (some ⟨g3, 0, none⟩) k c3) P := by
          rw [← HP.out]; exact HF5.out.bs.takeN (by omega)
        have HSZ := Lib.hid (HS4.out.trans HF5.out.sm)
        clear hcell hfz
        go_wp2_with fail
        refine (reads_any _ P _ w5 hbz (by omega)).mono ?_
        rintro _ w6 ⟨rfl, hs6⟩
        go_wp2_with fail
        go_ret
        exact ⟨rfl, HSZ.out.trans hs6⟩
      | false =>
        obtain ⟨P, HP⟩ : ∃ P, Hid (Q.set k b = P) := ⟨_, Lib.hid rfl⟩
        have hPl : P.length = Q.length := by rw [← HP.out, List.length_set]
        have hx := hcell k _ (List.getElem?_eq_getElem hkl)
        have hz := hfz k
        have hown : Own (w5.setCell ⟨g3, k, none⟩ (.int .u8 (b.toNat : Int))) w4.heap.size (.slice (some ⟨g3, 0, none⟩) Q.length c3) P := by
          rw [← HP.out]; exact Own.stored HF5.out.1 k b
        have hbz : Bs (w5.setCell ⟨g3, k, none⟩ (.int .u8 (b.toNat : Int))) (fun b => w4.heap.size ≤ b) (.slice (some ⟨g3, 0, none⟩) Q.length c3) P := Own.bs hown (fun g hg => (hown.lt hg).1)
        have HBZ := Lib.hid hbz
        have HSZ : Hid (Same w (w5.setCell ⟨g3, k, none⟩ (.int .u8 (b.toNat : Int)))) := Lib.hid (HS4.out.trans (HF5.out.sm.far (p := ⟨g3, k, none⟩) hg31 _))
        have HPL := Lib.hid hPl
        clear hcell hfz hown hbz hPl
        go_wp2_with fail
        generalize w5.setCell ⟨g3, k, none⟩ (.int .u8 (b.toNat : Int)) = W6 at *
        refine (reads_any _ P _ W6 HBZ.out (by rw [HPL.out]; omega)).mono ?_
        rintro _ w7 ⟨rfl, hs7⟩
        go_wp2_with fail
        go_ret
        exact ⟨rfl, HSZ.out.trans hs7⟩
    · have hml' : (more.length : Int) > 10 := by omega
      go_wp2_with fail
      refine (nine_any _).mono ?_
      rintro _ w3 ⟨rfl, hs3⟩
      go_wp2_with fail
      go_ret
      exact ⟨rfl, HS2.out.trans hs3⟩
  · go_wp2_with fail
    refine (small_any r _ _ _ _ F w1 (HR.out.same HS1.out) false (by simpa using hsm)).mono ?_
    rintro _ w2 ⟨rfl, hs2⟩
    have HS2 := Lib.hid (HS1.out.trans hs2)
    clear hs2 HB1 HS1 x0 x1 x2 x3 x4 x5 x6 x7 x8 x9 x10
    go_wp2_with fail
    refine (nine_any _).mono ?_
    rintro _ w3 ⟨rfl, hs3⟩
    go_wp2_with fail
    go_ret
    exact ⟨rfl, HS2.out.trans hs3⟩
end Go.Proofs.Ytdkankiohoocaaa
