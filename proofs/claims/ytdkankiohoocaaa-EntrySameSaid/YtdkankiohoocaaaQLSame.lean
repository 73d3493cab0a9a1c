/- The law EntrySame. -/
import Derived.Test.YtdkankiohoocaaaQSam1
import Derived.Deep.CutBlock
import Derived.Laws.Concat
namespace Go.Proofs.Ytdkankiohoocaaa
set_option linter.unusedSimpArgs false
set_option linter.unusedVariables false
open Go Go.RowKit Go.Proofs

theorem two_raws {w : World} {Ba Bb : Nat} {a0 a1 a2 a3 a4 a5 a6 a7 a8 a9 a10 b0 b1 b2 b3 b4 b5 b6 b7 b8 b9 b10 : Value} {t0 t1 : TypeId} (h0 : w.heap[Ba]? = some (.cells #[a0, a1, a2, a3, a4, a5, a6, a7, a8, a9, a10] t0 (0, 0))) (h1 : w.heap[Bb]? = some (.cells #[b0, b1, b2, b3, b4, b5, b6, b7, b8, b9, b10] t1 (0, 0))) :
    w.cell? ⟨Ba, 0, none⟩ = some a0 ∧ w.cell? ⟨Ba, 1, none⟩ = some a1 ∧ w.cell? ⟨Ba, 2, none⟩ = some a2 ∧ w.cell? ⟨Ba, 3, none⟩ = some a3 ∧ w.cell? ⟨Ba, 4, none⟩ = some a4 ∧ w.cell? ⟨Ba, 5, none⟩ = some a5 ∧ w.cell? ⟨Ba, 6, none⟩ = some a6 ∧ w.cell? ⟨Ba, 7, none⟩ = some a7 ∧ w.cell? ⟨Ba, 8, none⟩ = some a8 ∧ w.cell? ⟨Ba, 9, none⟩ = some a9 ∧ w.cell? ⟨Ba, 10, none⟩ = some a10 ∧ w.cell? ⟨Bb, 0, none⟩ = some b0 ∧ w.cell? ⟨Bb, 1, none⟩ = some b1 ∧ w.cell? ⟨Bb, 2, none⟩ = some b2 ∧ w.cell? ⟨Bb, 3, none⟩ = some b3 ∧ w.cell? ⟨Bb, 4, none⟩ = some b4 ∧ w.cell? ⟨Bb, 5, none⟩ = some b5 ∧ w.cell? ⟨Bb, 6, none⟩ = some b6 ∧ w.cell? ⟨Bb, 7, none⟩ = some b7 ∧ w.cell? ⟨Bb, 8, none⟩ = some b8 ∧ w.cell? ⟨Bb, 9, none⟩ = some b9 ∧ w.cell? ⟨Bb, 10, none⟩ = some b10 := by
  obtain ⟨x0, x1, x2, x3, x4, x5, x6, x7, x8, x9, x10⟩ := raw_cells h0
  obtain ⟨y0, y1, y2, y3, y4, y5, y6, y7, y8, y9, y10⟩ := raw_cells h1
  exact ⟨x0, x1, x2, x3, x4, x5, x6, x7, x8, x9, x10, y0, y1, y2, y3, y4, y5, y6, y7, y8, y9, y10⟩

set_option maxHeartbeats 6400000 in
set_option maxRecDepth 100000 in
theorem entrySame_any (ra rb : RawD) (voa vka vga vsa vob vkb vgb vsb : Value) (Fa Fb : Nat → Prop) (w : World) (ha : RawS w Fa ra voa vka vga vsa) (hb : RawS w Fb rb vob vkb vgb vsb) (k : Int) (hk0 : 0 ≤ k) (hk1 : k ≤ 255) :
    Calls Try.prog 3 #[rawV ra voa vka vga vsa, rawV rb vob vkb vgb vsb, .int .u8 k] w fun en w' => en = .returned (.bool true) ∧ Same w w' := by
  obtain ⟨Aoa, coa, Aka, cka, Aga, cga, Asa, csa, rfl, rfl, rfl, rfl⟩ := ha.forms
  obtain ⟨Aob, cob, Akb, ckb, Agb, cgb, Asb, csb, rfl, rfl, rfl, rfl⟩ := hb.forms
  obtain ⟨b1, b2, hal⟩ := two_new' w (.cells #[.int .u8 ra.kind, .int .i64 ra.tx, .int .i64 ra.n, .int .i64 ra.at_, .string ra.name, .int .u8 ra.max, .slice Aoa ra.opn.length coa, .slice Aka ra.keys.length cka, .string ra.text, .slice Aga ra.gone.length cga, .slice Asa ra.spools.length csa] 25) (.cells #[.int .u8 rb.kind, .int .i64 rb.tx, .int .i64 rb.n, .int .i64 rb.at_, .string rb.name, .int .u8 rb.max, .slice Aob rb.opn.length cob, .slice Akb rb.keys.length ckb, .string rb.text, .slice Agb rb.gone.length cgb, .slice Asb rb.spools.length csb] 25)
  have HA0 := Lib.hid b1
  have HB0 := Lib.hid b2
  have HAL := Lib.hid hal
  have HRa := Lib.hid ha
  have HRb := Lib.hid hb
  clear ha hb hal b1 b2
  unfold rawV
  unfold rawCells
  go_enter Try.func3, Try.ntmps3
  go_upto_region 1 with fail
  generalize (w.alloc (.cells #[.int .u8 ra.kind, .int .i64 ra.tx, .int .i64 ra.n, .int .i64 ra.at_, .string ra.name, .int .u8 ra.max, .slice Aoa ra.opn.length coa, .slice Aka ra.keys.length cka, .string ra.text, .slice Aga ra.gone.length cga, .slice Asa ra.spools.length csa] 25)).alloc (.cells #[.int .u8 rb.kind, .int .i64 rb.tx, .int .i64 rb.n, .int .i64 rb.at_, .string rb.name, .int .u8 rb.max, .slice Aob rb.opn.length cob, .slice Akb rb.keys.length ckb, .string rb.text, .slice Agb rb.gone.length cgb, .slice Asb rb.spools.length csb] 25) = W9 at *
  obtain ⟨Ba, hBa⟩ : ∃ n, w.heap.size = n := ⟨_, rfl⟩
  obtain ⟨Bb, hBb⟩ : ∃ n, w.heap.size + 1 = n := ⟨_, rfl⟩
  rw [hBb] at HB0 ⊢
  rw [hBa] at HA0 ⊢
  have hBab : Ba ≠ Bb := by omega
  clear hBa hBb
  go_wp2_with fail
  refine (nine_any _).mono ?_
  rintro _ w1 ⟨rfl, hs1⟩
  have HA1 := Lib.hid (hs1.at_ HA0.out (fun h => h))
  have HB1 := Lib.hid (hs1.at_ HB0.out (fun h => h))
  have HS1 := Lib.hid (HAL.out.trans hs1)
  obtain ⟨x0, x1, x2, x3, x4, x5, x6, x7, x8, x9, x10⟩ := raw_cells HA1.out
  clear hs1 HA0 HB0 HAL
  by_cases hsa : SmallR ra
  · go_wp2_with fail
    refine (small_any ra _ _ _ _ Fa w1 (HRa.out.same HS1.out) true (by simpa using hsa)).mono ?_
    rintro _ w2 ⟨rfl, hs2⟩
    have HA2 := Lib.hid (hs2.at_ HA1.out (fun h => h))
    have HB2 := Lib.hid (hs2.at_ HB1.out (fun h => h))
    have HS2 := Lib.hid (HS1.out.trans hs2)
    clear x0 x1 x2 x3 x4 x5 x6 x7 x8 x9 x10 hs2 HA1 HB1 HS1
    obtain ⟨y0, y1, y2, y3, y4, y5, y6, y7, y8, y9, y10⟩ := raw_cells HB2.out
    by_cases hsb : SmallR rb
    · go_wp2_with fail
      refine (small_any rb _ _ _ _ Fb w2 (HRb.out.same HS2.out) true (by simpa using hsb)).mono ?_
      rintro _ w3 ⟨rfl, hs3⟩
      have HA3 := Lib.hid (hs3.at_ HA2.out (fun h => h))
      have HB3 := Lib.hid (hs3.at_ HB2.out (fun h => h))
      have HS3 := Lib.hid (HS2.out.trans hs3)
      clear y0 y1 y2 y3 y4 y5 y6 y7 y8 y9 y10 hs3 HA2 HB2 HS2
      go_upto_region 3 with fail
      go_cut [7, 8] (fun v7 v8 wc => ∃ (P Q : Nat) (ea eb : EntD) (uao uae uap ubo ube ubp : Value), v7 = .pointer (some ⟨P, 0, none⟩) ∧ v8 = .pointer (some ⟨Q, 0, none⟩) ∧ wc.heap[P]? = some (.cells (entCells ea uao uae uap) 35) ∧ wc.heap[Q]? = some (.cells (entCells eb ubo ube ubp) 35) ∧ EntS wc (fun b => b < wc.heap.size) ea uao uae uap ∧ EntS wc (fun b => b < wc.heap.size) eb ubo ube ubp ∧ OfE ra ea ∧ OfE rb eb ∧ Same w3 wc)
      case first =>
        have HLa := Lib.hid (fun (W : World) (hW : Same w3 W) => (show Calls Try.prog 11 #[.agg #[.int .u8 ra.kind, .int .i64 ra.tx, .int .i64 ra.n, .int .i64 ra.at_, .string ra.name, .int .u8 ra.max, .slice Aoa ra.opn.length coa, .slice Aka ra.keys.length cka, .string ra.text, .slice Aga ra.gone.length cga, .slice Asa ra.spools.length csa]] W (LofPost ra W) from lof_any ra _ _ _ _ Fa W (HRa.out.same (HS3.out.trans hW)) hsa))
        have HLb := Lib.hid (fun (W : World) (hW : Same w3 W) => (show Calls Try.prog 11 #[.agg #[.int .u8 rb.kind, .int .i64 rb.tx, .int .i64 rb.n, .int .i64 rb.at_, .string rb.name, .int .u8 rb.max, .slice Aob rb.opn.length cob, .slice Akb rb.keys.length ckb, .string rb.text, .slice Agb rb.gone.length cgb, .slice Asb rb.spools.length csb]] W (LofPost rb W) from lof_any rb _ _ _ _ Fb W (HRb.out.same (HS3.out.trans hW)) hsb))
        refine wp_region_inv6 (by kernel_rfl) (fun f u7 u8 u23 u24 u25 u26 w' => J3 ra rb (.agg #[.int .u8 ra.kind, .int .i64 ra.tx, .int .i64 ra.n, .int .i64 ra.at_, .string ra.name, .int .u8 ra.max, .slice Aoa ra.opn.length coa, .slice Aka ra.keys.length cka, .string ra.text, .slice Aga ra.gone.length cga, .slice Asa ra.spools.length csa]) (.agg #[.int .u8 rb.kind, .int .i64 rb.tx, .int .i64 rb.n, .int .i64 rb.at_, .string rb.name, .int .u8 rb.max, .slice Aob rb.opn.length cob, .slice Akb rb.keys.length ckb, .string rb.text, .slice Agb rb.gone.length cgb, .slice Asb rb.spools.length csb]) w3 f u7 u8 u23 u24 u25 u26 w') ?hdag ?h0 ?hstep ?hend
        case hdag =>
          kernel_rfl
        case h0 =>
          refine ⟨undef, undef, undef, undef, undef, undef, ?_, J3.begin w3⟩
          simp only [put6, Act.put, List.setIfInBounds_toArray, List.set_cons_zero, List.set_cons_succ]
        case hstep =>
          intro f u7 u8 u23 u24 u25 u26 w' hJ i hi hfi hd
          have hi8 : i < 8 := hi
          have h8 : i = 0 ∨ i = 1 ∨ i = 2 ∨ i = 3 ∨ i = 4 ∨ i = 5 ∨ i = 6 ∨ i = 7 := by omega
          clear hi hi8
          simp only [put6, Act.put, List.setIfInBounds_toArray, List.set_cons_zero, List.set_cons_succ]
          rcases h8 with rfl | rfl | rfl | rfl | rfl | rfl | rfl | rfl
          · obtain ⟨x0, x1, x2, x3, x4, x5, x6, x7, x8, x9, x10⟩ := raw_cells (hJ.same.at_ HA3.out (fun h => h))
            have HJ := Lib.hid hJ
            clear hJ hd
            refine wpOp_shut rfl (fun K hK => ?_)
            go_simp
            exact hK.out _ _ ⟨u7, u8, _, u24, u25, u26, rfl, HJ.out.op0⟩
          · have hl := hJ.h1.ld (hd _ rfl ⟨0, .data⟩ (by simp) rfl)
            subst hl
            have HJ := Lib.hid hJ
            clear hJ hd
            refine wpOp_shut rfl (fun K hK => ?_)
            go_simp
            go_at_call 11
            refine (HLa.out _ HJ.out.same).mono ?_
            rintro _ w'' ⟨e, vo, ve, vp, rfl, hE, hs, hO⟩
            exact hK.out _ _ ⟨u7, u8, _, _, u25, u26, rfl, HJ.out.op1 hfi hs hE hO⟩
          · obtain ⟨y0, y1, y2, y3, y4, y5, y6, y7, y8, y9, y10⟩ := raw_cells (hJ.same.at_ HB3.out (fun h => h))
            have HJ := Lib.hid hJ
            clear hJ hd
            refine wpOp_shut rfl (fun K hK => ?_)
            go_simp
            exact hK.out _ _ ⟨u7, u8, u23, u24, _, u26, rfl, HJ.out.op2⟩
          · have hl := hJ.h2.ld (hd _ rfl ⟨2, .data⟩ (by simp) rfl)
            subst hl
            have HJ := Lib.hid hJ
            clear hJ hd
            refine wpOp_shut rfl (fun K hK => ?_)
            go_simp
            go_at_call 11
            refine (HLb.out _ HJ.out.same).mono ?_
            rintro _ w'' ⟨e, vo, ve, vp, rfl, hE, hs, hO⟩
            exact hK.out _ _ ⟨u7, u8, u23, u24, _, _, rfl, HJ.out.op3 hfi hs hE hO⟩
          · have HJ := Lib.hid hJ
            clear hJ hd
            refine wpOp_shut rfl (fun K hK => ?_)
            go_simp
            exact hK.out _ _ ⟨_, u8, u23, u24, u25, u26, rfl, HJ.out.op4 hfi⟩
          · have HJ := Lib.hid hJ
            clear hJ hd
            refine wpOp_shut rfl (fun K hK => ?_)
            go_simp
            exact hK.out _ _ ⟨u7, _, u23, u24, u25, u26, rfl, HJ.out.op5 hfi⟩
          · have h1 := hd _ rfl ⟨1, .data⟩ (by simp) rfl
            have h4 := hd _ rfl ⟨4, .data⟩ (by simp) rfl
            obtain ⟨e, vo, ve, vp, rfl, hE, -⟩ := hJ.h1.cl h1
            obtain ⟨B, rfl, -, -, hrow⟩ := hJ.h1.al h4
            have hrow := hrow hfi
            obtain ⟨Ao, co, Ae, ce, Ap, cp, rfl, rfl, rfl⟩ := ent_forms hE
            obtain ⟨k_0, k_1, k_2, k_3, k_4, k_5, k_6, k_7, k_8, k_9, k_10, k_11, k_12⟩ := ent_cells hrow
            obtain ⟨f_0, f_1, f_2, f_3, f_4, f_5, f_6, f_7, f_8, f_9, f_10, f_11, f_12⟩ := ent_free hrow
            have HJ : Hid (J3 ra rb (.agg #[.int .u8 ra.kind, .int .i64 ra.tx, .int .i64 ra.n, .int .i64 ra.at_, .string ra.name, .int .u8 ra.max, .slice Aoa ra.opn.length coa, .slice Aka ra.keys.length cka, .string ra.text, .slice Aga ra.gone.length cga, .slice Asa ra.spools.length csa]) (.agg #[.int .u8 rb.kind, .int .i64 rb.tx, .int .i64 rb.n, .int .i64 rb.at_, .string rb.name, .int .u8 rb.max, .slice Aob rb.opn.length cob, .slice Akb rb.keys.length ckb, .string rb.text, .slice Agb rb.gone.length cgb, .slice Asb rb.spools.length csb]) w3 (updB f 6) (ptrB B) u8 u23 (entV e (.slice Ao e.ops.length co) (.slice Ae e.evs.length ce) (.slice Ap e.opn.length cp)) u25 u26 (putEnt w' B (.int .u8 e.kind) (.int .i64 e.tx) (.int .i64 e.next) (.int .i64 e.nextID) (.slice Ao e.ops.length co) (.slice Ae e.evs.length ce) (.int .i64 e.tickN) (.int .i64 e.max) (.slice Ap e.opn.length cp) (.int .i64 e.tickAt) (.string e.name) (.int .i64 e.n) (.int .i64 e.at_))) := Lib.hid (hJ.op6 h1 h4 (putEnt_chg w' B (.int .u8 e.kind) (.int .i64 e.tx) (.int .i64 e.next) (.int .i64 e.nextID) (.slice Ao e.ops.length co) (.slice Ae e.evs.length ce) (.int .i64 e.tickN) (.int .i64 e.max) (.slice Ap e.opn.length cp) (.int .i64 e.tickAt) (.string e.name) (.int .i64 e.n) (.int .i64 e.at_)) (putEnt_blk hrow (.int .u8 e.kind) (.int .i64 e.tx) (.int .i64 e.next) (.int .i64 e.nextID) (.slice Ao e.ops.length co) (.slice Ae e.evs.length ce) (.int .i64 e.tickN) (.int .i64 e.max) (.slice Ap e.opn.length cp) (.int .i64 e.tickAt) (.string e.name) (.int .i64 e.n) (.int .i64 e.at_)))
            clear hJ hd hrow hE
            refine wpOp_shut rfl (fun K hK => ?_)
            unfold entV
            unfold entCells
            go_simp
            exact hK.out _ _ ⟨_, u8, u23, _, u25, u26, rfl, HJ.out⟩
          · have h1 := hd _ rfl ⟨3, .data⟩ (by simp) rfl
            have h4 := hd _ rfl ⟨5, .data⟩ (by simp) rfl
            obtain ⟨e, vo, ve, vp, rfl, hE, -⟩ := hJ.h2.cl h1
            obtain ⟨B, rfl, -, -, hrow⟩ := hJ.h2.al h4
            have hrow := hrow hfi
            obtain ⟨Ao, co, Ae, ce, Ap, cp, rfl, rfl, rfl⟩ := ent_forms hE
            obtain ⟨k_0, k_1, k_2, k_3, k_4, k_5, k_6, k_7, k_8, k_9, k_10, k_11, k_12⟩ := ent_cells hrow
            obtain ⟨f_0, f_1, f_2, f_3, f_4, f_5, f_6, f_7, f_8, f_9, f_10, f_11, f_12⟩ := ent_free hrow
            have HJ : Hid (J3 ra rb (.agg #[.int .u8 ra.kind, .int .i64 ra.tx, .int .i64 ra.n, .int .i64 ra.at_, .string ra.name, .int .u8 ra.max, .slice Aoa ra.opn.length coa, .slice Aka ra.keys.length cka, .string ra.text, .slice Aga ra.gone.length cga, .slice Asa ra.spools.length csa]) (.agg #[.int .u8 rb.kind, .int .i64 rb.tx, .int .i64 rb.n, .int .i64 rb.at_, .string rb.name, .int .u8 rb.max, .slice Aob rb.opn.length cob, .slice Akb rb.keys.length ckb, .string rb.text, .slice Agb rb.gone.length cgb, .slice Asb rb.spools.length csb]) w3 (updB f 7) u7 (ptrB B) u23 u24 u25 (entV e (.slice Ao e.ops.length co) (.slice Ae e.evs.length ce) (.slice Ap e.opn.length cp)) (putEnt w' B (.int .u8 e.kind) (.int .i64 e.tx) (.int .i64 e.next) (.int .i64 e.nextID) (.slice Ao e.ops.length co) (.slice Ae e.evs.length ce) (.int .i64 e.tickN) (.int .i64 e.max) (.slice Ap e.opn.length cp) (.int .i64 e.tickAt) (.string e.name) (.int .i64 e.n) (.int .i64 e.at_))) := Lib.hid (hJ.op7 h1 h4 (putEnt_chg w' B (.int .u8 e.kind) (.int .i64 e.tx) (.int .i64 e.next) (.int .i64 e.nextID) (.slice Ao e.ops.length co) (.slice Ae e.evs.length ce) (.int .i64 e.tickN) (.int .i64 e.max) (.slice Ap e.opn.length cp) (.int .i64 e.tickAt) (.string e.name) (.int .i64 e.n) (.int .i64 e.at_)) (putEnt_blk hrow (.int .u8 e.kind) (.int .i64 e.tx) (.int .i64 e.next) (.int .i64 e.nextID) (.slice Ao e.ops.length co) (.slice Ae e.evs.length ce) (.int .i64 e.tickN) (.int .i64 e.max) (.slice Ap e.opn.length cp) (.int .i64 e.tickAt) (.string e.name) (.int .i64 e.n) (.int .i64 e.at_)))
            clear hJ hd hrow hE
            refine wpOp_shut rfl (fun K hK => ?_)
            unfold entV
            unfold entCells
            go_simp
            exact hK.out _ _ ⟨u7, _, u23, u24, u25, _, rfl, HJ.out⟩
        case hend =>
          intro f u7 u8 u23 u24 u25 u26 w' hJ hf
          have HE := Lib.hid (hJ.ends hf)
          clear hJ hf
          simp only [put6, Act.put, List.setIfInBounds_toArray, List.set_cons_zero, List.set_cons_succ]
          go_wp2_with fail
          go_meet
          case rel => exact HE.out
      case rest =>
        obtain ⟨P, Q, ea, eb, uao, uae, uap, ubo, ube, ubp, rfl, rfl, hP, hQ, hEa, hEb, hOa, hOb, hs4⟩ := hcut
        have HAw := Lib.hid (hs4.at_ HA3.out (fun h => h))
        have HS4 := Lib.hid (HS3.out.trans hs4)
        obtain ⟨O1, o1, E1, e_1, N1, n1, rfl, rfl, rfl⟩ := ent_forms hEa
        obtain ⟨O2, o2, E2, e_2, N2, n2, rfl, rfl, rfl⟩ := ent_forms hEb
        have hfoa := hOa.rd.ok.fewO
        have hfea := hOa.rd.ok.fewE
        have hfob := hOb.rd.ok.fewO
        have hfeb := hOb.rd.ok.fewE
        have HPc := Lib.hid hP
        have HQc := Lib.hid hQ
        have HEac := Lib.hid hEa.lt
        have HEbc := Lib.hid hEb.lt
        have HOa := Lib.hid hOa
        clear hP hQ hEa hEb hOa hOb hs4 HA3 HB3 HS3
        generalize wc = W4 at *
        obtain ⟨x0, x1, x2, x3, x4, x5, x6, x7, x8, x9, x10⟩ := raw_cells HAw.out
        go_wp2_with fail
        refine (lof_any ra _ _ _ _ Fa W4 (HRa.out.same HS4.out) hsa).mono ?_
        rintro _ w5 ⟨e, uo, ue, up, rfl, hE, hs5, hO⟩
        have hfo := hO.rd.ok.fewO
        have hfe := hO.rd.ok.fewE
        have HOe := Lib.hid hO
        obtain ⟨A5o, c5o, A5e, c5e, A5p, c5p, rfl, rfl, rfl⟩ := ent_forms hE
        have HE5 := Lib.hid hE.lt
        have HP5 := Lib.hid (hs5.at_ HPc.out (fun h => h))
        have HQ5 := Lib.hid (hs5.at_ HQc.out (fun h => h))
        have HEa5 := Lib.hid (HEac.out.same hs5)
        have HEb5 := Lib.hid (HEbc.out.same hs5)
        have HS5 := Lib.hid (HS4.out.trans hs5)
        clear hE hs5 hO HPc HQc HEac HEbc HAw x0 x1 x2 x3 x4 x5 x6 x7 x8 x9 x10
        go_wp2_with fail
        refine (turned_any e _ _ _ _ w5 HE5.out hfo hfe).mono ?_
        rintro _ w6 ⟨v1, v2, rfl, hT⟩
        have hE6 := hT.ents HE5.out.opn
        obtain ⟨A6o, n6o, c6o, hv4o⟩ : ∃ A n c, v1 = .slice A n c := by
          obtain ⟨A, c, h1, -, -⟩ := hE6.ops.form
          exact ⟨_, _, _, h1⟩
        obtain ⟨A6e, n6e, c6e, hv4e⟩ : ∃ A n c, v2 = .slice A n c := by
          obtain ⟨A, c, h1, -, -⟩ := hE6.evs.form
          exact ⟨_, _, _, h1⟩
        subst hv4o
        subst hv4e
        have HG : Hid (SG w5 (w6.alloc (.cells #[.int .u8 e.kind, .int .i64 e.tx, .int .i64 e.next, .int .i64 e.nextID, .slice A6o n6o c6o, .slice A6e n6e c6e, .int .i64 e.tickN, .int .i64 e.max, .slice A5p e.opn.length c5p, .int .i64 e.tickAt, .string e.name, .int .i64 e.n, .int .i64 e.at_] 40)) w6.heap.size e (.slice A6o n6o c6o) (.slice A6e n6e c6e) (.slice A5p e.opn.length c5p)) := Lib.hid (SG.begin HE5.out (fun _ h => h) hT)
        clear hT hE6
        unfold entV
        unfold entCells
        obtain ⟨m, hm, hm0, hm7⟩ : ∃ m : Int, k.tmod 8 = m ∧ 0 ≤ m ∧ m ≤ 7 := ⟨_, rfl, by rw [Int.tmod_eq_emod_of_nonneg hk0]; omega, by rw [Int.tmod_eq_emod_of_nonneg hk0]; omega⟩
        go_upto_block 0 with fail
        generalize w6.alloc (.cells #[.int .u8 e.kind, .int .i64 e.tx, .int .i64 e.next, .int .i64 e.nextID, .slice A6o n6o c6o, .slice A6e n6e c6e, .int .i64 e.tickN, .int .i64 e.max, .slice A5p e.opn.length c5p, .int .i64 e.tickAt, .string e.name, .int .i64 e.n, .int .i64 e.at_] 40) = W6 at *
        generalize w6.heap.size = Z at *
        go_cut [] (fun wx => ∃ (z : EntD) (v1 v2 : Value), SG w5 wx Z z v1 v2 (.slice A5p e.opn.length c5p) ∧ z ≠ ea)
        case first =>
          have hel : W6.heap[Z]? = some (.cells #[.int .u8 e.kind, .int .i64 e.tx, .int .i64 e.next, .int .i64 e.nextID, .slice A6o n6o c6o, .slice A6e n6e c6e, .int .i64 e.tickN, .int .i64 e.max, .slice A5p e.opn.length c5p, .int .i64 e.tickAt, .string e.name, .int .i64 e.n, .int .i64 e.at_] 40) := HG.out.el
          obtain ⟨X0, X1, X2, X3, X4, X5, X6, X7, X8, X9, X10, X11, X12⟩ := ent_cells hel
          obtain ⟨Y0, Y1, Y2, Y3, Y4, Y5, Y6, Y7, Y8, Y9, Y10, Y11, Y12⟩ := ent_free hel
          clear hel
          obtain ⟨io, hio, hzo0, hzo1, hzo2⟩ := info_parts info_op
          obtain ⟨ie, hie, hze0, hze1, hze2⟩ := info_parts info_pl
          have h8 : m = 0 ∨ m = 1 ∨ m = 2 ∨ m = 3 ∨ m = 4 ∨ m = 5 ∨ m = 6 ∨ m = 7 := by omega
          clear hm hm0 hm7
          rcases h8 with rfl | rfl | rfl | rfl | rfl | rfl | rfl | rfl
          · have hne := u8_succ e.kind
            have HR := Lib.hid (HG.out.store 0 (.int .u8 ((e.kind + 1) % 256)) { e with kind := (e.kind + 1) % 256 } rfl rfl rfl rfl)
            go_wp2_with fail
            go_meet
            case rel => exact ⟨_, _, _, HR.out, zne_kind HOa.out HOe.out hne⟩
          · have hne := i64_succ e.tx
            have HR := Lib.hid (HG.out.store 1 (.int .i64 (wrap64 (e.tx + 1))) { e with tx := wrap64 (e.tx + 1) } rfl rfl rfl rfl)
            go_wp2_with fail
            go_meet
            case rel => exact ⟨_, _, _, HR.out, zne_tx HOa.out HOe.out hne⟩
          · have hne := i64_pred e.n
            have HR := Lib.hid (HG.out.store 11 (.int .i64 (wrap64 (e.n - 1))) { e with n := wrap64 (e.n - 1) } rfl rfl rfl rfl)
            go_wp2_with fail
            go_meet
            case rel => exact ⟨_, _, _, HR.out, zne_n HOa.out HOe.out hne⟩
          · have hsz := HOe.out.rd.ok.name
            have hadd : ∀ W, (Op.stringOp .add e.name ⟨#[120]⟩).run Try.prog W = .ok (.string (e.name ++ ⟨#[120]⟩)) W := fun W => run_string_add_sum W _ _ (by have q : (⟨#[120]⟩ : ByteArray).size = 1 := rfl; omega)
            have HR := Lib.hid (HG.out.store 10 (.string (e.name ++ ⟨#[120]⟩)) { e with name := e.name ++ ⟨#[120]⟩ } rfl rfl rfl rfl)
            go_wp2_with fail
            go_meet
            case rel => exact ⟨_, _, _, HR.out, zne_name HOa.out HOe.out _ rfl⟩
          · have hml : (e.ops.map opCells).length = e.ops.length := by simp
            have hown := HG.out.own1
            have hlE := HG.out.size
            have hrowE : ¬ (Value.slice A6o n6o c6o).ownBlock = some Z := fun e => (HG.out.row1 Z e).2 rfl
            go_wp2_with (at_builtin; refine wl_app _ rfl _ _ 37 rfl 47 io _ 4 40 Try.underlying37 hio hzo0 hzo1 hzo2 rfl (by omega) (.slice A6o n6o c6o) _ _ (by rfl) (hown.alloc _) _ 1 1 [.int .i64 0, .bool false, .int .i64 0, .string ⟨#[]⟩] (by rfl) (by rfl) (four_new_cells _ _ _ _ _ _) (by simp [Value.oneCell']) (by omega) (by unfold maxLen; omega) ?_; intro A8 cp8 w8 ho8 hg8 hat8; have q8 := Chg.of_grown (S := fun k => (Value.slice A6o n6o c6o).ownBlock = some k) hg8 (fun k h => h); have qa := Chg.alloc_ (fun _ => False) W6 (.cells #[.int .i64 0, .bool false, .int .i64 0, .string ⟨#[]⟩] 47); have k8 := q8.cell' (qa.cell' X4 (fun h => h)) hrowE; have f8 : w8.frozen? ⟨Z, 4, none⟩ = false := (q8.frozen (p := ⟨Z, 4, none⟩) (Nat.lt_of_lt_of_le hlE qa.size) hrowE).trans ((qa.frozen (p := ⟨Z, 4, none⟩) hlE (fun h => h)).trans Y4); have HR := Lib.hid (HG.out.more1 _ zOp ho8 hg8 hat8); clear ho8 hg8 hat8 q8 qa)
            go_meet
            case rel => (have hz := HR.out; rw [hml] at hz; exact ⟨_, _, _, hz, zne_ops HOa.out HOe.out⟩)
          · have hml : (e.evs.map plCells).length = e.evs.length := by simp
            have hown := HG.out.own2
            have hlE := HG.out.size
            have hrowE : ¬ (Value.slice A6e n6e c6e).ownBlock = some Z := fun e => (HG.out.row2 Z e).2 rfl
            go_wp2_with (at_builtin; refine wl_app _ rfl _ _ 38 rfl 51 ie _ 9 88 Try.underlying38 hie hze0 hze1 hze2 rfl (by omega) (.slice A6e n6e c6e) _ _ (by rfl) (hown.alloc _) _ 1 1 [.int .i64 0, .int .i64 0, .int .i64 0, .string ⟨#[]⟩, .int .i64 0, .int .i64 0, .int .u8 0, .int .i64 0, .string ⟨#[]⟩] (by rfl) (by rfl) (nine_new_cells _ _ _ _ _ _ _ _ _ _ _) (by simp [Value.oneCell']) (by omega) (by unfold maxLen; omega) ?_; intro A8 cp8 w8 ho8 hg8 hat8; have q8 := Chg.of_grown (S := fun k => (Value.slice A6e n6e c6e).ownBlock = some k) hg8 (fun k h => h); have qa := Chg.alloc_ (fun _ => False) W6 (.cells #[.int .i64 0, .int .i64 0, .int .i64 0, .string ⟨#[]⟩, .int .i64 0, .int .i64 0, .int .u8 0, .int .i64 0, .string ⟨#[]⟩] 51); have k8 := q8.cell' (qa.cell' X5 (fun h => h)) hrowE; have f8 : w8.frozen? ⟨Z, 5, none⟩ = false := (q8.frozen (p := ⟨Z, 5, none⟩) (Nat.lt_of_lt_of_le hlE qa.size) hrowE).trans ((qa.frozen (p := ⟨Z, 5, none⟩) hlE (fun h => h)).trans Y5); have HR := Lib.hid (HG.out.more2 _ zPl ho8 hg8 hat8); clear ho8 hg8 hat8 q8 qa)
            go_meet
            case rel => (have hz := HR.out; rw [hml] at hz; exact ⟨_, _, _, hz, zne_evs HOa.out HOe.out⟩)
          · have hne := i64_succ e.max
            have HR := Lib.hid (HG.out.store 7 (.int .i64 (wrap64 (e.max + 1))) { e with max := wrap64 (e.max + 1) } rfl rfl rfl rfl)
            go_wp2_with fail
            go_meet
            case rel => exact ⟨_, _, _, HR.out, zne_max HOa.out HOe.out hne⟩
          · have hne := i64_succ e.at_
            have HR := Lib.hid (HG.out.store 12 (.int .i64 (wrap64 (e.at_ + 1))) { e with at_ := wrap64 (e.at_ + 1) } rfl rfl rfl rfl)
            go_wp2_with fail
            go_meet
            case rel => exact ⟨_, _, _, HR.out, zne_at HOa.out HOe.out hne⟩
        case rest =>
          obtain ⟨z, u1, u2, hg, hne⟩ := hcut
          have hEz := hg.ents
          obtain ⟨O3, o3, E3, e_3, N3, n3, h1, h2, h3⟩ := ent_forms hEz
          rw [h1, h2, h3] at hg hEz
          have hrow : wc.heap[Z]? = some (.cells #[.int .u8 z.kind, .int .i64 z.tx, .int .i64 z.next, .int .i64 z.nextID, .slice O3 z.ops.length o3, .slice E3 z.evs.length e_3, .int .i64 z.tickN, .int .i64 z.max, .slice N3 z.opn.length n3, .int .i64 z.tickAt, .string z.name, .int .i64 z.n, .int .i64 z.at_] 40) := hg.el
          have HP := Lib.hid (hg.same.at_ HP5.out (fun h => h))
          have HQ := Lib.hid (hg.same.at_ HQ5.out (fun h => h))
          have HZ := Lib.hid hrow
          have HEa := Lib.hid (HEa5.out.same hg.same)
          have HEb := Lib.hid (HEb5.out.same hg.same)
          have HEz := Lib.hid hEz
          have HS := Lib.hid (HS5.out.trans hg.same)
          have HR0 : Hid (false = true ↔ z = ea) := Lib.hid ⟨fun h => by simp at h, fun h => absurd h hne⟩
          obtain ⟨r, hr⟩ : ∃ r : Bool, (r = true ↔ ea = eb) := by
            by_cases q : ea = eb
            · exact ⟨true, by simp [q]⟩
            · exact ⟨false, by simp [q]⟩
          have HR1 := Lib.hid hr
          have HK2 := Lib.hid (Chg.refl (fun _ => False) wc).drew
          clear hg hEz h1 h2 h3 hrow hne hr HP5 HQ5 HEa5 HEb5 HS5 HG HE5
          go_upto_region 21 with fail
          have hS2 := three_rows (HK2.out.at_ HP.out (fun h => h)) (HK2.out.at_ HQ.out (fun h => h)) (HK2.out.at_ HZ.out (fun h => h))
          have hS1 := three_rows HP.out HQ.out HZ.out
          go_region_held3 (fun w' => w'.cell? ⟨P, 0, none⟩ = some (.int .u8 ea.kind) ∧ w'.cell? ⟨P, 1, none⟩ = some (.int .i64 ea.tx) ∧ w'.cell? ⟨P, 2, none⟩ = some (.int .i64 ea.next) ∧ w'.cell? ⟨P, 3, none⟩ = some (.int .i64 ea.nextID) ∧ w'.cell? ⟨P, 4, none⟩ = some (.slice O1 ea.ops.length o1) ∧ w'.cell? ⟨P, 5, none⟩ = some (.slice E1 ea.evs.length e_1) ∧ w'.cell? ⟨P, 6, none⟩ = some (.int .i64 ea.tickN) ∧ w'.cell? ⟨P, 7, none⟩ = some (.int .i64 ea.max) ∧ w'.cell? ⟨P, 8, none⟩ = some (.slice N1 ea.opn.length n1) ∧ w'.cell? ⟨P, 9, none⟩ = some (.int .i64 ea.tickAt) ∧ w'.cell? ⟨P, 10, none⟩ = some (.string ea.name) ∧ w'.cell? ⟨P, 11, none⟩ = some (.int .i64 ea.n) ∧ w'.cell? ⟨P, 12, none⟩ = some (.int .i64 ea.at_) ∧ w'.cell? ⟨Q, 0, none⟩ = some (.int .u8 eb.kind) ∧ w'.cell? ⟨Q, 1, none⟩ = some (.int .i64 eb.tx) ∧ w'.cell? ⟨Q, 2, none⟩ = some (.int .i64 eb.next) ∧ w'.cell? ⟨Q, 3, none⟩ = some (.int .i64 eb.nextID) ∧ w'.cell? ⟨Q, 4, none⟩ = some (.slice O2 eb.ops.length o2) ∧ w'.cell? ⟨Q, 5, none⟩ = some (.slice E2 eb.evs.length e_2) ∧ w'.cell? ⟨Q, 6, none⟩ = some (.int .i64 eb.tickN) ∧ w'.cell? ⟨Q, 7, none⟩ = some (.int .i64 eb.max) ∧ w'.cell? ⟨Q, 8, none⟩ = some (.slice N2 eb.opn.length n2) ∧ w'.cell? ⟨Q, 9, none⟩ = some (.int .i64 eb.tickAt) ∧ w'.cell? ⟨Q, 10, none⟩ = some (.string eb.name) ∧ w'.cell? ⟨Q, 11, none⟩ = some (.int .i64 eb.n) ∧ w'.cell? ⟨Q, 12, none⟩ = some (.int .i64 eb.at_) ∧ w'.cell? ⟨Z, 0, none⟩ = some (.int .u8 z.kind) ∧ w'.cell? ⟨Z, 1, none⟩ = some (.int .i64 z.tx) ∧ w'.cell? ⟨Z, 2, none⟩ = some (.int .i64 z.next) ∧ w'.cell? ⟨Z, 3, none⟩ = some (.int .i64 z.nextID) ∧ w'.cell? ⟨Z, 4, none⟩ = some (.slice O3 z.ops.length o3) ∧ w'.cell? ⟨Z, 5, none⟩ = some (.slice E3 z.evs.length e_3) ∧ w'.cell? ⟨Z, 6, none⟩ = some (.int .i64 z.tickN) ∧ w'.cell? ⟨Z, 7, none⟩ = some (.int .i64 z.max) ∧ w'.cell? ⟨Z, 8, none⟩ = some (.slice N3 z.opn.length n3) ∧ w'.cell? ⟨Z, 9, none⟩ = some (.int .i64 z.tickAt) ∧ w'.cell? ⟨Z, 10, none⟩ = some (.string z.name) ∧ w'.cell? ⟨Z, 11, none⟩ = some (.int .i64 z.n) ∧ w'.cell? ⟨Z, 12, none⟩ = some (.int .i64 z.at_)) (first | assumption | go_keep) (first | (go_at_call 12; ((refine (turned_any ea _ _ _ _ _ (HEa.out.same HK7.out) hfoa hfea).mono ?_); rintro _ w18 ⟨vo8, ve8, rfl, hT8⟩; have hs8 := HK7.out.trans hT8.same; have hS8 := three_rows (hs8.at_ HP.out (fun h => h)) (hs8.at_ HQ.out (fun h => h)) (hs8.at_ HZ.out (fun h => h)); have HK8 := Lib.hid hs8; clear hs8; have HT8 := Lib.hid hT8; clear hT8)) | (go_at_call 12; ((refine (turned_any eb _ _ _ _ _ (HEb.out.same HK3.out) hfob hfeb).mono ?_); rintro _ w14 ⟨vo4, ve4, rfl, hT4⟩; have hs4 := HK3.out.trans hT4.same; have hS4 := three_rows (hs4.at_ HP.out (fun h => h)) (hs4.at_ HQ.out (fun h => h)) (hs4.at_ HZ.out (fun h => h)); have HK4 := Lib.hid hs4; clear hs4; have HT4 := Lib.hid hT4; clear hT4)) | (go_at_call 12; ((refine (turned_any ea _ _ _ _ _ (HEa.out.same HK2.out) hfoa hfea).mono ?_); rintro _ w13 ⟨vo3, ve3, rfl, hT3⟩; have hs3 := HK2.out.trans hT3.same; have hS3 := three_rows (hs3.at_ HP.out (fun h => h)) (hs3.at_ HQ.out (fun h => h)) (hs3.at_ HZ.out (fun h => h)); have HK3 := Lib.hid hs3; clear hs3; have HT3 := Lib.hid hT3; clear hT3)) | (go_at_call 13; ((refine (esame_any z ea _ _ _ _ _ _ _ _ _ (HEz.out.same HK8.out) (HT8.out.ents (HEa.out.same HK7.out).opn) false HR0.out).mono ?_); rintro _ w19 ⟨rfl, hs19⟩; have hs9 := HK8.out.trans hs19; have hS9 := three_rows (hs9.at_ HP.out (fun h => h)) (hs9.at_ HQ.out (fun h => h)) (hs9.at_ HZ.out (fun h => h)); have HK9 := Lib.hid hs9; clear hs9; clear hs19)) | (go_at_call 13; ((refine (esame_any z z _ _ _ _ _ _ _ _ _ (HEz.out.same HK6.out) (HEz.out.same HK6.out) true (by simp)).mono ?_); rintro _ w17 ⟨rfl, hs17⟩; have hs7 := HK6.out.trans hs17; have hS7 := three_rows (hs7.at_ HP.out (fun h => h)) (hs7.at_ HQ.out (fun h => h)) (hs7.at_ HZ.out (fun h => h)); have HK7 := Lib.hid hs7; clear hs7; clear hs17)) | (go_at_call 13; ((refine (esame_any ea eb _ _ _ _ _ _ _ _ _ ((HT3.out.ents (HEa.out.same HK2.out).opn).same HT4.out.same) (HT4.out.ents (HEb.out.same HK3.out).opn) r HR1.out).mono ?_); rintro _ w15 ⟨rfl, hs15⟩; have hs5 := HK4.out.trans hs15; have hS5 := three_rows (hs5.at_ HP.out (fun h => h)) (hs5.at_ HQ.out (fun h => h)) (hs5.at_ HZ.out (fun h => h)); have HK5 := Lib.hid hs5; clear hs5; clear hs15)) | (go_at_call 14; ((refine (rsame_any ea eb _ _ _ _ _ _ _ _ _ (HEa.out.same HK5.out) (HEb.out.same HK5.out) r HR1.out).mono ?_); rintro _ w16 ⟨rfl, hs16⟩; have hs6 := HK5.out.trans hs16; have hS6 := three_rows (hs6.at_ HP.out (fun h => h)) (hs6.at_ HQ.out (fun h => h)) (hs6.at_ HZ.out (fun h => h)); have HK6 := Lib.hid hs6; clear hs6; clear hs16)))
          all_goals
            go_wp2_with fail
            go_ret
            exact ⟨rfl, HS.out.trans HK9.out⟩
    · go_wp2_with fail
      refine (small_any rb _ _ _ _ Fb w2 (HRb.out.same HS2.out) false (by simpa using hsb)).mono ?_
      rintro _ w3 ⟨rfl, hs3⟩
      have HS3 := Lib.hid (HS2.out.trans hs3)
      clear hs3 HB2 HS2 y0 y1 y2 y3 y4 y5 y6 y7 y8 y9 y10
      go_wp2_with fail
      refine (nine_any _).mono ?_
      rintro _ w9 ⟨rfl, hs9⟩
      go_wp2_with fail
      go_ret
      exact ⟨rfl, HS3.out.trans hs9⟩
  · go_wp2_with fail
    refine (small_any ra _ _ _ _ Fa w1 (HRa.out.same HS1.out) false (by simpa using hsa)).mono ?_
    rintro _ w2 ⟨rfl, hs2⟩
    have HS2 := Lib.hid (HS1.out.trans hs2)
    clear hs2 HB1 HS1 x0 x1 x2 x3 x4 x5 x6 x7 x8 x9 x10
    go_wp2_with fail
    refine (nine_any _).mono ?_
    rintro _ w9 ⟨rfl, hs9⟩
    go_wp2_with fail
    go_ret
    exact ⟨rfl, HS2.out.trans hs9⟩
end Go.Proofs.Ytdkankiohoocaaa
