/- The walk of carrierlaw16.of: its kinds 2, 5, 6, 7. -/
import Derived.Test.YtdkankiohoocaaaQLeF
namespace Go.Proofs.Ytdkankiohoocaaa
set_option linter.unusedSimpArgs false
set_option linter.unusedVariables false
open Go Go.RowKit Go.Proofs

set_option maxHeartbeats 12800000 in
set_option maxRecDepth 100000 in
theorem lof_b (r : RawD) (vo vk vg vs : Value) (F : Nat → Prop) (w : World) (h : RawS w F r vo vk vg vs) (hsm : SmallR r) (hks : 1 + r.kind % 11 = 2 ∨ 1 + r.kind % 11 = 5 ∨ 1 + r.kind % 11 = 6 ∨ 1 + r.kind % 11 = 7) :
    Calls Try.prog 11 #[rawV r vo vk vg vs] w (LofPost r w) := by
  obtain ⟨Ao, co, Ak, ck, Ag, cg, As, cs, rfl, rfl, rfl, rfl⟩ := h.forms
  have hkt : r.kind.tmod 11 = r.kind % 11 := Int.tmod_eq_emod_of_nonneg h.kind.1
  obtain ⟨K, hK⟩ : ∃ K : Int, 1 + r.kind % 11 = K := ⟨_, rfl⟩
  have hK11 : 1 ≤ K ∧ K ≤ 11 := by omega
  have hks1 : K = 2 ∨ K = 5 ∨ K = 6 ∨ K = 7 := by omega
  have HKs := Lib.hid hks1
  clear hks hks1
  have hkw : IntKind.u8.wrap (1 + r.kind % 11) = 1 + r.kind % 11 := by rw [IntKind.wrap_u8]; omega
  have hkw2 : (1 + r.kind % 11) % 256 = 1 + r.kind % 11 := by omega
  obtain ⟨io, hio, hzo0, hzo1, hzo2⟩ := info_parts info_rop
  obtain ⟨ie, hie, hze0, hze1, hze2⟩ := info_parts info_rpl
  obtain ⟨x0, -⟩ := raw_cells ((Chg.alloc_ (fun _ => False) (w.alloc (.cells #[.int .u8 r.kind, .int .i64 r.tx, .int .i64 r.n, .int .i64 r.at_, .string r.name, .int .u8 r.max, .slice Ao r.opn.length co, .slice Ak r.keys.length ck, .string r.text, .slice Ag r.gone.length cg, .slice As r.spools.length cs] 25)) (.cells (ent0 0) 35)).at_ (heap_alloc_new w (.cells #[.int .u8 r.kind, .int .i64 r.tx, .int .i64 r.n, .int .i64 r.at_, .string r.name, .int .u8 r.max, .slice Ao r.opn.length co, .slice Ak r.keys.length ck, .string r.text, .slice Ag r.gone.length cg, .slice As r.spools.length cs] 25)) (fun h => h))
  have HT0 : Hid (TG w (((w.alloc (.cells #[.int .u8 r.kind, .int .i64 r.tx, .int .i64 r.n, .int .i64 r.at_, .string r.name, .int .u8 r.max, .slice Ao r.opn.length co, .slice Ak r.keys.length ck, .string r.text, .slice Ag r.gone.length cg, .slice As r.spools.length cs] 25)).alloc (.cells (ent0 0) 35)).alloc (.cells #[.int .u8 K, .int .i64 0, .int .i64 0, .int .i64 0, .slice none 0 0, .slice none 0 0, .int .i64 0, .int .i64 0, .slice none 0 0, .int .i64 0, .string ⟨#[]⟩, .int .i64 0, .int .i64 0] 35)) w.heap.size (w.heap.size + 1 + 1) (w.heap.size + 1) #[.int .u8 r.kind, .int .i64 r.tx, .int .i64 r.n, .int .i64 r.at_, .string r.name, .int .u8 r.max, .slice Ao r.opn.length co, .slice Ak r.keys.length ck, .string r.text, .slice Ag r.gone.length cg, .slice As r.spools.length cs] 25 #[.int .u8 K, .int .i64 0, .int .i64 0, .int .i64 0, .slice none 0 0, .slice none 0 0, .int .i64 0, .int .i64 0, .slice none 0 0, .int .i64 0, .string ⟨#[]⟩, .int .i64 0, .int .i64 0] 35 72 (.slice none 0 0) (([] : List OpD).map opCells) 76 (.slice none 0 0) (([] : List PlD).map plCells)) := by
    obtain ⟨b1, b2, b3, b4⟩ := two_new (Chg.refl (fun _ => False) ((w.alloc (.cells #[.int .u8 r.kind, .int .i64 r.tx, .int .i64 r.n, .int .i64 r.at_, .string r.name, .int .u8 r.max, .slice Ao r.opn.length co, .slice Ak r.keys.length ck, .string r.text, .slice Ag r.gone.length cg, .slice As r.spools.length cs] 25)).alloc (.cells (ent0 0) 35)))
    have hz : ((w.alloc (.cells #[.int .u8 r.kind, .int .i64 r.tx, .int .i64 r.n, .int .i64 r.at_, .string r.name, .int .u8 r.max, .slice Ao r.opn.length co, .slice Ak r.keys.length ck, .string r.text, .slice Ag r.gone.length cg, .slice As r.spools.length cs] 25)).alloc (.cells (ent0 0) 35)).heap.size = w.heap.size + 1 + 1 := by simp
    have b5 := heap_alloc_new ((w.alloc (.cells #[.int .u8 r.kind, .int .i64 r.tx, .int .i64 r.n, .int .i64 r.at_, .string r.name, .int .u8 r.max, .slice Ao r.opn.length co, .slice Ak r.keys.length ck, .string r.text, .slice Ag r.gone.length cg, .slice As r.spools.length cs] 25)).alloc (.cells (ent0 0) 35)) (.cells #[.int .u8 K, .int .i64 0, .int .i64 0, .int .i64 0, .slice none 0 0, .slice none 0 0, .int .i64 0, .int .i64 0, .slice none 0 0, .int .i64 0, .string ⟨#[]⟩, .int .i64 0, .int .i64 0] 35)
    rw [hz] at b5
    have hc := Chg.alloc_ (fun _ => False) ((w.alloc (.cells #[.int .u8 r.kind, .int .i64 r.tx, .int .i64 r.n, .int .i64 r.at_, .string r.name, .int .u8 r.max, .slice Ao r.opn.length co, .slice Ak r.keys.length ck, .string r.text, .slice Ag r.gone.length cg, .slice As r.spools.length cs] 25)).alloc (.cells (ent0 0) 35)) (.cells #[.int .u8 K, .int .i64 0, .int .i64 0, .int .i64 0, .slice none 0 0, .slice none 0 0, .int .i64 0, .int .i64 0, .slice none 0 0, .int .i64 0, .string ⟨#[]⟩, .int .i64 0, .int .i64 0] 35)
    exact ⟨hc.at_ b1 (fun h => h), b5, hc.at_ b2 (fun h => h), World.ownsRow_nil _ _ _ _, World.ownsRow_nil _ _ _ _, fun g hg => by simp [Value.ownBlock] at hg, fun g hg => by simp [Value.ownBlock] at hg, fun g hg => by simp [Value.ownBlock] at hg, b4.trans hc, by omega⟩
  unfold rawV
  unfold rawCells
  go_enter Try.func11, Try.ntmps11
  go_upto_region 2 with fail
  have hT0 := HT0.out
  clear HT0 x0 hkt hkw hkw2
  generalize ((w.alloc (.cells #[.int .u8 r.kind, .int .i64 r.tx, .int .i64 r.n, .int .i64 r.at_, .string r.name, .int .u8 r.max, .slice Ao r.opn.length co, .slice Ak r.keys.length ck, .string r.text, .slice Ag r.gone.length cg, .slice As r.spools.length cs] 25)).alloc (.cells (ent0 0) 35)).alloc (.cells #[.int .u8 K, .int .i64 0, .int .i64 0, .int .i64 0, .slice none 0 0, .slice none 0 0, .int .i64 0, .int .i64 0, .slice none 0 0, .int .i64 0, .string ⟨#[]⟩, .int .i64 0, .int .i64 0] 35) = W0 at *
  obtain ⟨B, hB⟩ : ∃ n, w.heap.size = n := ⟨_, rfl⟩
  obtain ⟨R, hR⟩ : ∃ n, w.heap.size + 1 = n := ⟨_, rfl⟩
  obtain ⟨E, hE⟩ : ∃ n, w.heap.size + 1 + 1 = n := ⟨_, rfl⟩
  rw [hE, hR, hB] at hT0
  rw [hE, hR, hB]
  clear hB hR hE
  have HT0 := Lib.hid hT0
  have HK := Lib.hid hK
  clear hT0 hK
  have hkl12 := hsm.keys
  have hsl6 := hsm.spools
  go_wp2_with fail
  go_loopw [4, 5] (fun v i wr => ∃ (k : Nat) (l : List OpD), i = .int .i64 k ∧ k ≤ r.keys.length ∧ l.length = k ∧ (∀ o ∈ l, o.ok ∧ o.table ≤ 255 ∧ o.text.size ≤ 40) ∧ TG w wr B E R #[.int .u8 r.kind, .int .i64 r.tx, .int .i64 r.n, .int .i64 r.at_, .string r.name, .int .u8 r.max, .slice Ao r.opn.length co, .slice Ak r.keys.length ck, .string r.text, .slice Ag r.gone.length cg, .slice As r.spools.length cs] 25 #[.int .u8 K, .int .i64 0, .int .i64 0, .int .i64 0, .slice none 0 0, .slice none 0 0, .int .i64 0, .int .i64 0, .slice none 0 0, .int .i64 0, .string ⟨#[]⟩, .int .i64 0, .int .i64 0] 35 72 v (l.map opCells) 76 (.slice none 0 0) (([] : List PlD).map plCells)) (fun _ i _ => r.keys.length - (intOf i).toNat)
  case atStart => exact ⟨0, [], rfl, Nat.zero_le _, rfl, by simp, HT0.out⟩
  case round =>
    clear HT0
    obtain ⟨k, l1, rfl, hk, hl1, hok1, hT⟩ := hrel
    obtain ⟨x0, x1, x2, x3, x4, x5, x6, x7, x8, x9, x10⟩ := raw_at hT
    obtain ⟨Av, nv, cv, hv1⟩ := hT.form1
    subst hv1
    by_cases hkl : k < r.keys.length
    · obtain ⟨bb, oo, xx, hA, -, hxx, hcc⟩ := (h.keys.same hT.same).at_ (i := k) (by rw [List.length_map]; exact hkl)
      have hg : r.keys[k]? = some r.keys[k] := List.getElem?_eq_getElem hkl
      generalize r.keys[k] = ky at hg
      have hxn : xx = numCells ky := by rw [List.getElem?_map, hg] at hxx; simpa using hxx.symm
      subst hxn
      have a0 := hcc 0 (.int .i64 ky) rfl
      have e0 : oo + k * 1 + 0 = oo + k := by omega
      rw [e0] at a0
      have hbl : bb < wr.heap.size := cell_lt a0
      have hkl' : (k : Int) < (r.keys.length : Int) := by omega
      have hky := h.key ky (List.mem_of_getElem? hg)
      have hBs := (hT.size).1
      have hC := Lib.hid (fun W => cut_still r.text W)
      subst hA
      clear hcc hxx hg
      go_upto_region 6 with fail
      have hw1 : IntKind.i64.wrap (IntKind.u8.wrap ky) = ky % 256 := by rw [IntKind.wrap_u8, IntKind.wrap_i64]; omega
      go_cut [6] (fun v wc => v = .pointer (some ⟨wr.heap.size, 0, none⟩) ∧ wc = (wr.alloc (.cells #[.int .i64 (ky % 256), .bool false, .int .i64 ky, .string (cutB r.text 40)] 72)).drew)
      case first =>
        go_region_held3 (fun w' => w'.cell? ⟨B, 7, none⟩ = some (.slice (some ⟨bb, oo, none⟩) r.keys.length ck) ∧ w'.cell? ⟨B, 8, none⟩ = some (.string r.text) ∧ w'.cell? ⟨bb, oo + k, none⟩ = some (.int .i64 ky)) (go_keep) (first | (go_at_call 23; ((with_reducible refine (hC.out _).mono ?_); rintro _ _ ⟨rfl, rfl⟩)))
        all_goals
          go_wp2_with fail
          go_meet
          case rel => exact ⟨rfl, rfl⟩
      case rest =>
        obtain ⟨rfl, rfl⟩ := hcut
        clear hw1
        have hT6 := hT.keep (Chg.alloc_ (fun _ => False) wr (.cells #[.int .i64 (ky % 256), .bool false, .int .i64 ky, .string (cutB r.text 40)] 72)).drew
        obtain ⟨x0, x1, x2, x3, x4, x5, x6, x7, x8, x9, x10⟩ := raw_at hT6
        have hO6 : (wr.alloc (.cells #[.int .i64 (ky % 256), .bool false, .int .i64 ky, .string (cutB r.text 40)] 72)).drew.heap[wr.heap.size]? = some (.cells #[.int .i64 (ky % 256), .bool false, .int .i64 ky, .string (cutB r.text 40)] 72 (0, 0)) := heap_alloc_new wr _
        have HT := Lib.hid hT
        clear hT hT6
        go_upto_region 7 with fail
        go_cut [52] (fun v wc => ∃ g : Bool, wc = (wr.alloc (.cells #[.int .i64 (ky % 256), .bool g, .int .i64 ky, .string (cutB r.text 40)] 72)).drew)
        case first =>
          by_cases hgl : k < r.gone.length
          · obtain ⟨-, bg, og, y, hAg, -, hy, hcy⟩ := ((h.gone.same HT.out.same).same (Chg.alloc_ (fun _ => False) wr (.cells #[.int .i64 (ky % 256), .bool false, .int .i64 ky, .string (cutB r.text 40)] 72)).drew).at_ hgl
            subst hAg
            have hgl' : (k : Int) < (r.gone.length : Int) := by omega
            clear hy
            go_wp2_with fail
            all_goals
              go_meet
              case rel => exact ⟨_, rfl⟩
          · have hgl' : ¬ (k : Int) < (r.gone.length : Int) := by omega
            go_wp2_with fail
            all_goals
              go_meet
              case rel => exact ⟨_, rfl⟩
        case rest =>
          obtain ⟨g, rfl⟩ := hcut
          have hT7 := HT.out.keep (Chg.alloc_ (fun _ => False) wr (.cells #[.int .i64 (ky % 256), .bool g, .int .i64 ky, .string (cutB r.text 40)] 72)).drew
          have hO7 : (wr.alloc (.cells #[.int .i64 (ky % 256), .bool g, .int .i64 ky, .string (cutB r.text 40)] 72)).drew.heap[wr.heap.size]? = some (.cells #[.int .i64 (ky % 256), .bool g, .int .i64 ky, .string (cutB r.text 40)] 72 (0, 0)) := heap_alloc_new wr _
          clear HT hO6 a0 x0 x1 x2 x3 x4 x5 x6 x7 x8 x9 x10
          generalize (wr.alloc (.cells #[.int .i64 (ky % 256), .bool g, .int .i64 ky, .string (cutB r.text 40)] 72)).drew = W7 at *
          generalize wr.heap.size = O at *
          obtain ⟨o0, o1, o2, o3⟩ := four_cells' hO7
          have hown := hT7.own1
          have hml : (l1.map opCells).length = k := by simp; omega
          have hcut := cutB_size r.text 40
          go_wp2_with (at_builtin; refine wl_app _ rfl _ _ 28 rfl 72 io _ 4 40 Try.underlying28 hio hzo0 hzo1 hzo2 rfl (by omega) (.slice Av nv cv) _ _ (by rfl) (hown.alloc _) _ 1 1 [.int .i64 (ky % 256), .bool g, .int .i64 ky, .string (cutB r.text 40)] (by rfl) (by rfl) (four_new_cells _ _ _ _ _ _) (by simp [Value.oneCell']) (by omega) (by unfold maxLen; omega) ?_; intro A8 cp8 w8 ho8 hg8 hat8; have HM8 := Lib.hid (hT7.grow1 _ _ ho8 hg8 hat8); clear ho8 hg8 hat8)
          go_roundw
          case rel =>
            have hz := HM8.out
            refine ⟨k + 1, l1 ++ [⟨ky % 256, g, ky, cutB r.text 40⟩], by go_num, by omega, by simp; omega, fun o ho => ?_, by rw [List.map_append]; rw [hml] at hz; exact hz⟩
            rcases List.mem_append.1 ho with ho | ho
            · exact hok1 o ho
            · have := List.mem_singleton.1 ho
              subst this
              exact ⟨⟨⟨by simp only; omega, by simp only; omega⟩, hky, by simp only; omega⟩, by simp only; omega, hcut⟩
          case measure => simp [intOf]; omega
    · have hke : k = r.keys.length := by omega
      subst hke
      have HO1 : Hid (OpsOk r l1) := ⟨by omega, hok1⟩
      have HT1 := Lib.hid hT
      clear hok1 hT
      go_wp2_with fail
      go_loopw [7, 8] (fun v i wr => ∃ (k : Nat) (l : List PlD), i = .int .i64 k ∧ k ≤ r.spools.length ∧ l.length = k ∧ (∀ p ∈ l, p.ok ∧ p.spool ≤ 255) ∧ TG w wr B E R #[.int .u8 r.kind, .int .i64 r.tx, .int .i64 r.n, .int .i64 r.at_, .string r.name, .int .u8 r.max, .slice Ao r.opn.length co, .slice Ak r.keys.length ck, .string r.text, .slice Ag r.gone.length cg, .slice As r.spools.length cs] 25 #[.int .u8 K, .int .i64 0, .int .i64 0, .int .i64 0, .slice none 0 0, .slice none 0 0, .int .i64 0, .int .i64 0, .slice none 0 0, .int .i64 0, .string ⟨#[]⟩, .int .i64 0, .int .i64 0] 35 72 (.slice Av nv cv) (l1.map opCells) 76 v (l.map plCells)) (fun _ i _ => r.spools.length - (intOf i).toNat)
      case atStart => exact ⟨0, [], rfl, Nat.zero_le _, rfl, by simp, HT1.out⟩
      case round =>
        clear HT1 x0 x1 x2 x3 x4 x5 x6 x7 x8 x9 x10
        obtain ⟨k, l2, rfl, hk2, hl2, hok2, hT⟩ := hrel
        obtain ⟨x0, x1, x2, x3, x4, x5, x6, x7, x8, x9, x10⟩ := raw_at hT
        obtain ⟨Aw, nw, cw, hv2⟩ := hT.form2
        subst hv2
        by_cases hkl2 : k < r.spools.length
        · obtain ⟨-, bs0, os0, y, hAs, -, -, hcy0⟩ := h.spools.at_ hkl2
          subst hAs
          have hcy := hT.same.cell' hcy0 (fun h => h)
          have hkl' : (k : Int) < (r.spools.length : Int) := by omega
          have hyr : 0 ≤ (y.toNat : Int) ∧ (y.toNat : Int) ≤ 255 := by have := y.toNat_lt; omega
          have hk1 : IntKind.i64.wrap ((k : Int) + 1) = (k : Int) + 1 := by rw [IntKind.wrap_i64]; omega
          have hyw : IntKind.i64.wrap (y.toNat : Int) = (y.toNat : Int) := by rw [IntKind.wrap_i64]; omega
          have hml : (l2.map plCells).length = k := by simp; omega
          have hrk := h.kind
          have hrt := h.tx.2
          have HTs := Lib.hid hT
          clear hT
          go_upto_region 13 with fail
          go_region_held3 (fun w' => w'.cell? ⟨B, 0, none⟩ = some (.int .u8 r.kind) ∧ w'.cell? ⟨B, 1, none⟩ = some (.int .i64 r.tx) ∧ w'.cell? ⟨B, 3, none⟩ = some (.int .i64 r.at_) ∧ w'.cell? ⟨B, 4, none⟩ = some (.string r.name) ∧ w'.cell? ⟨B, 8, none⟩ = some (.string r.text) ∧ w'.cell? ⟨B, 10, none⟩ = some (.slice (some ⟨bs0, os0, none⟩) r.spools.length cs) ∧ w'.cell? ⟨bs0, os0 + k, none⟩ = some (.int .u8 (y.toNat : Int))) (go_keep) (first | (refine step_app rfl _ _ 29 rfl 76 ie _ 9 88 Try.underlying29 hie hze0 hze1 hze2 rfl (by omega) (.slice Aw nw cw) _ _ (by rfl) (hown2.alloc _) _ 1 1 [.int .i64 (y.toNat : Int), .int .i64 id, .int .i64 tx1, .string (cutB r.name 40), .int .i64 tries, .int .i64 table, .int .u8 kind, .int .i64 r.at_, .string (cutB r.text 40)] (by rfl) (by rfl) (nine_new_cells _ _ _ _ _ _ _ _ _ _ _) (by simp [Value.oneCell']) (by omega) (by unfold maxLen; omega) ?_; intro A8 cp8 w8 ho8 hg8 hat8; have hM8 := hT2.grow2 _ _ ho8 hg8 hat8; obtain ⟨z0, z1, z2, z3, z4, z5, z6, z7, z8, z9, z10⟩ := raw_at hM8; have zc := hM8.same.cell' hcy0 (fun h => h); have HM8 := Lib.hid hM8; clear hM8 ho8 hg8 hat8) | (go_at_call 24; ((with_reducible refine (of_any ((k : Int) + 1) r.tx r.name (k : Int) (y.toNat : Int) r.kind r.at_ r.text _ (by omega) hrt hyr.1 hyr.2 hrk.1 hrk.2).mono ?_); rintro _ w2 ⟨id, tx1, tries, table, kind, rfl, hevok, hid, htx, hs2⟩; have hT2 := (HTs.out.keep (Chg.refl _ wr).drew).keep hs2; obtain ⟨q0, q1, q2, q3, q4, q5, q6, q7, q8, q9, q10⟩ := raw_at hT2; have qc := hT2.same.cell' hcy0 (fun h => h); have hown2 := hT2.own2; unfold evv)))
          all_goals
            go_wp2_with fail
            go_roundw
            case rel =>
              have hz := HM8.out
              rw [hml] at hz
              refine ⟨k + 1, l2 ++ [⟨(y.toNat : Int), id, tx1, cutB r.name 40, tries, table, kind, r.at_, cutB r.text 40⟩], by go_num, by omega, by simp; omega, fun o ho => ?_, by rw [List.map_append]; exact hz⟩
              rcases List.mem_append.1 ho with ho | ho
              · exact hok2 o ho
              · have := List.mem_singleton.1 ho
                subst this
                exact ⟨⟨⟨hyr.1, by simp only; omega⟩, hevok, hid, htx, h.at_⟩, hyr.2⟩
            case measure => simp [intOf]; omega
        · have hke2 : k = r.spools.length := by omega
          subst hke2
          have HO2 : Hid (PlsOk r l2) := ⟨by omega, hok2⟩
          have HT2 := Lib.hid hT
          obtain ⟨k0, -⟩ := hT.cell 0 _ rfl
          clear hok2 hT
          go_upto_region 16 with fail
          obtain ⟨zt, HZt⟩ : ∃ z, Hid (wholeZ r.tx = z) := ⟨_, rfl⟩
          obtain ⟨zn, HZn⟩ : ∃ z, Hid (wholeZ r.n = z) := ⟨_, rfl⟩
          obtain ⟨za, HZa⟩ : ∃ z, Hid (wholeZ r.at_ = z) := ⟨_, rfl⟩
          have hit := h.tx
          have hin := h.n
          have hia := h.at_
          have hBE := HT2.out.old
          have hC := Lib.hid (fun W => cut_still r.name W)
          have HRS := Lib.hid h
          have HSM := Lib.hid hsm
          have hmx := h.max
          clear h hsm
          obtain rfl | rfl | rfl | rfl := HKs.out
          · have hT := HT2.out
            obtain ⟨x0, x1, x2, x3, x4, x5, x6, x7, x8, x9, x10⟩ := raw_at hT
            obtain ⟨y0, g0⟩ := hT.cell 6 _ rfl
            obtain ⟨y1, g1⟩ := hT.cell 7 _ rfl
            obtain ⟨y2, g2⟩ := hT.cell 8 _ rfl
            obtain ⟨y3, g3⟩ := hT.cell 9 _ rfl
            go_upto_region 21 with fail
            go_region_held3 (fun w' => w'.cell? ⟨B, 2, none⟩ = some (.int .i64 r.n) ∧ w'.cell? ⟨B, 5, none⟩ = some (.int .u8 r.max) ∧ w'.cell? ⟨B, 6, none⟩ = some (.slice Ao r.opn.length co) ∧ w'.cell? ⟨B, 3, none⟩ = some (.int .i64 r.at_)) (go_keep) (first | (go_at_call 25; ((with_reducible refine (lwhole_is r.n hin _ zn HZn).mono ?_); rintro _ _ ⟨rfl, rfl⟩)) | (go_at_call 26; ((with_reducible refine (snapOf_any r.max _ r.opn F _ ((HRS.out.opn.same hT.same).drew) hmx.1 hmx.2 (by have := HSM.out.opn; omega)).mono ?_); rintro _ w2 ⟨Ac, cc, lo, rfl, hSl, hlo, hwo, hs2⟩; have hT2b := (hT.keep (Chg.refl _ wr).drew).keep hs2; obtain ⟨q0, q1, q2, q3, q4, q5, q6, q7, q8, q9, q10⟩ := raw_at hT2b; obtain ⟨p0, p1⟩ := hT2b.cell 6 _ rfl; obtain ⟨p2, p3⟩ := hT2b.cell 7 _ rfl; obtain ⟨p4, p5⟩ := hT2b.cell 8 _ rfl; obtain ⟨p6, p7⟩ := hT2b.cell 9 _ rfl; obtain ⟨z0_0, z0_1, z0_2, z0_3, z0_4, z0_5, z0_6, z0_7, z0_8, z0_9, z0_10⟩ := raw_at (hT2b.store 6 (.int .i64 zn)); obtain ⟨z1_0, z1_1, z1_2, z1_3, z1_4, z1_5, z1_6, z1_7, z1_8, z1_9, z1_10⟩ := raw_at ((hT2b.store 6 (.int .i64 zn)).store 7 (.int .i64 (1 + r.max % 40))); obtain ⟨z2_0, z2_1, z2_2, z2_3, z2_4, z2_5, z2_6, z2_7, z2_8, z2_9, z2_10⟩ := raw_at (((hT2b.store 6 (.int .i64 zn)).store 7 (.int .i64 (1 + r.max % 40))).store 8 (.slice Ac lo.length cc)); obtain ⟨z3_0, z3_1, z3_2, z3_3, z3_4, z3_5, z3_6, z3_7, z3_8, z3_9, z3_10⟩ := raw_at ((((hT2b.store 6 (.int .i64 zn)).store 7 (.int .i64 (1 + r.max % 40))).store 8 (.slice Ac lo.length cc)).store 9 (.int .i64 r.at_)))))
            all_goals
              go_upto_region 32 with fail
              have hT9 : TG w ((((w2.setCell ⟨E, 6, none⟩ (.int .i64 zn)).setCell ⟨E, 7, none⟩ (.int .i64 (1 + r.max % 40))).setCell ⟨E, 8, none⟩ (.slice Ac lo.length cc)).setCell ⟨E, 9, none⟩ (.int .i64 r.at_)) B E R #[.int .u8 r.kind, .int .i64 r.tx, .int .i64 r.n, .int .i64 r.at_, .string r.name, .int .u8 r.max, .slice Ao r.opn.length co, .slice Ak r.keys.length ck, .string r.text, .slice Ag r.gone.length cg, .slice As r.spools.length cs] 25 #[.int .u8 2, .int .i64 0, .int .i64 0, .int .i64 0, .slice none 0 0, .slice none 0 0, .int .i64 zn, .int .i64 (1 + r.max % 40), .slice Ac lo.length cc, .int .i64 r.at_, .string ⟨#[]⟩, .int .i64 0, .int .i64 0] 35 72 (.slice Av nv cv) (l1.map opCells) 76 (.slice Aw nw cw) (l2.map plCells) := ((((hT2b.store 6 (.int .i64 zn)).store 7 (.int .i64 (1 + r.max % 40))).store 8 (.slice Ac lo.length cc)).store 9 (.int .i64 r.at_))
              have hSlW := hSl.keep (S := fun k => k = E) (Chg.setCell (S := fun k => k = E) (Chg.setCell (S := fun k => k = E) (Chg.setCell (S := fun k => k = E) (Chg.setCell (S := fun k => k = E) (Chg.refl _ w2) (p := ⟨E, 6, none⟩) (fun _ => rfl) (.int .i64 zn)) (p := ⟨E, 7, none⟩) (fun _ => rfl) (.int .i64 (1 + r.max % 40))) (p := ⟨E, 8, none⟩) (fun _ => rfl) (.slice Ac lo.length cc)) (p := ⟨E, 9, none⟩) (fun _ => rfl) (.int .i64 r.at_)) (fun b hb e => by have := (hT.size).2.1; have hb' : wr.heap.size ≤ b := hb; omega)
              have hRl := (hT.size).2.2
              generalize ((((w2.setCell ⟨E, 6, none⟩ (.int .i64 zn)).setCell ⟨E, 7, none⟩ (.int .i64 (1 + r.max % 40))).setCell ⟨E, 8, none⟩ (.slice Ac lo.length cc)).setCell ⟨E, 9, none⟩ (.int .i64 r.at_)) = W9 at *
              have hSl9 : Sl W9 (fun b => wr.heap.size ≤ b) 1 (.slice Ac lo.length cc) (lo.map numCells) := hSlW
              obtain ⟨m0, m1, m2, m3, m4, m5, m6, m7, m8, m9, m10, m11, m12⟩ := ent_cells hT9.el
              obtain ⟨r0, r1, r2, r3, r4, r5, r6, r7, r8, r9, r10, r11, r12⟩ := ent_cells hT9.res
              obtain ⟨f0, f1, f2, f3, f4, f5, f6, f7, f8, f9, f10, f11, f12⟩ := ent_free hT9.res
              have hO : OfE r { noEnt with kind := 2, tickN := zn, max := 1 + r.max % 40, opn := lo, tickAt := r.at_ } := by
                rw [← HZn.out]
                exact ofE_2 HK.out hin hia hmx.1 hlo hwo
              have HF := Lib.hid (TG.ends hT9 hO (.inr ⟨rfl, rfl⟩) (.inr ⟨rfl, rfl⟩) hSl9 (fun b hb => ⟨fun e => by have hb' : _ ≤ b := hb; omega, Nat.le_trans hT.same.size hb⟩) (.int .u8 2) (.int .i64 0) (.int .i64 0) (.int .i64 0) (.slice none 0 0) (.slice none 0 0) (.int .i64 zn) (.int .i64 (1 + r.max % 40)) (.slice Ac lo.length cc) (.int .i64 r.at_) (.string ⟨#[]⟩) (.int .i64 0) (.int .i64 0))
              clear hO hT hT9 hT2b
              go_wp2_with fail
              exact bodyPost_ret (v := entV { noEnt with kind := 2, tickN := zn, max := 1 + r.max % 40, opn := lo, tickAt := r.at_ } (.slice none 0 0) (.slice none 0 0) (.slice Ac lo.length cc)) (by simp [results, Try.results11, go_sem, entV, entCells, noEnt, r0, r1, r2, r3, r4, r5, r6, r7, r8, r9, r10, r11, r12]) rfl HF.out
          · have hT := HT2.out
            obtain ⟨x0, x1, x2, x3, x4, x5, x6, x7, x8, x9, x10⟩ := raw_at hT
            obtain ⟨y0, g0⟩ := hT.cell 10 _ rfl
            obtain ⟨y1, g1⟩ := hT.cell 11 _ rfl
            go_upto_region 26 with fail
            obtain ⟨z0_0, z0_1, z0_2, z0_3, z0_4, z0_5, z0_6, z0_7, z0_8, z0_9, z0_10⟩ := raw_at (hT.store 10 (.string (cutB r.name 40)))
            obtain ⟨z1_0, z1_1, z1_2, z1_3, z1_4, z1_5, z1_6, z1_7, z1_8, z1_9, z1_10⟩ := raw_at ((hT.store 10 (.string (cutB r.name 40))).store 11 (.int .i64 zn))
            go_region_held3 (fun w' => w'.cell? ⟨B, 4, none⟩ = some (.string r.name) ∧ w'.cell? ⟨B, 2, none⟩ = some (.int .i64 r.n)) (go_keep) (first | (go_at_call 23; ((with_reducible refine (hC.out _).mono ?_); rintro _ _ ⟨rfl, rfl⟩)) | (go_at_call 25; ((with_reducible refine (lwhole_is r.n hin _ zn HZn).mono ?_); rintro _ _ ⟨rfl, rfl⟩)))
            all_goals
              go_upto_region 32 with fail
              have hT9 : TG w ((wr.setCell ⟨E, 10, none⟩ (.string (cutB r.name 40))).setCell ⟨E, 11, none⟩ (.int .i64 zn)).drew B E R #[.int .u8 r.kind, .int .i64 r.tx, .int .i64 r.n, .int .i64 r.at_, .string r.name, .int .u8 r.max, .slice Ao r.opn.length co, .slice Ak r.keys.length ck, .string r.text, .slice Ag r.gone.length cg, .slice As r.spools.length cs] 25 #[.int .u8 5, .int .i64 0, .int .i64 0, .int .i64 0, .slice none 0 0, .slice none 0 0, .int .i64 0, .int .i64 0, .slice none 0 0, .int .i64 0, .string (cutB r.name 40), .int .i64 zn, .int .i64 0] 35 72 (.slice Av nv cv) (l1.map opCells) 76 (.slice Aw nw cw) (l2.map plCells) := ((hT.store 10 (.string (cutB r.name 40))).store 11 (.int .i64 zn)).keep (Chg.refl _ _).drew
              generalize ((wr.setCell ⟨E, 10, none⟩ (.string (cutB r.name 40))).setCell ⟨E, 11, none⟩ (.int .i64 zn)).drew = W9 at *
              obtain ⟨m0, m1, m2, m3, m4, m5, m6, m7, m8, m9, m10, m11, m12⟩ := ent_cells hT9.el
              obtain ⟨r0, r1, r2, r3, r4, r5, r6, r7, r8, r9, r10, r11, r12⟩ := ent_cells hT9.res
              obtain ⟨f0, f1, f2, f3, f4, f5, f6, f7, f8, f9, f10, f11, f12⟩ := ent_free hT9.res
              have hO : OfE r { noEnt with kind := 5, name := cutB r.name 40, n := zn } := by
                rw [← HZn.out]
                exact ofE_name 5 (by omega) HK.out hin
              have HF := Lib.hid (TG.ends hT9 hO (.inr ⟨rfl, rfl⟩) (.inr ⟨rfl, rfl⟩) (Sl.nil_ _ _ _ : Sl W9 (fun _ => False) 1 (.slice none 0 0) _) (fun _ hb => hb.elim) (.int .u8 5) (.int .i64 0) (.int .i64 0) (.int .i64 0) (.slice none 0 0) (.slice none 0 0) (.int .i64 0) (.int .i64 0) (.slice none 0 0) (.int .i64 0) (.string (cutB r.name 40)) (.int .i64 zn) (.int .i64 0))
              clear hO hT hT9
              go_wp2_with fail
              exact bodyPost_ret (v := entV { noEnt with kind := 5, name := cutB r.name 40, n := zn } (.slice none 0 0) (.slice none 0 0) (.slice none 0 0)) (by simp [results, Try.results11, go_sem, entV, entCells, noEnt, r0, r1, r2, r3, r4, r5, r6, r7, r8, r9, r10, r11, r12]) rfl HF.out
          · have hT := HT2.out
            obtain ⟨x0, x1, x2, x3, x4, x5, x6, x7, x8, x9, x10⟩ := raw_at hT
            obtain ⟨y0, g0⟩ := hT.cell 10 _ rfl
            obtain ⟨y1, g1⟩ := hT.cell 11 _ rfl
            go_upto_region 26 with fail
            obtain ⟨z0_0, z0_1, z0_2, z0_3, z0_4, z0_5, z0_6, z0_7, z0_8, z0_9, z0_10⟩ := raw_at (hT.store 10 (.string (cutB r.name 40)))
            obtain ⟨z1_0, z1_1, z1_2, z1_3, z1_4, z1_5, z1_6, z1_7, z1_8, z1_9, z1_10⟩ := raw_at ((hT.store 10 (.string (cutB r.name 40))).store 11 (.int .i64 zn))
            go_region_held3 (fun w' => w'.cell? ⟨B, 4, none⟩ = some (.string r.name) ∧ w'.cell? ⟨B, 2, none⟩ = some (.int .i64 r.n)) (go_keep) (first | (go_at_call 23; ((with_reducible refine (hC.out _).mono ?_); rintro _ _ ⟨rfl, rfl⟩)) | (go_at_call 25; ((with_reducible refine (lwhole_is r.n hin _ zn HZn).mono ?_); rintro _ _ ⟨rfl, rfl⟩)))
            all_goals
              go_upto_region 32 with fail
              have hT9 : TG w ((wr.setCell ⟨E, 10, none⟩ (.string (cutB r.name 40))).setCell ⟨E, 11, none⟩ (.int .i64 zn)).drew B E R #[.int .u8 r.kind, .int .i64 r.tx, .int .i64 r.n, .int .i64 r.at_, .string r.name, .int .u8 r.max, .slice Ao r.opn.length co, .slice Ak r.keys.length ck, .string r.text, .slice Ag r.gone.length cg, .slice As r.spools.length cs] 25 #[.int .u8 6, .int .i64 0, .int .i64 0, .int .i64 0, .slice none 0 0, .slice none 0 0, .int .i64 0, .int .i64 0, .slice none 0 0, .int .i64 0, .string (cutB r.name 40), .int .i64 zn, .int .i64 0] 35 72 (.slice Av nv cv) (l1.map opCells) 76 (.slice Aw nw cw) (l2.map plCells) := ((hT.store 10 (.string (cutB r.name 40))).store 11 (.int .i64 zn)).keep (Chg.refl _ _).drew
              generalize ((wr.setCell ⟨E, 10, none⟩ (.string (cutB r.name 40))).setCell ⟨E, 11, none⟩ (.int .i64 zn)).drew = W9 at *
              obtain ⟨m0, m1, m2, m3, m4, m5, m6, m7, m8, m9, m10, m11, m12⟩ := ent_cells hT9.el
              obtain ⟨r0, r1, r2, r3, r4, r5, r6, r7, r8, r9, r10, r11, r12⟩ := ent_cells hT9.res
              obtain ⟨f0, f1, f2, f3, f4, f5, f6, f7, f8, f9, f10, f11, f12⟩ := ent_free hT9.res
              have hO : OfE r { noEnt with kind := 6, name := cutB r.name 40, n := zn } := by
                rw [← HZn.out]
                exact ofE_name 6 (by omega) HK.out hin
              have HF := Lib.hid (TG.ends hT9 hO (.inr ⟨rfl, rfl⟩) (.inr ⟨rfl, rfl⟩) (Sl.nil_ _ _ _ : Sl W9 (fun _ => False) 1 (.slice none 0 0) _) (fun _ hb => hb.elim) (.int .u8 6) (.int .i64 0) (.int .i64 0) (.int .i64 0) (.slice none 0 0) (.slice none 0 0) (.int .i64 0) (.int .i64 0) (.slice none 0 0) (.int .i64 0) (.string (cutB r.name 40)) (.int .i64 zn) (.int .i64 0))
              clear hO hT hT9
              go_wp2_with fail
              exact bodyPost_ret (v := entV { noEnt with kind := 6, name := cutB r.name 40, n := zn } (.slice none 0 0) (.slice none 0 0) (.slice none 0 0)) (by simp [results, Try.results11, go_sem, entV, entCells, noEnt, r0, r1, r2, r3, r4, r5, r6, r7, r8, r9, r10, r11, r12]) rfl HF.out
          · have hT := HT2.out
            obtain ⟨x0, x1, x2, x3, x4, x5, x6, x7, x8, x9, x10⟩ := raw_at hT
            obtain ⟨y0, g0⟩ := hT.cell 10 _ rfl
            obtain ⟨y1, g1⟩ := hT.cell 11 _ rfl
            obtain ⟨y2, g2⟩ := hT.cell 12 _ rfl
            go_upto_region 28 with fail
            obtain ⟨z0_0, z0_1, z0_2, z0_3, z0_4, z0_5, z0_6, z0_7, z0_8, z0_9, z0_10⟩ := raw_at (hT.store 10 (.string (cutB r.name 40)))
            obtain ⟨z1_0, z1_1, z1_2, z1_3, z1_4, z1_5, z1_6, z1_7, z1_8, z1_9, z1_10⟩ := raw_at ((hT.store 10 (.string (cutB r.name 40))).store 11 (.int .i64 zn))
            obtain ⟨z2_0, z2_1, z2_2, z2_3, z2_4, z2_5, z2_6, z2_7, z2_8, z2_9, z2_10⟩ := raw_at (((hT.store 10 (.string (cutB r.name 40))).store 11 (.int .i64 zn)).store 12 (.int .i64 r.at_))
            go_region_held3 (fun w' => w'.cell? ⟨B, 4, none⟩ = some (.string r.name) ∧ w'.cell? ⟨B, 2, none⟩ = some (.int .i64 r.n) ∧ w'.cell? ⟨B, 3, none⟩ = some (.int .i64 r.at_)) (go_keep) (first | (go_at_call 23; ((with_reducible refine (hC.out _).mono ?_); rintro _ _ ⟨rfl, rfl⟩)) | (go_at_call 25; ((with_reducible refine (lwhole_is r.n hin _ zn HZn).mono ?_); rintro _ _ ⟨rfl, rfl⟩)))
            all_goals
              go_upto_region 32 with fail
              have hT9 : TG w (((wr.setCell ⟨E, 10, none⟩ (.string (cutB r.name 40))).setCell ⟨E, 11, none⟩ (.int .i64 zn)).setCell ⟨E, 12, none⟩ (.int .i64 r.at_)).drew B E R #[.int .u8 r.kind, .int .i64 r.tx, .int .i64 r.n, .int .i64 r.at_, .string r.name, .int .u8 r.max, .slice Ao r.opn.length co, .slice Ak r.keys.length ck, .string r.text, .slice Ag r.gone.length cg, .slice As r.spools.length cs] 25 #[.int .u8 7, .int .i64 0, .int .i64 0, .int .i64 0, .slice none 0 0, .slice none 0 0, .int .i64 0, .int .i64 0, .slice none 0 0, .int .i64 0, .string (cutB r.name 40), .int .i64 zn, .int .i64 r.at_] 35 72 (.slice Av nv cv) (l1.map opCells) 76 (.slice Aw nw cw) (l2.map plCells) := (((hT.store 10 (.string (cutB r.name 40))).store 11 (.int .i64 zn)).store 12 (.int .i64 r.at_)).keep (Chg.refl _ _).drew
              generalize (((wr.setCell ⟨E, 10, none⟩ (.string (cutB r.name 40))).setCell ⟨E, 11, none⟩ (.int .i64 zn)).setCell ⟨E, 12, none⟩ (.int .i64 r.at_)).drew = W9 at *
              obtain ⟨m0, m1, m2, m3, m4, m5, m6, m7, m8, m9, m10, m11, m12⟩ := ent_cells hT9.el
              obtain ⟨r0, r1, r2, r3, r4, r5, r6, r7, r8, r9, r10, r11, r12⟩ := ent_cells hT9.res
              obtain ⟨f0, f1, f2, f3, f4, f5, f6, f7, f8, f9, f10, f11, f12⟩ := ent_free hT9.res
              have hO : OfE r { noEnt with kind := 7, name := cutB r.name 40, n := zn, at_ := r.at_ } := by
                rw [← HZn.out]
                exact ofE_7 HK.out hin hia
              have HF := Lib.hid (TG.ends hT9 hO (.inr ⟨rfl, rfl⟩) (.inr ⟨rfl, rfl⟩) (Sl.nil_ _ _ _ : Sl W9 (fun _ => False) 1 (.slice none 0 0) _) (fun _ hb => hb.elim) (.int .u8 7) (.int .i64 0) (.int .i64 0) (.int .i64 0) (.slice none 0 0) (.slice none 0 0) (.int .i64 0) (.int .i64 0) (.slice none 0 0) (.int .i64 0) (.string (cutB r.name 40)) (.int .i64 zn) (.int .i64 r.at_))
              clear hO hT hT9
              go_wp2_with fail
              exact bodyPost_ret (v := entV { noEnt with kind := 7, name := cutB r.name 40, n := zn, at_ := r.at_ } (.slice none 0 0) (.slice none 0 0) (.slice none 0 0)) (by simp [results, Try.results11, go_sem, entV, entCells, noEnt, r0, r1, r2, r3, r4, r5, r6, r7, r8, r9, r10, r11, r12]) rfl HF.out
end Go.Proofs.Ytdkankiohoocaaa
