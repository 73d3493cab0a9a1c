/- snap.Same, carrierref11.Same, entry.Same. -/
import Derived.Test.YtdkankiohoocaaaQSmA
import Derived.Test.YtdkankiohoocaaaQDecE
namespace Go.Proofs.Ytdkankiohoocaaa
set_option linter.unusedSimpArgs false
set_option linter.unusedVariables false
open Go Go.RowKit Go.Proofs

theorem two_new' (w : World) (o1 o2 : Obj) : ((w.alloc o1).alloc o2).heap[w.heap.size]? = some o1 ∧ ((w.alloc o1).alloc o2).heap[w.heap.size + 1]? = some o2 ∧ Same w ((w.alloc o1).alloc o2) := by
  obtain ⟨h1, h2, -, h4⟩ := two_new (Chg.refl (fun _ => False) ((w.alloc o1).alloc o2))
  exact ⟨h1, h2, h4⟩
theorem bool_eq {a b : Bool} {p : Prop} (ha : a = true ↔ p) (hb : b = true ↔ p) : a = b := by
  cases a <;> cases b <;> simp_all
theorem is_false {a : Bool} {p : Prop} (ha : a = true ↔ p) (h : ¬ p) : a = false := by
  cases a
  · rfl
  · exact absurd (ha.1 rfl) h
theorem bool_of (p : Prop) : ∃ r : Bool, r = true ↔ p := by
  by_cases h : p
  · exact ⟨true, by simp [h]⟩
  · exact ⟨false, by simp [h]⟩

set_option maxHeartbeats 1600000 in
set_option maxRecDepth 100000 in
theorem snapSame_any (m1 m2 : Int) (v1 v2 : Value) (l1 l2 : List Int) (F G : Nat → Prop) (w : World) (h1 : Sl w F 1 v1 (l1.map numCells)) (h2 : Sl w G 1 v2 (l2.map numCells)) (r : Bool) (hr : r = true ↔ (m1 = m2 ∧ l1 = l2)) :
    Calls Try.prog 27 #[.agg #[.int .i64 m1, v1], .agg #[.int .i64 m2, v2]] w fun en w' => en = .returned (.bool r) ∧ Same w w' := by
  obtain ⟨A, ca, hva, -, -⟩ := h1.form
  obtain ⟨B, cb, hvb, -, -⟩ := h2.form
  rw [List.length_map] at hva hvb
  subst hva; subst hvb
  obtain ⟨b1, b2, hs⟩ := two_new' w (.cells #[.int .i64 m1, .slice A l1.length ca] 31) (.cells #[.int .i64 m2, .slice B l2.length cb] 31)
  obtain ⟨x0, x1, -, -⟩ := two_cells b1
  obtain ⟨y0, y1, -, -⟩ := two_cells b2
  have HS := Lib.hid hs
  have HR := Lib.hid hr
  clear b1 b2 hs hr
  by_cases hm : m1 = m2
  · subst hm
    go_enter Try.func27, Try.ntmps27
    go_wp2_with fail
    refine (eqnums_any _ _ l1 l2 F G _ (h1.same HS.out) (h2.same HS.out) r (by rw [HR.out]; simp)).mono ?_
    rintro _ w1 ⟨rfl, hs1⟩
    go_wp2_with fail
    go_ret
    exact ⟨rfl, HS.out.trans hs1⟩
  · have HF : Hid (r = false) := is_false HR.out (fun h => hm h.1)
    go_enter Try.func27, Try.ntmps27
    go_wp2_with fail
    go_ret
    exact ⟨ret_bool HF.out.symm, HS.out⟩

theorem four_cells' {w : World} {B : Nat} {a0 a1 a2 a3 : Value} {t : TypeId} (h : w.heap[B]? = some (.cells #[a0, a1, a2, a3] t (0, 0))) :
    w.cell? ⟨B, 0, none⟩ = some a0 ∧ w.cell? ⟨B, 1, none⟩ = some a1 ∧ w.cell? ⟨B, 2, none⟩ = some a2 ∧ w.cell? ⟨B, 3, none⟩ = some a3 := by
  simp [World.cell?, h]

set_option maxHeartbeats 1600000 in
set_option maxRecDepth 100000 in
theorem tickSame_any (n1 n2 m1 m2 a1 a2 : Int) (v1 v2 : Value) (l1 l2 : List Int) (F G : Nat → Prop) (w : World) (h1 : Sl w F 1 v1 (l1.map numCells)) (h2 : Sl w G 1 v2 (l2.map numCells)) (r : Bool) (hr : r = true ↔ (n1 = n2 ∧ a1 = a2 ∧ m1 = m2 ∧ l1 = l2)) :
    Calls Try.prog 30 #[.agg #[.int .i64 n1, .int .i64 m1, v1, .int .i64 a1], .agg #[.int .i64 n2, .int .i64 m2, v2, .int .i64 a2]] w fun en w' => en = .returned (.bool r) ∧ Same w w' := by
  obtain ⟨A, ca, hva, -, -⟩ := h1.form
  obtain ⟨B, cb, hvb, -, -⟩ := h2.form
  rw [List.length_map] at hva hvb
  subst hva; subst hvb
  obtain ⟨b1, b2, hs⟩ := two_new' w (.cells #[.int .i64 n1, .int .i64 m1, .slice A l1.length ca, .int .i64 a1] 33) (.cells #[.int .i64 n2, .int .i64 m2, .slice B l2.length cb, .int .i64 a2] 33)
  obtain ⟨x0, x1, x2, x3⟩ := four_cells' b1
  obtain ⟨y0, y1, y2, y3⟩ := four_cells' b2
  have HS := Lib.hid hs
  have HR := Lib.hid hr
  clear b1 b2 hs hr
  by_cases hd : n1 = n2
  · subst hd
    by_cases hd : a1 = a2
    · subst hd
      by_cases hd : m1 = m2
      · subst hd
        go_enter Try.func30, Try.ntmps30
        go_wp2_with fail
        refine (ints_any _ _ l1 l2 F G _ (h1.same HS.out) (h2.same HS.out) r (by rw [HR.out]; simp)).mono ?_
        rintro _ w1 ⟨rfl, hs1⟩
        go_wp2_with fail
        go_ret
        exact ⟨rfl, HS.out.trans hs1⟩
      · have HF : Hid (r = false) := is_false HR.out (fun h => hd h.2.2.1)
        go_enter Try.func30, Try.ntmps30
        go_wp2_with fail
        go_ret
        exact ⟨ret_bool HF.out.symm, HS.out⟩
    · have HF : Hid (r = false) := is_false HR.out (fun h => hd h.2.1)
      go_enter Try.func30, Try.ntmps30
      go_wp2_with fail
      go_ret
      exact ⟨ret_bool HF.out.symm, HS.out⟩
  · have HF : Hid (r = false) := is_false HR.out (fun h => hd h.1)
    go_enter Try.func30, Try.ntmps30
    go_wp2_with fail
    go_ret
    exact ⟨ret_bool HF.out.symm, HS.out⟩

/-- Two entries' boxes. -/
theorem ent_forms {w : World} {F : Nat → Prop} {e : EntD} {vo ve vp : Value} (h : EntS w F e vo ve vp) : ∃ Ao co Ae ce Ap cp, vo = .slice Ao e.ops.length co ∧ ve = .slice Ae e.evs.length ce ∧ vp = .slice Ap e.opn.length cp := by
  obtain ⟨Ao, co, ho, -, -⟩ := h.ops.form
  obtain ⟨Ae, ce, he, -, -⟩ := h.evs.form
  obtain ⟨Ap, cp, hp, -, -⟩ := h.opn.form
  rw [List.length_map] at ho he hp
  exact ⟨_, _, _, _, _, _, ho, he, hp⟩

set_option maxHeartbeats 3200000 in
set_option maxRecDepth 100000 in
theorem esame_any (a b : EntD) (vo ve vp uo ue up : Value) (F G : Nat → Prop) (w : World) (ha : EntS w F a vo ve vp) (hb : EntS w G b uo ue up) (r : Bool) (hr : r = true ↔ a = b) :
    Calls Try.prog 13 #[entV a vo ve vp, entV b uo ue up] w fun en w' => en = .returned (.bool r) ∧ Same w w' := by
  obtain ⟨Aao, cao, Aae, cae, Aap, cap, rfl, rfl, rfl⟩ := ent_forms ha
  obtain ⟨Abo, cbo, Abe, cbe, Abp, cbp, rfl, rfl, rfl⟩ := ent_forms hb
  obtain ⟨b1, b2, hs⟩ := two_new' w (.cells #[.int .u8 a.kind, .int .i64 a.tx, .int .i64 a.next, .int .i64 a.nextID, .slice Aao a.ops.length cao, .slice Aae a.evs.length cae, .int .i64 a.tickN, .int .i64 a.max, .slice Aap a.opn.length cap, .int .i64 a.tickAt, .string a.name, .int .i64 a.n, .int .i64 a.at_] 40) (.cells #[.int .u8 b.kind, .int .i64 b.tx, .int .i64 b.next, .int .i64 b.nextID, .slice Abo b.ops.length cbo, .slice Abe b.evs.length cbe, .int .i64 b.tickN, .int .i64 b.max, .slice Abp b.opn.length cbp, .int .i64 b.tickAt, .string b.name, .int .i64 b.n, .int .i64 b.at_] 40)
  obtain ⟨x0, x1, x2, x3, x4, x5, x6, x7, x8, x9, x10, x11, x12⟩ := ent_cells b1
  obtain ⟨y0, y1, y2, y3, y4, y5, y6, y7, y8, y9, y10, y11, y12⟩ := ent_cells b2
  have HB1 := Lib.hid b1
  have HB2 := Lib.hid b2
  obtain ⟨r1, hr1⟩ := bool_of (a.kind = b.kind ∧ a.tx = b.tx ∧ a.next = b.next ∧ a.nextID = b.nextID ∧ a.name = b.name ∧ a.n = b.n ∧ a.at_ = b.at_)
  obtain ⟨r2, hr2⟩ := bool_of (a.tickN = b.tickN ∧ a.tickAt = b.tickAt ∧ a.max = b.max ∧ a.opn = b.opn)
  obtain ⟨r3, hr3⟩ := bool_of (a.ops = b.ops)
  obtain ⟨r4, hr4⟩ := bool_of (a.evs = b.evs)
  have HR : Hid (r = true ↔ (r1 = true ∧ r2 = true ∧ r3 = true ∧ r4 = true)) := by
    show _ ↔ _
    rw [hr, hr1, hr2, hr3, hr4]
    constructor
    · rintro rfl; simp
    · obtain ⟨k0, tx, nx, nid, os, evs, tn, mx, op, ta, nm, n, at_⟩ := a
      obtain ⟨k0', tx', nx', nid', os', evs', tn', mx', op', ta', nm', n', at_'⟩ := b
      simp only
      rintro ⟨⟨rfl, rfl, rfl, rfl, rfl, rfl, rfl⟩, ⟨rfl, rfl, rfl, rfl⟩, rfl, rfl⟩
      rfl
  have HR1 := Lib.hid hr1
  have HR2 := Lib.hid hr2
  have HR3 := Lib.hid hr3
  have HR4 := Lib.hid hr4
  clear hr hr1 hr2 hr3 hr4
  have HS := Lib.hid hs
  clear hs b1 b2
  unfold entV
  unfold entCells
  go_enter Try.func13, Try.ntmps13
  go_upto_region 1 with fail
  generalize (w.alloc (.cells #[.int .u8 a.kind, .int .i64 a.tx, .int .i64 a.next, .int .i64 a.nextID, .slice Aao a.ops.length cao, .slice Aae a.evs.length cae, .int .i64 a.tickN, .int .i64 a.max, .slice Aap a.opn.length cap, .int .i64 a.tickAt, .string a.name, .int .i64 a.n, .int .i64 a.at_] 40)).alloc (.cells #[.int .u8 b.kind, .int .i64 b.tx, .int .i64 b.next, .int .i64 b.nextID, .slice Abo b.ops.length cbo, .slice Abe b.evs.length cbe, .int .i64 b.tickN, .int .i64 b.max, .slice Abp b.opn.length cbp, .int .i64 b.tickAt, .string b.name, .int .i64 b.n, .int .i64 b.at_] 40) = W at *
  generalize w.heap.size + 1 = Bb at *
  obtain ⟨Ba, hBa⟩ : ∃ n, w.heap.size = n := ⟨_, rfl⟩
  rw [hBa] at x0 x1 x2 x3 x4 x5 x6 x7 x8 x9 x10 x11 x12 HB1 ⊢
  clear hBa
  go_cut [5] (fun v wc => v = .bool r1 ∧ wc = W)
  case first =>
    by_cases hd_kind : a.kind = b.kind
    · have e_kind : (a.kind == b.kind) = true := by simpa using hd_kind
      by_cases hd_tx : a.tx = b.tx
      · have e_tx : (a.tx == b.tx) = true := by simpa using hd_tx
        by_cases hd_next : a.next = b.next
        · have e_next : (a.next == b.next) = true := by simpa using hd_next
          by_cases hd_nextID : a.nextID = b.nextID
          · have e_nextID : (a.nextID == b.nextID) = true := by simpa using hd_nextID
            by_cases hd_name : a.name = b.name
            · have e_name : a.name.toList = b.name.toList := by rw [hd_name]
              by_cases hd_n : a.n = b.n
              · have e_n : (a.n == b.n) = true := by simpa using hd_n
                by_cases hd_at_ : a.at_ = b.at_
                · have e_at_ : (a.at_ == b.at_) = true := by simpa using hd_at_
                  have HT : Hid (r1 = true) := HR1.out.2 ⟨hd_kind, hd_tx, hd_next, hd_nextID, hd_name, hd_n, hd_at_⟩
                  clear hd_kind hd_tx hd_next hd_nextID hd_name hd_n hd_at_
                  go_wp2_with fail
                  go_meet
                  case rel => exact ⟨by rw [HT.out], rfl⟩
                · have HT : Hid (r1 = false) := is_false HR1.out (fun h => hd_at_ h.2.2.2.2.2.2)
                  have e_at_ : (a.at_ == b.at_) = false := by simpa using hd_at_
                  clear hd_kind hd_tx hd_next hd_nextID hd_name hd_n hd_at_
                  go_wp2_with fail
                  go_meet
                  case rel => exact ⟨by rw [HT.out], rfl⟩
              · have HT : Hid (r1 = false) := is_false HR1.out (fun h => hd_n h.2.2.2.2.2.1)
                have e_n : (a.n == b.n) = false := by simpa using hd_n
                clear hd_kind hd_tx hd_next hd_nextID hd_name hd_n
                go_wp2_with fail
                go_meet
                case rel => exact ⟨by rw [HT.out], rfl⟩
            · have HT : Hid (r1 = false) := is_false HR1.out (fun h => hd_name h.2.2.2.2.1)
              have e_name := text_ne hd_name
              clear hd_kind hd_tx hd_next hd_nextID hd_name
              go_wp2_with fail
              go_meet
              case rel => exact ⟨by rw [HT.out], rfl⟩
          · have HT : Hid (r1 = false) := is_false HR1.out (fun h => hd_nextID h.2.2.2.1)
            have e_nextID : (a.nextID == b.nextID) = false := by simpa using hd_nextID
            clear hd_kind hd_tx hd_next hd_nextID
            go_wp2_with fail
            go_meet
            case rel => exact ⟨by rw [HT.out], rfl⟩
        · have HT : Hid (r1 = false) := is_false HR1.out (fun h => hd_next h.2.2.1)
          have e_next : (a.next == b.next) = false := by simpa using hd_next
          clear hd_kind hd_tx hd_next
          go_wp2_with fail
          go_meet
          case rel => exact ⟨by rw [HT.out], rfl⟩
      · have HT : Hid (r1 = false) := is_false HR1.out (fun h => hd_tx h.2.1)
        have e_tx : (a.tx == b.tx) = false := by simpa using hd_tx
        clear hd_kind hd_tx
        go_wp2_with fail
        go_meet
        case rel => exact ⟨by rw [HT.out], rfl⟩
    · have HT : Hid (r1 = false) := is_false HR1.out (fun h => hd_kind h.1)
      have e_kind : (a.kind == b.kind) = false := by simpa using hd_kind
      clear hd_kind
      go_wp2_with fail
      go_meet
      case rel => exact ⟨by rw [HT.out], rfl⟩
  case rest =>
    obtain ⟨rfl, hW⟩ := hcut
    have hW := hW.symm
    subst hW
    go_upto_region 2 with fail
    go_cut [6] (fun v wc => v = .bool r2 ∧ Same W wc)
    case first =>
      by_cases hd_tickN : a.tickN = b.tickN
      · have e_tickN : (a.tickN == b.tickN) = true := by simpa using hd_tickN
        by_cases hd_tickAt : a.tickAt = b.tickAt
        · have e_tickAt : (a.tickAt == b.tickAt) = true := by simpa using hd_tickAt
          have HT : r2 = true ↔ (a.max = b.max ∧ a.opn = b.opn) := by rw [HR2.out]; exact ⟨fun h => h.2.2, fun h => ⟨hd_tickN, hd_tickAt, h⟩⟩
          have HT2 := Lib.hid HT
          clear HT hd_tickN hd_tickAt
          go_wp2_with fail
          refine (snapSame_any a.max b.max _ _ a.opn b.opn F G W (ha.opn.same HS.out) (hb.opn.same HS.out) r2 HT2.out).mono ?_
          rintro _ w1 ⟨rfl, hs1⟩
          go_wp2_with fail
          go_meet
          case rel => exact ⟨rfl, hs1⟩
        · have HT : Hid (r2 = false) := is_false HR2.out (fun h => hd_tickAt h.2.1)
          have e_tickAt : (a.tickAt == b.tickAt) = false := by simpa using hd_tickAt
          clear hd_tickN hd_tickAt
          go_wp2_with fail
          go_meet
          case rel => exact ⟨by rw [HT.out], Chg.refl _ _⟩
      · have HT : Hid (r2 = false) := is_false HR2.out (fun h => hd_tickN h.1)
        have e_tickN : (a.tickN == b.tickN) = false := by simpa using hd_tickN
        clear hd_tickN
        go_wp2_with fail
        go_meet
        case rel => exact ⟨by rw [HT.out], Chg.refl _ _⟩
    case rest =>
      obtain ⟨rfl, hs2⟩ := hcut
      have HS2 := Lib.hid (HS.out.trans hs2)
      obtain ⟨x0', x1', x2', x3', x4', x5', x6', x7', x8', x9', x10', x11', x12'⟩ := ent_cells (hs2.at_ HB1.out (fun h => h))
      obtain ⟨y0', y1', y2', y3', y4', y5', y6', y7', y8', y9', y10', y11', y12'⟩ := ent_cells (hs2.at_ HB2.out (fun h => h))
      have HB1' := Lib.hid (hs2.at_ HB1.out (fun h => h))
      have HB2' := Lib.hid (hs2.at_ HB2.out (fun h => h))
      clear hs2
      cases r1
      · have HF : Hid (r = false) := is_false HR.out (fun h => by simp at h)
        go_wp2_with fail
        go_ret
        exact ⟨ret_bool HF.out.symm, HS2.out⟩
      · cases r2
        · have HF : Hid (r = false) := is_false HR.out (fun h => by simp at h)
          go_wp2_with fail
          go_ret
          exact ⟨ret_bool HF.out.symm, HS2.out⟩
        · go_wp2_with fail
          refine (eqops_any _ _ a.ops b.ops F G _ (ha.ops.same HS2.out) (hb.ops.same HS2.out) r3 HR3.out).mono ?_
          rintro _ w3 ⟨rfl, hs3⟩
          have HS3 := Lib.hid (HS2.out.trans hs3)
          obtain ⟨p0, p1, p2, p3, p4, p5, p6, p7, p8, p9, p10, p11, p12⟩ := ent_cells (hs3.at_ HB1'.out (fun h => h))
          obtain ⟨q0, q1, q2, q3, q4, q5, q6, q7, q8, q9, q10, q11, q12⟩ := ent_cells (hs3.at_ HB2'.out (fun h => h))
          clear hs3
          cases r3
          · have HF : Hid (r = false) := is_false HR.out (fun h => by simp at h)
            go_wp2_with fail
            go_ret
            exact ⟨ret_bool HF.out.symm, HS3.out⟩
          · have HF : Hid (r = r4) := bool_eq HR.out (by simp)
            go_wp2_with fail
            refine (eqpls_any _ _ a.evs b.evs F G _ (ha.evs.same HS3.out) (hb.evs.same HS3.out) r4 HR4.out).mono ?_
            rintro _ w4 ⟨rfl, hs4⟩
            have HS4 := Lib.hid (HS3.out.trans hs4)
            clear hs4
            go_wp2_with fail
            go_ret
            exact ⟨ret_bool HF.out.symm, HS4.out⟩
end Go.Proofs.Ytdkankiohoocaaa
