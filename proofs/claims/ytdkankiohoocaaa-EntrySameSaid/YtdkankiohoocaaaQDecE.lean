/- The walk of entry.Decode. -/
import Derived.Test.YtdkankiohoocaaaQFld2
import Derived.Test.YtdkankiohoocaaaQWrQ
namespace Go.Proofs.Ytdkankiohoocaaa
set_option linter.unusedSimpArgs false
set_option linter.unusedVariables false
open Go Go.RowKit Go.Proofs

/-- An entry's block, stored whole. -/
abbrev putEnt (w : World) (R : Nat) (a0 a1 a2 a3 a4 a5 a6 a7 a8 a9 a10 a11 a12 : Value) : World :=
  ((((((((((((w.setCell ⟨R, 0, none⟩ a0).setCell ⟨R, 1, none⟩ a1).setCell ⟨R, 2, none⟩ a2).setCell ⟨R, 3, none⟩ a3).setCell ⟨R, 4, none⟩ a4).setCell ⟨R, 5, none⟩ a5).setCell ⟨R, 6, none⟩ a6).setCell ⟨R, 7, none⟩ a7).setCell ⟨R, 8, none⟩ a8).setCell ⟨R, 9, none⟩ a9).setCell ⟨R, 10, none⟩ a10).setCell ⟨R, 11, none⟩ a11).setCell ⟨R, 12, none⟩ a12
theorem putEnt_chg (w : World) (R : Nat) (a0 a1 a2 a3 a4 a5 a6 a7 a8 a9 a10 a11 a12 : Value) : Chg (fun k => k = R) w (putEnt w R a0 a1 a2 a3 a4 a5 a6 a7 a8 a9 a10 a11 a12) := by
  have st : ∀ {w' : World} (i : Nat) (u : Value), Chg (fun k => k = R) w w' → Chg (fun k => k = R) w (w'.setCell ⟨R, i, none⟩ u) := fun i u h => h.setCell (p := ⟨R, i, none⟩) (fun _ => rfl) u
  exact st 12 _ (st 11 _ (st 10 _ (st 9 _ (st 8 _ (st 7 _ (st 6 _ (st 5 _ (st 4 _ (st 3 _ (st 2 _ (st 1 _ (st 0 _ (Chg.refl _ w)))))))))))))
theorem putEnt_blk {w : World} {R : Nat} {b0 b1 b2 b3 b4 b5 b6 b7 b8 b9 b10 b11 b12 : Value} {T : TypeId} (h : w.heap[R]? = some (.cells #[b0, b1, b2, b3, b4, b5, b6, b7, b8, b9, b10, b11, b12] T (0, 0))) (a0 a1 a2 a3 a4 a5 a6 a7 a8 a9 a10 a11 a12 : Value) :
    (putEnt w R a0 a1 a2 a3 a4 a5 a6 a7 a8 a9 a10 a11 a12).heap[R]? = some (.cells #[a0, a1, a2, a3, a4, a5, a6, a7, a8, a9, a10, a11, a12] T (0, 0)) := by
  simp [putEnt, World.setCell, Array.getElem?_modify, h]
theorem ent_cells {w : World} {B : Nat} {a0 a1 a2 a3 a4 a5 a6 a7 a8 a9 a10 a11 a12 : Value} {t : TypeId} (h : w.heap[B]? = some (.cells #[a0, a1, a2, a3, a4, a5, a6, a7, a8, a9, a10, a11, a12] t (0, 0))) :
    w.cell? ⟨B, 0, none⟩ = some a0 ∧ w.cell? ⟨B, 1, none⟩ = some a1 ∧ w.cell? ⟨B, 2, none⟩ = some a2 ∧ w.cell? ⟨B, 3, none⟩ = some a3 ∧ w.cell? ⟨B, 4, none⟩ = some a4 ∧ w.cell? ⟨B, 5, none⟩ = some a5 ∧ w.cell? ⟨B, 6, none⟩ = some a6 ∧ w.cell? ⟨B, 7, none⟩ = some a7 ∧ w.cell? ⟨B, 8, none⟩ = some a8 ∧ w.cell? ⟨B, 9, none⟩ = some a9 ∧ w.cell? ⟨B, 10, none⟩ = some a10 ∧ w.cell? ⟨B, 11, none⟩ = some a11 ∧ w.cell? ⟨B, 12, none⟩ = some a12 := by
  simp [World.cell?, h]
theorem ent_free {w : World} {B : Nat} {a0 a1 a2 a3 a4 a5 a6 a7 a8 a9 a10 a11 a12 : Value} {t : TypeId} (h : w.heap[B]? = some (.cells #[a0, a1, a2, a3, a4, a5, a6, a7, a8, a9, a10, a11, a12] t (0, 0))) :
    w.frozen? ⟨B, 0, none⟩ = false ∧ w.frozen? ⟨B, 1, none⟩ = false ∧ w.frozen? ⟨B, 2, none⟩ = false ∧ w.frozen? ⟨B, 3, none⟩ = false ∧ w.frozen? ⟨B, 4, none⟩ = false ∧ w.frozen? ⟨B, 5, none⟩ = false ∧ w.frozen? ⟨B, 6, none⟩ = false ∧ w.frozen? ⟨B, 7, none⟩ = false ∧ w.frozen? ⟨B, 8, none⟩ = false ∧ w.frozen? ⟨B, 9, none⟩ = false ∧ w.frozen? ⟨B, 10, none⟩ = false ∧ w.frozen? ⟨B, 11, none⟩ = false ∧ w.frozen? ⟨B, 12, none⟩ = false := by
  simp [World.frozen?, h]

/-- bad, where an error was met: the scan bears it. -/
theorem sbad_e (s a : Nat) (F : Nat → Prop) (st : St) (w : World) (h : Sx w F s a st) (hb : st.2 ≠ 0) :
    Calls Try.prog 40 #[.pointer (some ⟨s, 0, none⟩)] w fun en w' => en = .returned (.bool true) ∧ (∃ l e, SxV w' F s a l e st.2) ∧ Chg (fun k => k = s ∨ k = a) w w' := by
  obtain ⟨l, e, se, hV, rfl⟩ := h
  obtain ⟨c0, c1, f0, f1⟩ := two_cells hV.blk
  by_cases hse : se = 0
  · subst hse
    have hV1 := Lib.hid (hV.err e)
    have he1 : (e != 0) = true := by simpa using hb
    have hR := hV.rd
    clear hV hb
    go_enter Try.func40, Try.ntmps40
    go_wp2_with fail
    refine (rerr_any a F l e _ hR).mono ?_
    rintro _ _ ⟨rfl, rfl⟩
    go_wp2_with fail
    go_ret
    exact ⟨rfl, ⟨l, e, hV1.out⟩, chg_err _ _ _ _⟩
  · have hse0 : (se == 0) = false := by simp [hse]
    have hse1 : (se != 0) = true := by simp [hse]
    have HV := Lib.hid hV
    rw [if_neg hse]
    clear hb hse hV
    go_enter Try.func40, Try.ntmps40
    go_wp2_with fail
    go_ret
    exact ⟨rfl, ⟨l, e, HV.out⟩, Chg.refl _ _⟩

/-- The scan that Decode makes: all that it has is new since W. -/
def ScanAt (W w : World) (l : List UInt8) (s : Nat) : Prop := ∃ a F, Sx w F s a (l, 0) ∧ Same W w ∧ (W.heap.size ≤ s ∧ W.heap.size ≤ a ∧ s < w.heap.size ∧ a < w.heap.size) ∧ ∀ k, F k → W.heap.size ≤ k ∧ k < w.heap.size
theorem ScanAt.mk_ {W w1 : World} {l : List UInt8} {a : Nat} {F : Nat → Prop} (hR : Rd w1 F a l 0) (hs : Same W w1) (hN : ∀ k, F k → W.heap.size ≤ k) (hl : l.length ≤ 140737488355328) :
    ScanAt W (w1.alloc (.cells #[.pointer (some ⟨a, 0, none⟩), .int .i64 0] 97)) l w1.heap.size := by
  have hlt : Lt F w1 := by obtain ⟨v, h⟩ := hR; exact h.lt
  have hc := Chg.alloc_ (fun _ => False) w1 (.cells #[.pointer (some ⟨a, 0, none⟩), .int .i64 0] 97)
  have ha := hN a hR.mine
  have ha' := hlt a hR.mine
  have hz := hs.size
  refine ⟨a, F, ⟨l, 0, 0, ⟨heap_alloc_new w1 _, hR.keep hc (fun _ _ h => h), fun hF => by have := hlt _ hF; omega, hl, fun h => absurd rfl h⟩, rfl⟩, hs.trans hc, by simp; omega, fun k hk => ⟨hN k hk, ?_⟩⟩
  have := hlt k hk
  have := hc.size
  omega
theorem EntS.forms {w : World} {F : Nat → Prop} {e : EntD} {vo ve vp : Value} (h : EntS w F e vo ve vp) : ∃ Ao no co Ae ne ce Ap np cp, vo = .slice Ao no co ∧ ve = .slice Ae ne ce ∧ vp = .slice Ap np cp := by
  obtain ⟨Ao, co, ho, -, -⟩ := h.ops.form
  obtain ⟨Ae, ce, he, -, -⟩ := h.evs.form
  obtain ⟨Ap, cp, hp, -, -⟩ := h.opn.form
  exact ⟨_, _, _, _, _, _, _, _, _, ho, he, hp⟩
theorem EntS.low {w : World} {n m : Nat} {e : EntD} {vo ve vp : Value} (h : EntS w (fun b => n ≤ b) e vo ve vp) (hm : m ≤ n) : EntS w (fun b => m ≤ b) e vo ve vp :=
  ⟨h.ops.low (opCells_pos _) hm, h.evs.low (plCells_pos _) hm, h.opn.low (numCells_pos _) hm⟩
/-- What Decode answers. -/
def DecPost (w : World) (r : EntD × Int) (en : Ending) (w' : World) : Prop :=
  ∃ vo ve vp, en = .returned (.tuple #[entV r.1 vo ve vp, .int .i64 r.2]) ∧ EntS w' (fun b => w.heap.size ≤ b) r.1 vo ve vp ∧ Same w w'

def decOf : Option (EntD × St) → EntD × Int
  | none => (noEnt, 2)
  | some (e, st) => if endErr st.1 st.2 = 0 then (e, 0) else (noEnt, endErr st.1 st.2)
theorem decEnt_cons (x : UInt8) (l : List UInt8) : decEnt (x :: l) = decOf (rdBody (x.toNat : Int) (l, 0)) := rfl

set_option maxHeartbeats 3200000 in
set_option maxRecDepth 100000 in
theorem ntdec_nil (v : Value) (F0 : Nat → Prop) (w : World) (h : Bs w F0 v []) :
    Calls Try.prog 16 #[v] w (DecPost w (noEnt, 3)) := by
  obtain ⟨A, cap, hv, -, -, -⟩ := id h
  subst hv
  have hb0 := heap_alloc_new w (.cells (ent0 0) 40)
  obtain ⟨r0, r1, r2, r3, r4, r5, r6, r7, r8, r9, r10, r11, r12⟩ := ent_cells hb0
  obtain ⟨f0, f1, f2, f3, f4, f5, f6, f7, f8, f9, f10, f11, f12⟩ := ent_free hb0
  go_enter Try.func16, Try.ntmps16
  go_wp2_with fail
  exact bodyPost_ret (v := .tuple #[entV noEnt (.slice none 0 0) (.slice none 0 0) (.slice none 0 0), .int .i64 3]) (by simp [results, Try.results16, go_sem, entV, entCells, noEnt, r0, r1, r2, r3, r4, r5, r6, r7, r8, r9, r10, r11, r12]) rfl ⟨_, _, _, rfl, EntS.none_ _ _ rfl rfl rfl, Chg.alloc_ _ _ _⟩

set_option maxHeartbeats 3200000 in
set_option maxRecDepth 100000 in
theorem ntdec_cons (v : Value) (F0 : Nat → Prop) (x : UInt8) (l : List UInt8) (w : World) (h : Bs w F0 v (x :: l)) (hl : l.length < 140737488355328) (r : EntD × Int) (hr : Hid (decEnt (x :: l) = r)) :
    Calls Try.prog 16 #[v] w (DecPost w r) := by
  obtain ⟨A, cap, hv, hlc, hcm, -⟩ := id h
  have hmx : maxLen = 9223372036854775807 := by decide +kernel
  subst hv
  have hb0 := heap_alloc_new w (.cells (ent0 0) 40)
  have h1 := h.same (Chg.alloc_ (fun _ => False) w (.cells (ent0 0) 40))
  obtain ⟨-, b, o, x', hA, -, hx, hc⟩ := h1.at_ (k := 0) (by simp)
  subst hA
  have hxx : x = x' := by simpa using hx
  subst hxx
  have hcutb : Bs (w.alloc (.cells (ent0 0) 40)) F0 (.slice (some ⟨b, o + 1, none⟩) l.length (cap - 1)) l := h1.cut (k := 1) (l := x :: l) (by simp)
  simp only [List.length_cons] at hlc h h1 ⊢
  have hl1 : ((l.length : Int) + 1 == 0) = false := by rw [beq_eq_false_iff_ne]; omega
  obtain ⟨q, HQ⟩ : ∃ q, Hid (rdBody (x.toNat : Int) (l, 0) = q) := ⟨_, rfl⟩
  have HR : Hid (r = decOf q) := by
    show _ = _
    rw [← hr.out, decEnt_cons, HQ.out]
  obtain rfl := HR.out
  clear hr HR
  generalize hW : w.alloc (.cells (ent0 0) 40) = W at *
  go_enter Try.func16, Try.ntmps16
  go_upto_region 3 with fail
  have hWs : W.heap.size = w.heap.size + 1 := by rw [← hW]; simp
  go_cut [4] (fun v wc => ∃ s, v = .pointer (some ⟨s, 0, none⟩) ∧ ScanAt W wc l s)
  case first =>
    by_cases hcap : cap = 1
    · subst hcap
      go_wp2_with fail
      refine (newr_any _ l _ _ (show Bs W F0 (.slice (some ⟨b, o, none⟩) 0 0) l from ⟨_, _, by rw [show l.length = 0 by omega], by omega, by omega, fun h => by omega⟩) (by omega)).mono ?_
      rintro _ w1 ⟨a, F, rfl, hR1, hs1, hN1⟩
      go_wp2_with fail
      go_meet
      case rel => exact ⟨_, rfl, ScanAt.mk_ hR1 hs1 hN1 (by omega)⟩
    · have hcap1 : ¬ cap - 1 = 0 := by omega
      go_wp2_with fail
      refine (newr_any _ l _ _ hcutb (by omega)).mono ?_
      rintro _ w1 ⟨a, F, rfl, hR1, hs1, hN1⟩
      go_wp2_with fail
      go_meet
      case rel => exact ⟨_, rfl, ScanAt.mk_ hR1 hs1 hN1 (by omega)⟩
  case rest =>
    obtain ⟨s, rfl, a, F, hS, hs0, hold, hF⟩ := hcut
    have hc2 := hs0.cell' hc (fun h => h)
    rw [Nat.add_zero] at hc2
    clear hc h1 hcutb hx h
    have hE0 : EMid (wc.alloc (.cells (ent0 (x.toNat : Int)) 40)) (wc.alloc (.cells (ent0 (x.toNat : Int)) 40)) F s a wc.heap.size (l, 0) (ent0 (x.toNat : Int)) :=
      ⟨hS.same (Chg.alloc_ _ _ _), heap_alloc_new wc _, Chg.refl _ _, by simp; omega, fun k hk => by have := hF k hk; simp; omega⟩
    have HE0 := Lib.hid hE0
    have hR0 := (hs0.trans (Chg.alloc_ (fun _ => False) wc (.cells (ent0 (x.toNat : Int)) 40))).at_ hb0 (fun h => h)
    have hsW := hs0.trans (Chg.alloc_ (fun _ => False) wc (.cells (ent0 (x.toNat : Int)) 40))
    have hsw : Same w W := by rw [← hW]; exact Chg.alloc_ _ _ _
    have HSW := Lib.hid (hsw.trans hsW)
    have HR0 := Lib.hid hR0
    have hRn : w.heap.size ≠ s ∧ w.heap.size ≠ a ∧ w.heap.size ≠ wc.heap.size ∧ w.heap.size ≤ wc.heap.size ∧ w.heap.size ≤ s ∧ w.heap.size ≤ a ∧ w.heap.size < w.heap.size + 1 := by omega
    clear hE0 hS hF hR0 hsW hsw
    go_wp2_with fail
    have hW3s : (wc.alloc (.cells (ent0 (x.toNat : Int)) 40)).heap.size = wc.heap.size + 1 := by simp
    generalize hW3 : wc.alloc (.cells (ent0 (x.toNat : Int)) 40) = W3 at *
    generalize wc.heap.size = E at *
    generalize hRe : w.heap.size = R at *
    refine (fields_any (x.toNat : Int) s a E F (l, 0) W3 HE0.out q HQ).mono ?_
    rintro _ w4 ⟨rfl, st4, x4, hM4, hq4⟩
    have hR4 := hM4.chg.at_ HR0.out (by omega)
    have hS4 : Same w w4 := HSW.out.since hM4.chg (fun k hk => by omega)
    clear HE0 HR0 HSW
    cases q with
    | none =>
      obtain ⟨r0, r1, r2, r3, r4, r5, r6, r7, r8, r9, r10, r11, r12⟩ := ent_cells hR4
      obtain ⟨f0, f1, f2, f3, f4, f5, f6, f7, f8, f9, f10, f11, f12⟩ := ent_free hR4
      have HP := Lib.hid (hS4.since (putEnt_chg w4 R (.int .u8 0) (.int .i64 0) (.int .i64 0) (.int .i64 0) (.slice none 0 0) (.slice none 0 0) (.int .i64 0) (.int .i64 0) (.slice none 0 0) (.int .i64 0) (.string ⟨#[]⟩) (.int .i64 0) (.int .i64 0)) (fun k hk => by omega))
      clear hM4 hq4 hR4 hS4 HQ hRe hRn hc2 hs0 hold hcm hlc hl
      go_wp2_with fail
      exact bodyPost_ret (v := (.tuple #[entV noEnt (.slice none 0 0) (.slice none 0 0) (.slice none 0 0), .int .i64 2])) (by simp [results, Try.results16, go_sem, entV, entCells, noEnt, r0, r1, r2, r3, r4, r5, r6, r7, r8, r9, r10, r11, r12]) rfl ⟨_, _, _, rfl, EntS.none_ _ _ rfl rfl rfl, HP.out⟩
    | some p =>
      obtain ⟨e, st'⟩ := p
      obtain ⟨he4, hx4⟩ := hq4 e st' rfl
      subst he4
      have HX4 := Lib.hid hx4
      clear hq4 hx4
      by_cases hz : st4.2 = 0
      · have HB := hb_false hz
        obtain ⟨vo, ve, vp, hx, hES⟩ := HX4.out hz
        subst hx
        obtain ⟨Ao, no, co, Ae, ne, ce, Ap, np, cp, rfl, rfl, rfl⟩ := hES.forms
        go_wp2_with fail
        refine (sbad_is false s a F st4 w4 hM4.sx HB).mono ?_
        rintro _ w5 ⟨rfl, hS5, hC5⟩
        have hM5 := hM4.call hS5 hC5
        have hR5 := hC5.at_ hR4 (by omega)
        have hS5' := hS4.since hC5 (fun k hk => by omega)
        have hV5 := hS5.clean hz
        obtain ⟨c0, c1, g0, g1⟩ := two_cells hV5.blk
        obtain ⟨f, HF⟩ : ∃ f, Hid (endErr st4.1 0 = f) := ⟨_, rfl⟩
        clear hM4 hR4 hS4
        go_wp2_with fail
        refine (rend_any a F st4.1 0 _ hV5.rd).mono ?_
        rintro _ _ ⟨rfl, rfl⟩
        rw [HF.out]
        have hc6 := chg_err w5 s a (.int .i64 f)
        have hM6 := hM5.call (st' := if f = 0 then (st4.1, 0) else ([], f)) ⟨_, _, f, hV5.err f, rfl⟩ hc6
        have hR6 := hc6.at_ hR5 (by omega)
        have hS6 := hS5'.since hc6 (fun k hk => by omega)
        have hES6 := (hES.keep hC5 (fun b hb => by omega)).keep hc6 (fun b hb => by omega)
        have hX6 := (hV5.err f).blk
        go_upto_region 9 with fail
        generalize w5.setCell ⟨s, 1, none⟩ (.int .i64 f) = W6 at *
        clear hV5 hc6 hM5 hR5 hS5 hS5' hES hC5 c0 c1 g0 g1
        obtain ⟨c0, c1, g0, g1⟩ := two_cells hX6
        obtain ⟨x0, x1, x2, x3, x4, x5, x6, x7, x8, x9, x10, x11, x12⟩ := ent_cells hM6.ent
        obtain ⟨r0, r1, r2, r3, r4, r5, r6, r7, r8, r9, r10, r11, r12⟩ := ent_cells hR6
        obtain ⟨f0, f1, f2, f3, f4, f5, f6, f7, f8, f9, f10, f11, f12⟩ := ent_free hR6
        have HP := Lib.hid (hS6.since (putEnt_chg W6 R (.int .u8 e.kind) (.int .i64 e.tx) (.int .i64 e.next) (.int .i64 e.nextID) (.slice Ao no co) (.slice Ae ne ce) (.int .i64 e.tickN) (.int .i64 e.max) (.slice Ap np cp) (.int .i64 e.tickAt) (.string e.name) (.int .i64 e.n) (.int .i64 e.at_)) (fun k hk => by omega))
        have HZ := Lib.hid (hS6.since (putEnt_chg W6 R (.int .u8 0) (.int .i64 0) (.int .i64 0) (.int .i64 0) (.slice none 0 0) (.slice none 0 0) (.int .i64 0) (.int .i64 0) (.slice none 0 0) (.int .i64 0) (.string ⟨#[]⟩) (.int .i64 0) (.int .i64 0)) (fun k hk => by omega))
        have HES := Lib.hid ((hES6.keep (putEnt_chg W6 R (.int .u8 e.kind) (.int .i64 e.tx) (.int .i64 e.next) (.int .i64 e.nextID) (.slice Ao no co) (.slice Ae ne ce) (.int .i64 e.tickN) (.int .i64 e.max) (.slice Ap np cp) (.int .i64 e.tickAt) (.string e.name) (.int .i64 e.n) (.int .i64 e.at_)) (fun b hb => by omega)).low (m := w.heap.size) (by omega))
        clear hM6 hR6 hS6 hES6 hX6 hold hW3s hl hlc hcm
        by_cases hf : f = 0
        · have HD : Hid (decOf (some (e, st4)) = (e, 0)) := by show _ = _; unfold decOf; simp only [hz, HF.out, hf, if_true]
          subst hf
          clear HF hz HB HX4
          go_wp2_with fail
          refine bodyPost_ret (v := (.tuple #[entV e (.slice Ao no co) (.slice Ae ne ce) (.slice Ap np cp), .int .i64 0])) (by simp [results, Try.results16, go_sem, entV, entCells, noEnt, r0, r1, r2, r3, r4, r5, r6, r7, r8, r9, r10, r11, r12]) rfl ?_
          rw [HD.out]
          exact ⟨_, _, _, rfl, HES.out, HP.out⟩
        · have HD : Hid (decOf (some (e, st4)) = (noEnt, f)) := by show _ = _; unfold decOf; simp only [hz, HF.out]; rw [if_neg hf]
          have hf1 : (f != 0) = true := by simp [hf]
          clear HF hz HB HX4 hf
          have hp1 := (putEnt_chg W6 R (.int .u8 0) (.int .i64 0) (.int .i64 0) (.int .i64 0) (.slice none 0 0) (.slice none 0 0) (.int .i64 0) (.int .i64 0) (.slice none 0 0) (.int .i64 0) (.string ⟨#[]⟩) (.int .i64 0) (.int .i64 0)).cell' c1 (show ¬ s = R by omega)
          dsimp only [putEnt] at hp1
          go_upto_region 10 with fail
          go_region
          all_goals go_wp2_with fail
          refine bodyPost_ret (v := (.tuple #[entV noEnt (.slice none 0 0) (.slice none 0 0) (.slice none 0 0), .int .i64 f])) (by simp [results, Try.results16, go_sem, entV, entCells, noEnt, r0, r1, r2, r3, r4, r5, r6, r7, r8, r9, r10, r11, r12]) rfl ?_
          rw [HD.out]
          exact ⟨_, _, _, rfl, EntS.none_ _ _ rfl rfl rfl, HZ.out.drew⟩
      · have HB := hb_true hz
        go_wp2_with fail
        refine (sbad_e s a F st4 w4 hM4.sx hz).mono ?_
        rintro _ w5 ⟨rfl, ⟨l5, e5, hV5⟩, hC5⟩
        have hR5 := hC5.at_ hR4 (by omega)
        have hS5 := hS4.since hC5 (fun k hk => by omega)
        obtain ⟨c0, c1, g0, g1⟩ := two_cells hV5.blk
        have HD : Hid (decOf (some (e, st4)) = (noEnt, st4.2)) := by
          show _ = _
          have he : endErr st4.1 st4.2 = st4.2 := by unfold endErr; rw [if_neg (fun h => hz h.1)]
          unfold decOf
          simp only [he]
          rw [if_neg hz]
        obtain ⟨f, HF⟩ : ∃ f, Hid (st4.2 = f) := ⟨_, rfl⟩
        rw [HF.out] at c1 HD hz
        have hf1 : (f != 0) = true := by simp [hz]
        obtain ⟨r0, r1, r2, r3, r4, r5, r6, r7, r8, r9, r10, r11, r12⟩ := ent_cells hR5
        obtain ⟨f0, f1, f2, f3, f4, f5, f6, f7, f8, f9, f10, f11, f12⟩ := ent_free hR5
        have HZ := Lib.hid (hS5.since (putEnt_chg w5 R (.int .u8 0) (.int .i64 0) (.int .i64 0) (.int .i64 0) (.slice none 0 0) (.slice none 0 0) (.int .i64 0) (.int .i64 0) (.slice none 0 0) (.int .i64 0) (.string ⟨#[]⟩) (.int .i64 0) (.int .i64 0)) (fun k hk => by omega))
        clear hM4 hR4 hS4 hR5 hS5 hV5 hC5 hz HF HB HX4 hold hW3s hl hlc hcm
        have hp1 := (putEnt_chg w5 R (.int .u8 0) (.int .i64 0) (.int .i64 0) (.int .i64 0) (.slice none 0 0) (.slice none 0 0) (.int .i64 0) (.int .i64 0) (.slice none 0 0) (.int .i64 0) (.string ⟨#[]⟩) (.int .i64 0) (.int .i64 0)).cell' c1 (show ¬ s = R by omega)
        dsimp only [putEnt] at hp1
        go_upto_region 10 with fail
        go_region
        all_goals go_wp2_with fail
        refine bodyPost_ret (v := (.tuple #[entV noEnt (.slice none 0 0) (.slice none 0 0) (.slice none 0 0), .int .i64 f])) (by simp [results, Try.results16, go_sem, entV, entCells, noEnt, r0, r1, r2, r3, r4, r5, r6, r7, r8, r9, r10, r11, r12]) rfl ?_
        rw [HD.out]
        exact ⟨_, _, _, rfl, EntS.none_ _ _ rfl rfl rfl, HZ.out.drew⟩
theorem ntdecode_any (v : Value) (F0 : Nat → Prop) (l : List UInt8) (w : World) (h : Bs w F0 v l) (hl : l.length ≤ 140737488355328) (r : EntD × Int) (hr : Hid (decEnt l = r)) :
    Calls Try.prog 16 #[v] w (DecPost w r) := by
  cases l with
  | nil =>
    have e : r = (noEnt, 3) := hr.out.symm
    subst e
    exact ntdec_nil v F0 w h
  | cons x l => exact ntdec_cons v F0 x l w h (by simp at hl; omega) r hr
end Go.Proofs.Ytdkankiohoocaaa
