/- The closures of entry's scan, and scan.ops, scan.events. -/
import Derived.Test.YtdkankiohoocaaaQApps
namespace Go.Proofs.Ytdkankiohoocaaa
set_option linter.unusedSimpArgs false
set_option linter.unusedVariables false
open Go Go.RowKit Go.Proofs

def ROps (w0 : World) (s a c0 c1 : Nat) (k : Nat) (l : List OpD) (_ : St) (w : World) : Prop := k + l.length ≤ 255 ∧ ∃ v, App 37 47 4 w0 s a c0 c1 (l.map opCells) w v

set_option maxHeartbeats 1600000 in
set_option maxRecDepth 100000 in
theorem opsC_any (w0 : World) (s a c0 c1 : Nat) (F : Nat → Prop) (hF : ∀ k, F k → k < w0.heap.size) : Does 74 c0 c1 s a F opStep (ROps w0 s a c0 c1) := by
  intro k x st w h0 hS hR
  obtain ⟨hn, v, hA⟩ := hR
  obtain ⟨c0', c1', f1'⟩ := hA.cells
  obtain ⟨q1, H1⟩ : ∃ q, Hid (stepNum 0 255 st = q) := ⟨_, rfl⟩
  obtain ⟨q2, H2⟩ : ∃ q, Hid (stepNum 0 1 q1.2 = q) := ⟨_, rfl⟩
  obtain ⟨q3, H3⟩ : ∃ q, Hid (readInt q2.2.1 q2.2.2 = q) := ⟨_, rfl⟩
  obtain ⟨q4, H4⟩ : ∃ q, Hid (readText q3.2.1 q3.2.2 40 = q) := ⟨_, rfl⟩
  have HE : Hid (opStep x st = (x ++ [⟨q1.1, q2.1 == 1, q3.1, ⟨q4.1.toArray⟩⟩], q4.2)) := by
    show _ = _
    have h1 := H1.out; have h2 := H2.out; have h3 := H3.out; have h4 := H4.out
    subst h1; subst h2; subst h3; subst h4
    rfl
  rw [HE.out]
  clear h0
  go_enter Try.func74, Try.ntmps74
  go_wp2_with fail
  refine (xnum_is 255 s a F st w hS (by omega) q1 H1).mono ?_
  rintro _ w1 ⟨rfl, hS1, hC1⟩
  have hA1 := hA.call hC1
  obtain ⟨d0, d1, g1⟩ := hA1.cells
  have l0 := lt_of_block hA1.cap
  have l1 := lt_of_block hA1.var
  have HI := Lib.hid (InO.mk_ hA1 hS1 hF #[.int .i64 (q1.1 : Int), .bool false, .int .i64 0, .string ⟨#[]⟩])
  clear hA hA1 hS hS1 c0' c1' f1' hC1
  go_wp2_with fail
  have hI := HI.out
  clear HI d0 d1 g1 l0 l1
  generalize w1.alloc (.cells #[.int .i64 (q1.1 : Int), .bool false, .int .i64 0, .string ⟨#[]⟩] 47) = W2 at *
  generalize w1.heap.size = O at *
  refine (xnum_is 1 s a F _ W2 hI.sx (by omega) q2 H2).mono ?_
  rintro _ w3 ⟨rfl, hP3⟩
  have hI3 := hI.call hP3
  obtain ⟨d0, d1, g1⟩ := hI3.cells
  obtain ⟨x1, y1⟩ := hI3.cell 1 _ rfl
  have HI4 := Lib.hid (hI3.store 1)
  clear hI hI3 hP3
  go_upto_region 2 with fail
  have hI4 := HI4.out (.bool ((q2.1 : Int) == 1))
  clear HI4 d0 d1 g1 x1 y1
  generalize w3.setCell ⟨O, 1, none⟩ (.bool ((q2.1 : Int) == 1)) = W4 at *
  obtain ⟨d0, d1, g1⟩ := hI4.cells
  obtain ⟨x2, y2⟩ := hI4.cell 2 _ rfl
  obtain ⟨x3, y3⟩ := hI4.cell 3 _ rfl
  go_region_held3 (fun w' => w'.cell? ⟨c0, 0, none⟩ = some (.pointer (some ⟨s, 0, none⟩))) (first | go_keep | assumption) (first | (go_at_call 63; ((with_reducible refine (xint_is s a F _ _ hI4.drew.sx q3 H3).mono ?_); rintro _ w5 ⟨rfl, hP5⟩; have hI5 := hI4.drew.call hP5; obtain ⟨d0', -, -⟩ := hI5.cells)) | (go_at_call 67; ((with_reducible refine (xtext_is 40 s a F _ _ hI5.sx (by omega) (by omega) q4 H4).mono ?_); rintro _ w6 ⟨rfl, hP6⟩; have hI6 := hI5.call hP6; obtain ⟨d0'', -, -⟩ := hI6.cells; obtain ⟨z2, u2⟩ := hI6.cell 2 _ rfl; obtain ⟨z3, u3⟩ := hI6.cell 3 _ rfl; have d0s := (((hI6.store 2 (.int .i64 q3.1)).store 3 (.string ⟨q4.1.toArray⟩)).cells).1)))
  have hI7 := (hI6.store 2 (.int .i64 q3.1)).store 3 (.string ⟨q4.1.toArray⟩)
  clear hI4 hI5 hI6 hP5 hP6 d0 d1 g1 d0' d0'' d0s x2 y2 x3 y3 z2 u2 z3 u3
  generalize (w6.setCell ⟨O, 2, none⟩ (.int .i64 q3.1)).setCell ⟨O, 3, none⟩ (.string ⟨q4.1.toArray⟩) = W7 at *
  obtain ⟨d0, d1, g1⟩ := hI7.cells
  obtain ⟨x0, -⟩ := hI7.cell 0 _ rfl
  obtain ⟨x1, -⟩ := hI7.cell 1 _ rfl
  obtain ⟨x2, -⟩ := hI7.cell 2 _ rfl
  obtain ⟨x3, -⟩ := hI7.cell 3 _ rfl
  obtain ⟨i0, hi, hz0, hz1, hz2⟩ := info_parts info_op
  have hml : (x.map opCells).length = x.length := by simp
  have hown := hI7.app.own
  have l1 := lt_of_block hI7.app.var
  have hrow1 : ¬ v.ownBlock = some c1 := fun e => (hI7.app.row c1 e).2.2 rfl
  go_wp2_with (at_builtin; refine wl_app _ rfl _ _ 37 rfl 47 i0 _ 4 40 Try.underlying37 hi hz0 hz1 hz2 rfl (by omega) v _ _ (by rfl) (hown.alloc _) _ 1 1 [.int .i64 (q1.1 : Int), .bool ((q2.1 : Int) == 1), .int .i64 q3.1, .string ⟨q4.1.toArray⟩] (by rfl) (by rfl) (four_new_cells _ _ _ _ _ _) (by simp [Value.oneCell']) (by omega) (by unfold maxLen; omega) ?_; intro A8 cp8 w8 ho8 hg8 hat8; have q8 := Chg.of_grown (S := fun k => v.ownBlock = some k) hg8 (fun k h => h); have qa := Chg.alloc_ (fun _ => False) W7 (.cells #[.int .i64 (q1.1 : Int), .bool ((q2.1 : Int) == 1), .int .i64 q3.1, .string ⟨q4.1.toArray⟩] 47); have k8 := q8.cell' (qa.cell' d1 (fun h => h)) hrow1; have f8 : w8.frozen? ⟨c1, 0, none⟩ = false := (q8.frozen (p := ⟨c1, 0, none⟩) (Nat.lt_of_lt_of_le l1 qa.size) hrow1).trans ((qa.frozen (p := ⟨c1, 0, none⟩) l1 (fun h => h)).trans g1); have hM := hI7.more _ _ ho8 hg8 hat8; rw [hml] at hM; have HM := Lib.hid hM; clear hM ho8 hg8 hat8 q8 qa)
  go_end0
  refine ⟨rfl, HM.out.2, by simp; omega, .slice A8 (x.length + 1) cp8, ?_⟩
  have hz := HM.out.1
  have hbb : ((q2.1 : Int) == 1) = (q2.1 == 1) := by rw [Bool.eq_iff_iff]; simp; omega
  rw [hbb] at hz
  rw [List.map_append]
  exact hz
end Go.Proofs.Ytdkankiohoocaaa
/- entry's scan.event, and the closure of scan.events. -/
namespace Go.Proofs.Ytdkankiohoocaaa
set_option linter.unusedSimpArgs false
set_option linter.unusedVariables false
open Go Go.RowKit Go.Proofs

def evOf (p : PlD) : Value := evv p.id p.tx p.owner p.tries p.table p.kind p.key p.text
def evOne (sp : Int) (st : St) : PlD × St :=
  let q2 := readText st.1 st.2 400
  let d := if q2.2.2 ≠ 0 then decE [] else decE q2.1
  (⟨sp, d.id, d.tx, ⟨d.owner.toArray⟩, d.tries, d.table, d.kind, d.key, ⟨d.text.toArray⟩⟩, if q2.2.2 ≠ 0 then q2.2 else if d.f ≠ 0 then ([], d.f) else q2.2)
theorem plOne_is (st : St) : plOne st = evOne (stepNum 0 255 st).1 (stepNum 0 255 st).2 := rfl
theorem readText_few (l : List UInt8) (e most : Int) : (readText l e most).1.length ≤ most.toNat := by
  unfold readText rdText
  split
  · simp
  · split
    · simp
    · rename_i h
      split
      · simp
      · simp only [List.length_take]; omega
/-- What scan.event answers. -/
def EvPost (sp : Int) (st : St) (w : World) (F : Nat → Prop) (s a : Nat) (en : Ending) (w' : World) : Prop :=
  ∃ p st', en = .returned (evOf p) ∧ Sx w' F s a st' ∧ Chg (fun k => k = s ∨ k = a) w w' ∧ p.spool = sp ∧ st' = (evOne sp st).2 ∧ (st'.2 = 0 → p = (evOne sp st).1)

abbrev noCells : Array Value := #[.int .i64 0, .int .i64 0, .string ⟨#[]⟩, .int .i64 0, .int .i64 0, .int .u8 0, .int .i64 0, .string ⟨#[]⟩]

theorem ev_free {w : World} {B : Nat} {a0 a1 a2 a3 a4 a5 a6 a7 : Value} {t : TypeId} (h : w.heap[B]? = some (.cells #[a0, a1, a2, a3, a4, a5, a6, a7] t (0, 0))) :
    w.frozen? ⟨B, 0, none⟩ = false ∧ w.frozen? ⟨B, 1, none⟩ = false ∧ w.frozen? ⟨B, 2, none⟩ = false ∧ w.frozen? ⟨B, 3, none⟩ = false ∧ w.frozen? ⟨B, 4, none⟩ = false ∧ w.frozen? ⟨B, 5, none⟩ = false ∧ w.frozen? ⟨B, 6, none⟩ = false ∧ w.frozen? ⟨B, 7, none⟩ = false := by
  simp [World.frozen?, h]
/-- An event's block, stored whole. -/
def putEv (w : World) (R : Nat) (id tx : Int) (o : ByteArray) (tries table kind key : Int) (t : ByteArray) : World :=
  (((((((w.setCell ⟨R, 0, none⟩ (.int .i64 id)).setCell ⟨R, 1, none⟩ (.int .i64 tx)).setCell ⟨R, 2, none⟩ (.string o)).setCell ⟨R, 3, none⟩ (.int .i64 tries)).setCell ⟨R, 4, none⟩ (.int .i64 table)).setCell ⟨R, 5, none⟩ (.int .u8 kind)).setCell ⟨R, 6, none⟩ (.int .i64 key)).setCell ⟨R, 7, none⟩ (.string t)
theorem putEv_chg (w : World) (R : Nat) (id tx : Int) (o : ByteArray) (tries table kind key : Int) (t : ByteArray) : Chg (fun k => k = R) w (putEv w R id tx o tries table kind key t) := by
  have st : ∀ {w' : World} (i : Nat) (u : Value), Chg (fun k => k = R) w w' → Chg (fun k => k = R) w (w'.setCell ⟨R, i, none⟩ u) := fun i u h => h.setCell (p := ⟨R, i, none⟩) (fun _ => rfl) u
  exact st 7 _ (st 6 _ (st 5 _ (st 4 _ (st 3 _ (st 2 _ (st 1 _ (st 0 _ (Chg.refl _ w))))))))
theorem putEv_blk {w : World} {R : Nat} {a0 a1 a2 a3 a4 a5 a6 a7 : Value} {T : TypeId} (h : w.heap[R]? = some (.cells #[a0, a1, a2, a3, a4, a5, a6, a7] T (0, 0))) (id tx : Int) (o : ByteArray) (tries table kind key : Int) (t : ByteArray) :
    (putEv w R id tx o tries table kind key t).heap[R]? = some (.cells #[.int .i64 id, .int .i64 tx, .string o, .int .i64 tries, .int .i64 table, .int .u8 kind, .int .i64 key, .string t] T (0, 0)) := by
  simp [putEv, World.setCell, Array.getElem?_modify, h]

set_option maxHeartbeats 3200000 in
set_option maxRecDepth 100000 in
theorem sevent_any (sp : Int) (s a : Nat) (F : Nat → Prop) (st : St) (w : World) (h : Sx w F s a st) (hs : s < w.heap.size ∧ a < w.heap.size) (hF : ∀ k, F k → k < w.heap.size) :
    Calls Try.prog 77 #[.pointer (some ⟨s, 0, none⟩)] w (EvPost sp st w F s a) := by
  obtain ⟨q, HQ⟩ : ∃ q, Hid (readText st.1 st.2 400 = q) := ⟨_, rfl⟩
  have hqf : q.1.length ≤ 400 := by rw [← HQ.out]; exact readText_few _ _ _
  have hS0 := Lib.hid (h.same (Chg.alloc_ _ w (.cells #[.int .i64 0, .int .i64 0, .string ⟨#[]⟩, .int .i64 0, .int .i64 0, .int .u8 0, .int .i64 0, .string ⟨#[]⟩] 49)))
  have hR0 := Lib.hid (heap_alloc_new w (.cells #[.int .i64 0, .int .i64 0, .string ⟨#[]⟩, .int .i64 0, .int .i64 0, .int .u8 0, .int .i64 0, .string ⟨#[]⟩] 49))
  have HC0 := Lib.hid (Chg.alloc_ (fun k => k = s ∨ k = a) w (.cells #[.int .i64 0, .int .i64 0, .string ⟨#[]⟩, .int .i64 0, .int .i64 0, .int .u8 0, .int .i64 0, .string ⟨#[]⟩] 49))
  have HF := Lib.hid hF
  clear h hF
  go_enter Try.func77, Try.ntmps77
  go_wp2_with fail
  have hS := hS0.out
  have hR := hR0.out
  have hC := HC0.out
  clear hS0 hR0 HC0
  generalize w.alloc (.cells #[.int .i64 0, .int .i64 0, .string ⟨#[]⟩, .int .i64 0, .int .i64 0, .int .u8 0, .int .i64 0, .string ⟨#[]⟩] 49) = W at *
  have hRn : s ≠ w.heap.size ∧ a ≠ w.heap.size ∧ w.heap.size ≤ w.heap.size := by omega
  generalize hRe : w.heap.size = R at *
  refine (xtext_is 400 s a F st W hS (by omega) (by omega) q HQ).mono ?_
  rintro _ w1 ⟨rfl, hS1, hC1⟩
  have hR1 := hC1.at_ hR (by omega)
  have hC1' := hC.trans hC1
  clear hS hR hC hC1
  go_wp2_with fail
  by_cases h0 : q.2.2 = 0
  · have HB := hb_false h0
    have hsz : (⟨q.1.toArray⟩ : ByteArray).size ≤ 140737488355328 := by rw [← size_toList]; simp; omega
    refine (sbad_is false s a F q.2 w1 hS1 HB).mono ?_
    rintro _ w2 ⟨rfl, hS2, hC2⟩
    have hV2 := hS2.clean h0
    have hR2 := hC2.at_ hR1 (by omega)
    have hC3 := hC1'.trans hC2
    clear hR1 hS1 hC2 hC1'
    go_wp2_with (refine wl_ofS rfl _ rfl ⟨q.1.toArray⟩ rfl (by omega) ?_; intro A3 k3 cp3 w3 hb3 hs3)
    have hb3' : Bs w3 (fun k => w2.heap.size ≤ k) (.slice A3 k3 cp3) q.1 := by simpa using hb3
    refine (edecode_any _ _ q.1 w3 hb3' (by omega)).mono ?_
    rintro _ w4 ⟨rfl, hs4⟩
    have hs34 := hs3.trans hs4
    have hV4 := hV2.keep hs34 (fun h => h) (fun _ _ h => h)
    have hR4 := hs34.at_ hR2 (fun h => h)
    have hC4 := hC3.trans (Same.any hs34 _)
    clear hb3 hb3' hs3 hs4 hs34 hV2 hR2 hC3 hS2 hsz hqf
    obtain ⟨d, HD⟩ : ∃ d, Hid (decE q.1 = d) := ⟨_, rfl⟩
    rw [HD.out]
    have HZ : Hid (evOne sp st = (⟨sp, d.id, d.tx, ⟨d.owner.toArray⟩, d.tries, d.table, d.kind, d.key, ⟨d.text.toArray⟩⟩, if d.f ≠ 0 then ([], d.f) else q.2)) := by
      show _ = _; unfold evOne; rw [HQ.out]; simp [h0, HD.out]
    have HQ2 : Hid (q.2 = (q.2.1, 0)) := by show _ = _; rw [← h0]
    clear HQ HD HB h0
    by_cases hd : d.f = 0
    · have he : decV d = .tuple #[evv d.id d.tx ⟨d.owner.toArray⟩ d.tries d.table d.kind d.key ⟨d.text.toArray⟩, .int .i64 0] := by unfold decV; rw [if_pos hd]
      rw [he]
      have HZ2 : Hid (evOne sp st = (⟨sp, d.id, d.tx, ⟨d.owner.toArray⟩, d.tries, d.table, d.kind, d.key, ⟨d.text.toArray⟩⟩, q.2)) := by show _ = _; rw [HZ.out, if_neg (fun h => h hd)]
      obtain ⟨id, e1⟩ : ∃ x : Int, (d.id : Int) = x := ⟨_, rfl⟩
      obtain ⟨tx, e2⟩ : ∃ x : Int, (d.tx : Int) = x := ⟨_, rfl⟩
      obtain ⟨tries, e4⟩ : ∃ x : Int, (d.tries : Int) = x := ⟨_, rfl⟩
      obtain ⟨table, e5⟩ : ∃ x : Int, (d.table : Int) = x := ⟨_, rfl⟩
      obtain ⟨kind, e6⟩ : ∃ x : Int, (d.kind : Int) = x := ⟨_, rfl⟩
      obtain ⟨o, e3⟩ : ∃ x : ByteArray, (⟨d.owner.toArray⟩ : ByteArray) = x := ⟨_, rfl⟩
      obtain ⟨t8, e8⟩ : ∃ x : ByteArray, (⟨d.text.toArray⟩ : ByteArray) = x := ⟨_, rfl⟩
      obtain ⟨key, e7⟩ : ∃ x : Int, d.key = x := ⟨_, rfl⟩
      rw [e1, e2, e3, e4, e5, e6, e7, e8] at HZ2
      rw [e1, e2, e3, e4, e5, e6, e7, e8]
      clear e1 e2 e3 e4 e5 e6 e7 e8 he HZ hd
      unfold evv
      go_upto_region 5 with fail
      have hlR := lt_of_block hR4
      have hV5 := hV4.keep (Chg.alloc_ (fun _ => False) w4 (.cells #[.int .i64 id, .int .i64 tx, .string o, .int .i64 tries, .int .i64 table, .int .u8 kind, .int .i64 key, .string t8] 49)) (fun h => h) (fun _ _ h => h)
      have hE5 : (w4.alloc (.cells #[.int .i64 id, .int .i64 tx, .string o, .int .i64 tries, .int .i64 table, .int .u8 kind, .int .i64 key, .string t8] 49)).heap[w4.heap.size]? = some (.cells #[.int .i64 id, .int .i64 tx, .string o, .int .i64 tries, .int .i64 table, .int .u8 kind, .int .i64 key, .string t8] 49 (0, 0)) := heap_alloc_new w4 _
      have hR5 := (Chg.alloc_ (fun _ => False) w4 (.cells #[.int .i64 id, .int .i64 tx, .string o, .int .i64 tries, .int .i64 table, .int .u8 kind, .int .i64 key, .string t8] 49)).at_ hR4 (fun h => h)
      have hC5 := hC4.alloc (.cells #[.int .i64 id, .int .i64 tx, .string o, .int .i64 tries, .int .i64 table, .int .u8 kind, .int .i64 key, .string t8] 49)
      have hEn : s ≠ w4.heap.size ∧ a ≠ w4.heap.size ∧ R ≠ w4.heap.size := by omega
      clear hV4 hR4 hC4 hlR
      generalize w4.alloc (.cells #[.int .i64 id, .int .i64 tx, .string o, .int .i64 tries, .int .i64 table, .int .u8 kind, .int .i64 key, .string t8] 49) = W5 at *
      generalize w4.heap.size = E at *
      obtain ⟨c0, c1, g0, g1⟩ := two_cells hV5.blk
      have HV6 := Lib.hid (hV5.err 0)
      have HC6 := Lib.hid (hC5.trans (chg_err W5 s a (.int .i64 0)))
      have HR6 := Lib.hid ((chg_err W5 s a (.int .i64 0)).at_ hR5 (by omega))
      have HE6 := Lib.hid ((chg_err W5 s a (.int .i64 0)).at_ hE5 (by omega))
      clear hV5 hC5 hR5 hE5
      go_upto_region 6 with fail
      have hV6 := HV6.out
      have hC6 := HC6.out
      have hR6 := HR6.out
      have hE6 := HE6.out
      clear HV6 HC6 HR6 HE6 c0 c1 g0 g1
      generalize W5.setCell ⟨s, 1, none⟩ (.int .i64 0) = W6 at *
      obtain ⟨p0, p1, p2, p3, p4, p5, p6, p7⟩ := ev_cells hE6
      obtain ⟨r0, r1, r2, r3, r4, r5, r6, r7⟩ := ev_cells hR6
      obtain ⟨f0, f1, f2, f3, f4, f5, f6, f7⟩ := ev_free hR6
      have HV := Lib.hid (hV6.keep (putEv_chg W6 R id tx o tries table kind key t8) (by omega) (fun k hk => by have := HF.out k hk; omega))
      have HC := Lib.hid (hC6.trans' (putEv_chg W6 R id tx o tries table kind key t8) (fun i hi e => by omega))
      clear hV6 hC6 hR6 hE6
      go_wp2_with fail
      refine bodyPost_ret (v := evOf ⟨sp, id, tx, o, tries, table, kind, key, t8⟩) (by simp [results, Try.results77, go_sem, evv, evOf, p0, p1, p2, p3, p4, p5, p6, p7, r0, r1, r2, r3, r4, r5, r6, r7]) rfl ⟨⟨sp, id, tx, o, tries, table, kind, key, t8⟩, q.2, rfl, ⟨_, _, 0, HV.out, by rw [if_pos rfl]; exact HQ2.out⟩, HC.out, rfl, by rw [HZ2.out], fun _ => by rw [HZ2.out]⟩
    · have he : decV d = .tuple #[noEv, .int .i64 d.f] := by unfold decV; rw [if_neg hd]
      rw [he]
      have HZ2 : Hid ((evOne sp st).2 = ([], d.f)) := by show _ = _; rw [HZ.out, if_pos hd]
      obtain ⟨f, e1⟩ : ∃ x : Int, d.f = x := ⟨_, rfl⟩
      rw [e1] at HZ2 hd
      rw [e1]
      have HN := Lib.hid hd
      clear e1 he HZ hd
      unfold noEv evv
      go_upto_region 5 with fail
      have hlR := lt_of_block hR4
      have hV5 := hV4.keep (Chg.alloc_ (fun _ => False) w4 (.cells #[.int .i64 0, .int .i64 0, .string ⟨#[]⟩, .int .i64 0, .int .i64 0, .int .u8 0, .int .i64 0, .string ⟨#[]⟩] 49)) (fun h => h) (fun _ _ h => h)
      have hE5 : (w4.alloc (.cells #[.int .i64 0, .int .i64 0, .string ⟨#[]⟩, .int .i64 0, .int .i64 0, .int .u8 0, .int .i64 0, .string ⟨#[]⟩] 49)).heap[w4.heap.size]? = some (.cells #[.int .i64 0, .int .i64 0, .string ⟨#[]⟩, .int .i64 0, .int .i64 0, .int .u8 0, .int .i64 0, .string ⟨#[]⟩] 49 (0, 0)) := heap_alloc_new w4 _
      have hR5 := (Chg.alloc_ (fun _ => False) w4 (.cells #[.int .i64 0, .int .i64 0, .string ⟨#[]⟩, .int .i64 0, .int .i64 0, .int .u8 0, .int .i64 0, .string ⟨#[]⟩] 49)).at_ hR4 (fun h => h)
      have hC5 := hC4.alloc (.cells #[.int .i64 0, .int .i64 0, .string ⟨#[]⟩, .int .i64 0, .int .i64 0, .int .u8 0, .int .i64 0, .string ⟨#[]⟩] 49)
      have hEn : s ≠ w4.heap.size ∧ a ≠ w4.heap.size ∧ R ≠ w4.heap.size := by omega
      clear hV4 hR4 hC4 hlR
      generalize w4.alloc (.cells #[.int .i64 0, .int .i64 0, .string ⟨#[]⟩, .int .i64 0, .int .i64 0, .int .u8 0, .int .i64 0, .string ⟨#[]⟩] 49) = W5 at *
      generalize w4.heap.size = E at *
      obtain ⟨c0, c1, g0, g1⟩ := two_cells hV5.blk
      have HV6 := Lib.hid (hV5.err f)
      have HC6 := Lib.hid (hC5.trans (chg_err W5 s a (.int .i64 f)))
      have HR6 := Lib.hid ((chg_err W5 s a (.int .i64 f)).at_ hR5 (by omega))
      have HE6 := Lib.hid ((chg_err W5 s a (.int .i64 f)).at_ hE5 (by omega))
      clear hV5 hC5 hR5 hE5
      go_upto_region 6 with fail
      have hV6 := HV6.out
      have hC6 := HC6.out
      have hR6 := HR6.out
      have hE6 := HE6.out
      clear HV6 HC6 HR6 HE6 c0 c1 g0 g1
      generalize W5.setCell ⟨s, 1, none⟩ (.int .i64 f) = W6 at *
      obtain ⟨p0, p1, p2, p3, p4, p5, p6, p7⟩ := ev_cells hE6
      obtain ⟨r0, r1, r2, r3, r4, r5, r6, r7⟩ := ev_cells hR6
      obtain ⟨f0, f1, f2, f3, f4, f5, f6, f7⟩ := ev_free hR6
      have HV := Lib.hid (hV6.keep (putEv_chg W6 R 0 0 ⟨#[]⟩ 0 0 0 0 ⟨#[]⟩) (by omega) (fun k hk => by have := HF.out k hk; omega))
      have HC := Lib.hid (hC6.trans' (putEv_chg W6 R 0 0 ⟨#[]⟩ 0 0 0 0 ⟨#[]⟩) (fun i hi e => by omega))
      clear hV6 hC6 hR6 hE6
      go_wp2_with fail
      refine bodyPost_ret (v := evOf ⟨sp, 0, 0, ⟨#[]⟩, 0, 0, 0, 0, ⟨#[]⟩⟩) (by simp [results, Try.results77, go_sem, evv, evOf, p0, p1, p2, p3, p4, p5, p6, p7, r0, r1, r2, r3, r4, r5, r6, r7]) rfl ⟨⟨sp, 0, 0, ⟨#[]⟩, 0, 0, 0, 0, ⟨#[]⟩⟩, ([], f), rfl, ⟨_, _, f, HV.out, by rw [if_neg HN.out]⟩, HC.out, rfl, HZ2.out.symm, fun h => (HN.out h).elim⟩
  · have HB := hb_true h0
    refine (sbad_is true s a F q.2 w1 hS1 HB).mono ?_
    rintro _ w2 ⟨rfl, hS2, hC2⟩
    have hR2 := hC2.at_ hR1 (by omega)
    have hC3 := hC1'.trans hC2
    obtain ⟨p0, p1, p2, p3, p4, p5, p6, p7⟩ := ev_cells hR2
    obtain ⟨f0, f1, f2, f3, f4, f5, f6, f7⟩ := ev_free hR2
    have HS := Lib.hid (hS2.keep (putEv_chg w2 R 0 0 ⟨#[]⟩ 0 0 0 0 ⟨#[]⟩) (by omega) (fun k hk => by have := HF.out k hk; omega))
    have HC := Lib.hid (hC3.trans' (putEv_chg w2 R 0 0 ⟨#[]⟩ 0 0 0 0 ⟨#[]⟩) (fun i hi e => by omega))
    have HZ : Hid ((evOne sp st).2 = q.2) := by show _ = _; unfold evOne; rw [HQ.out]; simp [h0]
    have HN : Hid (q.2.2 = 0 → False) := h0
    clear hR1 hS1 hC2 hC1' hR2 hS2 hC3 h0
    go_wp2_with fail
    refine bodyPost_ret (v := noEv) (by simp [results, Try.results77, go_sem, evv, noEv, p0, p1, p2, p3, p4, p5, p6, p7]) rfl ⟨⟨sp, 0, 0, ⟨#[]⟩, 0, 0, 0, 0, ⟨#[]⟩⟩, q.2, rfl, HS.out, HC.out, rfl, HZ.out.symm, fun h => (HN.out h).elim⟩
end Go.Proofs.Ytdkankiohoocaaa
/- The closure of entry's scan.events. -/
namespace Go.Proofs.Ytdkankiohoocaaa
set_option linter.unusedSimpArgs false
set_option linter.unusedVariables false
open Go Go.RowKit Go.Proofs

def RPls (w0 : World) (s a c0 c1 : Nat) (k : Nat) (l : List PlD) (st : St) (w : World) : Prop := k + l.length ≤ 255 ∧ ∃ xs v, xs.length = l.length ∧ App 38 51 9 w0 s a c0 c1 (xs.map plCells) w v ∧ (st.2 = 0 → xs = l)

theorem InO.put8 {tl e : TypeId} {k : Nat} {w0 w : World} {s a c0 c1 O : Nat} {xs : List (List Value)} {v : Value} {F : Nat → Prop} {st : St} {x0 a1 a2 a3 a4 a5 a6 a7 a8 : Value} (h : InO tl e k w0 F s a c0 c1 O xs v w st #[x0, a1, a2, a3, a4, a5, a6, a7, a8]) (b1 b2 b3 b4 b5 b6 b7 b8 : Value) :
    InO tl e k w0 F s a c0 c1 O xs v ((((((((w.setCell ⟨O, 1, none⟩ b1).setCell ⟨O, 2, none⟩ b2).setCell ⟨O, 3, none⟩ b3).setCell ⟨O, 4, none⟩ b4).setCell ⟨O, 5, none⟩ b5).setCell ⟨O, 6, none⟩ b6).setCell ⟨O, 7, none⟩ b7).setCell ⟨O, 8, none⟩ b8) st #[x0, b1, b2, b3, b4, b5, b6, b7, b8] := by
  have h9 := (((((((h.store 1 b1).store 2 b2).store 3 b3).store 4 b4).store 5 b5).store 6 b6).store 7 b7).store 8 b8
  simpa using h9

set_option maxHeartbeats 1600000 in
set_option maxRecDepth 100000 in
theorem eventsC_any (w0 : World) (s a c0 c1 : Nat) (F : Nat → Prop) (hF : ∀ k, F k → k < w0.heap.size) : Does 76 c0 c1 s a F plStep (RPls w0 s a c0 c1) := by
  intro k x st w h0 hS hR
  obtain ⟨hn, xs, v, hxl, hA, hxe⟩ := hR
  have hxe := hxe h0
  subst hxe
  obtain ⟨c0', c1', f1'⟩ := hA.cells
  obtain ⟨q1, H1⟩ : ∃ q, Hid (stepNum 0 255 st = q) := ⟨_, rfl⟩
  have HE : Hid (plStep xs st = (xs ++ [(evOne q1.1 q1.2).1], (evOne q1.1 q1.2).2)) := by
    show _ = _
    unfold plStep
    rw [plOne_is, H1.out]
  rw [HE.out]
  obtain ⟨sf, HSF⟩ : ∃ z, Hid ((evOne q1.1 q1.2).2 = z) := ⟨_, rfl⟩
  rw [HSF.out]
  clear h0 hxl HE
  go_enter Try.func76, Try.ntmps76
  go_wp2_with fail
  refine (xnum_is 255 s a F st w hS (by omega) q1 H1).mono ?_
  rintro _ w1 ⟨rfl, hS1, hC1⟩
  have hA1 := hA.call hC1
  obtain ⟨d0, d1, g1⟩ := hA1.cells
  have l0 := lt_of_block hA1.cap
  have l1 := lt_of_block hA1.var
  have HI := Lib.hid (InO.mk_ hA1 hS1 hF #[.int .i64 (q1.1 : Int), .int .i64 0, .int .i64 0, .string ⟨#[]⟩, .int .i64 0, .int .i64 0, .int .u8 0, .int .i64 0, .string ⟨#[]⟩])
  clear hA hA1 hS hS1 c0' c1' f1' hC1
  go_wp2_with fail
  have hI := HI.out
  clear HI d0 d1 g1 l0 l1
  generalize w1.alloc (.cells #[.int .i64 (q1.1 : Int), .int .i64 0, .int .i64 0, .string ⟨#[]⟩, .int .i64 0, .int .i64 0, .int .u8 0, .int .i64 0, .string ⟨#[]⟩] 51) = W2 at *
  generalize w1.heap.size = O at *
  have hsa : s < W2.heap.size ∧ a < W2.heap.size := by have := hI.app.old; have := hI.app.chg.size; omega
  refine (sevent_any (q1.1 : Int) s a F _ W2 hI.sx hsa (fun k hk => by have := hF k hk; have := hI.app.chg.size; omega)).mono ?_
  rintro _ w3 ⟨p, st', rfl, hS3, hC3, hps, hst, hpe⟩
  have hst := hst.trans HSF.out
  subst hst
  have hI3 := hI.call ⟨hS3, hC3⟩
  have HP := Lib.hid hpe
  have HPS := Lib.hid hps
  clear hpe hps hI hS3 hC3 hsa
  obtain ⟨d0, d1, g1⟩ := hI3.cells
  obtain ⟨x1, y1⟩ := hI3.cell 1 _ rfl
  obtain ⟨x2, y2⟩ := hI3.cell 2 _ rfl
  obtain ⟨x3, y3⟩ := hI3.cell 3 _ rfl
  obtain ⟨x4, y4⟩ := hI3.cell 4 _ rfl
  obtain ⟨x5, y5⟩ := hI3.cell 5 _ rfl
  obtain ⟨x6, y6⟩ := hI3.cell 6 _ rfl
  obtain ⟨x7, y7⟩ := hI3.cell 7 _ rfl
  obtain ⟨x8, y8⟩ := hI3.cell 8 _ rfl
  have HI4 := Lib.hid (hI3.put8 (.int .i64 p.id) (.int .i64 p.tx) (.string p.owner) (.int .i64 p.tries) (.int .i64 p.table) (.int .u8 p.kind) (.int .i64 p.key) (.string p.text))
  clear hI3
  unfold evOf evv
  go_upto_region 2 with fail
  have hI7 := HI4.out
  clear HI4 d0 d1 g1 x1 y1 x2 y2 x3 y3 x4 y4 x5 y5 x6 y6 x7 y7 x8 y8
  generalize (((((((w3.setCell ⟨O, 1, none⟩ (.int .i64 p.id)).setCell ⟨O, 2, none⟩ (.int .i64 p.tx)).setCell ⟨O, 3, none⟩ (.string p.owner)).setCell ⟨O, 4, none⟩ (.int .i64 p.tries)).setCell ⟨O, 5, none⟩ (.int .i64 p.table)).setCell ⟨O, 6, none⟩ (.int .u8 p.kind)).setCell ⟨O, 7, none⟩ (.int .i64 p.key)).setCell ⟨O, 8, none⟩ (.string p.text) = W7 at *
  obtain ⟨d0, d1, g1⟩ := hI7.cells
  obtain ⟨x0, -⟩ := hI7.cell 0 _ rfl
  obtain ⟨x1, -⟩ := hI7.cell 1 _ rfl
  obtain ⟨x2, -⟩ := hI7.cell 2 _ rfl
  obtain ⟨x3, -⟩ := hI7.cell 3 _ rfl
  obtain ⟨x4, -⟩ := hI7.cell 4 _ rfl
  obtain ⟨x5, -⟩ := hI7.cell 5 _ rfl
  obtain ⟨x6, -⟩ := hI7.cell 6 _ rfl
  obtain ⟨x7, -⟩ := hI7.cell 7 _ rfl
  obtain ⟨x8, -⟩ := hI7.cell 8 _ rfl
  obtain ⟨i0, hi, hz0, hz1, hz2⟩ := info_parts info_pl
  have hml : (xs.map plCells).length = xs.length := by simp
  have hown := hI7.app.own
  have l1 := lt_of_block hI7.app.var
  have hrow1 : ¬ v.ownBlock = some c1 := fun e => (hI7.app.row c1 e).2.2 rfl
  go_wp2_with (at_builtin; refine wl_app _ rfl _ _ 38 rfl 51 i0 _ 9 88 Try.underlying38 hi hz0 hz1 hz2 rfl (by omega) v _ _ (by rfl) (hown.alloc _) _ 1 1 [.int .i64 (q1.1 : Int), .int .i64 p.id, .int .i64 p.tx, .string p.owner, .int .i64 p.tries, .int .i64 p.table, .int .u8 p.kind, .int .i64 p.key, .string p.text] (by rfl) (by rfl) (nine_new_cells _ _ _ _ _ _ _ _ _ _ _) (by simp [Value.oneCell']) (by omega) (by unfold maxLen; omega) ?_; intro A8 cp8 w8 ho8 hg8 hat8; have q8 := Chg.of_grown (S := fun k => v.ownBlock = some k) hg8 (fun k h => h); have qa := Chg.alloc_ (fun _ => False) W7 (.cells #[.int .i64 (q1.1 : Int), .int .i64 p.id, .int .i64 p.tx, .string p.owner, .int .i64 p.tries, .int .i64 p.table, .int .u8 p.kind, .int .i64 p.key, .string p.text] 51); have k8 := q8.cell' (qa.cell' d1 (fun h => h)) hrow1; have f8 : w8.frozen? ⟨c1, 0, none⟩ = false := (q8.frozen (p := ⟨c1, 0, none⟩) (Nat.lt_of_lt_of_le l1 qa.size) hrow1).trans ((qa.frozen (p := ⟨c1, 0, none⟩) l1 (fun h => h)).trans g1); have hM := hI7.more _ _ ho8 hg8 hat8; rw [hml] at hM; have HM := Lib.hid hM; clear hM ho8 hg8 hat8 q8 qa)
  go_end0
  refine ⟨rfl, HM.out.2, by simp; omega, xs ++ [p], .slice A8 (xs.length + 1) cp8, by simp, ?_, fun h => by rw [HP.out h]⟩
  rw [List.map_append]
  have hz := HM.out.1
  rw [← HPS.out] at hz
  exact hz
end Go.Proofs.Ytdkankiohoocaaa
/- entry's scan.ops and scan.events. -/
namespace Go.Proofs.Ytdkankiohoocaaa
set_option linter.unusedSimpArgs false
set_option linter.unusedVariables false
open Go Go.RowKit Go.Proofs

theorem app_new {tl e : TypeId} {k : Nat} {w w' : World} {s a : Nat} (hs : s < w.heap.size ∧ a < w.heap.size)
    (hc : Chg (fun k => k = s ∨ k = a) ((w.alloc (.cells #[.pointer (some ⟨s, 0, none⟩)] 93)).alloc (.cells #[.slice none 0 0] tl)) w') :
    App tl e k w s a w.heap.size (w.heap.size + 1) [] w' (.slice none 0 0) := by
  obtain ⟨b1, b2, b3, b4⟩ := two_new (Chg.refl (fun _ => False) ((w.alloc (.cells #[.pointer (some ⟨s, 0, none⟩)] 93)).alloc (.cells #[.slice none 0 0] tl)))
  refine ⟨hc.at_ b1 (by omega), hc.at_ b2 (by omega), World.ownsRow_nil _ _ _ _, (Same.any b4 _).trans hc, fun g hg => by simp [Value.ownBlock] at hg, by omega⟩
theorem app_sl {tl e : TypeId} {k : Nat} {w0 w : World} {s a c0 c1 : Nat} {xs : List (List Value)} {v : Value} (h : App tl e k w0 s a c0 c1 xs w v) (hk : 0 < k) (hl : ∀ x ∈ xs, x.length = k) : Sl w (fun b => w0.heap.size ≤ b) k v xs :=
  Sl.of_own hk h.own rfl hl (fun g hg => (h.row g hg).1)

set_option maxHeartbeats 1600000 in
set_option maxRecDepth 100000 in
theorem sops_any (s a : Nat) (F : Nat → Prop) (st : St) (w : World) (h : Sx w F s a st) (hs : s < w.heap.size ∧ a < w.heap.size) (hF : ∀ k, F k → k < w.heap.size) (y : List OpD × St) (hy : Hid (getOps st = y)) :
    Calls Try.prog 61 #[.pointer (some ⟨s, 0, none⟩)] w fun en w' => ∃ v xs, en = .returned v ∧ Sx w' F s a y.2 ∧ Chg (fun k => k = s ∨ k = a) w w' ∧ Sl w' (fun b => w.heap.size ≤ b) 4 v (xs.map opCells) ∧ xs.length ≤ 255 ∧ (y.2.2 = 0 → xs = y.1) := by
  obtain ⟨q, HQ⟩ : ∃ q, Hid (stepNum 0 255 st = q) := ⟨_, rfl⟩
  have HY : Hid (iter opStep q.1 [] q.2 = y) := by show _ = _; rw [← HQ.out]; exact hy.out
  have hS1 := (h.same (Chg.alloc_ _ w (.cells #[.pointer (some ⟨s, 0, none⟩)] 93))).same (Chg.alloc_ _ _ (.cells #[.slice none 0 0] 37))
  have HD := Lib.hid (opsC_any w s a w.heap.size (w.heap.size + 1) F hF)
  have HA := Lib.hid (fun (w' : World) (hc : Chg (fun k => k = s ∨ k = a) ((w.alloc (.cells #[.pointer (some ⟨s, 0, none⟩)] 93)).alloc (.cells #[.slice none 0 0] 37)) w') => app_new (e := 47) (k := 4) hs hc)
  clear h hy
  go_enter Try.func61, Try.ntmps61
  go_wp2_with fail
  refine (times_ops s a w.heap.size (w.heap.size + 1) F opStep (ROps w s a w.heap.size (w.heap.size + 1)) st [] _ hS1 q HQ ?h0 ?hk HD.out y HY).mono ?_
  case h0 => exact fun w' hq hp => ⟨by simpa using hq, _, HA.out w' hp.2⟩
  case hk => exact fun n x st w w' ⟨h1, v, h2⟩ hc => ⟨h1, v, h2.call hc⟩
  rintro _ w1 ⟨rfl, hS2, n, hR⟩
  obtain ⟨hn, v, hA⟩ := hR
  obtain ⟨d0, d1, g1⟩ := hA.cells
  have HR := Lib.hid hA
  have HN := Lib.hid hn
  skip
  clear hA hn HD HA HQ HY hS1
  go_wp2_with fail
  go_ret
  exact ⟨v, y.1, rfl, hS2, HR.out.chg, app_sl HR.out (by omega) (by intro x hx; obtain ⟨o, -, rfl⟩ := List.mem_map.1 hx; rfl), by have := HN.out; omega, fun _ => rfl⟩

set_option maxHeartbeats 1600000 in
set_option maxRecDepth 100000 in
theorem sevents_any (s a : Nat) (F : Nat → Prop) (st : St) (w : World) (h : Sx w F s a st) (hs : s < w.heap.size ∧ a < w.heap.size) (hF : ∀ k, F k → k < w.heap.size) (y : List PlD × St) (hy : Hid (getPls st = y)) :
    Calls Try.prog 62 #[.pointer (some ⟨s, 0, none⟩)] w fun en w' => ∃ v xs, en = .returned v ∧ Sx w' F s a y.2 ∧ Chg (fun k => k = s ∨ k = a) w w' ∧ Sl w' (fun b => w.heap.size ≤ b) 9 v (xs.map plCells) ∧ xs.length ≤ 255 ∧ (y.2.2 = 0 → xs = y.1) := by
  obtain ⟨q, HQ⟩ : ∃ q, Hid (stepNum 0 255 st = q) := ⟨_, rfl⟩
  have HY : Hid (iter plStep q.1 [] q.2 = y) := by show _ = _; rw [← HQ.out]; exact hy.out
  have hS1 := (h.same (Chg.alloc_ _ w (.cells #[.pointer (some ⟨s, 0, none⟩)] 93))).same (Chg.alloc_ _ _ (.cells #[.slice none 0 0] 38))
  have HD := Lib.hid (eventsC_any w s a w.heap.size (w.heap.size + 1) F hF)
  have HA := Lib.hid (fun (w' : World) (hc : Chg (fun k => k = s ∨ k = a) ((w.alloc (.cells #[.pointer (some ⟨s, 0, none⟩)] 93)).alloc (.cells #[.slice none 0 0] 38)) w') => app_new (e := 51) (k := 9) hs hc)
  clear h hy
  go_enter Try.func62, Try.ntmps62
  go_wp2_with fail
  refine (times_events s a w.heap.size (w.heap.size + 1) F plStep (RPls w s a w.heap.size (w.heap.size + 1)) st [] _ hS1 q HQ ?h0 ?hk HD.out y HY).mono ?_
  case h0 => exact fun w' hq hp => ⟨by simpa using hq, [], _, rfl, HA.out w' hp.2, fun _ => rfl⟩
  case hk => exact fun n x st w w' ⟨h1, xs, v, h3, h2, h4⟩ hc => ⟨h1, xs, v, h3, h2.call hc, h4⟩
  rintro _ w1 ⟨rfl, hS2, n, hR⟩
  obtain ⟨hn, xs, v, hxl, hA, hxe⟩ := hR
  obtain ⟨d0, d1, g1⟩ := hA.cells
  have HR := Lib.hid hA
  have HN := Lib.hid hn
  have HX := Lib.hid hxe; have HL := Lib.hid hxl; clear hxe hxl
  clear hA hn HD HA HQ HY hS1
  go_wp2_with fail
  go_ret
  exact ⟨v, xs, rfl, hS2, HR.out.chg, app_sl HR.out (by omega) (by intro x hx; obtain ⟨o, -, rfl⟩ := List.mem_map.1 hx; rfl), by have := HN.out; have := HL.out; omega, HX.out⟩
end Go.Proofs.Ytdkankiohoocaaa
