/- The walk of entry.events. -/
import Derived.Test.YtdkankiohoocaaaQWr1
namespace Go.Proofs.Ytdkankiohoocaaa
set_option linter.unusedSimpArgs false
set_option linter.unusedVariables false
open Go Go.RowKit Go.Proofs

theorem encB_len (p : PlD) (h : p.ok) : (encB p.id p.tx p.owner p.tries p.table p.kind p.key p.text).length ≤ 200 := by
  obtain ⟨h1, ⟨k1, k2, k3, k4, k5, k6, k7, k8, k9, k10⟩, h3, h4, h5, h6⟩ := h
  have ht1 : (textB p.owner.data.toList).length ≤ 50 := by
    unfold textB; rw [List.length_append, size_toList]; have := (numB_len 10 p.owner.size (by omega) (by omega)).1; omega
  have ht2 : (textB p.text.data.toList).length ≤ 50 := by
    unfold textB; rw [List.length_append, size_toList]; have := (numB_len 10 p.text.size (by omega) (by omega)).1; omega
  have hi7 : (intB p.key).length ≤ 10 := by unfold intB zig; split <;> exact numB_len10 (by omega)
  have a1 := numB_len10 (n := p.id) (by omega)
  have a2 := numB_len10 (n := p.tx) (by omega)
  have a3 := numB_len10 (n := p.tries) (by omega)
  have a4 := numB_len10 (n := p.table) (by omega)
  have a5 := numB_len10 (n := p.kind) (by omega)
  unfold encB
  simp only [List.length_append]
  omega
theorem plB_len (p : PlD) (h : p.ok) : (plB p).length ≤ 250 := by
  have h1 := encB_len p h
  have h2 := numB_len10 (n := p.spool) (by have := h.1.2; omega)
  have h3 : (textB (encB p.id p.tx p.owner p.tries p.table p.kind p.key p.text)).length ≤ 210 := by
    unfold textB; rw [List.length_append]; have := (numB_len 10 (encB p.id p.tx p.owner p.tries p.table p.kind p.key p.text).length (by omega) (by omega)).1; omega
  unfold plB
  rw [List.length_append]
  omega
def plsOf (l : List PlD) (k : Nat) : List UInt8 := ((l.take k).map plB).flatten
theorem plsOf_succ (l : List PlD) (k : Nat) (p : PlD) (h : l[k]? = some p) : plsOf l (k + 1) = plsOf l k ++ plB p := by
  unfold plsOf
  rw [List.take_add_one, h]
  simp
theorem plsOf_all (l : List PlD) : plsB l = numB l.length ++ plsOf l l.length := by unfold plsOf plsB; rw [List.take_length]
theorem pflat_len (l : List PlD) (h : ∀ p ∈ l, p.ok) : ((l.map plB).flatten).length ≤ 250 * l.length := by
  induction l with
  | nil => simp
  | cons o l ih =>
    have h1 := ih (fun x hx => h x (by simp [hx]))
    have h2 := plB_len o (h o (by simp))
    rw [List.map_cons, List.flatten_cons, List.length_append, List.length_cons]
    omega
theorem plsOf_len (l : List PlD) (k : Nat) (h : ∀ p ∈ l, p.ok) : (plsOf l k).length ≤ 250 * l.length := by
  have h1 := pflat_len (l.take k) (fun o ho => h o (List.mem_of_mem_take ho))
  have h2 : (l.take k).length ≤ l.length := by simp; omega
  unfold plsOf
  omega

theorem nine_cells {w : World} {B : Nat} {a0 a1 a2 a3 a4 a5 a6 a7 a8 : Value} {t : TypeId} (h : w.heap[B]? = some (.cells #[a0, a1, a2, a3, a4, a5, a6, a7, a8] t (0, 0))) :
    w.cell? ⟨B, 0, none⟩ = some a0 ∧ w.cell? ⟨B, 1, none⟩ = some a1 ∧ w.cell? ⟨B, 2, none⟩ = some a2 ∧ w.cell? ⟨B, 3, none⟩ = some a3 ∧ w.cell? ⟨B, 4, none⟩ = some a4 ∧ w.cell? ⟨B, 5, none⟩ = some a5 ∧ w.cell? ⟨B, 6, none⟩ = some a6 ∧ w.cell? ⟨B, 7, none⟩ = some a7 ∧ w.cell? ⟨B, 8, none⟩ = some a8 := by
  simp [World.cell?, h]
theorem WO.same {w0 w w' : World} {F0 F : Nat → Prop} {a O : Nat} {l : List UInt8} {o : Obj} (h : WO w0 w F0 F a l O o) (hc : Same w w') : WO w0 w' F0 F a l O o :=
  ⟨h.wr.keep hc (fun _ _ h => h), hc.at_ h.blk (fun h => h), h.nO, h.chg.trans (Same.any hc _), fun k hk => by
    have := hc.size
    rcases h.new k hk with h1 | h1
    · exact .inl h1
    · exact .inr ⟨h1.1, by omega⟩⟩
def PlsRel (w : World) (F : Nat → Prop) (a : Nat) (l : List UInt8) (ps : List PlD) (i : Value) (wr : World) : Prop :=
  ∃ k : Nat, i = .int .i64 k ∧ k ≤ ps.length ∧ WrPost w wr F a (l ++ plsOf ps k)

set_option maxHeartbeats 3200000 in
set_option maxRecDepth 100000 in
theorem eevents_any (a : Nat) (F G : Nat → Prop) (l : List UInt8) (os : List PlD) (v : Value) (w : World) (hW : Wr w F a l) (hv : Sl w G 9 v (os.map plCells)) (hd : ∀ b, G b → ¬ F b) (hn : ∀ o ∈ os, o.ok) (hl : l.length ≤ 1099510000000) (hf : os.length ≤ 1000) :
    Calls Try.prog 33 #[.pointer (some ⟨a, 0, none⟩), v] w fun en w' => en = .returned (.tuple #[]) ∧ WrPost w w' F a (l ++ plsB os) := by
  obtain ⟨A, cap, hv1, -, -⟩ := hv.form
  subst hv1
  have hml : (os.map plCells).length = os.length := by simp
  rw [hml] at hv ⊢
  rw [plsOf_all, ← List.append_assoc]
  have hG : Sl w (fun b => G b ∧ b < w.heap.size) 9 (.slice A os.length cap) (os.map plCells) := hv.mono (by intro x hx; obtain ⟨o, -, rfl⟩ := List.mem_map.1 hx; simp [plCells]) (fun b hb hg => ⟨hg, hb⟩)
  clear hv
  obtain ⟨L, HL⟩ : ∃ L, Hid (l ++ numB os.length = L) := ⟨_, rfl⟩
  have hLl : L.length ≤ 1099510000010 := by rw [← HL.out, List.length_append]; have := (numB_len 10 os.length (by omega) (by omega)).1; omega
  rw [HL.out]
  go_enter Try.func33, Try.ntmps33
  go_wp2_with fail
  refine (enum_one a os.length F l w hW ⟨by omega, by omega⟩ (by omega)).mono ?_
  rintro _ w1 ⟨rfl, hP1⟩
  have en : ((os.length : Nat) : Int).toNat = os.length := by omega
  rw [en, HL.out] at hP1
  have HP1 := Lib.hid hP1
  clear hP1 en
  go_wp2_with fail
  go_loopw [13] (fun i wr => PlsRel w F a L os i wr) (fun i _ => os.length - (intOf i).toNat)
  case atStart => exact ⟨0, rfl, Nat.zero_le _, by simpa [plsOf] using HP1.out⟩
  case round =>
    obtain ⟨k, rfl, hk, hP⟩ := hrel
    by_cases hkl : k < os.length
    · obtain ⟨F1, hW1, hC1, hN1⟩ := hP
      obtain ⟨b, o, x, hA, hGb, hx, hc⟩ := hG.at_ (i := k) (by rw [hml]; exact hkl)
      have hg : os[k]? = some os[k] := List.getElem?_eq_getElem hkl
      generalize os[k] = od at hg
      have hxn : x = plCells od := by rw [List.getElem?_map, hg] at hx; simpa using hx.symm
      subst hxn
      subst hA
      have hok := hn od (List.mem_of_getElem? hg)
      have hel := encB_len od hok
      have HQ : Hid ((L ++ plsOf os k) ++ plB od = L ++ plsOf os (k + 1)) := by show _ = _; rw [plsOf_succ os k _ hg, List.append_assoc]
      have hlt : (L ++ plsOf os k).length ≤ 1099511110010 := by
        have := plsOf_len os k hn
        rw [List.length_append]
        omega
      have HPB : Hid (plB od = numB od.spool.toNat ++ textB (encB od.id od.tx od.owner od.tries od.table od.kind od.key od.text)) := rfl
      have c0 := hC1.cell' (hc 0 (.int .i64 od.spool) rfl) (hd b hGb.1)
      have c1 := hC1.cell' (hc 1 (.int .i64 od.id) rfl) (hd b hGb.1)
      have c2 := hC1.cell' (hc 2 (.int .i64 od.tx) rfl) (hd b hGb.1)
      have c3 := hC1.cell' (hc 3 (.string od.owner) rfl) (hd b hGb.1)
      have c4 := hC1.cell' (hc 4 (.int .i64 od.tries) rfl) (hd b hGb.1)
      have c5 := hC1.cell' (hc 5 (.int .i64 od.table) rfl) (hd b hGb.1)
      have c6 := hC1.cell' (hc 6 (.int .u8 od.kind) rfl) (hd b hGb.1)
      have c7 := hC1.cell' (hc 7 (.int .i64 od.key) rfl) (hd b hGb.1)
      have c8 := hC1.cell' (hc 8 (.string od.text) rfl) (hd b hGb.1)
      rw [Nat.add_zero] at c0
      have hkl' : (k : Int) < (os.length : Int) := by omega
      have hb1 := numB_len10 (n := od.spool) (by have := hok.1.2; omega)
      have HO := Lib.hid (WO.start hW1 hC1 hN1 #[.int .i64 od.spool, .int .i64 od.id, .int .i64 od.tx, .string od.owner, .int .i64 od.tries, .int .i64 od.table, .int .u8 od.kind, .int .i64 od.key, .string od.text] 51)
      clear hc hx hd hn hG hW1 hC1 hN1
      go_upto_region 4 with fail
      have hO := HO.out
      clear HO c0 c1 c2 c3 c4 c5 c6 c7 c8
      generalize wr.alloc (.cells #[.int .i64 od.spool, .int .i64 od.id, .int .i64 od.tx, .string od.owner, .int .i64 od.tries, .int .i64 od.table, .int .u8 od.kind, .int .i64 od.key, .string od.text] 51) = W2 at *
      generalize wr.heap.size = O at *
      obtain ⟨x0, x1, x2, x3, x4, x5, x6, x7, x8⟩ := nine_cells hO.blk
      go_wp2_with fail
      refine (enum_one a od.spool F1 _ W2 hO.wr hok.1 (by omega)).mono ?_
      rintro _ w3 ⟨rfl, hP3⟩
      obtain ⟨F3, hO3⟩ := hO.step hP3
      clear hO hP3 x0 x1 x2 x3 x4 x5 x6 x7 x8
      obtain ⟨x0, x1, x2, x3, x4, x5, x6, x7, x8⟩ := nine_cells hO3.blk
      go_wp2_with fail
      refine (eencode_any od.id od.tx od.owner od.tries od.table od.kind od.key od.text w3 hok.2.1 hok.2.2.1 hok.2.2.2.1 hok.2.2.2.2.1 hok.2.2.2.2.2).mono ?_
      rintro _ w4 ⟨v4, rfl, R4⟩
      obtain ⟨A4, cp4, hv4⟩ := R4.form
      subst hv4
      have hO4 := hO3.same R4.2
      have HB := Lib.hid R4.bs
      clear hO3 R4 x0 x1 x2 x3 x4 x5 x6 x7 x8
      go_wp2_with (refine wl_toS rfl _ rfl _ _ _ rfl HB.out ?_)
      have hl4 : (L ++ plsOf os k ++ numB od.spool.toNat).length ≤ 1099511110020 := by rw [List.length_append]; omega
      have hsz : (⟨(encB od.id od.tx od.owner od.tries od.table od.kind od.key od.text).toArray⟩ : ByteArray).size ≤ 200 := by rw [← size_toList]; simpa using hel
      have HE : Hid ((L ++ plsOf os k ++ numB od.spool.toNat) ++ textB (⟨(encB od.id od.tx od.owner od.tries od.table od.kind od.key od.text).toArray⟩ : ByteArray).data.toList = L ++ plsOf os (k + 1)) := by show _ = _; rw [← HQ.out, HPB.out]; simp only [List.append_assoc]
      refine (wtext_is _ _ _ _ _ _ hO4.wr (by omega) (by omega) HE).mono ?_
      rintro _ w6 ⟨rfl, hP6⟩
      obtain ⟨F6, hO6⟩ := hO4.step hP6
      have HP6 := Lib.hid hO6.post
      clear hO4 hO6 hP6
      go_wp2_with fail
      go_roundw
      case rel => exact ⟨k + 1, by go_num, by omega, HP6.out⟩
      case measure => simp [intOf]; omega
    · have hke : k = os.length := by omega
      subst hke
      have HP := Lib.hid hP
      clear hP
      go_wp2_with fail
      go_end0
      exact ⟨rfl, HP.out⟩
end Go.Proofs.Ytdkankiohoocaaa
