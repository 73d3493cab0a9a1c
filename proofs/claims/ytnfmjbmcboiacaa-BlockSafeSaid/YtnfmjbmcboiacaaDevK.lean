/- string(p); a device that the call has made; the walks of carrierlaw03.kept and BlockNil. -/
import Derived.Test.YtnfmjbmcboiacaaDevC
import Derived.Laws.BytesArg
import Derived.Laws.IdiomStrings
import Derived.Lib.SlBytesConst
namespace Go.Proofs.Ytnfmjbmcboiacaa
open Go Go.RowKit Go.Proofs

/-- 'string(p)'. -/
theorem run_toS (w : World) (F : Nat → Prop) (v : Value) (l : List UInt8) (hb : Bs w F v l) : (convert 25 9 v).run Try.prog w = .ok (.string ⟨l.toArray⟩) w := by
  obtain ⟨A, cap, rfl, _, _, hc⟩ := hb
  rcases A with _ | ad
  · have h0 : l = [] := by
      rcases Nat.eq_zero_or_pos l.length with h0 | h0
      · exact List.eq_nil_of_length_eq_zero h0
      · obtain ⟨b, o, hA, _⟩ := hc h0; cases hA
    subst h0
    rw [run_convert_bytes_nil (P := Try.prog) w 25 5 Try.underlying25 Try.underlying5 _ _ 9 Try.underlying9]
    rfl
  · refine run_convert_bytes_back (P := Try.prog) w 25 9 5 ad cap l Try.underlying25 Try.underlying5 Try.underlying9 (fun j hj => ?_)
    obtain ⟨b, o, hA, _, hx⟩ := hc (by omega)
    injection hA with hA
    subst hA
    have := hx j l[j] (List.getElem?_eq_getElem hj)
    unfold Addr.add
    split
    · subst j; simpa using this
    · exact this
theorem wl_toS {ops : Array Oper} {rest : List Oper} {o : Oper} {a : Act} {Q : Exit → Act → World → Prop} {w : World} (hgd : o.guard = none) (x : Operand)
    (ho : o.op = .convert 25 9 x) (v : Value) (F : Nat → Prop) (l : List UInt8) (hx : a.eval x = v) (hb : Bs w F v l)
    (h : wpList Try.prog ops Q rest (a.put o.dst (.string ⟨l.toArray⟩)) w) :
    wpList Try.prog ops Q (o :: rest) a w := by
  refine wpList_plain hgd fun K hK => ?_
  unfold Oper.wp execOp
  simp only [ho, Sem.run_bind, Sem.run_pure, Result.andThen_ok, hx, run_toS w F v l hb]
  exact hK _ _ h

/-- A device that has been made since w0, and w has nothing else that has turned. -/
structure Made (w0 w : World) (F : Nat → Prop) (d n : Nat) (s : List UInt8) (ts : List Wt) : Prop where
  dv : Dv w F d n s ts
  old : ∀ k, F k → w0.heap.size ≤ k
  same : Same w0 w
theorem Made.step {w0 w w' : World} {F : Nat → Prop} {d n : Nat} {s s' : List UInt8} {ts ts' : List Wt} (h : Made w0 w F d n s ts) (hp : DvPost w w' F d n s' ts') : ∃ F', Made w0 w' F' d n s' ts' := by
  obtain ⟨F', h1, h2, h3⟩ := hp
  exact ⟨F', h1, h3.since h.old h.same.size, h.same.since h2 h.old⟩
theorem Made.keep {w0 w w' : World} {F : Nat → Prop} {d n : Nat} {s : List UInt8} {ts : List Wt} (h : Made w0 w F d n s ts) (hs : Same w w') : Made w0 w' F d n s ts := ⟨h.dv.keep hs (fun _ _ h => h), h.old, h.same.trans hs⟩
theorem Made.of_new {w w' : World} {n : Int} {F : Nat → Prop} {d : Nat} (h1 : Dv w' F d (min (max n 0) 4096).toNat (List.replicate (32 * (min (max n 0) 4096).toNat) 0) []) (h2 : Same w w') (h3 : ∀ k, F k → w.heap.size ≤ k) {m : Nat} (hm : (min (max n 0) 4096).toNat = m) : Made w w' F d m (List.replicate (32 * m) 0) [] := by
  subst hm; exact ⟨h1, h3, h2⟩
theorem Got.bs {w w' : World} {v : Value} {l : List UInt8} (h : Got w w' v l) : Bs w' (fun k => w.heap.size ≤ k) v l := by
  obtain ⟨g, rfl, hg, hb, hl, hs⟩ := h
  refine ⟨some ⟨g, 0, none⟩, 32, by rw [hl], by omega, by unfold maxLen; omega, fun _ => ⟨g, 0, rfl, hg, fun i x hi => ?_⟩⟩
  rw [cell_of_row w' g _ _ _ _ hb, Nat.zero_add, List.getElem?_toArray, bvs_get, hi]; rfl
theorem bs_litm (w : World) (t : TypeId) (fr : Nat × Nat) (cs : Array Value) (l : List UInt8) (n : Nat) (hn : l.length = n) (hm : n ≤ maxLen) (hx : cs.toList = bvs l) :
    Bs (w.alloc (.cells cs t fr)) (fun k => k = w.heap.size) (.slice (some ⟨w.heap.size, 0, none⟩) n n) l := by
  subst hn
  refine ⟨_, _, rfl, Nat.le_refl _, hm, fun _ => ⟨_, 0, rfl, rfl, fun i x hi => ?_⟩⟩
  rw [cell_of_row _ _ _ cs t fr (heap_alloc_last w _), Nat.zero_add, ← Array.getElem?_toList, hx, bvs_get, hi]
  rfl
theorem bl_lit (w : World) (t : TypeId) (cs : Array Value) (l : List Bool) (n : Nat) (hn : l.length = n) (hm : n ≤ maxLen) (hx : cs.toList = l.map Value.bool) :
    Bl (w.alloc (.cells cs t)) (fun k => k = w.heap.size) (.slice (some ⟨w.heap.size, 0, none⟩) n n) l := by
  subst hn
  refine ⟨_, _, rfl, Nat.le_refl _, hm, fun _ => ⟨_, 0, rfl, rfl, fun i x hi => ?_⟩⟩
  rw [World.cell?_alloc_at _ _ _ _ rfl, Nat.zero_add, ← Array.getElem?_toList, hx, List.getElem?_map, hi]
  rfl

def keptS : List UInt8 := crash [false, true] 9 2 0 (List.replicate 64 0) [⟨0, [97, 98]⟩, ⟨0, [99, 100]⟩]
theorem keptS_now : now 0 (blk keptS 0) [] = 97 :: 98 :: List.replicate 30 0 := by decide +kernel

set_option maxHeartbeats 1600000 in
theorem kept_any (w : World) : Calls Try.prog 10 #[] w fun e w' => e = .returned (.bool true) ∧ Same w w' := by
  have kc := fun (w : World) (C : Array Value) (n c : Nat) => Lib.run_convert_bytes_const (P := Try.prog) w 25 5 C n c Try.underlying25 Try.underlying5
  go_enter Try.func10, Try.ntmps10
  go_wp2_with fail
  refine (dnew_any 2 (by omega) (by omega) w).mono ?_
  rintro _ w1 ⟨d, F, rfl, hv, hs, ho⟩
  have hM := Made.of_new (m := 2) hv hs ho (by omega)
  clear hv hs ho
  go_wp2_with fail
  refine (dwrite_ok d 2 0 F _ _ [97, 98] [] _ _ (hM.keep (Chg.alloc_ _ _ _)).dv (by omega) (by simp) (bs_litm w1 _ _ _ [97, 98] 2 rfl (by unfold maxLen; omega) rfl) (by simp)).mono ?_
  rintro _ w2 ⟨rfl, hP⟩
  obtain ⟨F2, hM2⟩ := (hM.keep (Chg.alloc_ _ _ _)).step hP
  clear hM hP
  go_wp2_with fail
  refine (dwrite_ok d 2 0 F2 _ _ [99, 100] _ _ _ (hM2.keep (Chg.alloc_ _ _ _)).dv (by omega) (by simp) (bs_litm w2 _ _ _ [99, 100] 2 rfl (by unfold maxLen; omega) rfl) (by simp)).mono ?_
  rintro _ w3 ⟨rfl, hP⟩
  obtain ⟨F3, hM3⟩ := (hM2.keep (Chg.alloc_ _ _ _)).step hP
  clear hM2 hP
  go_wp2_with fail
  have hlt : Lt F3 w3 := by obtain ⟨gs, vw, vs, h⟩ := hM3.dv; exact h.lt
  refine (dcrash_ok d 2 9 (by omega) (by omega) F3 _ _ _ [false, true] _ _ (hM3.keep (Chg.alloc_ _ _ _)).dv (bl_lit w3 _ _ [false, true] 2 rfl (by unfold maxLen; omega) rfl) (fun k hk hF => by have := hlt k hF; omega)).mono ?_
  rintro _ w4 ⟨rfl, hP⟩
  obtain ⟨F4, hM4⟩ := (hM3.keep (Chg.alloc_ _ _ _)).step hP
  clear hM3 hP hlt
  have hM5 : Made w w4 F4 d 2 keptS [] := hM4
  clear hM4
  go_wp2_with fail
  refine (dread_ok d 2 0 F4 _ _ _ hM5.dv (by omega)).mono ?_
  rintro _ w5 ⟨v, rfl, hG⟩
  rw [keptS_now] at hG
  have hs5 := hM5.same.trans (by obtain ⟨_, _, _, _, _, h⟩ := hG; exact h)
  have hb := hG.bs
  obtain ⟨g, rfl, -, -, -, -⟩ := hG
  have hcv := run_toS w5 _ _ _ (hb.takeN (k := 2) (by simp))
  clear hM5
  go_wp2_with fail
  go_ret
  exact ⟨rfl, hs5⟩

set_option maxHeartbeats 1600000 in
theorem blockNil_walk (i : Int) (v : Value) (p : List UInt8) (F : Nat → Prop) (w : World) (hp : Bs w F v p) :
    Calls Try.prog 9 #[.int .i64 i, v] w fun e w' => e = .returned (.bool true) ∧ Same w w' := by
  obtain ⟨A, cap, hv, -, -, -⟩ := id hp
  subst hv
  by_cases hs : p.length ≤ 60
  · have hs' : (p.length : Int) ≤ 60 := by omega
    go_enter Try.func9, Try.ntmps9
    go_wp2_with fail
    refine (dsync_nil _).mono ?_
    rintro _ _ ⟨rfl, rfl⟩
    go_wp2_with fail
    refine (dcrash_nil _ _ _).mono ?_
    rintro _ _ ⟨rfl, rfl⟩
    go_wp2_with fail
    refine (dread_nil _ _).mono ?_
    rintro _ _ ⟨rfl, rfl⟩
    go_wp2_with fail
    refine (kept_any _).mono ?_
    rintro _ w1 ⟨rfl, hs1⟩
    go_wp2_with fail
    refine (dwrite_nil _ _ _).mono ?_
    rintro _ _ ⟨rfl, rfl⟩
    go_wp2_with fail
    refine (dsize_nil _).mono ?_
    rintro _ _ ⟨rfl, rfl⟩
    go_wp2_with fail
    refine (dwaiting_nil _).mono ?_
    rintro _ _ ⟨rfl, rfl⟩
    go_wp2_with fail
    go_ret
    exact ⟨rfl, hs1⟩
  · have hs' : (60 : Int) < (p.length : Int) := by omega
    go_enter Try.func9, Try.ntmps9
    go_wp2_with fail
    refine (kept_any _).mono ?_
    rintro _ w1 ⟨rfl, hs1⟩
    go_wp2_with fail
    go_ret
    exact ⟨rfl, hs1⟩
end Go.Proofs.Ytnfmjbmcboiacaa
