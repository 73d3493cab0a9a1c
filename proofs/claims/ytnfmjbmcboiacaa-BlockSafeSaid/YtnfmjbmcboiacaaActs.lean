/- Acts that came in; the walk of carrierlaw03.small. -/
import Derived.Test.YtnfmjbmcboiacaaLOver
namespace Go.Proofs.Ytnfmjbmcboiacaa
open Go Go.RowKit Go.Proofs

/-- Something that is done with a device. -/
structure ActD where
  what : Int
  i : Int
  p : List UInt8
  lost : List Bool
  torn : Int
def ActD.ok (x : ActD) : Prop := 0 ≤ x.what ∧ x.what ≤ 255 ∧ -9223372036854775808 ≤ x.i ∧ x.i ≤ 9223372036854775807 ∧ -9223372036854775808 ≤ x.torn ∧ x.torn ≤ 9223372036854775807
/-- An act lies there. -/
def ActAt (w : World) (F : Nat → Prop) (b o : Nat) (x : ActD) : Prop :=
  ∃ vp vl, w.cell? ⟨b, o, none⟩ = some (.int .u8 x.what) ∧ w.cell? ⟨b, o + 1, none⟩ = some (.int .i64 x.i) ∧ w.cell? ⟨b, o + 2, none⟩ = some vp ∧ w.cell? ⟨b, o + 3, none⟩ = some vl ∧ w.cell? ⟨b, o + 4, none⟩ = some (.int .i64 x.torn) ∧ Bs w F vp x.p ∧ Bl w F vl x.lost
/-- The slice v reads as the acts l. -/
def Acts (w : World) (F : Nat → Prop) (v : Value) (l : List ActD) : Prop :=
  ∃ A cap, v = .slice A l.length cap ∧ l.length ≤ cap ∧ cap ≤ 9223372036854775807 ∧ (∀ x ∈ l, x.ok) ∧ (0 < l.length → ∃ b o, A = some ⟨b, o, none⟩ ∧ F b ∧ ∀ (i : Nat) (x : ActD), l[i]? = some x → ActAt w F b (o + i * 5) x)
theorem ActAt.same {w w' : World} {F : Nat → Prop} {b o : Nat} {x : ActD} (h : ActAt w F b o x) (hs : Same w w') : ActAt w' F b o x := by
  obtain ⟨vp, vl, h0, h1, h2, h3, h4, h5, h6⟩ := h
  exact ⟨vp, vl, hs.cell' h0 (fun h => h), hs.cell' h1 (fun h => h), hs.cell' h2 (fun h => h), hs.cell' h3 (fun h => h), hs.cell' h4 (fun h => h), h5.same hs, h6.keep hs (fun _ _ h => h)⟩
theorem Acts.same {w w' : World} {F : Nat → Prop} {v : Value} {l : List ActD} (h : Acts w F v l) (hs : Same w w') : Acts w' F v l := by
  obtain ⟨A, cap, h0, h1, h2, h3, h4⟩ := h
  refine ⟨A, cap, h0, h1, h2, h3, fun hp => ?_⟩
  obtain ⟨b, o, hA, hF, hx⟩ := h4 hp
  exact ⟨b, o, hA, hF, fun i x hi => (hx i x hi).same hs⟩
theorem Acts.at_ {w : World} {F : Nat → Prop} {A : Option Addr} {n c : Nat} {l : List ActD} (h : Acts w F (.slice A n c) l) {k : Nat} (hk : k < l.length) :
    ∃ b o x, A = some ⟨b, o, none⟩ ∧ F b ∧ l[k]? = some x ∧ x.ok ∧ ActAt w F b (o + k * 5) x := by
  obtain ⟨A1, c1, hv, h1, h2, h3, h4⟩ := h
  injection hv with e1 e2 e3
  subst e1; subst e2; subst e3
  obtain ⟨b, o, hA, hF, hx⟩ := h4 (by omega)
  exact ⟨b, o, l[k], hA, hF, List.getElem?_eq_getElem hk, h3 _ (List.getElem_mem hk), hx k _ (List.getElem?_eq_getElem hk)⟩

/-- Has it not too much? -/
def fewA (x : ActD) : Bool := decide (x.p.length ≤ 40) && decide (x.lost.length ≤ 20)
def smallA (l : List ActD) : Bool := l.all fewA && decide (l.length ≤ 60)
theorem smallA_bad {l : List ActD} {k : Nat} {x : ActD} (hx : l[k]? = some x) (h : fewA x = false) : smallA l = false := by
  unfold smallA
  have : l.all fewA = false := by
    rw [List.all_eq_false]
    exact ⟨x, List.mem_of_getElem? hx, by simp [h]⟩
  rw [this]; rfl
theorem smallA_end {l : List ActD} (h : (l.take l.length).all fewA = true) : smallA l = decide (l.length ≤ 60) := by
  unfold smallA
  rw [List.take_length] at h
  rw [h]; rfl
theorem take_all {l : List ActD} {k : Nat} {x : ActD} (h : (l.take k).all fewA = true) (hx : l[k]? = some x) (hf : fewA x = true) : (l.take (k + 1)).all fewA = true := by
  rw [List.take_add_one, List.all_append, h, hx]; simp [hf]

def SmallAt (w wr : World) (l : List ActD) (i : Value) : Prop := ∃ k : Nat, i = .int .i64 k ∧ k ≤ l.length ∧ (l.take k).all fewA = true ∧ wr = w
theorem SmallAt.mk_ {w : World} {l : List ActD} {i : Value} {k : Nat} (h : i = .int .i64 k) (hk : k ≤ l.length) (hf : (l.take k).all fewA = true) : SmallAt w w l i := ⟨k, h, hk, hf, rfl⟩

set_option maxHeartbeats 1600000 in
theorem small_any (v : Value) (l : List ActD) (F : Nat → Prop) (w : World) (h : Acts w F v l) :
    Calls Try.prog 24 #[v] w fun e w' => e = .returned (.bool (smallA l)) ∧ w = w' := by
  obtain ⟨A, cap, hv, hlc, hcm, -, -⟩ := id h
  subst hv
  go_enter Try.func24, Try.ntmps24
  go_wp2_with fail
  go_loopw [3] (fun i wr => SmallAt w wr l i) (fun i _ => l.length - (intOf i).toNat)
  case atStart => exact SmallAt.mk_ (k := 0) rfl (Nat.zero_le _) (by simp)
  case round =>
    obtain ⟨k, rfl, hk, hf, rfl⟩ := hrel
    have HF := Lib.hid hf
    clear hf
    by_cases hlt : k < l.length
    · obtain ⟨b, o, x, hA, hFb, hx, hok, hat⟩ := h.at_ hlt
      subst hA
      obtain ⟨vp, vl, c0, c1, c2, c3, c4, hbp, hbl⟩ := hat
      obtain ⟨Ap, cp, hvp, hp1, hp2, -⟩ := id hbp
      subst hvp
      obtain ⟨Al, cl, hvl, hl1, hl2, -⟩ := id hbl
      subst hvl
      have HX := Lib.hid hx
      have hkl : (k : Int) < (l.length : Int) := by omega
      clear hx c0 c1 c4
      by_cases hp40 : x.p.length ≤ 40
      · have hp40' : (x.p.length : Int) ≤ 40 := by omega
        by_cases hl20 : x.lost.length ≤ 20
        · have hl20' : (x.lost.length : Int) ≤ 20 := by omega
          have HW : Hid (fewA x = true) := Lib.hid (by unfold fewA; simp [hp40, hl20])
          go_wp2_with fail
          go_roundw
          case rel => exact SmallAt.mk_ (k := k + 1) (by go_num) (by omega) (take_all HF.out HX.out HW.out)
          case measure => simp [intOf]; omega
        · have hl20' : (20 : Int) < (x.lost.length : Int) := by omega
          have HW : Hid (smallA l = false) := Lib.hid (smallA_bad HX.out (by unfold fewA; simp [hl20]))
          go_wp2_with fail
          go_ret
          exact ⟨ret_bool HW.out.symm, rfl⟩
      · have hp40' : (40 : Int) < (x.p.length : Int) := by omega
        have HW : Hid (smallA l = false) := Lib.hid (smallA_bad HX.out (by unfold fewA; simp [hp40]))
        go_wp2_with fail
        go_ret
        exact ⟨ret_bool HW.out.symm, rfl⟩
    · obtain rfl : k = l.length := by omega
      have HE := Lib.hid (smallA_end HF.out)
      by_cases h60 : l.length ≤ 60
      · have h60' : (l.length : Int) ≤ 60 := by omega
        have HW : Hid (smallA l = true) := Lib.hid (by rw [HE.out]; exact decide_eq_true h60)
        go_wp2_with fail
        go_ret
        exact ⟨ret_bool HW.out.symm, rfl⟩
      · have h60' : (60 : Int) < (l.length : Int) := by omega
        have HW : Hid (smallA l = false) := Lib.hid (by rw [HE.out]; exact decide_eq_false h60)
        go_wp2_with fail
        go_ret
        exact ⟨ret_bool (by rw [HW.out]; exact decide_eq_false (by omega)), rfl⟩
theorem small_is (v : Value) (l : List ActD) (F : Nat → Prop) (w : World) (h : Acts w F v l) (b : Bool) (hb : Hid (smallA l = b)) :
    Calls Try.prog 24 #[v] w fun e w' => e = .returned (.bool b) ∧ w = w' :=
  (small_any v l F w h).mono fun e w' h => by rw [hb.out] at h; exact h
end Go.Proofs.Ytnfmjbmcboiacaa
