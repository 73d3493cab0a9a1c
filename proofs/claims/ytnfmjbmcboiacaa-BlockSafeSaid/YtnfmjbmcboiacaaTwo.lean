/- Two devices, the program's and the document's, each since one world on; contracts at written answers. -/
import Derived.Test.YtnfmjbmcboiacaaRDevC
namespace Go.Proofs.Ytnfmjbmcboiacaa
open Go Go.RowKit Go.Proofs

/-- The program's device (block d, blocks F, the state s, ts) and the document's (block m, blocks G, the state s2, ts2), both made since w0; nothing that was there at w0 has turned. -/
structure Two (w0 w : World) (F G : Nat → Prop) (d m n : Nat) (s : List UInt8) (ts : List Wt) (s2 : List UInt8) (ts2 : List Wt) : Prop where
  a : Dv w F d n s ts
  b : Rv w G m n s2 ts2
  aold : ∀ k, F k → w0.heap.size ≤ k
  bold : ∀ k, G k → w0.heap.size ≤ k
  dj : Dj F G
  same : Same w0 w

section
variable {w0 w w' : World} {F G : Nat → Prop} {d m n : Nat} {s s' s2 s2' : List UInt8} {ts ts' ts2 ts2' : List Wt}
theorem Dv.lt (h : Dv w F d n s ts) : Lt F w := by obtain ⟨_, _, _, h⟩ := h; exact h.lt
theorem Rv.lt (h : Rv w F d n s ts) : Lt F w := by obtain ⟨_, _, _, h⟩ := h; exact h.lt
theorem Dv.fine (h : Dv w F d n s ts) : Fine n s ts := by obtain ⟨_, _, _, h⟩ := h; exact h.fine
theorem Two.dstep (h : Two w0 w F G d m n s ts s2 ts2) (hp : DvPost w w' F d n s' ts') : ∃ F', Two w0 w' F' G d m n s' ts' s2 ts2 := by
  obtain ⟨F', h1, h2, h3⟩ := hp
  exact ⟨F', h1, h.b.keep h2 (fun k hk hF => h.dj k hF hk), h3.since h.aold h.same.size, h.bold, (h3.dj h.dj.symm h.b.lt).symm, h.same.since h2 h.aold⟩
theorem Two.rstep (h : Two w0 w F G d m n s ts s2 ts2) (hp : RvPost w w' G m n s2' ts2') : ∃ G', Two w0 w' F G' d m n s ts s2' ts2' := by
  obtain ⟨G', h1, h2, h3⟩ := hp
  exact ⟨G', h.a.keep h2 (fun k hk hG => h.dj k hk hG), h1, h.aold, h3.since h.bold h.same.size, h3.dj h.dj h.a.lt, h.same.since h2 h.bold⟩
theorem Two.keep (h : Two w0 w F G d m n s ts s2 ts2) (hs : Same w w') : Two w0 w' F G d m n s ts s2 ts2 :=
  ⟨h.a.keep hs (fun _ _ h => h), h.b.keep hs (fun _ _ h => h), h.aold, h.bold, h.dj, h.same.trans hs⟩
theorem Two.start {w1 w2 : World} {N : Int} (hd : Dv w1 F d (min (max N 0) 4096).toNat (List.replicate (32 * (min (max N 0) 4096).toNat) 0) []) (hs1 : Same w w1) (ho1 : ∀ k, F k → w.heap.size ≤ k)
    (hr : Rv w2 G m (min (max N 0) 4096).toNat (List.replicate (32 * (min (max N 0) 4096).toNat) 0) []) (hs2 : Same w1 w2) (ho2 : ∀ k, G k → w1.heap.size ≤ k) {k : Nat} (hk : (min (max N 0) 4096).toNat = k) {s0 : List UInt8} (hs0 : Hid (List.replicate (32 * k) 0 = s0)) :
    Two w w2 F G d m k s0 [] s0 [] := by
  rw [← hs0.out]
  subst hk
  have hlt := hd.lt
  exact ⟨hd.keep hs2 (fun _ _ h => h), hr, ho1, fun k hk => Nat.le_trans hs1.size (ho2 k hk), fun k h1 h2 => by have := hlt k h1; have := ho2 k h2; omega, hs1.trans hs2⟩
end

theorem dread_s (d n k : Nat) (F : Nat → Prop) (s : List UInt8) (ts : List Wt) (w : World) (h : Dv w F d n s ts) (hk : k < n) (res : List UInt8) (hq : Hid (now k (blk s k) ts = res)) :
    Calls Try.prog 14 #[.pointer (some ⟨d, 0, none⟩), .int .i64 (k : Int)] w fun e w' => ∃ g, e = .returned (.tuple #[.slice (some ⟨g, 0, none⟩) 32 32, .int .i64 0]) ∧ Got w w' (.slice (some ⟨g, 0, none⟩) 32 32) res :=
  (dread_ok d n k F s ts w h hk).mono fun e w' ⟨v, h1, h2⟩ => by
    rw [hq.out] at h2
    obtain ⟨g, rfl, -⟩ := id h2
    exact ⟨g, h1, h2⟩
theorem rread_s (d n k : Nat) (F : Nat → Prop) (s : List UInt8) (ts : List Wt) (w : World) (h : Rv w F d n s ts) (hk : k < n) (res : List UInt8) (hq : Hid (blk (allB s ts) k = res)) :
    Calls Try.prog 19 #[.pointer (some ⟨d, 0, none⟩), .int .i64 (k : Int)] w fun e w' => ∃ A c, e = .returned (.tuple #[.slice A 32 c, .int .i64 0]) ∧ Bs w' (fun b => w.heap.size ≤ b) (.slice A 32 c) res ∧ Same w w' :=
  (rread_ok d n k F s ts w h hk).mono fun e w' ⟨A, c, h1, h2, h3⟩ => by
    rw [hq.out] at h2
    exact ⟨A, c, h1, h2, h3⟩
theorem Got.sm {w w' : World} {v : Value} {l : List UInt8} (h : Got w w' v l) : Same w w' := by obtain ⟨_, _, _, _, _, h⟩ := h; exact h
theorem Got.len {w w' : World} {v : Value} {l : List UInt8} (h : Got w w' v l) : l.length = 32 := by obtain ⟨_, _, _, _, h, _⟩ := h; exact h
theorem noughts_now (n k : Nat) (_hk : k < n) : now k (blk (List.replicate (32 * n) 0) k) [] = blk (allB (List.replicate (32 * n) 0) []) k := rfl
end Go.Proofs.Ytnfmjbmcboiacaa
