/- The walk of carrierlaw09.EventDue: whose an event is. -/
import Derived.Test.YtpommgohciigoaaEvN
namespace Go.Proofs.Ytpommgohciigoaa
open Go Go.RowKit Go.Proofs

theorem due_none (b : ByteArray) : dueB ⟨#[]⟩ b = true := by unfold dueB; simp [ByteArray.toList_eq]
theorem due_self (a : ByteArray) : dueB a a = true := by unfold dueB; simp

set_option maxHeartbeats 1600000 in
theorem eventDue_walk (a b : ByteArray) (w : World) :
    Calls Try.prog 8 #[.string a, .string b] w fun e w' => e = .returned (.bool true) ∧ Same w w' := by
  by_cases ha : a.size ≤ 60
  · have ha' : (a.size : Int) ≤ 60 := by omega
    by_cases hb : b.size ≤ 60
    · have hb' : (b.size : Int) ≤ 60 := by omega
      go_enter Try.func8, Try.ntmps8
      go_wp2_with fail
      refine (nine_any _).mono ?_
      rintro _ w0 ⟨rfl, hs0⟩
      go_wp2_with fail
      refine (edue_any 0 0 a 0 0 0 0 ⟨#[]⟩ b _).mono ?_
      rintro _ w1 ⟨rfl, hs1⟩
      go_wp2_with fail
      refine (pdue_any 0 0 a 0 0 0 0 ⟨#[]⟩ b _).mono ?_
      rintro _ w2 ⟨rfl, hs2⟩
      go_wp2_with fail
      refine (edue_any 0 0 ⟨#[]⟩ 0 0 0 0 ⟨#[]⟩ b _).mono ?_
      rintro _ w3 ⟨rfl, hs3⟩
      rw [due_none]
      go_wp2_with fail
      refine (edue_any 0 0 a 0 0 0 0 ⟨#[]⟩ a _).mono ?_
      rintro _ w4 ⟨rfl, hs4⟩
      rw [due_self]
      go_wp2_with fail
      go_ret
      exact ⟨rfl, (((hs0.trans hs1).trans hs2).trans hs3).trans hs4⟩
    · have hb' : (60 : Int) < (b.size : Int) := by omega
      go_enter Try.func8, Try.ntmps8
      go_wp2_with fail
      refine (nine_any _).mono ?_
      rintro _ w0 ⟨rfl, hs0⟩
      go_wp2_with fail
      go_ret
      exact ⟨rfl, hs0⟩
  · have ha' : (60 : Int) < (a.size : Int) := by omega
    go_enter Try.func8, Try.ntmps8
    go_wp2_with fail
    refine (nine_any _).mono ?_
    rintro _ w0 ⟨rfl, hs0⟩
    go_wp2_with fail
    go_ret
    exact ⟨rfl, hs0⟩
end Go.Proofs.Ytpommgohciigoaa
