/- The document's table, whole. -/
import Derived.Test.YthfalocligkamaaGreatDoorMRef17
import Derived.Test.YthfalocligkamaaGreatDoorMRef08f0
import Derived.Test.YthfalocligkamaaGreatDoorMRef08f1
import Derived.Test.YthfalocligkamaaGreatDoorMRef08f2
import Derived.Test.YthfalocligkamaaGreatDoorMRef08f3
import Derived.Test.YthfalocligkamaaGreatDoorMRef08f4
import Derived.Test.YthfalocligkamaaGreatDoorMRef08h
namespace Go.Proofs.YthfalocligkamaaGreatDoor
open Go Go.RowKit
theorem z89 : zgg := by
 intro w n hn
 by_cases h1 : n < 5
 · exact zrt w n h1
 by_cases h2 : n < 10
 · obtain ⟨k, rfl⟩ : ∃ k, n = k + 5 := ⟨n - 5, by omega⟩
   rw [show ((k + 5 : Nat) : Int) = (k : Int) + 5 by omega]
   exact zoo w k (by omega)
 by_cases h : n < 50
 · obtain ⟨k, hk, hc⟩ : ∃ k, k < 8 ∧ (n = 5 * k + 10 ∨ n = 5 * k + 11 ∨ n = 5 * k + 12 ∨ n = 5 * k + 13 ∨ n = 5 * k + 14) := ⟨(n - 10) / 5, by omega, by omega⟩
   rcases hc with rfl | rfl | rfl | rfl | rfl
   · rw [show ((5 * k + 10 : Nat) : Int) = 5 * (k : Int) + 10 by omega]
     exact zrj w k hk
   · rw [show ((5 * k + 11 : Nat) : Int) = 5 * (k : Int) + 11 by omega]
     exact zrk w k hk
   · rw [show ((5 * k + 12 : Nat) : Int) = 5 * (k : Int) + 12 by omega]
     exact zrl w k hk
   · rw [show ((5 * k + 13 : Nat) : Int) = 5 * (k : Int) + 13 by omega]
     exact zrm w k hk
   · rw [show ((5 * k + 14 : Nat) : Int) = 5 * (k : Int) + 14 by omega]
     exact zrn w k hk
 by_cases h : n < 80
 · obtain ⟨k, hk, hc⟩ : ∃ k, k < 6 ∧ (n = 5 * k + 50 ∨ n = 5 * k + 51 ∨ n = 5 * k + 52 ∨ n = 5 * k + 53 ∨ n = 5 * k + 54) := ⟨(n - 50) / 5, by omega, by omega⟩
   rcases hc with rfl | rfl | rfl | rfl | rfl
   · rw [show ((5 * k + 50 : Nat) : Int) = 5 * (k : Int) + 50 by omega]
     exact zru w k hk
   · rw [show ((5 * k + 51 : Nat) : Int) = 5 * (k : Int) + 51 by omega]
     exact zrv w k hk
   · rw [show ((5 * k + 52 : Nat) : Int) = 5 * (k : Int) + 52 by omega]
     exact zrw w k hk
   · rw [show ((5 * k + 53 : Nat) : Int) = 5 * (k : Int) + 53 by omega]
     exact zrx w k hk
   · rw [show ((5 * k + 54 : Nat) : Int) = 5 * (k : Int) + 54 by omega]
     exact zry w k hk
 by_cases h : n < 100
 · obtain ⟨k, hk, hc⟩ : ∃ k, k < 4 ∧ (n = 5 * k + 80 ∨ n = 5 * k + 81 ∨ n = 5 * k + 82 ∨ n = 5 * k + 83 ∨ n = 5 * k + 84) := ⟨(n - 80) / 5, by omega, by omega⟩
   rcases hc with rfl | rfl | rfl | rfl | rfl
   · rw [show ((5 * k + 80 : Nat) : Int) = 5 * (k : Int) + 80 by omega]
     exact zro w k hk
   · rw [show ((5 * k + 81 : Nat) : Int) = 5 * (k : Int) + 81 by omega]
     exact zrp w k hk
   · rw [show ((5 * k + 82 : Nat) : Int) = 5 * (k : Int) + 82 by omega]
     exact zrq w k hk
   · rw [show ((5 * k + 83 : Nat) : Int) = 5 * (k : Int) + 83 by omega]
     exact zrr w k hk
   · rw [show ((5 * k + 84 : Nat) : Int) = 5 * (k : Int) + 84 by omega]
     exact zrs w k hk
 by_cases h : n < 112
 · obtain ⟨k, rfl⟩ : ∃ k, n = k + 100 := ⟨n - 100, by omega⟩
   rw [show ((k + 100 : Nat) : Int) = (k : Int) + 100 by omega]
   exact zop w k (by omega)
 · obtain ⟨k, rfl⟩ : ∃ k, n = k + 112 := ⟨n - 112, by omega⟩
   rw [show ((k + 112 : Nat) : Int) = (k : Int) + 112 by omega]
   exact zvk w k (by omega)
end Go.Proofs.YthfalocligkamaaGreatDoor
