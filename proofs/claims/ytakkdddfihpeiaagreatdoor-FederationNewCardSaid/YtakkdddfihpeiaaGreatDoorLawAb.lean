/- The law's closed cases: numbers that were made. -/
import Derived.Test.YtakkdddfihpeiaaGreatDoorLawA
set_option linter.all false

section
namespace Go.AL
open Go Go.Proofs
set_option maxRecDepth 100000
theorem t_m_n (n : Int) : isB true (lawT n (.negSucc 0) (.slice none 0 0)) = true := by kernel_rfl
theorem t_m_0 (n : Int) : isB true (lawT n (.negSucc 0) (sl 0)) = true := by kernel_rfl
theorem t_m_1 (n : Int) : isB true (lawT n (.negSucc 0) (sl 1)) = true := by kernel_rfl
theorem t_m_2 (n : Int) : isB true (lawT n (.negSucc 0) (sl 2)) = true := by kernel_rfl
theorem t_m_3 (n : Int) : isB true (lawT n (.negSucc 0) (sl 3)) = true := by kernel_rfl
theorem t_m_4 (n : Int) (k : Nat) : isB true (lawT n (.negSucc 0) (sl (k + 4))) = true := by kernel_rfl
theorem t_0_n (n : Int) : isB true (lawT n (.ofNat 0) (.slice none 0 0)) = true := by kernel_rfl
theorem t_0_0 (n : Int) : isB true (lawT n (.ofNat 0) (sl 0)) = true := by kernel_rfl
theorem t_0_1 (n : Int) : isB true (lawT n (.ofNat 0) (sl 1)) = true := by kernel_rfl
theorem t_0_2 (n : Int) : isB true (lawT n (.ofNat 0) (sl 2)) = true := by kernel_rfl
theorem t_0_3 (n : Int) : isB true (lawT n (.ofNat 0) (sl 3)) = true := by kernel_rfl
theorem t_0_4 (n : Int) (k : Nat) : isB true (lawT n (.ofNat 0) (sl (k + 4))) = true := by kernel_rfl
theorem t_1_n (n : Int) : isB true (lawT n (.ofNat 1) (.slice none 0 0)) = true := by kernel_rfl
theorem t_1_0 (n : Int) : isB true (lawT n (.ofNat 1) (sl 0)) = true := by kernel_rfl
theorem t_1_1 (n : Int) : isB true (lawT n (.ofNat 1) (sl 1)) = true := by kernel_rfl
theorem t_1_2 (n : Int) : isB true (lawT n (.ofNat 1) (sl 2)) = true := by kernel_rfl
theorem t_1_3 (n : Int) : isB true (lawT n (.ofNat 1) (sl 3)) = true := by kernel_rfl
theorem t_1_4 (n : Int) (k : Nat) : isB true (lawT n (.ofNat 1) (sl (k + 4))) = true := by kernel_rfl
theorem t_2_n (n : Int) : isB true (lawT n (.ofNat 2) (.slice none 0 0)) = true := by kernel_rfl
theorem t_2_0 (n : Int) : isB true (lawT n (.ofNat 2) (sl 0)) = true := by kernel_rfl
theorem t_2_1 (n : Int) : isB true (lawT n (.ofNat 2) (sl 1)) = true := by kernel_rfl
theorem t_2_2 (n : Int) : isB true (lawT n (.ofNat 2) (sl 2)) = true := by kernel_rfl
theorem t_2_3 (n : Int) : isB true (lawT n (.ofNat 2) (sl 3)) = true := by kernel_rfl
theorem t_2_4 (n : Int) (k : Nat) : isB true (lawT n (.ofNat 2) (sl (k + 4))) = true := by kernel_rfl
theorem t_3_n (n : Int) : isB true (lawT n (.ofNat 3) (.slice none 0 0)) = true := by kernel_rfl
theorem t_3_0 (n : Int) : isB true (lawT n (.ofNat 3) (sl 0)) = true := by kernel_rfl
theorem t_3_1 (n : Int) : isB true (lawT n (.ofNat 3) (sl 1)) = true := by kernel_rfl
theorem t_3_2 (n : Int) : isB true (lawT n (.ofNat 3) (sl 2)) = true := by kernel_rfl
theorem t_3_3 (n : Int) : isB true (lawT n (.ofNat 3) (sl 3)) = true := by kernel_rfl
theorem t_3_4 (n : Int) (k : Nat) : isB true (lawT n (.ofNat 3) (sl (k + 4))) = true := by kernel_rfl
theorem t_4_n (n : Int) : isB true (lawT n (.ofNat 4) (.slice none 0 0)) = true := by kernel_rfl
theorem t_4_0 (n : Int) : isB true (lawT n (.ofNat 4) (sl 0)) = true := by kernel_rfl
theorem t_4_1 (n : Int) : isB true (lawT n (.ofNat 4) (sl 1)) = true := by kernel_rfl
theorem t_4_2 (n : Int) : isB true (lawT n (.ofNat 4) (sl 2)) = true := by kernel_rfl
theorem t_4_3 (n : Int) : isB true (lawT n (.ofNat 4) (sl 3)) = true := by kernel_rfl
theorem t_4_4 (n : Int) (k : Nat) : isB true (lawT n (.ofNat 4) (sl (k + 4))) = true := by kernel_rfl
theorem t_5_n (n : Int) : isB true (lawT n (.ofNat 5) (.slice none 0 0)) = true := by kernel_rfl
theorem t_5_0 (n : Int) : isB true (lawT n (.ofNat 5) (sl 0)) = true := by kernel_rfl
theorem t_5_1 (n : Int) : isB true (lawT n (.ofNat 5) (sl 1)) = true := by kernel_rfl
theorem t_5_2 (n : Int) : isB true (lawT n (.ofNat 5) (sl 2)) = true := by kernel_rfl
theorem t_5_3 (n : Int) : isB true (lawT n (.ofNat 5) (sl 3)) = true := by kernel_rfl
theorem t_5_4 (n : Int) (k : Nat) : isB true (lawT n (.ofNat 5) (sl (k + 4))) = true := by kernel_rfl
end Go.AL
end
