/- The law's closed cases: raw numbers. -/
import Derived.Test.YtakkdddfihpeiaaGreatDoorRunB
set_option linter.all false

section
namespace Go.AL
open Go Go.Proofs
set_option maxRecDepth 100000
noncomputable def cA : Code → Code | .seq a _ => a | c => c
noncomputable def cB : Code → Code | .seq _ b => b | c => c
noncomputable def lawB : Code := match Tryz.f3.body with | some c => c | none => .skip
/-- What Within gives. -/
def ww (n : Int) : Int := Int.tmod (wrapF .i64 (Int.add (Int.tmod n 7) 7)) 7
/-- What Within gives, less one. -/
def wx (n : Int) : Int := wrapF .i64 (Int.sub (ww n) 1)
def sl (n : Nat) : Value := .slice (some ⟨0, 0, some 2⟩) n 0
noncomputable def tp (n : Int) (q : Value) : Tr Value :=
  (((initT [.int .i64 n, .bool false, q] (nat_lit 0) .leaf).set dep 6 (.bool false)).set dep 12 (.bool false)).set dep 13 (.bool true)
/-- The temporaries behind 'if !raw ..', raw being false. -/
noncomputable def tq (n r : Int) (q : Value) : Tr Value :=
  ((((tp n q).set dep 14 (.int .i64 n)).set dep 15 (.int .i64 (ww n))).set dep 16 (.int .i64 r)).set dep 0 (.int .i64 r)
/-- The rest of the law. -/
noncomputable def lawT (n r : Int) (q : Value) : Option (Value × AW) :=
  callK PP1 Tryz.f3 (exec PP1 99997 3 none false (cB (cB lawB)) ⟨tq n r q, 47, []⟩ (AG GL)) (defs PP1 99999)
noncomputable def lawR (n : Int) (q : Value) : Option (Value × AW) := acall PP1 100000 false 3 [.int .i64 n, .bool true, q] (AG GL)
end Go.AL
end

section
namespace Go.AL
open Go Go.Proofs
set_option maxRecDepth 100000
theorem r_m_n (m : Nat) : isB true (lawR (.negSucc m) (.slice none 0 0)) = true := by kernel_rfl
theorem r_m_0 (m : Nat) : isB true (lawR (.negSucc m) (sl 0)) = true := by kernel_rfl
theorem r_m_1 (m : Nat) : isB true (lawR (.negSucc m) (sl 1)) = true := by kernel_rfl
theorem r_m_2 (m : Nat) : isB true (lawR (.negSucc m) (sl 2)) = true := by kernel_rfl
theorem r_m_3 (m : Nat) : isB true (lawR (.negSucc m) (sl 3)) = true := by kernel_rfl
theorem r_m_4 (m : Nat) (k : Nat) : isB true (lawR (.negSucc m) (sl (k + 4))) = true := by kernel_rfl
theorem r_0_n : isB true (lawR (.ofNat 0) (.slice none 0 0)) = true := by kernel_rfl
theorem r_0_0 : isB true (lawR (.ofNat 0) (sl 0)) = true := by kernel_rfl
theorem r_0_1 : isB true (lawR (.ofNat 0) (sl 1)) = true := by kernel_rfl
theorem r_0_2 : isB true (lawR (.ofNat 0) (sl 2)) = true := by kernel_rfl
theorem r_0_3 : isB true (lawR (.ofNat 0) (sl 3)) = true := by kernel_rfl
theorem r_0_4 (k : Nat) : isB true (lawR (.ofNat 0) (sl (k + 4))) = true := by kernel_rfl
theorem r_1_n : isB true (lawR (.ofNat 1) (.slice none 0 0)) = true := by kernel_rfl
theorem r_1_0 : isB true (lawR (.ofNat 1) (sl 0)) = true := by kernel_rfl
theorem r_1_1 : isB true (lawR (.ofNat 1) (sl 1)) = true := by kernel_rfl
theorem r_1_2 : isB true (lawR (.ofNat 1) (sl 2)) = true := by kernel_rfl
theorem r_1_3 : isB true (lawR (.ofNat 1) (sl 3)) = true := by kernel_rfl
theorem r_1_4 (k : Nat) : isB true (lawR (.ofNat 1) (sl (k + 4))) = true := by kernel_rfl
theorem r_2_n : isB true (lawR (.ofNat 2) (.slice none 0 0)) = true := by kernel_rfl
theorem r_2_0 : isB true (lawR (.ofNat 2) (sl 0)) = true := by kernel_rfl
theorem r_2_1 : isB true (lawR (.ofNat 2) (sl 1)) = true := by kernel_rfl
theorem r_2_2 : isB true (lawR (.ofNat 2) (sl 2)) = true := by kernel_rfl
theorem r_2_3 : isB true (lawR (.ofNat 2) (sl 3)) = true := by kernel_rfl
theorem r_2_4 (k : Nat) : isB true (lawR (.ofNat 2) (sl (k + 4))) = true := by kernel_rfl
theorem r_3_n : isB true (lawR (.ofNat 3) (.slice none 0 0)) = true := by kernel_rfl
theorem r_3_0 : isB true (lawR (.ofNat 3) (sl 0)) = true := by kernel_rfl
theorem r_3_1 : isB true (lawR (.ofNat 3) (sl 1)) = true := by kernel_rfl
theorem r_3_2 : isB true (lawR (.ofNat 3) (sl 2)) = true := by kernel_rfl
theorem r_3_3 : isB true (lawR (.ofNat 3) (sl 3)) = true := by kernel_rfl
theorem r_3_4 (k : Nat) : isB true (lawR (.ofNat 3) (sl (k + 4))) = true := by kernel_rfl
theorem r_4_n : isB true (lawR (.ofNat 4) (.slice none 0 0)) = true := by kernel_rfl
theorem r_4_0 : isB true (lawR (.ofNat 4) (sl 0)) = true := by kernel_rfl
theorem r_4_1 : isB true (lawR (.ofNat 4) (sl 1)) = true := by kernel_rfl
theorem r_4_2 : isB true (lawR (.ofNat 4) (sl 2)) = true := by kernel_rfl
theorem r_4_3 : isB true (lawR (.ofNat 4) (sl 3)) = true := by kernel_rfl
theorem r_4_4 (k : Nat) : isB true (lawR (.ofNat 4) (sl (k + 4))) = true := by kernel_rfl
theorem r_g_n (m : Nat) : isB true (lawR (.ofNat (m + 5)) (.slice none 0 0)) = true := by kernel_rfl
theorem r_g_0 (m : Nat) : isB true (lawR (.ofNat (m + 5)) (sl 0)) = true := by kernel_rfl
theorem r_g_1 (m : Nat) : isB true (lawR (.ofNat (m + 5)) (sl 1)) = true := by kernel_rfl
theorem r_g_2 (m : Nat) : isB true (lawR (.ofNat (m + 5)) (sl 2)) = true := by kernel_rfl
theorem r_g_3 (m : Nat) : isB true (lawR (.ofNat (m + 5)) (sl 3)) = true := by kernel_rfl
theorem r_g_4 (m : Nat) (k : Nat) : isB true (lawR (.ofNat (m + 5)) (sl (k + 4))) = true := by kernel_rfl
end Go.AL
end
