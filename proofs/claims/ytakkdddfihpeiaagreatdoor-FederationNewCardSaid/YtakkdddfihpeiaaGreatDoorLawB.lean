/- The law comes to true, for the interpreter, whatever the input. -/
import Derived.Test.YtakkdddfihpeiaaGreatDoorLawA
import Derived.Test.YtakkdddfihpeiaaGreatDoorLawAb
set_option linter.all false

section

end

section
namespace Go.AL
open Go Go.Proofs
set_option maxRecDepth 100000

theorem exec_seq (p : AP) (n : Nat) (fn : FuncId) (ro : Option Nat) (rec : Bool) (a b : Code) (F : Fr) (A : AW) : exec p (n + 1) fn ro rec (.seq a b) F A = seqK (exec p n fn ro rec a F A) (exec p n fn ro rec b) := by
  conv => lhs; unfold exec
theorem acall_eq {p : AP} {n f : Nat} {a : Value} {l : List Value} {A : AW} {fn : Func} {c : Code} (hf : p.funcs.get f = some fn) (hb : fn.body = some c) (hk : Nat.ble (maxN (llen (a :: l) (nat_lit 0)) fn.ntmps) lim = true) :
    acall p (n + 1) false f (a :: l) A = callK p fn (exec p n f none false c ⟨initT (a :: l) (nat_lit 0) .leaf, maxN (llen (a :: l) (nat_lit 0)) fn.ntmps, []⟩ A) (defs p n) := by
  have ho : orcK p false f (a :: l) A = none := rfl
  conv => lhs; unfold acall
  simp only [ho, hf, hb, hk]
theorem lawB_eq : lawB = .seq (cA lawB) (.seq (cA (cB lawB)) (cB (cB lawB))) := by kernel_rfl
noncomputable def tp0 (n : Int) (q : Value) : Tr Value := (initT [.int .i64 n, .bool false, q] (nat_lit 0) .leaf).set dep 6 (.bool false)
theorem x0 (n : Int) (q : Value) : exec PP1 99998 3 none false (cA lawB) ⟨initT [.int .i64 n, .bool false, q] (nat_lit 0) .leaf, 47, []⟩ (AG GL) = some (.norm, ⟨tp0 n q, 47, []⟩, AG GL) := by kernel_rfl
theorem x1 (n : Int) (q : Value) : exec PP1 99997 3 none false (cA (cB lawB)) ⟨tp0 n q, 47, []⟩ (AG GL) = some (.norm, ⟨tq n (wx n) q, 47, []⟩, AG GL) := by kernel_rfl
theorem f3_get : PP1.funcs.get 3 = some Tryz.f3 := by kernel_rfl
theorem f3_body : Tryz.f3.body = some lawB := by kernel_rfl
theorem seq2 (n : Nat) (F F1 F2 : Fr) (A : AW) (a b c d : Code) (hc : c = .seq a (.seq b d)) (h0 : exec PP1 (n + 1) 3 none false a F A = some (.norm, F1, A)) (h1 : exec PP1 n 3 none false b F1 A = some (.norm, F2, A)) :
    exec PP1 (n + 2) 3 none false c F A = exec PP1 n 3 none false d F2 A := by
  rw [hc, exec_seq, h0]
  show exec PP1 (n + 1) 3 none false (.seq b d) F1 A = _
  rw [exec_seq, h1]
  rfl
theorem nt47 (n : Int) (q : Value) : maxN (llen [.int .i64 n, .bool false, q] (nat_lit 0)) Tryz.f3.ntmps = 47 := by kernel_rfl
theorem nt47b (n : Int) (q : Value) : Nat.ble (maxN (llen [.int .i64 n, .bool false, q] (nat_lit 0)) Tryz.f3.ntmps) lim = true := by kernel_rfl
theorem law_at (k : Nat) (n : Int) (q : Value) {F1 F2 : Fr} (h0 : exec PP1 (k + 1) 3 none false (cA lawB) ⟨initT [.int .i64 n, .bool false, q] (nat_lit 0) .leaf, 47, []⟩ (AG GL) = some (.norm, F1, AG GL))
    (h1 : exec PP1 k 3 none false (cA (cB lawB)) F1 (AG GL) = some (.norm, F2, AG GL)) :
    acall PP1 (k + 3) false 3 [.int .i64 n, .bool false, q] (AG GL) = callK PP1 Tryz.f3 (exec PP1 k 3 none false (cB (cB lawB)) F2 (AG GL)) (defs PP1 (k + 2)) := by
  rw [acall_eq (n := k + 2) f3_get f3_body (nt47b n q), nt47, seq2 k _ F1 F2 _ _ _ _ _ lawB_eq h0 h1]
theorem law_false (n : Int) (q : Value) : acall PP1 100000 false 3 [.int .i64 n, .bool false, q] (AG GL) = lawT n (wx n) q :=
  law_at 99997 n q (x0 n q) (x1 n q)
theorem wrap_small (x : Int) (h0 : -9223372036854775808 ≤ x) (h1 : x ≤ 9223372036854775807) : wrapF .i64 x = x := by
  rw [wrapF_eq]
  have e1 : ((2 : Int) ^ (64 : Nat)) = 18446744073709551616 := by decide
  have e2 : ((2 : Int) ^ (64 - 1 : Nat)) = 9223372036854775808 := by decide
  simp only [IntKind.wrap, IntKind.bits, IntKind.signed, Bool.true_and, e1, e2]
  by_cases h : x % 18446744073709551616 ≥ 9223372036854775808
  · rw [if_pos (by simpa using h)]; omega
  · rw [if_neg (by simpa using h)]; omega
theorem wx_range (n : Int) : -1 ≤ wx n ∧ wx n ≤ 5 := by
  have h0 : -6 ≤ Int.tmod n 7 ∧ Int.tmod n 7 ≤ 6 := by
    have h1 := Int.tmod_lt_of_pos n (show (0 : Int) < 7 by decide)
    have h2 := Int.tmod_lt_of_pos (-n) (show (0 : Int) < 7 by decide)
    rw [Int.neg_tmod] at h2
    omega
  have e1 : wrapF .i64 (Int.add (Int.tmod n 7) 7) = Int.tmod n 7 + 7 := wrap_small _ (show -9223372036854775808 ≤ Int.tmod n 7 + 7 by omega) (show Int.tmod n 7 + 7 ≤ 9223372036854775807 by omega)
  have h3 : 0 ≤ ww n ∧ ww n ≤ 6 := by
    unfold ww
    rw [e1]
    have h4 := Int.tmod_lt_of_pos (Int.tmod n 7 + 7) (show (0 : Int) < 7 by decide)
    have h5 := Int.tmod_nonneg 7 (show (0 : Int) ≤ Int.tmod n 7 + 7 by omega)
    omega
  have e2 : wx n = ww n - 1 := wrap_small _ (show -9223372036854775808 ≤ ww n - 1 by omega) (show ww n - 1 ≤ 9223372036854775807 by omega)
  omega
/-- What the interpreter takes for a slice that came in. -/
def isQ (q : Value) : Prop := q = .slice none 0 0 ∨ ∃ k, q = sl k
theorem r_m (m : Nat) {q : Value} (hq : isQ q) : isB true (lawR (.negSucc m) q) = true := by
  rcases hq with rfl | ⟨k, rfl⟩
  · exact r_m_n m
  · match k with
    | 0 => exact r_m_0 m
    | 1 => exact r_m_1 m
    | 2 => exact r_m_2 m
    | 3 => exact r_m_3 m
    | k + 4 => exact r_m_4 m k
theorem r_0 {q : Value} (hq : isQ q) : isB true (lawR (.ofNat 0) q) = true := by
  rcases hq with rfl | ⟨k, rfl⟩
  · exact r_0_n
  · match k with
    | 0 => exact r_0_0
    | 1 => exact r_0_1
    | 2 => exact r_0_2
    | 3 => exact r_0_3
    | k + 4 => exact r_0_4 k
theorem r_1 {q : Value} (hq : isQ q) : isB true (lawR (.ofNat 1) q) = true := by
  rcases hq with rfl | ⟨k, rfl⟩
  · exact r_1_n
  · match k with
    | 0 => exact r_1_0
    | 1 => exact r_1_1
    | 2 => exact r_1_2
    | 3 => exact r_1_3
    | k + 4 => exact r_1_4 k
theorem r_2 {q : Value} (hq : isQ q) : isB true (lawR (.ofNat 2) q) = true := by
  rcases hq with rfl | ⟨k, rfl⟩
  · exact r_2_n
  · match k with
    | 0 => exact r_2_0
    | 1 => exact r_2_1
    | 2 => exact r_2_2
    | 3 => exact r_2_3
    | k + 4 => exact r_2_4 k
theorem r_3 {q : Value} (hq : isQ q) : isB true (lawR (.ofNat 3) q) = true := by
  rcases hq with rfl | ⟨k, rfl⟩
  · exact r_3_n
  · match k with
    | 0 => exact r_3_0
    | 1 => exact r_3_1
    | 2 => exact r_3_2
    | 3 => exact r_3_3
    | k + 4 => exact r_3_4 k
theorem r_4 {q : Value} (hq : isQ q) : isB true (lawR (.ofNat 4) q) = true := by
  rcases hq with rfl | ⟨k, rfl⟩
  · exact r_4_n
  · match k with
    | 0 => exact r_4_0
    | 1 => exact r_4_1
    | 2 => exact r_4_2
    | 3 => exact r_4_3
    | k + 4 => exact r_4_4 k
theorem r_g (m : Nat) {q : Value} (hq : isQ q) : isB true (lawR (.ofNat (m + 5)) q) = true := by
  rcases hq with rfl | ⟨k, rfl⟩
  · exact r_g_n m
  · match k with
    | 0 => exact r_g_0 m
    | 1 => exact r_g_1 m
    | 2 => exact r_g_2 m
    | 3 => exact r_g_3 m
    | k + 4 => exact r_g_4 m k
theorem t_m (n : Int) {q : Value} (hq : isQ q) : isB true (lawT n (.negSucc 0) q) = true := by
  rcases hq with rfl | ⟨k, rfl⟩
  · exact t_m_n n
  · match k with
    | 0 => exact t_m_0 n
    | 1 => exact t_m_1 n
    | 2 => exact t_m_2 n
    | 3 => exact t_m_3 n
    | k + 4 => exact t_m_4 n k
theorem t_0 (n : Int) {q : Value} (hq : isQ q) : isB true (lawT n (.ofNat 0) q) = true := by
  rcases hq with rfl | ⟨k, rfl⟩
  · exact t_0_n n
  · match k with
    | 0 => exact t_0_0 n
    | 1 => exact t_0_1 n
    | 2 => exact t_0_2 n
    | 3 => exact t_0_3 n
    | k + 4 => exact t_0_4 n k
theorem t_1 (n : Int) {q : Value} (hq : isQ q) : isB true (lawT n (.ofNat 1) q) = true := by
  rcases hq with rfl | ⟨k, rfl⟩
  · exact t_1_n n
  · match k with
    | 0 => exact t_1_0 n
    | 1 => exact t_1_1 n
    | 2 => exact t_1_2 n
    | 3 => exact t_1_3 n
    | k + 4 => exact t_1_4 n k
theorem t_2 (n : Int) {q : Value} (hq : isQ q) : isB true (lawT n (.ofNat 2) q) = true := by
  rcases hq with rfl | ⟨k, rfl⟩
  · exact t_2_n n
  · match k with
    | 0 => exact t_2_0 n
    | 1 => exact t_2_1 n
    | 2 => exact t_2_2 n
    | 3 => exact t_2_3 n
    | k + 4 => exact t_2_4 n k
theorem t_3 (n : Int) {q : Value} (hq : isQ q) : isB true (lawT n (.ofNat 3) q) = true := by
  rcases hq with rfl | ⟨k, rfl⟩
  · exact t_3_n n
  · match k with
    | 0 => exact t_3_0 n
    | 1 => exact t_3_1 n
    | 2 => exact t_3_2 n
    | 3 => exact t_3_3 n
    | k + 4 => exact t_3_4 n k
theorem t_4 (n : Int) {q : Value} (hq : isQ q) : isB true (lawT n (.ofNat 4) q) = true := by
  rcases hq with rfl | ⟨k, rfl⟩
  · exact t_4_n n
  · match k with
    | 0 => exact t_4_0 n
    | 1 => exact t_4_1 n
    | 2 => exact t_4_2 n
    | 3 => exact t_4_3 n
    | k + 4 => exact t_4_4 n k
theorem t_5 (n : Int) {q : Value} (hq : isQ q) : isB true (lawT n (.ofNat 5) q) = true := by
  rcases hq with rfl | ⟨k, rfl⟩
  · exact t_5_n n
  · match k with
    | 0 => exact t_5_0 n
    | 1 => exact t_5_1 n
    | 2 => exact t_5_2 n
    | 3 => exact t_5_3 n
    | k + 4 => exact t_5_4 n k
theorem law_raw (n : Int) {q : Value} (hq : isQ q) : isB true (lawR n q) = true := by
  match n with
  | .negSucc m => exact r_m m hq
  | .ofNat 0 => exact r_0 hq
  | .ofNat 1 => exact r_1 hq
  | .ofNat 2 => exact r_2 hq
  | .ofNat 3 => exact r_3 hq
  | .ofNat 4 => exact r_4 hq
  | .ofNat (m + 5) => exact r_g m hq
theorem law_cut (n : Int) {q : Value} (hq : isQ q) : isB true (lawT n (wx n) q) = true := by
  have h := wx_range n
  generalize wx n = r at h
  have h7 : r = .negSucc 0 ∨ r = .ofNat 0 ∨ r = .ofNat 1 ∨ r = .ofNat 2 ∨ r = .ofNat 3 ∨ r = .ofNat 4 ∨ r = .ofNat 5 := by
    have : (Int.negSucc 0) = -1 := rfl
    have e (k : Nat) : Int.ofNat k = (k : Int) := rfl
    rw [this, e, e, e, e, e, e]
    omega
  rcases h7 with rfl | rfl | rfl | rfl | rfl | rfl | rfl
  · exact t_m n hq
  · exact t_0 n hq
  · exact t_1 n hq
  · exact t_2 n hq
  · exact t_3 n hq
  · exact t_4 n hq
  · exact t_5 n hq
/-- THE LAW, for the interpreter. -/
theorem law_true (n : Int) (raw : Bool) {q : Value} (hq : isQ q) : ∃ A, acall PP1 100000 false 3 [.int .i64 n, .bool raw, q] (AG GL) = some (.bool true, A) := by
  cases raw with
  | true => exact isB_some (law_raw n hq)
  | false => rw [law_false]; exact isB_some (law_cut n hq)
end Go.AL
end
