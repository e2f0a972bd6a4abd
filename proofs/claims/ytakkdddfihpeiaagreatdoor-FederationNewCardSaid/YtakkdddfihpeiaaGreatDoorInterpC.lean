/- What the interpreter's operations come to: the rest. -/
import Derived.Deep.AppendSrc
import Derived.Laws.IdiomCopy
import Derived.Laws.BitsLemmas
import Derived.Test.YtakkdddfihpeiaaGreatDoorInterpB
import Derived.Laws.AppendOwn
set_option linter.all false

section
namespace Go.AL
open Go
variable {P : Program} (w : World)

/-- append(s, make([]T, n)...): there is room. -/
theorem run_append_room_zeros (t tx ty e : TypeId) (i : TypeInfo) (z : Value) (k k' : IntKind) (ht : P.underlying t = some (.slice e)) (hk : P.underlying tx = some (.int k)) (hi : P.info? e = some i) (hz : i.zero = some z) (hs1 : 1 ≤ i.size) (hb : i.bytes ≤ 65536)
    (b off sLen sCap n : Nat) (hn : n ≤ 1000000) (news : List Value) (hnews : Builtin.zeroCells z.cells n = news.toArray) (h1 : ∀ u ∈ news, u.oneCell' = true) (hl : news.length = n * i.size)
    (hroom : sLen + n ≤ sCap) (hc : ∀ j, j < news.length → (w.cell? ⟨b, off + sLen * i.size + j, none⟩).isSome = true) (hf : ∀ j, j < news.length → w.frozen? ⟨b, off + sLen * i.size + j, none⟩ = false) :
    (Builtin.append_ #[t, tx] ty #[.slice (some ⟨b, off, none⟩) sLen sCap, .int k' (Int.ofNat n)]).run P w = .ok (.slice (some ⟨b, off, none⟩) (sLen + n) sCap) (w.setCells b (off + sLen * i.size) news) := by
  have hst := run_storeCells_cells (P := P) b (off + sLen * i.size) news 0 w (by simpa using hc) (by simpa using hf) h1
  simp only [Nat.add_zero] at hst
  have hw : IntKind.wrap .i64 (Int.ofNat n) = (n : Int) := by rw [IntKind.wrap_i64]; show ((n : Int) + _) % _ - _ = (n : Int); omega
  have hw' : IntKind.wrap .i64 (n : Int) = (n : Int) := hw
  have hneg : ¬ ((n : Int) < 0) := by omega
  have hbig : ¬ ((n : Int) * (i.bytes : Int) > 2 ^ 48) := by
    have h2 : (n : Int) * (i.bytes : Int) = ((n * i.bytes : Nat) : Int) := by simp
    have h3 : n * i.bytes ≤ 1000000 * 65536 := Nat.mul_le_mul hn hb
    rw [h2]; omega
  by_cases h0 : n * i.size = 0
  · have hn0 : news = [] := List.eq_nil_of_length_eq_zero (by omega)
    subst hn0
    have hbig' : ¬ (281474976710656 < (n : Int) * (i.bytes : Int)) := by omega
    simp [Builtin.append_, run_underlying ht, run_underlying hk, sizeOf, typeInfo, hi, asInt, asIntOf, hw', hneg, hbig', hroom, h0, storeCells, World.setCells]
  · have hbig' : ¬ (281474976710656 < (n : Int) * (i.bytes : Int)) := by omega
    simp [Builtin.append_, run_underlying ht, run_underlying hk, sizeOf, typeInfo, zeroValue, hi, hz, asInt, asIntOf, hw', hneg, hbig', hroom, h0, hnews, Addr.add_lit, hst]
/-- append(s, make([]T, n)...): there is none. -/
theorem run_append_grow_zeros (t tx ty e : TypeId) (i : TypeInfo) (z : Value) (k k' : IntKind) (ht : P.underlying t = some (.slice e)) (hk : P.underlying tx = some (.int k)) (hi : P.info? e = some i) (hz : i.zero = some z) (hb : i.bytes ≤ 65536)
    (base : Option Addr) (sLen sCap n : Nat) (hn : n ≤ 1000000) (news olds : List Value) (hnews : Builtin.zeroCells z.cells n = news.toArray) (hl : news.length = n * i.size)
    (hold : (Builtin.firstCells i.size sLen (.slice base sLen sCap)).run P w.drew = .ok olds.toArray w.drew)
    (hg : sCap < sLen + n) (h63 : ((sLen + n : Nat) : Int) ≤ 9223372036854775807) (hfit : Builtin.nextslicecap (sLen + n) sCap * i.bytes ≤ 281474976710656) :
    (Builtin.append_ #[t, tx] ty #[.slice base sLen sCap, .int k' (Int.ofNat n)]).run P w =
      .ok (.slice (some ⟨w.heap.size, 0, none⟩) (sLen + n) (grownCap w (sLen + n) sCap e))
        (w.drew.alloc (.cells ((olds ++ news).toArray ++ Builtin.zeroCells z.cells (grownCap w (sLen + n) sCap e - (sLen + n))) e)) := by
  have hw' : IntKind.wrap .i64 (n : Int) = (n : Int) := by rw [IntKind.wrap_i64]; omega
  have hneg : ¬ ((n : Int) < 0) := by omega
  have hbig' : ¬ (281474976710656 < (n : Int) * (i.bytes : Int)) := by
    have h2 : (n : Int) * (i.bytes : Int) = ((n * i.bytes : Nat) : Int) := by simp
    have h3 : n * i.bytes ≤ 1000000 * 65536 := Nat.mul_le_mul hn hb
    rw [h2]; omega
  have hn' : ¬ (sLen + n ≤ sCap) := by omega
  have h63' : ¬ (9223372036854775807 < ((sLen : Int) + (n : Int))) := by omega
  have h48' : ¬ (281474976710656 < Builtin.nextslicecap (sLen + n) sCap * i.bytes) := by omega
  by_cases h0 : n * i.size = 0
  · have hn0 : news = [] := List.eq_nil_of_length_eq_zero (by omega)
    subst hn0
    simp [Builtin.append_, run_underlying ht, run_underlying hk, sizeOf, typeInfo, zeroValue, hi, hz, asInt, asIntOf, hw', hneg, hbig', hn', h63', h48', Question.forced, hold, newRow, grownCap, h0]
  · simp [Builtin.append_, run_underlying ht, run_underlying hk, sizeOf, typeInfo, zeroValue, hi, hz, asInt, asIntOf, hw', hneg, hbig', hn', h63', h48', Question.forced, hold, newRow, grownCap, h0, hnews]
    congr 2
    apply Array.ext'
    simp [List.append_assoc]
end Go.AL
end

section
namespace Go.AL
open Go

/-- Append of what an argument yields, both arms. -/
structure Sr (P : Program) (st xt ty e : TypeId) (i : TypeInfo) (z : Value) (x' : Value) (n : Nat) (news : List Value) (w : World) : Prop where
  len : news.length = n * i.size
  room : ∀ b off sLen sCap, sLen + n ≤ sCap → (∀ j, j < news.length → (w.cell? ⟨b, off + sLen * i.size + j, none⟩).isSome = true) → (∀ j, j < news.length → w.frozen? ⟨b, off + sLen * i.size + j, none⟩ = false) →
    (Builtin.append_ #[st, xt] ty #[.slice (some ⟨b, off, none⟩) sLen sCap, x']).run P w = .ok (.slice (some ⟨b, off, none⟩) (sLen + n) sCap) (w.setCells b (off + sLen * i.size) news)
  grow : ∀ base sLen sCap (olds : List Value), (Builtin.firstCells i.size sLen (.slice base sLen sCap)).run P w.drew = .ok olds.toArray w.drew → sCap < sLen + n → sLen + n ≤ 1000000 →
    (Builtin.append_ #[st, xt] ty #[.slice base sLen sCap, x']).run P w =
      .ok (.slice (some ⟨w.heap.size, 0, none⟩) (sLen + n) (grownCap w (sLen + n) sCap e))
        (w.drew.alloc (.cells ((olds ++ news).toArray ++ Builtin.zeroCells z.cells (grownCap w (sLen + n) sCap e - (sLen + n))) e))

theorem zeroCells_list (z : Array Value) (n : Nat) (hz : 1 ≤ z.size) : Builtin.zeroCells z n = (replZ z.toList n).toArray := by
  apply Array.ext'
  exact row_zero z n hz

theorem newA_sr {p : AP} {P : Program} (fa : Fa p P) {A : AW} {ρ : Rho} {w : World} (hd : Rd A ρ w) {st xt ty e : TypeId} {i : TypeInfo} {z x x' : Value} {n : Nat} {new : List Value} (hu : p.under st = some (.slice e)) (hi : p.info e = some i) (hz : i.zero = some z)
    (hx : VR ρ x x') (h : newA p A i xt x = some (n, new)) (hs1 : 1 ≤ i.size) (hzs : z.cells.size = i.size) (hb : i.bytes ≤ 65536) (hone : lall oneCell new = true) (hlen : new.length = n * i.size) :
    ∃ new', VRs ρ new new' ∧ Sr P st xt ty e i z x' n new' w := by
  have hfit : ∀ sLen sCap, sCap < sLen + n → sLen + n ≤ 1000000 → Builtin.nextslicecap (sLen + n) sCap * i.bytes ≤ 281474976710656 := fun sLen sCap h1 h2 => growslice_fits h1 (by
    have : (sLen + n) * i.bytes ≤ 1000000 * 65536 := Nat.mul_le_mul h2 hb
    omega)
  have key : ∀ (hk : (∃ e', P.underlying xt = some (.slice e')) ∨ P.underlying xt = some .string), newB A i x = some (n, new) → ∃ new', VRs ρ new new' ∧ Sr P st xt ty e i z x' n new' w := by
    intro hk hB
    unfold newB at hB
    split at hB
    · cases hB
    · rename_i m hm
      split at hB
      · rename_i cs hcs
        injection hB with hB
        injection hB with h1 h2
        subst h1 h2
        obtain ⟨cs', g1, g2⟩ := firstA_run (P := P) hd hx hcs
        have hlenOf : ∀ w' : World, (Builtin.lenOf x').run P w' = .ok m w' := by
          intro w'
          unfold lenA at hm
          split at hm
          · injection hm with hm; subst hm
            cases hx <;> rfl
          · injection hm with hm; subst hm
            cases hx
            rw [llen0]
            rfl
          · cases hm
        have hS : Src P i.size xt x' m cs' w := ⟨hk, hlenOf, g2 w (SameMem.refl w), g2 w.drew (SameMem.drew w), by rw [← g1.1]; exact hlen, g1.oneCell hone⟩
        refine ⟨cs', g1, by rw [← g1.1]; exact hlen, fun b off sLen sCap hroom hc hf => ?_, fun base sLen sCap olds hold hg h6 => ?_⟩
        · exact run_append_room_src w st xt ty e i (fa.under hu) (fa.info hi) b off sLen sCap x' m cs' hS hroom hc hf
        · exact run_append_grow_src w st xt ty e i z (fa.under hu) (fa.info hi) hz base sLen sCap olds hold x' m cs' hS hg (by omega) (hfit sLen sCap hg h6)
      · cases hB
  unfold newA at h
  split at h
  · rename_i e' hxt; exact key (.inl ⟨e', fa.under hxt⟩) h
  · rename_i hxt; exact key (.inr (fa.under hxt)) h
  · rename_i k hxt
    split at h
    · rename_i k' m z' hz'
      split at h
      · rename_i hc
        obtain ⟨hc1, hc2⟩ := andB_true hc
        have hc1 : m ≤ 1000000 := ble_true hc1
        injection h with h
        injection h with h1 h2
        subst h1 h2
        rw [hz] at hz'
        injection hz' with hz'
        subst hz'
        cases hx
        have hq : VRs ρ z.cells.toList z.cells.toList := by rw [← cellsL_eq]; exact plainC_VRs ρ hc2
        have hrep : ∀ n, VRs ρ (replZ z.cells.toList n) (replZ z.cells.toList n) := by
          intro n
          induction n with
          | zero => exact VRs.nil ρ
          | succ n ih => exact hq.app ih
        rw [cellsL_eq] at hone hlen ⊢
        have h1c : ∀ u ∈ replZ z.cells.toList m, u.oneCell' = true := (hrep m).oneCell hone
        refine ⟨_, hrep m, hlen, fun b off sLen sCap hroom hc hf => ?_, fun base sLen sCap olds hold hg h6 => ?_⟩
        · exact run_append_room_zeros w st xt ty e i z k k' (fa.under hu) (fa.under hxt) (fa.info hi) hz hs1 hb b off sLen sCap m hc1 _ (zeroCells_list z.cells m (by omega)) h1c hlen hroom hc hf
        · exact run_append_grow_zeros w st xt ty e i z k k' (fa.under hu) (fa.under hxt) (fa.info hi) hz hb base sLen sCap m hc1 _ olds (zeroCells_list z.cells m (by omega)) hlen hold hg (by omega) (hfit sLen sCap hg h6)
      · cases h
    · cases h
  · cases h
end Go.AL
end

section
namespace Go.AL
open Go

theorem grownA_none {A A' : AW} {e : TypeId} {sz n : Nat} {cells : List Value} {v : Value} (h : grownA A e sz n cells none = some (v, A')) : v = .slice (some ⟨A.next, 0, some (sz + 3)⟩) n n ∧ A' = insB A cells e A.next A.next ∧ A.next + 1 ≤ lim := by
  obtain ⟨hp, f, m, i, l, k, nx⟩ := A
  dsimp only [grownA] at h
  split at h
  · cases h
  · rename_i hl
    injection h with h
    injection h with h1 h2
    subst h1 h2
    exact ⟨rfl, rfl, ble_true hl⟩
theorem grownA_some {A A' : AW} {e : TypeId} {sz n g : Nat} {cells : List Value} {v : Value} (h : grownA A e sz n cells (some g) = some (v, A')) : ∃ ow dd, A.fams.get g = some (ow, dd) ∧ v = .slice (some ⟨A.next, 0, some (sz + 3)⟩) n n ∧ A' = insB A cells e g dd ∧ A.next + 1 ≤ lim := by
  obtain ⟨hp, f, m, i, l, k, nx⟩ := A
  dsimp only [grownA] at h
  split at h
  · cases h
  · rename_i hl
    split at h
    · cases h
    · rename_i ow dd hg
      injection h with h
      injection h with h1 h2
      subst h1 h2
      exact ⟨ow, dd, hg, rfl, rfl, ble_true hl⟩

/-- What an effect with a value does. -/
def EfV (P : Program) (base : Nat) (A' : AW) (ρ : Rho) (w : World) (s : Sem Value) (v : Value) : Prop := ∃ v' w' ρ', s.run P w = .ok v' w' ∧ Sim base A' ρ' w' ∧ Ext ρ w ρ' w' ∧ VR ρ' v v'

/-- The new row of an append that grows. -/
theorem grow_new {P : Program} {base : Nat} {A : AW} {ρ : Rho} {w : World} (h : Sim base A ρ w) {s : Sem Value} {e : TypeId} {i : TypeInfo} {z : Value} (hzs : z.cells.size = i.size) (hs1 : 1 ≤ i.size) (hlim : A.next + 1 ≤ lim) {need sCap : Nat} {cells cells' : List Value} (hR : VRs ρ cells cells') (hlen : cells.length = need * i.size)
    (hrun : s.run P w = .ok (.slice (some ⟨w.heap.size, 0, none⟩) need (grownCap w need sCap e)) (w.drew.alloc (.cells (cells'.toArray ++ Builtin.zeroCells z.cells (grownCap w need sCap e - need)) e)))
    (fam dd : Nat) (hfam : (fam = A.next ∧ dd = A.next) ∨ ∃ b0, A.fams.get fam = some (b0, dd)) :
    EfV P base (insB A cells e fam dd) ρ w s (.slice (some ⟨A.next, 0, some (i.size + 3)⟩) need need) := by
  have hcap := grownCap_ge w need sCap e
  have hsz : (cells'.toArray ++ Builtin.zeroCells z.cells (grownCap w need sCap e - need)).size = grownCap w need sCap e * i.size := by
    have h1 : (Builtin.zeroCells z.cells (grownCap w need sCap e - need)).size = (grownCap w need sCap e - need) * i.size := by simp [Builtin.zeroCells, hzs]
    have h2 : cells'.length = need * i.size := by rw [← hR.1, hlen]
    rw [Array.size_append, h1, List.size_toArray, h2, ← Nat.add_mul]
    congr 1; omega
  obtain ⟨k1, k2⟩ := h.alloc (SameMem.drew w) hlim (cells'.toArray ++ Builtin.zeroCells z.cells (grownCap w need sCap e - need)) e e (0, 0) (frz0 _) 0 cells cells' hR (fun j v hv => by
    have hj := (List.getElem?_eq_some_iff.1 hv).1
    rw [Array.getElem?_append_left (by simpa using hj)]
    simpa using hv) fam dd hfam
  refine ⟨_, _, _, hrun, k1, k2, ?_⟩
  refine VR.slx A.next 0 (i.size + 3) need need (grownCap w need sCap e) _ (upd_same _ _ _) (Nat.le_refl _) (by omega) hcap ?_
  simp only [Nat.zero_add, Nat.add_sub_cancel]
  exact Nat.le_of_eq hsz.symm

theorem run_append_zero {P : Program} {w : World} (t tx ty e : TypeId) (i : TypeInfo) (ht : P.underlying t = some (.slice e)) (hi : P.info? e = some i) (base : Option Addr) (sLen sCap : Nat) (hle : sLen ≤ sCap) (x : Value)
    (hx : (((∃ e', P.underlying tx = some (.slice e')) ∨ P.underlying tx = some .string) ∧ (Builtin.lenOf x).run P w = .ok 0 w ∧ (Builtin.firstCells i.size 0 x).run P w = .ok #[] w) ∨ ∃ k k', P.underlying tx = some (.int k) ∧ x = .int k' (Int.ofNat 0)) :
    (Builtin.append_ #[t, tx] ty #[.slice base sLen sCap, x]).run P w = .ok (.slice base sLen sCap) w := by
  rcases hx with ⟨⟨e', hk⟩ | hk, h1, h2⟩ | ⟨k, k', hk, rfl⟩
  · cases base <;> simp [Builtin.append_, run_underlying ht, run_underlying hk, sizeOf, typeInfo, hi, h1, h2, hle, storeCells]
  · cases base <;> simp [Builtin.append_, run_underlying ht, run_underlying hk, sizeOf, typeInfo, hi, h1, h2, hle, storeCells]
  · have hw : IntKind.wrap .i64 0 = 0 := by rfl
    cases base <;> simp [Builtin.append_, run_underlying ht, run_underlying hk, sizeOf, typeInfo, hi, asInt, asIntOf, hw, hle, storeCells]

theorem newA_zero {p : AP} {P : Program} (fa : Fa p P) {A : AW} {ρ : Rho} {w : World} (hd : Rd A ρ w) {xt : TypeId} {i : TypeInfo} {x x' : Value} {new : List Value} (hx : VR ρ x x') (h : newA p A i xt x = some (0, new)) :
    (((∃ e', P.underlying xt = some (.slice e')) ∨ P.underlying xt = some .string) ∧ (Builtin.lenOf x').run P w = .ok 0 w ∧ (Builtin.firstCells i.size 0 x').run P w = .ok #[] w) ∨ ∃ k k', P.underlying xt = some (.int k) ∧ x' = .int k' (Int.ofNat 0) := by
  have key : newB A i x = some (0, new) → (Builtin.lenOf x').run P w = .ok 0 w ∧ (Builtin.firstCells i.size 0 x').run P w = .ok #[] w := by
    intro hB
    unfold newB at hB
    split at hB
    · cases hB
    · rename_i m hm
      split at hB
      · rename_i cs hcs
        injection hB with hB
        injection hB with h1 h2
        subst h1 h2
        obtain ⟨cs', g1, g2⟩ := firstA_run (P := P) hd hx hcs
        have g2 := g2 w (SameMem.refl w)
        unfold lenA at hm
        split at hm
        · injection hm with hm; subst hm
          refine ⟨by cases hx <;> rfl, ?_⟩
          cases hx <;> simp [Builtin.firstCells, loadCells, loadCellsFrom]
        · injection hm with hm
          rw [llen0] at hm
          cases hx
          rename_i sb gg
          have hsz : sb.size = 0 := by rw [← hm]; exact Array.length_toList.symm
          refine ⟨by show Result.ok sb.size w = _; rw [hsz], ?_⟩
          simp [Builtin.firstCells]
        · cases hm
      · cases hB
  unfold newA at h
  split at h
  · rename_i e' hxt; exact .inl ⟨.inl ⟨e', fa.under hxt⟩, key h⟩
  · rename_i hxt; exact .inl ⟨.inr (fa.under hxt), key h⟩
  · rename_i k hxt
    split at h
    · split at h
      · injection h with h
        injection h with h1 h2
        subst h1
        cases hx
        exact .inr ⟨k, _, fa.under hxt, rfl⟩
      · cases h
    · cases h
  · cases h

theorem appendA_run {p : AP} {P : Program} (fa : Fa p P) {base : Nat} {A A' : AW} {ρ : Rho} {w : World} (h : Sim base A ρ w) {st xt ty : TypeId} {s s' x x' v : Value} (hs : VR ρ s s') (hx : VR ρ x x') (e : appendA p A st xt s x = some (v, A')) :
    EfV P base A' ρ w (Builtin.append_ #[st, xt] ty #[s', x']) v := by
  unfold appendA at e
  split at e
  · rename_i si elem bs sLen sCap hst
    have hu := under_of_get hst
    split at e
    · cases e
    · rename_i i d hel
      have hi := info_of_get hel
      split at e
      · cases e
      · rename_i n new hnew
        split at e
        · rename_i hn0
          obtain rfl := beq_true hn0
          injection e with e
          injection e with e1 e2
          subst e1 e2
          have hz := newA_zero (P := P) fa h.rd hx hnew
          have hrun : ∀ (b : Option Addr) (c' : Nat), sLen ≤ c' → (Builtin.append_ #[st, xt] ty #[.slice b sLen c', x']).run P w = .ok (.slice b sLen c') w := fun b c' hle => run_append_zero st xt ty elem i (fa.under hu) (fa.info hi) b sLen c' hle x' hz
          have hex : ∃ b c', s' = .slice b sLen c' ∧ sLen ≤ c' := by
            cases hs with
            | sl0 => exact ⟨none, 0, rfl, Nat.le_refl _⟩
            | sl b o n c L hb h0 => exact ⟨_, _, rfl, h0⟩
            | slx b o k n c c' L hb h0 h1 h2 h3 => exact ⟨_, _, rfl, Nat.le_trans h0 h2⟩
            | slg a n c' h => exact ⟨_, _, rfl, h⟩
          obtain ⟨b, c', rfl, hle⟩ := hex
          exact ⟨_, w, ρ, hrun b c' hle, h, Ext.refl ρ w, hs⟩
        · split at e
          · cases e
          · rename_i hn0 _ hg
            have hn0 : n ≠ 0 := beq_false hn0
            obtain ⟨q1, q2⟩ := andB_true hg
            obtain ⟨q3, q4⟩ := andB_true q1
            obtain ⟨q5, q6⟩ := andB_true q4
            obtain ⟨q7, q8⟩ := andB_true q2
            obtain ⟨q9, q10⟩ := andB_true q8
            obtain ⟨q11, q12⟩ := andB_true q10
            have hs1 : 1 ≤ i.size := ble_true q3
            have hb : i.bytes ≤ 65536 := ble_true q6
            have hneed : sLen + n ≤ 1000000 := ble_true q7
            have hlen : new.length = n * i.size := by have := beq_true q12; rw [llen0] at this; exact this
            obtain ⟨z, hz, hzs⟩ : ∃ z, i.zero = some z ∧ z.cells.size = i.size := by
              unfold zeroOk at q11
              split at q11
              · rename_i z hz
                have := beq_true q11
                rw [llen0, cellsL_eq] at this
                exact ⟨z, hz, by rw [← this]; exact Array.length_toList.symm⟩
              · cases q11
            obtain ⟨new', hR, hS⟩ := newA_sr (P := P) (ty := ty) fa h.rd hu hi hz hx hnew hs1 hzs hb q9 hlen
            split at e
            · -- no address
              split at e
              · rename_i hz0
                obtain ⟨z1, z2⟩ := andB_true hz0
                obtain rfl := beq_true z1
                obtain rfl := beq_true z2
                cases hs
                obtain ⟨rfl, rfl, hlim⟩ := grownA_none e
                have hrun := hS.grow none 0 0 [] rfl (by omega) hneed
                rw [Nat.zero_add] at hrun
                exact grow_new h hzs hs1 hlim hR hlen hrun A.next A.next (.inl ⟨rfl, rfl⟩)
              · cases e
            · rename_i a
              split at e
              · cases e
              · rename_i hgh
                obtain ⟨L, c', hb', rfl, hn, hcc, hc1, hc2⟩ := hs.slice_inv hgh
                have hne : new ≠ [] := by
                  intro e0
                  rw [e0] at hlen
                  have : 1 ≤ n * i.size := Nat.mul_pos (by omega) hs1
                  simp at hlen; omega
                have hl' : new'.length = n * i.size := hS.len
                split at e
                · -- room
                  rename_i hroom
                  have hroom : sLen + n ≤ sCap := ble_true hroom
                  split at e
                  · rename_i A1 hst1
                    injection e with e
                    injection e with e1 e2
                    subst e1 e2
                    obtain ⟨L2, hL2, hth, hSim, hE⟩ := h.store hst1 hne hR
                    rw [hb'] at hL2
                    injection hL2 with hL2
                    subst hL2
                    have hoff : L.O + (a.off + sLen * i.size) = L.O + a.off + sLen * i.size := (Nat.add_assoc _ _ _).symm
                    have hrun := hS.room L.B (L.O + a.off) sLen c' (by omega) (fun j hj => by rw [← hoff]; exact (hth j hj).1) (fun j hj => by rw [← hoff]; exact (hth j hj).2)
                    rw [← hoff] at hrun
                    refine ⟨_, _, ρ, hrun, hSim, hE, ?_⟩
                    obtain ⟨b, o, sp⟩ := a
                    cases sp with
                    | none =>
                      have := hc1 rfl
                      subst this
                      exact .sl b o (sLen + n) c' L hb' hroom
                    | some k =>
                      obtain ⟨k1, k2⟩ := hc2 k rfl
                      exact .slx b o k (sLen + n) sCap c' L hb' hroom k1 hcc k2
                  · cases e
                · rename_i hroom
                  have hroom := ble_false hroom
                  split at e
                  · rename_i cs el fam old hbl hold
                    split at e
                    · cases e
                    · rename_i hone
                      obtain ⟨old', o1, o2, o3⟩ := h.rd.range hb' hold
                      have o4 : old'.length = sLen * i.size := by rw [← o2.1, o3]; rfl
                      have hfc : (Builtin.firstCells i.size sLen (.slice (some ⟨L.B, L.O + a.off, none⟩) sLen c')).run P w.drew = .ok old'.toArray w.drew := by
                        show (loadCells ⟨L.B, L.O + a.off, none⟩ (sLen * i.size)).run P w.drew = _
                        rw [← o4]
                        exact run_loadCells_list (P := P) w.drew ⟨L.B, L.O + a.off, none⟩ old' (fun j v hv => by rw [addr_add, (SameMem.drew w).cell]; exact o1 j v hv)
                      have hcl : (old ++ new).length = (sLen + n) * i.size := by rw [List.length_append, hlen, o3, Nat.add_mul]; rfl
                      split at e
                      · rename_i hsp
                        have := hc1 hsp
                        subst this
                        obtain ⟨rfl, rfl, hlim⟩ := grownA_none e
                        exact grow_new h hzs hs1 hlim (o2.app hR) hcl (hS.grow _ sLen c' old' hfc (by omega) hneed) A.next A.next (.inl ⟨rfl, rfl⟩)
                      · rename_i k hsp
                        split at e
                        · rename_i hcnd
                          obtain ⟨c1, c3⟩ := andB_true hcnd
                          obtain ⟨c4, c5⟩ := andB_true c1
                          have c4 : k = i.size + 3 := beq_true c4
                          have c3 : a.off + sLen * i.size = cs.length := by have := beq_true c3; rw [llen0] at this; exact this
                          obtain ⟨ow, dd, hf, rfl, rfl, hlim⟩ := grownA_some e
                          unfold ownedF at c5
                          rw [hf] at c5
                          obtain rfl : ow = a.block := beq_true c5
                          by_cases hin : sLen + n ≤ c'
                          · have hb100 : 100 ≤ a.block := by
                              rcases Nat.lt_or_ge a.block 100 with h1 | h1
                              · have g1 := h.low a.block _ hbl h1
                                have g2 := (h.fams fam _ hf).1
                                simp only at g1
                                omega
                              · exact h1
                            have hold2 : old = cs.drop a.off := by
                              unfold cellsAt at hold
                              rw [hbl] at hold
                              simp only at hold
                              split at hold
                              · obtain ⟨r1, r2⟩ := takeL_some _ _ _ hold
                                rw [dropL_eq] at r1 r2
                                rw [r1, List.take_of_length_le]
                                have : (cs.drop a.off).length = cs.length - a.off := List.length_drop
                                have r3 : Nat.mul sLen i.size = sLen * i.size := rfl
                                omega
                              · cases hold
                            obtain ⟨hk1, hk2⟩ := hc2 k hsp
                            have hk3 : k - 3 = i.size := by omega
                            rw [hk3] at hk2
                            have hmul : sLen * i.size + n * i.size ≤ c' * i.size := by rw [← Nat.add_mul]; exact Nat.mul_le_mul_right _ hin
                            obtain ⟨hth1, hth2⟩ := h.there a.block _ L hbl hb100 hb'
                            obtain ⟨G1, G2⟩ := h.growIn (off := a.off) hbl hb' hb100 hf hlim (by simp only; omega) hR (by simp only; omega) elem
                            simp only at G1 G2
                            have hrun := hS.room L.B (L.O + a.off) sLen c' hin (fun j hj => by
                              have := (hth2 (a.off + sLen * i.size + j) (by omega)).1
                              rw [show L.O + a.off + sLen * i.size + j = L.O + (a.off + sLen * i.size + j) from by omega]; exact this) (fun j hj => by
                              have := (hth2 (a.off + sLen * i.size + j) (by omega)).2
                              rw [show L.O + a.off + sLen * i.size + j = L.O + (a.off + sLen * i.size + j) from by omega]; exact this)
                            rw [show L.O + a.off + sLen * i.size = L.O + cs.length from by omega] at hrun
                            rw [← hold2] at G1
                            refine ⟨_, _, _, hrun, G1, G2, ?_⟩
                            refine VR.slx A.next 0 (i.size + 3) (sLen + n) (sLen + n) c' _ (upd_same _ _ _) (Nat.le_refl _) (by omega) hin ?_
                            simp only [Nat.zero_add, Nat.add_sub_cancel]
                            omega
                          · exact grow_new h hzs hs1 hlim (o2.app hR) hcl (hS.grow _ sLen c' old' hfc (by omega) hneed) fam dd (.inr ⟨_, hf⟩)
                        · cases e
                  · cases e
  · cases e
end Go.AL
end

section
namespace Go.AL
open Go

theorem lenA_run {P : Program} {ρ : Rho} {x x' : Value} {n : Nat} (hx : VR ρ x x') (h : lenA x = some n) (w : World) : (Builtin.lenOf x').run P w = .ok n w := by
  unfold lenA at h
  split at h
  · injection h with h; subst h
    cases hx <;> rfl
  · injection h with h; subst h
    cases hx
    rw [llen0]
    rfl
  · cases h

theorem copy_run {p : AP} {P : Program} (fa : Fa p P) {base : Nat} {A : AW} {ρ : Rho} {w : World} (h : Sim base A ρ w) {ts : Array TypeId} {ty : TypeId} {d d' s s' : Value} {r : R} (hd : VR ρ d d') (hs : VR ρ s s') (e : builtinA p A .copy ts.toList [d, s] = some r) :
    ∃ v A', r = .val v A' ∧ EfV P base A' ρ w (Builtin.copy_ ts ty #[d', s']) v := by
  cases hts : ts.toList with
  | nil => rw [hts] at e; cases e
  | cons t tl =>
    rw [hts] at e
    have ht := argT hts
    dsimp only [builtinA] at e
    split at e
    · rename_i el bs dn dc sn hu hsn
      split at e
      · rename_i g hg
        generalize hm : (match Nat.ble sn dn with | true => sn | false => dn) = n at e
        have hmin : Nat.min sn dn = n := by
          rw [← hm]
          cases hb : Nat.ble sn dn with
          | true => have := ble_true hb; exact Nat.min_eq_left this
          | false => have := ble_false hb; exact Nat.min_eq_right (by omega)
        split at e
        · rename_i cs hcs
          split at e
          · cases e
          · rename_i hone
            obtain ⟨cs', g1, g2⟩ := firstA_run (P := P) h.rd hs hcs
            have g2 : (Builtin.firstCells g.size n s').run P w = .ok cs'.toArray w := by rw [← hm]; exact g2 w (SameMem.refl w)
            have hl := lenA_run (P := P) hs hsn w
            have hone' := g1.oneCell hone
            have hrun : ∀ (b : Option Addr) (c' : Nat) (w' : World), (match b with | some a => storeCells a cs'.toArray.toList | none => (pure () : Sem Unit)).run P w = .ok () w' → (Builtin.copy_ ts ty #[.slice b dn c', s']).run P w = .ok (goI n) w' := by
              intro b c' w' hst
              have e1 : (#[Value.slice b dn c', s'] : Array Value)[0]? = some (Value.slice b dn c') := rfl
              have e2 : (#[Value.slice b dn c', s'] : Array Value)[1]? = some s' := rfl
              cases b with
              | none =>
                simp only [Builtin.copy_, ht, e1, e2, Sem.run_bind, run_under fa hu w, Result.andThen_ok, hl, hmin, run_sizeI fa hg w, g2, Sem.run_pure]
                have hst' : w = w' := by injection hst
                subst hst'
                first | rfl | (rw [g2]; rfl)
              | some a =>
                simp only at hst
                simp only [Builtin.copy_, ht, e1, e2, Sem.run_bind, run_under fa hu w, Result.andThen_ok, hl, hmin, run_sizeI fa hg w, g2, Sem.run_pure, hst]
                rfl
            have hnil : cs = [] → cs' = [] := fun e0 => by subst e0; exact g1.of_nil
            split at e
            · cases hd
              split at e
              · injection e with e
                have := hnil rfl
                subst this
                exact ⟨_, A, e.symm, .int .i64 _, w, ρ, hrun none 0 w rfl, h, Ext.refl ρ w, (by rw [← hm]; exact .int .i64 _)⟩
              · cases e
            · rename_i a
              split at e
              · rename_i hgh
                split at e
                · injection e with e
                  have := hnil rfl
                  subst this
                  have hex : ∃ a' c', d' = .slice (some a') dn c' := by cases hd <;> exact ⟨_, _, rfl⟩
                  obtain ⟨a', c', rfl⟩ := hex
                  exact ⟨_, A, e.symm, .int .i64 _, w, ρ, hrun (some a') c' w rfl, h, Ext.refl ρ w, (by rw [← hm]; exact .int .i64 _)⟩
                · cases e
              · rename_i hgh
                obtain ⟨L, c', hb', rfl, hn, hcc, hc1, hc2⟩ := hd.slice_inv hgh
                split at e
                · rename_i A1 hst
                  injection e with e
                  by_cases hne : cs = []
                  · have := hnil hne
                    subst this
                    rw [hne] at hst
                    injection hst with hst
                    subst hst
                    exact ⟨_, A, e.symm, .int .i64 _, w, ρ, hrun (some _) c' w rfl, h, Ext.refl ρ w, (by rw [← hm]; exact .int .i64 _)⟩
                  · obtain ⟨L2, hL2, hth, hSim, hE⟩ := h.store hst hne g1
                    rw [hb'] at hL2
                    injection hL2 with hL2
                    subst hL2
                    have hsc := run_storeCells_cells (P := P) L.B (L.O + a.off) cs' 0 w (fun j hj => (hth j hj).1) (fun j hj => (hth j hj).2) hone'
                    exact ⟨_, A1, e.symm, .int .i64 _, _, ρ, hrun (some ⟨L.B, L.O + a.off, none⟩) c' _ hsc, hSim, hE, (by rw [← hm]; exact .int .i64 _)⟩
                · cases e
        · cases e
      · cases e
    · cases e
end Go.AL
end

section
namespace Go.AL
open Go Go.MapKept

theorem heap_set_ne (w : World) (B : Nat) (o : Obj) {B' : Nat} (h : B' ≠ B) : (w.heap.setIfInBounds B o)[B']? = w.heap[B']? := by
  rw [Array.getElem?_setIfInBounds, if_neg (fun e => h e.symm)]

/-- A map's object is changed: the ranges over maps are forgotten. -/
theorem Sim.setMap {base : Nat} {A : AW} {ρ : Rho} {w : World} (h : Sim base A ρ w) {r : Nat} {L : Loc} {es es' : List (Value × Value)} (hr : A.maps.get r = some es) (hL : ρ r = some L) (ents' : Array MapEntry) (clk' : Nat) (hM : MapR ρ es' ents' clk') :
    Sim base { A with maps := A.maps.set dep r es', iters := .leaf } ρ { w with heap := w.heap.setIfInBounds L.B (.map ents' clk') } ∧ Ext ρ w ρ { w with heap := w.heap.setIfInBounds L.B (.map ents' clk') } := by
  have hro : isObj A r := .inl (by rw [hr]; rfl)
  have hr100 := (h.obj r hro).1
  have hdom := h.dom r L hL
  have hhi := h.hi
  have hrl : r ≤ lim := by omega
  have hG : ∀ k, (A.maps.set dep r es').get k = if k = r then some es' else A.maps.get k := fun k => get_set _ _ _ _ hrl
  have hblk : ∀ b bl M, A.heap.get b = some bl → ρ b = some M → M.B ≠ L.B := by
    intro b bl M hb hM' e
    by_cases h1 : b < 100
    · have h2 := h.fixd b M hM' h1
      have h3 := h.above r L hL hr100
      omega
    · exact h.noObj hb (by omega) hM' hro hL e.symm
  have hobj : ∀ r' M, isObj A r' → r' ≠ r → ρ r' = some M → M.B ≠ L.B := by
    intro r' M ho hne hM' e
    exact hne (h.osep r' r M L ho hM' hL e hr100)
  have hcell : ∀ b bl M i, A.heap.get b = some bl → ρ b = some M → ({ w with heap := w.heap.setIfInBounds L.B (.map ents' clk') } : World).cell? ⟨M.B, i, none⟩ = w.cell? ⟨M.B, i, none⟩ := by
    intro b bl M i hb hM'
    simp only [World.cell?, heap_set_ne w L.B _ (hblk b bl M hb hM')]
  have hfrz : ∀ b bl M i, A.heap.get b = some bl → ρ b = some M → ({ w with heap := w.heap.setIfInBounds L.B (.map ents' clk') } : World).frozen? ⟨M.B, i, none⟩ = w.frozen? ⟨M.B, i, none⟩ := by
    intro b bl M i hb hM'
    simp only [World.frozen?, heap_set_ne w L.B _ (hblk b bl M hb hM')]
  have hio : ∀ r', isObj { A with maps := A.maps.set dep r es', iters := .leaf } r' → isObj A r' := by
    intro r' ho
    unfold isObj at ho
    simp only at ho
    rcases ho with h1 | h1 | h1 | h1
    · rw [hG] at h1
      split at h1
      · rename_i e; rw [e]; exact hro
      · exact .inl h1
    · rw [get_leaf] at h1; cases h1
    · exact .inr (.inr (.inl h1))
    · exact .inr (.inr (.inr h1))
  refine ⟨{ bs := by simp only [Array.size_setIfInBounds]; exact h.bs, lo := h.lo, hi := h.hi, dom := fun b M e => by simp only [Array.size_setIfInBounds]; exact h.dom b M e, fixd := h.fixd, above := h.above, blk := h.blk, own := h.own, low := h.low,
            there := fun b bl M e1 e2 e3 => ⟨(h.there b bl M e1 e2 e3).1, fun j hj => by rw [hcell b bl M _ e1 e3, hfrz b bl M _ e1 e3]; exact (h.there b bl M e1 e2 e3).2 j hj⟩,
            cells := fun b bl M e1 e2 e3 i v hv => by rw [hcell b bl M _ e1 e3]; exact h.cells b bl M e1 e2 e3 i v hv,
            sep := h.sep, fams := h.fams, obj := fun r' ho => h.obj r' (hio r' ho), osep := fun r' b M M' ho => h.osep r' b M M' (hio r' ho),
            maps := ?_, iters := fun r' m seen M hr' => (by rw [get_leaf] at hr'; cases hr'), loops := ?_, marks := ?_ }, ?_⟩
  · intro r' es2 M hr' hM'
    rw [hG] at hr'
    split at hr'
    · rename_i e
      injection hr' with hr'
      subst hr' e
      rw [hL] at hM'
      injection hM' with hM'
      subst hM'
      exact ⟨ents', clk', by simp [hdom.2], hM⟩
    · rename_i e
      obtain ⟨ents, clk, g1, g2⟩ := h.maps r' es2 M hr' hM'
      exact ⟨ents, clk, by simp only; rw [heap_set_ne w L.B _ (hobj r' M (.inl (by rw [hr']; rfl)) e hM')]; exact g1, g2⟩
  · intro r' l M hr' hM'
    obtain ⟨o, ho, g⟩ := h.loops r' l M hr' hM'
    have hne : r' ≠ r := fun e => by
      subst e
      rw [hL] at hM'
      injection hM' with hM'
      subst hM'
      obtain ⟨ents, clk, g1, _⟩ := h.maps r' es L hr hL
      obtain ⟨tm, R, _, g2⟩ := g
      rw [g1] at ho
      injection ho with ho
      rw [← ho] at g2
      cases g2
    exact ⟨o, by simp only; rw [heap_set_ne w L.B _ (hobj r' M (.inr (.inr (.inl (by rw [show A.loops.get r' = some l from hr']; rfl)))) hne hM')]; exact ho, g⟩
  · intro r' M hr' hM'
    have hne : r' ≠ r := fun e => by
      subst e
      rw [hL] at hM'
      injection hM' with hM'
      subst hM'
      obtain ⟨ents, clk, g1, _⟩ := h.maps r' es L hr hL
      have g2 := h.marks r' L hr' hL
      rw [g1] at g2
      cases g2
    simp only
    rw [heap_set_ne w L.B _ (hobj r' M (.inr (.inr (.inr (by rw [show A.marks.get r' = some true from hr']; rfl)))) hne hM')]
    exact h.marks r' M hr' hM'
  · exact ⟨Sub.refl ρ, fun b M h1 h2 => (by rw [h1] at h2; cases h2), fun B hB hn => heap_set_ne w L.B _ (fun e => hn r L hr100 hL e.symm), by simp, rfl, rfl, rfl⟩
theorem keyEq_true {ρ : Rho} {k k' a a' : Value} (hk : VR ρ k k') (ha : VR ρ a a') (h : keyEq k a = some true) : k' = a' := by
  unfold keyEq at h
  split at h
  · cases hk; cases ha
    split at h
    · rename_i hkk
      obtain rfl := ikEq_eq hkk
      injection h with h
      rw [(iEq_eq _ _).1 h]
    · cases h
  · cases hk; cases ha
    injection h with h
    rw [(bytesEq_eq _ _).1 h]
  · cases h
/-- The entries after an update. -/
theorem updL_run {ρ : Rho} {kd : TypeDesc} {k k' v v' : Value} (hk : VR ρ k k') (hv : VR ρ v v') (hkd : keyKind kd k = true) : ∀ (es : List (Value × Value)) (ents : List MapEntry) (i : Nat) (es' : List (Value × Value)),
    VRs ρ (es.map (·.1)) (ents.map (·.key)) → VRs ρ (es.map (·.2)) (ents.map (·.val)) → updL k v es = some es' →
    (∃ j e, Instr.findNow kd k' ents i = some (some (i + j, e.val)) ∧ ents[j]? = some e ∧ e.key = k' ∧
      VRs ρ (es'.map (·.1)) ((ents.modify j fun e => { e with key := k', val := v' }).map (·.key)) ∧ VRs ρ (es'.map (·.2)) ((ents.modify j fun e => { e with key := k', val := v' }).map (·.val))) ∨
    (Instr.findNow kd k' ents i = some none ∧ VRs ρ (es'.map (·.1)) ((ents.map (·.key)) ++ [k']) ∧ VRs ρ (es'.map (·.2)) ((ents.map (·.val)) ++ [v']))
  | [], ents, i, es', h1, h2, h => by
    have : ents = [] := by simpa using h1.of_nil
    subst this
    simp only [updL] at h
    injection h with h; subst h
    exact .inr ⟨rfl, VRs.cons hk (VRs.nil ρ), VRs.cons hv (VRs.nil ρ)⟩
  | (a, u) :: es, ents, i, es', h1, h2, h => by
    cases ents with
    | nil => have := h1.1; simp at this
    | cons e ents =>
      obtain ⟨a', l1, e1, ha, h1⟩ := h1.uncons
      obtain ⟨u', l2, e2, hu, h2⟩ := h2.uncons
      simp only [List.map_cons, List.cons.injEq] at e1 e2
      obtain ⟨rfl, rfl⟩ := e1
      obtain ⟨rfl, rfl⟩ := e2
      unfold updL at h
      split at h
      · rename_i hq
        injection h with h; subst h
        have hs := keyEq_run hk ha hkd hq
        refine .inl ⟨0, e, by simp only [Instr.findNow, hs]; rfl, rfl, ?_, VRs.cons hk h1, VRs.cons hv h2⟩
        exact (keyEq_true hk ha hq).symm
      · rename_i hq
        have hs := keyEq_run hk ha hkd hq
        split at h
        · rename_i r0 hr0
          injection h with h; subst h
          rcases updL_run hk hv hkd es ents (i + 1) r0 h1 h2 hr0 with ⟨j, x, g1, g2, g3, g4, g5⟩ | ⟨g1, g2, g3⟩
          · exact .inl ⟨j + 1, x, by simp only [Instr.findNow, hs]; rw [g1]; congr 3; omega, by simpa using g2, g3, VRs.cons ha g4, VRs.cons hu g5⟩
          · exact .inr ⟨by simp only [Instr.findNow, hs]; exact g1, VRs.cons ha g2, VRs.cons hu g3⟩
        · cases h
      · cases h
end Go.AL
end

section
namespace Go.AL
open Go Go.MapKept

theorem sameBits_key {kd : TypeDesc} {k : Value} (h : keyKind kd k = true) : Instr.sameBits 10000 k k = true := by
  unfold keyKind at h
  split at h
  · simp [Instr.sameBits]
  · rename_i s
    have : (s == s) = true := (bytes_beq s s).2 rfl
    simp [Instr.sameBits, this]
  · cases h
theorem mapUpdateA_run {p : AP} {P : Program} (fa : Fa p P) {base : Nat} {A A' : AW} {ρ : Rho} {w : World} (h : Sim base A ρ w) {t : TypeId} {m m' k k' v v' : Value} (hm : VR ρ m m') (hk : VR ρ k k') (hv : VR ρ v v') (e : mapUpdateA p A t m k v = some A') :
    ∃ w', (Instr.mapUpdate t m' k' v').run P w = .ok () w' ∧ Sim base A' ρ w' ∧ Ext ρ w ρ w' := by
  unfold mapUpdateA at e
  split at e
  · rename_i kt el r hu
    split at e
    · rename_i es kd hes hkd
      split at e
      · rename_i hkk
        split at e
        · rename_i es' hup
          injection e with e; subst e
          obtain ⟨L, hL, rfl⟩ := hm.map_inv
          obtain ⟨ents, clk, g1, g2, g3, g4⟩ := h.maps r es L hes hL
          have hck := keyKind_check (P := P) hk (fa.under hkd) hkk false w
          rcases updL_run hk hv hkk es ents.toList 0 es' g2 g3 hup with ⟨j, x, q1, q2, q3, q4, q5⟩ | ⟨q1, q2, q3⟩
          · have hf : Instr.findNow kd k' ents.toList 0 = some (some (j, x.val)) := by rw [q1, Nat.zero_add]
            have hfk := Go.MapKept.run_findKey (P := P) (w := w) (fa.under hkd) hf
            obtain ⟨s1, s2⟩ := h.setMap hes hL (ents.modify j fun e => { e with key := k', val := v' }) clk (es' := es') ⟨by rw [Array.toList_modify]; exact q4, by rw [Array.toList_modify]; exact q5, fun e he => by
              rw [Array.toList_modify] at he
              obtain ⟨n, hn, rfl⟩ := List.getElem_of_mem he
              rw [List.getElem_modify]
              have hn' : n < ents.toList.length := by simpa using hn
              have hb := g4 (ents.toList[n]'hn') (List.getElem_mem hn')
              split <;> exact hb⟩
            refine ⟨_, ?_, s1, s2⟩
            have hkey : ((ents[j]?).map (·.key)).getD k' = k' := by
              rw [← Array.getElem?_toList, q2]; simpa using q3
            have hst : (Instr.keyThatStays (((ents[j]?).map (·.key)).getD k') k').run P w = .ok k' w := by
              rw [hkey]
              have hb : Instr.sameBits 10000 k' k' = true := by
                have : keyKind kd k' = true := by cases hk <;> first | exact hkk | (exfalso; cases kd <;> simp [keyKind] at hkk)
                exact sameBits_key this
              simp only [Instr.keyThatStays, hb, if_true, Sem.run_pure]
            simp only [Instr.mapUpdate, Sem.run_bind, run_under fa hu w, Result.andThen_ok, Go.MapKept.run_getObj_map g1, hck, hfk, hst, Go.MapKept.run_setObj_map _ g1]
          · have hfk := Go.MapKept.run_findKey (P := P) (w := w) (fa.under hkd) q1
            obtain ⟨s1, s2⟩ := h.setMap hes hL (ents.push { key := k', val := v', born := clk }) (clk + 1) (es' := es') ⟨by simpa using q2, by simpa using q3, fun e he => by
              simp at he
              rcases he with he | rfl
              · have := g4 e (by simpa using he); omega
              · simp⟩
            refine ⟨_, ?_, s1, s2⟩
            simp only [Instr.mapUpdate, Sem.run_bind, run_under fa hu w, Result.andThen_ok, Go.MapKept.run_getObj_map g1, hck, hfk, Go.MapKept.run_setObj_map _ g1]
        · cases e
      · cases e
    · cases e
  · cases e
end Go.AL
end

section
namespace Go.AL
open Go Go.MapKept

/-- A range's object is changed. -/
theorem Sim.setIter {base : Nat} {A : AW} {ρ : Rho} {w : World} (h : Sim base A ρ w) {r : Nat} {L : Loc} {m : Option Nat} {s0 s1 : Bool} (hr : A.iters.get r = some (m, s0)) (hL : ρ r = some L) (o' : Obj) (ho : IterR ρ w m s1 o') (hit : ∃ a b c d, o' = .mapIter a b c d) :
    Sim base { A with iters := A.iters.set dep r (m, s1) } ρ { w with heap := w.heap.setIfInBounds L.B o' } ∧ Ext ρ w ρ { w with heap := w.heap.setIfInBounds L.B o' } := by
  have hro : isObj A r := .inr (.inl (by rw [hr]; rfl))
  have hr100 := (h.obj r hro).1
  have hdom := h.dom r L hL
  have hhi := h.hi
  have hrl : r ≤ lim := by omega
  obtain ⟨hm0, oo, hoo, hIt⟩ := h.iters r m s0 L hr hL
  have hitr : ∃ a b c d, oo = .mapIter a b c d := by
    unfold IterR at hIt
    split at hIt
    · obtain ⟨s, l, rfl⟩ := hIt; exact ⟨_, _, _, _, rfl⟩
    · obtain ⟨L1, ents, clk, _, _, h3⟩ := hIt
      split at h3
      · exact ⟨_, _, _, _, h3⟩
      · obtain ⟨e, _, h4⟩ := h3; exact ⟨_, _, _, _, h4⟩
  have hG : ∀ k, (A.iters.set dep r (m, s1)).get k = if k = r then some (m, s1) else A.iters.get k := fun k => get_set _ _ _ _ hrl
  have hblk : ∀ b bl M, A.heap.get b = some bl → ρ b = some M → M.B ≠ L.B := by
    intro b bl M hb hM' e
    by_cases h1 : b < 100
    · have h2 := h.fixd b M hM' h1
      have h3 := h.above r L hL hr100
      omega
    · exact h.noObj hb (by omega) hM' hro hL e.symm
  have hobj : ∀ r' M, isObj A r' → r' ≠ r → ρ r' = some M → M.B ≠ L.B := by
    intro r' M ho hne hM' e
    exact hne (h.osep r' r M L ho hM' hL e hr100)
  have hcell : ∀ b bl M i, A.heap.get b = some bl → ρ b = some M → ({ w with heap := w.heap.setIfInBounds L.B o' } : World).cell? ⟨M.B, i, none⟩ = w.cell? ⟨M.B, i, none⟩ := by
    intro b bl M i hb hM'
    simp only [World.cell?, heap_set_ne w L.B _ (hblk b bl M hb hM')]
  have hfrz : ∀ b bl M i, A.heap.get b = some bl → ρ b = some M → ({ w with heap := w.heap.setIfInBounds L.B o' } : World).frozen? ⟨M.B, i, none⟩ = w.frozen? ⟨M.B, i, none⟩ := by
    intro b bl M i hb hM'
    simp only [World.frozen?, heap_set_ne w L.B _ (hblk b bl M hb hM')]
  have hio : ∀ r', isObj { A with iters := A.iters.set dep r (m, s1) } r' → isObj A r' := by
    intro r' ho
    unfold isObj at ho
    simp only at ho
    rcases ho with h1 | h1 | h1 | h1
    · exact .inl h1
    · rw [hG] at h1
      split at h1
      · rename_i e; rw [e]; exact hro
      · exact .inr (.inl h1)
    · exact .inr (.inr (.inl h1))
    · exact .inr (.inr (.inr h1))
  have hmaps : ∀ k es M, A.maps.get k = some es → ρ k = some M → (w.heap.setIfInBounds L.B o')[M.B]? = w.heap[M.B]? := by
    intro k es M hk hM'
    have hne : k ≠ r := fun e => by
      subst e
      rw [hL] at hM'
      injection hM' with hM'
      subst hM'
      obtain ⟨ents, clk, g1, _⟩ := h.maps k es L hk hL
      rw [g1] at hoo
      injection hoo with hoo
      obtain ⟨a, b, c, d, hi⟩ := hitr
      rw [← hoo] at hi
      cases hi
    exact heap_set_ne w L.B _ (hobj k M (.inl (by rw [hk]; rfl)) hne hM')
  have hIterW : ∀ m s o, IterR ρ w m s o → (∀ k, m = some k → (A.maps.get k).isSome) → IterR ρ { w with heap := w.heap.setIfInBounds L.B o' } m s o := by
    intro m s o hi hmm
    cases m with
    | none => exact hi
    | some q =>
      obtain ⟨Lk, ents, clk, h1, h2, h3⟩ := hi
      obtain ⟨es, hes⟩ := Option.isSome_iff_exists.1 (hmm q rfl)
      exact ⟨Lk, ents, clk, h1, by simp only; rw [hmaps q es Lk hes h1]; exact h2, h3⟩
  refine ⟨{ bs := by simp only [Array.size_setIfInBounds]; exact h.bs, lo := h.lo, hi := h.hi, dom := fun b M e => by simp only [Array.size_setIfInBounds]; exact h.dom b M e, fixd := h.fixd, above := h.above, blk := h.blk, own := h.own, low := h.low,
            there := fun b bl M e1 e2 e3 => ⟨(h.there b bl M e1 e2 e3).1, fun j hj => by rw [hcell b bl M _ e1 e3, hfrz b bl M _ e1 e3]; exact (h.there b bl M e1 e2 e3).2 j hj⟩,
            cells := fun b bl M e1 e2 e3 i v hv => by rw [hcell b bl M _ e1 e3]; exact h.cells b bl M e1 e2 e3 i v hv,
            sep := h.sep, fams := h.fams, obj := fun r' ho => h.obj r' (hio r' ho), osep := fun r' b M M' ho => h.osep r' b M M' (hio r' ho),
            maps := ?_, iters := ?_, loops := ?_, marks := ?_ }, ?_⟩
  · intro r' es2 M hr' hM'
    obtain ⟨ents, clk, g1, g2⟩ := h.maps r' es2 M hr' hM'
    exact ⟨ents, clk, by simp only; rw [hmaps r' es2 M hr' hM']; exact g1, g2⟩
  · intro r' m' seen M hr' hM'
    rw [hG] at hr'
    split at hr'
    · rename_i e
      injection hr' with hr'
      injection hr' with e1 e2
      subst e1 e2 e
      rw [hL] at hM'
      injection hM' with hM'
      subst hM'
      exact ⟨hm0, o', by simp [hdom.2], hIterW _ _ _ ho hm0⟩
    · rename_i e
      obtain ⟨g1, o, g2, g3⟩ := h.iters r' m' seen M hr' hM'
      exact ⟨g1, o, by simp only; rw [heap_set_ne w L.B _ (hobj r' M (.inr (.inl (by rw [hr']; rfl))) e hM')]; exact g2, hIterW _ _ _ g3 g1⟩
  · intro r' l M hr' hM'
    obtain ⟨o, ho, g⟩ := h.loops r' l M hr' hM'
    have hne : r' ≠ r := fun e => by
      subst e
      rw [hL] at hM'
      injection hM' with hM'
      subst hM'
      obtain ⟨tm, R, _, g2⟩ := g
      rw [hoo] at ho
      injection ho with ho
      obtain ⟨a, b, c, d, hi⟩ := hitr
      rw [hi] at ho
      rw [← ho] at g2
      cases g2
    exact ⟨o, by simp only; rw [heap_set_ne w L.B _ (hobj r' M (.inr (.inr (.inl (by rw [show A.loops.get r' = some l from hr']; rfl)))) hne hM')]; exact ho, g⟩
  · intro r' M hr' hM'
    have hne : r' ≠ r := fun e => by
      subst e
      rw [hL] at hM'
      injection hM' with hM'
      subst hM'
      have g2 := h.marks r' L hr' hL
      rw [hoo] at g2
      obtain ⟨a, b, c, d, hi⟩ := hitr
      rw [hi] at g2
      cases g2
    simp only
    rw [heap_set_ne w L.B _ (hobj r' M (.inr (.inr (.inr (by rw [show A.marks.get r' = some true from hr']; rfl)))) hne hM')]
    exact h.marks r' M hr' hM'
  · exact ⟨Sub.refl ρ, fun b M h1 h2 => (by rw [h1] at h2; cases h2), fun B hB hn => heap_set_ne w L.B _ (fun e => hn r L hr100 hL e.symm), by simp, rfl, rfl, rfl⟩
end Go.AL
end

section
namespace Go.AL
open Go Go.MapKept

theorem run_setObj_any {P : Program} {w : World} {r : Nat} {o : Obj} (h : w.heap[r]? = some o) (hn : ∀ c e f, o ≠ .cells c e f) (o' : Obj) : (setObj r o').run P w = .ok () { w with heap := w.heap.setIfInBounds r o' } := by
  cases o <;> first | (exfalso; exact hn _ _ _ rfl) | simp [setObj, Sem.run, h]

/-- An object that is no map is changed. -/
theorem Sim.setO {base : Nat} {A : AW} {ρ : Rho} {w : World} (h : Sim base A ρ w) {r : Nat} {L : Loc} (hro : isObj A r) (hL : ρ r = some L) (hnm : A.maps.get r = none) (o' : Obj)
    (I : Tr (Option Nat × Bool)) (Lp : Tr ALoop) (K : Tr Bool)
    (hI : ∀ k, k ≠ r → I.get k = A.iters.get k) (hLp : ∀ k, k ≠ r → Lp.get k = A.loops.get k) (hK : ∀ k, k ≠ r → K.get k = A.marks.get k)
    (nI : ∀ m s, I.get r = some (m, s) → (∀ k, m = some k → (A.maps.get k).isSome) ∧ IterR ρ w m s o') (nL : ∀ l, Lp.get r = some l → LoopR ρ l o') (nK : K.get r = some true → o' = .deferred (some [])) :
    Sim base { A with iters := I, loops := Lp, marks := K } ρ { w with heap := w.heap.setIfInBounds L.B o' } ∧ Ext ρ w ρ { w with heap := w.heap.setIfInBounds L.B o' } := by
  have hr100 := (h.obj r hro).1
  have hdom := h.dom r L hL
  have hhi := h.hi
  have hblk : ∀ b bl M, A.heap.get b = some bl → ρ b = some M → M.B ≠ L.B := by
    intro b bl M hb hM' e
    by_cases h1 : b < 100
    · have h2 := h.fixd b M hM' h1
      have h3 := h.above r L hL hr100
      omega
    · exact h.noObj hb (by omega) hM' hro hL e.symm
  have hobj : ∀ r' M, isObj A r' → r' ≠ r → ρ r' = some M → M.B ≠ L.B := by
    intro r' M ho hne hM' e
    exact hne (h.osep r' r M L ho hM' hL e hr100)
  have hcell : ∀ b bl M i, A.heap.get b = some bl → ρ b = some M → ({ w with heap := w.heap.setIfInBounds L.B o' } : World).cell? ⟨M.B, i, none⟩ = w.cell? ⟨M.B, i, none⟩ := by
    intro b bl M i hb hM'
    simp only [World.cell?, heap_set_ne w L.B _ (hblk b bl M hb hM')]
  have hfrz : ∀ b bl M i, A.heap.get b = some bl → ρ b = some M → ({ w with heap := w.heap.setIfInBounds L.B o' } : World).frozen? ⟨M.B, i, none⟩ = w.frozen? ⟨M.B, i, none⟩ := by
    intro b bl M i hb hM'
    simp only [World.frozen?, heap_set_ne w L.B _ (hblk b bl M hb hM')]
  have hio : ∀ r', isObj { A with iters := I, loops := Lp, marks := K } r' → isObj A r' := by
    intro r' ho
    by_cases e : r' = r
    · rw [e]; exact hro
    · unfold isObj at ho ⊢
      simp only at ho
      rw [hI r' e, hLp r' e, hK r' e] at ho
      exact ho
  have hmaps : ∀ k es M, A.maps.get k = some es → ρ k = some M → (w.heap.setIfInBounds L.B o')[M.B]? = w.heap[M.B]? := by
    intro k es M hk hM'
    have hne : k ≠ r := fun e => by rw [e, hnm] at hk; cases hk
    exact heap_set_ne w L.B _ (hobj k M (.inl (by rw [hk]; rfl)) hne hM')
  have hIterW : ∀ m s o, IterR ρ w m s o → (∀ k, m = some k → (A.maps.get k).isSome) → IterR ρ { w with heap := w.heap.setIfInBounds L.B o' } m s o := by
    intro m s o hi hmm
    cases m with
    | none => exact hi
    | some q =>
      obtain ⟨Lk, ents, clk, h1, h2, h3⟩ := hi
      obtain ⟨es, hes⟩ := Option.isSome_iff_exists.1 (hmm q rfl)
      exact ⟨Lk, ents, clk, h1, by simp only; rw [hmaps q es Lk hes h1]; exact h2, h3⟩
  refine ⟨{ bs := by simp only [Array.size_setIfInBounds]; exact h.bs, lo := h.lo, hi := h.hi, dom := fun b M e => by simp only [Array.size_setIfInBounds]; exact h.dom b M e, fixd := h.fixd, above := h.above, blk := h.blk, own := h.own, low := h.low,
            there := fun b bl M e1 e2 e3 => ⟨(h.there b bl M e1 e2 e3).1, fun j hj => by rw [hcell b bl M _ e1 e3, hfrz b bl M _ e1 e3]; exact (h.there b bl M e1 e2 e3).2 j hj⟩,
            cells := fun b bl M e1 e2 e3 i v hv => by rw [hcell b bl M _ e1 e3]; exact h.cells b bl M e1 e2 e3 i v hv,
            sep := h.sep, fams := h.fams, obj := fun r' ho => h.obj r' (hio r' ho), osep := fun r' b M M' ho => h.osep r' b M M' (hio r' ho),
            maps := ?_, iters := ?_, loops := ?_, marks := ?_ }, ?_⟩
  · intro r' es2 M hr' hM'
    obtain ⟨ents, clk, g1, g2⟩ := h.maps r' es2 M hr' hM'
    exact ⟨ents, clk, by simp only; rw [hmaps r' es2 M hr' hM']; exact g1, g2⟩
  · intro r' m' seen M hr' hM'
    by_cases e : r' = r
    · subst e
      rw [hL] at hM'
      injection hM' with hM'
      subst hM'
      obtain ⟨g1, g2⟩ := nI m' seen hr'
      exact ⟨g1, o', by simp [hdom.2], hIterW _ _ _ g2 g1⟩
    · have hr2 : A.iters.get r' = some (m', seen) := by rw [← hI r' e]; exact hr'
      obtain ⟨g1, o, g2, g3⟩ := h.iters r' m' seen M hr2 hM'
      exact ⟨g1, o, by simp only; rw [heap_set_ne w L.B _ (hobj r' M (.inr (.inl (by rw [hr2]; rfl))) e hM')]; exact g2, hIterW _ _ _ g3 g1⟩
  · intro r' l M hr' hM'
    by_cases e : r' = r
    · subst e
      rw [hL] at hM'
      injection hM' with hM'
      subst hM'
      exact ⟨o', by simp [hdom.2], nL l hr'⟩
    · have hr2 : A.loops.get r' = some l := by rw [← hLp r' e]; exact hr'
      obtain ⟨o, ho, g⟩ := h.loops r' l M hr2 hM'
      exact ⟨o, by simp only; rw [heap_set_ne w L.B _ (hobj r' M (.inr (.inr (.inl (by rw [hr2]; rfl)))) e hM')]; exact ho, g⟩
  · intro r' M hr' hM'
    by_cases e : r' = r
    · subst e
      rw [hL] at hM'
      injection hM' with hM'
      subst hM'
      rw [nK hr']
      simp [hdom.2]
    · have hr2 : A.marks.get r' = some true := by rw [← hK r' e]; exact hr'
      simp only
      rw [heap_set_ne w L.B _ (hobj r' M (.inr (.inr (.inr (by rw [hr2]; rfl)))) e hM')]
      exact h.marks r' M hr2 hM'
  · exact ⟨Sub.refl ρ, fun b M h1 h2 => (by rw [h1] at h2; cases h2), fun B hB hn => heap_set_ne w L.B _ (fun e => hn r L hr100 hL e.symm), by simp, rfl, rfl, rfl⟩

/-- A loop's record is changed. -/
theorem Sim.setLoop {base : Nat} {A : AW} {ρ : Rho} {w : World} (h : Sim base A ρ w) {r : Nat} {L : Loc} {l l' : ALoop} (hr : A.loops.get r = some l) (hL : ρ r = some L) (o' : Obj) (ho : LoopR ρ l' o') :
    Sim base { A with loops := A.loops.set dep r l' } ρ { w with heap := w.heap.setIfInBounds L.B o' } ∧ Ext ρ w ρ { w with heap := w.heap.setIfInBounds L.B o' } := by
  have hro : isObj A r := .inr (.inr (.inl (by rw [hr]; rfl)))
  have hdom := h.dom r L hL
  have hhi := h.hi
  obtain ⟨o, ho1, tm, R, _, ho2⟩ := h.loops r l L hr hL
  rw [ho2] at ho1
  refine h.setO hro hL ?_ o' A.iters (A.loops.set dep r l') A.marks (fun _ _ => rfl) (fun k hk => get_set_ne _ _ (by omega) hk) (fun _ _ => rfl) ?_ ?_ ?_
  · cases hm : A.maps.get r with
    | none => rfl
    | some es =>
      obtain ⟨ents, clk, g, _⟩ := h.maps r es L hm hL
      rw [ho1] at g; cases g
  · intro m s hi
    obtain ⟨_, o2, g1, g2⟩ := h.iters r m s L hi hL
    rw [ho1] at g1
    injection g1 with g1
    subst g1
    unfold IterR at g2
    split at g2
    · obtain ⟨_, _, q⟩ := g2; cases q
    · obtain ⟨_, _, _, _, _, q⟩ := g2
      split at q
      · cases q
      · obtain ⟨_, _, q⟩ := q; cases q
  · intro l2 h2
    rw [get_set_same _ _ _ (by omega)] at h2
    injection h2 with h2
    subst h2
    exact ho
  · intro hk
    have := h.marks r L hk hL
    rw [ho1] at this; cases this

/-- A mark is taken. -/
theorem Sim.setMark {base : Nat} {A : AW} {ρ : Rho} {w : World} (h : Sim base A ρ w) {r : Nat} {L : Loc} (hr : A.marks.get r = some true) (hL : ρ r = some L) (o' : Obj) :
    Sim base { A with marks := A.marks.set dep r false } ρ { w with heap := w.heap.setIfInBounds L.B o' } ∧ Ext ρ w ρ { w with heap := w.heap.setIfInBounds L.B o' } := by
  have hro : isObj A r := .inr (.inr (.inr (by rw [hr]; rfl)))
  have hdom := h.dom r L hL
  have hhi := h.hi
  have ho1 := h.marks r L hr hL
  refine h.setO hro hL ?_ o' A.iters A.loops (A.marks.set dep r false) (fun _ _ => rfl) (fun _ _ => rfl) (fun k hk => get_set_ne _ _ (by omega) hk) ?_ ?_ ?_
  · cases hm : A.maps.get r with
    | none => rfl
    | some es =>
      obtain ⟨ents, clk, g, _⟩ := h.maps r es L hm hL
      rw [ho1] at g; cases g
  · intro m s hi
    obtain ⟨_, o2, g1, g2⟩ := h.iters r m s L hi hL
    rw [ho1] at g1
    injection g1 with g1
    subst g1
    unfold IterR at g2
    split at g2
    · obtain ⟨_, _, q⟩ := g2; cases q
    · obtain ⟨_, _, _, _, _, q⟩ := g2
      split at q
      · cases q
      · obtain ⟨_, _, q⟩ := q; cases q
  · intro l2 h2
    obtain ⟨o2, g1, _, _, _, g2⟩ := h.loops r l2 L h2 hL
    rw [ho1] at g1
    injection g1 with g1
    rw [← g1] at g2; cases g2
  · intro hk
    rw [get_set_same _ _ _ (by omega)] at hk
    cases hk
end Go.AL
end
