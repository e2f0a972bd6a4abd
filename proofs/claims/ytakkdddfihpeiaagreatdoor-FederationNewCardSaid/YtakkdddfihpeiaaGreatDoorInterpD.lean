/- Code, calls, deferred calls and ranges over functions: the machine goes as the interpreter goes. -/
import Derived.Test.YtakkdddfihpeiaaGreatDoorInterpC
import Derived.Recover
import Derived.Defers
import Derived.RangeFuncIn
set_option linter.all false

section
namespace Go.AL
open Go Go.MapKept

theorem VR.tuple1 {ρ : Rho} {a a' : Value} (h : VR ρ a a') : VR ρ (.tuple #[a]) (.tuple #[a']) := .tuple [a] [a'] rfl (VRs.cons h (VRs.nil ρ)).2
theorem VR.tuple3 {ρ : Rho} {a a' b b' c c' : Value} (h : VR ρ a a') (k : VR ρ b b') (l : VR ρ c c') : VR ρ (.tuple #[a, b, c]) (.tuple #[a', b', c']) := .tuple [a, b, c] [a', b', c'] rfl (VRs.cons h (VRs.cons k (VRs.cons l (VRs.nil ρ)))).2

theorem EfV.same {P : Program} {base : Nat} {A : AW} {ρ : Rho} {w : World} (h : Sim base A ρ w) {s : Sem Value} {v v' : Value} (hv : VR ρ v v') (hs : s.run P w = .ok v' w) : EfV P base A ρ w s v := ⟨v', w, ρ, hs, h, Ext.refl ρ w, hv⟩

theorem nextA_run {P : Program} {base : Nat} {A : AW} {ρ : Rho} {w : World} (h : Sim base A ρ w) {it it' : Value} {r : R} (hi : VR ρ it it') (e : nextA A it = some r) (ty : TypeId) :
    ∃ v A', r = .val v A' ∧ EfV P base A' ρ w (Instr.next it' false ty) v := by
  unfold nextA at e
  split at e
  · rename_i r0 sp
    split at e
    · rename_i m seen hit
      have hi0 := hi
      cases hi with
      | ptrg b o hlt =>
        have := (h.obj r0 (.inr (.inl (by rw [hit]; rfl)))).1
        omega
      | ptr b o L hL =>
        obtain ⟨h1, o', ho, hI⟩ := h.iters r0 m seen L hit hL
        have h0 : L.O = 0 := by
          obtain ⟨_, _, L2, q1, q2⟩ := h.obj r0 (.inr (.inl (by rw [hit]; rfl)))
          rw [hL] at q1; injection q1 with q1; rw [q1]; exact q2
        have hz : L.O + 0 = 0 := by omega
        cases m with
        | none =>
          obtain ⟨s, l, rfl⟩ := hI
          simp only at e
          split at e
          · injection e with e; subst e
            refine ⟨_, A, rfl, EfV.same h (VR.tuple1 (.bool false)) ?_⟩
            simp only [Instr.next, hz, Sem.run_bind, run_getObj_any ho (fun _ _ _ q => by cases q), Result.andThen_ok, Sem.run_pure]
          · exfalso; rename_i q; simp at q
          · exfalso; rename_i q; simp at q
          · cases e
        | some k =>
          obtain ⟨es, hes⟩ := Option.isSome_iff_exists.1 (h1 k rfl)
          obtain ⟨Lm, ents, clk, e1, e2, e3⟩ := hI
          obtain ⟨ents2, clk2, e5, e6, e7, e8⟩ := h.maps k es Lm hes e1
          rw [e2] at e5
          injection e5 with e5
          injection e5 with e5 e5'
          subst e5 e5'
          simp only [hes] at e
          split at e
          · -- an empty map
            rename_i q1
            injection q1 with q1
            subst q1
            injection e with e; subst e
            simp only at e3
            subst e3
            have he0 : ents = #[] := by
              have := e6.1
              simp at this
              exact Array.eq_empty_of_size_eq_zero this.symm
            subst he0
            refine ⟨_, A, rfl, EfV.same h (VR.tuple1 (.bool false)) ?_⟩
            simp only [Instr.next, hz, Sem.run_bind, run_getObj_any ho (fun _ _ _ q => by cases q), Result.andThen_ok, Go.MapKept.run_getObj_map e2]
            have hf0 : ∀ q : MapEntry → Bool, Array.filter q #[] 0 0 = #[] := fun q => rfl
            simp [Question.forced, hf0]
          · -- one entry, taken
            rename_i q1
            injection q1 with q1
            subst q1
            injection e with e; subst e
            simp only at e3
            obtain ⟨x, e4, rfl⟩ := e3
            have he0 : ents = #[x] := by apply Array.ext'; simpa using e4
            subst he0
            have hb : x.born < clk := e8 x (by simp)
            refine ⟨_, A, rfl, EfV.same h (VR.tuple1 (.bool false)) ?_⟩
            simp only [Instr.next, hz, Sem.run_bind, run_getObj_any ho (fun _ _ _ q => by cases q), Result.andThen_ok, Go.MapKept.run_getObj_map e2]
            have hnb : ¬ clk ≤ x.born := by omega
            simp [Question.forced, hnb]
          · -- one entry
            rename_i q1
            injection q1 with q1
            subst q1
            injection e with e; subst e
            simp only at e3
            subst e3
            have hl : ents.toList.length = 1 := by have := e6.1; simp at this; simpa using this.symm
            obtain ⟨x, hx⟩ : ∃ x, ents.toList = [x] := by
              match hh : ents.toList with
              | [] => rw [hh] at hl; simp at hl
              | [x] => exact ⟨x, rfl⟩
              | a :: b :: c => rw [hh] at hl; simp at hl
            have he0 : ents = #[x] := by apply Array.ext'; simpa using hx
            subst he0
            have hb : x.born < clk := e8 x (by simp)
            obtain ⟨s1, s2⟩ := h.setIter hit hL (.mapIter (some Lm.B) clk #[x.born] clk) (s1 := true) ⟨Lm, #[x], clk, e1, e2, x, rfl, rfl⟩ ⟨_, _, _, _, rfl⟩
            refine ⟨_, _, rfl, .tuple #[.bool true, x.key, x.val], _, ρ, ?_, s1, s2, VR.tuple3 (.bool true) (e6.2 0 (by simp) (by simp)) (e7.2 0 (by simp) (by simp))⟩
            simp only [Instr.next, hz, Sem.run_bind, run_getObj_any ho (fun _ _ _ q => by cases q), Result.andThen_ok, Go.MapKept.run_getObj_map e2]
            have hnb : ¬ clk ≤ x.born := by omega
            simp [Question.forced, hnb, hb, run_setObj_any ho (fun _ _ _ q => by cases q)]
          · cases e
    · cases e
  · cases e
end Go.AL
end

section
namespace Go.AL
open Go Go.MapKept

/-! ## Allocations -/
theorem Ext.upd {ρ : Rho} {w w' : World} (h : Ext ρ w ρ w') {n : Nat} {L : Loc} (hn : ρ n = none) (h100 : 100 ≤ n) (hL : w.heap.size ≤ L.B) : Ext ρ w (upd ρ n L) w' :=
  ⟨fun b M e => sub_upd L hn b M (h.sub b M e), fun b M e1 e2 => (by
    by_cases e : b = n
    · subst e
      rw [upd_same] at e1
      injection e1 with e1
      subst e1
      exact ⟨h100, .inl hL⟩
    · rw [upd_ne L e, e2] at e1; cases e1), h.frame, h.size, h.os, h.tape, h.output⟩

/-- What an operation with a value does. -/
def ValOut (P : Program) (base : Nat) (ρ : Rho) (w : World) (s : Sem Next) (v : Value) (A' : AW) : Prop :=
  ∃ v' w' ρ', s.run P w = .ok (.value v') w' ∧ Sim base A' ρ' w' ∧ Ext ρ w ρ' w' ∧ VR ρ' v v'
theorem EfV.out {P : Program} {base : Nat} {A' : AW} {ρ : Rho} {w : World} {s : Sem Value} {v : Value} (h : EfV P base A' ρ w s v) : ValOut P base ρ w (do pure (.value (← s))) v A' := by
  obtain ⟨v', w', ρ', h1, h2⟩ := h
  exact ⟨v', w', ρ', by rw [Sem.run_bind, h1]; rfl, h2⟩
theorem AlR.out {P : Program} {base : Nat} {A : AW} {ρ : Rho} {w : World} (h : Sim base A ρ w) {r : R} {s : Sem Next} (k : AlR P ρ A r s) : ∃ v A', r = .val v A' ∧ ValOut P base ρ w s v A' := by
  obtain ⟨v, cells, e, rfl, hn, cells', hR, hw⟩ := k
  obtain ⟨v', w1, arr, e0, fr, h1, h2, h3, h4, h5⟩ := hw w
  obtain ⟨s1, s2⟩ := h.alloc h1 hn arr e0 e fr h3 0 cells cells' hR h4 A.next A.next (.inl ⟨rfl, rfl⟩)
  exact ⟨v, _, rfl, v', _, _, h2, s1, s2, h5 _ (upd_same _ _ _)⟩

theorem newObj_sim {base : Nat} {A : AW} {ρ : Rho} {w : World} (h : Sim base A ρ w) (o : Obj) : Sim base A ρ (w.alloc o) ∧ Ext ρ w ρ (w.alloc o) ∧ (w.alloc o).heap[w.heap.size]? = some o ∧ w.heap.size < (w.alloc o).heap.size ∧ ∀ b L, 100 ≤ b → ρ b = some L → L.B ≠ w.heap.size := by
  obtain ⟨s1, s2⟩ := h.allocObj (SameMem.refl w) o
  refine ⟨s1, s2, by show (w.heap.push o)[w.heap.size]? = some o; simp, by show w.heap.size < (w.heap.push o).size; simp, fun b L _ hL e => ?_⟩
  have := (h.dom b L hL).2
  omega

theorem makeMap_run {p : AP} {P : Program} (fa : Fa p P) {base : Nat} {A : AW} {ρ : Rho} {w : World} (h : Sim base A ρ w) {t : TypeId} {x x' : Option Value} {r : R} (hx : VRO ρ x x') (e : opMakeMap p A t x = some r) :
    ∃ v A', r = .val v A' ∧ EfV P base A' ρ w (Instr.makeMap t x') v := by
  unfold opMakeMap at e
  split at e
  · rename_i kt et hu
    split at e
    · rename_i hi hn
      injection e with e; subst e
      have hn' := ble_true hn
      obtain ⟨s1, s2, s3, s4, s5⟩ := newObj_sim h (.map #[] 0)
      have hf := h.fresh (Nat.le_refl A.next)
      have hlo := h.lo
      have hG : ∀ k, k ≠ A.next → (A.maps.set dep A.next []).get k = A.maps.get k := fun k hk => get_set_ne _ _ (by omega) hk
      have hnone : ∀ r, isObj A r → r ≠ A.next := fun r ho e => by
        obtain ⟨_, _, L, hL, _⟩ := h.obj r ho
        rw [e, hf] at hL; cases hL
      have key := s1.adoptO hn' w.heap.size h.bs s4 s5 (A.maps.set dep A.next []) A.iters A.loops A.marks hG (fun _ _ => rfl) (fun _ _ => rfl) (fun _ _ => rfl)
        (fun es hes => by
          rw [get_set_same _ _ _ (by omega)] at hes
          injection hes with hes
          subst hes
          exact ⟨#[], 0, s3, VRs.nil _, VRs.nil _, fun e he => by simp at he⟩)
        (fun m seen hi => absurd rfl (hnone _ (.inr (.inl (by rw [hi]; rfl)))))
        (fun l hl => absurd rfl (hnone _ (.inr (.inr (.inl (by rw [hl]; rfl))))))
        (fun hk => absurd rfl (hnone _ (.inr (.inr (.inr (by rw [hk]; rfl))))))
      refine ⟨_, _, rfl, .map (some w.heap.size), w.alloc (.map #[] 0), _, ?_, key, s2.upd (L := ⟨w.heap.size, 0, 0, 0⟩) hf (by omega) (Nat.le_refl _), .map A.next ⟨w.heap.size, 0, 0, 0⟩ (upd_same _ _ _)⟩
      cases x with
      | none =>
        rw [hx.none_l]
        simp [Instr.makeMap]
      | some x =>
        obtain ⟨v', rfl, hv⟩ := hx.some_l
        simp only at hi
        cases hv <;> first | (simp [isIntV] at hi; done) | skip
        simp [Instr.makeMap, run_under fa hu w, asInt, asIntOf]
    · cases e
  · cases e

theorem range_run {p : AP} {P : Program} (fa : Fa p P) {base : Nat} {A : AW} {ρ : Rho} {w : World} (h : Sim base A ρ w) {t : TypeId} {x x' : Value} {r : R} (hx : VR ρ x x') (e : opRange p A t x = some r) :
    ∃ v A', r = .val v A' ∧ EfV P base A' ρ w (Instr.range t x') v := by
  unfold opRange at e
  split at e
  · rename_i kt et m hu hn
    split at e
    · rename_i hm
      injection e with e; subst e
      have hn' := ble_true hn
      have hf := h.fresh (Nat.le_refl A.next)
      have hlo := h.lo
      have hG : ∀ s k, k ≠ A.next → (A.iters.set dep A.next s).get k = A.iters.get k := fun s k hk => get_set_ne _ _ (by omega) hk
      have hnone : ∀ r, isObj A r → r ≠ A.next := fun r ho e => by
        obtain ⟨_, _, L, hL, _⟩ := h.obj r ho
        rw [e, hf] at hL; cases hL
      have gen : ∀ o : Obj, (∀ k, m = some k → (A.maps.get k).isSome) → IterR (upd ρ A.next ⟨w.heap.size, 0, 0, 0⟩) (w.alloc o) m false o → (Instr.range t x').run P w = .ok (.pointer (some ⟨w.heap.size, 0, none⟩)) (w.alloc o) →
          EfV P base { A with iters := A.iters.set dep A.next (m, false), next := Nat.succ A.next } ρ w (Instr.range t x') (.pointer (some ⟨A.next, 0, none⟩)) := by
        intro o g1 g2 g3
        obtain ⟨s1, s2, s3, s4, s5⟩ := newObj_sim h o
        have key := s1.adoptO hn' w.heap.size h.bs s4 s5 A.maps (A.iters.set dep A.next (m, false)) A.loops A.marks (fun _ _ => rfl) (hG _) (fun _ _ => rfl) (fun _ _ => rfl)
          (fun es hes => absurd rfl (hnone _ (.inl (by rw [hes]; rfl))))
          (fun m' seen hi => by
            rw [get_set_same _ _ _ (by omega)] at hi
            injection hi with hi
            injection hi with hi1 hi2
            subst hi1 hi2
            exact ⟨g1, o, s3, g2⟩)
          (fun l hl => absurd rfl (hnone _ (.inr (.inr (.inl (by rw [hl]; rfl))))))
          (fun hk => absurd rfl (hnone _ (.inr (.inr (.inr (by rw [hk]; rfl))))))
        exact ⟨_, _, _, g3, key, s2.upd (L := ⟨w.heap.size, 0, 0, 0⟩) hf (by omega) (Nat.le_refl _), VR.ptr A.next 0 ⟨w.heap.size, 0, 0, 0⟩ (upd_same _ _ _)⟩
      cases m with
      | none =>
        cases hx
        refine ⟨_, _, rfl, gen (.mapIter none 0 #[] 0) (fun k hk => by cases hk) ⟨0, 0, rfl⟩ ?_⟩
        simp [Instr.range, run_under fa hu w]
      | some k =>
        obtain ⟨L, hL, rfl⟩ := hx.map_inv
        simp only [hasMap] at hm
        split at hm
        · rename_i es hes
          obtain ⟨ents, clk, g1, g2⟩ := h.maps k es L hes hL
          have hlt := (h.dom k L hL).2
          refine ⟨_, _, rfl, gen (.mapIter (some L.B) clk #[] clk) (fun k' hk' => by injection hk' with hk'; subst hk'; rw [hes]; rfl) ⟨L, ents, clk, sub_upd _ hf _ _ hL, ?_, rfl⟩ ?_⟩
          · rw [heap_alloc_ne w _ hlt]; exact g1
          · simp [Instr.range, run_under fa hu w, Go.MapKept.run_getObj_map g1]
        · cases hm
    · cases e
  · cases e

/-! ## Methods -/
theorem findM_eq (name : String) : ∀ l : List Method, findM name l = l.find? (·.name == name)
  | [] => rfl
  | m :: r => by
    unfold findM
    rw [List.find?_cons, findM_eq name r]
    cases (m.name == name) <;> rfl
theorem methodA_run {p : AP} {P : Program} (fa : Fa p P) {ρ : Rho} {t : TypeId} {v v' u : Value} {name : String} {g : FuncId} (hv : VR ρ v v') (h : methodA p t v name = some (g, u)) :
    ∃ u', VR ρ u u' ∧ ∀ (n : Nat) (w : World), (method (n + 1) t v' name).run P w = .ok (g, u') w := by
  unfold methodA at h
  split at h
  · cases h
  · rename_i i d ht
    have hu := run_under fa (under_of_get ht)
    split at h
    · cases h
    · rename_i m hm
      rw [findM_eq] at hm
      have hm' : i.methods.find? (·.name == name) = some m := by rw [← Array.find?_toList]; exact hm
      split at h
      · cases h
      · rename_i hpath
        have main : ∀ (f : FuncId) (b : Bool), m.func = some (f, b) → (∀ (q : Option String) (w : World), (receiverAt t (.val v') b q).run P w = .ok v' w) → ∀ (n : Nat) (w : World), (method (n + 1) t v' name).run P w = .ok (f, v') w := by
          intro f b hfb hrec n w
          simp only [method, Sem.run_bind, run_typeI fa (info_of_get ht) w, Result.andThen_ok, hm', hpath, follow, Sem.run_pure, hfb, hrec]
        split at h
        · rename_i f ptr hfn
          injection h with h
          injection h with h1 h2
          subst h1 h2
          refine ⟨v', hv, main _ _ hfn fun q w => ?_⟩
          simp [receiverAt, hu w, Place.get]
        · cases h
        · cases h
        · rename_i f hfn hnp
          injection h with h
          injection h with h1 h2
          subst h1 h2
          refine ⟨v', hv, main _ _ hfn fun q w => ?_⟩
          simp only [receiverAt, Sem.run_bind, hu w, Result.andThen_ok]
          rfl
        · cases h
end Go.AL
end

section
namespace Go.AL
open Go

/-- What the interpreter says of an operation, and the operation's run. -/
def OpOut (P : Program) (base : Nat) (ρ : Rho) (w : World) (s : Sem Next) : R → Prop
  | .val v A' => ValOut P base ρ w s v A'
  | .skip A' => ∃ w' ρ', s.run P w = .ok .skip w' ∧ Sim base A' ρ' w' ∧ Ext ρ w ρ' w'
  | .call g args => ∃ args', VRs ρ args args' ∧ ∀ fn c, P.funcs[g]? = some fn → fn.body = some c → (fn.name == "runtime.NumGoroutine") = false → s.run P w = .ok (.enter g ⟨args'⟩) w
  | .round l args => ∃ L args', ρ l = some L ∧ VRs ρ args args' ∧ s.run P w = (Instr.yield L.B ⟨args'⟩).run P w
  | .defer g args => ∃ fa cap, VRs ρ args (fa ++ cap) ∧ s.run P w = .ok (.defer { target := .fn (.func g) ⟨cap⟩, args := ⟨fa⟩ }) w
  | .recover => s.run P w = .ok .recover w

theorem callFunc_enter {P : Program} {w : World} {g : FuncId} {args : Array Value} {fn : Func} {c : Code} (h1 : P.funcs[g]? = some fn) (h2 : fn.body = some c) (h3 : (fn.name == "runtime.NumGoroutine") = false) :
    (callFunc g args).run P w = .ok (.enter g args) w := by
  simp only [callFunc, Sem.run_bind, run_program, Result.andThen_ok, h1, h3, h2]
  rfl

theorem VR.func_inv {ρ : Rho} {g : FuncId} {a c : Array Value} {v' : Value} (h : VR ρ (.func (.func g) a c) v') : ∃ a' c', v' = .func (.func g) ⟨a'⟩ ⟨c'⟩ ∧ VRs ρ a.toList a' ∧ VRs ρ c.toList c' := by
  cases h with
  | func f a a' c c' h1 h2 h3 h4 => exact ⟨a', c', rfl, ⟨h1, h2⟩, ⟨h3, h4⟩⟩

/-- Calls. -/
theorem callA_run {p : AP} {P : Program} (fa : Fa p P) {base : Nat} {A : AW} {ρ : Rho} {w : World} {T : Tr Value} {nt : Nat} {a : Act} (hT : TR ρ T nt a.tmps) {c : Call} {ty : TypeId} {r : R}
    (hc : ∀ b, c.callee ≠ .builtin b) (h : opCall p T A c = some r) : OpOut P base ρ w (do let d ← resolve a.eval c ty; invoke d.target d.args) r := by
  unfold opCall at h
  split at h
  · rename_i hp
    have hv := evalL_VRs hT c.args.toList hp
    unfold callA at h
    have hargs : c.args.map a.eval = ⟨c.args.toList.map a.eval⟩ := by apply Array.ext'; simp
    split at h
    · rename_i b hb; exact absurd hb (hc b)
    · rename_i f hf
      split at h
      · cases h
      · rename_i hpf
        have hV := eval_VR hT hpf
        split at h
        · rename_i g first cap hg
          injection h with h; subst h
          rw [hg] at hV
          obtain ⟨a', c', e1, e2, e3⟩ := hV.func_inv
          refine ⟨a' ++ (c.args.toList.map a.eval ++ c'), e2.app (hv.app e3), fun fn cd q1 q2 q3 => ?_⟩
          have hd : (resolve a.eval c ty).run P w = .ok { target := .fn (.func g) ⟨c'⟩, args := ⟨a' ++ c.args.toList.map a.eval⟩ } w := by
            simp only [resolve, hf, e1, Deferred.ofValue, hargs, Sem.run_pure]
            congr 2
            simp
          rw [Sem.run_bind, hd, Result.andThen_ok]
          simp only [invoke]
          rw [callFunc_enter q1 q2 q3]
          congr 2
          simp
        · rename_i l x hg
          injection h with h; subst h
          rw [hg] at hV
          cases hq : a.eval f <;> rw [hq] at hV <;> cases hV
          rename_i L hL
          refine ⟨L, c.args.toList.map a.eval, hL, hv, ?_⟩
          have hd : (resolve a.eval c ty).run P w = .ok { target := .fn (.yield L.B) #[], args := ⟨c.args.toList.map a.eval⟩ } w := by
            simp only [resolve, hf, hq, Deferred.ofValue, hargs, Sem.run_pure]
            congr 2
            simp
          rw [Sem.run_bind, hd, Result.andThen_ok]
          rfl
        · cases h
    · rename_i rcv m hf
      split at h
      · cases h
      · rename_i hpf
        have hV := eval_VR hT hpf
        split at h
        · rename_i t v hiv
          split at h
          · rename_i g u hm
            injection h with h; subst h
            rw [hiv] at hV
            cases hq : a.eval rcv <;> rw [hq] at hV <;> cases hV
            rename_i v' hv'
            obtain ⟨u', hu', hrun⟩ := methodA_run fa hv' hm
            refine ⟨u' :: c.args.toList.map a.eval, VRs.cons hu' hv, fun fn cd q1 q2 q3 => ?_⟩
            have hd : (resolve a.eval c ty).run P w = .ok { target := .fn (.method m) #[], args := ⟨.iface t v' :: c.args.toList.map a.eval⟩ } w := by
              simp only [resolve, hf, hq, hargs, Sem.run_pure]
              congr 2
              apply Array.ext'
              simp
            rw [Sem.run_bind, hd, Result.andThen_ok]
            have hex : (⟨Value.iface t v' :: c.args.toList.map a.eval⟩ : Array Value).extract 1 (⟨Value.iface t v' :: c.args.toList.map a.eval⟩ : Array Value).size = ⟨c.args.toList.map a.eval⟩ := by
              apply Array.ext'
              simp
              exact List.take_of_length_le (by simp)
            simp only [invoke]
            simp only [List.getElem?_toArray, List.getElem?_cons_zero, callMethod, Sem.run_bind, run_program, Result.andThen_ok, Made.depth]
            rw [show P.types.size + 100 = (P.types.size + 99) + 1 from rfl, hrun, Result.andThen_ok]
            simp only [hex]
            rw [callFunc_enter q1 q2 q3]
            congr 2
            apply Array.ext'
            simp
          · cases h
        · cases h
  · cases h
end Go.AL
end

section
namespace Go.AL
open Go

theorem arr2 {α : Type} {x : Array α} {a b : α} (h : x.toList = [a, b]) : x = #[a, b] := by apply Array.ext'; simpa using h

theorem bi_append {p : AP} {A : AW} {ts : List TypeId} {xs : List Value} {r : R} (h : builtinA p A .append ts xs = some r) : ∃ st xt s x v A', ts = [st, xt] ∧ xs = [s, x] ∧ appendA p A st xt s x = some (v, A') ∧ r = .val v A' := by
  rcases ts with _ | ⟨st, _ | ⟨xt, _ | ⟨z, ts⟩⟩⟩
  · rcases xs with _ | ⟨s, _ | ⟨x, _ | ⟨z, xs⟩⟩⟩ <;> simp [builtinA] at h
  · rcases xs with _ | ⟨s, _ | ⟨x, _ | ⟨z, xs⟩⟩⟩ <;> simp [builtinA] at h
  · rcases xs with _ | ⟨s, _ | ⟨x, _ | ⟨z, xs⟩⟩⟩
    · simp [builtinA] at h
    · simp [builtinA] at h
    · have h' : (match appendA p A st xt s x with | some (v, A) => some (R.val v A) | none => none) = some r := h
      split at h'
      · rename_i v A' ha
        injection h' with h'
        exact ⟨st, xt, s, x, v, A', rfl, rfl, ha, h'.symm⟩
      · cases h'
    · simp [builtinA] at h
  · rcases xs with _ | ⟨s, _ | ⟨x, _ | ⟨z, xs⟩⟩⟩ <;> simp [builtinA] at h
theorem bi_copy {p : AP} {A : AW} {ts : List TypeId} {xs : List Value} {r : R} (h : builtinA p A .copy ts xs = some r) : ∃ d s, xs = [d, s] := by
  rcases ts with _ | ⟨st, ts⟩
  · rcases xs with _ | ⟨s, _ | ⟨x, _ | ⟨z, xs⟩⟩⟩ <;> simp [builtinA] at h
  · rcases xs with _ | ⟨s, _ | ⟨x, _ | ⟨z, xs⟩⟩⟩
    · simp [builtinA] at h
    · simp [builtinA] at h
    · exact ⟨_, _, rfl⟩
    · simp [builtinA] at h
theorem bi_recover {p : AP} {A : AW} {ts : List TypeId} {xs : List Value} {r : R} (h : builtinA p A .recover ts xs = some r) : r = .recover := by
  rcases xs with _ | ⟨s, xs⟩
  · have h' : some R.recover = some r := by rcases ts with _ | ⟨st, ts⟩ <;> exact h
    injection h' with h'
    exact h'.symm
  · rcases ts with _ | ⟨st, ts⟩ <;> simp [builtinA] at h
theorem builtin_run {p : AP} {P : Program} (fa : Fa p P) {base : Nat} {A : AW} {ρ : Rho} {w : World} (h : Sim base A ρ w) {T : Tr Value} {nt : Nat} {a : Act} (hT : TR ρ T nt a.tmps) {b : Builtin} {args : Array Operand} {ts : Array TypeId} {ty : TypeId} {r : R}
    (hr : opCall p T A { callee := .builtin b, args := args, argTypes := ts } = some r) (hb : b = .append ∨ b = .copy ∨ b = .recover ∨ b = .len ∨ b = .cap ∨ b = .min ∨ b = .max) (cs : Array Bool) :
    OpOut P base ρ w (builtin b ts ty cs (args.map a.eval)) r := by
  unfold opCall at hr
  split at hr
  · rename_i hp
    have hv := evalL_VRs hT args.toList hp
    have hv' : VRs ρ (evalL T args.toList) (args.map a.eval).toList := by rw [Array.toList_map]; exact hv
    have hr' : builtinA p A b ts.toList (evalL T args.toList) = some r := hr
    rcases hb with rfl | rfl | rfl | rfl | hb
    · obtain ⟨st, xt, s, x, v, A', hts, hxs, ha, rfl⟩ := bi_append hr'
      rw [hxs] at hv'
      obtain ⟨s', l1, e1, e2, e3⟩ := hv'.uncons
      obtain ⟨x', l2, rfl, e5, e6⟩ := e3.uncons
      rw [e6.of_nil] at e1
      have k := (appendA_run fa h (ty := ty) e2 e5 ha).out
      rw [arr2 hts, arr2 e1]
      exact k
    · obtain ⟨d, s, hxs⟩ := bi_copy hr'
      rw [hxs] at hv' hr'
      obtain ⟨d', l1, e1, e2, e3⟩ := hv'.uncons
      obtain ⟨s', l2, rfl, e5, e6⟩ := e3.uncons
      rw [e6.of_nil] at e1
      obtain ⟨v, A', rfl, k⟩ := copy_run fa h (ty := ty) e2 e5 hr'
      rw [arr2 e1]
      exact k.out
    · rw [bi_recover hr']
      rfl
    · obtain ⟨v, rfl, v', h1, h2⟩ := len_run fa h.rd (ty := ty) hv' hr' cs
      exact ⟨v', w, ρ, h2, h, Ext.refl ρ w, h1⟩
    · obtain ⟨v, rfl, v', h1, h2⟩ := builtin_pure fa (ty := ty) hb hv' hr' cs
      exact ⟨v', w, ρ, h2 w, h, Ext.refl ρ w, h1⟩
  · cases hr

set_option maxHeartbeats 400000 in
/-- ONE OPERATION. -/
theorem op_run {p : AP} {P : Program} (fa : Fa p P) {base : Nat} {A : AW} {ρ : Rho} {w : World} (h : Sim base A ρ w) {T : Tr Value} {nt : Nat} {a : Act} (hT : TR ρ T nt a.tmps) {o : Oper} {r : R}
    (hr : opA p T A o = some r) : OpOut P base ρ w (execOp a.eval o) r := by
  by_cases hk : kindOf p o = .pure
  · obtain ⟨v, rfl, v', h1, h2⟩ := pure_op fa hT hk hr
    exact ⟨v', w, ρ, h2 w, h, Ext.refl ρ w, h1⟩
  by_cases hk2 : kindOf p o = .read
  · obtain ⟨v, rfl, v', h1, h2⟩ := read_op fa h.rd hT hk2 hr
    exact ⟨v', w, ρ, h2, h, Ext.refl ρ w, h1⟩
  have val : ∀ {s : Sem Next}, (∃ v A', r = .val v A' ∧ ValOut P base ρ w s v A') → OpOut P base ρ w s r := by
    rintro s ⟨v, A', rfl, k⟩; exact k
  have efv : ∀ {s : Sem Value}, (∃ v A', r = .val v A' ∧ EfV P base A' ρ w s v) → OpOut P base ρ w (do pure (.value (← s))) r := by
    rintro s ⟨v, A', rfl, k⟩; exact k.out
  unfold kindOf at hk hk2
  unfold opA at hr
  unfold execOp
  cases ho : o.op with
  | alloc e => simp only [ho] at hr ⊢; exact val (AlR.out h (alloc_run fa hr))
  | box e x => simp only [ho] at hr ⊢; exact val (AlR.out h (box_run hT hr))
  | buildSlice t len parts =>
    simp only [ho] at hr ⊢
    unfold opBuildSlice at hr
    split at hr
    · rename_i hp
      have hq : VRP ρ (evalP T parts.toList) (parts.map fun (i, x) => (i, a.eval x)).toList := by rw [Array.toList_map]; exact evalP_VRP hT parts.toList hp
      have k := AlR.out h (buildSlice_run fa hq hr)
      exact val k
    · cases hr
  | makeSlice t l c =>
    simp only [ho] at hr ⊢
    obtain ⟨h1, h2, hr⟩ := g2_some hr
    exact val (AlR.out h (makeSlice_run fa (eval_VR hT h1) (eval_VR hT h2) hr))
  | store t x y =>
    simp only [ho] at hr ⊢
    obtain ⟨h1, hr⟩ := g1_some hr
    obtain ⟨A', w', rfl, k1, k2, k3⟩ := store_run fa h (eval_VR hT h1) (fun hy => eval_VR hT hy) hr
    exact ⟨w', ρ, by rw [Sem.run_bind, k1]; rfl, k2, k3⟩
  | convert src dst x =>
    simp only [ho] at hr hk hk2 ⊢
    obtain ⟨h1, hr⟩ := g1_some hr
    cases hd : p.under dst with
    | none => simp [valA, convA, hd] at hr
    | some d =>
      cases hs : p.under src with
      | none =>
        cases d with
        | slice e => exact val (AlR.out h (conv_alloc_run fa (eval_VR hT h1) hd hr))
        | _ => exfalso; cases hv : evalO T x <;> simp [valA, convA, hd, hs, hv] at hr
      | some sd =>
        cases d with
        | slice e => exact val (AlR.out h (conv_alloc_run fa (eval_VR hT h1) hd hr))
        | string => cases sd <;> simp [hd, hs] at hk hk2
        | _ => simp [hd, hs] at hk
  | makeMap t x =>
    simp only [ho] at hr ⊢
    obtain ⟨h1, hr⟩ := gO_some hr
    exact efv (makeMap_run fa h (VRO.map hT h1) hr)
  | mapUpdate t m k x =>
    simp only [ho] at hr ⊢
    obtain ⟨h1, hr⟩ := g1_some hr
    unfold opMapUpdate at hr
    split at hr
    · rename_i hp
      obtain ⟨h2, h3⟩ := andB_true hp
      unfold skipO at hr
      split at hr
      · rename_i A' hu
        injection hr with hr; subst hr
        obtain ⟨w', k1, k2, k3⟩ := mapUpdateA_run fa h (eval_VR hT h1) (eval_VR hT h3) (eval_VR hT h2) hu
        exact ⟨w', ρ, by rw [Sem.run_bind, k1]; rfl, k2, k3⟩
      · cases hr
    · cases hr
  | range t x =>
    simp only [ho] at hr ⊢
    obtain ⟨h1, hr⟩ := g1_some hr
    exact efv (range_run fa h (eval_VR hT h1) hr)
  | next it isS =>
    simp only [ho] at hr ⊢
    obtain ⟨h1, hr⟩ := g1_some hr
    unfold opNext at hr
    split at hr
    · exact efv (nextA_run h (eval_VR hT h1) hr o.type)
    · cases hr
  | call c =>
    simp only [ho] at hr hk hk2 ⊢
    cases hc : c.callee with
    | builtin b =>
      obtain ⟨callee, args, ts⟩ := c
      simp only at hc
      subst hc
      have hb : b = .append ∨ b = .copy ∨ b = .recover ∨ b = .len ∨ b = .cap ∨ b = .min ∨ b = .max := by
        cases b <;> first | (simp; done) | (exfalso; revert hr; unfold opCall; split <;> simp [callA, builtinA])
      exact builtin_run fa h hT hr hb _
    | value f => exact callA_run fa hT (fun b => by rw [hc]; exact fun q => by cases q) hr
    | invoke x m => exact callA_run fa hT (fun b => by rw [hc]; exact fun q => by cases q) hr
  | defer c =>
    simp only [ho] at hr ⊢
    unfold opDefer at hr
    split at hr
    · rename_i f hp hf
      obtain ⟨h1, hr⟩ := g1_some hr
      have hv := evalL_VRs hT c.args.toList hp
      have hV := eval_VR hT h1
      unfold deferF at hr
      split at hr
      · rename_i g first cap hg
        injection hr with hr; subst hr
        rw [hg] at hV
        obtain ⟨a', c', e1, e2, e3⟩ := hV.func_inv
        refine ⟨a' ++ c.args.toList.map a.eval, c', ?_, ?_⟩
        · rw [List.append_assoc]; exact e2.app (hv.app e3)
        · have hargs : c.args.map a.eval = ⟨c.args.toList.map a.eval⟩ := by apply Array.ext'; simp
          have hd : (resolve a.eval c o.type).run P w = .ok { target := .fn (.func g) ⟨c'⟩, args := ⟨a' ++ c.args.toList.map a.eval⟩ } w := by
            simp only [resolve, hf, e1, Deferred.ofValue, hargs, Sem.run_pure]
            congr 2
            simp
          rw [Sem.run_bind, hd]
          rfl
      · cases hr
    · cases hr
  | _ => first | (simp only [ho] at hr; cases hr; done) | (exfalso; simp [ho] at hk; done) | (exfalso; simp [ho] at hk2; done)
end Go.AL
end

section
namespace Go.AL
open Go

/-! ## Guards -/
theorem wantedA_run {ρ : Rho} {T : Tr Value} {nt : Nat} {a : Act} (hT : TR ρ T nt a.tmps) (ops : Array Oper) (o : Oper) : wantedA ops.toList T o = Region.wanted o (yielded ops a.tmps) := by
  unfold wantedA Region.wanted
  cases o.guard with
  | none => rfl
  | some jw =>
    obtain ⟨j, want⟩ := jw
    simp only [nthL_eq, Array.getElem?_toList, yielded]
    cases hq : ops[j]? with
    | none => simp
    | some q =>
      simp only [Option.bind_some]
      cases hd : q.dst with
      | none => simp
      | some d =>
        simp only [Option.bind_some]
        rcases Nat.lt_or_ge d nt with hlt | hge
        · have hv := hT.at_ d hlt
          have hsz : d < a.tmps.size := by rw [hT.size]; exact hlt
          rw [Array.getD_eq_getD_getElem?, Array.getElem?_eq_getElem hsz] at hv
          rw [Array.getElem?_eq_getElem hsz]
          simp only [Option.getD_some] at hv ⊢
          unfold tget at hv
          cases hg : T.get d with
          | none =>
            rw [hg] at hv
            simp only at hv
            cases hu : a.tmps[d] <;> rw [hu] at hv <;> cases hv
            cases want <;> simp
          | some v =>
            rw [hg] at hv
            simp only at hv
            cases hu : a.tmps[d] <;> rw [hu] at hv <;> cases hv <;> cases want <;> first | (simp; done) | (rename_i b; cases b <;> simp)
        · have ho := hT.out d hge
          unfold tget at ho
          have hsz : a.tmps[d]? = none := Array.getElem?_eq_none (by rw [hT.size]; exact hge)
          rw [hsz]
          cases hg : T.get d with
          | none => cases want <;> simp
          | some v =>
            rw [hg] at ho
            simp only at ho
            subst ho
            cases want <;> simp [vundef]

/-! ## Frames -/
def KD (rec : Bool) : CallKind := match rec with | true => .deferred | false => .normal
/-- What is asked of the frames under a deferred call: the one that made it is on its way out. -/
def okCs (rec : Bool) (cs : List Frame) : Prop := rec = true → ∃ c cs', cs = c :: cs' ∧ c.mode = .returning

/-- Deferred calls. -/
inductive DR (ρ : Rho) : List (Nat ⊕ (FuncId × List Value)) → List Deferred → Prop
  | nil : DR ρ [] []
  | mark (m : Nat) (L : Loc) (ds ds') : ρ m = some L → DR ρ ds ds' → DR ρ (.inl m :: ds) ({ target := .collected L.B, args := #[] } :: ds')
  | call (g : FuncId) (args fa cap : List Value) (ds ds') : VRs ρ args (fa ++ cap) → DR ρ ds ds' → DR ρ (.inr (g, args) :: ds) ({ target := .fn (.func g) ⟨cap⟩, args := ⟨fa⟩ } :: ds')
theorem DR.mono {ρ ρ' : Rho} (hs : Sub ρ ρ') {ds ds'} (h : DR ρ ds ds') : DR ρ' ds ds' := by
  induction h with
  | nil => exact .nil
  | mark m L ds ds' h1 _ ih => exact .mark m L ds ds' (hs _ _ h1) ih
  | call g args fa cap ds ds' h1 _ ih => exact .call g args fa cap ds ds' (h1.mono hs) ih

structure FR (ρ : Rho) (F : Fr) (a : Act) : Prop where
  tm : TR ρ F.tm F.nt a.tmps
  ds : DR ρ F.defers a.defers
theorem FR.mono {ρ ρ' : Rho} (hs : Sub ρ ρ') {F : Fr} {a : Act} (h : FR ρ F a) : FR ρ' F a := ⟨h.tm.mono hs, h.ds.mono hs⟩
theorem putA_some {F G : Fr} {d : Option Tmp} {v : Value} (h : putA F d v = some G) : (d = none ∧ G = F) ∨ ∃ t, d = some t ∧ t < F.nt ∧ G = ⟨F.tm.set dep t v, F.nt, F.defers⟩ := by
  unfold putA at h
  split at h
  · injection h with h; exact .inl ⟨rfl, h.symm⟩
  · rename_i t
    obtain ⟨tm, nt, ds⟩ := F
    simp only at h
    split at h
    · rename_i hb
      injection h with h
      exact .inr ⟨t, rfl, ble_true hb, h.symm⟩
    · cases h
theorem FR.put {ρ : Rho} {F G : Fr} {a : Act} (h : FR ρ F a) {d : Option Tmp} {v v' : Value} (hp : putA F d v = some G) (hv : VR ρ v v') : FR ρ G (a.put d v') := by
  rcases putA_some hp with ⟨rfl, rfl⟩ | ⟨t, rfl, ht, rfl⟩
  · exact h
  · exact ⟨h.tm.put ht hv, h.ds⟩
theorem putK_some {F : Fr} {d : Option Tmp} {v : Value} {k : Fr → Option (Fr × AW)} {r : Fr × AW} (h : putK F d v k = some r) : ∃ G, putA F d v = some G ∧ k G = some r := by
  unfold putK at h
  split at h
  · rename_i G hG; exact ⟨G, hG, h⟩
  · cases h

/-- Where a piece of code leads. -/
def Arr (P : Program) (m : Machine) (b : Frame) (k : List Item) (cs : List Frame) : Ex → Act → World → Prop
  | .norm, a, w => Steps P m (lone (b.atR a k) cs w)
  | .exit id, a, w => ∃ k1, exitTo id k1 = exitTo id k ∧ Steps P m (lone (b.atR a (.code (.exit id) :: k1)) cs w)
  | .ret, a, w => ∃ k1, Steps P m (lone (b.atR a (.code .ret :: k1)) cs w)
theorem Arr.of_steps {P : Program} {m m1 : Machine} {b : Frame} {k : List Item} {cs : List Frame} {e : Ex} {a : Act} {w : World} (h : Steps P m m1) (k1 : Arr P m1 b k cs e a w) : Arr P m b k cs e a w := by
  cases e with
  | norm => exact Steps.trans h k1
  | exit i => obtain ⟨k2, h1, h2⟩ := k1; exact ⟨k2, h1, Steps.trans h h2⟩
  | ret => obtain ⟨k2, h2⟩ := k1; exact ⟨k2, Steps.trans h h2⟩
/-- An item that is no block is passed. -/
theorem Arr.pass {P : Program} {m : Machine} {b : Frame} {k : List Item} {cs : List Frame} {e : Ex} {a : Act} {w : World} {x : Item} (hx : ∀ i, exitTo i (x :: k) = exitTo i k) (hn : e ≠ .norm) (h : Arr P m b (x :: k) cs e a w) : Arr P m b k cs e a w := by
  cases e with
  | norm => exact absurd rfl hn
  | exit i => obtain ⟨k2, h1, h2⟩ := h; exact ⟨k2, by rw [h1, hx], h2⟩
  | ret => obtain ⟨k2, h2⟩ := h; exact ⟨k2, h2⟩

/-! ## One operation of a region, as the machine makes it -/
def Takes (P : Program) (fn : FuncId) (ro : Option Nat) (rec : Bool) (o : Oper) (a a' : Act) (w w' : World) : Prop :=
  ∀ (b : Frame) (k : List Item) (cs : List Frame) (ops : Array Oper) (i : Nat) (rest : List Nat), b.fn = fn → (ro = none → b.roundOf = none) → b.kind = KD rec → okCs rec cs → ops[i]? = some o →
    Region.wanted o (yielded ops a.tmps) = true → Steps P (lone (b.atR a (.inRegion ops (i :: rest) :: k)) cs w) (lone (b.atR a' (.inRegion ops rest :: k)) cs w')

theorem finish_atR_o {b : Frame} {a : Act} {ops : Array Oper} {i : Nat} {rest : List Nat} {k : List Item} {o : Oper} (ho : ops[i]? = some o) (v : Value) :
    (b.atR a (.inRegion ops (i :: rest) :: k)).finish v = b.atR (a.put o.dst v) (.inRegion ops rest :: k) := by
  rw [Frame.finish_atR, ho]; rfl
theorem semAt_ok {ro ro' : Option Nat} {o : Oper} {a : Act} (hr : ro = none → ro' = none) (h : ro = none ∨ ∀ c, o.op ≠ .defer c) : o.semAt ro' a.eval = execOp a.eval o := by
  rcases h with rfl | h
  · rw [hr rfl]; rfl
  · exact Oper.semAt_eq ro' a.eval o h

theorem takes_value {P : Program} {fn : FuncId} {ro : Option Nat} {rec : Bool} {o : Oper} {a : Act} {w w' : World} {v : Value} (hs : ro = none ∨ ∀ c, o.op ≠ .defer c) (hr : (execOp a.eval o).run P w = .ok (.value v) w') : Takes P fn ro rec o a (a.put o.dst v) w w' := by
  intro b k cs ops i rest hf hro hk hcs ho hw
  refine .one (step_lone_go ?_)
  rw [stepGR_op ho hw, semAt_ok hro hs, ← finish_atR_o ho]
  simp [stepG.apply, hr]
theorem takes_skip {P : Program} {fn : FuncId} {ro : Option Nat} {rec : Bool} {o : Oper} {a : Act} {w w' : World} (hs : ro = none ∨ ∀ c, o.op ≠ .defer c) (hr : (execOp a.eval o).run P w = .ok .skip w') : Takes P fn ro rec o a (a.put o.dst undef) w w' := by
  intro b k cs ops i rest hf hro hk hcs ho hw
  refine .one (step_lone_go ?_)
  rw [stepGR_op ho hw, semAt_ok hro hs, ← finish_atR_o ho]
  simp [stepG.apply, hr]
theorem takes_defer {P : Program} {fn : FuncId} {rec : Bool} {o : Oper} {a : Act} {w w' : World} {d : Deferred} (hr : (execOp a.eval o).run P w = .ok (.defer d) w') : Takes P fn none rec o a ({ a with defers := d :: a.defers }.put o.dst undef) w w' := by
  intro b k cs ops i rest hf hro hk hcs ho hw
  refine .one (step_lone_go ?_)
  have e : ({ b.atR a (.inRegion ops (i :: rest) :: k) with defers := d :: a.defers } : Frame).finish undef = b.atR ({ a with defers := d :: a.defers }.put o.dst undef) (.inRegion ops rest :: k) :=
    finish_atR_o (a := { a with defers := d :: a.defers }) ho undef
  rw [stepGR_op ho hw, semAt_ok hro (.inl rfl)]
  simp only [stepG.apply, Sem.runT_eq, hr, GStep.bare_after]
  exact congrArg (fun fr => GStep.go { frame := fr, callers := cs, status := .running, dying := none } w') e
theorem takes_recover {P : Program} {fn : FuncId} {o : Oper} {ro : Option Nat} {a : Act} {w w' : World} (hro0 : ro = none) (hr : (execOp a.eval o).run P w = .ok .recover w') : Takes P fn ro true o a (a.put o.dst .nilIface) w w' := by
  intro b k cs ops i rest hf hro hk hcs ho hw
  obtain ⟨c, cs', rfl, hc⟩ := hcs rfl
  refine .one (step_lone_go ?_)
  have ht : tryRecover (b.atR a (.inRegion ops (i :: rest) :: k)) (c :: cs') = none := by
    rw [tryRecover_deferred (by simpa [Frame.atR, KD] using hk)]
    simp [recoverD, hc]
  have hb0 : (b.atR a (.inRegion ops (i :: rest) :: k)).roundOf = none := hro hro0
  rw [stepGR_op ho hw, semAt_ok hro (.inl hro0), ← finish_atR_o ho]
  simp only [stepG.apply, Sem.runT_eq, hr, GStep.bare_after, hb0, ht]
  rfl
theorem takes_enter {P : Program} {fn : FuncId} {ro : Option Nat} {rec : Bool} {o : Oper} {a : Act} {w w' : World} {g : FuncId} {args : Array Value} {v : Value} (hs : ro = none ∨ ∀ c, o.op ≠ .defer c) (hr : (execOp a.eval o).run P w = .ok (.enter g args) w)
    (hc : ∀ cs, ∃ fr, Steps P (lone (Frame.enter P g args .normal) cs w) (lone fr cs w') ∧ fr.leaving P w' (.returned v)) : Takes P fn ro rec o a (a.put o.dst v) w w' := by
  intro b k cs ops i rest hf hro hk hcs ho hw
  obtain ⟨fr, h1, h2⟩ := hc (b.atR a (.inRegion ops (i :: rest) :: k) :: cs)
  have henter : step P (lone (b.atR a (.inRegion ops (i :: rest) :: k)) cs w) = .next (lone (Frame.enter P g args .normal) (b.atR a (.inRegion ops (i :: rest) :: k) :: cs) w) :=
    step_lone_go (by rw [stepGR_op ho hw, semAt_ok hro hs]; simp [stepG.apply, hr, Frame.atR])
  have hl := step_leave_returned (c := b.atR a (.inRegion ops (i :: rest) :: k)) (cs := cs) h2
  rw [finish_atR_o ho] at hl
  exact .head henter (Steps.trans h1 (.one hl))
theorem takes_round {P : Program} {fn : FuncId} {ro : Option Nat} {rec : Bool} {o : Oper} {a : Act} {w w' : World} {l : Nat} {f : FuncId} {tmps : Array Value} {as body : Code} {v : Value} (hs : ro = none ∨ ∀ c, o.op ≠ .defer c) (hr : (execOp a.eval o).run P w = .ok (.round l f tmps as body) w)
    (hc : ∀ c cs, Steps P (lone (Frame.round l f tmps as body .normal) (c :: cs) w) (lone (c.finish v) cs w')) : Takes P fn ro rec o a (a.put o.dst v) w w' := by
  intro b k cs ops i rest hf hro hk hcs ho hw
  have h1 := hc (b.atR a (.inRegion ops (i :: rest) :: k)) cs
  rw [finish_atR_o ho] at h1
  have henter : step P (lone (b.atR a (.inRegion ops (i :: rest) :: k)) cs w) = .next (lone (Frame.round l f tmps as body .normal) (b.atR a (.inRegion ops (i :: rest) :: k) :: cs) w) :=
    step_lone_go (by rw [stepGR_op ho hw, semAt_ok hro hs]; simp [stepG.apply, hr, Frame.atR])
  exact .head henter h1
end Go.AL
end

section
namespace Go.AL
open Go

/-- How a frame stands when it leaves. -/
def Ends (P : Program) (rec : Bool) (f : FuncId) (fr : Frame) (w : World) (v : Value) : Prop :=
  fr.mode = .returning ∧ fr.defers = [] ∧ fr.kind = KD rec ∧ fr.fn = f ∧ ∃ fn, P.funcs[f]? = some fn ∧ (results fn fr.tmps).run P w = .ok v w
theorem Ends.leaving {P : Program} {f : FuncId} {fr : Frame} {w : World} {v : Value} (h : Ends P false f fr w v) : fr.leaving P w (.returned v) := by
  obtain ⟨h1, h2, h3, h4, fn, h5, h6⟩ := h
  exact ⟨h1, h2, h3, fn, by rw [h4]; exact h5, h6⟩
theorem Ends.going {P : Program} {f : FuncId} {fr : Frame} {w : World} {v : Value} (h : Ends P true f fr w v) : fr.kind = .deferred ∧ fr.going P w (.returned v) := by
  obtain ⟨h1, h2, h3, h4, fn, h5, h6⟩ := h
  exact ⟨h3, h1, h2, fn, by rw [h4]; exact h5, h6⟩

/-- The interpreter's word on a call. -/
def CallP (p : AP) (P : Program) (n : Nat) : Prop := ∀ rec f args A v A', acall p n rec f args A = some (v, A') → ∀ base ρ w args', Sim base A ρ w → VRs ρ args args' →
  (∃ fn c, P.funcs[f]? = some fn ∧ fn.body = some c ∧ (fn.name == "runtime.NumGoroutine") = false) ∧
  ∃ v' w' ρ', Sim base A' ρ' w' ∧ Ext ρ w ρ' w' ∧ VR ρ' v v' ∧ ∀ cs, okCs rec cs → ∃ fr, Steps P (lone (Frame.enter P f ⟨args'⟩ (KD rec)) cs w) (lone fr cs w') ∧ Ends P rec f fr w' v'
/-- On a round of a range over a function. -/
def RoundP (p : AP) (P : Program) (n : Nat) : Prop := ∀ l args A v A', around p n l args A = some (v, A') → ∀ base ρ w args' L, Sim base A ρ w → VRs ρ args args' → ρ l = some L →
  ∃ v' w' ρ' f tmps as body, Sim base A' ρ' w' ∧ Ext ρ w ρ' w' ∧ VR ρ' v v' ∧ (Instr.yield L.B ⟨args'⟩).run P w = .ok (.round L.B f tmps as body) w ∧
    ∀ c cs, Steps P (lone (Frame.round L.B f tmps as body .normal) (c :: cs) w) (lone (c.finish v') cs w')
/-- On the deferred calls of a frame. -/
def DefsP (p : AP) (P : Program) (n : Nat) : Prop := ∀ ds A A', defs p n ds A = some A' → ∀ base ρ w ds', Sim base A ρ w → DR ρ ds ds' →
  ∃ w' ρ', Sim base A' ρ' w' ∧ Ext ρ w ρ' w' ∧ ∀ (fr : Frame) cs, fr.mode = .returning → fr.defers = ds' → Steps P (lone fr cs w) (lone { fr with defers := [] } cs w')
/-- On code. -/
def ExecP (p : AP) (P : Program) (n : Nat) : Prop := ∀ fn ro rec c F A e F' A', exec p n fn ro rec c F A = some (e, F', A') → (rec = true → ro = none) → ∀ base ρ w a, Sim base A ρ w → FR ρ F a →
  ∃ a' w' ρ', Sim base A' ρ' w' ∧ Ext ρ w ρ' w' ∧ FR ρ' F' a' ∧ ∀ (b : Frame) k cs, b.fn = fn → (ro = none → b.roundOf = none) → b.kind = KD rec → okCs rec cs →
    Arr P (lone (b.atR a (.code c :: k)) cs w) b k cs e a' w' ∧ ∀ d, c = .loop d → Arr P (lone (b.atR a (.inLoop d :: k)) cs w) b k cs e a' w'
/-- On a region that keeps the order of the text. -/
def OpsLP (p : AP) (P : Program) (n : Nat) : Prop := ∀ ro rec (ops : Array Oper) i l F A F' A', opsL p n ro rec ops.toList l F A = some (F', A') → l = ops.toList.drop i → (rec = true → ro = none) → ∀ base ρ w a, Sim base A ρ w → FR ρ F a →
  ∃ a' w' ρ', Sim base A' ρ' w' ∧ Ext ρ w ρ' w' ∧ FR ρ' F' a' ∧ ∀ (b : Frame) k cs, (ro = none → b.roundOf = none) → b.kind = KD rec → okCs rec cs →
    Steps P (lone (b.atR a (.inRegion ops (List.range' i (ops.size - i)) :: k)) cs w) (lone (b.atR a' k) cs w')
/-- On a region that draws its order. -/
def OpsDP (p : AP) (P : Program) (n : Nat) : Prop := ∀ (ops : Array Oper) F A F' A', opsD p n ops.toList (masks ops.toList []) 0 ops.toList ⟨[], []⟩ F A = some (F', A') → regOk p ops.toList (masks ops.toList []) = true → ∀ base ρ w a, Sim base A ρ w → FR ρ F a → ∀ (ro : Option Nat) (t : Nat),
  ∃ a' w' ρ', Sim base A' ρ' w' ∧ Ext ρ w ρ' w' ∧ FR ρ' F' a' ∧ ∀ (b : Frame) k cs rec, (ro = none → b.roundOf = none) → b.kind = KD rec → okCs rec cs → (rec = true → ro = none) →
    Steps P (lone (b.atR a (.inRegion ops (Region.linearise .any ops t) :: k)) cs w) (lone (b.atR a' k) cs w')

theorem opA_defer {p : AP} {T : Tr Value} {A : AW} {o : Oper} {c : Call} {r : R} (ho : o.op = .defer c) (h : opA p T A o = some r) : ∃ g args, r = .defer g args := by
  unfold opA at h
  simp only [ho] at h
  unfold opDefer at h
  split at h
  · obtain ⟨_, h⟩ := g1_some h
    unfold deferF at h
    split at h
    · injection h with h; exact ⟨_, _, h.symm⟩
    · cases h
  · cases h
theorem notDefer {p : AP} {T : Tr Value} {A : AW} {o : Oper} {r : R} (h : opA p T A o = some r) (hn : ∀ g args, r ≠ .defer g args) (c : Call) : o.op ≠ .defer c := by
  intro ho
  obtain ⟨g, args, e⟩ := opA_defer ho h
  exact hn g args e

theorem opK_run {p : AP} {P : Program} (fa : Fa p P) {m : Nat} (hC : CallP p P m) (hR : RoundP p P m) {base : Nat} {A : AW} {ρ : Rho} {w : World} (h : Sim base A ρ w) {F : Fr} {a : Act} (hF : FR ρ F a) {ro : Option Nat} {rec : Bool} (hrr : rec = true → ro = none) {o : Oper}
    {k : Fr → AW → Option (Fr × AW)} {res : Fr × AW} (hr : opK F o.dst ro rec A (opA p F.tm A o) (acall p m false) (around p m) k = some res) :
    ∃ G B a' w' ρ', k G B = some res ∧ Sim base B ρ' w' ∧ Ext ρ w ρ' w' ∧ FR ρ' G a' ∧ ∀ fn, Takes P fn ro rec o a a' w w' := by
  cases hop : opA p F.tm A o with
  | none => rw [hop] at hr; cases hr
  | some r =>
    rw [hop] at hr
    have out := op_run fa h hF.tm hop
    cases r with
    | val v A' =>
      obtain ⟨G, hG, hk⟩ := putK_some (r := res) hr
      obtain ⟨v', w', ρ', h1, h2, h3, h4⟩ := out
      exact ⟨G, A', _, w', ρ', hk, h2, h3, (hF.mono h3.sub).put hG h4, fun fn => takes_value (.inr (notDefer hop (fun _ _ q => by cases q))) h1⟩
    | skip A' =>
      obtain ⟨G, hG, hk⟩ := putK_some (r := res) hr
      obtain ⟨w', ρ', h1, h2, h3⟩ := out
      exact ⟨G, A', _, w', ρ', hk, h2, h3, (hF.mono h3.sub).put hG (VR.undef ρ'), fun fn => takes_skip (.inr (notDefer hop (fun _ _ q => by cases q))) h1⟩
    | call g args =>
      have hr' : retK F o.dst (acall p m false g args A) k = some res := hr
      unfold retK at hr'
      split at hr'
      · rename_i v B hc
        obtain ⟨G, hG, hk⟩ := putK_some (r := res) hr'
        obtain ⟨args', h1, h2⟩ := out
        obtain ⟨⟨fn0, c0, q1, q2, q3⟩, v', w', ρ', k1, k2, k3, k4⟩ := hC false g args A v B hc base ρ w args' h h1
        refine ⟨G, B, _, w', ρ', hk, k1, k2, (hF.mono k2.sub).put hG k3, fun fn => takes_enter (.inr (notDefer hop (fun _ _ q => by cases q))) (h2 fn0 c0 q1 q2 q3) fun cs => ?_⟩
        obtain ⟨fr, s1, s2⟩ := k4 cs (fun q => by cases q)
        exact ⟨fr, s1, s2.leaving⟩
      · cases hr'
    | round l args =>
      have hr' : retK F o.dst (around p m l args A) k = some res := hr
      unfold retK at hr'
      split at hr'
      · rename_i v B hc
        obtain ⟨G, hG, hk⟩ := putK_some (r := res) hr'
        obtain ⟨L, args', hL, h1, h2⟩ := out
        obtain ⟨v', w', ρ', f, tmps, as, body, k1, k2, k3, k4, k5⟩ := hR l args A v B hc base ρ w args' L h h1 hL
        exact ⟨G, B, _, w', ρ', hk, k1, k2, (hF.mono k2.sub).put hG k3, fun fn => takes_round (.inr (notDefer hop (fun _ _ q => by cases q))) (h2.trans k4) k5⟩
      · cases hr'
    | defer g args =>
      have hr' : defK F o.dst g args ro (fun F => k F A) = some res := hr
      obtain ⟨tm, nt, ds⟩ := F
      unfold defK at hr'
      split at hr'
      · rename_i e1 e2
        injection e2 with e2 e3 e4
        subst e2 e3 e4
        obtain ⟨G, hG, hk⟩ := putK_some (r := res) hr'
        obtain ⟨fa', cap, h1, h2⟩ := out
        have hF2 : FR ρ ⟨tm, nt, .inr (g, args) :: ds⟩ { a with defers := { target := .fn (.func g) ⟨cap⟩, args := ⟨fa'⟩ } :: a.defers } := ⟨hF.tm, .call g args fa' cap ds a.defers h1 hF.ds⟩
        exact ⟨G, A, _, w, ρ, hk, h, Ext.refl ρ w, hF2.put hG (VR.undef ρ), fun fn => takes_defer h2⟩
      · cases hr'
    | recover =>
      have hr' : recK rec F o.dst (fun F => k F A) = some res := hr
      unfold recK at hr'
      split at hr'
      · obtain ⟨G, hG, hk⟩ := putK_some (r := res) hr'
        exact ⟨G, A, _, w, ρ, hk, h, Ext.refl ρ w, hF.put hG .nilIface, fun fn => takes_recover (hrr rfl) out⟩
      · cases hr'

theorem opsL_run {p : AP} {P : Program} (fa : Fa p P) {n : Nat} (hC : CallP p P n) (hR : RoundP p P n) (hO : OpsLP p P n) : OpsLP p P (n + 1) := by
  intro ro rec ops i l F A F' A' hr hl hrr base ρ w a h hF
  unfold opsL at hr
  cases l with
  | nil =>
    simp only at hr
    injection hr with hr
    injection hr with e1 e2
    subst e1 e2
    refine ⟨a, w, ρ, h, Ext.refl ρ w, hF, fun b k cs _ _ _ => ?_⟩
    have hlen : ops.size ≤ i := by
      have := congrArg List.length hl
      simp at this
      omega
    rw [show ops.size - i = 0 from by omega]
    exact .one stepR_region_end
  | cons o rest =>
    simp only at hr
    have hi : i < ops.size := by
      have := congrArg List.length hl
      simp at this
      omega
    have hdrop := List.drop_eq_getElem_cons (l := ops.toList) (i := i) (by simpa using hi)
    rw [hdrop] at hl
    injection hl with e1 e2
    have ho : ops[i]? = some o := by rw [e1]; simp [hi]
    have hrange : List.range' i (ops.size - i) = i :: List.range' (i + 1) (ops.size - (i + 1)) := by
      rw [show ops.size - i = (ops.size - (i + 1)) + 1 from by omega]
      rfl
    unfold wantK at hr
    split at hr
    · rename_i hw
      obtain ⟨G, B, a', w', ρ', k1, k2, k3, k4, k5⟩ := opK_run fa hC hR h hF hrr hr
      obtain ⟨a2, w2, ρ2, s1, s2, s3, s4⟩ := hO ro rec ops (i + 1) rest G B F' A' k1 e2 hrr base ρ' w' a' k2 k4
      refine ⟨a2, w2, ρ2, s1, k3.trans s2, s3, fun b k cs hro hk hcs => ?_⟩
      rw [hrange]
      exact Steps.trans (k5 b.fn b k cs ops i _ rfl hro hk hcs ho (by rw [← wantedA_run hF.tm]; exact hw)) (s4 b k cs hro hk hcs)
    · rename_i hw
      obtain ⟨G, hG, hk⟩ := putK_some (r := (F', A')) hr
      obtain ⟨a2, w2, ρ2, s1, s2, s3, s4⟩ := hO ro rec ops (i + 1) rest G A F' A' hk e2 hrr base ρ w _ h (hF.put hG (VR.undef ρ))
      refine ⟨a2, w2, ρ2, s1, s2, s3, fun b k cs hro hk hcs => ?_⟩
      rw [hrange]
      have hs := stepR_op_skip (P := P) (b := b) (a := a) (k := k) (cs := cs) (w := w) (ops := ops) (i := i) (rest := List.range' (i + 1) (ops.size - (i + 1)))
        (by rw [ho]; simp only [Option.map_some, Option.getD_some]; rw [← wantedA_run hF.tm]; exact hw)
      rw [ho] at hs
      exact .head hs (s4 b k cs hro hk hcs)
end Go.AL
end

section
namespace Go.AL
open Go

section
variable {P : Program} {b : Frame} {a : Act} {k : List Item} {cs : List Frame} {w : World}
theorem stepR_scope {c : Code} : step P (lone (b.atR a (.code (.scope c) :: k)) cs w) = .next (lone (b.atR a (.code c :: .inScope c :: k)) cs w) :=
  step_lone_go (by simp [stepG, stepG.exec, Frame.atR])
theorem stepR_inScope {c : Code} : step P (lone (b.atR a (.inScope c :: k)) cs w) = .next (lone (b.atR a k) cs w) :=
  step_lone_go (by simp [stepG, stepG.exec, Frame.atR])
end

theorem seqK_some {r : EX} {k : Fr → AW → EX} {res : Ex × Fr × AW} (h : seqK r k = some res) : (∃ F A, r = some (.norm, F, A) ∧ k F A = some res) ∨ (r = some res ∧ res.1 ≠ .norm) := by
  unfold seqK at h
  split at h
  · rename_i F A; exact .inl ⟨F, A, rfl, h⟩
  · rename_i hn
    refine .inr ⟨h, fun e => ?_⟩
    obtain ⟨e1, F, A⟩ := res
    simp only at e
    subst e
    exact hn F A h

theorem Arr.loopNil {m : Machine} {b : Frame} {k : List Item} {cs : List Frame} {P : Program} {e : Ex} {a : Act} {w : World} {c : Code} (hn : c = c) (h : Arr P m b k cs e a w) : Arr P m b k cs e a w := h

/-- The record of a range over a function is laid. -/
theorem enterLoop_sim {base : Nat} {A : AW} {ρ : Rho} {w : World} (h : Sim base A ρ w) {F : Fr} {a : Act} (hF : FR ρ F a) (hn : A.next + 2 ≤ lim) (fn : FuncId) (ps : List Tmp) (as body : Code) (P : Program) :
    ∃ w1, (Instr.enterLoop fn a.tmps ⟨ps⟩ as body none).run P w = .ok (w.heap.size + 1, [{ target := .collected w.heap.size, args := #[] }]) w1 ∧
      Sim base { A with next := A.next + 2, marks := A.marks.set dep A.next true, loops := A.loops.set dep (A.next + 1) ⟨.ready, none, fn, F.tm, F.nt, ps, as, body⟩ } (upd (upd ρ A.next ⟨w.heap.size, 0, 0, 0⟩) (A.next + 1) ⟨w.heap.size + 1, 0, 0, 0⟩) w1 ∧
      Ext ρ w (upd (upd ρ A.next ⟨w.heap.size, 0, 0, 0⟩) (A.next + 1) ⟨w.heap.size + 1, 0, 0, 0⟩) w1 := by
  have hlo := h.lo
  have hf := h.fresh (Nat.le_refl A.next)
  have hnone : ∀ r, isObj A r → r ≠ A.next := fun r ho e => by
    obtain ⟨_, _, L, hL, _⟩ := h.obj r ho
    rw [e, hf] at hL; cases hL
  obtain ⟨s1, s2, s3, s4, s5⟩ := newObj_sim h (.deferred (some []))
  have key := s1.adoptO (by omega) w.heap.size h.bs s4 s5 A.maps A.iters A.loops (A.marks.set dep A.next true) (fun _ _ => rfl) (fun _ _ => rfl) (fun _ _ => rfl) (fun k hk => get_set_ne _ _ (by omega) hk)
    (fun es hes => absurd rfl (hnone _ (.inl (by rw [hes]; rfl)))) (fun m seen hi => absurd rfl (hnone _ (.inr (.inl (by rw [hi]; rfl)))))
    (fun l hl => absurd rfl (hnone _ (.inr (.inr (.inl (by rw [hl]; rfl)))))) (fun _ => s3)
  have e1 : Ext ρ w (upd ρ A.next ⟨w.heap.size, 0, 0, 0⟩) (w.alloc (.deferred (some []))) := s2.upd (L := ⟨w.heap.size, 0, 0, 0⟩) hf (by omega) (Nat.le_refl _)
  have hsz : (w.alloc (.deferred (some []))).heap.size = w.heap.size + 1 := by show (w.heap.push _).size = _; simp
  have hf2 := key.fresh (Nat.le_refl (A.next + 1))
  obtain ⟨t1, t2, t3, t4, t5⟩ := newObj_sim key (.loop { state := .ready, pending := none, fn, tmps := a.tmps, params := ⟨ps⟩, assign := as, body, defers := w.heap.size })
  have hnone2 : ∀ r, isObj { A with maps := A.maps, iters := A.iters, loops := A.loops, marks := A.marks.set dep A.next true, next := A.next + 1 } r → r ≠ A.next + 1 := fun r ho e => by
    obtain ⟨_, _, L, hL, _⟩ := key.obj r ho
    rw [e, hf2] at hL; cases hL
  have key2 := t1.adoptO (by simpa using hn) (w.alloc (.deferred (some []))).heap.size key.bs t4 t5 A.maps A.iters (A.loops.set dep (A.next + 1) ⟨.ready, none, fn, F.tm, F.nt, ps, as, body⟩) (A.marks.set dep A.next true) (fun _ _ => rfl) (fun _ _ => rfl) (fun k hk => get_set_ne _ _ (by omega) hk) (fun _ _ => rfl)
    (fun es hes => absurd rfl (hnone2 _ (.inl (by rw [hes]; rfl)))) (fun m seen hi => absurd rfl (hnone2 _ (.inr (.inl (by rw [hi]; rfl)))))
    (fun l hl => by
      rw [get_set_same _ _ _ (by omega)] at hl
      injection hl with hl
      subst hl
      exact ⟨_, t3, a.tmps, w.heap.size, (hF.tm.mono (sub_upd _ hf)).mono (sub_upd _ hf2), rfl⟩)
    (fun hk => absurd rfl (hnone2 _ (.inr (.inr (.inr (by rw [hk]; rfl))))))
  rw [hsz] at key2
  refine ⟨(w.alloc (.deferred (some []))).alloc (.loop { state := .ready, pending := none, fn, tmps := a.tmps, params := ⟨ps⟩, assign := as, body, defers := w.heap.size }), ?_, key2, e1.trans (Ext.upd t2 hf2 (by omega) (by rw [hsz]; exact Nat.le_refl _))⟩
  simp [Instr.enterLoop, hsz]

theorem endLoop_sim {base : Nat} {A : AW} {ρ : Rho} {w : World} (h : Sim base A ρ w) {l : Nat} {L : Loc} {M : ALoop} (hM : A.loops.get l = some M) (hL : ρ l = some L) (hb : isBusy M.state = false) (P : Program) :
    ∃ w1, (Instr.endLoop L.B).run P w = .ok M.pending w1 ∧ Sim base { A with loops := A.loops.set dep l ⟨.exhausted, M.pending, M.fn, M.tm, M.nt, M.params, M.assign, M.body⟩ } ρ w1 ∧ Ext ρ w ρ w1 := by
  obtain ⟨o, ho, tmps, R, hT, rfl⟩ := h.loops l M L hM hL
  have hnb : M.state ≠ .busy := by intro e; rw [e] at hb; cases hb
  obtain ⟨s1, s2⟩ := h.setLoop (l' := ⟨.exhausted, M.pending, M.fn, M.tm, M.nt, M.params, M.assign, M.body⟩) hM hL (.loop { state := .exhausted, pending := M.pending, fn := M.fn, tmps := tmps, params := ⟨M.params⟩, assign := M.assign, body := M.body, defers := R }) ⟨tmps, R, hT, rfl⟩
  refine ⟨_, ?_, s1, s2⟩
  simp only [Instr.endLoop, Instr.getLoop, Sem.run_bind, run_getObj_any ho (fun _ _ _ q => by cases q), Result.andThen_ok, Sem.run_pure]
  have : (M.state == LoopState.busy) = false := by simpa using hnb
  simp [this, run_setObj_any ho (fun _ _ _ q => by cases q)]
end Go.AL
end

section
namespace Go.AL
open Go

theorem exitTo_code (i : Nat) (c : Code) (k : List Item) : exitTo i (.code c :: k) = exitTo i k := by simp [exitTo]
theorem exitTo_inLoop (i : Nat) (c : Code) (k : List Item) : exitTo i (.inLoop c :: k) = exitTo i k := by simp [exitTo]
theorem exitTo_inScope (i : Nat) (c : Code) (k : List Item) : exitTo i (.inScope c :: k) = exitTo i k := by simp [exitTo]
theorem exitTo_inBlock_ne {i j : Nat} (k : List Item) (h : j ≠ i) : exitTo i (.inBlock j :: k) = exitTo i k := by simp [exitTo, h]
theorem exitTo_inBlock (i : Nat) (k : List Item) : exitTo i (.inBlock i :: k) = some k := by simp [exitTo]

/-- Behind the first of two pieces. -/
theorem Arr.seq {P : Program} {m : Machine} {b : Frame} {k : List Item} {cs : List Frame} {a : Act} {w : World} {e : Ex} {x : Item} (hx : ∀ i, exitTo i (x :: k) = exitTo i k) (h : Arr P m b (x :: k) cs e a w) (hn : e ≠ .norm) : Arr P m b k cs e a w := Arr.pass hx hn h

theorem rangeK_some {F : Fr} {m l : Nat} {r : Option (Value × AW)} {k : Code → Fr → AW → EX} {res : Ex × Fr × AW} (h : rangeK F m l r k = some res) :
    ∃ v B M, r = some (v, B) ∧ B.loops.get l = some M ∧ isBusy M.state = false ∧
      ((M.pending = none ∧ res = (.norm, ⟨F.tm, F.nt, .inl m :: F.defers⟩, { B with loops := B.loops.set dep l ⟨.exhausted, M.pending, M.fn, M.tm, M.nt, M.params, M.assign, M.body⟩ })) ∨
       ∃ c, M.pending = some c ∧ k c ⟨F.tm, F.nt, .inl m :: F.defers⟩ { B with loops := B.loops.set dep l ⟨.exhausted, M.pending, M.fn, M.tm, M.nt, M.params, M.assign, M.body⟩ } = some res) := by
  unfold rangeK at h
  split at h
  · cases h
  · rename_i v B
    split at h
    · rename_i st pending fn tm nt ps as body ftm fnt ds hM
      split at h
      · cases h
      · rename_i hb
        split at h
        · injection h with h
          exact ⟨v, B, _, rfl, hM, hb, .inl ⟨rfl, h.symm⟩⟩
        · rename_i c
          exact ⟨v, B, _, rfl, hM, hb, .inr ⟨c, rfl, h⟩⟩
    · cases h

theorem exec_run {p : AP} {P : Program} (fa : Fa p P) (hmix : P.follows .mixedOrders = true) {n : Nat} (hE : ExecP p P n) (hC : CallP p P n) (hO : OpsLP p P n) (hD : OpsDP p P n) : ExecP p P (n + 1) := by
  intro fn ro rec c F A e F' A' hr hrr base ρ w a h hF
  unfold exec at hr
  cases c with
  | skip =>
    simp only at hr
    injection hr with hr; injection hr with e1 hr; injection hr with e2 e3; subst e1 e2 e3
    exact ⟨a, w, ρ, h, Ext.refl ρ w, hF, fun b k cs _ _ _ _ => ⟨.one stepR_skip, fun d q => by cases q⟩⟩
  | label l =>
    simp only at hr
    injection hr with hr; injection hr with e1 hr; injection hr with e2 e3; subst e1 e2 e3
    exact ⟨a, w, ρ, h, Ext.refl ρ w, hF, fun b k cs _ _ _ _ => ⟨.one stepR_label, fun d q => by cases q⟩⟩
  | seq x y =>
    simp only at hr
    rcases seqK_some hr with ⟨F1, A1, h1, h2⟩ | ⟨h1, hn⟩
    · obtain ⟨a1, w1, ρ1, s1, s2, s3, s4⟩ := hE fn ro rec x F A .norm F1 A1 h1 hrr base ρ w a h hF
      obtain ⟨a2, w2, ρ2, t1, t2, t3, t4⟩ := hE fn ro rec y F1 A1 e F' A' h2 hrr base ρ1 w1 a1 s1 s3
      refine ⟨a2, w2, ρ2, t1, s2.trans t2, t3, fun b k cs q1 q2 q3 q4 => ⟨?_, fun d q => by cases q⟩⟩
      exact Arr.of_steps (.head stepR_seq (s4 b (.code y :: k) cs q1 q2 q3 q4).1) (t4 b k cs q1 q2 q3 q4).1
    · obtain ⟨a1, w1, ρ1, s1, s2, s3, s4⟩ := hE fn ro rec x F A e F' A' h1 hrr base ρ w a h hF
      refine ⟨a1, w1, ρ1, s1, s2, s3, fun b k cs q1 q2 q3 q4 => ⟨?_, fun d q => by cases q⟩⟩
      exact Arr.of_steps (.one stepR_seq) (Arr.seq (x := .code y) (fun i => exitTo_code i y k) (s4 b (.code y :: k) cs q1 q2 q3 q4).1 hn)
  | cond c x y =>
    simp only at hr
    unfold condK at hr
    have hce : ∀ t, evalO F.tm c = .bool t → a.eval c = .bool t := by
      intro t ht
      cases hq : plainO c with
      | true =>
        have hv := eval_VR hF.tm hq
        rw [ht] at hv
        cases hu : a.eval c <;> rw [hu] at hv <;> cases hv
        rfl
      | false =>
        cases c with
        | tmp t => simp [plainO] at hq
        | const v => exact ht
        | global g => simp [evalO] at ht
        | func f => simp [plainO] at hq
    split at hr
    · rename_i ht
      obtain ⟨a1, w1, ρ1, s1, s2, s3, s4⟩ := hE fn ro rec x F A e F' A' hr hrr base ρ w a h hF
      refine ⟨a1, w1, ρ1, s1, s2, s3, fun b k cs q1 q2 q3 q4 => ⟨?_, fun d q => by cases q⟩⟩
      exact Arr.of_steps (.one (stepR_cond (hce _ ht))) (s4 b k cs q1 q2 q3 q4).1
    · rename_i ht
      obtain ⟨a1, w1, ρ1, s1, s2, s3, s4⟩ := hE fn ro rec y F A e F' A' hr hrr base ρ w a h hF
      refine ⟨a1, w1, ρ1, s1, s2, s3, fun b k cs q1 q2 q3 q4 => ⟨?_, fun d q => by cases q⟩⟩
      exact Arr.of_steps (.one (stepR_cond (hce _ ht))) (s4 b k cs q1 q2 q3 q4).1
    · cases hr
  | block id c =>
    simp only at hr
    unfold blockK at hr
    split at hr
    · rename_i i F1 A1 h1
      obtain ⟨a1, w1, ρ1, s1, s2, s3, s4⟩ := hE fn ro rec c F A _ F1 A1 h1 hrr base ρ w a h hF
      split at hr
      · rename_i hi
        have hi := beq_true hi
        subst hi
        injection hr with hr; injection hr with e1 hr; injection hr with e2 e3; subst e1 e2 e3
        refine ⟨a1, w1, ρ1, s1, s2, s3, fun b k cs q1 q2 q3 q4 => ⟨?_, fun d q => by cases q⟩⟩
        obtain ⟨k1, g1, g2⟩ := (s4 b (.inBlock i :: k) cs q1 q2 q3 q4).1
        rw [exitTo_inBlock] at g1
        exact .head stepR_block (Steps.trans g2 (.one (stepR_exit g1)))
      · rename_i hi
        have hi := beq_false hi
        injection hr with hr; injection hr with e1 hr; injection hr with e2 e3; subst e1 e2 e3
        refine ⟨a1, w1, ρ1, s1, s2, s3, fun b k cs q1 q2 q3 q4 => ⟨?_, fun d q => by cases q⟩⟩
        obtain ⟨k1, g1, g2⟩ := (s4 b (.inBlock id :: k) cs q1 q2 q3 q4).1
        rw [exitTo_inBlock_ne k (fun q => hi q.symm)] at g1
        exact ⟨k1, g1, .head stepR_block g2⟩
    · rename_i hne
      obtain ⟨a1, w1, ρ1, s1, s2, s3, s4⟩ := hE fn ro rec c F A e F' A' hr hrr base ρ w a h hF
      refine ⟨a1, w1, ρ1, s1, s2, s3, fun b k cs q1 q2 q3 q4 => ⟨?_, fun d q => by cases q⟩⟩
      have g := (s4 b (.inBlock id :: k) cs q1 q2 q3 q4).1
      cases e with
      | norm => exact .head stepR_block (Steps.trans g (.one stepR_inBlock))
      | exit i => exact absurd hr (hne i F' A')
      | ret => obtain ⟨k1, g1⟩ := g; exact ⟨k1, .head stepR_block g1⟩
  | loop c =>
    simp only at hr
    rcases seqK_some hr with ⟨F1, A1, h1, h2⟩ | ⟨h1, hn⟩
    · obtain ⟨a1, w1, ρ1, s1, s2, s3, s4⟩ := hE fn ro rec c F A .norm F1 A1 h1 hrr base ρ w a h hF
      obtain ⟨a2, w2, ρ2, t1, t2, t3, t4⟩ := hE fn ro rec (.loop c) F1 A1 e F' A' h2 hrr base ρ1 w1 a1 s1 s3
      refine ⟨a2, w2, ρ2, t1, s2.trans t2, t3, fun b k cs q1 q2 q3 q4 => ⟨?_, fun d q => ?_⟩⟩
      · exact Arr.of_steps (.head stepR_loop (s4 b (.inLoop c :: k) cs q1 q2 q3 q4).1) ((t4 b k cs q1 q2 q3 q4).2 c rfl)
      · injection q with q; subst q
        exact Arr.of_steps (.head stepR_inLoop (s4 b (.inLoop c :: k) cs q1 q2 q3 q4).1) ((t4 b k cs q1 q2 q3 q4).2 c rfl)
    · obtain ⟨a1, w1, ρ1, s1, s2, s3, s4⟩ := hE fn ro rec c F A e F' A' h1 hrr base ρ w a h hF
      refine ⟨a1, w1, ρ1, s1, s2, s3, fun b k cs q1 q2 q3 q4 => ⟨?_, fun d q => ?_⟩⟩
      · exact Arr.of_steps (.one stepR_loop) (Arr.seq (x := .inLoop c) (fun i => exitTo_inLoop i c k) (s4 b (.inLoop c :: k) cs q1 q2 q3 q4).1 hn)
      · injection q with q; subst q
        exact Arr.of_steps (.one stepR_inLoop) (Arr.seq (x := .inLoop c) (fun i => exitTo_inLoop i c k) (s4 b (.inLoop c :: k) cs q1 q2 q3 q4).1 hn)
  | scope c =>
    simp only at hr
    obtain ⟨a1, w1, ρ1, s1, s2, s3, s4⟩ := hE fn ro rec c F A e F' A' hr hrr base ρ w a h hF
    refine ⟨a1, w1, ρ1, s1, s2, s3, fun b k cs q1 q2 q3 q4 => ⟨?_, fun d q => by cases q⟩⟩
    have g := (s4 b (.inScope c :: k) cs q1 q2 q3 q4).1
    cases e with
    | norm => exact .head stepR_scope (Steps.trans g (.one stepR_inScope))
    | exit i => obtain ⟨k1, g1, g2⟩ := g; rw [exitTo_inScope] at g1; exact ⟨k1, g1, .head stepR_scope g2⟩
    | ret => obtain ⟨k1, g1⟩ := g; exact ⟨k1, .head stepR_scope g1⟩
  | exit i =>
    simp only at hr
    injection hr with hr; injection hr with e1 hr; injection hr with e2 e3; subst e1 e2 e3
    exact ⟨a, w, ρ, h, Ext.refl ρ w, hF, fun b k cs _ _ _ _ => ⟨⟨k, rfl, Steps.refl P _⟩, fun d q => by cases q⟩⟩
  | ret =>
    simp only at hr
    injection hr with hr; injection hr with e1 hr; injection hr with e2 e3; subst e1 e2 e3
    exact ⟨a, w, ρ, h, Ext.refl ρ w, hF, fun b k cs _ _ _ _ => ⟨⟨k, Steps.refl P _⟩, fun d q => by cases q⟩⟩
  | region id ops draw =>
    simp only at hr
    unfold drawK at hr
    split at hr
    · unfold okK at hr
      split at hr
      · rename_i hok
        unfold regK at hr
        split at hr
        · rename_i F1 A1 h1
          injection hr with hr; injection hr with e1 hr; injection hr with e2 e3; subst e1 e2 e3
          obtain ⟨a1, w1, ρ1, s1, s2, s3, s4⟩ := hD ops F A F1 A1 h1 hok base ρ { w with drawn := w.drawn + 1 } a ((SameMem.drew w).sim h) hF ro (w.tape w.drawn (.order fn id))
          refine ⟨a1, w1, ρ1, s1, ((SameMem.drew w).ext ρ).trans s2, s3, fun b k cs q1 q2 q3 q4 => ⟨?_, fun d q => by cases q⟩⟩
          have g := s4 b k cs rec q2 q3 q4 hrr
          have hst := stepR_region_draw (P := P) (b := b) (a := a) (k := k) (cs := cs) (w := w) (ops := ops) (id := id)
          rw [q1] at hst
          simp only [Region.schedule, hmix, Bool.true_or, if_true] at hst
          exact .head hst g
        · cases hr
      · cases hr
    · unfold regK at hr
      split at hr
      · rename_i F1 A1 h1
        injection hr with hr; injection hr with e1 hr; injection hr with e2 e3; subst e1 e2 e3
        obtain ⟨a1, w1, ρ1, s1, s2, s3, s4⟩ := hO ro rec ops 0 ops.toList F A F1 A1 h1 rfl hrr base ρ w a h hF
        refine ⟨a1, w1, ρ1, s1, s2, s3, fun b k cs q1 q2 q3 q4 => ⟨?_, fun d q => by cases q⟩⟩
        have g := s4 b k cs q2 q3 q4
        rw [Nat.sub_zero, ← List.range_eq_range'] at g
        exact .head stepR_region g
      · cases hr
  | rangeFunc f ps as body =>
    simp only at hr
    unfold okK at hr
    split at hr <;> first | (cases hr; done) | skip
    rename_i hq
    unfold rangeA at hr
    split at hr
    · rename_i g first cap hv
      split at hr
      · rename_i hck
        obtain ⟨c1, c2⟩ := andB_true hck
        have c1 := ble_true c1
        obtain ⟨v, B, M, g1, g2, g3, g4⟩ := rangeK_some hr
        obtain ⟨w1, l1, l2, l3⟩ := enterLoop_sim h hF c1 fn ps.toList as body P
        generalize hρ1 : upd (upd ρ A.next ⟨w.heap.size, 0, 0, 0⟩) (A.next + 1) ⟨w.heap.size + 1, 0, 0, 0⟩ = ρ1 at l2 l3
        have hl1 : ρ1 (A.next + 1) = some ⟨w.heap.size + 1, 0, 0, 0⟩ := by rw [← hρ1]; exact upd_same _ _ _
        have hl0 : ρ1 A.next = some ⟨w.heap.size, 0, 0, 0⟩ := by rw [← hρ1, upd_ne _ (by omega)]; exact upd_same _ _ _
        -- the operand
        have hfv : ∃ a' c', a.eval f = .func (.func g) ⟨a'⟩ ⟨c'⟩ ∧ VRs ρ first.toList a' ∧ VRs ρ cap.toList c' := by
          have hV := eval_VR hF.tm hq
          rw [hv] at hV
          exact hV.func_inv
        obtain ⟨a', c', e1, e2, e3⟩ := hfv
        have hargs : VRs ρ1 (first.toList ++ (.func (.yield (Nat.succ A.next)) #[] #[] :: cap.toList)) (a' ++ (.func (.yield (w.heap.size + 1)) #[] #[] :: c')) :=
          (e2.mono l3.sub).app (VRs.cons (.yield (A.next + 1) ⟨w.heap.size + 1, 0, 0, 0⟩ hl1) (e3.mono l3.sub))
        obtain ⟨⟨fn0, c0, q1, q2, q3⟩, v', w2, ρ2, k1, k2, k3, k4⟩ := hC false g _ _ v B g1 base ρ1 w1 _ l2 hargs
        have hL2 : ρ2 (Nat.succ A.next) = some ⟨w.heap.size + 1, 0, 0, 0⟩ := k2.sub _ _ hl1
        obtain ⟨w3, m1, m2, m3⟩ := endLoop_sim k1 g2 hL2 g3 P
        have hF3 : FR ρ2 ⟨F.tm, F.nt, .inl A.next :: F.defers⟩ { a with defers := { target := .collected w.heap.size, args := #[] } :: a.defers } :=
          ⟨hF.tm.mono (l3.trans k2).sub, .mark A.next ⟨w.heap.size, 0, 0, 0⟩ F.defers a.defers (k2.sub _ _ hl0) (hF.ds.mono (l3.trans k2).sub)⟩
        -- the steps
        have hsteps : ∀ (b : Frame) k cs, b.fn = fn → b.roundOf = none → Steps P (lone (b.atR a (.code (.rangeFunc f ps as body) :: k)) cs w) (lone (b.atR { a with defers := { target := .collected w.heap.size, args := #[] } :: a.defers } ((M.pending.map Item.code).toList ++ k)) cs w3) := by
          intro b k cs p1 p2
          have he : (Instr.enterLoop b.fn a.tmps ps as body b.roundOf).run P w = .ok (w.heap.size + 1, [{ target := .collected w.heap.size, args := #[] }]) w1 := by rw [p1, p2]; exact l1
          have hres : (resolve a.eval (rangeCall f (w.heap.size + 1)) 0).run P w1 = .ok { target := .fn (.func g) ⟨c'⟩, args := ⟨a' ++ [.func (.yield (w.heap.size + 1)) #[] #[]]⟩ } w1 := by
            simp only [resolve, rangeCall, e1, Deferred.ofValue, Sem.run_pure]
            congr 2
            simp [Act.eval]
          have hinv : (invoke (Target.fn (.func g) ⟨c'⟩) ⟨a' ++ [.func (.yield (w.heap.size + 1)) #[] #[]]⟩).run P w1 = .ok (.enter g ⟨a' ++ (.func (.yield (w.heap.size + 1)) #[] #[] :: c')⟩) w1 := by
            simp only [invoke]
            rw [callFunc_enter q1 q2 q3]
            congr 2
            simp
          have s1 := stepR_rangeFunc (k := k) (cs := cs) he hres hinv
          obtain ⟨fr, s2, s3⟩ := k4 (b.atR { a with defers := [{ target := .collected w.heap.size, args := #[] }] ++ a.defers } (.inRangeFunc (w.heap.size + 1) :: k) :: cs) (fun q => by cases q)
          have s4 := step_leave_returned (c := b.atR { a with defers := [{ target := .collected w.heap.size, args := #[] }] ++ a.defers } (.inRangeFunc (w.heap.size + 1) :: k)) (cs := cs) s3.leaving
          rw [finish_atR_inRangeFunc] at s4
          exact .head s1 (Steps.trans s2 (.head s4 (.one (stepR_endRangeFunc m1))))
        rcases g4 with ⟨g5, g6⟩ | ⟨c, g5, g6⟩
        · injection g6 with e1 g6; injection g6 with e2 e3; subst e1 e2 e3
          refine ⟨_, w3, ρ2, m2, (l3.trans k2).trans m3, hF3, fun b k cs p1 p2 p3 p4 => ⟨?_, fun d q => by cases q⟩⟩
          have := hsteps b k cs p1 (p2 rfl)
          rw [g5] at this
          exact this
        · obtain ⟨a4, w4, ρ4, t1, t2, t3, t4⟩ := hE fn none rec c _ _ e F' A' g6 (fun _ => rfl) base ρ2 w3 _ m2 hF3
          refine ⟨a4, w4, ρ4, t1, ((l3.trans k2).trans m3).trans t2, t3, fun b k cs p1 p2 p3 p4 => ⟨?_, fun d q => by cases q⟩⟩
          have := hsteps b k cs p1 (p2 rfl)
          rw [g5] at this
          exact Arr.of_steps this (t4 b k cs p1 p2 p3 p4).1
      · cases hr
    · cases hr
  | _ => simp only at hr; cases hr
end Go.AL
end

section
namespace Go.AL
open Go

/-! ## Calls -/
theorem initT_get : ∀ (vs : List Value) (k : Nat) (T : Tr Value), k + vs.length ≤ lim + 1 → ∀ t, (initT vs k T).get t = if k ≤ t ∧ t < k + vs.length then vs[t - k]? else T.get t
  | [], k, T, _, t => by simp [initT]; intro h1 h2; omega
  | v :: vs, k, T, hl, t => by
    have hl' : k + 1 + vs.length ≤ lim + 1 := by simp at hl; omega
    show (initT vs (k + 1) (T.set dep k v)).get t = _
    rw [initT_get vs (k + 1) _ hl' t, get_set _ _ _ _ (by simp at hl; omega)]
    by_cases h1 : k + 1 ≤ t ∧ t < k + 1 + vs.length
    · rw [if_pos h1, if_pos (by simp; omega), show t - k = (t - (k + 1)) + 1 from by omega]
      rfl
    · rw [if_neg h1]
      by_cases h2 : t = k
      · subst h2
        rw [if_pos rfl, if_pos (by simp)]
        simp
      · rw [if_neg h2, if_neg (by simp; omega)]
theorem maxN_eq (a b : Nat) : maxN a b = max a b := by
  unfold maxN
  split
  · rename_i h; rw [Nat.max_eq_right (ble_true h)]
  · rename_i h; rw [Nat.max_eq_left (by have := ble_false h; omega)]
theorem init_TR {ρ : Rho} {args args' : List Value} (hR : VRs ρ args args') (nt : Nat) (hl : max args.length nt ≤ lim) :
    TR ρ (initT args 0 .leaf) (max args.length nt) ((⟨args'⟩ : Array Value) ++ Array.replicate (nt - (⟨args'⟩ : Array Value).size) undef) := by
  have hlen := hR.1
  have hle : args.length ≤ lim := by omega
  refine ⟨by simp; omega, hl, fun t ht => ?_, fun t ht => ?_⟩
  · unfold tget
    rw [initT_get args 0 _ (by omega) t]
    by_cases h1 : t < args.length
    · rw [if_pos (by omega), Nat.sub_zero, List.getElem?_eq_getElem h1]
      have h2 : t < args'.length := by omega
      have : ((⟨args'⟩ : Array Value) ++ Array.replicate (nt - (⟨args'⟩ : Array Value).size) undef).getD t undef = args'[t] := by
        rw [Array.getD_eq_getD_getElem?, Array.getElem?_append_left (by simpa using h2)]
        simp [h2]
      rw [this]
      exact hR.2 t h1 h2
    · rw [if_neg (by omega), get_leaf]
      have : ((⟨args'⟩ : Array Value) ++ Array.replicate (nt - (⟨args'⟩ : Array Value).size) undef).getD t undef = undef := by
        rw [Array.getD_eq_getD_getElem?, Array.getElem?_append_right (by simp; omega), Array.getElem?_replicate]
        split <;> rfl
      rw [this]
      exact .undef ρ
  · unfold tget
    rw [initT_get args 0 _ (by omega) t, if_neg (by omega), get_leaf]

theorem evalRes_run {p : AP} {P : Program} (fa : Fa p P) {ρ : Rho} {T : Tr Value} {nt : Nat} {tmps : Array Value} (hT : TR ρ T nt tmps) {A : AW} {w : World} (hd : Rd A ρ w) : ∀ (l : List ResultVar) (vs : List Value), evalRes T p A l = some vs →
    ∃ vs', VRs ρ vs vs' ∧ (l.mapM (m := Sem) fun | .tmp t => pure (tmps.getD t undef) | .cell a t => do loadVar t (← asAddr (tmps.getD a undef))).run P w = .ok vs' w
  | [], vs, h => by
    simp only [evalRes] at h; injection h with h; subst h
    exact ⟨[], VRs.nil ρ, rfl⟩
  | .tmp t :: l, vs, h => by
    simp only [evalRes] at h
    split at h
    · rename_i vs0 h0
      injection h with h; subst h
      obtain ⟨vs', h1, h2⟩ := evalRes_run fa hT hd l vs0 h0
      refine ⟨tmps.getD t undef :: vs', VRs.cons (hT.get t) h1, ?_⟩
      simp only [List.mapM_cons, Sem.run_bind, Sem.run_pure, Result.andThen_ok, h2]
    · cases h
  | .cell a t :: l, vs, h => by
    simp only [evalRes] at h
    split at h
    · rename_i b hb
      split at h
      · rename_i v vs0 hv h0
        injection h with h; subst h
        obtain ⟨vs', h1, h2⟩ := evalRes_run fa hT hd l vs0 h0
        have hp := hT.get a
        unfold tget at hp
        rw [hb] at hp
        simp only at hp
        obtain ⟨q, hq, _⟩ := hp.ptr_add
        rw [hq] at hp
        obtain ⟨v', g1, g2⟩ := loadA_run fa hd hp hv
        refine ⟨v' :: vs', VRs.cons g1 h1, ?_⟩
        have : (do loadVar t (← asAddr (tmps.getD a undef)) : Sem Value).run P w = .ok v' w := by
          rw [hq, ← g2]
          simp [Instr.loadAt, Instr.sureAddr, asAddr]
        simp only [List.mapM_cons]
        rw [Sem.run_bind, this]
        simp only [Sem.run_bind, Sem.run_pure, Result.andThen_ok, h2]
      · cases h
    · cases h

theorem results_sim {p : AP} {P : Program} (fa : Fa p P) {ρ : Rho} {T : Tr Value} {nt : Nat} {tmps : Array Value} (hT : TR ρ T nt tmps) {A B : AW} {w : World} (hd : Rd A ρ w) {fn : Func} {v : Value} (h : oneV (evalRes T p A fn.results.toList) A = some (v, B)) :
    B = A ∧ ∃ v', VR ρ v v' ∧ (results fn tmps).run P w = .ok v' w := by
  cases he : evalRes T p A fn.results.toList with
  | none => rw [he] at h; cases h
  | some vs =>
    rw [he] at h
    obtain ⟨vs', h1, h2⟩ := evalRes_run fa hT hd fn.results.toList vs he
    have hm : (results fn tmps).run P w = .ok (if h : (⟨vs'⟩ : Array Value).size = 1 then (⟨vs'⟩ : Array Value)[0] else .tuple ⟨vs'⟩) w := by
      unfold results
      rw [Sem.run_bind, Array.mapM_eq_mapM_toList, Sem.run_map]
      erw [h2]
      rfl
    unfold oneV at h
    split at h
    · rename_i u e
      injection e with e; subst e
      injection h with h; injection h with e1 e2; subst e1 e2
      obtain ⟨u', r, rfl, k1, k2⟩ := h1.uncons
      obtain rfl := k2.of_nil
      exact ⟨rfl, u', k1, hm⟩
    · rename_i vs0 hne e
      injection e with e; subst e
      injection h with h; injection h with e1 e2; subst e1 e2
      refine ⟨rfl, .tuple ⟨vs'⟩, .tuple vs vs' h1.1 h1.2, ?_⟩
      rw [hm, dif_neg]
      intro q
      have hl : vs.length = 1 := by rw [h1.1]; exact q
      match vs, hl with
      | [x], _ => exact hne x rfl
    · rename_i e; cases e

theorem acall_run {p : AP} {P : Program} (fa : Fa p P) {n : Nat} (hE : ExecP p P n) (hD : DefsP p P n) : CallP p P (n + 1) := by
  intro rec f args A v A' hr base ρ w args' h hR
  unfold acall at hr
  split at hr
  · -- a contract tells it
    rename_i u ho
    injection hr with hr; injection hr with e1 e2; subst e1 e2
    unfold orcK at ho
    split at ho
    · cases ho
    · split at ho
      · cases ho
      · split at ho
        · cases ho
        · rename_i x hx
          split at ho
          · rename_i hg
            injection ho with ho; subst ho
            obtain ⟨g1, g2, g3⟩ := fa.orc f x hx
            obtain ⟨w', k1, k2⟩ := g3 base A ρ w h hg
            rw [hR.of_nil]
            refine ⟨g2, x, w', ρ, k1.sim h, k1.ext ρ, plainC_VR ρ g1, fun cs _ => ?_⟩
            obtain ⟨fr, s1, s2, s3, s4, s5, s6⟩ := k2 cs
            exact ⟨fr, s1, s2, s3, s4, s5, s6⟩
          · cases ho
  split at hr
  · cases hr
  · rename_i fn hf
    split at hr
    · cases hr
    · rename_i c hb
      split at hr
      · rename_i hl
        have hl := ble_true hl
        rw [maxN_eq, llen0] at hl hr
        obtain ⟨f1, f2⟩ := fa.fn f fn hf
        refine ⟨⟨fn, c, f1, hb, f2⟩, ?_⟩
        have hT := init_TR hR fn.ntmps hl
        have main : ∀ e F1 A1, exec p n f none rec c ⟨initT args 0 .leaf, max args.length fn.ntmps, []⟩ A = some (e, F1, A1) → (∀ i, e ≠ .exit i) → (match defs p n F1.defers A1 with | some A => oneV (evalRes F1.tm p A fn.results.toList) A | none => none) = some (v, A') →
            ∃ v' w' ρ', Sim base A' ρ' w' ∧ Ext ρ w ρ' w' ∧ VR ρ' v v' ∧ ∀ cs, okCs rec cs → ∃ fr, Steps P (lone (Frame.enter P f ⟨args'⟩ (KD rec)) cs w) (lone fr cs w') ∧ Ends P rec f fr w' v' := by
          intro e F1 A1 he hne hk
          obtain ⟨a1, w1, ρ1, s1, s2, s3, s4⟩ := hE f none rec c _ A e F1 A1 he (fun _ => rfl) base ρ w { tmps := (⟨args'⟩ : Array Value) ++ Array.replicate (fn.ntmps - (⟨args'⟩ : Array Value).size) undef, defers := [] } h ⟨hT, .nil⟩
          split at hk
          · rename_i A2 hd
            obtain ⟨w2, ρ2, t1, t2, t3⟩ := hD F1.defers A1 A2 hd base ρ1 w1 a1.defers s1 s3.ds
            obtain ⟨rfl, v', k1, k2⟩ := results_sim fa (s3.tm.mono t2.sub) t1.rd hk
            refine ⟨v', w2, ρ2, t1, s2.trans t2, k1, fun cs hcs => ?_⟩
            have hb0 : Frame.enter P f ⟨args'⟩ (KD rec) = ({ (default : Frame) with fn := f, kind := KD rec, roundOf := none } : Frame).atR { tmps := (⟨args'⟩ : Array Value) ++ Array.replicate (fn.ntmps - (⟨args'⟩ : Array Value).size) undef, defers := [] } [.code c] := by
              simp [Frame.enter, Frame.atR, f1, hb]
            have g := (s4 { (default : Frame) with fn := f, kind := KD rec, roundOf := none } [] cs rfl (fun _ => rfl) rfl hcs).1
            rw [← hb0] at g
            have fin : ∀ todo, Steps P (lone (Frame.enter P f ⟨args'⟩ (KD rec)) cs w) (lone { ({ (default : Frame) with fn := f, kind := KD rec, roundOf := none } : Frame).atR a1 todo with mode := .returning } cs w1) →
                ∃ fr, Steps P (lone (Frame.enter P f ⟨args'⟩ (KD rec)) cs w) (lone fr cs w2) ∧ Ends P rec f fr w2 v' := by
              intro todo hs
              exact ⟨_, Steps.trans hs (t3 _ cs rfl rfl), rfl, rfl, rfl, rfl, fn, f1, k2⟩
            cases e with
            | norm => exact fin [] (Steps.trans g (.one (stepR_end rfl)))
            | ret => obtain ⟨k3, g⟩ := g; exact fin _ (Steps.trans g (.one (stepR_ret rfl)))
            | exit i => exact absurd rfl (hne i)
          · cases hk
        unfold callK at hr
        split at hr
        · cases hr
        · rename_i e F1 A1 hne he
          exact main e F1 A1 he (fun i q => hne i q) hr
        · cases hr
      · cases hr

/-! ## Deferred calls -/
theorem defs_run {p : AP} {P : Program} {n : Nat} (hC : CallP p P n) (hD : DefsP p P n) : DefsP p P (n + 1) := by
  intro ds A A' hr base ρ w ds' h hR
  unfold defs at hr
  cases hR with
  | nil =>
    simp only at hr
    injection hr with hr; subst hr
    refine ⟨w, ρ, h, Ext.refl ρ w, fun fr cs _ hd => ?_⟩
    have : ({ fr with defers := [] } : Frame) = fr := by cases fr; simp only at hd; subst hd; rfl
    rw [this]
    exact Steps.refl P _
  | mark m L ds ds' hL hR =>
    simp only at hr
    unfold markK at hr
    split at hr
    · rename_i hm
      have ho := h.marks m L hm hL
      obtain ⟨s1, s2⟩ := h.setMark hm hL (.deferred none)
      obtain ⟨w2, ρ2, t1, t2, t3⟩ := hD ds _ A' hr base ρ _ ds' s1 hR
      refine ⟨w2, ρ2, t1, s2.trans t2, fun fr cs hmode hd => ?_⟩
      have hst : step P (lone fr cs w) = .next (lone { fr with defers := ds' } cs { w with heap := w.heap.setIfInBounds L.B (.deferred none) }) := by
        refine step_lone_go ?_
        have hrun : (Instr.takeDeferred L.B).run P w = .ok [] { w with heap := w.heap.setIfInBounds L.B (.deferred none) } := by
          simp [Instr.takeDeferred, run_getObj_any ho (fun _ _ _ q => by cases q), run_setObj_any ho (fun _ _ _ q => by cases q)]
        simp [stepG, unwind, hmode, hd, Sem.runT_eq, hrun, GStep.bare_after]
      have := t3 { fr with defers := ds' } cs hmode rfl
      exact .head hst this
    · cases hr
  | call g args fa' cap ds ds' hv hR =>
    simp only at hr
    unfold defsK at hr
    split at hr
    · rename_i v B hc
      obtain ⟨⟨fn0, c0, q1, q2, q3⟩, v', w1, ρ1, k1, k2, k3, k4⟩ := hC true g args A v B hc base ρ w (fa' ++ cap) h hv
      obtain ⟨w2, ρ2, t1, t2, t3⟩ := hD ds B A' hr base ρ1 w1 ds' k1 (hR.mono k2.sub)
      refine ⟨w2, ρ2, t1, k2.trans t2, fun fr cs hmode hd => ?_⟩
      have hinv : (invoke (Target.fn (.func g) ⟨cap⟩) ⟨fa'⟩).run P w = .ok (.enter g ⟨fa' ++ cap⟩) w := by
        simp only [invoke]
        rw [callFunc_enter q1 q2 q3]
        congr 2
        simp
      have s1 := step_defer (P := P) (fr := fr) (cs := cs) (w := w) (by rw [hmode]; exact fun q => by cases q) hd rfl hinv
      obtain ⟨fr', s2, s3⟩ := k4 ({ fr with defers := ds' } :: cs) (fun _ => ⟨_, _, rfl, hmode⟩)
      obtain ⟨g1, g2⟩ := s3.going
      have s4 := step_going_returned (c := { fr with defers := ds' }) (cs := cs) g1 g2
      have hset : settle ({ fr with defers := ds' } : Frame).mode = fr.mode := by
        show settle fr.mode = fr.mode
        rw [hmode]; rfl
      rw [hset] at s4
      exact .head s1 (Steps.trans s2 (.head s4 (t3 { fr with defers := ds' } cs hmode rfl)))
    · cases hr
end Go.AL
end
