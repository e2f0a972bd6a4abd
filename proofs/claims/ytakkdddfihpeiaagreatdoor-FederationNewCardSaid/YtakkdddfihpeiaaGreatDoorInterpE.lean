/- Regions that draw their order; the whole soundness of the interpreter; the start of a run; what is asked of a program, out of closed lists. -/
import Derived.Test.YtakkdddfihpeiaaGreatDoorInterpD
import Derived.Orders
set_option linter.all false

section
namespace Go.AL
open Go

/-! ## A round of a range over a function -/
theorem setAll_TR {ρ : Rho} {nt : Nat} : ∀ (ts : List Tmp) (vs vs' : List Value) (T : Tr Value) (tmps : Array Value), TR ρ T nt tmps → VRs ρ vs vs' → ts.length = vs.length → (∀ t ∈ ts, t < nt) →
    TR ρ (setAll ts vs T) nt ((ts.zip vs').foldl (fun tmps (x : Tmp × Value) => tmps.setIfInBounds x.1 x.2) tmps)
  | [], vs, vs', T, tmps, h, _, _, _ => by
    have : setAll [] vs T = T := by cases vs <;> rfl
    rw [this]; exact h
  | t :: ts, [], vs', T, tmps, _, _, hl, _ => by simp at hl
  | t :: ts, v :: vs, vs', T, tmps, h, hR, hl, ht => by
    obtain ⟨v', r, rfl, h1, h2⟩ := hR.uncons
    exact setAll_TR ts vs r _ _ (h.put (ht t List.mem_cons_self) h1) h2 (by simpa using hl) (fun u hu => ht u (List.mem_cons_of_mem _ hu))

theorem lall_all {α : Type} {f : α → Bool} {l : List α} (h : lall f l = true) : ∀ x ∈ l, f x = true := fun x hx => lall_mem h x hx

theorem beginRound_sim {base : Nat} {A : AW} {ρ : Rho} {w : World} (h : Sim base A ρ w) {l : Nat} {L : Loc} {M : ALoop} (hM : A.loops.get l = some M) (hL : ρ l = some L) (hb : isReady M.state = true) (P : Program) :
    ∃ w1, (Instr.beginRound L.B).run P w = .ok () w1 ∧ Sim base (setSt A l M .busy M.pending) ρ w1 ∧ Ext ρ w ρ w1 := by
  obtain ⟨st, pending, fn, tm, nt, ps, as, body⟩ := M
  obtain ⟨o, ho, tmps, R, hT, rfl⟩ := h.loops l _ L hM hL
  have hst : st = .ready := by cases st <;> first | rfl | cases hb
  subst hst
  obtain ⟨s1, s2⟩ := h.setLoop (l' := ⟨.busy, pending, fn, tm, nt, ps, as, body⟩) hM hL (.loop { state := .busy, pending := pending, fn := fn, tmps := tmps, params := ⟨ps⟩, assign := as, body := body, defers := R }) ⟨tmps, R, hT, rfl⟩
  refine ⟨_, ?_, s1, s2⟩
  simp only [Instr.beginRound, Instr.getLoop, Sem.run_bind, run_getObj_any ho (fun _ _ _ q => by cases q), Result.andThen_ok, Sem.run_pure, run_setObj_any ho (fun _ _ _ q => by cases q)]

theorem endRound_sim {base : Nat} {A : AW} {ρ : Rho} {w : World} (h : Sim base A ρ w) {l : Nat} {L : Loc} {M : ALoop} (hM : A.loops.get l = some M) (hL : ρ l = some L) (j : Option Code) (P : Program) :
    ∃ w1, (Instr.endRound L.B j).run P w = .ok (.bool j.isNone) w1 ∧ Sim base (setSt A l M (if j.isNone then .ready else .done) j) ρ w1 ∧ Ext ρ w ρ w1 := by
  obtain ⟨st, pending, fn, tm, nt, ps, as, body⟩ := M
  obtain ⟨o, ho, tmps, R, hT, rfl⟩ := h.loops l _ L hM hL
  obtain ⟨s1, s2⟩ := h.setLoop (l' := ⟨if j.isNone then .ready else .done, j, fn, tm, nt, ps, as, body⟩) hM hL (.loop { state := if j.isNone then .ready else .done, pending := j, fn := fn, tmps := tmps, params := ⟨ps⟩, assign := as, body := body, defers := R }) ⟨tmps, R, hT, rfl⟩
  refine ⟨_, ?_, s1, s2⟩
  simp only [Instr.endRound, Instr.getLoop, Sem.run_bind, run_getObj_any ho (fun _ _ _ q => by cases q), Result.andThen_ok, Sem.run_pure, run_setObj_any ho (fun _ _ _ q => by cases q)]

theorem around_run {p : AP} {P : Program} {n : Nat} (hE : ExecP p P n) : RoundP p P (n + 1) := by
  intro l args A v A' hr base ρ w args' L h hR hL
  unfold around at hr
  split at hr
  · cases hr
  · rename_i M hM
    split at hr
    · cases hr
    · rename_i hck
      obtain ⟨c1, c2⟩ := andB_true hck
      have c1 := beq_true c1
      rw [llen0, llen0] at c1
      obtain ⟨o, ho, tmps, R, hT, rfl⟩ := h.loops l M L hM hL
      have hT2 := setAll_TR M.params args args' M.tm tmps hT hR c1.symm (fun t ht => ble_true (lall_mem c2 t ht))
      have hy : (Instr.yield L.B ⟨args'⟩).run P w = .ok (.round L.B M.fn ((M.params.zip args').foldl (fun tmps (x : Tmp × Value) => tmps.setIfInBounds x.1 x.2) tmps) M.assign M.body) w := by
        have hsz : (⟨args'⟩ : Array Value).size = (⟨M.params⟩ : Array Tmp).size := by
          show args'.length = M.params.length
          rw [← hR.1, c1]
        simp only [Instr.yield, Instr.getLoop, Sem.run_bind, run_getObj_any ho (fun _ _ _ q => by cases q), Result.andThen_ok, Sem.run_pure]
        rw [if_neg (by simpa using hsz)]
        simp only [Sem.run_bind, Result.andThen_ok, Sem.run_pure]
        congr 2
        rw [← Array.foldl_toList, Array.toList_zip]
      unfold roundMid at hr
      split at hr
      · rename_i F1 A1 h1
        split at hr
        · cases hr
        · rename_i M1 hM1
          split at hr
          · rename_i hready
            obtain ⟨a1, w1, ρ1, s1, s2, s3, s4⟩ := hE M.fn (some l) false M.assign _ A .norm F1 A1 h1 (fun q => by cases q) base ρ w { tmps := (M.params.zip args').foldl (fun tmps (x : Tmp × Value) => tmps.setIfInBounds x.1 x.2) tmps, defers := [] } h ⟨hT2, .nil⟩
            obtain ⟨w2, t1, t2, t3⟩ := beginRound_sim s1 hM1 (s2.sub _ _ hL) hready P
            unfold roundEnd at hr
            split at hr
            · rename_i e tm2 nt2 A2 h2
              obtain ⟨a2, w3, ρ2, k1, k2, k3, k4⟩ := hE M.fn (some l) false M.body F1 _ e _ A2 h2 (fun q => by cases q) base ρ1 w2 a1 t2 s3
              have hL2 : ρ2 l = some L := k2.sub _ _ (s2.sub _ _ hL)
              have fin : ∀ (j : Option Code) M2, A2.loops.get l = some M2 → jumpOf e = j → v = .bool j.isNone → A' = setSt A2 l M2 (if j.isNone then .ready else .done) j → ∃ v' w' ρ' f tmps as body, Sim base A' ρ' w' ∧ Ext ρ w ρ' w' ∧ VR ρ' v v' ∧ (Instr.yield L.B ⟨args'⟩).run P w = .ok (.round L.B f tmps as body) w ∧
                  ∀ c cs, Steps P (lone (Frame.round L.B f tmps as body .normal) (c :: cs) w) (lone (c.finish v') cs w') := by
                intro j M2 hM2 hj hv hA
                obtain ⟨w4, g1, g2, g3⟩ := endRound_sim k1 hM2 hL2 j P
                subst hv hA
                refine ⟨.bool j.isNone, w4, ρ2, M.fn, _, M.assign, M.body, g2, ((s2.trans t3).trans k2).trans g3, .bool _, hy, fun c cs => ?_⟩
                have hb0 : Frame.round L.B M.fn ((M.params.zip args').foldl (fun tmps (x : Tmp × Value) => tmps.setIfInBounds x.1 x.2) tmps) M.assign M.body .normal = ({ (default : Frame) with fn := M.fn, kind := .normal, roundOf := some L.B } : Frame).atR { tmps := (M.params.zip args').foldl (fun tmps (x : Tmp × Value) => tmps.setIfInBounds x.1 x.2) tmps, defers := [] } [.code M.assign, .beginRound, .code M.body] := by
                  simp [Frame.round, Frame.atR]
                have r1 := (s4 { (default : Frame) with fn := M.fn, kind := .normal, roundOf := some L.B } [.beginRound, .code M.body] (c :: cs) rfl (fun q => by cases q) rfl (fun q => by cases q)).1
                rw [← hb0] at r1
                have r2 := stepR_beginRound (P := P) (b := { (default : Frame) with fn := M.fn, kind := .normal, roundOf := some L.B }) (a := a1) (k := [.code M.body]) (cs := c :: cs) rfl t1
                have r3 := (k4 { (default : Frame) with fn := M.fn, kind := .normal, roundOf := some L.B } [] (c :: cs) rfl (fun q => by cases q) rfl (fun q => by cases q)).1
                refine Steps.trans r1 (.head r2 ?_)
                cases e with
                | norm =>
                  have : j = none := by rw [← hj]; rfl
                  subst this
                  exact Steps.trans r3 (.one (stepR_round_end rfl rfl g1))
                | exit i =>
                  have : j = some (.exit i) := by rw [← hj]; rfl
                  subst this
                  obtain ⟨k5, r4, r5⟩ := r3
                  exact Steps.trans r5 (.one (stepR_round_exit rfl rfl (by rw [r4]; rfl) g1))
                | ret =>
                  have : j = some .ret := by rw [← hj]; rfl
                  subst this
                  obtain ⟨k5, r5⟩ := r3
                  exact Steps.trans r5 (.one (stepR_round_ret rfl rfl g1))
              split at hr
              · cases hr
              · rename_i M2 hM2
                split at hr
                · rename_i hj
                  injection hr with hr; injection hr with e1 e2
                  exact fin none M2 hM2 hj e1.symm e2.symm
                · rename_i j hj
                  injection hr with hr; injection hr with e1 e2
                  exact fin (some j) M2 hM2 hj e1.symm e2.symm
            · cases hr
          · cases hr
      · cases hr
end Go.AL
end

section
namespace Go.AL
open Go

/-! ## Equal values -/
theorem bytes_ext {a b : ByteArray} (h : bytesEq a b = true) : a = b := (bytesEq_eq a b).1 h
theorem veq_eq : ∀ (n : Nat) (f : Bool) (as bs : List Value), veq n f as bs = true → as = bs
  | 0, f, as, bs, h => by simp [veq] at h
  | n + 1, true, [], [], _ => rfl
  | n + 1, true, [], b :: bs, h => by simp [veq] at h
  | n + 1, true, a :: as, [], h => by simp [veq] at h
  | n + 1, true, a :: as, b :: bs, h => by
    simp only [veq] at h
    obtain ⟨h1, h2⟩ := andB_true h
    have e1 := veq_eq n false [a] [b] h1
    have e2 := veq_eq n true as bs h2
    injection e1 with e1
    rw [e1, e2]
  | n + 1, false, [], bs, h => by simp [veq] at h
  | n + 1, false, [a], [], h => by simp [veq] at h
  | n + 1, false, [a], b :: c :: d, h => by simp [veq] at h
  | n + 1, false, a :: b :: as, bs, h => by simp [veq] at h
  | n + 1, false, [a], [b], h => by
    have key : a = b := by
      simp only [veq] at h
      split at h
      · rfl
      · rfl
      · obtain ⟨h1, h2⟩ := andB_true h
        rw [ikEq_eq h1, (iEq_eq _ _).1 h2]
      · rw [bytes_ext h]
      · rfl
      · obtain ⟨h1, h2⟩ := andB_true h
        rw [beq_true h1, beq_true h2]
      · obtain ⟨h1, h2⟩ := andB_true h
        rw [beq_true h1, beq_true h2]
      · obtain ⟨h1, h2⟩ := andB_true h
        obtain ⟨h3, h4⟩ := andB_true h1
        obtain ⟨h5, h6⟩ := andB_true h2
        rw [beq_true h3, beq_true h4, beq_true h5, beq_true h6]
      · obtain ⟨h0, h⟩ := andB_true h
        obtain ⟨h1, h2⟩ := andB_true h
        obtain ⟨h3, h4⟩ := andB_true h1
        obtain ⟨h5, h6⟩ := andB_true h2
        rw [beq_true h0, beq_true h3, beq_true h4, beq_true h5, beq_true h6]
      · rfl
      · rw [beq_true h]
      · obtain ⟨h1, h2⟩ := andB_true h
        obtain ⟨h3, h4⟩ := andB_true h2
        rw [beq_true h1, Array.ext' (veq_eq n true _ _ h3), Array.ext' (veq_eq n true _ _ h4)]
      · rfl
      · obtain ⟨h1, h2⟩ := andB_true h
        have e := veq_eq n false _ _ h2
        injection e with e
        rw [beq_true h1, e]
      · rfl
      · rw [Array.ext' (veq_eq n true _ _ h)]
      · rw [Array.ext' (veq_eq n true _ _ h)]
      · cases h
    rw [key]
theorem again_some {p : AP} {A : AW} {o : Oper} {T : Tr Value} {r : Value} (h : again p A o T r = true) : ∃ B, opA p T A o = some (.val r B) := by
  unfold again at h
  split at h
  · rename_i v B hv
    have e := veq_eq _ _ _ _ h
    injection e with e
    exact ⟨B, by rw [e]; exact hv⟩
  · cases h

/-! ## Which blocks a value speaks of -/
def restr (ρ : Rho) (N : Nat) : Rho := fun b => if b < N then ρ b else none
theorem restr_lt {ρ : Rho} {N b : Nat} (h : b < N) : restr ρ N b = ρ b := if_pos h
theorem restr_some {ρ : Rho} {N b : Nat} {L : Loc} (h : restr ρ N b = some L) : b < N ∧ ρ b = some L := by
  unfold restr at h
  split at h
  · rename_i hb; exact ⟨hb, h⟩
  · cases h
theorem sub_restr (ρ : Rho) (N : Nat) : Sub (restr ρ N) ρ := fun _ _ h => (restr_some h).2
def Ids (N : Nat) (v : Value) : Prop := ∃ ρ v', VR ρ v v' ∧ ∀ b L, ρ b = some L → b < N
theorem VR.ids {ρ : Rho} {v v' : Value} (h : VR ρ v v') {N : Nat} (hd : ∀ b L, ρ b = some L → b < N) : Ids N v := ⟨ρ, v', h, hd⟩
theorem VR.restr {ρ : Rho} {N : Nat} (hN : 100 ≤ N) {v v' : Value} (h : VR ρ v v') : Ids N v → VR (Go.AL.restr ρ N) v v' := by
  induction h with
  | bool b => exact fun _ => .bool b
  | int k n => exact fun _ => .int k n
  | str s => exact fun _ => .str s
  | ptr0 => exact fun _ => .ptr0
  | ptr b o L hb =>
    rintro ⟨σ, u, hu, hd⟩
    cases hu with
    | ptr b o M hM => exact .ptr b o L (by rw [restr_lt (hd _ _ hM)]; exact hb)
    | ptrg b o hlt => exact .ptr b o L (by rw [restr_lt (by omega)]; exact hb)
  | ptrg b o hb => exact fun _ => .ptrg b o hb
  | sl0 => exact fun _ => .sl0
  | sl b o n c L hb h0 =>
    rintro ⟨σ, u, hu, hd⟩
    cases hu with
    | sl b o n c M hM => exact .sl b o n c L (by rw [restr_lt (hd _ _ hM)]; exact hb) h0
  | slx b o k n c c' L hb h0 h1 h2 h3 =>
    rintro ⟨σ, u, hu, hd⟩
    cases hu with
    | slx b o k n c c1 M hM => exact .slx b o k n c c' L (by rw [restr_lt (hd _ _ hM)]; exact hb) h0 h1 h2 h3
    | slg => exact absurd rfl h1
  | slg a n c' h => exact fun _ => .slg a n c' h
  | map0 => exact fun _ => .map0
  | map r L hr =>
    rintro ⟨σ, u, hu, hd⟩
    cases hu with
    | map r M hM => exact .map r L (by rw [restr_lt (hd _ _ hM)]; exact hr)
  | func f a a' c c' h1 _ h3 _ i1 i2 =>
    rintro ⟨σ, u, hu, hd⟩
    cases hu with
    | func f a b c d g1 g2 g3 g4 => exact .func f _ _ _ _ h1 (fun i q1 q2 => i1 i q1 q2 ⟨σ, _, g2 i q1 (by omega), hd⟩) h3 (fun i q1 q2 => i2 i q1 q2 ⟨σ, _, g4 i q1 (by omega), hd⟩)
  | yield l L hl =>
    rintro ⟨σ, u, hu, hd⟩
    cases hu with
    | yield l M hM => exact .yield l L (by rw [restr_lt (hd _ _ hM)]; exact hl)
  | nilFunc => exact fun _ => .nilFunc
  | iface t v v' _ ih =>
    rintro ⟨σ, u, hu, hd⟩
    cases hu with
    | iface t v w hw => exact .iface t _ _ (ih ⟨σ, _, hw, hd⟩)
  | nilIface => exact fun _ => .nilIface
  | agg a a' h1 _ i1 =>
    rintro ⟨σ, u, hu, hd⟩
    cases hu with
    | agg a b g1 g2 => exact .agg _ _ h1 (fun i q1 q2 => i1 i q1 q2 ⟨σ, _, g2 i q1 (by omega), hd⟩)
  | tuple a a' h1 _ i1 =>
    rintro ⟨σ, u, hu, hd⟩
    cases hu with
    | tuple a b g1 g2 => exact .tuple _ _ h1 (fun i q1 q2 => i1 i q1 q2 ⟨σ, _, g2 i q1 (by omega), hd⟩)
theorem VRs.restr {ρ : Rho} {N : Nat} (hN : 100 ≤ N) {a a' : List Value} (h : VRs ρ a a') (hi : ∀ v ∈ a, Ids N v) : VRs (Go.AL.restr ρ N) a a' :=
  ⟨h.1, fun i h1 h2 => (h.2 i h1 h2).restr hN (hi _ (List.getElem_mem h1))⟩

/-! ## The order that the edges ask for -/
theorem bindsAny_eq (e : Edge) : bindsAny e = Region.binds .any e := by
  unfold bindsAny Region.binds
  cases e.ground <;> rfl
theorem ordered_eq (ms : List Nat) (i j : Nat) : ordered ms i j = true ↔ ∃ m, ms[j]? = some m ∧ m.testBit i = true := by
  unfold ordered
  rw [nthL_eq]
  cases ms[j]? with
  | none => simp
  | some m =>
    simp only [Option.some.injEq, exists_eq_left']
    have : m.testBit i = Nat.beq (Nat.mod (Nat.shiftRight m i) 2) 1 := by
      rw [Nat.testBit, Nat.and_comm, Nat.and_one_is_mod]
      show ((m >>> i) % 2 != 0) = Nat.beq ((m >>> i) % 2) 1
      rcases Nat.mod_two_eq_zero_or_one (m >>> i) with h | h <;> rw [h] <;> rfl
    rw [this]
theorem maskOf_bit (acc : List Nat) : ∀ (es : List Edge) (s i : Nat), (maskOf acc es s).testBit i = true → s.testBit i = true ∨ ∃ e ∈ es, bindsAny e = true ∧ (i = e.on ∨ ∃ m, acc[e.on]? = some m ∧ m.testBit i = true)
  | [], s, i, h => .inl h
  | e :: es, s, i, h => by
    unfold maskOf at h
    split at h
    · rename_i hb
      rcases maskOf_bit acc es _ i h with h1 | ⟨e', h2, h3⟩
      · have h1' : (s ||| (2 ^ e.on ||| (match nthL acc e.on with | some m => m | none => 0))).testBit i = true := h1
        rw [Nat.testBit_or, Nat.testBit_or] at h1'
        simp only [Bool.or_eq_true] at h1'
        rcases h1' with h1 | h1 | h1
        · exact .inl h1
        · rw [Nat.testBit_two_pow] at h1
          exact .inr ⟨e, List.mem_cons_self, hb, .inl (by simpa using h1 : e.on = i).symm⟩
        · rw [nthL_eq] at h1
          cases hm : acc[e.on]? with
          | none => rw [hm] at h1; simp at h1
          | some m => rw [hm] at h1; exact .inr ⟨e, List.mem_cons_self, hb, .inr ⟨m, hm, h1⟩⟩
      · exact .inr ⟨e', List.mem_cons_of_mem _ h2, h3⟩
    · rcases maskOf_bit acc es s i h with h1 | ⟨e', h2, h3⟩
      · exact .inl h1
      · exact .inr ⟨e', List.mem_cons_of_mem _ h2, h3⟩
theorem masks_spec : ∀ (l : List Oper) (acc : List Nat), (∃ r, masks l acc = acc ++ r) ∧ ∀ j m, (masks l acc)[j]? = some m → acc.length ≤ j → ∃ o, l[j - acc.length]? = some o ∧ m = maskOf ((masks l acc).take j) o.after.toList 0
  | [], acc => ⟨⟨[], by simp [masks]⟩, fun j m h hj => by
    have : (masks [] acc)[j]? = none := by simp [masks]; omega
    rw [this] at h; cases h⟩
  | o :: l, acc => by
    obtain ⟨⟨r, hr⟩, h2⟩ := masks_spec l (acc ++ [maskOf acc o.after.toList 0])
    have e : masks (o :: l) acc = masks l (acc ++ [maskOf acc o.after.toList 0]) := rfl
    refine ⟨⟨[maskOf acc o.after.toList 0] ++ r, by rw [e, hr, List.append_assoc]⟩, fun j m h hj => ?_⟩
    rw [e] at h ⊢
    by_cases hj' : j = acc.length
    · subst hj'
      rw [hr] at h ⊢
      have h1 : m = maskOf acc o.after.toList 0 := by
        rw [List.append_assoc, List.getElem?_append_right (Nat.le_refl _)] at h
        simp at h
        exact h.symm
      refine ⟨o, by simp, ?_⟩
      rw [List.append_assoc, List.take_append_of_le_length (Nat.le_refl _), List.take_length]
      exact h1
    · obtain ⟨o', h3, h4⟩ := h2 j m h (by simp; omega)
      refine ⟨o', ?_, h4⟩
      rw [List.length_append] at h3
      rw [show j - acc.length = (j - (acc.length + 1)) + 1 from by omega]
      exact h3
theorem ordered_step {l : List Oper} {i j : Nat} (h : ordered (masks l []) i j = true) : ∃ o e, l[j]? = some o ∧ e ∈ o.after.toList ∧ bindsAny e = true ∧ (i = e.on ∨ (e.on < j ∧ ordered (masks l []) i e.on = true)) := by
  obtain ⟨m, h1, h2⟩ := (ordered_eq _ _ _).1 h
  obtain ⟨o, h3, rfl⟩ := (masks_spec l []).2 j m h1 (Nat.zero_le _)
  rcases maskOf_bit _ _ _ _ h2 with h4 | ⟨e, h5, h6, h7⟩
  · simp at h4
  · refine ⟨o, e, by simpa using h3, h5, h6, ?_⟩
    rcases h7 with h7 | ⟨m', h8, h9⟩
    · exact .inl h7
    · rw [List.getElem?_take] at h8
      split at h8
      · rename_i hlt
        exact .inr ⟨hlt, (ordered_eq _ _ _).2 ⟨m', h8, h9⟩⟩
      · cases h8
/-- What is listed, its forerunners are. -/
theorem ordered_listed {l : List Oper} (S : Nat → Prop) (hS : ∀ j o e, S j → l[j]? = some o → e ∈ o.after.toList → bindsAny e = true → S e.on) : ∀ (j i : Nat), ordered (masks l []) i j = true → S j → S i := by
  intro j
  induction j using Nat.strongRecOn with
  | _ j ih =>
    intro i h hj
    obtain ⟨o, e, h1, h2, h3, h4⟩ := ordered_step h
    have he := hS j o e hj h1 h2 h3
    rcases h4 with rfl | ⟨h5, h6⟩
    · exact he
    · exact ih e.on h5 i h6 he
end Go.AL
end

section
namespace Go.AL
open Go

/-! ## An operation looks at its operands alone -/
theorem evalL_congr {T T' : Tr Value} : ∀ (l : List Operand), (∀ x ∈ l, evalO T x = evalO T' x) → evalL T l = evalL T' l
  | [], _ => rfl
  | x :: l, h => by
    show evalO T x :: evalL T l = evalO T' x :: evalL T' l
    rw [h x List.mem_cons_self, evalL_congr l (fun y hy => h y (List.mem_cons_of_mem _ hy))]
theorem evalP_congr {T T' : Tr Value} : ∀ (l : List (Nat × Operand)), (∀ x ∈ sndL l, evalO T x = evalO T' x) → evalP T l = evalP T' l
  | [], _ => rfl
  | (i, x) :: l, h => by
    show (i, evalO T x) :: evalP T l = (i, evalO T' x) :: evalP T' l
    rw [h x List.mem_cons_self, evalP_congr l (fun y hy => h y (List.mem_cons_of_mem _ hy))]
theorem optL_map {T T' : Tr Value} {x : Option Operand} {l : List Operand} (h : ∀ y ∈ optL x l, evalO T y = evalO T' y) : x.map (evalO T) = x.map (evalO T') ∧ ∀ y ∈ l, evalO T y = evalO T' y := by
  cases x with
  | none => exact ⟨rfl, h⟩
  | some x => exact ⟨by simp only [Option.map_some]; rw [h x List.mem_cons_self], fun y hy => h y (List.mem_cons_of_mem _ hy)⟩
theorem callA_congr {p : AP} {A : AW} {T T' : Tr Value} {c : Call} (h : ∀ x ∈ opndsC c, evalO T x = evalO T' x) : opCall p T A c = opCall p T' A c := by
  unfold opCall callA
  unfold opndsC at h
  cases hc : c.callee with
  | builtin b => simp only [hc] at h ⊢; rw [evalL_congr _ h]
  | value f => simp only [hc] at h ⊢; rw [evalL_congr c.args.toList (fun x hx => h x (List.mem_cons_of_mem _ hx)), h f List.mem_cons_self]
  | invoke r m => simp only [hc] at h ⊢; rw [evalL_congr c.args.toList (fun x hx => h x (List.mem_cons_of_mem _ hx)), h r List.mem_cons_self]
theorem opA_congr {p : AP} {A : AW} {T T' : Tr Value} {o : Oper} (h : ∀ x ∈ opnds o.op, evalO T x = evalO T' x) : opA p T A o = opA p T' A o := by
  unfold opA
  cases ho : o.op with
  | move x => simp only [ho, opnds] at h ⊢; simp only [opVal, h x (by simp)]
  | assign x => simp only [ho, opnds] at h ⊢; simp only [opVal, h x (by simp)]
  | pick c x y => simp only [ho, opnds] at h ⊢; simp only [opPick, h c (by simp), h x (by simp), h y (by simp)]
  | alloc e => rfl
  | box e x => simp only [ho, opnds] at h ⊢; simp only [opBox, h x (by simp)]
  | build t parts => simp only [ho, opnds] at h ⊢; simp only [opBuild, evalP_congr _ h]
  | buildSlice t len parts => simp only [ho, opnds] at h ⊢; simp only [opBuildSlice, evalP_congr _ h]
  | load t x => simp only [ho, opnds] at h ⊢; rw [h x (by simp)]
  | store t x y => simp only [ho, opnds] at h ⊢; rw [h x (by simp), h y (by simp)]
  | nilCheck x => simp only [ho, opnds] at h ⊢; rw [h x (by simp)]
  | binOp op t x y yt => simp only [ho, opnds] at h ⊢; rw [h x (by simp), h y (by simp)]
  | unOp op t x => simp only [ho, opnds] at h ⊢; rw [h x (by simp)]
  | convert s d x => simp only [ho, opnds] at h ⊢; rw [h x (by simp)]
  | makeInterface t x => simp only [ho, opnds] at h ⊢; rw [h x (by simp)]
  | makeFunc fn first captured =>
    simp only [ho, opnds] at h ⊢
    unfold opMkFn
    cases fn with
    | func f => simp only [opMkF, evalL_congr first.toList (fun x hx => h x (List.mem_append_left _ hx)), evalL_congr captured.toList (fun x hx => h x (List.mem_append_right _ hx))]
    | _ => rfl
  | makeSlice t l c => simp only [ho, opnds] at h ⊢; rw [h l (by simp), h c (by simp)]
  | slice t x lo hi mx =>
    simp only [ho, opnds] at h ⊢
    obtain ⟨h1, h2⟩ := optL_map (fun y hy => h y (List.mem_cons_of_mem _ hy))
    obtain ⟨h3, h4⟩ := optL_map h2
    obtain ⟨h5, _⟩ := optL_map h4
    rw [h x List.mem_cons_self, h1, h3, h5]
  | fieldAddr s x k => simp only [ho, opnds] at h ⊢; rw [h x (by simp)]
  | field t x k => simp only [ho, opnds] at h ⊢; rw [h x (by simp)]
  | indexAddr t x i => simp only [ho, opnds] at h ⊢; rw [h x (by simp), h i (by simp)]
  | index t x i => simp only [ho, opnds] at h ⊢; rw [h x (by simp), h i (by simp)]
  | typeAssert x xt t ok => simp only [ho, opnds] at h ⊢; rw [h x (by simp)]
  | extract t k => simp only [ho, opnds] at h ⊢; rw [h t (by simp)]
  | makeMap t r =>
    simp only [ho, opnds] at h ⊢
    rw [(optL_map h).1]
  | mapUpdate t m k v => simp only [ho, opnds] at h ⊢; rw [h m (by simp), h k (by simp), h v (by simp)]
  | lookup t m k ok => simp only [ho, opnds] at h ⊢; rw [h m (by simp), h k (by simp)]
  | range t x => simp only [ho, opnds] at h ⊢; rw [h x (by simp)]
  | next it s => simp only [ho, opnds] at h ⊢; rw [h it (by simp)]
  | entry it => simp only [ho, opnds] at h ⊢; rw [h it (by simp)]
  | call c => simp only [ho, opnds] at h ⊢; exact callA_congr h
  | defer c =>
    simp only [ho, opnds] at h ⊢
    unfold opDefer
    unfold opndsC at h
    cases hc : c.callee with
    | builtin b => cases lall plainO c.args.toList <;> rfl
    | value f =>
      simp only [hc] at h
      rw [evalL_congr c.args.toList (fun x hx => h x (List.mem_cons_of_mem _ hx))]
      have e := h f List.mem_cons_self
      cases lall plainO c.args.toList with
      | true => show g1 f (deferF _ (evalO T f)) = g1 f (deferF _ (evalO T' f)); rw [e]
      | false => rfl
    | invoke r m => cases lall plainO c.args.toList <;> rfl
  | _ => rfl

theorem sndL_mem : ∀ (l : List (Nat × Operand)) x, x ∈ l.map (·.2) → x ∈ sndL l
  | [], x, h => by simp at h
  | (i, y) :: l, x, h => by
    simp only [List.map_cons, List.mem_cons] at h
    show x ∈ y :: sndL l
    rcases h with rfl | h
    · exact List.mem_cons_self
    · exact List.mem_cons_of_mem _ (sndL_mem l x h)
theorem opndsC_mem {c : Call} {x : Operand} (h : x ∈ c.operands) : x ∈ opndsC c := by
  unfold Call.operands at h
  unfold opndsC
  cases hc : c.callee <;> simp only [hc] at h ⊢ <;> simpa using h
/-- Whatever the model looks at, the interpreter has looked at. -/
theorem operands_opnds {p : AP} {A : AW} {T : Tr Value} {o : Oper} {r : R} (h : opA p T A o = some r) : ∀ x ∈ o.op.operands, x ∈ opnds o.op := by
  intro x hx
  unfold opA at h
  cases ho : o.op <;> simp only [ho, Op.operands, opnds] at h hx ⊢ <;> first | (cases h; done) | (simp at hx; done) | (simpa using hx) | skip
  case build t ps => exact sndL_mem _ _ (by simpa using hx)
  case buildSlice t n ps => exact sndL_mem _ _ (by simpa using hx)
  case makeMap t r0 => cases r0 <;> simp [optL] at hx ⊢; exact hx
  case slice t y lo hi mx => cases lo <;> cases hi <;> cases mx <;> simp [optL] at hx ⊢ <;> exact hx
  case call c => exact opndsC_mem hx
  case defer c => exact opndsC_mem hx

theorem hasT_mem (d : Nat) : ∀ l : List Operand, hasT d l = true ↔ .tmp d ∈ l
  | [] => by simp [hasT]
  | x :: l => by
    cases x with
    | tmp t =>
      unfold hasT
      cases hb : Nat.beq t d with
      | true => have := beq_true hb; subst this; simp
      | false =>
        have := beq_false hb
        simp only
        rw [hasT_mem d l]
        simp [Ne.symm this]
    | _ => simp only [hasT]; rw [hasT_mem d l]; simp

/-- The temporaries of a list, out of a trie. -/
noncomputable def pickT (T : Tr Value) : List Operand → Tr Value
  | [] => .leaf
  | .tmp t :: r => (pickT T r).set dep t (tget T t)
  | _ :: r => pickT T r
theorem pickT_get (T : Tr Value) (t : Nat) : ∀ l : List Operand, (∀ u, .tmp u ∈ l → u ≤ lim) → tget (pickT T l) t = if hasT t l then tget T t else vundef
  | [], _ => by simp [pickT, tget, get_leaf, hasT]
  | x :: l, h => by
    have ih := pickT_get T t l (fun u hu => h u (List.mem_cons_of_mem _ hu))
    cases x with
    | tmp u =>
      show tget ((pickT T l).set dep u (tget T u)) t = _
      rw [tget_set _ _ _ _ (h u List.mem_cons_self), ih]
      have e : hasT t (.tmp u :: l) = (match Nat.beq u t with | true => true | false => hasT t l) := rfl
      rw [e]
      cases hb : Nat.beq u t with
      | true => have := beq_true hb; subst this; simp
      | false => have := beq_false hb; rw [if_neg (fun q => this q.symm)]
    | _ => exact ih

/-- Temporaries that are right where an operation looks. -/
theorem narrow {p : AP} {ρ : Rho} {T : Tr Value} {nt : Nat} {a : Act} {o : Oper} (hnt : nt ≤ lim) (hsz : a.tmps.size = nt) (hout : ∀ t, nt ≤ t → tget T t = vundef) (h : ∀ t, .tmp t ∈ opnds o.op → t < nt → VR ρ (tget T t) (a.tmps.getD t undef)) :
    ∃ (T' : Tr Value) (a' : Act), TR ρ T' nt a'.tmps ∧ (∀ A, opA p T' A o = opA p T A o) ∧ ∀ A r, opA p T A o = some r → execOp a'.eval o = execOp a.eval o := by
  let l := (opnds o.op).filter fun x => match x with | .tmp t => decide (t < nt) | _ => false
  have hl : ∀ t, hasT t l = true ↔ .tmp t ∈ opnds o.op ∧ t < nt := by
    intro t
    rw [hasT_mem]
    simp [l]
  have hlim : ∀ u, .tmp u ∈ l → u ≤ lim := by
    intro u hu
    have := (hl u).1 ((hasT_mem u l).2 hu)
    omega
  have hT : ∀ x ∈ opnds o.op, evalO (pickT T l) x = evalO T x := by
    intro x hx
    cases x with
    | tmp t =>
      show tget (pickT T l) t = tget T t
      rw [pickT_get T t l hlim]
      by_cases ht : t < nt
      · rw [if_pos ((hl t).2 ⟨hx, ht⟩)]
      · rw [if_neg (fun q => ht ((hl t).1 q).2), hout t (Nat.le_of_not_lt ht)]
    | _ => rfl
  refine ⟨pickT T l, { tmps := Array.ofFn (n := nt) fun i => if hasT i.1 l then a.tmps.getD i.1 undef else undef, defers := a.defers }, ?_, fun A => opA_congr hT, fun A r hr => ?_⟩
  · refine ⟨by simp, hnt, fun t ht => ?_, fun t ht => ?_⟩
    · rw [pickT_get T t l hlim]
      have hg : (Array.ofFn (n := nt) fun i => if hasT i.1 l then a.tmps.getD i.1 undef else undef).getD t undef = if hasT t l then a.tmps.getD t undef else undef := by
        rw [Array.getD_eq_getD_getElem?, Array.getElem?_eq_getElem (by simpa using ht)]
        simp
      rw [hg]
      by_cases hh : hasT t l = true
      · rw [if_pos hh, if_pos hh]; exact h t ((hl t).1 hh).1 ht
      · rw [if_neg hh, if_neg hh]; exact .undef ρ
    · rw [pickT_get T t l hlim, if_neg (fun q => by have := ((hl t).1 q).2; omega)]
  · have hops := operands_opnds hr
    refine execOp_congr o (fun cs b q => ?_) (fun x hx => ?_)
    · unfold opA at hr; simp only [q] at hr; cases hr
    · have hx' := hops x hx
      cases x with
      | tmp t =>
        show (Array.ofFn (n := nt) fun i => if hasT i.1 l then a.tmps.getD i.1 undef else undef).getD t undef = a.tmps.getD t undef
        by_cases ht : t < nt
        · rw [Array.getD_eq_getD_getElem?, Array.getElem?_eq_getElem (by simpa using ht)]
          simp [(hl t).2 ⟨hx', ht⟩]
        · rw [Array.getD_eq_getD_getElem?, Array.getD_eq_getD_getElem?, Array.getElem?_eq_none (by simp; exact Nat.le_of_not_lt ht), Array.getElem?_eq_none (by rw [hsz]; exact Nat.le_of_not_lt ht)]
      | _ => rfl

/-- A world with one more map. -/
noncomputable def insM (A : AW) : AW := { A with maps := A.maps.set dep A.next [], next := Nat.succ A.next }
def isMM (o : Oper) : Bool := match o.op with | .makeMap .. => true | _ => false
/-- What lies in a block that was allocated. -/
def Lies (mm : Bool) (A B : AW) (ρ : Rho) (o : Obj) (Z : Nat) : Prop :=
  (mm = false ∧ ∃ (cells : List Value) (e : TypeId) (cells' : List Value) (arr : Array Value) (e0 : TypeId) (fr : Nat × Nat), B = insB A cells e A.next A.next ∧ o = .cells arr e0 fr ∧ Z = arr.size ∧ (∀ j, j < arr.size → (decide (fr.1 ≤ j) && decide (j < fr.2)) = false) ∧
    VRs ρ cells cells' ∧ ∀ (i : Nat) v, cells'[i]? = some v → arr[i]? = some v) ∨ (mm = true ∧ B = insM A ∧ o = .map #[] 0 ∧ Z = 0)
theorem Lies.mono {mm : Bool} {A B : AW} {ρ ρ' : Rho} {o : Obj} {Z : Nat} (hs : Sub ρ ρ') (h : Lies mm A B ρ o Z) : Lies mm A B ρ' o Z := by
  rcases h with ⟨h0, cells, e, cells', arr, e0, fr, h1, h2, h3, h4, h5, h6⟩ | h
  · exact .inl ⟨h0, cells, e, cells', arr, e0, fr, h1, h2, h3, h4, h5.mono hs, h6⟩
  · exact .inr h
/-- What an allocation adds. -/
def Adds (mm : Bool) (A B : AW) : Prop := (mm = false ∧ ∃ cells e, B = insB A cells e A.next A.next ∧ ∀ c ∈ cells, Ids A.next c) ∨ (mm = true ∧ B = insM A)
theorem Adds.next {mm : Bool} {A B : AW} (h : Adds mm A B) : B.next = A.next + 1 := by
  rcases h with ⟨_, c, e, rfl, _⟩ | ⟨_, rfl⟩ <;> rfl
/-- An allocation of a row of cells. -/
theorem al_op {p : AP} {P : Program} (fa : Fa p P) {ρ : Rho} {T : Tr Value} {nt : Nat} {a : Act} {A : AW} {o : Oper} {r : R} (hT : TR ρ T nt a.tmps) (hk : kindOf p o = .alloc) (hm : isMM o = false) (h : opA p T A o = some r) : AlR P ρ A r (execOp a.eval o) := by
  unfold opA at h
  unfold execOp
  unfold kindOf at hk
  cases ho : o.op with
  | alloc e => simp only [ho] at h ⊢; exact alloc_run fa h
  | box e x => simp only [ho] at h ⊢; exact box_run hT h
  | buildSlice t len parts =>
    simp only [ho] at h ⊢
    unfold opBuildSlice at h
    split at h
    · rename_i hp
      have hq : VRP ρ (evalP T parts.toList) (parts.map fun (i, x) => (i, a.eval x)).toList := by rw [Array.toList_map]; exact evalP_VRP hT parts.toList hp
      have k := buildSlice_run fa hq h
      exact k
    · cases h
  | makeSlice t l c =>
    simp only [ho] at h ⊢
    obtain ⟨h1, h2, h⟩ := g2_some h
    exact makeSlice_run fa (eval_VR hT h1) (eval_VR hT h2) h
  | convert src dst x =>
    simp only [ho] at h hk ⊢
    obtain ⟨h1, h⟩ := g1_some h
    split at hk <;> first | (cases hk; done) | skip
    rename_i e hd
    exact conv_alloc_run fa (eval_VR hT h1) hd h
  | call c =>
    simp only [ho] at hk
    cases hc : c.callee with
    | builtin b => rw [hc] at hk; cases b <;> cases hk
    | value f => rw [hc] at hk; cases hk
    | invoke r m => rw [hc] at hk; cases hk
  | makeMap t x => simp [isMM, ho] at hm
  | _ => simp only [ho] at hk; cases hk
/-- An operation that allocates. -/
theorem al_new {p : AP} {P : Program} (fa : Fa p P) {ρ : Rho} {T : Tr Value} {nt : Nat} {a : Act} {A : AW} {o : Oper} {r : R} (hT : TR ρ T nt a.tmps) (hk : kindOf p o = .alloc) (h : opA p T A o = some r) :
    ∃ v B, r = .val v B ∧ A.next + 1 ≤ lim ∧ ∀ w, ∃ v' w1 obj Z, SameMem w w1 ∧ (execOp a.eval o).run P w = .ok (.value v') (w1.alloc obj) ∧ Lies (isMM o) A B ρ obj Z ∧ ∀ ρ' : Rho, ρ' A.next = some ⟨w.heap.size, 0, Z, 0⟩ → VR ρ' v v' := by
  cases hm : isMM o with
  | false =>
    obtain ⟨v, cells, e, rfl, hl, cells', hV, hrun⟩ := al_op fa hT hk hm h
    refine ⟨v, _, rfl, hl, fun w => ?_⟩
    obtain ⟨v', w1, arr, e0, fr, r1, r2, r3, r4, r5⟩ := hrun w
    exact ⟨v', w1, .cells arr e0 fr, arr.size, r1, r2, .inl ⟨rfl, cells, e, cells', arr, e0, fr, rfl, rfl, rfl, r3, hV, r4⟩, r5⟩
  | true =>
    unfold opA at h
    unfold execOp
    unfold isMM at hm
    cases ho : o.op with
    | makeMap t x =>
      simp only [ho] at h ⊢
      obtain ⟨h1, e⟩ := gO_some h
      have hx := VRO.map hT h1
      unfold opMakeMap at e
      split at e
      · rename_i kt et hu
        split at e
        · rename_i hi hn
          injection e with e; subst e
          have hn' := ble_true hn
          refine ⟨_, _, rfl, hn', fun w => ⟨.map (some w.heap.size), w, .map #[] 0, 0, SameMem.refl w, ?_, .inr ⟨rfl, rfl, rfl, rfl⟩, fun ρ' hρ => .map A.next ⟨w.heap.size, 0, 0, 0⟩ hρ⟩⟩
          cases x with
          | none => simp [Instr.makeMap]
          | some x =>
            obtain ⟨v', hv1, hv⟩ := hx.some_l
            simp only [Option.map_some] at hi hv1 ⊢
            injection hv1 with hv1
            rw [hv1]
            generalize evalO T x = y at hi hv
            cases hv <;> first | (simp [isIntV] at hi; done) | skip
            simp [Instr.makeMap, run_under fa hu w, asInt, asIntOf]
        · cases e
      · cases e
    | _ => simp only [ho] at hm; cases hm
end Go.AL
end

section
namespace Go.AL
open Go

/-! ## What a run of the interpreter over a drawn region tells -/
noncomputable def putT (T : Tr Value) (d : Option Tmp) (v : Value) : Tr Value := match d with | none => T | some d => T.set dep d v
theorem putA_tm {F G : Fr} {d : Option Tmp} {v : Value} (h : putA F d v = some G) : G.tm = putT F.tm d v ∧ G.nt = F.nt ∧ G.defers = F.defers ∧ ∀ t, d = some t → t < F.nt := by
  rcases putA_some h with ⟨rfl, rfl⟩ | ⟨t, rfl, ht, rfl⟩
  · exact ⟨rfl, rfl, rfl, fun t q => by cases q⟩
  · exact ⟨rfl, rfl, rfl, fun u q => by injection q with q; subst q; exact ht⟩
def EffA (p : AP) (n : Nat) (T : Tr Value) (A : AW) (o : Oper) (v : Value) (B : AW) : Prop :=
  opA p T A o = some (.val v B) ∨ (opA p T A o = some (.skip B) ∧ v = vundef) ∨ (∃ g args m, m < n ∧ opA p T A o = some (.call g args) ∧ acall p m false g args A = some (v, B)) ∨
    (∃ l args m, m < n ∧ opA p T A o = some (.round l args) ∧ around p m l args A = some (v, B))
theorem EffA.le {p : AP} {n n' : Nat} {T : Tr Value} {A : AW} {o : Oper} {v : Value} {B : AW} (h : EffA p n T A o v B) (hn : n ≤ n') : EffA p n' T A o v B := by
  rcases h with h | h | ⟨g, args, m, h1, h2⟩ | ⟨l, args, m, h1, h2⟩
  · exact .inl h
  · exact .inr (.inl h)
  · exact .inr (.inr (.inl ⟨g, args, m, by omega, h2⟩))
  · exact .inr (.inr (.inr ⟨l, args, m, by omega, h2⟩))
def Kd (p : AP) (n : Nat) (T : Tr Value) (A : AW) (o : Oper) (v : Value) (B : AW) : Prop :=
  match kindOf p o with
  | .pure => opA p T A o = some (.val v B)
  | .alloc => opA p T A o = some (.val v B)
  | .read => opA p T A o = some (.val v B)
  | .eff => EffA p n T A o v B ∧ A.next ≤ B.next
  | .bad => False
theorem Kd.le {p : AP} {n n' : Nat} {T : Tr Value} {A : AW} {o : Oper} {v : Value} {B : AW} (h : Kd p n T A o v B) (hn : n ≤ n') : Kd p n' T A o v B := by
  unfold Kd at *
  cases hk : kindOf p o <;> rw [hk] at h <;> first | exact h | exact ⟨h.1.le hn, h.2⟩
def Stp (p : AP) (n : Nat) (ops : List Oper) (nt : Nat) (T : Tr Value) (A : AW) (o : Oper) (v : Value) (T' : Tr Value) (B : AW) : Prop :=
  T' = putT T o.dst v ∧ (∀ d, o.dst = some d → d < nt) ∧ ((wantedA ops T o = false ∧ v = vundef ∧ B = A) ∨ (wantedA ops T o = true ∧ Kd p n T A o v B))
structure Tra (p : AP) (n : Nat) (ops : List Oper) (ms : List Nat) (nt i0 : Nat) (T : Nat → Tr Value) (W : Nat → AW) (v : Nat → Value) (h : Hist) : Prop where
  step : ∀ i o, i0 ≤ i → ops[i]? = some o → Stp p n ops nt (T i) (W i) o (v i) (T (i + 1)) (W (i + 1))
  rd : ∀ i o, i0 ≤ i → ops[i]? = some o → wantedA ops (T i) o = true → kindOf p o = .read →
    (∀ q ∈ h.effs, ordered ms q.1 i = true ∨ again p q.2 o (T i) (v i) = true) ∧
    (∀ e oe, i0 ≤ e → e < i → ops[e]? = some oe → wantedA ops (T e) oe = true → kindOf p oe = .eff → ordered ms e i = true ∨ again p (W e) o (T i) (v i) = true)
  ef : ∀ j oj, i0 ≤ j → ops[j]? = some oj → wantedA ops (T j) oj = true → kindOf p oj = .eff →
    (∀ q ∈ h.reads, ordered ms q.1 j = true ∨ again p (W (j + 1)) q.2.1 q.2.2.1 q.2.2.2 = true) ∧
    (∀ i oi, i0 ≤ i → i < j → ops[i]? = some oi → wantedA ops (T i) oi = true → kindOf p oi = .read → ordered ms i j = true ∨ again p (W (j + 1)) oi (T i) (v i) = true)

/-- What is kept of an operation. -/
def Kept (p : AP) (ms : List Nat) (i : Nat) (o : Oper) (T : Tr Value) (A B : AW) (v : Value) (h h1 : Hist) : Prop :=
  match kindOf p o with
  | .read => readOk p ms i o T v h = true ∧ h1 = ⟨h.effs, (i, o, T, v) :: h.reads⟩
  | .eff => (A.next ≤ B.next ∧ effOk p ms i B h = true) ∧ h1 = ⟨(i, A) :: h.effs, h.reads⟩
  | _ => h1 = h
theorem histK_val {p : AP} {ms : List Nat} {i : Nat} {o : Oper} {T : Tr Value} {A B : AW} {v : Value} {h : Hist} {k : Hist → Option (Fr × AW)} {res : Fr × AW} (hr : histK p ms i o T A B (some v) h k = some res) :
    ∃ h1, k h1 = some res ∧ Kept p ms i o T A B v h h1 ∧ kindOf p o ≠ .bad := by
  unfold histK at hr
  unfold Kept
  cases hk : kindOf p o with
  | pure => rw [hk] at hr; exact ⟨h, hr, rfl, fun q => by cases q⟩
  | alloc => rw [hk] at hr; exact ⟨h, hr, rfl, fun q => by cases q⟩
  | read =>
    rw [hk] at hr
    simp only at hr
    split at hr
    · rename_i hok; exact ⟨_, hr, ⟨hok, rfl⟩, fun q => by cases q⟩
    · cases hr
  | eff =>
    rw [hk] at hr
    simp only at hr
    split at hr
    · rename_i hok; exact ⟨_, hr, ⟨⟨ble_true (andB_true hok).1, (andB_true hok).2⟩, rfl⟩, fun q => by cases q⟩
    · cases hr
  | bad => rw [hk] at hr; cases hr
theorem histK_none {p : AP} {ms : List Nat} {i : Nat} {o : Oper} {T : Tr Value} {A B : AW} {v : Value} {h : Hist} {k : Hist → Option (Fr × AW)} {res : Fr × AW} (hr : histK p ms i o T A B none h k = some res) :
    ∃ h1, k h1 = some res ∧ Kept p ms i o T A B v h h1 ∧ kindOf p o = .eff := by
  unfold histK at hr
  unfold Kept
  cases hk : kindOf p o with
  | eff =>
    rw [hk] at hr
    simp only at hr
    split at hr
    · rename_i hok; exact ⟨_, hr, ⟨⟨ble_true (andB_true hok).1, (andB_true hok).2⟩, rfl⟩, rfl⟩
    · cases hr
  | _ => rw [hk] at hr; cases hr
theorem retD_some {p : AP} {ms : List Nat} {i : Nat} {o : Oper} {F : Fr} {A : AW} {r : Option (Value × AW)} {h : Hist} {k : Hist → Fr → AW → Option (Fr × AW)} {res : Fr × AW} (hr : retD p ms i o F A r h k = some res) :
    ∃ v B G h1, r = some (v, B) ∧ putA F o.dst v = some G ∧ k h1 G B = some res ∧ Kept p ms i o F.tm A B v h h1 ∧ kindOf p o = .eff := by
  unfold retD at hr
  split at hr
  · rename_i v B
    obtain ⟨G, hG, hr⟩ := putK_some (r := res) hr
    obtain ⟨h1, k1, k2, k3⟩ := histK_none (v := v) hr
    exact ⟨v, B, G, h1, rfl, hG, k1, k2, k3⟩
  · cases hr
theorem opD_some {p : AP} {ms : List Nat} {i n : Nat} {o : Oper} {F : Fr} {A : AW} {h : Hist} {k : Hist → Fr → AW → Option (Fr × AW)} {res : Fr × AW}
    (hr : opD p ms i o F A (opA p F.tm A o) h (acall p n false) (around p n) k = some res) :
    ∃ v B G h1, putA F o.dst v = some G ∧ k h1 G B = some res ∧ Kept p ms i o F.tm A B v h h1 ∧ Kd p (n + 1) F.tm A o v B := by
  cases hop : opA p F.tm A o with
  | none => rw [hop] at hr; cases hr
  | some r =>
    rw [hop] at hr
    cases r with
    | val v B =>
      obtain ⟨G, hG, hr⟩ := putK_some (r := res) hr
      obtain ⟨h1, k1, k2, k3⟩ := histK_val hr
      refine ⟨v, B, G, h1, hG, k1, k2, ?_⟩
      unfold Kd
      cases hk : kindOf p o with
      | bad => exact absurd hk k3
      | eff =>
        unfold Kept at k2
        rw [hk] at k2
        exact ⟨.inl hop, k2.1.1⟩
      | _ => exact hop
    | skip B =>
      obtain ⟨G, hG, hr⟩ := putK_some (r := res) hr
      obtain ⟨h1, k1, k2, k3⟩ := histK_none (v := vundef) hr
      refine ⟨vundef, B, G, h1, hG, k1, k2, ?_⟩
      unfold Kd
      unfold Kept at k2
      rw [k3] at k2 ⊢
      exact ⟨.inr (.inl ⟨hop, rfl⟩), k2.1.1⟩
    | call g args =>
      obtain ⟨v, B, G, h1, e1, e2, e3, e4, e5⟩ := retD_some (res := res) hr
      refine ⟨v, B, G, h1, e2, e3, e4, ?_⟩
      unfold Kd
      unfold Kept at e4
      rw [e5] at e4 ⊢
      exact ⟨.inr (.inr (.inl ⟨g, args, n, Nat.lt_succ_self n, hop, e1⟩)), e4.1.1⟩
    | round l args =>
      obtain ⟨v, B, G, h1, e1, e2, e3, e4, e5⟩ := retD_some (res := res) hr
      refine ⟨v, B, G, h1, e2, e3, e4, ?_⟩
      unfold Kd
      unfold Kept at e4
      rw [e5] at e4 ⊢
      exact ⟨.inr (.inr (.inr ⟨l, args, n, Nat.lt_succ_self n, hop, e1⟩)), e4.1.1⟩
    | defer g args => cases hr
    | recover => cases hr

theorem opsD_tra {p : AP} : ∀ (n : Nat) (ops : List Oper) (ms : List Nat) (i : Nat) (l : List Oper) (h : Hist) (F : Fr) (A : AW) (F' : Fr) (A' : AW), opsD p n ops ms i l h F A = some (F', A') → l = ops.drop i → i ≤ ops.length →
    ∃ T W v, Tra p n ops ms F.nt i T W v h ∧ T i = F.tm ∧ W i = A ∧ T ops.length = F'.tm ∧ W ops.length = A' ∧ F'.nt = F.nt ∧ F'.defers = F.defers
  | 0, ops, ms, i, l, h, F, A, F', A', hr, _, _ => by unfold opsD at hr; cases hr
  | n + 1, ops, ms, i, [], h, F, A, F', A', hr, hl, hi => by
    unfold opsD at hr
    simp only at hr
    injection hr with hr; injection hr with e1 e2; subst e1 e2
    have hlen : ops.length ≤ i := by
      have := congrArg List.length hl
      simp at this
      omega
    have hno : ∀ j o, i ≤ j → ops[j]? = some o → False := fun j o hj ho => by
      rw [List.getElem?_eq_none (by omega)] at ho; cases ho
    exact ⟨fun _ => F.tm, fun _ => A, fun _ => vundef, ⟨fun j o hj ho => (hno j o hj ho).elim, fun j o hj ho => (hno j o hj ho).elim, fun j o hj ho => (hno j o hj ho).elim⟩, rfl, rfl, rfl, rfl, rfl, rfl⟩
  | n + 1, ops, ms, i, o :: rest, h, F, A, F', A', hr, hl, hi => by
    unfold opsD at hr
    simp only at hr
    have hlt : i < ops.length := by
      have := congrArg List.length hl
      simp at this
      omega
    rw [List.drop_eq_getElem_cons hlt] at hl
    injection hl with e1 e2
    have ho : ops[i]? = some o := by rw [e1]; simp [hlt]
    have key : ∃ v0 G B h1, opsD p n ops ms (i + 1) rest h1 G B = some (F', A') ∧ putA F o.dst v0 = some G ∧ ((wantedA ops F.tm o = false ∧ v0 = vundef ∧ B = A ∧ h1 = h) ∨ (wantedA ops F.tm o = true ∧ Kd p (n + 1) F.tm A o v0 B ∧ Kept p ms i o F.tm A B v0 h h1)) := by
      unfold wantK at hr
      split at hr
      · rename_i hw
        obtain ⟨v, B, G, h1, q1, q2, q3, q4⟩ := opD_some hr
        exact ⟨v, G, B, h1, q2, q1, .inr ⟨hw, q4, q3⟩⟩
      · rename_i hw
        obtain ⟨G, hG, hr⟩ := putK_some (r := (F', A')) hr
        exact ⟨vundef, G, A, h, hr, hG, .inl ⟨hw, rfl, rfl, rfl⟩⟩
    obtain ⟨v0, G, B, h1, k1, k2, k3⟩ := key
    obtain ⟨g1, g2, g3, g4⟩ := putA_tm k2
    obtain ⟨T1, W1, v1, t1, t2, t3, t4, t5, t6, t7⟩ := opsD_tra n ops ms (i + 1) rest h1 G B F' A' k1 e2 hlt
    have hT : ∀ j, i < j → (if j ≤ i then F.tm else T1 j) = T1 j := fun j hj => if_neg (by omega)
    have hW : ∀ j, i < j → (if j ≤ i then A else W1 j) = W1 j := fun j hj => if_neg (by omega)
    have hv : ∀ j, i < j → (if j ≤ i then v0 else v1 j) = v1 j := fun j hj => if_neg (by omega)
    have hTi : (if i ≤ i then F.tm else T1 i) = F.tm := if_pos (Nat.le_refl i)
    have hWi : (if i ≤ i then A else W1 i) = A := if_pos (Nat.le_refl i)
    have hvi : (if i ≤ i then v0 else v1 i) = v0 := if_pos (Nat.le_refl i)
    have effs_sub : ∀ q ∈ h.effs, q ∈ h1.effs := by
      intro q hq
      rcases k3 with ⟨_, _, _, e⟩ | ⟨_, _, hk⟩
      · rw [e]; exact hq
      · unfold Kept at hk
        cases hkd : kindOf p o with
        | eff => rw [hkd] at hk; rw [hk.2]; exact List.mem_cons_of_mem _ hq
        | read => rw [hkd] at hk; rw [hk.2]; exact hq
        | _ => rw [hkd] at hk; rw [hk]; exact hq
    have reads_sub : ∀ q ∈ h.reads, q ∈ h1.reads := by
      intro q hq
      rcases k3 with ⟨_, _, _, e⟩ | ⟨_, _, hk⟩
      · rw [e]; exact hq
      · unfold Kept at hk
        cases hkd : kindOf p o with
        | read => rw [hkd] at hk; rw [hk.2]; exact List.mem_cons_of_mem _ hq
        | eff => rw [hkd] at hk; rw [hk.2]; exact hq
        | _ => rw [hkd] at hk; rw [hk]; exact hq
    have hk' : wantedA ops F.tm o = true → Kept p ms i o F.tm A B v0 h h1 := by
      intro hw
      rcases k3 with ⟨hw', _⟩ | ⟨_, _, hk⟩
      · rw [hw] at hw'; cases hw'
      · exact hk
    refine ⟨fun j => if j ≤ i then F.tm else T1 j, fun j => if j ≤ i then A else W1 j, fun j => if j ≤ i then v0 else v1 j, ⟨fun j oj hj hoj => ?_, fun j oj hj hoj hw hkd => ?_, fun j oj hj hoj hw hkd => ?_⟩, hTi, hWi, ?_, ?_, by rw [t6, g2], by rw [t7, g3]⟩
    · by_cases hji : j = i
      · subst hji
        rw [ho] at hoj
        injection hoj with hoj
        subst hoj
        try simp only
        rw [hTi, hWi, hvi, hT (j + 1) (by omega), hW (j + 1) (by omega), t2, t3]
        refine ⟨g1, g4, ?_⟩
        rcases k3 with ⟨q1, q2, q3, _⟩ | ⟨q1, q2, _⟩
        · exact .inl ⟨q1, q2, q3⟩
        · exact .inr ⟨q1, q2⟩
      · try simp only
        rw [hT j (by omega), hW j (by omega), hv j (by omega), hT (j + 1) (by omega), hW (j + 1) (by omega)]
        obtain ⟨q1, q2, q3⟩ := t1.step j oj (by omega) hoj
        refine ⟨q1, by rw [← g2]; exact q2, ?_⟩
        rcases q3 with q3 | ⟨q3, q4⟩
        · exact .inl q3
        · exact .inr ⟨q3, q4.le (by omega)⟩
    · by_cases hji : j = i
      · subst hji
        rw [ho] at hoj
        injection hoj with hoj
        subst hoj
        try simp only at hw ⊢
        rw [hTi] at hw ⊢
        rw [hvi]
        have hk := hk' hw
        unfold Kept at hk
        rw [hkd] at hk
        refine ⟨fun q hq => orB_true (lall_mem hk.1 q hq), fun e oe h1 h2 => by omega⟩
      · try simp only at hw ⊢
        rw [hT j (by omega)] at hw ⊢
        rw [hv j (by omega)]
        obtain ⟨q1, q2⟩ := t1.rd j oj (by omega) hoj hw hkd
        refine ⟨fun q hq => q1 q (effs_sub q hq), fun e oe h2 h3 h4 h5 h6 => ?_⟩
        by_cases hei : e = i
        · subst hei
          rw [ho] at h4
          injection h4 with h4
          subst h4
          rw [hTi] at h5
          have hk := hk' h5
          unfold Kept at hk
          rw [h6] at hk
          rw [hWi]
          exact q1 (e, A) (by rw [hk.2]; exact List.mem_cons_self)
        · rw [hT e (by omega)] at h5
          rw [hW e (by omega)]
          exact q2 e oe (by omega) h3 h4 h5 h6
    · by_cases hji : j = i
      · subst hji
        rw [ho] at hoj
        injection hoj with hoj
        subst hoj
        try simp only at hw ⊢
        rw [hTi] at hw
        rw [hW (j + 1) (by omega), t3]
        have hk := hk' hw
        unfold Kept at hk
        rw [hkd] at hk
        refine ⟨fun q hq => orB_true (lall_mem hk.1.2 q hq), fun e oe h1 h2 => by omega⟩
      · try simp only at hw ⊢
        rw [hT j (by omega)] at hw
        rw [hW (j + 1) (by omega)]
        obtain ⟨q1, q2⟩ := t1.ef j oj (by omega) hoj hw hkd
        refine ⟨fun q hq => q1 q (reads_sub q hq), fun e oe h2 h3 h4 h5 h6 => ?_⟩
        by_cases hei : e = i
        · subst hei
          rw [ho] at h4
          injection h4 with h4
          subst h4
          rw [hTi] at h5 ⊢
          have hk := hk' h5
          unfold Kept at hk
          rw [h6] at hk
          rw [hvi]
          exact q1 (e, o, F.tm, v0) (by rw [hk.2]; exact List.mem_cons_self)
        · rw [hT e (by omega)] at h5 ⊢
          rw [hv e (by omega)]
          exact q2 e oe (by omega) h3 h4 h5 h6
    · simp only
      rw [hT _ (by omega)]; exact t4
    · simp only
      rw [hW _ (by omega)]; exact t5

/-- An effect. -/
theorem eff_run {p : AP} {P : Program} (fa : Fa p P) {n : Nat} (hC : ∀ m, m < n → CallP p P m) (hR : ∀ m, m < n → RoundP p P m) {base : Nat} {A B : AW} {ρ : Rho} {w : World} (h : Sim base A ρ w) {T : Tr Value} {nt : Nat} {a : Act} (hT : TR ρ T nt a.tmps) {o : Oper} {v : Value} (e : EffA p n T A o v B) :
    ∃ v' w' ρ', Sim base B ρ' w' ∧ Ext ρ w ρ' w' ∧ VR ρ' v v' ∧ ∀ fn ro rec (a2 : Act), execOp a2.eval o = execOp a.eval o → Takes P fn ro rec o a2 (a2.put o.dst v') w w' := by
  rcases e with e | ⟨e, rfl⟩ | ⟨g, args, m, hm, e, hc⟩ | ⟨l, args, m, hm, e, hc⟩
  · obtain ⟨v', w', ρ', h1, h2, h3, h4⟩ := op_run fa h hT e
    exact ⟨v', w', ρ', h2, h3, h4, fun fn ro rec a2 he => takes_value (.inr (notDefer e (fun _ _ q => by cases q))) (by rw [he]; exact h1)⟩
  · obtain ⟨w', ρ', h1, h2, h3⟩ := op_run fa h hT e
    exact ⟨undef, w', ρ', h2, h3, VR.undef ρ', fun fn ro rec a2 he => takes_skip (.inr (notDefer e (fun _ _ q => by cases q))) (by rw [he]; exact h1)⟩
  · obtain ⟨args', h1, h2⟩ := op_run fa h hT e
    obtain ⟨⟨fn0, c0, q1, q2, q3⟩, v', w', ρ', k1, k2, k3, k4⟩ := hC m hm false g args A v B hc base ρ w args' h h1
    refine ⟨v', w', ρ', k1, k2, k3, fun fn ro rec a2 he => takes_enter (.inr (notDefer e (fun _ _ q => by cases q))) (by rw [he]; exact h2 fn0 c0 q1 q2 q3) fun cs => ?_⟩
    obtain ⟨fr, s1, s2⟩ := k4 cs (fun q => by cases q)
    exact ⟨fr, s1, s2.leaving⟩
  · obtain ⟨L, args', hL, h1, h2⟩ := op_run fa h hT e
    obtain ⟨v', w', ρ', f, tmps, as, body, k1, k2, k3, k4, k5⟩ := hR m hm l args A v B hc base ρ w args' L h h1 hL
    exact ⟨v', w', ρ', k1, k2, k3, fun fn ro rec a2 he => takes_round (.inr (notDefer e (fun _ _ q => by cases q))) (by rw [he]; exact h2.trans k4) k5⟩
end Go.AL
end

section
namespace Go.AL
open Go

/-! ## What a drawn region was asked -/
theorem enumL_mem {α : Type} : ∀ (l : List α) (n j : Nat) (x : α), (j, x) ∈ enumL l n ↔ n ≤ j ∧ l[j - n]? = some x
  | [], n, j, x => by simp [enumL]
  | y :: l, n, j, x => by
    show (j, x) ∈ (n, y) :: enumL l (n + 1) ↔ _
    rw [List.mem_cons, enumL_mem l (n + 1) j x]
    constructor
    · rintro (h | ⟨h1, h2⟩)
      · injection h with h1 h2
        subst h1 h2
        exact ⟨Nat.le_refl _, by simp⟩
      · refine ⟨by omega, ?_⟩
        rw [show j - n = (j - (n + 1)) + 1 from by omega]
        exact h2
    · rintro ⟨h1, h2⟩
      by_cases h : j = n
      · subst h
        simp at h2
        exact .inl (by rw [h2])
      · refine .inr ⟨by omega, ?_⟩
        rw [show j - n = (j - (n + 1)) + 1 from by omega] at h2
        exact h2
theorem enum0 {ops : List Oper} {j : Nat} {o : Oper} (h : ops[j]? = some o) : (j, o) ∈ enumL ops 0 := (enumL_mem ops 0 j o).2 ⟨Nat.zero_le _, by simpa using h⟩

structure RegF (p : AP) (ops : List Oper) (ms : List Nat) : Prop where
  edge : ∀ (j : Nat) (o : Oper) e, ops[j]? = some o → e ∈ o.after.toList → bindsAny e = true → e.on < j
  guard : ∀ (j : Nat) (o : Oper) g w, ops[j]? = some o → o.guard = some (g, w) → g < j ∧ ordered ms g j = true
  uniq : ∀ (i j : Nat) (oi oj : Oper) d, i < j → ops[i]? = some oi → ops[j]? = some oj → oi.dst = some d → oj.dst ≠ some d
  pair : ∀ (i j : Nat) (oi oj : Oper), i < j → ops[i]? = some oi → ops[j]? = some oj → ordered ms i j = true ∨
    ((∀ d, oi.dst = some d → .tmp d ∉ opnds oj.op) ∧ (∀ d, oj.dst = some d → .tmp d ∉ opnds oi.op) ∧ ¬ (kindOf p oj = .eff ∧ (kindOf p oi = .eff ∨ kindOf p oi = .alloc)))
theorem notB_true {b : Bool} (h : notB b = true) : b = false := by cases b <;> simp_all [notB]
theorem freeD_spec {d : Option Tmp} {o : Oper} (h : freeD d o = true) : ∀ t, d = some t → .tmp t ∉ opnds o.op := by
  rintro t rfl hm
  have h1 : notB (hasT t (opnds o.op)) = true := h
  rw [(hasT_mem t _).2 hm] at h1
  cases h1
theorem regOk_spec {p : AP} {ops : List Oper} {ms : List Nat} (h : regOk p ops ms = true) : RegF p ops ms := by
  unfold regOk regE at h
  have h1 : ∀ j o, ops[j]? = some o → edgesOk (j, o) = true ∧ guardOk ms (j, o) = true ∧ ∀ i oi, ops[i]? = some oi → pairOk p ms (i, oi) (j, o) = true := by
    intro j o ho
    have h2 := lall_mem h (j, o) (enum0 ho)
    obtain ⟨h3, h4⟩ := andB_true h2
    obtain ⟨h5, h6⟩ := andB_true h4
    exact ⟨h3, h5, fun i oi hi => lall_mem h6 (i, oi) (enum0 hi)⟩
  have hp : ∀ i j oi oj, i < j → ops[i]? = some oi → ops[j]? = some oj → notB (sameD oi.dst oj.dst) = true ∧ orB (ordered ms i j) (andB (andB (freeD oi.dst oj) (freeD oj.dst oi)) (notB (andB (isEff (kindOf p oj)) (isEffAl (kindOf p oi))))) = true := by
    intro i j oi oj hij hi hj
    have h2 := (h1 j oj hj).2.2 i oi hi
    unfold pairOk at h2
    simp only at h2
    split at h2
    · rename_i hb; have := ble_true hb; omega
    · exact andB_true h2
  refine ⟨fun j o e ho he hb => ?_, fun j o g w ho hg => ?_, fun i j oi oj d hij hi hj hd hd' => ?_, fun i j oi oj hij hi hj => ?_⟩
  · have h2 := lall_mem (h1 j o ho).1 e he
    rcases orB_true h2 with h3 | h3
    · rw [hb] at h3; cases h3
    · exact ble_true h3
  · have h2 := (h1 j o ho).2.1
    unfold guardOk at h2
    simp only [hg] at h2
    obtain ⟨h3, h4⟩ := andB_true h2
    exact ⟨ble_true h3, h4⟩
  · have h2 := notB_true (hp i j oi oj hij hi hj).1
    rw [hd, hd'] at h2
    have : Nat.beq d d = false := h2
    rw [Nat.beq_refl] at this
    cases this
  · rcases orB_true (hp i j oi oj hij hi hj).2 with h2 | h2
    · exact .inl h2
    · obtain ⟨h3, h4⟩ := andB_true h2
      obtain ⟨h5, h6⟩ := andB_true h3
      refine .inr ⟨freeD_spec h5, freeD_spec h6, fun ⟨e1, e2⟩ => ?_⟩
      rw [e1] at h4
      rcases e2 with e2 | e2 <;> rw [e2] at h4 <;> cases h4

/-! ## The run in the text's order -/
theorem insB_inj {A : AW} {c1 c2 : List Value} {e1 e2 : TypeId} {f1 f2 d1 d2 : Nat} (hn : A.next ≤ lim) (h : insB A c1 e1 f1 d1 = insB A c2 e2 f2 d2) : c1 = c2 := by
  have h1 : (insB A c1 e1 f1 d1).heap.get A.next = (insB A c2 e2 f2 d2).heap.get A.next := by rw [h]
  unfold insB at h1
  simp only [get_set_same _ _ _ hn] at h1
  injection h1 with h1
  injection h1 with h1

theorem tget_putT (T : Tr Value) {d : Option Tmp} (v : Value) (hd : ∀ t, d = some t → t ≤ lim) (t : Nat) : tget (putT T d v) t = if d = some t then v else tget T t := by
  cases d with
  | none => simp [putT]
  | some d =>
    show tget (T.set dep d v) t = _
    rw [tget_set _ _ _ _ (hd d rfl)]
    by_cases h : t = d
    · subst h; rw [if_pos rfl, if_pos rfl]
    · rw [if_neg h, if_neg (fun q => by injection q with q; exact h q.symm)]
structure Rg (p : AP) (P : Program) (n : Nat) (ops : List Oper) (nt base : Nat) (T : Nat → Tr Value) (W : Nat → AW) (v : Nat → Value) : Prop where
  tra : Tra p n ops (masks ops []) nt 0 T W v ⟨[], []⟩
  reg : RegF p ops (masks ops [])
  seq : ∀ i, i ≤ ops.length → ∃ ρ w, Sim base (W i) ρ w ∧ ∃ a : Act, TR ρ (T i) nt a.tmps

section
variable {p : AP} {P : Program} {n : Nat} {ops : List Oper} {nt base : Nat} {T : Nat → Tr Value} {W : Nat → AW} {v : Nat → Value}

theorem seq_run (fa : Fa p P) (hC : ∀ m, m < n → CallP p P m) (hR : ∀ m, m < n → RoundP p P m) (tra : Tra p n ops (masks ops []) nt 0 T W v ⟨[], []⟩) {ρ : Rho} {w : World} {a : Act} (h : Sim base (W 0) ρ w) (hT : TR ρ (T 0) nt a.tmps) :
    ∀ i, i ≤ ops.length → ∃ ρ w, Sim base (W i) ρ w ∧ ∃ a : Act, TR ρ (T i) nt a.tmps := by
  intro i
  induction i with
  | zero => exact fun _ => ⟨ρ, w, h, a, hT⟩
  | succ i ih =>
    intro hi
    obtain ⟨ρ1, w1, s1, a1, t1⟩ := ih (by omega)
    have ho : ops[i]? = some ops[i] := List.getElem?_eq_getElem (by omega)
    obtain ⟨q1, q2, q3⟩ := tra.step i _ (Nat.zero_le _) ho
    have fin : ∀ ρ2 w2 v', Sim base (W (i + 1)) ρ2 w2 → Sub ρ1 ρ2 → VR ρ2 (v i) v' → ∃ ρ w, Sim base (W (i + 1)) ρ w ∧ ∃ a : Act, TR ρ (T (i + 1)) nt a.tmps := by
      intro ρ2 w2 v' s2 hs hv
      refine ⟨ρ2, w2, s2, a1.put (ops[i]).dst v', ?_⟩
      rw [q1]
      cases hd : (ops[i]).dst with
      | none => exact t1.mono hs
      | some d => exact (t1.mono hs).put (q2 d hd) hv
    rcases q3 with ⟨_, q4, q5⟩ | ⟨_, q4⟩
    · rw [q4] at fin
      exact fin ρ1 w1 undef (by rw [q5]; exact s1) (Sub.refl ρ1) (VR.undef ρ1)
    · unfold Kd at q4
      have val : opA p (T i) (W i) ops[i] = some (.val (v i) (W (i + 1))) → ∃ ρ w, Sim base (W (i + 1)) ρ w ∧ ∃ a : Act, TR ρ (T (i + 1)) nt a.tmps := by
        intro hop
        obtain ⟨v', w', ρ', h1, h2, h3, h4⟩ := op_run fa s1 t1 hop
        exact fin ρ' w' v' h2 h3.sub h4
      cases hk : kindOf p ops[i] with
      | pure => rw [hk] at q4; exact val q4
      | alloc => rw [hk] at q4; exact val q4
      | read => rw [hk] at q4; exact val q4
      | eff =>
        rw [hk] at q4
        obtain ⟨v', w', ρ', k1, k2, k3, _⟩ := eff_run fa hC hR s1 t1 q4.1
        exact fin ρ' w' v' k1 k2.sub k3
      | bad => rw [hk] at q4; exact q4.elim

variable (R : Rg p P n ops nt base T W v)
include R
theorem Rg.lo {i : Nat} (hi : i ≤ ops.length) : 100 ≤ (W i).next ∧ (W i).next ≤ lim := by
  obtain ⟨ρ, w, s, _⟩ := R.seq i hi
  exact ⟨s.lo, s.hi⟩
theorem Rg.ntLe : nt ≤ lim := by
  obtain ⟨ρ, w, s, a, t⟩ := R.seq 0 (Nat.zero_le _)
  exact t.le
theorem Rg.out {i : Nat} (hi : i ≤ ops.length) : ∀ t, nt ≤ t → tget (T i) t = vundef := by
  obtain ⟨ρ, w, s, a, t⟩ := R.seq i hi
  exact t.out
theorem Rg.idsT {i : Nat} (hi : i ≤ ops.length) (t : Nat) : Ids (W i).next (tget (T i) t) := by
  obtain ⟨ρ, w, s, a, h⟩ := R.seq i hi
  exact (h.get t).ids (fun b L hb => (s.dom b L hb).1)
/-- What stays as it is. -/
theorem Rg.same (fa : Fa p P) {i : Nat} {o : Oper} (ho : ops[i]? = some o) (h : ¬ (wantedA ops (T i) o = true ∧ (kindOf p o = .eff ∨ kindOf p o = .alloc))) : W (i + 1) = W i := by
  have hi : i < ops.length := (List.getElem?_eq_some_iff.1 ho).1
  obtain ⟨ρ, w, s, a, t⟩ := R.seq i (by omega)
  obtain ⟨_, _, q3⟩ := R.tra.step i o (Nat.zero_le _) ho
  rcases q3 with ⟨_, _, q5⟩ | ⟨q3, q4⟩
  · exact q5
  · unfold Kd at q4
    cases hk : kindOf p o with
    | pure =>
      rw [hk] at q4
      obtain ⟨u, e, _⟩ := pure_op fa t hk q4
      injection e with _ e
    | read =>
      rw [hk] at q4
      obtain ⟨u, e, _⟩ := read_op fa s.rd t hk q4
      injection e with _ e
    | alloc => exact absurd ⟨q3, .inr hk⟩ h
    | eff => exact absurd ⟨q3, .inl hk⟩ h
    | bad => rw [hk] at q4; exact q4.elim
/-- What an allocation adds. -/
theorem Rg.alloc (fa : Fa p P) {i : Nat} {o : Oper} (ho : ops[i]? = some o) (hw : wantedA ops (T i) o = true) (hk : kindOf p o = .alloc) :
    opA p (T i) (W i) o = some (.val (v i) (W (i + 1))) ∧ (W i).next + 1 ≤ lim ∧ Adds (isMM o) (W i) (W (i + 1)) := by
  have hi : i < ops.length := (List.getElem?_eq_some_iff.1 ho).1
  obtain ⟨ρ, w, s, a, t⟩ := R.seq i (by omega)
  obtain ⟨_, _, q3⟩ := R.tra.step i o (Nat.zero_le _) ho
  rcases q3 with ⟨q3, _⟩ | ⟨_, q4⟩
  · rw [hw] at q3; cases q3
  · unfold Kd at q4
    rw [hk] at q4
    refine ⟨q4, ?_⟩
    obtain ⟨u, B, e1, e2, hrun⟩ := al_new fa t hk q4
    injection e1 with _ e1
    subst e1
    refine ⟨e2, ?_⟩
    obtain ⟨_, _, _, _, _, _, hL, _⟩ := hrun w
    rcases hL with ⟨h0, cells, e, cells', arr, e0, fr, h1, _, _, _, hR, _⟩ | ⟨h0, h1, _⟩
    · refine .inl ⟨h0, cells, e, h1, fun c hc => ?_⟩
      obtain ⟨k, hk, rfl⟩ := List.getElem_of_mem hc
      exact (hR.2 k hk (by rw [← hR.1]; exact hk)).ids (fun b L hb => (s.dom b L hb).1)
    · exact .inr ⟨h0, h1⟩
theorem Rg.mono (fa : Fa p P) : ∀ {i j : Nat}, i ≤ j → j ≤ ops.length → (W i).next ≤ (W j).next := by
  intro i j hij
  induction j with
  | zero => intro _; rw [show i = 0 from by omega]; exact Nat.le_refl _
  | succ j ih =>
    intro hj
    by_cases h : i = j + 1
    · rw [h]; exact Nat.le_refl _
    · refine Nat.le_trans (ih (by omega) (by omega)) ?_
      have ho : ops[j]? = some ops[j] := List.getElem?_eq_getElem (by omega)
      by_cases hw : wantedA ops (T j) ops[j] = true
      · cases hk : kindOf p ops[j] with
        | alloc =>
          obtain ⟨_, _, e1⟩ := R.alloc fa ho hw hk
          rw [e1.next]
          omega
        | eff =>
          obtain ⟨_, _, q3⟩ := R.tra.step j _ (Nat.zero_le _) ho
          rcases q3 with ⟨q3, _⟩ | ⟨_, q4⟩
          · rw [hw] at q3; cases q3
          · unfold Kd at q4
            rw [hk] at q4
            exact q4.2
        | _ => rw [R.same fa ho (fun q => by rcases q.2 with q | q <;> rw [hk] at q <;> cases q)]; exact Nat.le_refl _
      · rw [R.same fa ho (fun q => hw q.1)]; exact Nat.le_refl _
theorem Rg.step_alloc (fa : Fa p P) {i : Nat} {o : Oper} (ho : ops[i]? = some o) (hw : wantedA ops (T i) o = true) (hk : kindOf p o = .alloc) : (W (i + 1)).next = (W i).next + 1 := by
  exact (R.alloc fa ho hw hk).2.2.next
/-- Two allocations make two blocks. -/
theorem Rg.alloc_inj (fa : Fa p P) {i j : Nat} {oi oj : Oper} (hi : ops[i]? = some oi) (hj : ops[j]? = some oj) (hwi : wantedA ops (T i) oi = true) (hwj : wantedA ops (T j) oj = true) (hki : kindOf p oi = .alloc) (hkj : kindOf p oj = .alloc) (h : (W i).next = (W j).next) : i = j := by
  have h1 : i < ops.length := (List.getElem?_eq_some_iff.1 hi).1
  have h2 : j < ops.length := (List.getElem?_eq_some_iff.1 hj).1
  rcases Nat.lt_trichotomy i j with hlt | heq | hgt
  · have := R.mono fa (i := i + 1) (j := j) hlt (by omega)
    rw [R.step_alloc fa hi hwi hki] at this
    omega
  · exact heq
  · have := R.mono fa (i := j + 1) (j := i) hgt (by omega)
    rw [R.step_alloc fa hj hwj hkj] at this
    omega

/-! ### The temporaries -/
theorem Rg.tNone {i : Nat} (hi : i ≤ ops.length) (t : Nat) (h : ∀ j o, j < i → ops[j]? = some o → o.dst ≠ some t) : tget (T i) t = tget (T 0) t := by
  induction i with
  | zero => rfl
  | succ i ih =>
    have ho : ops[i]? = some ops[i] := List.getElem?_eq_getElem (by omega)
    obtain ⟨q1, q2, _⟩ := R.tra.step i _ (Nat.zero_le _) ho
    have hnt := R.ntLe
    rw [q1, tget_putT _ _ (fun u hu => by have := q2 u hu; exact Nat.le_of_lt (Nat.lt_of_lt_of_le this hnt)), if_neg (h i _ (by omega) ho)]
    exact ih (by omega) (fun j o hj => h j o (by omega))
theorem Rg.tSome {i j : Nat} {o : Oper} (hi : i ≤ ops.length) (hj : j < i) (ho : ops[j]? = some o) {t : Nat} (hd : o.dst = some t) : tget (T i) t = v j := by
  induction i with
  | zero => omega
  | succ i ih =>
    have ho' : ops[i]? = some ops[i] := List.getElem?_eq_getElem (by omega)
    obtain ⟨q1, q2, _⟩ := R.tra.step i _ (Nat.zero_le _) ho'
    have hnt := R.ntLe
    rw [q1, tget_putT _ _ (fun u hu => by have := q2 u hu; exact Nat.le_of_lt (Nat.lt_of_lt_of_le this hnt))]
    by_cases hji : j = i
    · subst hji
      rw [ho] at ho'
      injection ho' with ho'
      rw [← ho', if_pos hd]
    · rw [if_neg (R.reg.uniq j i o _ t (by omega) ho ho' hd)]
      exact ih (by omega) (by omega)
end
end Go.AL
end

section
namespace Go.AL
open Go

theorem exists_least (Q : Nat → Prop) (h : ∃ n, Q n) : ∃ n, Q n ∧ ∀ m, m < n → ¬ Q m := by
  obtain ⟨n, hn⟩ := h
  induction n using Nat.strongRecOn with
  | _ n ih =>
    by_cases hex : ∃ m, m < n ∧ Q m
    · obtain ⟨m, hm, hq⟩ := hex
      exact ih m hm hq
    · exact ⟨n, hn, fun m hm hq => hex ⟨m, hm, hq⟩⟩

/-! ## Drawn regions: how things stand when some operations have been made -/
/-- A row that was allocated ahead of its turn. -/
def Row (W : Nat → AW) (ρp : Rho) (w0 w : World) (i : Nat) (mm : Bool) : Prop :=
  ∃ (B : Nat) (obj : Obj) (Z : Nat), ρp (W i).next = some ⟨B, 0, Z, 0⟩ ∧ w0.heap.size ≤ B ∧ B < w.heap.size ∧ w.heap[B]? = some obj ∧ Lies mm (W i) (W (i + 1)) ρp obj Z

structure Inv (p : AP) (ops : List Oper) (nt base : Nat) (T : Nat → Tr Value) (W : Nat → AW) (v : Nat → Value) (ρ0 : Rho) (w0 : World) (a0 : Act) (S : Nat → Prop) (c : Nat) (ρp : Rho) (a : Act) (w : World) : Prop where
  clen : c ≤ ops.length
  closed : ∀ j o e, S j → ops[j]? = some o → e ∈ o.after.toList → bindsAny e = true → S e.on
  effA : ∀ j o, ops[j]? = some o → wantedA ops (T j) o = true → kindOf p o = .eff → (S j ↔ j < c)
  cEff : c = 0 ∨ ∃ j o, c = j + 1 ∧ ops[j]? = some o ∧ wantedA ops (T j) o = true ∧ kindOf p o = .eff
  sim : Sim base (W c) (restr ρp (W c).next) w
  ext : Ext ρ0 w0 (restr ρp (W c).next) w
  rows : ∀ i o, c ≤ i → S i → ops[i]? = some o → wantedA ops (T i) o = true → kindOf p o = .alloc → Row W ρp w0 w i (isMM o)
  early : ∀ b L, ρp b = some L → (W c).next ≤ b → ∃ i o, c ≤ i ∧ S i ∧ ops[i]? = some o ∧ wantedA ops (T i) o = true ∧ kindOf p o = .alloc ∧ b = (W i).next
  sep : ∀ b b' L L', ρp b = some L → ρp b' = some L' → (W c).next ≤ b → 100 ≤ b' → L.B = L'.B → b = b'
  size : a.tmps.size = nt
  tw : ∀ j o t, S j → ops[j]? = some o → o.dst = some t → VR ρp (v j) (a.tmps.getD t undef)
  ti : ∀ t, (∀ j o, S j → ops[j]? = some o → o.dst ≠ some t) → VR ρp (tget (T 0) t) (a.tmps.getD t undef)
  dfs : a.defers = a0.defers

theorem Ext.upd2 {ρ0 ρ : Rho} {w w' : World} (h : Ext ρ0 w ρ w') {n : Nat} {L : Loc} (hn : ρ n = none) (h100 : 100 ≤ n) (hL : w.heap.size ≤ L.B) : Ext ρ0 w (Go.AL.upd ρ n L) w' :=
  ⟨fun b M e => sub_upd L hn b M (h.sub b M e), fun b M e1 e2 => (by
    by_cases e : b = n
    · subst e
      rw [upd_same] at e1
      injection e1 with e1
      subst e1
      exact ⟨h100, .inl hL⟩
    · rw [upd_ne L e] at e1; exact h.new b M e1 e2), h.frame, h.size, h.os, h.tape, h.output⟩

theorem MapR.mono {ρ ρ' : Rho} (hs : Sub ρ ρ') {es ents clk} (h : MapR ρ es ents clk) : MapR ρ' es ents clk := ⟨h.1.mono hs, h.2.1.mono hs, h.2.2⟩
theorem IterR.mono {ρ ρ' : Rho} (hs : Sub ρ ρ') {w : World} {m s o} (h : IterR ρ w m s o) : IterR ρ' w m s o := by
  unfold IterR at *
  split
  · exact h
  · obtain ⟨L, ents, clk, h1, h2⟩ := h
    exact ⟨L, ents, clk, hs _ _ h1, h2⟩

/-- What can be read beyond the blocks of a world. -/
theorem Sim.rdBig {base : Nat} {A : AW} {ρp : Rho} {w : World} (h : Sim base A (restr ρp A.next) w) : Rd A ρp w := by
  have hs := sub_restr ρp A.next
  have back : ∀ b M, restr ρp A.next b = some M → ∀ L, ρp b = some L → L = M := fun b M hM L hL => by
    rw [(restr_some hM).2] at hL; injection hL with hL; exact hL.symm
  have r := h.rd
  refine ⟨fun b bl L hb hal hL i u hu => ?_, fun b bl hb hlt => ?_, fun r' es L hr hL => ?_, r.i100, fun r' m seen L hr hL => ?_⟩
  · obtain ⟨M, hM⟩ := h.blk b bl hb
    have := back b M hM L hL
    subst this
    obtain ⟨v', h1, h2⟩ := r.cells b bl L hb hal hM i u hu
    exact ⟨v', h1, h2.mono hs⟩
  · obtain ⟨L, h1, h2⟩ := r.low b bl hb hlt
    exact ⟨L, hs _ _ h1, h2⟩
  · obtain ⟨_, _, M, hM, _⟩ := h.obj r' (.inl (by rw [hr]; rfl))
    have := back r' M hM L hL
    subst this
    obtain ⟨ents, clk, h1, h2⟩ := r.maps r' es L hr hM
    exact ⟨ents, clk, h1, h2.mono hs⟩
  · obtain ⟨_, _, M, hM, _⟩ := h.obj r' (.inr (.inl (by rw [hr]; rfl)))
    have := back r' M hM L hL
    subst this
    obtain ⟨h0, h1, o, h2, h3⟩ := r.iters r' m seen L hr hM
    exact ⟨h0, h1, o, h2, h3.mono hs⟩

section
variable {p : AP} {P : Program} {n : Nat} {ops : List Oper} {nt base : Nat} {T : Nat → Tr Value} {W : Nat → AW} {v : Nat → Value} {ρ0 : Rho} {w0 : World} {a0 : Act} {S : Nat → Prop} {c : Nat} {ρp : Rho} {a : Act} {w : World}

/-- The rows that were allocated ahead are taken in, in the text's order. -/
theorem Inv.adopt (fa : Fa p P) (R : Rg p P n ops nt base T W v) (hb : base ≤ w0.heap.size) (I : Inv p ops nt base T W v ρ0 w0 a0 S c ρp a w) : ∀ d, c + d ≤ ops.length →
    (∀ e o, c ≤ e → e < c + d → ops[e]? = some o → wantedA ops (T e) o = true → kindOf p o ≠ .eff) → (∀ e o, c ≤ e → e < c + d → ops[e]? = some o → wantedA ops (T e) o = true → kindOf p o = .alloc → S e) →
    Sim base (W (c + d)) (restr ρp (W (c + d)).next) w ∧ Ext ρ0 w0 (restr ρp (W (c + d)).next) w := by
  intro d
  induction d with
  | zero => exact fun _ _ _ => ⟨I.sim, I.ext⟩
  | succ d ih =>
    intro hd hne hal
    obtain ⟨s, x⟩ := ih (by omega) (fun e o h1 h2 => hne e o h1 (by omega)) (fun e o h1 h2 => hal e o h1 (by omega))
    have hlt : c + d < ops.length := by omega
    have ho : ops[c + d]? = some ops[c + d] := List.getElem?_eq_getElem hlt
    have hlo := R.lo (i := c + d) (by omega)
    have hmc := R.mono fa (i := c) (j := c + d) (by omega) (by omega)
    by_cases hw : wantedA ops (T (c + d)) ops[c + d] = true ∧ kindOf p ops[c + d] = .alloc
    · obtain ⟨hw, hk⟩ := hw
      have hS := hal (c + d) _ (by omega) (by omega) ho hw hk
      obtain ⟨B, obj, Z, r1, r3, r4, r5, hL⟩ := I.rows (c + d) _ (by omega) hS ho hw hk
      obtain ⟨_, q2, hAd⟩ := R.alloc fa ho hw hk
      have hB2 : ∀ b L, 100 ≤ b → restr ρp (W (c + d)).next b = some L → L.B ≠ B := by
        intro b L hb' hL e
        obtain ⟨h1, h2⟩ := restr_some hL
        have := I.sep (W (c + d)).next b _ L r1 h2 hmc hb' e.symm
        omega
      have hnone : restr ρp (W (c + d)).next (W (c + d)).next = none := by unfold restr; rw [if_neg (Nat.lt_irrefl _)]
      have hρ : upd (restr ρp (W (c + d)).next) (W (c + d)).next ⟨B, 0, Z, 0⟩ = restr ρp (W (c + (d + 1))).next := by
        have hnx : (W (c + (d + 1))).next = (W (c + d)).next + 1 := R.step_alloc fa ho hw hk
        funext b
        unfold upd restr
        rw [hnx]
        by_cases h1 : b = (W (c + d)).next
        · rw [if_pos h1, if_pos (by omega), h1, r1]
        · rw [if_neg h1]
          by_cases h2 : b < (W (c + d)).next
          · rw [if_pos h2, if_pos (by omega)]
          · rw [if_neg h2, if_neg (by omega)]
      refine ⟨?_, by rw [← hρ]; exact x.upd2 (L := ⟨B, 0, Z, 0⟩) hnone (by omega) r3⟩
      rcases hL with ⟨h0, cells, e, cells', arr, e0, fr, r2, rfl, rfl, r6, r7, r8⟩ | ⟨h0, r2, rfl, rfl⟩
      · have hids : ∀ u ∈ cells, Ids (W (c + d)).next u := by
          rcases hAd with ⟨_, cells2, e2, q1, q3⟩ | ⟨q0, _⟩
          · have hce : cells = cells2 := insB_inj hlo.2 (r2.symm.trans q1)
            rw [hce]; exact q3
          · rw [h0] at q0; cases q0
        have s2 := s.adopt (by omega) B (Nat.le_trans hb r3) r4 hB2 arr e0 e fr r5 r6 0 cells cells' (r7.restr hlo.1 hids) r8 (W (c + d)).next (W (c + d)).next (.inl ⟨rfl, rfl⟩)
        rw [hρ] at s2
        have hWeq : W (c + (d + 1)) = insB (W (c + d)) cells e (W (c + d)).next (W (c + d)).next := r2
        rw [← hWeq] at s2
        exact s2
      · have hno : ∀ r, isObj (W (c + d)) r → r ≠ (W (c + d)).next := fun r ho e => by
          obtain ⟨_, _, L, hL, _⟩ := s.obj r ho
          rw [e, hnone] at hL; cases hL
        have s2 := s.adoptO (by omega) B (Nat.le_trans hb r3) r4 hB2 ((W (c + d)).maps.set dep (W (c + d)).next []) (W (c + d)).iters (W (c + d)).loops (W (c + d)).marks (fun k hk => get_set_ne _ _ (by omega) hk) (fun _ _ => rfl) (fun _ _ => rfl) (fun _ _ => rfl)
          (fun es hes => by
            rw [get_set_same _ _ _ (by omega)] at hes
            injection hes with hes
            subst hes
            exact ⟨#[], 0, r5, VRs.nil _, VRs.nil _, fun e he => by simp at he⟩)
          (fun m seen hi => absurd rfl (hno _ (.inr (.inl (by rw [hi]; rfl)))))
          (fun l hl => absurd rfl (hno _ (.inr (.inr (.inl (by rw [hl]; rfl))))))
          (fun hk => absurd rfl (hno _ (.inr (.inr (.inr (by rw [hk]; rfl))))))
        rw [hρ] at s2
        have hWeq : W (c + (d + 1)) = insM (W (c + d)) := r2
        have hM : insM (W (c + d)) = { (W (c + d)) with maps := (W (c + d)).maps.set dep (W (c + d)).next [], iters := (W (c + d)).iters, loops := (W (c + d)).loops, marks := (W (c + d)).marks, next := (W (c + d)).next + 1 } := rfl
        rw [← hM, ← hWeq] at s2
        exact s2
    · have hsame : W (c + (d + 1)) = W (c + d) := R.same fa ho (fun q => by
        rcases q.2 with q2 | q2
        · exact hne (c + d) _ (by omega) (by omega) ho q.1 q2
        · exact hw ⟨q.1, q2⟩)
      rw [hsame]
      exact ⟨s, x⟩

/-- What can be read in a world that lies ahead, up to the next effect. -/
theorem Inv.rd (fa : Fa p P) (R : Rg p P n ops nt base T W v) (I : Inv p ops nt base T W v ρ0 w0 a0 S c ρp a w) : ∀ d, c + d ≤ ops.length →
    (∀ e o, c ≤ e → e < c + d → ops[e]? = some o → wantedA ops (T e) o = true → kindOf p o ≠ .eff) → Rd (W (c + d)) ρp w := by
  intro d
  induction d with
  | zero => exact fun _ _ => I.sim.rdBig
  | succ d ih =>
    intro hd hne
    have s := ih (by omega) (fun e o h1 h2 => hne e o h1 (by omega))
    have hlt : c + d < ops.length := by omega
    have ho : ops[c + d]? = some ops[c + d] := List.getElem?_eq_getElem hlt
    have hmc := R.mono fa (i := c) (j := c + d) (by omega) (by omega)
    by_cases hw : wantedA ops (T (c + d)) ops[c + d] = true ∧ kindOf p ops[c + d] = .alloc
    · obtain ⟨hw, hk⟩ := hw
      obtain ⟨_, q2, hAd⟩ := R.alloc fa ho hw hk
      obtain ⟨ρs, ws, ss, _⟩ := R.seq (c + d) (by omega)
      have hhi := ss.hi
      have hlo := ss.lo
      rcases hAd with ⟨h0, cells2, e2, q1, q3⟩ | ⟨h0, q1⟩
      case inr =>
        have hWeq : W (c + (d + 1)) = insM (W (c + d)) := q1
        rw [hWeq]
        refine ⟨s.cells, s.low, fun r es L hr hL => ?_, s.i100, fun r m seen L hr hL => by
          obtain ⟨z1, z2, z3⟩ := s.iters r m seen L hr hL
          refine ⟨z1, fun k hk => ?_, z3⟩
          show (((W (c + d)).maps.set dep (W (c + d)).next []).get k).isSome = true
          rw [get_set _ _ _ _ hhi]
          split
          · rfl
          · exact z2 k hk⟩
        have hr : ((W (c + d)).maps.set dep (W (c + d)).next []).get r = some es := hr
        rw [get_set _ _ _ _ hhi] at hr
        split at hr
        · rename_i hrn
          injection hr with hr
          subst hr hrn
          obtain ⟨i2, o2, g1, g2, g3, g4, g5, g6⟩ := I.early _ L hL hmc
          have hii := R.alloc_inj fa ho g3 hw g4 hk g5 g6
          subst hii
          rw [ho] at g3
          injection g3 with g3
          subst g3
          obtain ⟨B, obj, Z, r1, r3, r4, r5, hLi⟩ := I.rows _ _ g1 g2 ho g4 g5
          rw [r1] at hL
          injection hL with hL
          subst hL
          rcases hLi with ⟨q0, _⟩ | ⟨_, _, rfl, rfl⟩
          · rw [h0] at q0; cases q0
          · exact ⟨#[], 0, r5, VRs.nil _, VRs.nil _, fun e he => by simp at he⟩
        · exact s.maps r es L hr hL
      have hWeq : W (c + (d + 1)) = insB (W (c + d)) cells2 e2 (W (c + d)).next (W (c + d)).next := q1
      rw [hWeq]
      refine ⟨fun b bl L hb hal hL i u hu => ?_, fun b bl hb h100 => ?_, s.maps, s.i100, s.iters⟩
      · unfold insB at hb hal
        simp only [get_set _ _ _ _ hhi] at hb
        split at hb
        · rename_i hbn
          injection hb with hb
          subst hb hbn
          obtain ⟨i2, o2, g1, g2, g3, g4, g5, g6⟩ := I.early _ L hL hmc
          have hii := R.alloc_inj fa ho g3 hw g4 hk g5 g6
          subst hii
          rw [ho] at g3
          injection g3 with g3
          subst g3
          obtain ⟨B, obj, Z, r1, r3, r4, r5, hLi⟩ := I.rows _ _ g1 g2 ho g4 g5
          rcases hLi with ⟨_, cells, e, cells', arr, e0, fr, r2, rfl, rfl, r6, r7, r8⟩ | ⟨q0, _⟩
          case inr => rw [h0] at q0; cases q0
          rw [r1] at hL
          injection hL with hL
          subst hL
          have hce : cells = cells2 := insB_inj hhi (r2.symm.trans q1)
          subst hce
          obtain ⟨u', hu', hV⟩ := r7.get? hu
          refine ⟨u', ?_, hV⟩
          simp only [World.cell?, r5, Nat.zero_add]
          simpa using r8 i u' hu'
        · rename_i hbn
          have hal2 : aliveF (W (c + d)).fams bl.fam b = true := by
            have hfne : bl.fam ≠ (W (c + d)).next := by
              by_cases h1 : b < 100
              · have := ss.low b bl hb h1; omega
              · obtain ⟨_, ow, dd, h3, _⟩ := ss.own b bl hb (by omega)
                have := (ss.fams _ _ h3).2.1
                omega
            unfold aliveF at hal ⊢
            rw [get_set_ne _ _ hhi hfne] at hal
            exact hal
          exact s.cells b bl L hb hal2 hL i u hu
      · unfold insB at hb
        simp only [get_set _ _ _ _ hhi] at hb
        split at hb
        · omega
        · exact s.low b bl hb h100
    · have hsame : W (c + (d + 1)) = W (c + d) := R.same fa ho (fun q => by
        rcases q.2 with q2 | q2
        · exact hne (c + d) _ (by omega) (by omega) ho q.1 q2
        · exact hw ⟨q.1, q2⟩)
      rw [hsame]
      exact s

/-- What an operation looks at is what it looks at in the text's order. -/
theorem Inv.opnd (R : Rg p P n ops nt base T W v) (I : Inv p ops nt base T W v ρ0 w0 a0 S c ρp a w) {i : Nat} {o : Oper} (ho : ops[i]? = some o) (hS : ¬ S i) (hpre : ∀ e ∈ o.after.toList, bindsAny e = true → S e.on) :
    ∀ t, .tmp t ∈ opnds o.op → VR ρp (tget (T i) t) (a.tmps.getD t undef) := by
  intro t ht
  have hi : i < ops.length := (List.getElem?_eq_some_iff.1 ho).1
  have hord : ∀ j, ordered (masks ops []) j i = true → S j := by
    intro j hj
    obtain ⟨o2, e, h1, h2, h3, h4⟩ := ordered_step hj
    rw [ho] at h1
    injection h1 with h1
    subst h1
    have he := hpre e h2 h3
    rcases h4 with rfl | ⟨h5, h6⟩
    · exact he
    · exact ordered_listed S I.closed e.on j h6 he
  by_cases hex : ∃ (j : Nat) (oj : Oper), ops[j]? = some oj ∧ oj.dst = some t
  · obtain ⟨j, oj, hj, hd⟩ := hex
    rcases Nat.lt_trichotomy j i with hlt | heq | hgt
    · have h1 : ordered (masks ops []) j i = true := by
        rcases R.reg.pair j i oj o hlt hj ho with h | h
        · exact h
        · exact absurd ht (h.1 t hd)
      rw [R.tSome (by omega) hlt hj hd]
      exact I.tw j oj t (hord j h1) hj hd
    · subst heq
      rw [R.tNone (by omega) t (fun j2 o2 h2 h3 h4 => R.reg.uniq j2 j o2 oj t h2 h3 hj h4 hd)]
      refine I.ti t (fun j2 o2 h2 h3 h4 => ?_)
      by_cases hjj : j2 = j
      · subst hjj; exact hS h2
      · rcases Nat.lt_or_gt_of_ne hjj with h5 | h5
        · exact R.reg.uniq j2 j o2 oj t h5 h3 hj h4 hd
        · exact R.reg.uniq j j2 oj o2 t h5 hj h3 hd h4
    · have h1 : ordered (masks ops []) i j = true := by
        rcases R.reg.pair i j o oj hgt ho hj with h | h
        · exact h
        · exact absurd ht (h.2.1 t hd)
      have hSj : ¬ S j := fun q => hS (ordered_listed S I.closed j i h1 q)
      rw [R.tNone (by omega) t (fun j2 o2 h2 h3 h4 => R.reg.uniq j2 j o2 oj t (by omega) h3 hj h4 hd)]
      refine I.ti t (fun j2 o2 h2 h3 h4 => ?_)
      by_cases hjj : j2 = j
      · subst hjj; exact hSj h2
      · rcases Nat.lt_or_gt_of_ne hjj with h5 | h5
        · exact R.reg.uniq j2 j o2 oj t h5 h3 hj h4 hd
        · exact R.reg.uniq j j2 oj o2 t h5 hj h3 hd h4
  · rw [R.tNone (by omega) t (fun j o2 _ h3 h4 => hex ⟨j, o2, h3, h4⟩)]
    exact I.ti t (fun j o2 _ h3 h4 => hex ⟨j, o2, h3, h4⟩)
end
end Go.AL
end

section
namespace Go.AL
open Go

theorem put_get (a : Act) (d : Option Tmp) (x : Value) (t : Nat) (hd : ∀ u, d = some u → u < a.tmps.size) : (a.put d x).tmps.getD t undef = if d = some t then x else a.tmps.getD t undef := by
  cases d with
  | none => simp [Act.put]
  | some d =>
    have hlt := hd d rfl
    by_cases h : d = t
    · subst h
      rw [if_pos rfl]
      simp [Act.put, hlt]
    · rw [if_neg (fun q => by injection q with q; exact h q)]
      rw [Array.getD_eq_getD_getElem?, Array.getD_eq_getD_getElem?]
      simp only [Act.put]
      rw [Array.getElem?_setIfInBounds_ne h]
theorem put_size (a : Act) (d : Option Tmp) (x : Value) : (a.put d x).tmps.size = a.tmps.size := by cases d <;> simp [Act.put]
theorem put_defers (a : Act) (d : Option Tmp) (x : Value) : (a.put d x).defers = a.defers := by cases d <;> rfl

section
variable {p : AP} {P : Program} {n : Nat} {ops : List Oper} {nt base : Nat} {T : Nat → Tr Value} {W : Nat → AW} {v : Nat → Value} {ρ0 : Rho} {w0 : World} {a0 : Act} {S : Nat → Prop} {c : Nat} {ρp : Rho} {a : Act} {w : World}

/-- The temporaries behind one more operation. -/
theorem Inv.put (R : Rg p P n ops nt base T W v) (I : Inv p ops nt base T W v ρ0 w0 a0 S c ρp a w) {i : Nat} {o : Oper} (ho : ops[i]? = some o) {ρp' : Rho} (hs : Sub ρp ρp') {x : Value} (hx : VR ρp' (v i) x) :
    (a.put o.dst x).tmps.size = nt ∧ (∀ j oj t, (S j ∨ j = i) → ops[j]? = some oj → oj.dst = some t → VR ρp' (v j) ((a.put o.dst x).tmps.getD t undef)) ∧
    (∀ t, (∀ j oj, (S j ∨ j = i) → ops[j]? = some oj → oj.dst ≠ some t) → VR ρp' (tget (T 0) t) ((a.put o.dst x).tmps.getD t undef)) ∧ (a.put o.dst x).defers = a0.defers := by
  obtain ⟨_, hdst, _⟩ := R.tra.step i o (Nat.zero_le _) ho
  have hd : ∀ u, o.dst = some u → u < a.tmps.size := fun u hu => by rw [I.size]; exact hdst u hu
  refine ⟨by rw [put_size, I.size], fun j oj t hj hoj hdj => ?_, fun t ht => ?_, by rw [put_defers, I.dfs]⟩
  · rw [put_get _ _ _ _ hd]
    by_cases hji : j = i
    · subst hji
      rw [ho] at hoj
      injection hoj with hoj
      subst hoj
      rw [if_pos hdj]
      exact hx
    · have hS : S j := hj.resolve_right hji
      rw [if_neg]
      · exact (I.tw j oj t hS hoj hdj).mono hs
      · intro q
        rcases Nat.lt_or_gt_of_ne hji with h | h
        · exact R.reg.uniq j i oj o t h hoj ho hdj q
        · exact R.reg.uniq i j o oj t h ho hoj q hdj
  · rw [put_get _ _ _ _ hd, if_neg (ht i o (.inr rfl) ho)]
    exact (I.ti t (fun j oj hj => ht j oj (.inl hj))).mono hs

/-- The guard, too. -/
theorem Inv.wanted (R : Rg p P n ops nt base T W v) (I : Inv p ops nt base T W v ρ0 w0 a0 S c ρp a w) {opsA : Array Oper} (hA : opsA.toList = ops) {i : Nat} {o : Oper} (ho : ops[i]? = some o) (hpre : ∀ e ∈ o.after.toList, bindsAny e = true → S e.on) :
    wantedA ops (T i) o = Region.wanted o (yielded opsA a.tmps) := by
  have hi : i < ops.length := (List.getElem?_eq_some_iff.1 ho).1
  unfold wantedA Region.wanted
  cases hg : o.guard with
  | none => rfl
  | some jw =>
    obtain ⟨g, want⟩ := jw
    obtain ⟨hgi, hord⟩ := R.reg.guard i o g want ho hg
    have hSg : S g := by
      obtain ⟨o2, e, h1, h2, h3, h4⟩ := ordered_step hord
      rw [ho] at h1
      injection h1 with h1
      subst h1
      have he := hpre e h2 h3
      rcases h4 with rfl | ⟨h5, h6⟩
      · exact he
      · exact ordered_listed S I.closed e.on g h6 he
    have hq' : opsA[g]? = ops[g]? := by rw [← hA, Array.getElem?_toList]
    simp only [nthL_eq, yielded, hq']
    cases hq : ops[g]? with
    | none => simp
    | some q =>
      simp only [Option.bind_some]
      cases hd : q.dst with
      | none => simp
      | some d =>
        simp only [Option.bind_some]
        have hv := I.tw g q d hSg hq hd
        have hlt : d < a.tmps.size := by rw [I.size]; exact (R.tra.step g q (Nat.zero_le _) hq).2.1 d hd
        have hT : tget (T i) d = v g := R.tSome (by omega) hgi hq hd
        rw [Array.getD_eq_getD_getElem?, Array.getElem?_eq_getElem hlt] at hv
        rw [Array.getElem?_eq_getElem hlt]
        simp only [Option.getD_some] at hv ⊢
        rw [← hT] at hv
        unfold tget at hv
        cases hgT : (T i).get d with
        | none =>
          rw [hgT] at hv
          simp only at hv
          cases hu : a.tmps[d] <;> rw [hu] at hv <;> cases hv
          cases want <;> simp
        | some u =>
          rw [hgT] at hv
          simp only at hv
          cases hu : a.tmps[d] <;> rw [hu] at hv <;> cases hv <;> cases want <;> first | (simp; done) | (rename_i b; cases b <;> simp)

/-- The machine makes one more operation. -/
def Goes (P : Program) (ro : Option Nat) (rec : Bool) (opsA : Array Oper) (i : Nat) (a a' : Act) (w w' : World) : Prop :=
  ∀ (b : Frame) (k : List Item) (cs : List Frame) (rest : List Nat), (ro = none → b.roundOf = none) → b.kind = KD rec → okCs rec cs →
    Steps P (lone (b.atR a (.inRegion opsA (i :: rest) :: k)) cs w) (lone (b.atR a' (.inRegion opsA rest :: k)) cs w')

theorem Inv.exec (fa : Fa p P) (hC : ∀ m, m < n → CallP p P m) (hR : ∀ m, m < n → RoundP p P m) (R : Rg p P n ops nt base T W v) (hb : base ≤ w0.heap.size) (I : Inv p ops nt base T W v ρ0 w0 a0 S c ρp a w) {opsA : Array Oper} (hA : opsA.toList = ops) {i : Nat} {o : Oper} (ho : ops[i]? = some o) (hS : ¬ S i)
    (hpre : ∀ e ∈ o.after.toList, bindsAny e = true → S e.on) : ∃ c' ρp' a' w', Inv p ops nt base T W v ρ0 w0 a0 (fun j => S j ∨ j = i) c' ρp' a' w' ∧ ∀ ro rec, Goes P ro rec opsA i a a' w w' := by
  have hi : i < ops.length := (List.getElem?_eq_some_iff.1 ho).1
  have hoA : opsA[i]? = some o := by rw [← Array.getElem?_toList, hA]; exact ho
  have hwant := I.wanted R hA ho hpre
  have closed' : ∀ j o2 e, (S j ∨ j = i) → ops[j]? = some o2 → e ∈ o2.after.toList → bindsAny e = true → (S e.on ∨ e.on = i) := by
    intro j o2 e hj hoj he hbd
    rcases hj with hj | rfl
    · exact .inl (I.closed j o2 e hj hoj he hbd)
    · rw [ho] at hoj
      injection hoj with hoj
      subst hoj
      exact .inl (hpre e he hbd)
  have hord : ∀ j, ordered (masks ops []) j i = true → S j := by
    intro j hj
    obtain ⟨o2, e, h1, h2, h3, h4⟩ := ordered_step hj
    rw [ho] at h1
    injection h1 with h1
    subst h1
    have he := hpre e h2 h3
    rcases h4 with rfl | ⟨h5, h6⟩
    · exact he
    · exact ordered_listed S I.closed e.on j h6 he
  have hord2 : ∀ j, S j → ordered (masks ops []) i j = true → False := fun j hj h => hS (ordered_listed S I.closed j i h hj)
  obtain ⟨hst1, hst2, hst3⟩ := R.tra.step i o (Nat.zero_le _) ho
  -- an operation that only gives a value
  have value : ¬ (wantedA ops (T i) o = true ∧ (kindOf p o = .eff ∨ kindOf p o = .alloc)) → ∀ x, VR ρp (v i) x → Inv p ops nt base T W v ρ0 w0 a0 (fun j => S j ∨ j = i) c ρp (a.put o.dst x) w := by
    intro hne x hx
    obtain ⟨g1, g2, g3, g4⟩ := I.put R ho (Sub.refl ρp) hx
    refine ⟨I.clen, closed', fun j oj hj hwj hkj => ?_, I.cEff, I.sim, I.ext, fun j oj h1 h2 h3 h4 h5 => ?_, fun b L h1 h2 => ?_, I.sep, g1, g2, g3, g4⟩
    · have hji : j ≠ i := fun q => by
        subst q
        rw [ho] at hj
        injection hj with hj
        subst hj
        exact hne ⟨hwj, .inl hkj⟩
      rw [← I.effA j oj hj hwj hkj]
      exact ⟨fun q => q.resolve_right hji, .inl⟩
    · rcases h2 with h2 | rfl
      · exact I.rows j oj h1 h2 h3 h4 h5
      · rw [ho] at h3
        injection h3 with h3
        subst h3
        exact absurd ⟨h4, .inr h5⟩ hne
    · obtain ⟨j, oj, q1, q2, q3⟩ := I.early b L h1 h2
      exact ⟨j, oj, q1, .inl q2, q3⟩
  rcases hst3 with ⟨hw, hv0, hW0⟩ | ⟨hw, hkd⟩
  · -- not wanted
    refine ⟨c, ρp, a.put o.dst undef, w, value (fun q => by rw [hw] at q; cases q.1) undef (by rw [hv0]; exact VR.undef ρp), fun ro rec b k cs rest _ _ _ => ?_⟩
    have hs := stepR_op_skip (P := P) (b := b) (a := a) (k := k) (cs := cs) (w := w) (ops := opsA) (i := i) (rest := rest) (by rw [hoA]; simp only [Option.map_some, Option.getD_some]; rw [← hwant]; exact hw)
    rw [hoA] at hs
    exact .one hs
  · have hwc : Region.wanted o (yielded opsA a.tmps) = true := by rw [← hwant]; exact hw
    have hop := I.opnd R ho hS hpre
    obtain ⟨T', a1, n1, n2, n3⟩ := narrow (p := p) (o := o) R.ntLe I.size (R.out (i := i) (by omega)) (fun t ht _ => hop t ht)
    have takes : ∀ {a' w'}, (∀ fn ro rec, Takes P fn ro rec o a a' w w') → ∀ ro rec, Goes P ro rec opsA i a a' w w' := by
      intro a' w' h ro rec b k cs rest h1 h2 h3
      exact h b.fn ro rec b k cs opsA i rest rfl h1 h2 h3 hoA hwc
    unfold Kd at hkd
    cases hk : kindOf p o with
    | bad => rw [hk] at hkd; exact hkd.elim
    | pure =>
      rw [hk] at hkd
      have h1 := hkd
      rw [← n2] at h1
      obtain ⟨u, e, v', q1, q2⟩ := pure_op fa n1 hk h1
      injection e with e1 e2
      subst e1
      refine ⟨c, ρp, _, w, value (fun q => by rcases q.2 with q | q <;> rw [hk] at q <;> cases q) v' q1, takes fun fn ro rec => takes_value (.inr (notDefer hkd (fun _ _ q => by cases q))) ?_⟩
      rw [← n3 _ _ hkd]
      exact q2 w
    | read =>
      rw [hk] at hkd
      -- the world in which it is made
      have key : ∃ B C, Rd B ρp w ∧ opA p (T i) B o = some (.val (v i) C) := by
        by_cases hci : c ≤ i
        · by_cases hex : ∃ e, c ≤ e ∧ e < i ∧ ∃ oe, ops[e]? = some oe ∧ wantedA ops (T e) oe = true ∧ kindOf p oe = .eff
          · obtain ⟨e, ⟨h1, h2, oe, h3, h4, h5⟩, hleast⟩ := exists_least _ hex
            have hSe : ¬ S e := fun q => by have := (I.effA e oe h3 h4 h5).1 q; omega
            have hag := (R.tra.rd i o (Nat.zero_le _) ho hw hk).2 e oe (Nat.zero_le _) h2 h3 h4 h5
            rcases hag with hag | hag
            · exact absurd (hord e hag) hSe
            · obtain ⟨C, hC⟩ := again_some hag
              have hrd := I.rd fa R (e - c) (by omega) (fun e2 o2 g1 g2 g3 g4 g5 => hleast e2 (by omega) ⟨g1, by omega, o2, g3, g4, g5⟩)
              rw [show c + (e - c) = e from by omega] at hrd
              exact ⟨_, C, hrd, hC⟩
          · have hrd := I.rd fa R (i - c) (by omega) (fun e2 o2 g1 g2 g3 g4 g5 => hex ⟨e2, g1, by omega, o2, g3, g4, g5⟩)
            rw [show c + (i - c) = i from by omega] at hrd
            exact ⟨_, _, hrd, hkd⟩
        · rcases I.cEff with h0 | ⟨j, oj, h1, h2, h3, h4⟩
          · omega
          · have hSj : S j := (I.effA j oj h2 h3 h4).2 (by omega)
            have hji : i ≠ j := fun q => by
              subst q
              rw [ho] at h2
              injection h2 with h2
              subst h2
              rw [hk] at h4; cases h4
            have hag := (R.tra.ef j oj (Nat.zero_le _) h2 h3 h4).2 i o (Nat.zero_le _) (by omega) ho hw hk
            rcases hag with hag | hag
            · exact (hord2 j hSj hag).elim
            · obtain ⟨C, hC⟩ := again_some hag
              rw [← h1] at hC
              exact ⟨_, C, I.sim.rdBig, hC⟩
      obtain ⟨B, C, hrd, hop2⟩ := key
      have h1 := hop2
      rw [← n2] at h1
      obtain ⟨u, e, v', q1, q2⟩ := read_op fa hrd n1 hk h1
      injection e with e1 e2
      subst e1
      refine ⟨c, ρp, _, w, value (fun q => by rcases q.2 with q | q <;> rw [hk] at q <;> cases q) v' q1, takes fun fn ro rec => takes_value (.inr (notDefer hkd (fun _ _ q => by cases q))) ?_⟩
      rw [← n3 _ _ hkd]
      exact q2
    | alloc =>
      rw [hk] at hkd
      have hci : c ≤ i := by
        rcases Nat.lt_or_ge i c with hlt | hge
        · exfalso
          rcases I.cEff with h0 | ⟨j, oj, h1, h2, h3, h4⟩
          · omega
          · have hSj : S j := (I.effA j oj h2 h3 h4).2 (by omega)
            have hji : i ≠ j := fun q => by
              subst q
              rw [ho] at h2
              injection h2 with h2
              subst h2
              rw [hk] at h4; cases h4
            rcases R.reg.pair i j o oj (by omega) ho h2 with h | h
            · exact hord2 j hSj h
            · exact h.2.2 ⟨h4, .inr hk⟩
        · exact hge
      have h1 := hkd
      rw [← n2] at h1
      obtain ⟨u, BB, e1, e2, hrun⟩ := al_new fa n1 hk h1
      injection e1 with e0 e1
      subst e0 e1
      obtain ⟨v', w1, obj, Z, r1, r2, r3, r5⟩ := hrun w
      rw [n3 _ _ hkd] at r2
      have hmc := R.mono fa hci (by omega : i ≤ ops.length)
      have hlo := R.lo (i := i) (by omega)
      have hlt : ∀ b L, ρp b = some L → L.B < w.heap.size := by
        intro b L hL
        by_cases h2 : b < (W c).next
        · exact (I.sim.dom b L (by rw [restr_lt h2]; exact hL)).2
        · obtain ⟨j, oj, g1, g2, g3, g4, g5, g6⟩ := I.early b L hL (by omega)
          obtain ⟨B, _, Z2, k1, _, k4, _⟩ := I.rows j oj g1 g2 g3 g4 g5
          rw [g6, k1] at hL
          injection hL with hL
          subst hL
          exact k4
      have hfresh : ρp (W i).next = none := by
        cases hq : ρp (W i).next with
        | none => rfl
        | some L =>
          obtain ⟨j, oj, g1, g2, g3, g4, g5, g6⟩ := I.early _ L hq hmc
          have := R.alloc_inj fa ho g3 hw g4 hk g5 g6
          subst this
          exact absurd g2 hS
      have hsub : Sub ρp (upd ρp (W i).next ⟨w.heap.size, 0, Z, 0⟩) := sub_upd _ hfresh
      have hrestr : restr (upd ρp (W i).next ⟨w.heap.size, 0, Z, 0⟩) (W c).next = restr ρp (W c).next := by
        funext b
        unfold restr
        by_cases h2 : b < (W c).next
        · rw [if_pos h2, if_pos h2, upd_ne _ (by omega)]
        · rw [if_neg h2, if_neg h2]
      obtain ⟨s1, s2⟩ := I.sim.allocObj r1 obj
      have hvi := r5 (upd ρp (W i).next ⟨w.heap.size, 0, Z, 0⟩) (upd_same _ _ _)
      obtain ⟨g1, g2, g3, g4⟩ := I.put R ho hsub hvi
      have hheap : ∀ B, B < w.heap.size → (w1.alloc obj).heap[B]? = w.heap[B]? := by
        intro B hB
        rw [heap_alloc_ne w1 _ (by rw [r1.heap]; exact hB), r1.heap]
      have hsz : (w1.alloc obj).heap.size = w.heap.size + 1 := by show (w1.heap.push _).size = _; rw [Array.size_push, r1.heap]
      refine ⟨c, upd ρp (W i).next ⟨w.heap.size, 0, Z, 0⟩, _, w1.alloc obj, ⟨I.clen, closed', fun j oj hj hwj hkj => ?_, I.cEff, by rw [hrestr]; exact s1, by rw [hrestr]; exact I.ext.trans s2, fun j oj h1 h2 h3 h4 h5 => ?_, fun b L h1 h2 => ?_, fun b b' L L' h1 h2 h3 h4 h5 => ?_, g1, g2, g3, g4⟩,
        takes fun fn ro rec => takes_value (.inr (notDefer hkd (fun _ _ q => by cases q))) r2⟩
      · have hji : j ≠ i := fun q => by
          subst q
          rw [ho] at hj
          injection hj with hj
          subst hj
          rw [hk] at hkj; cases hkj
        rw [← I.effA j oj hj hwj hkj]
        exact ⟨fun q => q.resolve_right hji, .inl⟩
      · by_cases hji : j = i
        · subst hji
          rw [ho] at h3
          injection h3 with h3
          subst h3
          refine ⟨w.heap.size, obj, Z, upd_same _ _ _, I.ext.size, by rw [hsz]; omega, ?_, r3.mono hsub⟩
          show (w1.heap.push _)[w.heap.size]? = _
          rw [← r1.heap]; simp
        · obtain ⟨B, ob2, Z2, k1, k3, k4, k5, k6⟩ := I.rows j oj h1 (h2.resolve_right hji) h3 h4 h5
          refine ⟨B, ob2, Z2, hsub _ _ k1, k3, by rw [hsz]; omega, by rw [hheap B k4]; exact k5, k6.mono hsub⟩
      · by_cases hbn : b = (W i).next
        · exact ⟨i, o, hci, .inr rfl, ho, hw, hk, hbn⟩
        · rw [upd_ne _ hbn] at h1
          obtain ⟨j, oj, q1, q2, q3⟩ := I.early b L h1 h2
          exact ⟨j, oj, q1, .inl q2, q3⟩
      · by_cases hbn : b = (W i).next
        · by_cases hbn' : b' = (W i).next
          · rw [hbn, hbn']
          · exfalso
            rw [upd_ne _ hbn'] at h2
            rw [hbn, upd_same] at h1
            injection h1 with h1
            have := hlt b' L' h2
            rw [← h5, ← h1] at this
            exact Nat.lt_irrefl _ this
        · by_cases hbn' : b' = (W i).next
          · exfalso
            rw [upd_ne _ hbn] at h1
            rw [hbn', upd_same] at h2
            injection h2 with h2
            have := hlt b L h1
            rw [h5, ← h2] at this
            exact Nat.lt_irrefl _ this
          · rw [upd_ne _ hbn] at h1
            rw [upd_ne _ hbn'] at h2
            exact I.sep b b' L L' h1 h2 h3 h4 h5
    | eff =>
      rw [hk] at hkd
      have hci : c ≤ i := by
        rcases Nat.lt_or_ge i c with hlt | hge
        · exact absurd ((I.effA i o ho hw hk).2 hlt) hS
        · exact hge
      have hbefore : ∀ j oj, j < i → ops[j]? = some oj → (kindOf p oj = .eff ∨ kindOf p oj = .alloc) → S j := by
        intro j oj hj hoj hkj
        rcases R.reg.pair j i oj o hj hoj ho with h | h
        · exact hord j h
        · exact absurd ⟨hk, hkj⟩ h.2.2
      have hne : ∀ e o2, c ≤ e → e < i → ops[e]? = some o2 → wantedA ops (T e) o2 = true → kindOf p o2 ≠ .eff := by
        intro e o2 h1 h2 h3 h4 h5
        have := (I.effA e o2 h3 h4 h5).1 (hbefore e o2 h2 h3 (.inl h5))
        omega
      obtain ⟨s0, x0⟩ := I.adopt fa R hb (i - c) (by omega) (fun e o2 h1 h2 => hne e o2 h1 (by omega)) (fun e o2 h1 h2 h3 _ h5 => hbefore e o2 (by omega) h3 (.inr h5))
      rw [show c + (i - c) = i from by omega] at s0 x0
      have hlo := R.lo (i := i) (by omega)
      obtain ⟨T2, a2, m1, m2, m3⟩ := narrow (p := p) (o := o) (ρ := restr ρp (W i).next) R.ntLe I.size (R.out (i := i) (by omega)) (fun t ht _ => (hop t ht).restr hlo.1 (R.idsT (by omega) t))
      have heff : EffA p n T2 (W i) o (v i) (W (i + 1)) := by
        have := hkd.1
        unfold EffA at this ⊢
        rw [m2]
        exact this
      have hexec : execOp a2.eval o = execOp a.eval o := by
        rcases hkd.1 with h | ⟨h, _⟩ | ⟨_, _, _, _, h, _⟩ | ⟨_, _, _, _, h, _⟩ <;> exact m3 _ _ h
      obtain ⟨v', w', ρ', k1, k2, k3, k4⟩ := eff_run fa hC hR s0 m1 heff
      have hmi := R.mono fa (i := i) (j := i + 1) (by omega) (by omega)
      have hmc := R.mono fa hci (by omega : i ≤ ops.length)
      -- the blocks of early rows
      have hbig : ∀ b L, ρp b = some L → (W i).next ≤ b → ∃ j oj, i + 1 ≤ j ∧ S j ∧ ops[j]? = some oj ∧ wantedA ops (T j) oj = true ∧ kindOf p oj = .alloc ∧ b = (W j).next ∧ (W (i + 1)).next ≤ b := by
        intro b L hL hge
        obtain ⟨j, oj, g1, g2, g3, g4, g5, g6⟩ := I.early b L hL (by omega)
        have hjl : j < ops.length := (List.getElem?_eq_some_iff.1 g3).1
        rcases Nat.lt_trichotomy j i with hlt | heq | hgt
        · have h1 := R.mono fa (i := j + 1) (j := i) hlt (by omega)
          rw [R.step_alloc fa g3 g4 g5] at h1
          omega
        · subst heq
          rw [ho] at g3
          injection g3 with g3
          subst g3
          rw [hk] at g5; cases g5
        · refine ⟨j, oj, hgt, g2, g3, g4, g5, g6, ?_⟩
          rw [g6]
          exact R.mono fa (i := i + 1) (j := j) hgt (by omega)
      let ρq : Rho := fun b => if b < (W (i + 1)).next then ρ' b else ρp b
      have hq1 : ∀ b, b < (W (i + 1)).next → ρq b = ρ' b := fun b h => if_pos h
      have hq2 : ∀ b, (W (i + 1)).next ≤ b → ρq b = ρp b := fun b h => if_neg (by omega)
      have hsub : Sub ρp ρq := by
        intro b L hL
        by_cases h1 : b < (W i).next
        · rw [hq1 b (by omega)]
          exact k2.sub b L (by rw [restr_lt h1]; exact hL)
        · obtain ⟨_, _, _, _, _, _, _, _, h2⟩ := hbig b L hL (by omega)
          rw [hq2 b h2]; exact hL
      have hrestr : restr ρq (W (i + 1)).next = ρ' := by
        funext b
        unfold restr
        by_cases h1 : b < (W (i + 1)).next
        · rw [if_pos h1, hq1 b h1]
        · rw [if_neg h1]
          cases hq : ρ' b with
          | none => rfl
          | some L => exact absurd (k1.dom b L hq).1 h1
      have hsub' : Sub ρ' ρq := fun b L hL => by rw [hq1 b (k1.dom b L hL).1]; exact hL
      have hframe : ∀ b L, ρp b = some L → (W i).next ≤ b → w'.heap[L.B]? = w.heap[L.B]? ∧ L.B < w.heap.size := by
        intro b L hL hge
        obtain ⟨j, oj, h1, h2, h3, h4, h5, h6, h7⟩ := hbig b L hL hge
        obtain ⟨B, _, Z2, r1, _, r4, _⟩ := I.rows j oj (by omega) h2 h3 h4 h5
        have hLB : L.B < w.heap.size := by
          rw [h6, r1] at hL
          injection hL with hL
          rw [← hL]; exact r4
        refine ⟨k2.frame L.B hLB (fun b2 L2 g1 g2 g3 => ?_), hLB⟩
        obtain ⟨g4, g5⟩ := restr_some g2
        have := I.sep b b2 L L2 hL g5 (by omega) g1 g3.symm
        omega
      obtain ⟨g1, g2, g3, g4⟩ := I.put R ho hsub (k3.mono hsub')
      refine ⟨i + 1, ρq, _, w', ⟨by omega, closed', fun j oj hj hwj hkj => ?_, .inr ⟨i, o, rfl, ho, hw, hk⟩, by rw [hrestr]; exact k1, by rw [hrestr]; exact x0.trans k2, fun j oj h1 h2 h3 h4 h5 => ?_, fun b L h1 h2 => ?_, fun b b' L L' h1 h2 h3 h4 h5 => ?_, g1, g2, g3, g4⟩, takes fun fn ro rec => k4 fn ro rec a hexec.symm⟩
      · constructor
        · rintro (q | rfl)
          · have := (I.effA j oj hj hwj hkj).1 q; omega
          · omega
        · intro q
          by_cases hji : j = i
          · exact .inr hji
          · exact .inl (hbefore j oj (by omega) hj (.inl hkj))
      · have hji : j ≠ i := by omega
        obtain ⟨B, ob2, Z2, r1, r3, r4, r5, r6⟩ := I.rows j oj (by omega) (h2.resolve_right hji) h3 h4 h5
        have hjl : j < ops.length := (List.getElem?_eq_some_iff.1 h3).1
        have hge := R.mono fa (i := i + 1) (j := j) h1 (by omega)
        obtain ⟨f1, f2⟩ := hframe _ _ r1 (by omega)
        exact ⟨B, ob2, Z2, hsub _ _ r1, r3, Nat.lt_of_lt_of_le r4 k2.size, by rw [f1]; exact r5, r6.mono hsub⟩
      · rw [hq2 b h2] at h1
        obtain ⟨j, oj, q1, q2, q3, q4, q5, q6, q7⟩ := hbig b L h1 (by omega)
        exact ⟨j, oj, q1, .inl q2, q3, q4, q5, q6⟩
      · rw [hq2 b h3] at h1
        by_cases hb' : b' < (W (i + 1)).next
        · rw [hq1 b' hb'] at h2
          obtain ⟨f1, f2⟩ := hframe b L h1 (by omega)
          exfalso
          cases hr : restr ρp (W i).next b' with
          | some L0 =>
            have h6 := k2.sub b' L0 hr
            rw [h2] at h6
            injection h6 with h6
            subst h6
            obtain ⟨h7, h8⟩ := restr_some hr
            have := I.sep b b' L L' h1 h8 (by omega) h4 h5
            omega
          | none =>
            rcases (k2.new b' L' h2 hr).2 with h6 | ⟨b0, L0, h6, h7, h8⟩
            · omega
            · obtain ⟨h9, h10⟩ := restr_some h7
              have := I.sep b b0 L L0 h1 h10 (by omega) h6 (h5.trans h8.symm)
              omega
        · rw [hq2 b' (by omega)] at h2
          exact I.sep b b' L L' h1 h2 (by omega) h4 h5
end
end Go.AL
end

section
namespace Go.AL
open Go

section
variable {p : AP} {P : Program} {n : Nat} {ops : List Oper} {nt base : Nat} {T : Nat → Tr Value} {W : Nat → AW} {v : Nat → Value} {ρ0 : Rho} {w0 : World} {a0 : Act}

theorem Inv.congr {S S' : Nat → Prop} {c : Nat} {ρp : Rho} {a : Act} {w : World} (h : ∀ j, S j ↔ S' j) (I : Inv p ops nt base T W v ρ0 w0 a0 S c ρp a w) : Inv p ops nt base T W v ρ0 w0 a0 S' c ρp a w := by
  have : S = S' := funext fun j => propext (h j)
  rw [← this]; exact I

theorem getD_false {l : Array Bool} {j : Nat} (h : l.getD j true = false) : j < l.size ∧ ¬ l.getD j false = true := by
  have hlt : j < l.size := by
    rcases Nat.lt_or_ge j l.size with h' | h'
    · exact h'
    · simp [Array.getElem?_eq_none h'] at h
  refine ⟨hlt, fun q => ?_⟩
  simp [hlt] at h q
  rw [h] at q; cases q
theorem set_listed {l : Array Bool} {i : Nat} (hi : i < l.size) (j : Nat) : (l.setIfInBounds i true).getD j false = true ↔ (l.getD j false = true ∨ j = i) := by
  by_cases h : i = j
  · subst h; simp [hi]
  · rw [getD_set_ne false h]
    exact ⟨.inl, fun q => q.resolve_right (fun e => h e.symm)⟩

/-- ALL OPERATIONS, IN WHATEVER ORDER IS DRAWN. -/
theorem drawn_go (fa : Fa p P) (hC : ∀ m, m < n → CallP p P m) (hR : ∀ m, m < n → RoundP p P m) (R : Rg p P n ops nt base T W v) (hb : base ≤ w0.heap.size) {opsA : Array Oper} (hA : opsA.toList = ops) :
    ∀ (fuel t : Nat) (listed : Array Bool) (U : List Nat) (c : Nat) (ρp : Rho) (a : Act) (w : World), listed.size = opsA.size → (∀ j, j < opsA.size → listed.getD j false = true ∨ j ∈ U) → U.length ≤ fuel →
      Inv p ops nt base T W v ρ0 w0 a0 (fun j => listed.getD j false = true) c ρp a w →
      ∃ S c' ρp' a' w', Inv p ops nt base T W v ρ0 w0 a0 S c' ρp' a' w' ∧ (∀ j, j < ops.length → S j) ∧ ∀ (ro : Option Nat) rec (b : Frame) k cs, (ro = none → b.roundOf = none) → b.kind = KD rec → okCs rec cs →
        Steps P (lone (b.atR a (.inRegion opsA (Region.linearise.go .any opsA fuel t listed []) :: k)) cs w) (lone (b.atR a' k) cs w') := by
  have hlen : ops.length = opsA.size := by rw [← hA]; simp
  intro fuel
  induction fuel with
  | zero =>
    intro t listed U c ρp a w hsz hU hf I
    have hU0 : U = [] := List.eq_nil_of_length_eq_zero (by omega)
    subst hU0
    refine ⟨_, c, ρp, a, w, I, fun j hj => (hU j (by omega)).resolve_right (by simp), fun ro rec b k cs _ _ _ => ?_⟩
    simp only [Region.linearise.go, List.reverse_nil]
    exact .one stepR_region_end
  | succ fuel ih =>
    intro t listed U c ρp a w hsz hU hf I
    simp only [Region.linearise.go]
    change ∃ S c' ρp' a' w', Inv p ops nt base T W v ρ0 w0 a0 S c' ρp' a' w' ∧ (∀ j, j < ops.length → S j) ∧ ∀ (ro : Option Nat) rec (b : Frame) k cs, (ro = none → b.roundOf = none) → b.kind = KD rec → okCs rec cs →
        Steps P (lone (b.atR a (.inRegion opsA (match (Region.ready .any opsA listed)[t % (Region.ready .any opsA listed).length]? with
          | some i => Region.linearise.go .any opsA fuel (t / (Region.ready .any opsA listed).length) (listed.setIfInBounds i true) [i]
          | none => [].reverse) :: k)) cs w) (lone (b.atR a' k) cs w')
    cases hi : (Region.ready .any opsA listed)[t % (Region.ready .any opsA listed).length]? with
    | none =>
      have hnil : Region.ready .any opsA listed = [] := by
        cases hr : Region.ready .any opsA listed with
        | nil => rfl
        | cons x xs =>
          rw [hr] at hi
          have hlt : t % (x :: xs).length < (x :: xs).length := Nat.mod_lt _ (by simp)
          simp at hi
          simp at hlt
          omega
      have hall : ∀ j, j < ops.length → listed.getD j false = true := by
        intro j hj
        induction j using Nat.strongRecOn with
        | _ j ihj =>
          cases hq : listed.getD j false with
          | true => rfl
          | false =>
            exfalso
            have hlt : j < listed.size := by omega
            obtain ⟨oj, hoj⟩ : ∃ x, opsA[j]? = some x := ⟨_, Array.getElem?_eq_getElem (by omega)⟩
            have hojL : ops[j]? = some oj := by rw [← hA, Array.getElem?_toList]; exact hoj
            have hm : j ∈ Region.ready .any opsA listed := by
              refine mem_ready.2 ⟨by simp [hlt] at hq ⊢; exact hq, oj, hoj, fun e he hbd => ?_⟩
              have hlt2 := R.reg.edge j oj e hojL (by simpa using he) (by rw [bindsAny_eq]; exact hbd)
              exact ihj e.on hlt2 (by omega)
            rw [hnil] at hm
            cases hm
      refine ⟨_, c, ρp, a, w, I, hall, fun ro rec b k cs _ _ _ => ?_⟩
      simp only [List.reverse_nil]
      exact .one stepR_region_end
    | some i =>
      have hmem : i ∈ Region.ready .any opsA listed := List.mem_of_getElem? hi
      obtain ⟨hun, o, ho, hpre⟩ := mem_ready.1 hmem
      obtain ⟨hlt, hnS⟩ := getD_false hun
      have hoL : ops[i]? = some o := by rw [← hA, Array.getElem?_toList]; exact ho
      obtain ⟨c1, ρ1, a1, w1, I1, g1⟩ := I.exec fa hC hR R hb hA hoL hnS (fun e he hbd => hpre e (by simpa using he) (by rw [← bindsAny_eq]; exact hbd))
      have I2 := I1.congr (S' := fun j => (listed.setIfInBounds i true).getD j false = true) (fun j => (set_listed hlt j).symm)
      have hiU : i ∈ U := (hU i (by omega)).resolve_left hnS
      obtain ⟨S, c', ρp', a', w', k1, k2, k3⟩ := ih (t / (Region.ready .any opsA listed).length) (listed.setIfInBounds i true) (U.erase i) c1 ρ1 a1 w1 (by simpa using hsz) (fun j hj => by
        by_cases hji : j = i
        · subst hji; exact .inl ((set_listed hlt j).2 (.inr rfl))
        · rcases hU j hj with h | h
          · exact .inl ((set_listed hlt j).2 (.inl h))
          · exact .inr ((List.mem_erase_of_ne hji).2 h)) (by rw [List.length_erase_of_mem hiU]; omega) I2
      refine ⟨S, c', ρp', a', w', k1, k2, fun ro rec b k cs q1 q2 q3 => ?_⟩
      simp only
      rw [linearise_go_acc, List.reverse_singleton, List.singleton_append]
      exact Steps.trans (g1 ro rec b k cs _ q1 q2 q3) (k3 ro rec b k cs q1 q2 q3)
end

theorem opsD_run {p : AP} {P : Program} (fa : Fa p P) {n : Nat} (hC : ∀ m, m < n → CallP p P m) (hR : ∀ m, m < n → RoundP p P m) : OpsDP p P n := by
  intro ops F A F' A' hr hok base ρ w a h hF ro t
  obtain ⟨T, W, v, tra, t1, t2, t3, t4, t5, t6⟩ := opsD_tra n ops.toList (masks ops.toList []) 0 ops.toList ⟨[], []⟩ F A F' A' hr rfl (Nat.zero_le _)
  have h' : Sim base (W 0) ρ w := by rw [t2]; exact h
  have hT' : TR ρ (T 0) F.nt a.tmps := by rw [t1]; exact hF.tm
  have R : Rg p P n ops.toList F.nt base T W v := ⟨tra, regOk_spec hok, seq_run fa hC hR tra h' hT'⟩
  have hrestr : restr ρ (W 0).next = ρ := by
    funext b
    unfold restr
    by_cases h1 : b < (W 0).next
    · rw [if_pos h1]
    · rw [if_neg h1]
      cases hq : ρ b with
      | none => rfl
      | some L => exact absurd (h'.dom b L hq).1 h1
  have hbig : ∀ b L, ρ b = some L → (W 0).next ≤ b → False := fun b L hL hge => by have := (h'.dom b L hL).1; omega
  have hno : ∀ j, ¬ (Array.replicate ops.size false).getD j false = true := fun j => by
    rw [Array.getD_eq_getD_getElem?, Array.getElem?_replicate]
    split <;> simp
  have I0 : Inv p ops.toList F.nt base T W v ρ w a (fun j => (Array.replicate ops.size false).getD j false = true) 0 ρ a w :=
    { clen := Nat.zero_le _, closed := fun j o e hj => absurd hj (hno j), effA := fun j o _ _ _ => ⟨fun q => absurd q (hno j), fun q => absurd q (Nat.not_lt_zero j)⟩, cEff := .inl rfl,
      sim := by rw [hrestr]; exact h', ext := by rw [hrestr]; exact Ext.refl ρ w, rows := fun i o _ hi => absurd hi (hno i), early := fun b L h1 h2 => (hbig b L h1 h2).elim,
      sep := fun b b' L L' h1 _ h2 => (hbig b L h1 h2).elim, size := hT'.size, tw := fun j o t hj => absurd hj (hno j), ti := fun t _ => hT'.get t, dfs := rfl }
  obtain ⟨S, c', ρp', a', w', I, hall, hsteps⟩ := drawn_go fa hC hR R h.bs rfl ops.size t (Array.replicate ops.size false) (List.range ops.size) 0 ρ a w (by simp) (fun j hj => .inr (List.mem_range.2 hj)) (by simp) I0
  have hlen : ops.toList.length = ops.size := by simp
  obtain ⟨s, x⟩ := I.adopt fa R h.bs (ops.toList.length - c') (by have := I.clen; omega) (fun e o h1 h2 h3 h4 h5 => by
    have hlt : e < ops.toList.length := (List.getElem?_eq_some_iff.1 h3).1
    have := (I.effA e o h3 h4 h5).1 (hall e hlt)
    omega) (fun e o _ _ h3 _ _ => hall e (List.getElem?_eq_some_iff.1 h3).1)
  rw [show c' + (ops.toList.length - c') = ops.toList.length from by have := I.clen; omega] at s x
  have hlo := R.lo (i := ops.toList.length) (Nat.le_refl _)
  rw [t4] at s x
  refine ⟨a', w', _, s, x, ⟨⟨by rw [I.size, t5], by rw [t5]; exact R.ntLe, fun t' ht' => ?_, fun t' ht' => ?_⟩, ?_⟩, fun b k cs rec h1 h2 h3 _ => hsteps ro rec b k cs h1 h2 h3⟩
  · rw [← t4, ← t3]
    refine VR.restr hlo.1 ?_ (R.idsT (Nat.le_refl _) t')
    by_cases hex : ∃ (j : Nat) (oj : Oper), ops.toList[j]? = some oj ∧ oj.dst = some t'
    · obtain ⟨j, oj, hj, hd⟩ := hex
      have hlt : j < ops.toList.length := (List.getElem?_eq_some_iff.1 hj).1
      rw [R.tSome (Nat.le_refl _) hlt hj hd]
      exact I.tw j oj t' (hall j hlt) hj hd
    · rw [R.tNone (Nat.le_refl _) t' (fun j o2 _ h3 h4 => hex ⟨j, o2, h3, h4⟩)]
      exact I.ti t' (fun j o2 _ h3 h4 => hex ⟨j, o2, h3, h4⟩)
  · rw [← t3]
    exact R.out (Nat.le_refl _) t' (by rw [← t5]; exact ht')
  · rw [t6, I.dfs]
    exact hF.ds.mono x.sub

/-- ALL OF IT. -/
theorem sound {p : AP} {P : Program} (fa : Fa p P) (hmix : P.follows .mixedOrders = true) : ∀ n, ExecP p P n ∧ OpsLP p P n ∧ OpsDP p P n ∧ CallP p P n ∧ RoundP p P n ∧ DefsP p P n := by
  intro n
  induction n using Nat.strongRecOn with
  | _ n ih =>
    cases n with
    | zero =>
      refine ⟨fun fn ro rec c F A e F' A' hr => ?_, fun ro rec ops i l F A F' A' hr => ?_, fun ops F A F' A' hr => ?_, fun rec f args A v A' hr => ?_, fun l args A v A' hr => ?_, fun ds A A' hr => ?_⟩
      · unfold exec at hr; cases hr
      · unfold opsL at hr; cases hr
      · unfold opsD at hr; cases hr
      · unfold acall at hr; cases hr
      · unfold around at hr; cases hr
      · unfold defs at hr; cases hr
    | succ n =>
      obtain ⟨hE, hO, hD, hCl, hRd, hDf⟩ := ih n (Nat.lt_succ_self n)
      have hD' : OpsDP p P (n + 1) := opsD_run fa (fun m hm => (ih m hm).2.2.2.1) (fun m hm => (ih m hm).2.2.2.2.1)
      exact ⟨exec_run fa hmix hE hCl hO hD, opsL_run fa hCl hRd hO, hD', acall_run fa hE hDf, around_run hE, defs_run hCl hDf⟩

/-- A CALL: what the interpreter says of it, every run does. -/
theorem acall_calls {p : AP} {P : Program} (fa : Fa p P) (hmix : P.follows .mixedOrders = true) {n : Nat} {f : FuncId} {args : List Value} {A A' : AW} {v : Value} (hr : acall p n false f args A = some (v, A')) {base : Nat} {ρ : Rho} {w : World} {args' : List Value} (h : Sim base A ρ w) (hR : VRs ρ args args') :
    ∃ v' w' ρ', Sim base A' ρ' w' ∧ Ext ρ w ρ' w' ∧ VR ρ' v v' ∧ Calls P f ⟨args'⟩ w (fun e w'' => e = .returned v' ∧ w'' = w') := by
  obtain ⟨_, v', w', ρ', k1, k2, k3, k4⟩ := (sound fa hmix n).2.2.2.1 false f args A v A' hr base ρ w args' h hR
  refine ⟨v', w', ρ', k1, k2, k3, fun cs => ?_⟩
  obtain ⟨fr, s1, s2⟩ := k4 cs (fun q => by cases q)
  exact ⟨.returned v', w', fr, ⟨rfl, rfl⟩, s1, s2.2.2.2.1, s2.leaving⟩
end Go.AL
end

section
namespace Go.AL
open Go

/-! ## A world of which only package variables are known -/
noncomputable def heapG : List (Nat × List Value) → Tr Bl
  | [] => .leaf
  | (b, cs) :: r => (heapG r).set dep b ⟨cs, 3, b⟩
noncomputable def AG (g : List (Nat × List Value)) : AW := ⟨heapG g, .leaf, .leaf, .leaf, .leaf, .leaf, 100⟩
def keyG (g : List (Nat × List Value)) (b : Nat) : Prop := ∃ cs, (b, cs) ∈ g
noncomputable def ρG (g : List (Nat × List Value)) : Rho := by
  classical exact fun b => if keyG g b then some ⟨b, 0, 0, 0⟩ else none
theorem ρG_some {g : List (Nat × List Value)} {b : Nat} {L : Loc} (h : ρG g b = some L) : keyG g b ∧ L = ⟨b, 0, 0, 0⟩ := by
  unfold ρG at h
  split at h
  · rename_i hk; injection h with h; exact ⟨hk, h.symm⟩
  · cases h
theorem ρG_key {g : List (Nat × List Value)} {b : Nat} (h : keyG g b) : ρG g b = some ⟨b, 0, 0, 0⟩ := by
  unfold ρG; exact if_pos h
theorem heapG_get : ∀ (g : List (Nat × List Value)) (b : Nat) (bl : Bl), (∀ q ∈ g, q.1 < 100) → (heapG g).get b = some bl → ∃ cs, (b, cs) ∈ g ∧ bl = ⟨cs, 3, b⟩
  | [], b, bl, _, h => by simp [heapG, get_leaf] at h
  | (k, cs) :: r, b, bl, hg, h => by
    have hk : k < 100 := hg (k, cs) List.mem_cons_self
    unfold heapG at h
    rw [get_set _ _ _ _ (by have : (100 : Nat) ≤ lim := by decide
                            omega)] at h
    split at h
    · rename_i e
      injection h with h
      subst h e
      exact ⟨cs, List.mem_cons_self, rfl⟩
    · obtain ⟨c2, h1, h2⟩ := heapG_get r b bl (fun q hq => hg q (List.mem_cons_of_mem _ hq)) h
      exact ⟨c2, List.mem_cons_of_mem _ h1, h2⟩
/-- What is asked of the list. -/
def gList (g : List (Nat × List Value)) : Bool := lall (fun q => andB (Nat.ble (Nat.succ q.1) (nat_lit 100)) (lall plainC q.2)) g
theorem gList_mem {g : List (Nat × List Value)} (h : gList g = true) {b : Nat} {cs : List Value} (hm : (b, cs) ∈ g) : b < 100 ∧ lall plainC cs = true := by
  obtain ⟨h1, h2⟩ := andB_true (lall_mem h (b, cs) hm)
  exact ⟨ble_true h1, h2⟩
/-- THE START. -/
theorem AG_sim {g : List (Nat × List Value)} (hg : gList g = true) {w : World} (hw : ∀ b cs, (b, cs) ∈ g → b < w.heap.size ∧ ∀ (i : Nat) v, cs[i]? = some v → w.cell? ⟨b, i, none⟩ = some v) : Sim w.heap.size (AG g) (ρG g) w := by
  have h100 : ∀ q ∈ g, q.1 < 100 := fun q hq => (gList_mem hg (b := q.1) (cs := q.2) hq).1
  have hkey : ∀ b, keyG g b → b < 100 ∧ b < w.heap.size := fun b ⟨cs, hc⟩ => ⟨(gList_mem hg hc).1, (hw b cs hc).1⟩
  have hheap : ∀ b bl, (AG g).heap.get b = some bl → ∃ cs, (b, cs) ∈ g ∧ bl = ⟨cs, 3, b⟩ := fun b bl h => heapG_get g b bl h100 h
  have hob : ∀ r, ¬ isObj (AG g) r := by
    intro r h
    unfold isObj AG at h
    simp [get_leaf] at h
  refine { bs := Nat.le_refl _, lo := Nat.le_refl _, hi := by show (100 : Nat) ≤ lim; decide, dom := fun b L e => ?_, fixd := fun b L e hb => ?_, above := fun b L e hb => ?_, blk := fun b bl e => ?_, own := fun b bl e hb => ?_, low := fun b bl e hb => ?_,
           there := fun b bl L e hb => ?_, cells := fun b bl L e _ e2 i v hv => ?_, sep := fun b1 b2 x1 x2 L1 L2 e1 _ _ _ _ hb => ?_, fams := fun k x e => ?_, obj := fun r h => (hob r h).elim, osep := fun r b L L' h => (hob r h).elim,
           maps := fun r es L e => ?_, iters := fun r m s L e => ?_, loops := fun r l L e => ?_, marks := fun r L e => ?_ }
  · obtain ⟨h1, rfl⟩ := ρG_some e
    exact ⟨(hkey b h1).1, (hkey b h1).2⟩
  · obtain ⟨h1, rfl⟩ := ρG_some e
    exact ⟨rfl, rfl, (hkey b h1).2⟩
  · obtain ⟨h1, rfl⟩ := ρG_some e
    have := (hkey b h1).1
    omega
  · obtain ⟨cs, h1, _⟩ := hheap b bl e
    exact ⟨_, ρG_key ⟨cs, h1⟩⟩
  · obtain ⟨cs, h1, _⟩ := hheap b bl e
    have := (gList_mem hg h1).1
    omega
  · obtain ⟨cs, h1, rfl⟩ := hheap b bl e
    exact hb
  · obtain ⟨cs, h1, _⟩ := hheap b bl e
    have := (gList_mem hg h1).1
    omega
  · obtain ⟨cs, h1, rfl⟩ := hheap b bl e
    obtain ⟨_, rfl⟩ := ρG_some e2
    have hv' : cs[i]? = some v := hv
    refine ⟨v, ?_, plainC_VR _ (lall_mem (gList_mem hg h1).2 v (List.mem_of_getElem? hv'))⟩
    have := (hw b cs h1).2 i v hv'
    simpa using this
  · obtain ⟨cs, h1, _⟩ := hheap b1 x1 e1
    have := (gList_mem hg h1).1
    omega
  · simp [AG, get_leaf] at e
  · simp [AG, get_leaf] at e
  · simp [AG, get_leaf] at e
  · simp [AG, get_leaf] at e
  · simp [AG, get_leaf] at e
theorem plainC_inv {ρ : Rho} {v v' : Value} (h : plainC v = true) (k : VR ρ v v') : v' = v := by
  cases k <;> first | rfl | (cases h; done) | skip
/-- Such a start lies under every world in which the variables read so. -/
theorem gOk_mem {A : AW} : ∀ {g : List (Nat × List Value)}, gOk A g = true → ∀ b cs, (b, cs) ∈ g → ∃ bl, A.heap.get b = some bl ∧ aliveF A.fams bl.fam b = true ∧ bl.cells = cs
  | [], _, b, cs, h => by cases h
  | (k, c) :: r, h, b, cs, hm => by
    unfold gOk at h
    split at h
    · rename_i cells e fam hk
      split at h
      · rename_i hok
        obtain ⟨h1, h2⟩ := andB_true hok
        rcases List.mem_cons.1 hm with hm | hm
        · injection hm with e1 e2
          subst e1 e2
          exact ⟨_, hk, h1, veq_eq _ _ _ _ h2⟩
        · exact gOk_mem h b cs hm
      · cases h
    · cases h
theorem gOk_cells {base : Nat} {A : AW} {ρ : Rho} {w : World} (h : Sim base A ρ w) {g : List (Nat × List Value)} (hg : gList g = true) (hok : gOk A g = true) : ∀ b cs, (b, cs) ∈ g → b < w.heap.size ∧ ∀ (i : Nat) v, cs[i]? = some v → w.cell? ⟨b, i, none⟩ = some v := by
  intro b cs hm
  obtain ⟨bl, h1, h2, rfl⟩ := gOk_mem hok b cs hm
  obtain ⟨h3, h4⟩ := gList_mem hg hm
  obtain ⟨L, hL⟩ := h.blk b bl h1
  obtain ⟨e1, e2, e3⟩ := h.fixd b L hL h3
  refine ⟨Nat.lt_of_lt_of_le e3 h.bs, fun i v hv => ?_⟩
  obtain ⟨v', g1, g2⟩ := h.cells b bl L h1 h2 hL i v hv
  rw [plainC_inv (lall_mem h4 v (List.mem_of_getElem? hv)) g2] at g1
  rw [e1, e2, Nat.zero_add] at g1
  exact g1

/-- A CALL BEHIND A START: its value, and what it leaves. -/
theorem acall_keeps {p : AP} {P : Program} (fa : Fa p P) (hmix : P.follows .mixedOrders = true) {n : Nat} {f : FuncId} {args : List Value} {g : List (Nat × List Value)} (hg : gList g = true) {A' : AW} {v : Value} (hr : acall p n false f args (AG g) = some (v, A')) (hv : plainC v = true) {w : World}
    (hw : ∀ b cs, (b, cs) ∈ g → b < w.heap.size ∧ ∀ (i : Nat) v, cs[i]? = some v → w.cell? ⟨b, i, none⟩ = some v) {args' : List Value} (hR : VRs (ρG g) args args') :
    (∃ fn c, P.funcs[f]? = some fn ∧ fn.body = some c ∧ (fn.name == "runtime.NumGoroutine") = false) ∧ ∃ w', Keeps w w' ∧ ∀ cs, ∃ fr, Steps P (lone (Frame.enter P f ⟨args'⟩ .normal) cs w) (lone fr cs w') ∧ Ends P false f fr w' v := by
  have h := AG_sim hg hw
  obtain ⟨h0, v', w', ρ', k1, k2, k3, k4⟩ := (sound fa hmix n).2.2.2.1 false f args (AG g) v A' hr w.heap.size (ρG g) w args' h hR
  refine ⟨h0, w', ⟨fun B hB => k2.frame B hB (fun b L hb hL => ?_), k2.size, k2.os, k2.tape, k2.output⟩, fun cs => ?_⟩
  · obtain ⟨⟨cs, hc⟩, _⟩ := ρG_some hL
    have := (gList_mem hg hc).1
    omega
  · rw [plainC_inv hv k3] at k4
    exact k4 cs (fun q => by cases q)
theorem acall_keeps_calls {p : AP} {P : Program} (fa : Fa p P) (hmix : P.follows .mixedOrders = true) {n : Nat} {f : FuncId} {args : List Value} {g : List (Nat × List Value)} (hg : gList g = true) {A' : AW} {v : Value} (hr : acall p n false f args (AG g) = some (v, A')) (hv : plainC v = true) {w : World}
    (hw : ∀ b cs, (b, cs) ∈ g → b < w.heap.size ∧ ∀ (i : Nat) v, cs[i]? = some v → w.cell? ⟨b, i, none⟩ = some v) {args' : List Value} (hR : VRs (ρG g) args args') :
    Calls P f ⟨args'⟩ w (fun e w' => e = .returned v ∧ Keeps w w') := by
  obtain ⟨_, w', k1, k2⟩ := acall_keeps fa hmix hg hr hv hw hR
  intro cs
  obtain ⟨fr, s1, s2⟩ := k2 cs
  exact ⟨.returned v, w', fr, ⟨rfl, k1⟩, s1, s2.2.2.2.1, s2.leaving⟩

/-- A call without arguments whose outcome is known may be told to the interpreter. -/
theorem Fa.tell {p : AP} {P : Program} (fa : Fa p P) (hmix : P.follows .mixedOrders = true) (h0 : p.orc = .leaf) {n : Nat} {f : FuncId} {g : List (Nat × List Value)} (hg : gList g = true) {A' : AW} {v : Value} (hr : acall p n false f [] (AG g) = some (v, A')) (hv : plainC v = true) (hf : f ≤ lim) :
    Fa { p with orc := (Tr.leaf : Tr Value).set dep f v, glob := g } P := by
  refine ⟨fa.ty, fa.fn, fa.eqs, fun f' u hu => ?_⟩
  simp only at hu
  rw [get_set _ _ _ _ hf] at hu
  split at hu
  · rename_i e
    subst e
    injection hu with hu
    subst hu
    have key : ∀ base A ρ w, Sim base A ρ w → gOk A g = true → (∃ fn c, P.funcs[f']? = some fn ∧ fn.body = some c ∧ (fn.name == "runtime.NumGoroutine") = false) ∧ ∃ w', Keeps w w' ∧ ∀ cs, ∃ fr, Steps P (lone (Frame.enter P f' #[] .normal) cs w) (lone fr cs w') ∧ Ends P false f' fr w' v :=
      fun base A ρ w h hok => acall_keeps fa hmix hg hr hv (gOk_cells h hg hok) (VRs.nil _)
    refine ⟨hv, ?_, fun base A ρ w h hok => ?_⟩
    · -- the function is there
      cases n with
      | zero => unfold acall at hr; cases hr
      | succ n =>
        unfold acall at hr
        split at hr
        · rename_i x hx
          exfalso
          unfold orcK at hx
          simp only at hx
          rw [h0, get_leaf] at hx
          cases hx
        · split at hr
          · cases hr
          · rename_i fn hfn
            split at hr
            · cases hr
            · rename_i c hb
              obtain ⟨q1, q2⟩ := fa.fn f' fn hfn
              exact ⟨fn, c, q1, hb, q2⟩
    · obtain ⟨_, w', k1, k2⟩ := key base A ρ w h hok
      refine ⟨w', k1, fun cs => ?_⟩
      obtain ⟨fr, s1, s2, s3, s4, s5, s6⟩ := k2 cs
      exact ⟨fr, s1, s2, s3, s4, s5, s6⟩
  · rw [get_leaf] at hu; cases hu
end Go.AL
end

section
namespace Go.AL
open Go

/-! ## What the interpreter takes of a program, out of three closed equations -/
def oneAt {α : Type} (v : Option α) (b : Nat) : List (Nat × α) := match v with | none => [] | some x => [(b, x)]
noncomputable def gather {α : Type} : Tr α → Nat → Nat → List (Nat × α)
  | .leaf, _, _ => []
  | .node l v r, a, b => oneAt v b ++ (gather l (Nat.mul (nat_lit 2) a) (Nat.add a b) ++ gather r (Nat.mul (nat_lit 2) a) (Nat.add (Nat.mul (nat_lit 2) a) b))
theorem gather_mem {α : Type} : ∀ (t : Tr α) (a b k : Nat) (x : α), t.get k = some x → (a * k + b, x) ∈ gather t a b
  | .leaf, a, b, k, x, h => by rw [get_leaf] at h; cases h
  | .node l v r, a, b, k, x, h => by
    rw [get_node] at h
    show (a * k + b, x) ∈ oneAt v b ++ (gather l (2 * a) (a + b) ++ gather r (2 * a) (2 * a + b))
    by_cases h0 : k = 0
    · subst h0
      rw [if_pos rfl] at h
      subst h
      simp [oneAt]
    · rw [if_neg h0] at h
      by_cases h1 : k % 2 = 1
      · rw [if_pos h1] at h
        have := gather_mem l (2 * a) (a + b) (k / 2) x h
        have e : 2 * a * (k / 2) + (a + b) = a * k + b := by
          have hk : k = 2 * (k / 2) + 1 := by omega
          have h2 : a * k = a * (2 * (k / 2) + 1) := by rw [← hk]
          rw [h2, Nat.mul_add, Nat.mul_one, ← Nat.mul_assoc, Nat.mul_comm a 2]
          omega
        rw [e] at this
        exact List.mem_append_right _ (List.mem_append_left _ this)
      · rw [if_neg h1] at h
        have := gather_mem r (2 * a) (2 * a + b) (k / 2 - 1) x h
        have e : 2 * a * (k / 2 - 1) + (2 * a + b) = a * k + b := by
          have hk : k = 2 * (k / 2 - 1) + 2 := by omega
          have h2 : a * k = a * (2 * (k / 2 - 1) + 2) := by rw [← hk]
          rw [h2, Nat.mul_add, ← Nat.mul_assoc, Nat.mul_comm a 2]
          omega
        rw [e] at this
        exact List.mem_append_right _ (List.mem_append_right _ this)
def noBlank (d : Option TypeDesc) : Bool := match d with | some (.struct fs) => fs.toList.all (fun f => f.name != "_") | _ => true
theorem Fa.of_lists {p : AP} {P : Program} (h0 : p.orc = .leaf)
    (hF : (gather p.funcs 1 0).map (fun q => (P.funcs[q.1]?, q.2.name == "runtime.NumGoroutine")) = (gather p.funcs 1 0).map (fun q => (some q.2, false)))
    (hT : (gather p.types 1 0).map (fun q => (P.info? q.1, P.underlying q.1)) = (gather p.types 1 0).map (fun q => (some q.2.1, some q.2.2)))
    (hE : p.eqok.map (fun t => (P.stoodInHeld t, P.eqGuardType P.depth t, noBlank (P.underlying t))) = p.eqok.map (fun _ => (false, false, true))) : Fa p P := by
  refine ⟨fun t i d h => ?_, fun f fn h => ?_, fun t ht => ?_, fun f v h => ?_⟩
  · have hm := gather_mem p.types 1 0 t (i, d) h
    rw [Nat.one_mul, Nat.add_zero] at hm
    have := List.map_inj_left.1 hT _ hm
    injection this with h1 h2
    exact ⟨h1, h2⟩
  · have hm := gather_mem p.funcs 1 0 f fn h
    rw [Nat.one_mul, Nat.add_zero] at hm
    have := List.map_inj_left.1 hF _ hm
    injection this with h1 h2
    exact ⟨h1, h2⟩
  · have := List.map_inj_left.1 hE t ht
    injection this with h1 h2
    injection h2 with h2 h3
    refine ⟨h1, h2, fun fs hfs f hf e => ?_⟩
    rw [hfs] at h3
    have := List.all_eq_true.1 h3 f hf
    rw [e] at this
    simp at this
  · rw [h0, get_leaf] at h; cases h
end Go.AL
end
