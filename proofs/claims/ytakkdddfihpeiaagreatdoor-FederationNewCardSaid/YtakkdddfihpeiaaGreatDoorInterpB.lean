/- What the interpreter's operations come to: the model's operations do it. -/
import Derived.Test.YtakkdddfihpeiaaGreatDoorInterpA
import Derived.Laws.StructEq
import Derived.Laws.BytesArg
import Derived.MapKept
import Derived.Laws.IdiomStrings
import Derived.Laws.AppendOwn
set_option linter.all false

section
namespace Go.AL
open Go

/-! ## Parts of a value -/
theorem partA_run {p : AP} {P : Program} (fa : Fa p P) {ρ : Rho} {t : TypeId} {cs cs' : List Value} {off : Nat} {v : Value} (hR : VRs ρ cs cs') (h : partA p t cs off = some v) :
    ∃ v', VR ρ v v' ∧ ∀ w, (part t ⟨cs'⟩ off).run P w = .ok v' w := by
  unfold partA at h
  split at h
  · cases h
  · rename_i i d hg
    split at h
    · rename_i hd
      split at h
      · rename_i r hr
        injection h with h
        subst h
        obtain ⟨rfl, hlen⟩ := takeL_some _ _ _ hr
        rw [dropL_eq] at hlen ⊢
        refine ⟨.agg ⟨(cs'.drop off).take i.size⟩, .agg _ _ ((hR.drop off).take i.size).1 ((hR.drop off).take i.size).2, fun w => ?_⟩
        simp only [part, Sem.run_bind, run_aggD fa (under_of_get hg) w, hd, Result.andThen_ok, if_true, run_sizeI fa (info_of_get hg) w, Sem.run_pure]
        congr 2
        apply Array.ext'
        simp [List.extract_eq_take_drop]
      · cases h
    · rename_i hd
      rw [nthL_eq] at h
      obtain ⟨v', hv', hVR⟩ := hR.get? h
      refine ⟨v', hVR, fun w => ?_⟩
      have : (⟨cs'⟩ : Array Value)[off]? = some v' := by simpa using hv'
      simp only [part, Sem.run_bind, run_aggD fa (under_of_get hg) w, hd, Result.andThen_ok, Bool.false_eq_true, if_false, this, Sem.run_pure]

theorem VR.agg_inv {ρ : Rho} {a : Array Value} {v' : Value} (h : VR ρ (.agg a) v') : ∃ a', v' = .agg a' ∧ VRs ρ a.toList a'.toList := by
  cases h with
  | agg a a' h1 h2 => exact ⟨⟨a'⟩, rfl, h1, h2⟩

theorem hasN_mem : ∀ (l : List Nat) (n : Nat), hasN l n = true → n ∈ l
  | [], _, h => by cases h
  | x :: r, n, h => by
    unfold hasN at h
    split at h
    · rename_i e; rw [beq_true e]; exact List.mem_cons_self
    · exact List.mem_cons_of_mem _ (hasN_mem r n h)

/-- '==', as the interpreter answers it. -/
theorem eqA_run {p : AP} {P : Program} (fa : Fa p P) {ρ : Rho} : ∀ (d D : Nat), d ≤ D →
    (∀ t x y x' y' r, VR ρ x x' → VR ρ y y' → eqA p d false t [] [x] [y] = some r → ∀ w, (Op.equalIn D t x' y').run P w = .ok r w) ∧
    (∀ (t : TypeId) (fs : List Field) xs ys xs' ys' r, (∀ f ∈ fs, f.name ≠ "_") → VRs ρ xs xs' → VRs ρ ys ys' → eqA p d true t fs xs ys = some r → ∀ w, (Op.eqFields D ⟨xs'⟩ ⟨ys'⟩ fs).run P w = .ok r w)
  | 0, _, _ => ⟨fun _ _ _ _ _ _ _ _ h => (by simp only [eqA] at h; cases h), fun _ _ _ _ _ _ _ _ _ _ h => (by simp only [eqA] at h; cases h)⟩
  | d + 1, D, hD => by
    obtain ⟨D, rfl⟩ : ∃ D', D = D' + 1 := ⟨D - 1, by omega⟩
    have ih := eqA_run fa (ρ := ρ) d D (by omega)
    have ih' := eqA_run fa (ρ := ρ) d (D + 1) (by omega)
    refine ⟨fun t x y x' y' r hx hy h w => ?_, fun t fs xs ys xs' ys' r hfs hx hy h w => ?_⟩
    · simp only [eqA] at h
      split at h
      · rename_i hu
        cases hx; cases hy
        injection h with h
        rename_i a b
        simp only [Op.equalIn, Sem.run_bind, run_under fa hu w, Result.andThen_ok, Sem.run_pure]
        rw [← h]; cases a <;> cases b <;> rfl
      · rename_i hu
        cases hx; cases hy
        split at h
        · rename_i hk
          injection h with h
          simp only [Op.equalIn, Sem.run_bind, run_under fa hu w, Result.andThen_ok, ikEq_eq hk, if_true, Sem.run_pure, ← h, iEq_beq]
        · cases h
      · rename_i hu
        cases hx; cases hy
        injection h with h
        rename_i a b
        simp only [Op.equalIn, Sem.run_bind, run_under fa hu w, Result.andThen_ok, Sem.run_pure, ← h, beq_toListBytes, toList_beq]
      · rename_i hu
        cases hx; cases hy
        injection h with h
        simp [Op.equalIn, run_under fa hu w, ← h]
      · rename_i hu
        cases hx; cases hy <;> (injection h with h; simp [Op.equalIn, run_under fa hu w, ← h])
      · rename_i hu
        cases hy; cases hx <;> (injection h with h; simp [Op.equalIn, run_under fa hu w, ← h])
      · rename_i hu
        cases hx; cases hy
        injection h with h
        simp [Op.equalIn, run_under fa hu w, ← h]
      · rename_i hu
        cases hx; cases hy <;> (injection h with h; simp [Op.equalIn, run_under fa hu w, ← h])
      · rename_i hu
        cases hy; cases hx <;> (injection h with h; simp [Op.equalIn, run_under fa hu w, ← h])
      · rename_i hu
        cases hx; cases hy
        injection h with h
        simp [Op.equalIn, run_under fa hu w, ← h]
      · rename_i hu
        cases hx; cases hy
        injection h with h
        simp [Op.equalIn, run_under fa hu w, ← h]
      · rename_i hu
        cases hx; cases hy
        injection h with h
        simp [Op.equalIn, run_under fa hu w, ← h]
      · rename_i fs a b hu
        split at h
        · rename_i hm
          obtain ⟨a', rfl, ha⟩ := hx.agg_inv
          obtain ⟨b', rfl, hb⟩ := hy.agg_inv
          obtain ⟨h1, _, h3⟩ := fa.eqs t (hasN_mem _ _ hm)
          have hF : P.fieldsOf t = fs := by unfold Program.fieldsOf; rw [fa.under hu]
          rw [run_equalIn_struct w D t a' b' (by rw [hF]; exact fa.under hu) h1, hF]
          exact ih.2 t fs.toList a.toList b.toList a'.toList b'.toList r (h3 fs (fa.under hu)) ha hb h w
        · cases h
      · cases h
    · cases fs with
      | nil =>
        simp only [eqA] at h
        injection h with h
        simp [Op.eqFields, ← h]
      | cons f fs =>
        simp only [eqA] at h
        split at h
        · rename_i x y hpx hpy
          obtain ⟨x', hx', hrx⟩ := partA_run fa hx hpx
          obtain ⟨y', hy', hry⟩ := partA_run fa hy hpy
          simp only [Op.eqFields]
          rw [if_pos (hfs f List.mem_cons_self)]
          simp only [Sem.run_bind, hrx, hry, Result.andThen_ok]
          split at h
          · rename_i he
            rw [ih'.1 _ _ _ _ _ _ hx' hy' he w]
            simp only [Result.andThen_ok, Bool.not_true, Bool.false_eq_true, if_false]
            exact ih'.2 t fs xs ys xs' ys' r (fun f hf => hfs f (List.mem_cons_of_mem _ hf)) hx hy h w
          · rename_i hne
            cases he : eqA p d false f.type [] [x] [y] with
            | none => rw [he] at h; cases h
            | some q =>
              cases q with
              | true => exact absurd he hne
              | false =>
                rw [he] at h
                injection h with h
                rw [ih'.1 _ _ _ _ _ _ hx' hy' he w]
                simp [← h]
        · cases h

/-- What an operation gives, whatever the world. -/
def Pu (P : Program) (ρ : Rho) (s : Sem Value) (v : Value) : Prop := ∃ v', VR ρ v v' ∧ ∀ w, s.run P w = .ok v' w

theorem iNat_some {b : Int} {n : Nat} (h : iNat b = some n) : b = (n : Int) := by
  cases b with
  | ofNat m => injection h with h; subst h; rfl
  | negSucc m => cases h
theorem binA_run {p : AP} {P : Program} (fa : Fa p P) {ρ : Rho} {op : BinOp} {t : TypeId} {x y x' y' v : Value} (hx : VR ρ x x') (hy : VR ρ y y') (h : binA p op t x y = some v) : Pu P ρ (binOp op t x' y') v := by
  unfold binA at h
  split at h
  · cases hx; cases hy
    rename_i k a k' b
    split at h
    · split at h
      · rename_i n hn
        injection h with h; subst h
        obtain rfl := iNat_some hn
        have hnn : ¬ ((n : Int) < 0) := by omega
        exact ⟨_, .int _ _, fun w => by simp [binOp, Op.shift, hnn]⟩
      · cases h
    · split at h
      · rename_i n hn
        injection h with h; subst h
        obtain rfl := iNat_some hn
        have hnn : ¬ ((n : Int) < 0) := by omega
        exact ⟨_, .int _ _, fun w => by simp [binOp, Op.shift, hnn]⟩
      · cases h
    · split at h
      · rename_i hk
        obtain rfl := ikEq_eq hk
        obtain ⟨h1, h2⟩ := intOp_run (P := P) t ρ h
        exact ⟨v, h1, h2⟩
      · cases h
  · cases hx; cases hy
    obtain ⟨h1, h2⟩ := strOp_run (P := P) t ρ h
    exact ⟨v, h1, h2⟩
  · rename_i hni hns
    split at h
    · split at h
      · rename_i r hr
        injection h with h; subst h
        refine ⟨_, .bool r, fun w => ?_⟩
        have := (eqA_run fa (ρ := ρ) 60 Op.maxDepth (by decide)).1 t x y x' y' r hx hy hr w
        have hrun : (binOp .eql t x' y').run P w = ((Op.equal t x' y').run P w).andThen fun b w' => .ok (.bool b) w' := by
          cases hx <;> cases hy <;> first
            | (exfalso; exact hni _ _ _ _ rfl rfl)
            | (exfalso; exact hns _ _ rfl rfl)
            | (simp only [binOp, Sem.run_bind, Sem.run_pure]; done)
        rw [hrun, Op.equal, this]; rfl
      · cases h
    · split at h
      · rename_i r hr
        injection h with h; subst h
        refine ⟨_, .bool _, fun w => ?_⟩
        have := (eqA_run fa (ρ := ρ) 60 Op.maxDepth (by decide)).1 t x y x' y' r hx hy hr w
        have hrun : (binOp .neq t x' y').run P w = ((Op.equal t x' y').run P w).andThen fun b w' => .ok (.bool (!b)) w' := by
          cases hx <;> cases hy <;> first
            | (exfalso; exact hni _ _ _ _ rfl rfl)
            | (exfalso; exact hns _ _ rfl rfl)
            | (simp only [binOp, Sem.run_bind, Sem.run_pure]; done)
        rw [hrun, Op.equal, this, notB_eq]; rfl
      · cases h
    · cases h
theorem eqA_agg {p : AP} {t : TypeId} {a b : Array Value} {r : Bool} (h : eqA p 60 false t [] [.agg a] [.agg b] = some r) : hasN p.eqok t = true := by
  simp only [eqA] at h
  split at h <;> first
    | (rename_i h1 h2; cases h1; done)
    | skip
  all_goals first
    | (split at h
       · assumption
       · cases h)
    | (cases h; done)
    | skip
theorem eqGuard_run {p : AP} {P : Program} (fa : Fa p P) {ρ : Rho} {op : BinOp} {t : TypeId} {xo yo : Operand} {x y x' y' v : Value} (hx : VR ρ x x') (hy : VR ρ y y') (h : binA p op t x y = some v)
    (hg : andB (andB (isNilI x) (isNilI y)) (notB (orB (isConstO xo) (isConstO yo))) = false) (w : World) : (eqGuard op t xo yo x' y').run P w = .ok () w := by
  by_cases ho : op = .eql ∨ op = .neq
  · have key : ∀ a b, x' = .agg a → y' = .agg b → P.eqGuardType P.depth t = false := by
      intro a b e1 e2
      subst e1 e2
      cases hx; cases hy
      refine (fa.eqs t (hasN_mem _ _ ?_)).2.1
      rcases ho with rfl | rfl <;> simp only [binA] at h <;> (split at h <;> first | (rename_i hr; exact eqA_agg hr) | cases h)
    have hk : ∀ (a b : Operand), notB (orB (isConstO a) (isConstO b)) = false → ((match a with | .const _ => true | _ => false) || (match b with | .const _ => true | _ => false)) = true := by
      intro a b; cases a <;> cases b <;> simp [notB, orB, isConstO]
    have go : (match (generalizing := false) x', y' with
        | Value.nilIface, Value.nilIface =>
          if ((match (generalizing := false) xo with | .const _ => true | _ => false) || (match (generalizing := false) yo with | .const _ => true | _ => false)) = true then (pure () : Sem Unit)
          else do
            if ← Op.eqGuardIn Op.maxDepth t x' y' then unsupported (.noEntry "binop/eql: two nil values of an interface type with methods, neither of them the literal nil")
        | .agg _, .agg _ => do
          if !(← program).eqGuardType (← program).depth t then pure ()
          else if ← Op.eqGuardIn Op.maxDepth t x' y' then unsupported (.noEntry "binop/eql: two nil values of an interface type with methods, in a part of a struct or an array")
        | _, _ => pure ()).run P w = .ok () w := by
      split
      · cases hx; cases hy
        have h0 : ((match (generalizing := false) xo with | .const _ => true | _ => false) || (match (generalizing := false) yo with | .const _ => true | _ => false)) = true := hk xo yo hg
        rw [if_pos h0]; rfl
      · rename_i a b
        simp [key a b rfl rfl]
      · rfl
    rcases ho with rfl | rfl <;> exact go
  · cases op <;> first | (exfalso; exact ho (.inl rfl)) | (exfalso; exact ho (.inr rfl)) | rfl
end Go.AL
end

section
namespace Go.AL
open Go

theorem Pu.intro {P : Program} {ρ : Rho} {s : Sem Value} {v v' : Value} (h : VR ρ v v') (k : ∀ w, s.run P w = .ok v' w) : Pu P ρ s v := ⟨v', h, k⟩

/-! ## Slicing -/
theorem boundA_run {P : Program} {ρ : Rho} {v v' : Value} {y y' n : Nat} (hv : VR ρ v v') (h : boundA v y = some n) (hy : y ≤ y') (c : BoundsCode) (w : World) : (Instr.sliceBound v' y' c).run P w = .ok n w ∧ n ≤ y := by
  unfold boundA at h
  split at h
  · split at h
    · rename_i k m _ hm
      injection h with h; subst h
      cases hv
      have := ble_true hm
      have h1 : (0 : Int) ≤ (m : Int) ∧ (m : Int) ≤ (y' : Int) := by omega
      refine ⟨?_, this⟩
      simp only [Instr.sliceBound, asIntOf, Sem.run_bind, Sem.run_pure, Result.andThen_ok]
      rw [if_pos (by exact h1)]
      rfl
    · cases h
  · cases h

/-- Two operands that may lack. -/
def VRO (ρ : Rho) : Option Value → Option Value → Prop
  | none, none => True
  | some v, some v' => VR ρ v v'
  | _, _ => False
theorem VRO.none_l {ρ : Rho} {b : Option Value} (h : VRO ρ none b) : b = none := by cases b with | none => rfl | some v => cases h
theorem VRO.some_l {ρ : Rho} {v : Value} {b : Option Value} (h : VRO ρ (some v) b) : ∃ v', b = some v' ∧ VR ρ v v' := by cases b with | none => cases h | some v' => exact ⟨v', rfl, h⟩

theorem sliceBds_run {P : Program} {ρ : Rho} {len cap cap' : Nat} {lo hi mx lo' hi' mx' : Option Value} (h1 : VRO ρ lo lo') (h2 : VRO ρ hi hi') (h3 : VRO ρ mx mx') {l h m : Nat} (hc : cap ≤ cap') (hl : len ≤ cap)
    (e : sliceBds len cap lo hi mx = some (l, h, m)) (isS : Bool) (w : World) :
    l ≤ h ∧ h ≤ m ∧ m ≤ cap ∧ (mx = none → m = cap) ∧ (Instr.sliceBounds isS len cap' lo' hi' mx').run P w = .ok (l, h, if mx.isSome then m else cap') w := by
  unfold sliceBds at e
  split at e
  · cases e
  · rename_i m0 hm0
    have hm : m0 ≤ cap ∧ (mx = none → m0 = cap) ∧ (match mx' with | some v => Instr.sliceBound v cap' (if isS then .slice3Acap else .slice3Alen) | none => pure cap').run P w = .ok (if mx.isSome then m0 else cap') w := by
      cases mx with
      | none =>
        rw [h3.none_l]
        injection hm0 with hm0
        subst hm0
        exact ⟨Nat.le_refl _, fun _ => rfl, rfl⟩
      | some v =>
        obtain ⟨v', rfl, hv⟩ := h3.some_l
        obtain ⟨g1, g2⟩ := boundA_run (P := P) hv hm0 hc (if isS then .slice3Acap else .slice3Alen) w
        exact ⟨g2, fun e => (by cases e), g1⟩
    split at e
    · cases e
    · rename_i h0 hh0
      split at e
      · cases e
      · rename_i l0 hl0
        injection e with e
        injection e with e1 e2
        injection e2 with e2 e3
        subst e1 e2 e3
        have hmc : m0 ≤ (if mx.isSome then m0 else cap') := by split <;> omega
        have hh : h0 ≤ m0 ∧ (match hi', mx' with
            | some v, some _ => Instr.sliceBound v (if mx.isSome then m0 else cap') .slice3B
            | some v, none => Instr.sliceBound v (if mx.isSome then m0 else cap') (if isS then .sliceAcap else .sliceAlen)
            | none, none => pure len
            | none, some _ => stuck "Slice: max without high").run P w = .ok h0 w := by
          cases hi with
          | none =>
            rw [h2.none_l]
            cases mx with
            | none =>
              rw [h3.none_l]
              injection hh0 with hh0
              subst hh0
              have := hm.2.1 rfl
              exact ⟨by omega, rfl⟩
            | some v => cases hh0
          | some u =>
            obtain ⟨u', rfl, hu⟩ := h2.some_l
            cases mx with
            | none =>
              rw [h3.none_l]
              obtain ⟨g1, g2⟩ := boundA_run (P := P) hu hh0 hmc (if isS then .sliceAcap else .sliceAlen) w
              exact ⟨g2, g1⟩
            | some v =>
              obtain ⟨v', rfl, hv⟩ := h3.some_l
              obtain ⟨g1, g2⟩ := boundA_run (P := P) hu hh0 hmc .slice3B w
              exact ⟨g2, g1⟩
        have hll : l0 ≤ h0 ∧ (match lo' with | some v => Instr.sliceBound v h0 (if mx'.isSome then .slice3C else .sliceB) | none => pure 0).run P w = .ok l0 w := by
          cases lo with
          | none =>
            rw [h1.none_l]
            injection hl0 with hl0
            subst hl0
            exact ⟨Nat.zero_le _, rfl⟩
          | some u =>
            obtain ⟨u', rfl, hu⟩ := h1.some_l
            obtain ⟨g1, g2⟩ := boundA_run (P := P) hu hl0 (Nat.le_refl _) (if mx'.isSome then .slice3C else .sliceB) w
            exact ⟨g2, g1⟩
        refine ⟨hll.1, hh.1, hm.1, hm.2.1, ?_⟩
        unfold Instr.sliceBounds
        have a1 := hm.2.2
        have a2 := hh.2
        have a3 := hll.2
        clear hm hh hll
        have fin : ∀ (m' : Nat) (A : Sem Nat) (B C : Nat → Sem Nat), A.run P w = .ok m' w → (B m').run P w = .ok h0 w → (C h0).run P w = .ok l0 w →
            (do let m ← A; let h ← B m; let l ← C h; pure (l, h, m) : Sem (Nat × Nat × Nat)).run P w = .ok (l0, h0, m') w := by
          intro m' A B C e1 e2 e3
          simp only [Sem.run_bind, e1, e2, e3, Result.andThen_ok, Sem.run_pure]
        cases mx' <;> cases hi' <;> cases lo' <;> dsimp only at a1 a2 a3 ⊢ <;> first
          | exact fin _ (pure cap') (fun _ => pure len) (fun _ => pure 0) a1 a2 a3
          | exact fin _ (pure cap') (fun _ => pure len) (fun h => Instr.sliceBound _ h _) a1 a2 a3
          | exact fin _ (pure cap') (fun m => Instr.sliceBound _ m _) (fun _ => pure 0) a1 a2 a3
          | exact fin _ (pure cap') (fun m => Instr.sliceBound _ m _) (fun h => Instr.sliceBound _ h _) a1 a2 a3
          | exact fin _ (Instr.sliceBound _ cap' _) (fun m => Instr.sliceBound _ m _) (fun _ => pure 0) a1 a2 a3
          | exact fin _ (Instr.sliceBound _ cap' _) (fun m => Instr.sliceBound _ m _) (fun h => Instr.sliceBound _ h _) a1 a2 a3
          | (rw [run_stuck] at a2; cases a2)
theorem VR.slice_inv {ρ : Rho} {a : Addr} {n c : Nat} {v' : Value} (h : VR ρ (.slice (some a) n c) v') (hg : isGhost a.spot = false) :
    ∃ L c', ρ a.block = some L ∧ v' = .slice (some ⟨L.B, L.O + a.off, none⟩) n c' ∧ n ≤ c ∧ c ≤ c' ∧ (a.spot = none → c' = c) ∧ (∀ k, a.spot = some k → k ≠ 2 ∧ a.off + c' * (k - 3) ≤ L.Z) := by
  cases h with
  | sl b o n c L hb h0 => exact ⟨L, c, hb, rfl, h0, Nat.le_refl _, fun _ => rfl, fun k hk => by cases hk⟩
  | slx b o k n c c' L hb h0 h1 h2 h3 => exact ⟨L, c', hb, rfl, h0, h2, fun e => (by cases e), fun q hq => by injection hq with hq; subst hq; exact ⟨h1, h3⟩⟩
  | slg => cases hg

theorem addr_add (b o n : Nat) : (⟨b, o, none⟩ : Addr).add n = ⟨b, o + n, none⟩ := Addr.add_mid b o n
theorem addS_off (a : Addr) (n : Nat) : (addS a n).block = a.block ∧ (addS a n).off = a.off + n ∧ (addS a n).spot = a.spot := by cases a; exact ⟨rfl, rfl, rfl⟩

/-- An exact slice, cut. -/
theorem addrS_VR {ρ : Rho} {a : Addr} {L : Loc} (hb : ρ a.block = some L) (l hh m s : Nat) (keep : Bool) (hk : keep = true → a.spot = none) (h1 : l ≤ hh) (h2 : hh ≤ m) :
    VR ρ (.slice (some (addrS a l m s keep)) (Nat.sub hh l) (Nat.sub m l)) (.slice (if m = l then some ⟨L.B, L.O + a.off, none⟩ else some ⟨L.B, L.O + a.off + l * s, none⟩) (hh - l) (m - l)) := by
  have hle : hh - l ≤ m - l := by omega
  obtain ⟨b, o, sp⟩ := a
  unfold addrS
  cases hm : Nat.beq m l with
  | true =>
    have := beq_true hm
    rw [if_pos this]
    cases keep with
    | true => have := hk rfl; simp only at this; subst this; exact .sl b o _ _ L hb hle
    | false => exact .sl b (o + 0) _ _ L hb hle
  | false =>
    have := beq_false hm
    rw [if_neg this, Nat.add_assoc]
    cases keep with
    | true => have := hk rfl; simp only at this; subst this; exact .sl b (o + l * s) _ _ L hb hle
    | false => exact .sl b (o + l * s) _ _ L hb hle

theorem sliceOp_run {p : AP} {P : Program} (fa : Fa p P) {ρ : Rho} {t : TypeId} {x x' v : Value} {lo hi mx lo' hi' mx' : Option Value} (hx : VR ρ x x') (h1 : VRO ρ lo lo') (h2 : VRO ρ hi hi') (h3 : VRO ρ mx mx')
    (h : sliceOp p t x lo hi mx = some v) : Pu P ρ (Instr.sliceAt t x' lo' hi' mx') v := by
  unfold sliceOp at h
  split at h
  · rename_i s hu
    cases hx
    split at h
    · cases h
    · obtain rfl := h3.none_l
      split at h
      · rename_i l hh m hb
        split at h
        · rename_i r hr
          injection h with h; subst h
          obtain ⟨rfl, hlen⟩ := takeL_some _ _ _ hr
          rw [llen0] at hb
          refine ⟨_, .str _, fun w => ?_⟩
          obtain ⟨g1, g2, g3, g4, g5⟩ := sliceBds_run (P := P) h1 h2 (show VRO ρ none none from trivial) (Nat.le_refl _) (Nat.le_refl _) hb false w
          have hs : s.data.toList.length = s.size := Array.length_toList
          rw [hs] at g5
          simp only [Option.isSome_none, Bool.false_eq_true, if_false] at g5
          have he : s.extract l hh = ⟨⟨(dropL s.data.toList l).take (Nat.sub hh l)⟩⟩ := by
            have : (s.extract l hh).data = ⟨(dropL s.data.toList l).take (Nat.sub hh l)⟩ := by
              rw [ByteArray.data_extract, dropL_eq]
              apply Array.ext'
              simp [List.extract_eq_take_drop]
            cases hq : s.extract l hh
            rw [hq] at this
            rw [← this]
          simp only [Instr.sliceAt, Instr.slice, Sem.run_bind, run_under fa hu w, Result.andThen_ok, Option.isSome_none, Bool.false_eq_true, if_false, g5, he, Sem.run_pure]
        · cases h
      · cases h
  · rename_i e a n c hu
    split at h
    · rename_i gi l hh m hg hb
      split at h
      · -- no address
        injection h with h; subst h
        cases hx
        have g := fun w => sliceBds_run (P := P) h1 h2 h3 (Nat.le_refl _) (Nat.le_refl _) hb true w
        obtain ⟨g1, g2, g3, g4, _⟩ := g default
        have hm0 : m = 0 := by omega
        have hh0 : hh = 0 := by omega
        have hl0 : l = 0 := by omega
        subst hm0 hh0 hl0
        refine ⟨.slice none 0 0, .sl0, fun w => ?_⟩
        have g5 := (g w).2.2.2.2
        have : (if mx.isSome = true then 0 else 0 : Nat) = 0 := by split <;> rfl
        rw [this] at g5
        simp only [Instr.sliceAt, Instr.slice, Sem.run_bind, run_under fa hu w, Result.andThen_ok, g5, run_sizeI fa hg w, if_true, Sem.run_pure]
      · rename_i a
        split at h
        · cases h
        · rename_i hgh
          obtain ⟨L, c', hb', rfl, hn, hc, hc1, hc2⟩ := hx.slice_inv hgh
          have g := fun w => sliceBds_run (P := P) h1 h2 h3 hc hn hb true w
          obtain ⟨g1, g2, g3, g4, _⟩ := g default
          have hrun : ∀ (M : Nat), (if mx.isSome = true then m else c') = M → ∀ w, (Instr.sliceAt t (.slice (some ⟨L.B, L.O + a.off, none⟩) n c') lo' hi' mx').run P w =
              .ok (.slice (if M = l then some ⟨L.B, L.O + a.off, none⟩ else some ⟨L.B, L.O + a.off + l * gi.size, none⟩) (hh - l) (M - l)) w := by
            intro M hM w
            have g5 := (g w).2.2.2.2
            rw [hM] at g5
            simp only [Instr.sliceAt, Instr.slice, Sem.run_bind, run_under fa hu w, Result.andThen_ok, g5, run_sizeI fa hg w, Sem.run_pure, Option.map_some, addr_add]
          cases hsp : a.spot with
          | none =>
            rw [hsp] at h
            dsimp only at h
            injection h with h; subst h
            have hcc := hc1 hsp
            subst hcc
            have hM : (if mx.isSome = true then m else c') = m := by
              cases mx with
              | none => exact (g4 rfl).symm
              | some _ => rfl
            exact ⟨_, addrS_VR hb' l hh m gi.size true (fun _ => hsp) g1 g2, hrun m hM⟩
          | some k =>
           rw [hsp] at h
           obtain ⟨hk1, hk2⟩ := hc2 k hsp
           cases mx with
           | none =>
            dsimp only at h
            have hmc := g4 rfl
            subst hmc
            split at h
            · rename_i hml
              have hml := beq_true hml
              injection h with h; subst h
              have hhl : hh - l = 0 := by omega
              refine ⟨_, ?_, hrun c' rfl⟩
              rw [hhl]
              split
              · exact .slg _ 0 _ (Nat.zero_le _)
              · exact .slg _ 0 _ (Nat.zero_le _)
            · rename_i hml
              have hml := beq_false hml
              split at h
              · rename_i hks
                have hks : k = gi.size + 3 := beq_true hks
                injection h with h; subst h
                refine ⟨_, ?_, hrun c' rfl⟩
                rw [if_neg (by omega)]
                obtain ⟨b, o, sp⟩ := a
                simp only at hsp hb' hk2
                subst hsp
                rw [Nat.add_assoc]
                refine .slx b (o + l * gi.size) k (hh - l) (m - l) (c' - l) L hb' (by omega) hk1 (by omega) ?_
                have h3 : k - 3 = gi.size := by omega
                rw [h3] at hk2 ⊢
                have : l * gi.size + (c' - l) * gi.size = c' * gi.size := by rw [← Nat.add_mul]; congr 1; omega
                omega
              · cases h
           | some vm =>
            dsimp only at h
            injection h with h; subst h
            exact ⟨_, addrS_VR hb' l hh m gi.size false (fun e => by cases e) g1 g2, hrun m rfl⟩
    · cases h
  · rename_i n e a hu
    split at h
    · rename_i gi l hh m hg hb
      injection h with h; subst h
      split at hb
      · rename_i h100
        have h100 := ble_true h100
        cases hx with
        | ptrg b o hlt => exact absurd h100 (by simp only; omega)
        | ptr b o L hb' =>
          have g := fun w => sliceBds_run (P := P) h1 h2 h3 (Nat.le_refl _) (Nat.le_refl _) hb false w
          obtain ⟨g1, g2, g3, g4, _⟩ := g default
          have hM : (if mx.isSome = true then m else n) = m := by
            cases mx with
            | none => exact (g4 rfl).symm
            | some _ => rfl
          refine ⟨_, addrS_VR (a := ⟨b, o, none⟩) hb' l hh m gi.size false (fun e => by cases e) g1 g2, fun w => ?_⟩
          have g5 := (g w).2.2.2.2
          rw [hM] at g5
          simp only [Instr.sliceAt, Instr.sureAddr, Sem.run_bind, run_under fa hu w, Result.andThen_ok, g5, run_sizeI fa hg w, Sem.run_pure, addr_add]
          split <;> rfl
      · cases hb
    · cases h
  · cases h
end Go.AL
end

section
namespace Go.AL
open Go

theorem VR.ptr_add {ρ : Rho} {a : Addr} {v' : Value} (h : VR ρ (.pointer (some a)) v') : ∃ a', v' = .pointer (some a') ∧ ∀ n, VR ρ (.pointer (some (addP a n))) (.pointer (some (a'.add n))) := by
  cases h with
  | ptr b o L hb => exact ⟨_, rfl, fun n => by rw [addr_add, Nat.add_assoc]; exact .ptr b (o + n) L hb⟩
  | ptrg b o hb => exact ⟨_, rfl, fun n => by rw [addr_add]; exact .ptrg b (o + n) hb⟩

theorem indexAddrA_run {p : AP} {P : Program} (fa : Fa p P) {ρ : Rho} {t : TypeId} {x x' i i' v : Value} (hx : VR ρ x x') (hi : VR ρ i i') (h : indexAddrA p t x i = some v) : Pu P ρ (Instr.indexAt t x' i') v := by
  unfold indexAddrA at h
  split at h
  · rename_i k i
    cases hi
    split at h
    · rename_i n e a hu
      split at h
      · rename_i g hg
        split at h
        · rename_i hlt
          have hlt := ble_true hlt
          injection h with h; subst h
          obtain ⟨a', rfl, ha⟩ := hx.ptr_add
          refine ⟨_, ha _, fun w => ?_⟩
          have hc : (0 : Int) ≤ (i : Int) ∧ (i : Int) < (n : Int) := by omega
          simp only [Instr.indexAt, asIntOf, Sem.run_bind, Sem.run_pure, run_under fa hu w, Result.andThen_ok, Instr.sureAddr]
          rw [if_pos (by exact hc)]
          simp only [Sem.run_bind, run_sizeI fa hg w, Result.andThen_ok, Sem.run_pure]
          rfl
        · cases h
      · cases h
    · rename_i e a n c hu
      split at h
      · rename_i g hg hgh
        split at h
        · rename_i hlt
          have hlt := ble_true hlt
          injection h with h; subst h
          obtain ⟨L, c', hb', rfl, hn, hc, hc1, hc2⟩ := hx.slice_inv hgh
          have hcc : (0 : Int) ≤ (i : Int) ∧ (i : Int) < (n : Int) := by omega
          refine ⟨.pointer (some ⟨L.B, L.O + (a.off + i * g.size), none⟩), ?_, fun w => ?_⟩
          · obtain ⟨b, o, sp⟩ := a
            exact .ptr b (o + i * g.size) L hb'
          · simp only [Instr.indexAt, asIntOf, Sem.run_bind, Sem.run_pure, run_under fa hu w, Result.andThen_ok]
            rw [if_pos (by exact hcc)]
            simp only [Sem.run_bind, run_sizeI fa hg w, Result.andThen_ok, Sem.run_pure, addr_add, Nat.add_assoc]
            rfl
        · cases h
      · cases h
    · cases h
  · cases h

theorem fieldAddr_run {p : AP} {P : Program} (fa : Fa p P) {ρ : Rho} {A : AW} {s : TypeId} {x x' : Value} {k : Nat} {r : R} (hx : VR ρ x x') (h : opFieldAddr p A s x k = some r) : ∃ v, r = .val v A ∧ Pu P ρ (Instr.fieldAt s x' k) v := by
  unfold opFieldAddr at h
  split at h
  · rename_i fs hu
    split at h
    · rename_i f hf
      rw [nthL_eq] at hf
      split at h
      · rename_i g a hg
        split at h
        · cases h
        · rename_i hz
          have hz := beq_false hz
          injection h with h; subst h
          obtain ⟨a', rfl, ha⟩ := hx.ptr_add
          refine ⟨_, rfl, _, ha f.offset, fun w => ?_⟩
          have hf' : fs[k]? = some f := by simpa using hf
          simp only [Instr.fieldAt, Sem.run_bind, run_under fa hu w, Result.andThen_ok, hf', Instr.sureAddr, Sem.run_pure, fieldPlace, run_sizeI fa hg w]
          rw [if_neg hz]
          rfl
      · cases h
    · cases h
  · cases h

theorem field_run {p : AP} {P : Program} (fa : Fa p P) {ρ : Rho} {A : AW} {t : TypeId} {x x' : Value} {k : Nat} {r : R} (hx : VR ρ x x') (h : opField p A t x k = some r) : ∃ v, r = .val v A ∧ Pu P ρ (Instr.field t x' k) v := by
  unfold opField at h
  split at h
  · rename_i fs hu
    split at h
    · rename_i f cs hf
      rw [nthL_eq] at hf
      obtain ⟨a', rfl, ha⟩ := hx.agg_inv
      unfold valO at h
      split at h
      · rename_i v hv
        injection h with h; subst h
        obtain ⟨v', hv', hrun⟩ := partA_run fa ha hv
        have hf' : fs[k]? = some f := by simpa using hf
        exact ⟨v, rfl, v', hv', fun w => by simp only [Instr.field, Sem.run_bind, run_under fa hu w, Result.andThen_ok, hf', asAgg, Sem.run_pure]; exact hrun w⟩
      · cases h
    · cases h
  · cases h

theorem index_run {p : AP} {P : Program} (fa : Fa p P) {ρ : Rho} {A : AW} {t : TypeId} {x x' i i' : Value} {r : R} (hx : VR ρ x x') (hi : VR ρ i i') (h : opIndex p A t x i = some r) : ∃ v, r = .val v A ∧ Pu P ρ (Instr.index t x' i') v := by
  unfold opIndex at h
  split at h
  · rename_i k i
    cases hi
    split at h
    · rename_i s hu
      cases hx
      split at h
      · rename_i b hb
        rw [nthL_eq] at hb
        injection h with h; subst h
        refine ⟨_, rfl, _, .int .u8 _, fun w => ?_⟩
        have hs : s[i]? = some b := by
          have h1 : i < s.data.toList.length := (List.getElem?_eq_some_iff.1 hb).1
          have h2 : i < s.size := by rw [Array.length_toList] at h1; exact h1
          rw [getElem?_pos s i h2]
          congr 1
          have := (List.getElem?_eq_some_iff.1 hb).2
          rw [← this]; rfl
        simp only [Instr.index, asIntOf, Sem.run_bind, Sem.run_pure, run_under fa hu w, Result.andThen_ok]
        have h0 : (0 : Int) ≤ Int.ofNat i := Int.natCast_nonneg i
        rw [if_pos h0]
        show (match s[i]? with | some b => _ | none => _ : Sem Value).run P w = _
        rw [hs]
        rfl
      · cases h
    · cases h
  · cases h

theorem extract_run {P : Program} {ρ : Rho} {A : AW} {k : Nat} {t t' : Value} {r : R} (hx : VR ρ t t') (h : opExtract A k t = some r) : ∃ v, r = .val v A ∧ Pu P ρ (Instr.extract t' k) v := by
  unfold opExtract at h
  split at h
  · rename_i vs
    unfold valO at h
    split at h
    · rename_i v hv
      injection h with h; subst h
      rw [nthL_eq] at hv
      cases hx with
      | tuple a a' h1 h2 =>
        obtain ⟨v', hv', hVR⟩ := VRs.get? ⟨h1, h2⟩ hv
        refine ⟨v, rfl, v', hVR, fun w => ?_⟩
        have : (⟨a'⟩ : Array Value)[k]? = some v' := by simpa using hv'
        simp only [Instr.extract, this, Sem.run_pure]
    · cases h
  · cases h

theorem assertA_run {p : AP} {P : Program} (fa : Fa p P) {ρ : Rho} {x x' v : Value} {xt t : TypeId} {ok : Bool} (hx : VR ρ x x') (h : assertA p x t ok = some v) : Pu P ρ (Instr.typeAssert x' xt t ok) v := by
  have two : ∀ {a a' : Value} (b : Bool), VR ρ a a' → VR ρ (.tuple #[a, .bool b]) (.tuple #[a', .bool b]) := fun b ha => .tuple [_, _] [_, _] rfl (VRs.cons ha (VRs.cons (.bool b) (VRs.nil ρ))).2
  unfold assertA at h
  split at h
  · cases h
  · cases h
  · rename_i i d hni hg
    have hu := under_of_get hg
    have hno : ∀ ms, d ≠ .interface ms := fun ms e => by subst e; first | exact hni _ rfl | exact hni _ _ rfl | exact hni _ hg
    split at h
    · cases hx
      split at h
      · rename_i z hz
        split at h
        · rename_i hp
          injection h with h; subst h
          refine ⟨_, two false (zero_VR ρ hp), fun w => ?_⟩
          cases d <;> first | (exfalso; exact hno _ rfl) | simp [Instr.typeAssert, run_under fa hu w, run_zeroI fa (info_of_get hg) hz w]
        · cases h
      · cases h
    · rename_i u vv
      cases hx with
      | iface _ _ v1 hv =>
      split at h
      · rename_i hut
        obtain rfl := beq_true hut
        injection h with h; subst h
        cases ok with
        | true =>
          refine ⟨_, two true hv, fun w => ?_⟩
          cases d <;> first | (exfalso; exact hno _ rfl) | simp [Instr.typeAssert, run_under fa hu w]
        | false =>
          refine ⟨_, hv, fun w => ?_⟩
          cases d <;> first | (exfalso; exact hno _ rfl) | simp [Instr.typeAssert, run_under fa hu w]
      · rename_i hut
        have hut := beq_false hut
        split at h
        · rename_i z hz
          split at h
          · rename_i hp
            injection h with h; subst h
            refine ⟨_, two false (zero_VR ρ hp), fun w => ?_⟩
            cases d <;> first | (exfalso; exact hno _ rfl) | simp [Instr.typeAssert, run_under fa hu w, run_zeroI fa (info_of_get hg) hz w, hut]
          · cases h
        · cases h
    · cases h
end Go.AL
end

section
namespace Go.AL
open Go

theorem foldl_set (off : Nat) : ∀ (vs : List Value) (s : Nat) (arr : Array Value),
    ((vs.zipIdx s).foldl (fun cs (x : Value × Nat) => cs.setIfInBounds (off + x.2) x.1) arr).size = arr.size ∧
    ∀ i, ((vs.zipIdx s).foldl (fun cs (x : Value × Nat) => cs.setIfInBounds (off + x.2) x.1) arr)[i]? = if off + s ≤ i ∧ i < off + s + vs.length ∧ i < arr.size then vs[i - (off + s)]? else arr[i]?
  | [], s, arr => ⟨rfl, fun i => by rw [if_neg (by simp; omega)]; rfl⟩
  | v :: vs, s, arr => by
    obtain ⟨h1, h2⟩ := foldl_set off vs (s + 1) (arr.setIfInBounds (off + s) v)
    refine ⟨?_, fun i => ?_⟩
    · show ((vs.zipIdx (s + 1)).foldl _ (arr.setIfInBounds (off + s) v)).size = _
      rw [h1, Array.size_setIfInBounds]
    · show ((vs.zipIdx (s + 1)).foldl _ (arr.setIfInBounds (off + s) v))[i]? = _
      rw [h2, Array.size_setIfInBounds, Array.getElem?_setIfInBounds]
      by_cases hi : i = off + s
      · subst hi
        rw [if_neg (by omega), if_pos rfl]
        by_cases hs : off + s < arr.size
        · rw [if_pos hs, if_pos (by simp; omega)]; simp
        · rw [if_neg hs, if_neg (by omega), Array.getElem?_eq_none (by omega)]
      · by_cases hc : off + s ≤ i ∧ i < off + s + (v :: vs).length ∧ i < arr.size
        · rw [if_pos hc, if_pos (by simp at hc; omega)]
          obtain ⟨k, rfl⟩ : ∃ k, i = off + s + 1 + k := ⟨i - (off + s + 1), by omega⟩
          rw [show off + s + 1 + k - (off + (s + 1)) = k from by omega, show off + s + 1 + k - (off + s) = k + 1 from by omega]
          simp
        · rw [if_neg hc, if_neg (by simp at hc ⊢; omega), if_neg (fun e => hi e.symm)]

theorem fill_step (cells : Array Value) (off : Nat) (v : Value) (r : List Value) (h : spliceL cells.toList off v.cells.toList = some r) (hne : v.cells.toList ≠ []) :
    v.cells.zipIdx.foldl (fun cs (x : Value × Nat) => cs.setIfInBounds (off + x.2) x.1) cells = ⟨r⟩ ∧ off + v.cells.size ≤ cells.size := by
  obtain ⟨h1, h2, h3⟩ := splice_spec _ _ _ _ h
  have h1 := h1 hne
  simp only [Array.length_toList] at h1 h2
  obtain ⟨g1, g2⟩ := foldl_set off v.cells.toList 0 cells
  refine ⟨?_, h1⟩
  have he : v.cells.zipIdx.foldl (fun cs (x : Value × Nat) => cs.setIfInBounds (off + x.2) x.1) cells = (v.cells.toList.zipIdx 0).foldl (fun cs (x : Value × Nat) => cs.setIfInBounds (off + x.2) x.1) cells := by
    rw [← Array.foldl_toList, Array.toList_zipIdx]
  rw [he]
  apply Array.ext_getElem?
  intro i
  rw [g2]
  have h3 := h3 i
  simp only [Array.length_toList, Array.getElem?_toList] at h3
  rw [show (⟨r⟩ : Array Value)[i]? = r[i]? from by simp, h3]
  by_cases hc : off ≤ i ∧ i < off + v.cells.size
  · rw [if_pos hc, if_pos (by simp; omega)]; simp
  · rw [if_neg hc, if_neg (by simp; omega)]

/-- The parts of a literal. -/
def VRP (ρ : Rho) (a b : List (Nat × Value)) : Prop := a.map (·.1) = b.map (·.1) ∧ VRs ρ (a.map (·.2)) (b.map (·.2))
theorem fillA_run {ρ : Rho} (place : Nat → Option (Nat × Nat)) : ∀ (parts parts' : List (Nat × Value)) (cells : List Value) (cells' : Array Value) (cs : List Value), VRP ρ parts parts' → VRs ρ cells cells'.toList → fillA place cells parts = some cs →
    ∃ cs', Instr.fill place cells' parts' = some cs' ∧ VRs ρ cs cs'.toList
  | [], parts', cells, cells', cs, hp, hc, h => by
    have : parts' = [] := by simpa using hp.1.symm
    subst this
    simp only [fillA] at h
    injection h with h; subst h
    exact ⟨cells', rfl, hc⟩
  | (i, v) :: rest, parts', cells, cells', cs, hp, hc, h => by
    cases parts' with
    | nil => cases hp.1
    | cons q rest' =>
      obtain ⟨i', v'⟩ := q
      obtain ⟨h1, h2⟩ := hp
      simp only [List.map_cons, List.cons.injEq] at h1
      obtain ⟨rfl, h1⟩ := h1
      obtain ⟨v0, r0, e0, hv, hr⟩ := h2.uncons
      simp only [List.map_cons, List.cons.injEq] at e0
      obtain ⟨rfl, rfl⟩ := e0
      simp only [fillA] at h
      split at h
      · cases h
      · rename_i off size hpl
        split at h
        · rename_i hsz
          obtain ⟨hs1, hs2⟩ := andB_true hsz
          have hs1 := ble_true hs1
          have hs2 := beq_true hs2
          rw [llen0] at hs2
          split at h
          · rename_i cs1 hsp
            have hcl := hv.cells
            have hlen : v'.cells.size = size := by
              have := hcl.1
              rw [cellsL_eq v'] at this
              exact (Array.length_toList.symm.trans this.symm).trans hs2
            obtain ⟨hfit, _, _⟩ := splice_spec _ _ _ _ hsp
            have hfit := hfit (by intro e; rw [e] at hs2; simp at hs2; omega)
            obtain ⟨r', hr'⟩ := spliceL_isSome cells'.toList off (cellsL v') (by rw [← hc.1, ← hcl.1]; exact hfit)
            have hR := VRs.splice hc hcl hsp hr'
            rw [cellsL_eq v'] at hr'
            obtain ⟨f1, f2⟩ := fill_step cells' off v' r' hr' (by intro e; have := congrArg List.length e; simp at this; rw [this] at hlen; simp at hlen; omega)
            obtain ⟨cs', g1, g2⟩ := fillA_run place rest rest' cs1 ⟨r'⟩ cs ⟨h1, hr⟩ hR h
            refine ⟨cs', ?_, g2⟩
            simp only [Instr.fill, hpl]
            rw [if_neg (by simp; omega), f1]
            exact g1
          · cases h
        · cases h

theorem placesL_run {p : AP} {P : Program} (fa : Fa p P) : ∀ (fs : List Field) (l : List (Nat × Nat)), placesL p fs = some l → ∀ w, (fs.mapM (m := Sem) fun f => do pure (f.offset, ← sizeOf f.type)).run P w = .ok l w
  | [], l, h, w => by simp only [placesL] at h; injection h with h; subst h; rfl
  | f :: fs, l, h, w => by
    simp only [placesL] at h
    split at h
    · rename_i g l0 hg hl
      injection h with h; subst h
      simp only [List.mapM_cons, Sem.run_bind, run_sizeI fa hg w, Result.andThen_ok, Sem.run_pure, placesL_run fa fs l0 hl w]
    · cases h

theorem buildA_run {p : AP} {P : Program} (fa : Fa p P) {ρ : Rho} {A : AW} {t : TypeId} {parts : List (Nat × Value)} {parts' : Array (Nat × Value)} {r : R} (hp : VRP ρ parts parts'.toList) (h : buildA p A t parts = some r) : ∃ v, r = .val v A ∧ Pu P ρ (Instr.build t parts') v := by
  unfold buildA at h
  split at h
  · rename_i i d hg
    have hu := under_of_get hg
    have hi := info_of_get hg
    split at h
    · rename_i z hz
      split at h
      · cases h
      · rename_i hpl
        have hzc : VRs ρ (cellsL z) z.cells.toList := by rw [← cellsL_eq]; exact plainC_VRs ρ hpl
        split at h
        · rename_i fs
          split at h
          · rename_i l hl
            split at h
            · rename_i cs hcs
              injection h with h; subst h
              obtain ⟨cs', g1, g2⟩ := fillA_run (nthL l) parts parts'.toList (cellsL z) z.cells cs hp hzc hcs
              refine ⟨_, rfl, .agg cs', .agg cs cs'.toList g2.1 g2.2, fun w => ?_⟩
              have g1' : Instr.fill (fun k => (⟨l⟩ : Array (Nat × Nat))[k]?) z.cells parts'.toList = some cs' := by
                rw [← g1]; congr 1; funext k; rw [nthL_eq]; simp
              have hm : (fs.mapM (m := Sem) fun f => do pure (f.offset, ← sizeOf f.type)).run P w = .ok ⟨l⟩ w := by
                rw [Array.mapM_eq_mapM_toList, Sem.run_map, placesL_run fa fs.toList l hl w]; rfl
              simp only [Instr.build, Sem.run_bind, run_zeroI fa hi hz w, Result.andThen_ok, run_under fa hu w, hm, g1', Sem.run_pure]
            · cases h
          · cases h
        · rename_i n e
          split at h
          · rename_i g hge
            split at h
            · rename_i cs hcs
              injection h with h; subst h
              obtain ⟨cs', g1, g2⟩ := fillA_run _ parts parts'.toList (cellsL z) z.cells cs hp hzc hcs
              refine ⟨_, rfl, .agg cs', .agg cs cs'.toList g2.1 g2.2, fun w => ?_⟩
              have g1' : Instr.fill (fun k => some (k * g.size, g.size)) z.cells parts'.toList = some cs' := g1
              simp only [Instr.build, Sem.run_bind, run_zeroI fa hi hz w, Result.andThen_ok, run_under fa hu w, run_sizeI fa hge w, g1', Sem.run_pure]
            · cases h
          · cases h
        · cases h
    · cases h
  · cases h
end Go.AL
end

section
namespace Go.AL
open Go

theorem g1_some {x : Operand} {q : Option R} {r : R} (h : g1 x q = some r) : plainO x = true ∧ q = some r := by
  unfold g1 at h; split at h
  · exact ⟨‹_›, h⟩
  · cases h
theorem g2_some {x y : Operand} {q : Option R} {r : R} (h : g2 x y q = some r) : plainO x = true ∧ plainO y = true ∧ q = some r := by
  unfold g2 at h; split at h
  · exact ⟨‹_›, g1_some h⟩
  · cases h
theorem gO_some {x : Option Operand} {q : Option R} {r : R} (h : gO x q = some r) : (∀ y, x = some y → plainO y = true) ∧ q = some r := by
  unfold gO at h; split at h
  · exact ⟨fun _ e => (by cases e), h⟩
  · obtain ⟨h1, h2⟩ := g1_some h
    exact ⟨fun _ e => (by injection e with e; subst e; exact h1), h2⟩
theorem valO_some {q : Option Value} {A : AW} {r : R} (h : valO q A = some r) : ∃ v, q = some v ∧ r = .val v A := by
  unfold valO at h; split at h
  · injection h with h; exact ⟨_, rfl, h.symm⟩
  · cases h
theorem VRO.map {ρ : Rho} {T : Tr Value} {nt : Nat} {a : Act} (h : TR ρ T nt a.tmps) {x : Option Operand} (hx : ∀ y, x = some y → plainO y = true) : VRO ρ (x.map (evalO T)) (x.map a.eval) := by
  cases x with
  | none => trivial
  | some y => exact eval_VR h (hx y rfl)
theorem evalL_VRs {ρ : Rho} {T : Tr Value} {nt : Nat} {a : Act} (h : TR ρ T nt a.tmps) : ∀ l : List Operand, lall plainO l = true → VRs ρ (evalL T l) (l.map a.eval)
  | [], _ => VRs.nil ρ
  | x :: l, hl => VRs.cons (eval_VR h (lall_mem hl x List.mem_cons_self)) (evalL_VRs h l (by
      unfold lall at hl; split at hl
      · exact hl
      · cases hl))
theorem evalP_VRP {ρ : Rho} {T : Tr Value} {nt : Nat} {a : Act} (h : TR ρ T nt a.tmps) : ∀ l : List (Nat × Operand), plainP l = true → VRP ρ (evalP T l) (l.map fun (i, x) => (i, a.eval x))
  | [], _ => ⟨rfl, VRs.nil ρ⟩
  | (i, x) :: l, hl => by
    unfold plainP at hl
    split at hl
    · rename_i hx
      obtain ⟨h1, h2⟩ := evalP_VRP h l hl
      exact ⟨by simp [evalP, h1], VRs.cons (eval_VR h hx) h2⟩
    · cases hl

/-- Which operations look at the temporaries alone. -/
noncomputable def pureO (p : AP) (o : Oper) : Bool := match kindOf p o with | .pure => true | _ => false

/-- What a pure operation does, whatever the world. -/
def PuN (P : Program) (ρ : Rho) (s : Sem Next) (v : Value) : Prop := ∃ v', VR ρ v v' ∧ ∀ w, s.run P w = .ok (.value v') w
theorem Pu.next {P : Program} {ρ : Rho} {s : Sem Value} {v : Value} (h : Pu P ρ s v) : PuN P ρ (do pure (.value (← s))) v := by
  obtain ⟨v', h1, h2⟩ := h
  exact ⟨v', h1, fun w => by rw [Sem.run_bind, h2]; rfl⟩

theorem opUn_run {P : Program} {ρ : Rho} {A : AW} {op : UnOp} {x x' : Value} {r : R} (hx : VR ρ x x') (h : opUn A op x = some r) : ∃ v, r = .val v A ∧ Pu P ρ (Op.unary op x') v := by
  unfold opUn at h
  split at h
  · cases hx; injection h with h; subst h
    exact ⟨_, rfl, _, .int _ _, fun w => rfl⟩
  · cases hx; injection h with h; subst h
    rename_i b
    exact ⟨_, rfl, _, .bool _, fun w => by rw [notB_eq]; rfl⟩
  · cases h

theorem conv_pure_run {p : AP} {P : Program} (fa : Fa p P) {ρ : Rho} {A : AW} {src dst : TypeId} {x x' : Value} {r : R} (hx : VR ρ x x') (hk : (match p.under dst, p.under src with | some .string, some (.slice _) => Kind.read | some (.slice _), _ => .alloc | some _, some _ => .pure | _, _ => .bad) = .pure)
    (h : valA (convA p A src dst x) = some r) : ∃ v, r = .val v A ∧ Pu P ρ (convert src dst x') v := by
  unfold convA at h
  split at h
  · rename_i k k' n hd
    cases hx
    split at h
    · rename_i d hs
      simp only [valA] at h
      injection h with h; subst h
      refine ⟨_, rfl, _, .int k _, fun w => ?_⟩
      simp only [convert, Sem.run_bind, run_under fa hs w, run_under fa hd w, Result.andThen_ok, Conv.intToInt, wrapF_eq]
      rfl
    · cases h
  · rename_i s hd
    cases hx
    split at h
    · rename_i d hs
      simp only [valA] at h
      injection h with h; subst h
      refine ⟨_, rfl, _, .str _, fun w => ?_⟩
      have hns : ∀ e, d ≠ .slice e := fun e he => by subst he; rw [hd, hs] at hk; cases hk
      simp only [convert, Sem.run_bind, run_under fa hs w, run_under fa hd w, Result.andThen_ok]
      cases d <;> first | rfl | (exfalso; exact hns _ rfl)
    · cases h
  · rename_i e s hd
    rw [hd] at hk
    cases hs : p.under src <;> rw [hs] at hk <;> cases hk
  · rename_i a n c hd
    split at h
    · rename_i e hs
      rw [hd, hs] at hk
      cases hk
    · cases h
  · cases h
theorem argT {ts : Array TypeId} {t : TypeId} {l : List TypeId} (h : ts.toList = t :: l) : ts[0]? = some t := by
  rw [← Array.getElem?_toList, h]; rfl
theorem foldMin_run {P : Program} {ρ : Rho} (k : IntKind) : ∀ (l l' : List Value) (x n : Int), VRs ρ l l' → foldMin l x = some n → ∀ w, (l'.foldlM Builtin.min2 (.int k x)).run P w = .ok (.int k n) w
  | [], l', x, n, hl, h, w => by rw [hl.of_nil]; simp only [foldMin] at h; injection h with h; subst h; rfl
  | v :: l, l', x, n, hl, h, w => by
    obtain ⟨v', m', rfl, h1, h2⟩ := hl.uncons
    cases v <;> simp only [foldMin] at h <;> first | (cases h; done) | skip
    rename_i k' y
    cases h1
    simp only [List.foldlM_cons, Builtin.min2, Sem.run_bind, Sem.run_pure, Result.andThen_ok]
    have : (if y < x then y else x) = (match iLe x y with | true => x | false => y) := by
      have := iLe_eq x y
      cases hc : iLe x y with
      | true => have := this.1 hc; rw [if_neg (by omega)]
      | false => rw [if_pos (by have h2 : ¬ x ≤ y := fun e => by rw [this.2 e] at hc; cases hc
                                omega)]
    rw [this]
    exact foldMin_run k l m' _ n h2 h w
theorem foldMax_run {P : Program} {ρ : Rho} (k : IntKind) : ∀ (l l' : List Value) (x n : Int), VRs ρ l l' → foldMax l x = some n → ∀ w, (l'.foldlM Builtin.max2 (.int k x)).run P w = .ok (.int k n) w
  | [], l', x, n, hl, h, w => by rw [hl.of_nil]; simp only [foldMax] at h; injection h with h; subst h; rfl
  | v :: l, l', x, n, hl, h, w => by
    obtain ⟨v', m', rfl, h1, h2⟩ := hl.uncons
    cases v <;> simp only [foldMax] at h <;> first | (cases h; done) | skip
    rename_i k' y
    cases h1
    simp only [List.foldlM_cons, Builtin.max2, Sem.run_bind, Sem.run_pure, Result.andThen_ok]
    have : (if y > x then y else x) = (match iLe y x with | true => x | false => y) := by
      have := iLe_eq y x
      cases hc : iLe y x with
      | true => have := this.1 hc; rw [if_neg (by omega)]
      | false => rw [if_pos (by have h2 : ¬ y ≤ x := fun e => by rw [this.2 e] at hc; cases hc
                                omega)]
    rw [this]
    exact foldMax_run k l m' _ n h2 h w

theorem builtin_pure {p : AP} {P : Program} (fa : Fa p P) {ρ : Rho} {A : AW} {b : Builtin} {ts : Array TypeId} {ty : TypeId} {xs : List Value} {xs' : Array Value} {r : R} (hb : b = .cap ∨ b = .min ∨ b = .max) (hR : VRs ρ xs xs'.toList)
    (h : builtinA p A b ts.toList xs = some r) (cs : Array Bool) : ∃ v, r = .val v A ∧ PuN P ρ (builtin b ts ty cs xs') v := by
  rcases hb with rfl | rfl | rfl
  · cases hts : ts.toList with
    | nil => rw [hts] at h; cases h
    | cons t tl =>
      rw [hts] at h
      have ht := argT hts
      cases xs with
      | nil => cases h
      | cons x xs =>
        cases xs with
        | cons y ys => cases h
        | nil =>
          obtain ⟨x', l', e1, hx, hl⟩ := hR.uncons
          have hl := hl.of_nil
          subst hl
          have hx0 : xs'[0]? = some x' := by rw [← Array.getElem?_toList, e1]; rfl
          dsimp only [builtinA] at h
          split at h
          · rename_i e n c hu
            cases hx
            injection h with h
            refine ⟨_, h.symm, _, .int .i64 0, fun w => ?_⟩
            simp only [builtin, Builtin.cap_, ht, hx0, Sem.run_bind, run_under fa hu w, Result.andThen_ok, Sem.run_pure]
            rfl
          · rename_i e b o n c hu
            cases hx
            injection h with h
            refine ⟨_, h.symm, _, .int .i64 _, fun w => ?_⟩
            simp only [builtin, Builtin.cap_, ht, hx0, Sem.run_bind, run_under fa hu w, Result.andThen_ok, Sem.run_pure]
            rfl
          · cases h
  · cases xs with
    | nil => cases ts.toList <;> cases h
    | cons x xs =>
      obtain ⟨x', l', e1, hx, hl⟩ := hR.uncons
      cases x with
      | int k x =>
        cases hx
        have h' : (match foldMin xs x with | some n => some (R.val (.int k n) A) | none => none) = some r := by cases hts : ts.toList <;> (rw [hts] at h; exact h)
        split at h'
        · rename_i n hn
          injection h' with h'
          refine ⟨_, h'.symm, _, .int k n, fun w => ?_⟩
          simp only [builtin, Builtin.min_, e1, Sem.run_bind, foldMin_run (P := P) k xs l' x n hl hn w, Result.andThen_ok, Sem.run_pure]
        · cases h'
      | _ => cases ts.toList <;> cases h
  · cases xs with
    | nil => cases ts.toList <;> cases h
    | cons x xs =>
      obtain ⟨x', l', e1, hx, hl⟩ := hR.uncons
      cases x with
      | int k x =>
        cases hx
        have h' : (match foldMax xs x with | some n => some (R.val (.int k n) A) | none => none) = some r := by cases hts : ts.toList <;> (rw [hts] at h; exact h)
        split at h'
        · rename_i n hn
          injection h' with h'
          refine ⟨_, h'.symm, _, .int k n, fun w => ?_⟩
          simp only [builtin, Builtin.max_, e1, Sem.run_bind, foldMax_run (P := P) k xs l' x n hl hn w, Result.andThen_ok, Sem.run_pure]
        · cases h'
      | _ => cases ts.toList <;> cases h

/-- A PURE OPERATION: what the interpreter says it gives, it gives in every world. -/
theorem pure_op {p : AP} {P : Program} (fa : Fa p P) {ρ : Rho} {T : Tr Value} {nt : Nat} {a : Act} {A : AW} {o : Oper} {r : R} (hT : TR ρ T nt a.tmps) (hk : kindOf p o = .pure) (h : opA p T A o = some r) :
    ∃ v, r = .val v A ∧ PuN P ρ (execOp a.eval o) v := by
  unfold opA at h
  unfold execOp
  unfold kindOf at hk
  cases ho : o.op with
  | move x =>
    simp only [ho] at h hk ⊢
    unfold opVal at h
    split at h
    · rename_i hx; injection h with h; exact ⟨_, h.symm, _, eval_VR hT hx, fun w => rfl⟩
    · cases h
  | assign x =>
    simp only [ho] at h hk ⊢
    unfold opVal at h
    split at h
    · rename_i hx; injection h with h; exact ⟨_, h.symm, _, eval_VR hT hx, fun w => rfl⟩
    · cases h
  | pick c x y =>
    simp only [ho] at h hk ⊢
    obtain ⟨hc, h⟩ := g1_some h
    have hv := eval_VR hT hc
    unfold opPick at h
    split at h
    · rename_i hxy hb
      rw [hb] at hv
      obtain ⟨hx, hy⟩ := andB_true hxy
      injection h with h
      refine ⟨_, h.symm, _, eval_VR hT hx, fun w => ?_⟩
      cases hq : a.eval c <;> rw [hq] at hv <;> cases hv
      rfl
    · rename_i hxy hb
      rw [hb] at hv
      obtain ⟨hx, hy⟩ := andB_true hxy
      injection h with h
      refine ⟨_, h.symm, _, eval_VR hT hy, fun w => ?_⟩
      cases hq : a.eval c <;> rw [hq] at hv <;> cases hv
      rfl
    · cases h
  | build t parts =>
    simp only [ho] at h hk ⊢
    unfold opBuild at h
    split at h
    · rename_i hp
      obtain ⟨v, h1, h2⟩ := buildA_run fa (parts' := parts.map fun (i, x) => (i, a.eval x)) (by rw [Array.toList_map]; exact evalP_VRP hT parts.toList hp) h
      exact ⟨v, h1, h2.next⟩
    · cases h
  | nilCheck x =>
    simp only [ho] at h hk ⊢
    unfold opNilCheck at h
    split at h
    · rename_i b hx hv
      injection h with h
      have hV := eval_VR hT hx
      rw [hv] at hV
      obtain ⟨a', ha, hadd⟩ := hV.ptr_add
      rw [ha] at hV ⊢
      exact ⟨_, h.symm, _, hV, fun w => rfl⟩
    · cases h
  | binOp op t x y yt =>
    simp only [ho] at h hk ⊢
    obtain ⟨hx, hy, h⟩ := g2_some h
    unfold opBin at h
    split at h
    · cases h
    · rename_i hg
      obtain ⟨v, h1, h2⟩ := valO_some h
      obtain ⟨v', g1, g2⟩ := binA_run fa (eval_VR hT hx) (eval_VR hT hy) h1
      refine ⟨v, h2, v', g1, fun w => ?_⟩
      rw [Sem.run_bind, Sem.run_bind, eqGuard_run fa (eval_VR hT hx) (eval_VR hT hy) h1 hg w, Result.andThen_ok, g2]
      rfl
  | unOp op t x =>
    simp only [ho] at h hk ⊢
    obtain ⟨hx, h⟩ := g1_some h
    obtain ⟨v, h1, h2⟩ := opUn_run (P := P) (eval_VR hT hx) h
    exact ⟨v, h1, h2.next⟩
  | convert src dst x =>
    simp only [ho] at h hk ⊢
    obtain ⟨hx, h⟩ := g1_some h
    obtain ⟨v, h1, h2⟩ := conv_pure_run fa (eval_VR hT hx) hk h
    exact ⟨v, h1, h2.next⟩
  | makeInterface t x =>
    simp only [ho] at h hk ⊢
    unfold opMkI at h
    split at h
    · cases h
    · rename_i d hni hx hu
      injection h with h
      refine ⟨_, h.symm, _, .iface t _ _ (eval_VR hT hx), fun w => ?_⟩
      simp only [Instr.makeInterface, Sem.run_bind, run_under fa hu w, Result.andThen_ok]
      cases d <;> first | rfl | (exfalso; exact hni _ rfl) | (exfalso; exact hni _ hu)
    · cases h
  | makeFunc fn first captured =>
    simp only [ho] at h hk ⊢
    unfold opMkFn at h
    split at h
    · unfold opMkF at h
      split at h
      · rename_i hp
        obtain ⟨p1, p2⟩ := andB_true hp
        injection h with h
        have v1 := evalL_VRs hT first.toList p1
        have v2 := evalL_VRs hT captured.toList p2
        refine ⟨_, h.symm, .func (.func _) ⟨first.toList.map a.eval⟩ ⟨captured.toList.map a.eval⟩, .func _ _ _ _ _ v1.1 v1.2 v2.1 v2.2, fun w => ?_⟩
        have e1 : first.map a.eval = ⟨first.toList.map a.eval⟩ := by apply Array.ext'; simp
        have e2 : captured.map a.eval = ⟨captured.toList.map a.eval⟩ := by apply Array.ext'; simp
        rw [e1, e2]
        rfl
      · cases h
    · cases h
  | slice t x lo hi mx =>
    simp only [ho] at h hk ⊢
    obtain ⟨hx, h⟩ := g1_some h
    obtain ⟨h1, h⟩ := gO_some h
    obtain ⟨h2, h⟩ := gO_some h
    obtain ⟨h3, h⟩ := gO_some h
    obtain ⟨v, e1, e2⟩ := valO_some h
    exact ⟨v, e2, (sliceOp_run fa (eval_VR hT hx) (VRO.map hT h1) (VRO.map hT h2) (VRO.map hT h3) e1).next⟩
  | fieldAddr s x k =>
    simp only [ho] at h hk ⊢
    obtain ⟨hx, h⟩ := g1_some h
    obtain ⟨v, h1, h2⟩ := fieldAddr_run fa (eval_VR hT hx) h
    exact ⟨v, h1, h2.next⟩
  | field t x k =>
    simp only [ho] at h hk ⊢
    obtain ⟨hx, h⟩ := g1_some h
    obtain ⟨v, h1, h2⟩ := field_run fa (eval_VR hT hx) h
    exact ⟨v, h1, h2.next⟩
  | indexAddr t x i =>
    simp only [ho] at h hk ⊢
    obtain ⟨hx, hi, h⟩ := g2_some h
    obtain ⟨v, e1, e2⟩ := valO_some h
    exact ⟨v, e2, (indexAddrA_run fa (eval_VR hT hx) (eval_VR hT hi) e1).next⟩
  | index t x i =>
    simp only [ho] at h hk ⊢
    obtain ⟨hx, hi, h⟩ := g2_some h
    obtain ⟨v, h1, h2⟩ := index_run fa (eval_VR hT hx) (eval_VR hT hi) h
    exact ⟨v, h1, h2.next⟩
  | typeAssert x xt t ok =>
    simp only [ho] at h hk ⊢
    obtain ⟨hx, h⟩ := g1_some h
    obtain ⟨v, e1, e2⟩ := valO_some h
    exact ⟨v, e2, (assertA_run fa (eval_VR hT hx) e1).next⟩
  | extract t k =>
    simp only [ho] at h hk ⊢
    obtain ⟨hx, h⟩ := g1_some h
    obtain ⟨v, h1, h2⟩ := extract_run (P := P) (eval_VR hT hx) h
    exact ⟨v, h1, h2.next⟩
  | call c =>
    simp only [ho] at h hk ⊢
    obtain ⟨callee, args, argTypes⟩ := c
    cases callee with
    | builtin b =>
      have hb : b = .cap ∨ b = .min ∨ b = .max := by cases b <;> first | (left; rfl) | (right; left; rfl) | (right; right; rfl) | (cases hk; done)
      unfold opCall at h
      split at h
      · rename_i hp
        have hv := evalL_VRs hT args.toList hp
        have h' : builtinA p A b argTypes.toList (evalL T args.toList) = some r := h
        obtain ⟨v, h1, h2⟩ := builtin_pure fa (ty := o.type) (xs' := args.map a.eval) hb (by rw [Array.toList_map]; exact hv) h' (args.map fun | .const _ => true | _ => false)
        exact ⟨v, h1, h2⟩
      · cases h
    | value f => cases hk
    | invoke rr m => cases hk
  | _ => simp only [ho] at hk; cases hk
end Go.AL
end

section
namespace Go.AL
open Go

/-- What a read needs of the two worlds. -/
structure Rd (A : AW) (ρ : Rho) (w : World) : Prop where
  cells : ∀ b bl L, A.heap.get b = some bl → aliveF A.fams bl.fam b = true → ρ b = some L → ∀ i v, bl.cells[i]? = some v → ∃ v', w.cell? ⟨L.B, L.O + i, none⟩ = some v' ∧ VR ρ v v'
  low : ∀ b bl, A.heap.get b = some bl → b < 100 → ∃ L, ρ b = some L ∧ L.B = b ∧ L.O = 0
  maps : ∀ r es L, A.maps.get r = some es → ρ r = some L → ∃ ents clk, w.heap[L.B]? = some (.map ents clk) ∧ MapR ρ es ents clk
  i100 : ∀ r x, A.iters.get r = some x → 100 ≤ r
  iters : ∀ r m seen L, A.iters.get r = some (m, seen) → ρ r = some L → L.O = 0 ∧ (∀ k, m = some k → (A.maps.get k).isSome) ∧ ∃ o, w.heap[L.B]? = some o ∧ IterR ρ w m seen o
theorem Sim.rd {base : Nat} {A : AW} {ρ : Rho} {w : World} (h : Sim base A ρ w) : Rd A ρ w where
  cells := h.cells
  low := fun b bl hb hlt => by
    obtain ⟨L, hL⟩ := h.blk b bl hb
    have := h.fixd b L hL hlt
    exact ⟨L, hL, this.1, this.2.1⟩
  maps := h.maps
  i100 := fun r x h1 => (h.obj r (.inr (.inl (by rw [h1]; rfl)))).1
  iters := fun r m seen L h1 h2 => by
    obtain ⟨g1, g2⟩ := h.iters r m seen L h1 h2
    obtain ⟨q1, _, L', q2, q3⟩ := h.obj r (.inr (.inl (by rw [h1]; rfl)))
    rw [h2] at q2
    injection q2 with q2
    subst q2
    exact ⟨q3, g1, g2⟩

theorem Rd.range {A : AW} {ρ : Rho} {w : World} (h : Rd A ρ w) {b off n : Nat} {L : Loc} {cs : List Value} (hL : ρ b = some L) (e : cellsAt A b off n = some cs) :
    ∃ cs', w.rangeAt L.B (L.O + off) cs' ∧ VRs ρ cs cs' ∧ cs.length = n := by
  unfold Go.AL.cellsAt at e
  split at e
  · cases e
  · rename_i cl el fam hb
    split at e
    · rename_i hal
      obtain ⟨rfl, hlen⟩ := takeL_some _ _ _ e
      rw [dropL_eq] at hlen ⊢
      have hc := h.cells b ⟨cl, el, fam⟩ L hb hal hL
      obtain ⟨cs', hl', hcs⟩ := exists_list (fun i v' => w.cell? ⟨L.B, L.O + off + i, none⟩ = some v' ∧ ∃ v, (cl.drop off)[i]? = some v ∧ VR ρ v v') n (fun i hi => by
        have hi' : i < (cl.drop off).length := by omega
        have hg : (cl.drop off)[i]? = some (cl.drop off)[i] := List.getElem?_eq_getElem hi'
        obtain ⟨v', hv', hR⟩ := hc (off + i) (cl.drop off)[i] (by rw [← hg, List.getElem?_drop])
        exact ⟨v', by rw [Nat.add_assoc]; exact hv', _, hg, hR⟩)
      refine ⟨cs', fun j v hv => (hcs j v hv).1, .of_get? (by rw [List.length_take, hl']; omega) fun i v hv => ?_, by rw [List.length_take]; omega⟩
      rw [List.getElem?_take] at hv
      split at hv
      · rename_i hi
        have hg : cs'[i]? = some cs'[i] := List.getElem?_eq_getElem (by omega)
        obtain ⟨u, hu, hR⟩ := (hcs i _ hg).2
        rw [hv] at hu
        injection hu with hu
        subst hu
        exact ⟨_, hg, hR⟩
      · cases hv
    · cases e
theorem cellsAt_blk {A : AW} {b off n : Nat} {cs : List Value} (e : cellsAt A b off n = some cs) : ∃ bl, A.heap.get b = some bl := by
  unfold Go.AL.cellsAt at e
  split at e
  · cases e
  · exact ⟨_, by assumption⟩
/-- Cells behind a pointer. -/
theorem Rd.ptr {A : AW} {ρ : Rho} {w : World} (h : Rd A ρ w) {a : Addr} {n : Nat} {v' : Value} {cs : List Value} (hp : VR ρ (.pointer (some a)) v') (e : cellsAt A a.block a.off n = some cs) :
    ∃ b o cs', v' = .pointer (some ⟨b, o, none⟩) ∧ w.rangeAt b o cs' ∧ VRs ρ cs cs' ∧ cs.length = n := by
  cases hp with
  | ptr b o L hL => obtain ⟨cs', h1, h2, h3⟩ := h.range hL e; exact ⟨_, _, cs', rfl, h1, h2, h3⟩
  | ptrg b o hlt =>
    obtain ⟨bl, hb⟩ := cellsAt_blk e
    obtain ⟨L, hL, rfl, h0⟩ := h.low b bl hb hlt
    obtain ⟨cs', h1, h2, h3⟩ := h.range hL e
    rw [h0, Nat.zero_add] at h1
    exact ⟨_, _, cs', rfl, h1, h2, h3⟩

/-- What a read gives in one world. -/
def RdN (P : Program) (ρ : Rho) (w : World) (s : Sem Next) (v : Value) : Prop := ∃ v', VR ρ v v' ∧ s.run P w = .ok (.value v') w
def RdV (P : Program) (ρ : Rho) (w : World) (s : Sem Value) (v : Value) : Prop := ∃ v', VR ρ v v' ∧ s.run P w = .ok v' w
theorem RdV.next {P : Program} {ρ : Rho} {w : World} {s : Sem Value} {v : Value} (h : RdV P ρ w s v) : RdN P ρ w (do pure (.value (← s))) v := by
  obtain ⟨v', h1, h2⟩ := h
  exact ⟨v', h1, by rw [Sem.run_bind, h2]; rfl⟩

theorem loadA_run {p : AP} {P : Program} (fa : Fa p P) {A : AW} {ρ : Rho} {w : World} (h : Rd A ρ w) {t : TypeId} {a : Addr} {x' v : Value} (hx : VR ρ (.pointer (some a)) x') (e : loadA p A t a = some v) : RdV P ρ w (Instr.loadAt t x') v := by
  unfold loadA at e
  split at e
  · cases e
  · rename_i i d hg
    have hu := under_of_get hg
    have hi := info_of_get hg
    split at e
    · rename_i hd
      split at e
      · rename_i cs hc
        injection e with e; subst e
        obtain ⟨b, o, cs', rfl, h1, h2, h3⟩ := h.ptr hx hc
        refine ⟨.agg cs'.toArray, .agg cs cs' h2.1 h2.2, ?_⟩
        have hl : cs'.length = i.size := by rw [← h2.1, h3]
        exact run_loadAt_mid w b o t cs' d h1 (fa.under hu) (by cases d <;> first | rfl | cases hd) (by rw [fa.info hi, Option.map_some, hl])
      · cases e
    · rename_i hd
      split at e
      · rename_i u hc
        injection e with e; subst e
        obtain ⟨b, o, cs', rfl, h1, h2, h3⟩ := h.ptr hx hc
        obtain ⟨u', r, rfl, hu1, hr⟩ := h2.uncons
        refine ⟨u', hu1, ?_⟩
        have hcell := h1 0 u' rfl
        simp only [Instr.loadAt, Instr.sureAddr, loadVar, Sem.run_bind, Sem.run_pure, Result.andThen_ok, run_aggD fa hu w, hd, Bool.false_eq_true, if_false, run_load]
        rw [Nat.add_zero] at hcell
        rw [hcell]
      · cases e

theorem bytesOfCells_run {ρ : Rho} : ∀ (cs cs' : List Value) (bs : List UInt8), VRs ρ cs cs' → bytesOfCells cs = some bs → ∃ xs : List Int, cs' = xs.map (Value.int .u8) ∧ bs = xs.map fun n => UInt8.ofNat n.toNat
  | [], cs', bs, hR, h => by
    rw [hR.of_nil]; simp only [bytesOfCells] at h; injection h with h; subst h; exact ⟨[], rfl, rfl⟩
  | v :: cs, cs', bs, hR, h => by
    obtain ⟨v', r', rfl, h1, h2⟩ := hR.uncons
    unfold bytesOfCells at h
    split at h
    · rename_i e1; cases e1
    · rename_i b r e1
      injection e1 with e1 e2
      subst e1 e2
      split at h
      · rename_i bs0 hb
        injection h with h; subst h
        obtain ⟨xs, rfl, rfl⟩ := bytesOfCells_run _ _ _ h2 hb
        cases h1
        exact ⟨b :: xs, rfl, rfl⟩
      · cases h
    · cases h

theorem conv_read_run {p : AP} {P : Program} (fa : Fa p P) {A : AW} {ρ : Rho} {w : World} (hd0 : Rd A ρ w) {src dst : TypeId} {x x' : Value} {r : R} (hx : VR ρ x x') {e0 : TypeId} (hd : p.under dst = some .string) (hs : p.under src = some (.slice e0))
    (h : valA (convA p A src dst x) = some r) : ∃ v, r = .val v A ∧ RdV P ρ w (convert src dst x') v := by
  unfold convA at h
  rw [hd] at h
  cases x <;> simp only [hs] at h <;> first | (cases h; done) | skip
  · rename_i s
    simp only [valA] at h
    injection h with h; subst h
    cases hx
    exact ⟨_, rfl, _, .str s, by simp only [convert, Sem.run_bind, run_under fa hs w, run_under fa hd w, Result.andThen_ok, Sem.run_pure]⟩
  · rename_i a n c
    split at h
    · rename_i he
      have hconv : ∀ (a' : Option Addr) (n' c' : Nat), (convert src dst (.slice a' n' c')).run P w = (Conv.bytesToString (.slice a' n' c')).run P w := fun a' n' c' => run_convert_bytes_string w src dst e0 a' n' c' (fa.under hs) (fa.under he) (fa.under hd)
      split at h
      · simp only [valA] at h
        injection h with h; subst h
        cases hx
        exact ⟨_, rfl, _, .str _, by rw [hconv]; rfl⟩
      · rename_i a
        split at h
        · rename_i hn
          obtain rfl := beq_true hn
          simp only [valA] at h
          injection h with h; subst h
          have hz : ∀ (a' : Addr) (c' : Nat), (Conv.bytesToString (.slice (some a') 0 c')).run P w = .ok (.string ⟨#[]⟩) w := fun a' c' => run_bytesToString (P := P) w a' 0 c' [] rfl
          refine ⟨_, rfl, .string ⟨#[]⟩, .str _, ?_⟩
          cases hx with
          | sl b o n c L hb h0 => rw [hconv]; exact hz _ _
          | slx b o k n c c' L hb h0 h1 h2 h3 => rw [hconv]; exact hz _ _
          | slg a' n' c' _ => rw [hconv]; exact hz _ _
        · split at h
          · cases h
          · rename_i hgh
            split at h
            · rename_i cs hc
              split at h
              · rename_i bs hbs
                simp only [valA] at h
                injection h with h; subst h
                obtain ⟨L, c', hb', rfl, hn, hcc, hc1, hc2⟩ := hx.slice_inv hgh
                obtain ⟨cs', g1, g2, g3⟩ := hd0.range hb' hc
                obtain ⟨xs, rfl, rfl⟩ := bytesOfCells_run _ _ _ g2 hbs
                have hl : xs.length = n := by
                  have := g2.1
                  rw [List.length_map] at this
                  omega
                refine ⟨_, rfl, _, .str _, ?_⟩
                have hrun := run_convert_bytes_arg (P := P) w src e0 (fa.under hs) (fa.under he) L.B (L.O + a.off) n c' xs hl (fun i hi => by
                  have hi' : i < xs.length := by omega
                  rw [g1 i (.int .u8 (xs.getD i 0)) (by simp [List.getD, List.getElem?_eq_getElem hi'])]) dst (fa.under hd)
                rw [hrun]
                rfl
              · cases h
            · cases h
    · cases h
end Go.AL
end

section
namespace Go.AL
open Go Go.MapKept

theorem run_getObj_any {P : Program} {w : World} {r : Nat} {o : Obj} (h : w.heap[r]? = some o) (hn : ∀ c e f, o ≠ .cells c e f) : (getObj r).run P w = .ok o w := by
  cases o <;> first | (exfalso; exact hn _ _ _ rfl) | simp [getObj, Sem.run, h]

/-- Keys. -/
theorem keyEq_run {ρ : Rho} {kd : TypeDesc} {k k' a a' : Value} {r : Bool} (hk : VR ρ k k') (ha : VR ρ a a') (hkd : keyKind kd k = true) (h : keyEq k a = some r) : Instr.sameNow kd k' a' = some r := by
  unfold keyEq at h
  split at h
  · rename_i k1 x k2 y
    cases hk; cases ha
    split at h
    · rename_i hkk
      obtain rfl := ikEq_eq hkk
      injection h with h; subst h
      cases kd <;> simp only [keyKind] at hkd <;> first | (cases hkd; done) | simp [Instr.sameNow, iEq_beq]
    · cases h
  · rename_i x y
    cases hk; cases ha
    injection h with h; subst h
    cases kd <;> simp only [keyKind] at hkd <;> first | (cases hkd; done) | simp [Instr.sameNow, beq_toListBytes, toList_beq]
  · cases h
theorem keyKind_check {P : Program} {ρ : Rho} {kt : TypeId} {kd : TypeDesc} {k k' : Value} (hk : VR ρ k k') (hu : P.underlying kt = some kd) (h : keyKind kd k = true) (em : Bool) (w : World) : (Instr.checkKey em 10000 kt k').run P w = .ok () w := by
  unfold Instr.checkKey
  simp only [Sem.run_bind, run_underlying hu, Result.andThen_ok]
  unfold keyKind at h
  split at h
  · cases hk; rfl
  · cases hk; rfl
  · cases h

theorem lookL_run {ρ : Rho} {kd : TypeDesc} {k k' : Value} (hk : VR ρ k k') (hkd : keyKind kd k = true) : ∀ (es : List (Value × Value)) (ents : List MapEntry) (i : Nat) (res : Option Value),
    VRs ρ (es.map (·.1)) (ents.map (·.key)) → VRs ρ (es.map (·.2)) (ents.map (·.val)) → lookL k es = some res →
    match res with
    | none => Instr.findNow kd k' ents i = some none
    | some v => ∃ j v', Instr.findNow kd k' ents i = some (some (j, v')) ∧ VR ρ v v'
  | [], ents, i, res, h1, h2, h => by
    have : ents = [] := by simpa using h1.of_nil
    subst this
    simp only [lookL] at h
    injection h with h; subst h
    rfl
  | (a, v) :: es, ents, i, res, h1, h2, h => by
    cases ents with
    | nil => have := h1.1; simp at this
    | cons e ents =>
      obtain ⟨a', l1, e1, ha, h1⟩ := h1.uncons
      obtain ⟨v', l2, e2, hv, h2⟩ := h2.uncons
      simp only [List.map_cons, List.cons.injEq] at e1 e2
      obtain ⟨rfl, rfl⟩ := e1
      obtain ⟨rfl, rfl⟩ := e2
      unfold lookL at h
      split at h
      · rename_i hq
        injection h with h; subst h
        exact ⟨i, e.val, by simp only [Instr.findNow, keyEq_run hk ha hkd hq], hv⟩
      · rename_i hq
        have ih := lookL_run hk hkd es ents (i + 1) res h1 h2 h
        cases res with
        | none => simp only [Instr.findNow, keyEq_run hk ha hkd hq]; exact ih
        | some u => obtain ⟨j, u', g1, g2⟩ := ih; exact ⟨j, u', by simp only [Instr.findNow, keyEq_run hk ha hkd hq]; exact g1, g2⟩
      · cases h

theorem two_VR {ρ : Rho} {a a' b b' : Value} (ha : VR ρ a a') (hb : VR ρ b b') : VR ρ (.tuple #[a, b]) (.tuple #[a', b']) := .tuple [_, _] [_, _] rfl (VRs.cons ha (VRs.cons hb (VRs.nil ρ))).2
theorem VR.map_inv {ρ : Rho} {r : Nat} {v' : Value} (h : VR ρ (.map (some r)) v') : ∃ L, ρ r = some L ∧ v' = .map (some L.B) := by cases h with | map r L h => exact ⟨L, h, rfl⟩

theorem lookup_of {P : Program} {w : World} {t kt e : TypeId} {kd : TypeDesc} {m' k' : Value} {ok : Bool} {ents : Array MapEntry} {z b : Value} {f : Option (Nat × Value)} (hu : P.underlying t = some (.map kt e)) (hkd : P.underlying kt = some kd)
    (hm : (m' = .map none ∧ ents = #[]) ∨ ∃ B clk, m' = .map (some B) ∧ w.heap[B]? = some (.map ents clk)) (hc : ∀ em, (Instr.checkKey em 10000 kt k').run P w = .ok () w)
    (hf : Instr.findNow kd k' ents.toList 0 = some f) (hz : (zeroValue e).run P w = .ok z w) (hb : match (generalizing := false) f with | some x => b = x.2 | none => b = z) :
    (Instr.lookup t m' k' ok).run P w = .ok (if ok then .tuple #[b, .bool f.isSome] else b) w := by
  have hfk := Go.MapKept.run_findKey (P := P) (w := w) hkd hf
  rcases hm with ⟨rfl, rfl⟩ | ⟨B, clk, rfl, hB⟩
  · unfold Instr.lookup
    simp only [Sem.run_bind, run_underlying hu, Result.andThen_ok, Sem.run_pure, hc, hfk]
    cases f with
    | none => simp only at hb; subst hb; simp only [Sem.run_bind, hz, Result.andThen_ok, Sem.run_pure, Option.isSome_none]
    | some x => simp only at hb; subst hb; simp only [Sem.run_bind, Result.andThen_ok, Sem.run_pure, Option.isSome_some]
  · unfold Instr.lookup
    simp only [Sem.run_bind, run_underlying hu, Result.andThen_ok, Sem.run_pure, Go.MapKept.run_getObj_map hB, hc, hfk]
    cases f with
    | none => simp only at hb; subst hb; simp only [Sem.run_bind, hz, Result.andThen_ok, Sem.run_pure, Option.isSome_none]
    | some x => simp only at hb; subst hb; simp only [Sem.run_bind, Result.andThen_ok, Sem.run_pure, Option.isSome_some]

/-- The entries of a map operand. -/
theorem map_ents {A : AW} {ρ : Rho} {w : World} (hd : Rd A ρ w) {m m' : Value} {es : List (Value × Value)} (hm : VR ρ m m') (hes : (match (generalizing := false) m with | .map none => some [] | .map (some r) => A.maps.get r | _ => none) = some es) :
    ∃ ents : Array MapEntry, ((m' = .map none ∧ ents = #[]) ∨ ∃ B clk, m' = .map (some B) ∧ w.heap[B]? = some (.map ents clk)) ∧ VRs ρ (es.map (·.1)) (ents.toList.map (·.key)) ∧ VRs ρ (es.map (·.2)) (ents.toList.map (·.val)) := by
  cases m <;> try (cases hes; done)
  rename_i r
  cases r with
  | none =>
    injection hes with hes; subst hes
    cases hm
    exact ⟨#[], .inl ⟨rfl, rfl⟩, VRs.nil ρ, VRs.nil ρ⟩
  | some r =>
    obtain ⟨L, hL, rfl⟩ := hm.map_inv
    obtain ⟨ents, clk, g1, g2, g3, g4⟩ := hd.maps r es L hes hL
    exact ⟨ents, .inr ⟨_, clk, rfl, g1⟩, g2, g3⟩

theorem lookupA_run {p : AP} {P : Program} (fa : Fa p P) {A : AW} {ρ : Rho} {w : World} (hd : Rd A ρ w) {t : TypeId} {m m' k k' v : Value} {ok : Bool} (hm : VR ρ m m') (hk : VR ρ k k') (h : lookupA p A t m k ok = some v) : RdV P ρ w (Instr.lookup t m' k' ok) v := by
  unfold lookupA at h
  split at h
  · rename_i kt e hu
    split at h
    · rename_i kd i es hkd hi hes
      split at h
      · rename_i z hz
        split at h
        · cases h
        · rename_i hc
          obtain ⟨hz0, hkk⟩ := andB_true hc
          have hzR := zero_VR ρ hz0
          obtain ⟨ents, he1, he2, he3⟩ := map_ents hd hm hes
          have hfin := fun (f : Option (Nat × Value)) (b : Value) (hf : Instr.findNow kd k' ents.toList 0 = some f) (hb : match (generalizing := false) f with | some x => b = x.2 | none => b = z) =>
            lookup_of (P := P) (ok := ok) (fa.under hu) (fa.under hkd) he1 (fun em => keyKind_check (P := P) hk (fa.under hkd) hkk em w) hf (run_zeroI fa hi hz w) hb
          split at h
          · rename_i u hl
            injection h with h; subst h
            obtain ⟨j, u', g1, g2⟩ := lookL_run hk hkk es ents.toList 0 (some u) he2 he3 hl
            refine ⟨_, ?_, hfin (some (j, u')) u' g1 rfl⟩
            cases ok with
            | true => exact two_VR g2 (.bool true)
            | false => exact g2
          · rename_i hl
            injection h with h; subst h
            have g1 := lookL_run hk hkk es ents.toList 0 none he2 he3 hl
            refine ⟨_, ?_, hfin none z g1 rfl⟩
            cases ok with
            | true => exact two_VR hzR (.bool false)
            | false => exact hzR
          · cases h
      · cases h
    · cases h
  · cases h

theorem entryA_run {P : Program} {A : AW} {ρ : Rho} {w : World} (hd : Rd A ρ w) {it it' v : Value} (hi : VR ρ it it') (h : entryA A it = some v) : RdV P ρ w (Instr.entry it') v := by
  unfold entryA at h
  split at h
  · rename_i r sp
    split at h
    · rename_i m hit
      split at h
      · rename_i k u hm
        injection h with h; subst h
        cases hi with
        | ptrg b o hlt =>
          have := hd.i100 _ _ hit
          omega
        | ptr b o L hL =>
          obtain ⟨h0, h1, o', ho, hI⟩ := hd.iters r (some m) true L hit hL
          obtain ⟨Lm, ents, clk, e1, e2, e, e3, e4⟩ := hI
          subst e4
          obtain ⟨ents2, clk2, e5, e6, e7, e8⟩ := hd.maps m _ Lm hm e1
          rw [e2] at e5
          injection e5 with e5
          injection e5 with e5 e5'
          subst e5 e5'
          rw [e3] at e6 e7
          refine ⟨.tuple #[e.key, e.val], two_VR (e6.2 0 (by simp) (by simp)) (e7.2 0 (by simp) (by simp)), ?_⟩
          have hz : L.O + 0 = 0 := by omega
          have hfind : ents.find? (fun x => x.born == e.born) = some e := by
            have : ents = #[e] := by apply Array.ext'; simpa using e3
            rw [this]; simp
          simp only [Instr.entry, hz, Sem.run_bind, run_getObj_any ho (fun _ _ _ q => by cases q), Result.andThen_ok]
          simp [Go.MapKept.run_getObj_map e2, hfind]
      · cases h
    · cases h
  · cases h
theorem len_run {p : AP} {P : Program} (fa : Fa p P) {A : AW} {ρ : Rho} {w : World} (hd : Rd A ρ w) {ts : Array TypeId} {ty : TypeId} {xs : List Value} {xs' : Array Value} {r : R} (hR : VRs ρ xs xs'.toList)
    (h : builtinA p A .len ts.toList xs = some r) (cs : Array Bool) : ∃ v, r = .val v A ∧ RdN P ρ w (builtin .len ts ty cs xs') v := by
  cases hts : ts.toList with
  | nil => rw [hts] at h; cases h
  | cons t tl =>
    rw [hts] at h
    have ht := argT hts
    cases xs with
    | nil => cases h
    | cons x xs =>
      cases xs with
      | cons y ys => cases h
      | nil =>
        obtain ⟨x', l', e1, hx, hl⟩ := hR.uncons
        have hl := hl.of_nil
        subst hl
        have hx0 : xs'[0]? = some x' := by rw [← Array.getElem?_toList, e1]; rfl
        dsimp only [builtinA] at h
        split at h
        · rename_i s hu
          cases hx
          injection h with h
          have hs : s.data.toList.length = s.size := Array.length_toList
          rw [llen0, hs] at h
          refine ⟨_, h.symm, _, .int .i64 _, ?_⟩
          simp only [builtin, Builtin.len_, ht, hx0, Sem.run_bind, run_under fa hu w, Result.andThen_ok, Sem.run_pure]
          rfl
        · rename_i n e hu
          injection h with h
          refine ⟨_, h.symm, _, .int .i64 _, ?_⟩
          simp only [builtin, Builtin.len_, ht, hx0, Sem.run_bind, run_under fa hu w, Result.andThen_ok, Sem.run_pure]
          rfl
        · rename_i e a n c hu
          injection h with h
          refine ⟨_, h.symm, _, .int .i64 _, ?_⟩
          have : ∃ a' c', x' = .slice a' n c' := by cases hx <;> exact ⟨_, _, rfl⟩
          obtain ⟨a', c', rfl⟩ := this
          simp only [builtin, Builtin.len_, ht, hx0, Sem.run_bind, run_under fa hu w, Result.andThen_ok, Sem.run_pure]
          rfl
        · rename_i kt e hu
          cases hx
          injection h with h
          refine ⟨_, h.symm, _, .int .i64 _, ?_⟩
          simp only [builtin, Builtin.len_, ht, hx0, Sem.run_bind, run_under fa hu w, Result.andThen_ok, Sem.run_pure]
          rfl
        · rename_i kt e m hu
          split at h
          · rename_i es hes
            obtain ⟨L, hL, rfl⟩ := hx.map_inv
            obtain ⟨ents, clk, g1, g2, g3, g4⟩ := hd.maps m es L hes hL
            injection h with h
            have hlen : es.length = ents.size := by have := g2.1; simpa using this
            rw [llen0, hlen] at h
            refine ⟨_, h.symm, _, .int .i64 _, ?_⟩
            simp only [builtin, Builtin.len_, ht, hx0, Sem.run_bind, run_under fa hu w, Result.andThen_ok, Go.MapKept.run_getObj_map g1, Sem.run_pure]
            rfl
          · cases h
        · cases h

/-- A READ: what the interpreter says it gives, it gives in every world that is like the abstract one. -/
theorem read_op {p : AP} {P : Program} (fa : Fa p P) {ρ : Rho} {T : Tr Value} {nt : Nat} {a : Act} {A : AW} {w : World} {o : Oper} {r : R} (hd : Rd A ρ w) (hT : TR ρ T nt a.tmps) (hk : kindOf p o = .read) (h : opA p T A o = some r) :
    ∃ v, r = .val v A ∧ RdN P ρ w (execOp a.eval o) v := by
  unfold opA at h
  unfold execOp
  unfold kindOf at hk
  cases ho : o.op with
  | load t x =>
    simp only [ho] at h hk ⊢
    obtain ⟨hx, h⟩ := g1_some h
    have hV := eval_VR hT hx
    unfold opLoad at h
    split at h
    · rename_i b hb
      rw [hb] at hV
      obtain ⟨v, e1, e2⟩ := valO_some h
      exact ⟨v, e2, (loadA_run fa hd hV e1).next⟩
    · cases h
  | lookup t m k ok =>
    simp only [ho] at h hk ⊢
    obtain ⟨hm, hkk, h⟩ := g2_some h
    obtain ⟨v, e1, e2⟩ := valO_some h
    exact ⟨v, e2, (lookupA_run fa hd (eval_VR hT hm) (eval_VR hT hkk) e1).next⟩
  | entry it =>
    simp only [ho] at h hk ⊢
    obtain ⟨hx, h⟩ := g1_some h
    obtain ⟨v, e1, e2⟩ := valO_some h
    exact ⟨v, e2, (entryA_run hd (eval_VR hT hx) e1).next⟩
  | convert src dst x =>
    simp only [ho] at h hk ⊢
    obtain ⟨hx, h⟩ := g1_some h
    split at hk <;> first | (cases hk; done) | skip
    rename_i e0 hdst hsrc
    obtain ⟨v, e1, e2⟩ := conv_read_run fa hd (eval_VR hT hx) hdst hsrc h
    exact ⟨v, e1, e2.next⟩
  | call c =>
    simp only [ho] at h hk ⊢
    obtain ⟨callee, args, argTypes⟩ := c
    cases callee with
    | builtin b =>
      have hb : b = .len := by cases b <;> first | rfl | (cases hk; done)
      subst hb
      unfold opCall at h
      split at h
      · rename_i hp
        have hv := evalL_VRs hT args.toList hp
        have h' : builtinA p A .len argTypes.toList (evalL T args.toList) = some r := h
        obtain ⟨v, h1, h2⟩ := len_run fa hd (ty := o.type) (xs' := args.map a.eval) (by rw [Array.toList_map]; exact hv) h' (args.map fun | .const _ => true | _ => false)
        exact ⟨v, h1, h2⟩
      · cases h
    | value f => cases hk
    | invoke rr m => cases hk
  | _ => simp only [ho] at hk; cases hk
end Go.AL
end

section
namespace Go.AL
open Go

theorem replZ_spec (zs : List Value) : ∀ (n : Nat), (replZ zs n).length = n * zs.length ∧ ∀ i, i < n * zs.length → (replZ zs n)[i]? = zs[i % zs.length]?
  | 0 => ⟨by simp [replZ], fun i h => by simp at h⟩
  | n + 1 => by
    obtain ⟨h1, h2⟩ := replZ_spec zs n
    refine ⟨by simp [replZ, h1, Nat.succ_mul]; omega, fun i hi => ?_⟩
    unfold replZ
    rw [Nat.succ_mul] at hi
    rcases Nat.lt_or_ge i zs.length with hlt | hge
    · rw [List.getElem?_append_left hlt, Nat.mod_eq_of_lt hlt]
    · rw [List.getElem?_append_right hge, h2 _ (by omega)]
      congr 1
      conv => rhs; rw [show i = (i - zs.length) + zs.length from by omega, Nat.add_mod_right]
theorem row_zero (z : Array Value) (n : Nat) (hz : 1 ≤ z.size) : ((Array.range (n * z.size)).map fun i => z[i % z.size]!).toList = replZ z.toList n := by
  obtain ⟨h1, h2⟩ := replZ_spec z.toList n
  have hl : z.toList.length = z.size := Array.length_toList
  rw [hl] at h1 h2
  apply List.ext_getElem?
  intro i
  rcases Nat.lt_or_ge i (n * z.size) with hi | hi
  · rw [h2 i hi]
    have hm : i % z.size < z.size := Nat.mod_lt _ (by omega)
    simp [hi, hm]
  · rw [List.getElem?_eq_none (by simp; exact hi), List.getElem?_eq_none (by omega)]

/-- What an allocation of a row of cells does: the block that is new has the abstract number n. -/
def AlN (P : Program) (ρ : Rho) (n : Nat) (cells : List Value) (s : Sem Next) (v : Value) : Prop :=
  ∃ cells', VRs ρ cells cells' ∧ ∀ w, ∃ v' w1 arr e0 fr, SameMem w w1 ∧ s.run P w = .ok (.value v') (w1.alloc (.cells arr e0 fr)) ∧ (∀ j, j < arr.size → (decide (fr.1 ≤ j) && decide (j < fr.2)) = false) ∧
    (∀ (i : Nat) v, cells'[i]? = some v → arr[i]? = some v) ∧ ∀ ρ' : Rho, ρ' n = some ⟨w.heap.size, 0, arr.size, 0⟩ → VR ρ' v v'
theorem frz0 (n : Nat) : ∀ j, j < n → (decide ((0, 0).1 ≤ j) && decide (j < (0, 0).2)) = false := fun j _ => by simp

theorem newBl_some {A B : AW} {cells : List Value} {e : TypeId} {n : Nat} (h : newBl A cells e = some (n, B)) : n = A.next ∧ B = insB A cells e A.next A.next ∧ A.next + 1 ≤ lim := by
  obtain ⟨hp, f, m, i, l, k, nx⟩ := A
  dsimp only [newBl] at h
  split at h
  · rename_i hl
    injection h with h
    injection h with h1 h2
    subst h1 h2
    exact ⟨rfl, rfl, ble_true hl⟩
  · cases h
theorem ptrTo_some {q : Option (Nat × AW)} {r : R} (h : ptrTo q = some r) : ∃ n B, q = some (n, B) ∧ r = .val (.pointer (some ⟨n, 0, none⟩)) B := by
  unfold ptrTo at h; split at h
  · injection h with h; exact ⟨_, _, rfl, h.symm⟩
  · cases h

/-- The result of an allocation. -/
def AlR (P : Program) (ρ : Rho) (A : AW) (r : R) (s : Sem Next) : Prop :=
  ∃ v cells e, r = .val v (insB A cells e A.next A.next) ∧ A.next + 1 ≤ lim ∧ AlN P ρ A.next cells s v

theorem ptr_new {ρ' : Rho} {n B Z : Nat} (h : ρ' n = some ⟨B, 0, Z, 0⟩) : VR ρ' (.pointer (some ⟨n, 0, none⟩)) (.pointer (some ⟨B, 0, none⟩)) := VR.ptr n 0 _ h
theorem sl_new {ρ' : Rho} {n B Z l c : Nat} (h : ρ' n = some ⟨B, 0, Z, 0⟩) (hl : l ≤ c) : VR ρ' (.slice (some ⟨n, 0, none⟩) l c) (.slice (some ⟨B, 0, none⟩) l c) := VR.sl n 0 l c _ h hl

theorem alloc_run {p : AP} {P : Program} (fa : Fa p P) {ρ : Rho} {A : AW} {e : TypeId} {r : R} (h : opAlloc p A e = some r) : AlR P ρ A r (do pure (.value (← Instr.alloc e true (.tuple #[])))) := by
  unfold opAlloc at h
  split at h
  · rename_i i hi
    split at h
    · rename_i z hz
      split at h
      · rename_i hp
        obtain ⟨n, B, h1, rfl⟩ := ptrTo_some h
        obtain ⟨rfl, rfl, hl⟩ := newBl_some h1
        refine ⟨_, _, e, rfl, hl, cellsL z, plainC_VRs ρ hp, fun w => ⟨.pointer (some ⟨w.heap.size, 0, none⟩), w, z.cells, e, (0, 0), SameMem.refl w, ?_, frz0 _, fun i v hv => by rw [cellsL_eq] at hv; simpa using hv, fun ρ' hρ => ptr_new hρ⟩⟩
        simp only [Instr.alloc, Sem.run_bind, run_zeroI fa hi hz w, Result.andThen_ok, newVar, newRow, run_newObj, Sem.run_pure]
        rfl
      · cases h
    · cases h
  · cases h

theorem box_run {P : Program} {ρ : Rho} {A : AW} {e : TypeId} {x : Operand} {T : Tr Value} {nt : Nat} {a : Act} {r : R} (hT : TR ρ T nt a.tmps) (h : opBox A e x T = some r) : AlR P ρ A r (do pure (.value (← Instr.box e (a.eval x)))) := by
  unfold opBox at h
  split at h
  · rename_i hx
    obtain ⟨n, B, h1, rfl⟩ := ptrTo_some h
    obtain ⟨rfl, rfl, hl⟩ := newBl_some h1
    refine ⟨_, _, e, rfl, hl, cellsL (a.eval x), (eval_VR hT hx).cells, fun w => ⟨.pointer (some ⟨w.heap.size, 0, none⟩), w, (a.eval x).cells, e, (0, 0), SameMem.refl w, ?_, frz0 _, fun i v hv => by rw [cellsL_eq] at hv; simpa using hv, fun ρ' hρ => ptr_new hρ⟩⟩
    simp only [Instr.box, Sem.run_bind, newVar, newRow, run_newObj, Result.andThen_ok, Sem.run_pure]
    rfl
  · cases h

theorem buildSlice_run {p : AP} {P : Program} (fa : Fa p P) {ρ : Rho} {A : AW} {t : TypeId} {len : Nat} {parts : List (Nat × Value)} {parts' : Array (Nat × Value)} {r : R} (hp : VRP ρ parts parts'.toList) (h : buildSliceA p A t len parts = some r) :
    AlR P ρ A r (do pure (.value (← Instr.buildSlice t len parts'))) := by
  unfold buildSliceA at h
  split at h
  · rename_i e hu
    split at h
    · rename_i g hg
      split at h
      · rename_i z hz
        split at h
        · cases h
        · rename_i hc
          obtain ⟨hc1, hc2⟩ := andB_true hc
          obtain ⟨hc3, hc4⟩ := andB_true hc1
          obtain ⟨hc5, hc6⟩ := andB_true hc2
          have hc4 : 1 ≤ g.size := ble_true hc4
          have hc5 : len * g.size ≤ 100000 := ble_true hc5
          have hc6 := beq_true hc6
          rw [llen0, cellsL_eq] at hc6
          have hsz : z.cells.size = g.size := by rw [← hc6]; exact Array.length_toList.symm
          split at h
          · rename_i cs hcs
            split at h
            · rename_i b B hb
              injection h with h; subst h
              obtain ⟨rfl, rfl, hl⟩ := newBl_some hb
              have hz0 : VRs ρ (replZ (cellsL z) len) (((Array.range (len * z.cells.size)).map fun i => z.cells[i % z.cells.size]!)).toList := by
                rw [row_zero z.cells len (by omega), cellsL_eq]
                have hq : VRs ρ z.cells.toList z.cells.toList := by rw [← cellsL_eq]; exact plainC_VRs ρ hc3
                have : ∀ n, VRs ρ (replZ z.cells.toList n) (replZ z.cells.toList n) := by
                  intro n
                  induction n with
                  | zero => exact VRs.nil ρ
                  | succ n ih => exact hq.app ih
                exact this len
              obtain ⟨cs', g1, g2⟩ := fillA_run _ parts parts'.toList _ _ cs hp hz0 hcs
              refine ⟨_, _, e, rfl, hl, cs'.toList, g2, fun w => ⟨.slice (some ⟨w.heap.size, 0, none⟩) len len, w, cs', e, (0, 0), SameMem.refl w, ?_, frz0 _, fun i v hv => by simpa using hv, fun ρ' hρ => sl_new hρ (Nat.le_refl _)⟩⟩
              have hgt : ¬ (len * g.size > 2 ^ 24) := by omega
              rw [hsz] at g1
              have g1' : Instr.fill (fun i => some (i * g.size, g.size)) ((Array.range (len * g.size)).map (fun x => z.cells[x % z.cells.size]!)) parts'.toList = some cs' := by rw [hsz]; exact g1
              by_cases h0 : len * g.size = 0
              · have e0 : (Array.range (len * g.size)).map (fun x => z.cells[x % z.cells.size]!) = #[] := by rw [h0]; simp
                have e1 : (Array.range (len * g.size)).map (fun x => (#[] : Array Value)[x % (#[] : Array Value).size]!) = #[] := by rw [h0]; simp
                rw [e0] at g1'
                simp only [Instr.buildSlice, Sem.run_bind, run_under fa hu w, Result.andThen_ok, run_sizeI fa hg w, if_neg hgt, if_pos h0, Sem.run_pure, e1, g1', newRow, run_newObj]
                rfl
              · simp only [Instr.buildSlice, Sem.run_bind, run_under fa hu w, Result.andThen_ok, run_sizeI fa hg w, if_neg hgt, if_neg h0, run_zeroI fa hg hz w, Sem.run_pure, g1', newRow, run_newObj]
                rfl
            · cases h
          · cases h
      · cases h
    · cases h
  · cases h
theorem makeSlice_run {p : AP} {P : Program} (fa : Fa p P) {ρ : Rho} {A : AW} {t : TypeId} {l l' c c' : Value} {r : R} (hl : VR ρ l l') (hc : VR ρ c c') (h : makeSliceA p A t l c = some r) :
    AlR P ρ A r (do pure (.value (← Instr.makeSlice t l' c'))) := by
  unfold makeSliceA at h
  split at h
  · rename_i e hu
    split at h
    · rename_i g hg
      split at h
      · rename_i z k n k' m hz
        split at h
        · cases h
        · rename_i hcc
          obtain ⟨hc1, hc2⟩ := andB_true hcc
          obtain ⟨hc3, hc4⟩ := andB_true hc1
          obtain ⟨hc6, hc7⟩ := andB_true hc2
          obtain ⟨hc8, hc9⟩ := andB_true hc7
          obtain ⟨hc10, hc11⟩ := andB_true hc9
          have hc4 : 1 ≤ g.size := ble_true hc4
          have hc8 : g.bytes ≤ 65536 := ble_true hc8
          have hc10 : n ≤ m := ble_true hc10
          have hc11 : m ≤ 1000000 := ble_true hc11
          have hc6 := beq_true hc6
          rw [llen0, cellsL_eq] at hc6
          have hsz : z.cells.size = g.size := by rw [← hc6]; exact Array.length_toList.symm
          split at h
          · rename_i b B hb
            injection h with h; subst h
            obtain ⟨rfl, rfl, hlim⟩ := newBl_some hb
            cases hl; cases hc
            have hw : ∀ q : Nat, q ≤ 1000000 → IntKind.wrap .i64 (Int.ofNat q) = (q : Int) := fun q hq => by
              rw [IntKind.wrap_i64]; show ((q : Int) + _) % _ - _ = (q : Int); omega
            have hq : VRs ρ z.cells.toList z.cells.toList := by rw [← cellsL_eq]; exact plainC_VRs ρ hc3
            have hrep : ∀ n, VRs ρ (replZ z.cells.toList n) (replZ z.cells.toList n) := by
              intro n
              induction n with
              | zero => exact VRs.nil ρ
              | succ n ih => exact hq.app ih
            refine ⟨_, _, e, rfl, hlim, replZ z.cells.toList m, by rw [cellsL_eq]; exact hrep m, fun w => ⟨.slice (some ⟨w.heap.size, 0, none⟩) n m, w, (Array.range (m * g.size)).map (fun x => z.cells[x % z.cells.size]!), e, (0, 0), SameMem.refl w, ?_, frz0 _, fun i v hv => ?_, fun ρ' hρ => sl_new hρ hc10⟩⟩
            · have hb1 : (g.bytes : Int) * (m : Int) ≤ 2 ^ 48 := by
                have h1 : g.bytes * m ≤ 65536 * 1000000 := Nat.mul_le_mul hc8 hc11
                have h2 : (g.bytes : Int) * (m : Int) = ((g.bytes * m : Nat) : Int) := by simp
                rw [h2]; omega
              have hno : ¬ ((decide ((m : Int) < 0) || decide ((g.bytes : Int) * (m : Int) > 2 ^ 48) || decide ((n : Int) < 0) || decide ((n : Int) > (m : Int))) = true) := by
                simp only [Bool.or_eq_true, decide_eq_true_eq]; omega
              have e0 : m * g.size = 0 → (Array.range (m * g.size)).map (fun x => z.cells[x % z.cells.size]!) = #[] := fun h0 => by rw [h0]; simp
              have e1 : m * g.size = 0 → (Array.range (m * g.size)).map (fun x => (#[] : Array Value)[x % (#[] : Array Value).size]!) = #[] := fun h0 => by rw [h0]; simp
              simp only [Instr.makeSlice, Sem.run_bind, run_under fa hu w, Result.andThen_ok, asInt, asIntOf, Sem.run_pure, run_typeI fa hg w, hw n (by omega), hw m (by omega), run_askRoom, run_sizeI fa hg w, Int.toNat_natCast]
              rw [if_neg hno]
              by_cases h0 : m * g.size = 0
              · simp only [if_pos h0, Sem.run_bind, Result.andThen_ok, Sem.run_pure, run_askRoom, run_sizeI fa hg w, newRow, run_newObj, e0 h0, e1 h0]
                rfl
              · simp only [if_neg h0, Sem.run_bind, Result.andThen_ok, Sem.run_pure, run_askRoom, run_sizeI fa hg w, run_zeroI fa hg hz w, newRow, run_newObj]
                rfl
            · rw [← Array.getElem?_toList, ← hsz, row_zero z.cells m (by omega)]; exact hv
          · cases h
      · cases h
    · cases h
  · cases h
end Go.AL
end

section
namespace Go.AL
open Go

/-! ## New objects: maps, ranges, loops, marks -/
theorem Sim.adoptO {base : Nat} {A : AW} {ρ : Rho} {w : World} (h : Sim base A ρ w) (hn : A.next + 1 ≤ lim) (B : Nat) (hB0 : base ≤ B) (hB1 : B < w.heap.size) (hB2 : ∀ b L, 100 ≤ b → ρ b = some L → L.B ≠ B)
    (M : Tr (List (Value × Value))) (I : Tr (Option Nat × Bool)) (Lp : Tr ALoop) (K : Tr Bool)
    (hM : ∀ r, r ≠ A.next → M.get r = A.maps.get r) (hI : ∀ r, r ≠ A.next → I.get r = A.iters.get r) (hL : ∀ r, r ≠ A.next → Lp.get r = A.loops.get r) (hK : ∀ r, r ≠ A.next → K.get r = A.marks.get r)
    (nM : ∀ es, M.get A.next = some es → ∃ ents clk, w.heap[B]? = some (.map ents clk) ∧ MapR (upd ρ A.next ⟨B, 0, 0, 0⟩) es ents clk)
    (nI : ∀ m seen, I.get A.next = some (m, seen) → (∀ k, m = some k → (M.get k).isSome) ∧ ∃ o, w.heap[B]? = some o ∧ IterR (upd ρ A.next ⟨B, 0, 0, 0⟩) w m seen o)
    (nL : ∀ l, Lp.get A.next = some l → ∃ o, w.heap[B]? = some o ∧ LoopR (upd ρ A.next ⟨B, 0, 0, 0⟩) l o)
    (nK : K.get A.next = some true → w.heap[B]? = some (.deferred (some []))) :
    Sim base { A with maps := M, iters := I, loops := Lp, marks := K, next := A.next + 1 } (upd ρ A.next ⟨B, 0, 0, 0⟩) w := by
  have hfrs : ρ A.next = none := h.fresh (Nat.le_refl _)
  have hfh : A.heap.get A.next = none := h.freshHeap (Nat.le_refl _)
  have hsub : Sub ρ (upd ρ A.next ⟨B, 0, 0, 0⟩) := sub_upd _ hfrs
  have hlo := h.lo
  have hU : ∀ b L, upd ρ A.next ⟨B, 0, 0, 0⟩ b = some L → (b = A.next ∧ L = ⟨B, 0, 0, 0⟩) ∨ (b ≠ A.next ∧ ρ b = some L) := by
    intro b L hL
    unfold upd at hL
    split at hL
    · rename_i hb; injection hL with hL; exact .inl ⟨hb, hL.symm⟩
    · rename_i hb; exact .inr ⟨hb, hL⟩
  have hne : ∀ b bl, A.heap.get b = some bl → b ≠ A.next := fun b bl hb e => by rw [e, hfh] at hb; cases hb
  have hobj : ∀ r, r ≠ A.next → isObj { A with maps := M, iters := I, loops := Lp, marks := K, next := A.next + 1 } r → isObj A r := by
    intro r hr ho
    unfold isObj at ho ⊢
    simp only at ho
    rw [hM r hr, hI r hr, hL r hr, hK r hr] at ho
    exact ho
  have hun : ∀ b bl L, A.heap.get b = some bl → upd ρ A.next ⟨B, 0, 0, 0⟩ b = some L → ρ b = some L := fun b bl L hb hL => by rw [upd_ne _ (hne b bl hb)] at hL; exact hL
  refine { bs := h.bs, lo := by show 100 ≤ A.next + 1; omega, hi := hn, dom := ?_, fixd := ?_, above := ?_, blk := ?_, own := h.own, low := h.low, there := ?_, cells := ?_, sep := ?_, fams := ?_, obj := ?_, osep := ?_, maps := ?_, iters := ?_, loops := ?_, marks := ?_ }
  · intro b L hL
    show b < A.next + 1 ∧ _
    rcases hU b L hL with ⟨rfl, rfl⟩ | ⟨_, hL⟩
    · exact ⟨by omega, hB1⟩
    · have := h.dom b L hL; exact ⟨by omega, this.2⟩
  · intro b L hL hb
    rcases hU b L hL with ⟨rfl, rfl⟩ | ⟨_, hL⟩
    · omega
    · exact h.fixd b L hL hb
  · intro b L hL hb
    rcases hU b L hL with ⟨rfl, rfl⟩ | ⟨_, hL⟩
    · exact hB0
    · exact h.above b L hL hb
  · intro b bl hb
    obtain ⟨L, hL⟩ := h.blk b bl hb
    exact ⟨L, hsub _ _ hL⟩
  · intro b bl L hb hb100 hL
    exact h.there b bl L hb hb100 (hun b bl L hb hL)
  · intro b bl L hb hal hL i v hv
    obtain ⟨v', h1, h2⟩ := h.cells b bl L hb hal (hun b bl L hb hL) i v hv
    exact ⟨v', h1, h2.mono hsub⟩
  · intro b1 b2 x1 x2 L1 L2 hb1 hb2 hL1 hL2
    exact h.sep b1 b2 x1 x2 L1 L2 hb1 hb2 (hun b1 x1 L1 hb1 hL1) (hun b2 x2 L2 hb2 hL2)
  · intro g x hg
    have := h.fams g x hg
    show 100 ≤ g ∧ g < A.next + 1 ∧ x.2 ≤ x.1 ∧ x.1 < A.next + 1
    omega
  · intro r hr
    by_cases e : r = A.next
    · subst e
      exact ⟨hlo, hfh, _, upd_same _ _ _, rfl⟩
    · obtain ⟨h1, h2, L, h3, h4⟩ := h.obj r (hobj r e hr)
      exact ⟨h1, h2, L, hsub _ _ h3, h4⟩
  · intro r b L L' hr hL1 hL2 hBB hb
    rcases hU r L hL1 with ⟨e1, rfl⟩ | ⟨e1, hL1⟩ <;> rcases hU b L' hL2 with ⟨e2, rfl⟩ | ⟨e2, hL2⟩
    · rw [e1, e2]
    · exact absurd hBB.symm (hB2 b L' hb hL2)
    · exact absurd hBB (hB2 r L (h.obj r (hobj r e1 hr)).1 hL1)
    · exact h.osep r b L L' (hobj r e1 hr) hL1 hL2 hBB hb
  · intro r es L hr hL1
    rcases hU r L hL1 with ⟨rfl, rfl⟩ | ⟨e1, hL1⟩
    · exact nM es hr
    · obtain ⟨ents, clk, g1, g2, g3, g4⟩ := h.maps r es L (by rw [← hM r e1]; exact hr) hL1
      exact ⟨ents, clk, g1, g2.mono hsub, g3.mono hsub, g4⟩
  · intro r m seen L hr hL1
    rcases hU r L hL1 with ⟨rfl, rfl⟩ | ⟨e1, hL1⟩
    · exact nI m seen hr
    · obtain ⟨hm, o, ho, hi⟩ := h.iters r m seen L (by rw [← hI r e1]; exact hr) hL1
      refine ⟨fun k hk => ?_, o, ho, ?_⟩
      · have h1 := hm k hk
        have h2 : k ≠ A.next := by
          intro e
          obtain ⟨_, _, L0, h3, _⟩ := h.obj k (.inl h1)
          rw [e, hfrs] at h3
          cases h3
        show (M.get k).isSome
        rw [hM k h2]; exact h1
      · cases m with
        | none => exact hi
        | some q =>
          obtain ⟨Lk, ents, clk, hk1, hk2⟩ := hi
          exact ⟨Lk, ents, clk, hsub _ _ hk1, hk2⟩
  · intro r l L hr hL1
    rcases hU r L hL1 with ⟨rfl, rfl⟩ | ⟨e1, hL1⟩
    · exact nL l hr
    · obtain ⟨o, ho, tm, R, hT, ho2⟩ := h.loops r l L (by rw [← hL r e1]; exact hr) hL1
      exact ⟨o, ho, tm, R, hT.mono hsub, ho2⟩
  · intro r L hr hL1
    rcases hU r L hL1 with ⟨rfl, rfl⟩ | ⟨e1, hL1⟩
    · exact nK hr
    · exact h.marks r L (by rw [← hK r e1]; exact hr) hL1

theorem byteVs_map : ∀ l : List UInt8, byteVs l = l.map fun b => Value.int .u8 b.toNat
  | [] => rfl
  | b :: l => by simp only [byteVs, List.map_cons, byteVs_map l]; rfl
theorem conv_alloc_run {p : AP} {P : Program} (fa : Fa p P) {ρ : Rho} {A : AW} {src dst e : TypeId} {x x' : Value} {r : R} (hx : VR ρ x x') (hd : p.under dst = some (.slice e)) (h : valA (convA p A src dst x) = some r) :
    AlR P ρ A r (do pure (.value (← convert src dst x'))) := by
  unfold convA at h
  rw [hd] at h
  cases x <;> simp only [] at h <;> first | (cases h; done) | skip
  rename_i s
  cases hx
  split at h
  · rename_i hs he
    split at h
    · rename_i hl
      obtain ⟨hp, f, m, i, l, k, nx⟩ := A
      dsimp only [grownA] at h
      split at h
      · cases h
      · rename_i hlim
        simp only [valA] at h
        injection h with h; subst h
        have hlen : s.data.toList.length = s.size := Array.length_toList
        refine ⟨_, byteVs s.data.toList, e, rfl, ble_true hlim, byteVs s.data.toList, ?_, fun w => ?_⟩
        · have : ∀ l : List UInt8, VRs ρ (byteVs l) (byteVs l) := by
            intro l
            induction l with
            | nil => exact VRs.nil ρ
            | cons b l ih => exact VRs.cons (.int .u8 _) ih
          exact this _
        · refine ⟨_, w.drew, _, e, _, SameMem.drew w, by rw [Sem.run_bind, run_bytes_of_string w src dst e s (fa.under hs) (fa.under hd) (fa.under he)]; rfl, fun j hj => by simp; omega, fun j v hv => ?_, fun ρ' hρ => ?_⟩
          · rw [byteVs_map] at hv
            have hj : j < s.data.toList.length := by
              have := (List.getElem?_eq_some_iff.1 hv).1
              simpa using this
            rw [hlen] at hj
            have hj' : j < s.data.size := hj
            unfold bytesRow
            rw [Array.getElem?_append_left (by simpa using hj'), ← Array.getElem?_toList, Array.toList_map]
            exact hv
          · have hcap := grownCap_ge w s.size 0 e
            have hsz : (bytesRow s (grownCap w s.size 0 e)).size = grownCap w s.size 0 e := by
              have : s.data.size = s.size := rfl
              simp [bytesRow]; omega
            rw [llen0, hlen]
            rw [hsz] at hρ
            exact VR.slx nx 0 4 s.size s.size (grownCap w s.size 0 e) _ hρ (Nat.le_refl _) (by omega) hcap (by simp)
    · cases h
  · cases h
end Go.AL
end

section
namespace Go.AL
open Go

/-! ## Effects -/
theorem VR.ptr_loc {base : Nat} {A : AW} {ρ : Rho} {w : World} (h : Sim base A ρ w) {a : Addr} {x' : Value} {L : Loc} (hx : VR ρ (.pointer (some a)) x') (hL : ρ a.block = some L) : x' = .pointer (some ⟨L.B, L.O + a.off, none⟩) := by
  cases hx with
  | ptr b o L' hb => rw [hL] at hb; injection hb with hb; subst hb; rfl
  | ptrg b o hlt =>
    obtain ⟨h1, h2, _⟩ := h.fixd b L hL hlt
    rw [h1, h2, Nat.zero_add]

theorem store_run {p : AP} {P : Program} (fa : Fa p P) {base : Nat} {A : AW} {ρ : Rho} {w : World} (h : Sim base A ρ w) {t : TypeId} {av av' v v' : Value} {x : Operand} {r : R} (ha : VR ρ av av') (hv : plainO x = true → VR ρ v v') (e : opStore p A t av x v = some r) :
    ∃ A' w', r = .skip A' ∧ (Instr.storeAt t av' v').run P w = .ok () w' ∧ Sim base A' ρ w' ∧ Ext ρ w ρ w' := by
  unfold opStore at e
  split at e
  · rename_i a hx
    have hv := hv hx
    unfold skipO at e
    split at e
    · rename_i A' hs
      injection e with e; subst e
      unfold storeA at hs
      split at hs
      · cases hs
      · rename_i i d hg
        have hi := info_of_get hg
        split at hs
        · rename_i hlen
          have hlen := beq_true hlen
          rw [llen0] at hlen
          split at hs
          · rename_i hone
            have hc := hv.cells
            have hsz : v'.cells.size = i.size := by
              have := hc.1
              rw [cellsL_eq v'] at this
              exact (Array.length_toList.symm.trans this.symm).trans hlen
            have hone' := hc.oneCell hone
            rw [cellsL_eq v'] at hone'
            by_cases hne : cellsL v = []
            · rw [hne] at hs hlen
              injection hs with hs; subst hs
              have h0 : v'.cells.toList = [] := by
                have := hc.1
                rw [hne, cellsL_eq v'] at this
                exact List.eq_nil_of_length_eq_zero this.symm
              obtain ⟨a', rfl, _⟩ := ha.ptr_add
              refine ⟨A, w, rfl, ?_, h, Ext.refl ρ w⟩
              simp only [Instr.storeAt, Instr.sureAddr, storeVar, Sem.run_bind, Sem.run_pure, Result.andThen_ok, run_sizeI fa hi w, hsz, ne_eq, not_true_eq_false, if_false, h0]
              rfl
            · obtain ⟨L, hL, hth, hS, hE⟩ := h.store hs hne hc
              rw [ha.ptr_loc h hL]
              rw [cellsL_eq v'] at hth hS hE
              refine ⟨A', _, rfl, ?_, hS, hE⟩
              have := run_storeCells_cells (P := P) L.B (L.O + a.off) v'.cells.toList 0 w (fun j hj => (hth j hj).1) (fun j hj => (hth j hj).2) hone'
              simp only [Instr.storeAt, Instr.sureAddr, storeVar, Sem.run_bind, Sem.run_pure, Result.andThen_ok, run_sizeI fa hi w, hsz, ne_eq, not_true_eq_false, if_false]
              exact this
          · cases hs
        · cases hs
    · cases e
  · cases e

/-- What an argument of append and copy yields. -/
theorem firstA_run {P : Program} {A : AW} {ρ : Rho} {w : World} (hd : Rd A ρ w) {size n : Nat} {x x' : Value} {cs : List Value} (hx : VR ρ x x') (h : firstA A size n x = some cs) :
    ∃ cs' : List Value, VRs ρ cs cs' ∧ ∀ w2, SameMem w w2 → (Builtin.firstCells size n x').run P w2 = .ok cs'.toArray w2 := by
  unfold firstA at h
  split at h
  · rename_i a m c
    split at h
    · rename_i hn
      obtain rfl := beq_true hn
      injection h with h; subst h
      have : ∃ a' c', x' = .slice (some a') m c' := by cases hx <;> exact ⟨_, _, rfl⟩
      obtain ⟨a', c', rfl⟩ := this
      exact ⟨[], VRs.nil ρ, fun w2 _ => by simp [Builtin.firstCells, loadCells, loadCellsFrom]⟩
    · split at h
      · cases h
      · rename_i hgh
        obtain ⟨L, c', hb', rfl, hn, hc, hc1, hc2⟩ := hx.slice_inv hgh
        obtain ⟨cs', g1, g2, g3⟩ := hd.range hb' h
        refine ⟨cs', g2, fun w2 hw2 => ?_⟩
        have hl : n * size = cs'.length := g3.symm.trans g2.1
        show (loadCells ⟨L.B, L.O + a.off, none⟩ (n * size)).run P w2 = _
        rw [hl]
        exact run_loadCells_list (P := P) w2 ⟨L.B, L.O + a.off, none⟩ cs' (fun j v hv => by rw [addr_add, hw2.cell]; exact g1 j v hv)
  · split at h
    · rename_i hn
      injection h with h; subst h
      cases hx
      exact ⟨[], VRs.nil ρ, fun _ _ => rfl⟩
    · cases h
  · rename_i s
    cases hx
    split at h
    · rename_i bs hb
      injection h with h; subst h
      obtain ⟨rfl, hlen⟩ := takeL_some _ _ _ hb
      have : ∀ l : List UInt8, VRs ρ (byteVs l) (byteVs l) := by
        intro l
        induction l with
        | nil => exact VRs.nil ρ
        | cons b l ih => exact VRs.cons (.int .u8 _) ih
      refine ⟨_, this _, fun w2 _ => ?_⟩
      simp only [Builtin.firstCells, Sem.run_pure]
      congr 1
      apply Array.ext'
      rw [byteVs_map]
      simp [ByteArray.data_extract, List.extract_eq_take_drop]
    · cases h
  · cases h
end Go.AL
end
