/- The law holds in the program: the row. -/
import Derived.Test.YtakkdddfihpeiaaGreatDoorRunC
import Derived.Test.YtakkdddfihpeiaaGreatDoorLawB
import Derived.Test.YtakkdddfihpeiaaGreatDoorRows
import Derived.ProofKit
import Derived.OpenShut
import Derived.LaidMore
import Derived.Lay
import Derived.Carry
import Derived.Test.YtakkdddfihpeiaaGreatDoorFacts
import Derived.Test.YtakkdddfihpeiaaGreatDoorFactsA
import Derived.Test.YtakkdddfihpeiaaGreatDoorFactsC
import Derived.SevenTiedAt
import Derived.Stop.Joined
set_option linter.all false

section
namespace Go.Proofs.YtakkdddfihpeiaaGreatDoor
open Go.ChangeShapes Go.WideShapes Go.ChangeAt Go.RowKit Go.AL

/-! ## The cells of the listed variables -/
theorem int_cells {P : Program} {W : World} {name : String} {g t n e : Nat} {kd : IntKind} {zs : List Int} (hg : P.globalNamed name = some g) (ht : (P.globals[g]?).map (·.type) = some t) (hu : P.underlying t = some (.array n e)) (he : P.underlying e = some (.int kd)) (hc : P.cellsOf e = 1)
    (h : ∃ g' t' cs fuel p, P.globalNamed name = some g' ∧ (P.globals[g']?).map (·.type) = some t' ∧ W.var? P name = some cs ∧ DataW.trod (fun _ => ()) P W 0 (fun _ => true) false fuel t' cs.toList = some ((.agg (zs.map fun n => .lit (.int kd n)) : DataW Unit), p)) :
    g < W.heap.size ∧ ∀ (i : Nat) v, (zs.map fun z => Value.int kd z)[i]? = some v → W.cell? ⟨g, i, none⟩ = some v := by
  obtain ⟨g', t', cs, fuel, p, hg', ht', hv, hd⟩ := h
  obtain rfl := Option.some.inj (hg.symm.trans hg')
  obtain rfl := Option.some.inj (ht.symm.trans ht')
  obtain ⟨xs, m, _, ex, _, hl, hel⟩ := DataW.trod_array hu hd
  have e3 : (xs.map (·.1)) = zs.map fun n => .lit (.int kd n) := (DataW.agg.inj (Prod.mk.inj ex).1).symm
  refine ⟨?_, fun i v hi => ?_⟩
  · have hv2 := hv
    simp only [World.var?, hg, Option.bind_some] at hv2
    split at hv2
    · rename_i hb
      exact (Array.getElem?_eq_some_iff.1 hb).1
    · cases hv2
  · rw [List.getElem?_map] at hi
    cases hz : zs[i]? with
    | none => rw [hz] at hi; cases hi
    | some z =>
      rw [hz] at hi
      injection hi with hi
      subst hi
      have e4 : (xs.map (·.1))[i]? = (zs.map fun n => (DataW.lit (.int kd n) : DataW Unit))[i]? := by rw [e3]
      rw [List.getElem?_map, List.getElem?_map, hz] at e4
      cases hx : xs[i]? with
      | none => rw [hx] at e4; cases e4
      | some x =>
        rw [hx] at e4
        have hin : i < n := by rw [← hl]; exact (List.getElem?_eq_some_iff.1 hx).1
        have hE := hel i hin
        rw [hc, Nat.mul_one, hx] at hE
        obtain ⟨z', e1, e2, _⟩ := DataW.trod_int he hE
        have hzz : z' = z := by
          rw [e2] at e4
          simpa using e4
        subst hzz
        rw [World.var?_cell hg hv i]
        have h0 : ((cs.toList.drop i).take 1)[0]? = some (.int kd z') := by rw [e1]; rfl
        have h1 : cs.toList[i]? = some (.int kd z') := by simpa using h0
        simpa using h1
theorem laid_mem {P : Program} {w : World} : ∀ {l : List (String × DataW Unit)} {ps : List MemPlace}, DataW.LaidVars P w l ps → ∀ n d, (n, d) ∈ l → ∃ g t cs fuel p, P.globalNamed n = some g ∧ (P.globals[g]?).map (·.type) = some t ∧ w.var? P n = some cs ∧ DataW.trod (fun _ => ()) P w 0 (fun _ => true) false fuel t cs.toList = some (d, p)
  | [], _, _, _, _, hm => by cases hm
  | (a, b) :: r, ps, h, n, d, hm => by
    obtain ⟨g, t, cs, fuel, p, q, h1, h2, h3, h4, h5, _⟩ := h
    rcases List.mem_cons.1 hm with e | hm
    · injection e with e1 e2
      subst e1 e2
      exact ⟨g, t, cs, fuel, p, h1, h2, h3, h4⟩
    · exact laid_mem h5 n d hm
theorem laid_plain : (Rows.federationNewRow.laid.all fun x => x.2.handleName?.isNone) = true := by kernel_rfl
theorem g0 : Tryz.prog.globalNamed "internal/strconv.uint64pow10" = some 0 := by kernel_rfl
theorem g7 : Tryz.prog.globalNamed "customs/calendar.monthLengths" = some 7 := by kernel_rfl
theorem g8 : Tryz.prog.globalNamed "customs/nomenclature.lengths" = some 8 := by kernel_rfl
theorem t0 : (Tryz.prog.globals[0]?).map (·.type) = some 518 := by kernel_rfl
theorem t7 : (Tryz.prog.globals[7]?).map (·.type) = some 678 := by kernel_rfl
theorem t8 : (Tryz.prog.globals[8]?).map (·.type) = some 679 := by kernel_rfl
def pows : List Int := [1, 10, 100, 1000, 10000, 100000, 1000000, 10000000, 100000000, 1000000000, 10000000000, 100000000000, 1000000000000, 10000000000000, 100000000000000, 1000000000000000, 10000000000000000, 100000000000000000, 1000000000000000000, 10000000000000000000]
def months : List Int := [31, 28, 31, 30, 31, 30, 31, 31, 30, 31, 30, 31]
def lens : List Int := [2, 4, 6, 8]
theorem laid_cells {W : World} (h : laidMetH Tryz.prog Rows.federationNewRow.laid W) : ∀ b cs, (b, cs) ∈ GL → b < W.heap.size ∧ ∀ (i : Nat) v, cs[i]? = some v → W.cell? ⟨b, i, none⟩ = some v := by
  rw [MakeChecks.laidMetH_plain _ _ _ laid_plain] at h
  obtain ⟨ps, h, _, _⟩ := h
  have h0 := int_cells (zs := pows) (kd := .u64) g0 t0 Tryz.underlying518 Tryz.underlying405 (by kernel_rfl) (laid_mem h _ _ (.head _))
  have h7 := int_cells (zs := months) (kd := .i64) g7 t7 Tryz.underlying678 Tryz.underlying3 (by kernel_rfl) (laid_mem h _ _ (.tail _ (.tail _ (.tail _ (.head _)))))
  have h8 := int_cells (zs := lens) (kd := .i64) g8 t8 Tryz.underlying679 Tryz.underlying3 (by kernel_rfl) (laid_mem h _ _ (.tail _ (.tail _ (.tail _ (.tail _ (.head _))))))
  intro b cs hm
  have hm' : (b, cs) ∈ [(0, pows.map fun z => Value.int .u64 z), (7, months.map fun z => Value.int .i64 z), (8, lens.map fun z => Value.int .i64 z)] := hm
  simp only [List.mem_cons, List.mem_nil_iff, or_false, Prod.mk.injEq] at hm'
  rcases hm' with ⟨rfl, rfl⟩ | ⟨rfl, rfl⟩ | ⟨rfl, rfl⟩
  · exact h0
  · exact h7
  · exact h8

/-- THE LAW, in the program. -/
theorem law_calls {W : World} (hw : ∀ b cs, (b, cs) ∈ GL → b < W.heap.size ∧ ∀ (i : Nat) v, cs[i]? = some v → W.cell? ⟨b, i, none⟩ = some v) (n : Int) (raw : Bool) {q q' : Value} (hq : isQ q) (hR : VR (ρG GL) q q') :
    Calls Tryz.prog 3 #[.int .i64 n, .bool raw, q'] W fun e W' => e = .returned (.bool true) ∧ Keeps W W' := by
  obtain ⟨A', hA⟩ := law_true n raw hq
  exact acall_keeps_calls fa1 mixed gl_ok hA rfl hw (VRs.cons (.int _ _) (VRs.cons (.bool _) (VRs.cons hR (VRs.nil _))))
end Go.Proofs.YtakkdddfihpeiaaGreatDoor
end

section
namespace Go.Proofs.YtakkdddfihpeiaaGreatDoor
open Go.ChangeShapes Go.WideShapes Go.ChangeAt Go.RowKit Go.AL
set_option maxRecDepth 100000
noncomputable def w0 (os : Os) : World := World.laidAll Tryz.prog os Rows.federationNewRow.laid
noncomputable def args0 : Array Value := #[.int .i64 0, .bool true, .slice none 0 0]
theorem wit_zip (os : Os) : ((w0 os).forCall (fun _ _ => 0) ⟨#[], args0, []⟩).variablesZipB Tryz.prog = true := by kernel_rfl
theorem wit_rest (os : Os) : (((w0 os).forCall (fun _ _ => 0) ⟨#[], args0, []⟩).heap.toList.drop Tryz.prog.globals.size).take ((begin Tryz.prog (fun _ _ => 0) default).world.heap.size - Tryz.prog.globals.size) =
      (begin Tryz.prog (fun _ _ => 0) default).world.heap.toList.drop Tryz.prog.globals.size := by kernel_rfl
theorem wit_ok (os : Os) : Input.okWideB Tryz.prog ((w0 os).forCall (fun _ _ => 0) ⟨#[], args0, []⟩) 3 ⟨#[], args0, []⟩ = true := by kernel_rfl
theorem wit_pre (os : Os) (H : Type) (enc : TypeId × Value → H) : Rows.federationNewSpec.preB enc Tryz.prog Tryz.f3 Rows.federationNewRow.domain false ((w0 os).forCall (fun _ _ => 0) ⟨#[], args0, []⟩).memory args0 8 = true := by kernel_rfl
theorem wit_size (os : Os) (H : Type) (enc : TypeId × Value → H) : Rows.federationNewSpec.sizedB enc Tryz.prog Tryz.f3 false ((w0 os).forCall (fun _ _ => 0) ⟨#[], args0, []⟩).memory args0 8 = true := by kernel_rfl
theorem wit_fits (os : Os) : (World.holding Tryz.prog os ⟨#[], #[], []⟩).layFits Tryz.prog Rows.federationNewRow.laid [] = true := by kernel_rfl
theorem wit_ifaces (os : Os) : (World.holding Tryz.prog os ⟨#[], #[], []⟩).layIfaces Tryz.prog Rows.federationNewRow.laid (World.laidAll Tryz.prog os Rows.federationNewRow.laid) = true := by kernel_rfl

theorem lifted (os : Os) (started : os.Started) (H : Type) (enc : TypeId × Value → H) :
    ReturnsInHanded {} Tryz.checked os 3 .any (fun w args => (Rows.federationNewSpec.pre enc Tryz.prog Tryz.f3 Rows.federationNewRow.domain false w args ∧ laidMetH Tryz.prog Rows.federationNewRow.laid w) ∧ sizedMet enc Tryz.prog Tryz.f3 (OpenSpec.ofChange Rows.federationNewSpec) false w args)
      (Rows.federationNewSpec.post enc Tryz.prog Tryz.f3 false true false false) := by
  refine returnsInHanded_of_change_and (C := Tryz.checked) (X := fun w _ => laidMetH Tryz.prog Rows.federationNewRow.laid w) (fun _ _ _ hh h => h.of_heap hh) own started noInit Tryz.func3
    (ChangeSpec.witness_shaped (enc := enc) (C := Tryz.checked) (os := os) (X := fun w _ => laidMetH Tryz.prog Rows.federationNewRow.laid w) false (w0 os) args0 8 (World.laidAll_os _ _ _)
      (World.shaped_of_ZipB (wit_zip os) (wit_rest os)) (wit_ok os) (wit_pre os H enc) (wit_size os H enc)
      (by rw [MakeChecks.laidMetH_plain _ _ _ laid_plain]; exact laidMet_laidAll _ (wit_fits os) (wit_ifaces os))) ?_
  intro W base args ds gs before hval0 hW _ _ hL _
  have hval : ∀ (j : Nat) t v, Tryz.f3.params[j]? = some t → args[j]? = some v → Value.okWide Tryz.prog W .any base t v := hval0
  have hW' := hW
  obtain ⟨p, q, hA0, hV, rfl, _, _⟩ := hW
  have hA : DataW.TrodAll enc Tryz.prog W 0 (fun _ => true) true Tryz.f3.params.toList args.toList ds p := hA0
  rw [Tryz.params3] at hA hval
  obtain ⟨v0, v1, v2, d0, d1, d2, p0, p1, p2, rfl, rfl, rfl, h0, h1, h2⟩ := trodAll_three hA
  obtain ⟨rfl, rfl⟩ := trodVars_none hV
  obtain ⟨x, rfl, rfl, rfl, wx⟩ := open_int Tryz.underlying3 (hval 0 3 v0 rfl rfl) h0
  obtain ⟨raw, rfl, rfl, rfl⟩ := open_bool Tryz.underlying4 (hval 1 4 v1 rfl rfl) h1
  obtain ⟨a0, len, cap, rfl⟩ := okWide_slice Tryz.underlying22 (hval 2 22 v2 rfl rfl)
  have h2k := h2
  obtain ⟨fuel, hf⟩ := h2
  clear hA0 hval0
  have hlt : ∀ y ∈ p2, y.block < W.heap.size := fun y hy => by simpa using hW'.lt y (by simpa using hy)
  have hargs : ∀ (W' : World), Below W.heap.size W W' → DataW.Trod enc Tryz.prog W' 0 (fun b => decide (b < W.heap.size)) true 22 (.slice a0 len cap) d2 p2 :=
    fun W' hn => Below.trod laidOut read22 (by rw [size875]; decide) h2k hn hlt
  have hcells := laid_cells hL
  have fin : Calls Tryz.prog 3 #[.int .i64 x, .bool raw, .slice a0 len cap] W fun e W' => e = .returned (.bool true) ∧ Keeps W W' := by
    rcases open_ints Tryz.underlying22 Tryz.underlying3 cells3 hf with ⟨hcs, _⟩ | ⟨a, len', cap', zs, hcs, _, hl, _⟩
    · simp [Value.cells] at hcs
      obtain ⟨rfl, rfl, rfl⟩ := hcs
      exact law_calls hcells x raw (q := .slice none 0 0) (Or.inl rfl) .sl0
    · simp [Value.cells] at hcs
      obtain ⟨rfl, rfl, rfl⟩ := hcs
      exact law_calls hcells x raw (q := sl len) (Or.inr ⟨len, rfl⟩) (.slg _ _ _ hl)
  refine fin.mono fun e W' ⟨he, hk⟩ => ?_
  subst he
  have hb : Below W.heap.size W W' := ⟨hk.os, hk.tape, hk.output, hk.size, hk.heap⟩
  exact ⟨_, rfl, ⟨_, _, _, [], _, [], hW', trodAll_mk1 (shut_bool Tryz.underlying4 _), trodAll_mk3 (shut_int Tryz.underlying3 wx) (shut_bool Tryz.underlying4 _) (hargs _ hb), rfl, hb.frame _, fun h => by cases h⟩⟩
end Go.Proofs.YtakkdddfihpeiaaGreatDoor
end

section
namespace Go.Proofs.YtakkdddfihpeiaaGreatDoor
open Go.ChangeShapes Go.WideShapes Go.ChangeAt Go.RowKit Go.AL
set_option maxRecDepth 100000
theorem closed : joinedFacts Tryz.prog 3 Tryz.f3 Rows.federationNewSpec Rows.federationNewRow = true := by
  unfold joinedFacts
  exact andT (andT (andT (andT (andT (andT (andT (andT (andT (andT (andT (andT (andT (andT (andT (andT (andT (andT (andT (andT (andT (andT (andT (andT (andT (andT (andT (andT (andT (andT (andT
    k1 laidOut) rowed) k4) k5) rfl) k7) rfl) k9) k10) k11) k12) k13) k14) k15) k16) k17) k17b) k18) k19) k20) k21) k22) rfl) k23b) k24) k24b) k24c) rfl) rfl) k27) k28
theorem named3 : Tryz.prog.funcNamed "customs/customslaw39.FederationNew" = some 3 := by kernel_rfl
theorem holds : Rows.FederationNewSaid :=
  OpenClaim.holds_of_wide 3 Tryz.f3 rfl rfl rfl rfl rfl rfl rfl ⟨rfl, rfl, rfl, rfl, rfl⟩ rfl rfl rfl rfl rfl named3 Tryz.func3 closed
    (of_decide_eq_true (by kernel_rfl)) (by unfold Func.isWrapper; first | (rw [if_pos (by decide +kernel)]; kernel_rfl) | (rw [if_neg (by decide +kernel)]; exact ⟨rfl, rfl⟩))
    (fun os started H enc _ => lifted os started H enc)
end Go.Proofs.YtakkdddfihpeiaaGreatDoor
end
