/- Closed facts of the program and of the row. -/
import Derived.Test.YtakkdddfihpeiaaGreatDoorRows
import Derived.KernelRfl
import Derived.Lay
import Derived.JoinedOf
set_option linter.all false

section
namespace Go.Proofs.YtakkdddfihpeiaaGreatDoor
open Go
set_option maxRecDepth 100000

/-! ## The book of a type, quickly -/
theorem grown_fix {P : Program} {s : List TypeId} (h : P.grow s = s) : ∀ n, P.grown n s = s
  | 0 => rfl
  | n + 1 => by unfold Program.grown; rw [h]; exact grown_fix h n
theorem grown_add {P : Program} : ∀ (k m : Nat) (s : List TypeId), P.grown (k + m) s = P.grown m (P.grown k s)
  | 0, m, s => by rw [Nat.zero_add]; rfl
  | k + 1, m, s => by
    rw [Nat.succ_add]
    show P.grown (k + m) (P.grow s) = P.grown m (P.grown k (P.grow s))
    exact grown_add k m _
theorem book_of {P : Program} {t : TypeId} {s : List TypeId} (k : Nat) (hk : k ≤ P.types.size) (h1 : P.grown k [t] = s) (h2 : P.grow s = s) : P.book t = s := by
  unfold Program.book
  obtain ⟨m, e⟩ := Nat.exists_eq_add_of_le hk
  rw [e, grown_add, h1]
  exact grown_fix h2 m
theorem size875 : Tryz.prog.types.size = 875 := Tryz.types_size
theorem book3 : Tryz.prog.book 3 = [3] := book_of 0 (Nat.zero_le _) rfl (by kernel_rfl)
theorem book4 : Tryz.prog.book 4 = [4] := book_of 0 (Nat.zero_le _) rfl (by kernel_rfl)
theorem book22 : Tryz.prog.book 22 = [22, 3] := book_of 1 (by rw [size875]; decide) (by kernel_rfl) (by kernel_rfl)
theorem read3 : Tryz.prog.readableRec 3 = true := by unfold Program.readableRec; rw [book3]; kernel_rfl
theorem read4 : Tryz.prog.readableRec 4 = true := by unfold Program.readableRec; rw [book4]; kernel_rfl
theorem read22 : Tryz.prog.readableRec 22 = true := by unfold Program.readableRec; rw [book22]; kernel_rfl
theorem loops3 : Tryz.prog.loopsFrom 3 = false := by unfold Program.loopsFrom; rw [book3]; kernel_rfl
theorem loops4 : Tryz.prog.loopsFrom 4 = false := by unfold Program.loopsFrom; rw [book4]; kernel_rfl
theorem parts22 : Tryz.prog.partsOf 22 = [3] := by kernel_rfl
theorem parts3 : Tryz.prog.partsOf 3 = [] := by kernel_rfl
theorem loops22 : Tryz.prog.loopsFrom 22 = false := by
  unfold Program.loopsFrom
  rw [book22]
  simp only [List.any_cons, List.any_nil, parts22, parts3, book3]
  decide
theorem maps3 : Tryz.prog.mapsRec 3 = false := by unfold Program.mapsRec; rw [book3]; kernel_rfl
theorem maps4 : Tryz.prog.mapsRec 4 = false := by unfold Program.mapsRec; rw [book4]; kernel_rfl
theorem maps22 : Tryz.prog.mapsRec 22 = false := by unfold Program.mapsRec; rw [book22]; kernel_rfl
theorem ifaces3 : Tryz.prog.ifacesRec 3 = false := by unfold Program.ifacesRec; rw [book3]; kernel_rfl
theorem ifaces4 : Tryz.prog.ifacesRec 4 = false := by unfold Program.ifacesRec; rw [book4]; kernel_rfl
theorem ifaces22 : Tryz.prog.ifacesRec 22 = false := by unfold Program.ifacesRec; rw [book22]; kernel_rfl
theorem wide3 : Tryz.prog.wideKeysFrom 3 = false := by unfold Program.wideKeysFrom; rw [book3]; kernel_rfl
theorem wide4 : Tryz.prog.wideKeysFrom 4 = false := by unfold Program.wideKeysFrom; rw [book4]; kernel_rfl
theorem wide22 : Tryz.prog.wideKeysFrom 22 = false := by unfold Program.wideKeysFrom; rw [book22]; kernel_rfl
theorem veiled3 : Tryz.prog.veiledRec 3 = false := by unfold Program.veiledRec; rw [book3]; kernel_rfl
theorem veiled4 : Tryz.prog.veiledRec 4 = false := by unfold Program.veiledRec; rw [book4]; kernel_rfl
theorem veiled22 : Tryz.prog.veiledRec 22 = false := by unfold Program.veiledRec; rw [book22]; kernel_rfl
end Go.Proofs.YtakkdddfihpeiaaGreatDoor
end

section
namespace Go.Proofs.YtakkdddfihpeiaaGreatDoor
open Go
set_option maxRecDepth 100000
theorem u8parts : Tryz.prog.partsOf 5 = [] := by kernel_rfl
theorem book391 : Tryz.prog.book 391 = [391] := book_of 0 (Nat.zero_le _) rfl (by kernel_rfl)
theorem book518 : Tryz.prog.book 518 = [518, 405] := book_of 1 (by rw [size875]; decide) (by kernel_rfl) (by kernel_rfl)
theorem book621 : Tryz.prog.book 621 = [621, 5] := book_of 1 (by rw [size875]; decide) (by kernel_rfl) (by kernel_rfl)
theorem book622 : Tryz.prog.book 622 = [622, 5] := book_of 1 (by rw [size875]; decide) (by kernel_rfl) (by kernel_rfl)
theorem book678 : Tryz.prog.book 678 = [678, 3] := book_of 1 (by rw [size875]; decide) (by kernel_rfl) (by kernel_rfl)
theorem book679 : Tryz.prog.book 679 = [679, 3] := book_of 1 (by rw [size875]; decide) (by kernel_rfl) (by kernel_rfl)
theorem book719 : Tryz.prog.book 719 = [719, 5] := book_of 1 (by rw [size875]; decide) (by kernel_rfl) (by kernel_rfl)
theorem book722 : Tryz.prog.book 722 = [722, 721, 5] := book_of 2 (by rw [size875]; decide) (by kernel_rfl) (by kernel_rfl)
theorem own_of {t : TypeId} {s : List TypeId} (h : Tryz.prog.book t = s) (k : (s.any fun u => match Tryz.prog.underlying u with | some (.func ..) | some (.chan ..) | some .unsafePointer => true | _ => false) = false) : Tryz.prog.veiledOwn t = true := by
  have : Tryz.prog.veiledRec t = false := by unfold Program.veiledRec; rw [h]; exact k
  unfold Program.veiledOwn
  rw [this]
  rfl
theorem vo3 : Tryz.prog.veiledOwn 3 = true := own_of book3 (by kernel_rfl)
theorem vo4 : Tryz.prog.veiledOwn 4 = true := own_of book4 (by kernel_rfl)
theorem vo22 : Tryz.prog.veiledOwn 22 = true := own_of book22 (by kernel_rfl)
theorem vo391 : Tryz.prog.veiledOwn 391 = true := own_of book391 (by kernel_rfl)
theorem vo518 : Tryz.prog.veiledOwn 518 = true := own_of book518 (by kernel_rfl)
theorem vo621 : Tryz.prog.veiledOwn 621 = true := own_of book621 (by kernel_rfl)
theorem vo622 : Tryz.prog.veiledOwn 622 = true := own_of book622 (by kernel_rfl)
theorem vo678 : Tryz.prog.veiledOwn 678 = true := own_of book678 (by kernel_rfl)
theorem vo679 : Tryz.prog.veiledOwn 679 = true := own_of book679 (by kernel_rfl)
theorem vo719 : Tryz.prog.veiledOwn 719 = true := own_of book719 (by kernel_rfl)
theorem vo722 : Tryz.prog.veiledOwn 722 = true := own_of book722 (by kernel_rfl)
theorem andT {a b : Bool} (ha : a = true) (hb : b = true) : (a && b) = true := by rw [ha, hb]; rfl
theorem eqT {α : Type} [BEq α] [LawfulBEq α] {a b : α} (h : b = a) : (a == b) = true := by rw [h]; exact beq_self_eq_true a

theorem k1 : Rows.federationNewRow.wf (OpenSpec.ofChange Rows.federationNewSpec) = true := by kernel_rfl
theorem pars : Tryz.f3.params = #[3, 4, 22] := Tryz.params3
theorem ress : Tryz.f3.resultTypes = #[4] := by kernel_rfl
theorem parsV : Tryz.f3.params.toList ++ Rows.federationNewSpec.plain.varTypes Tryz.prog = [3, 4, 22] := by kernel_rfl
theorem parsR : Tryz.f3.params.toList ++ Rows.federationNewSpec.plain.varTypes Tryz.prog ++ Tryz.f3.resultTypes.toList = [3, 4, 22, 4] := by kernel_rfl
theorem k4 : Tryz.f3.params.all (Tryz.prog.readableRec ·) = true := by rw [pars]; simp [read3, read4, read22]
theorem k5 : namedTie Tryz.prog Rows.federationNewRow.named Rows.federationNewSpec.vars = true := by kernel_rfl
theorem k7 : (Tryz.prog.stops == []) = true := by kernel_rfl
theorem k9 : (Tryz.prog.stopKnobs == []) = true := by kernel_rfl
theorem k14 : (Rows.federationNewRow.maps == (Tryz.f3.params.toList ++ Rows.federationNewSpec.plain.varTypes Tryz.prog).any (Tryz.prog.mapsRec ·)) = true := by
  rw [parsV]; simp only [List.any_cons, List.any_nil, maps3, maps4, maps22]; rfl
theorem k15 : (Rows.federationNewRow.ifaces == (Tryz.f3.params.toList ++ Rows.federationNewSpec.plain.varTypes Tryz.prog).any (Tryz.prog.ifacesRec ·)) = true := by
  rw [parsV]; simp only [List.any_cons, List.any_nil, ifaces3, ifaces4, ifaces22]; rfl
theorem k16 : (Rows.federationNewRow.mapsOut == Tryz.prog.mapsAmong Tryz.f3.resultTypes.toList) = true := by kernel_rfl
theorem k17 : (Rows.federationNewRow.loops == (Tryz.f3.params.toList ++ Rows.federationNewSpec.plain.varTypes Tryz.prog).any (Tryz.prog.loopsFrom ·)) = true := by
  rw [parsV]; simp only [List.any_cons, List.any_nil, loops3, loops4, loops22]; rfl
theorem k17b : (Rows.federationNewRow.wideKeys == (Tryz.f3.params.toList ++ Rows.federationNewSpec.plain.varTypes Tryz.prog ++ Tryz.f3.resultTypes.toList).any (Tryz.prog.wideKeysFrom ·)) = true := by
  rw [parsR]; simp only [List.any_cons, List.any_nil, wide3, wide4, wide22]; rfl
theorem k18 : Rows.federationNewSpec.vars.all (Tryz.prog.varReadable ·) = true := rfl
theorem k19 : Tryz.f3.resultTypes.all (fun t => Tryz.prog.readableRec t && decide (t < Tryz.prog.types.size)) = true := by
  rw [ress]; simp [read4, size875]
theorem k20 : (Rows.federationNewRow.ifacesOut == Tryz.f3.resultTypes.toList.any (Tryz.prog.ifacesRec ·)) = true := by
  rw [ress]; simp only [List.any_cons, List.any_nil, ifaces4]; rfl
theorem k21 : (Rows.federationNewRow.loopsOut == Tryz.f3.resultTypes.toList.any (Tryz.prog.loopsFrom ·)) = true := by
  rw [ress]; simp only [List.any_cons, List.any_nil, loops4]; rfl
theorem k22 : (Rows.federationNewRow.plainKeys == Tryz.prog.plainKeys) = true := by kernel_rfl
theorem k23b : Tryz.prog.stopsHeard = true := by kernel_rfl
theorem k24 : Tryz.prog.mayEnter = true := by kernel_rfl
theorem k24b : (Rows.federationNewRow.lifted == Tryz.prog.liftsFinal) = true := by kernel_rfl
theorem k24c : (Tryz.prog.make == some Rows.federationNewRow.make) = true := by kernel_rfl
theorem k27 : (Rows.federationNewRow.veiled == (Tryz.f3.params.toList ++ Rows.federationNewSpec.plain.varTypes Tryz.prog ++ Tryz.f3.resultTypes.toList).any (Tryz.prog.veiledRec ·)) = true := by
  rw [parsR]; simp only [List.any_cons, List.any_nil, veiled3, veiled4, veiled22]; rfl
theorem laidTypes : (Rows.federationNewRow.laid.filterMap fun x => (Tryz.prog.globalNamed x.1).bind fun g => (Tryz.prog.globals[g]?).map (·.type)) = [518, 621, 622, 678, 679, 719, 722, 391, 391] := by kernel_rfl
theorem k28 : Rows.federationNewRow.veiledFits Tryz.prog Tryz.f3.params.toList (Tryz.f3.params.toList ++ Rows.federationNewSpec.plain.varTypes Tryz.prog ++ Tryz.f3.resultTypes.toList) = true := by
  unfold OpenClaim.veiledFits
  rw [parsR, laidTypes]
  have e : (([3, 4, 22, 4] ++ [518, 621, 622, 678, 679, 719, 722, 391, 391] : List TypeId).all (Tryz.prog.veiledOwn ·)) = true := by
    simp only [List.cons_append, List.nil_append, List.all_cons, List.all_nil, vo3, vo4, vo22, vo391, vo518, vo621, vo622, vo678, vo679, vo719, vo722]; rfl
  rw [e]
  rfl
end Go.Proofs.YtakkdddfihpeiaaGreatDoor
end

section
namespace Go.Proofs.YtakkdddfihpeiaaGreatDoor
open Go
set_option maxRecDepth 100000
theorem own : ownKnob Tryz.prog.godebug = none := by kernel_rfl
theorem noInit : Tryz.prog.inits.idxOf? 3 = none := by kernel_rfl
theorem rowed : mapsRowed Tryz.prog = true := by kernel_rfl
theorem cells3 : Tryz.prog.cellsOf 3 = 1 := by kernel_rfl
end Go.Proofs.YtakkdddfihpeiaaGreatDoor
end
