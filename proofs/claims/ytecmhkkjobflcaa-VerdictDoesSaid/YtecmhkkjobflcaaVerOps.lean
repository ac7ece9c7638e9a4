/- Steps of a walk for digests written out: a digest that is built, and a digest that is stored into a variable of its own. -/
import Derived.Test.YtecmhkkjobflcaaVerPutC
import Derived.Test.YtecmhkkjobflcaaVerSame
namespace Go.Proofs.Ytecmhkkjobflcaa.Ver
open Go.RowKit Go.WideMaps Go.Maps
set_option linter.unusedVariables false
set_option linter.unusedSimpArgs false
set_option maxRecDepth 100000
variable {P : Program}
theorem wpList_build_to {ops : Array Oper} {rest : List Oper} {op : Oper} {a : Act} {w : World} {Q : Exit → Act → World → Prop} (hgd : op.guard = none) (ty : TypeId) (parts : Array (Nat × Operand)) (ho : op.op = .build ty parts)
    (vs : Array (Nat × Value)) (hp : (parts.map fun p => (p.1, a.eval p.2)) = vs) (v : Value) (hrun : (Instr.build ty vs).run P w = .ok v w)
    (h : wpList P ops Q rest (a.put op.dst v) w) : wpList P ops Q (op :: rest) a w :=
  wpList_plain hgd fun _ hK => by
    subst hp
    unfold Oper.wp execOp
    simp only [ho, Sem.run_bind, hrun, Result.andThen_ok, Sem.run_pure]
    exact hK _ _ h
theorem wpList_store_to {ops : Array Oper} {rest : List Oper} {op : Oper} {a : Act} {w W : World} {Q : Exit → Act → World → Prop} (hgd : op.guard = none) (ty : TypeId) (x y : Operand) (ho : op.op = .store ty x y)
    (b : Nat) (hx : a.eval x = .pointer (some ⟨b, 0, none⟩)) (v : Value) (hy : a.eval y = v) (hrun : (storeVar ty ⟨b, 0, none⟩ v).run P w = .ok () W)
    (h : wpList P ops Q rest (a.put op.dst undef) W) : wpList P ops Q (op :: rest) a w :=
  wpList_plain hgd fun _ hK => by
    unfold Oper.wp execOp
    simp only [ho, hx, hy, Instr.storeAt, Instr.sureAddr, Sem.run_bind, Sem.run_pure, Result.andThen_ok, hrun]
    exact hK _ _ h
/-- A digest goes into a block of 32 cells: the world behind it is a letter. -/
theorem store_var {w : World} {b : Nat} {ys vs : List Value} (h : w.heap[b]? = some (.cells ys.toArray 48)) (hl : vs.length = 32) (hy : ys.length = 32) (h1 : ∀ v ∈ vs, v.oneCell' = true) :
    ∃ W, (storeVar 48 ⟨b, 0, none⟩ (.agg vs.toArray)).run Try.prog w = .ok () W ∧ W.heap[b]? = some (.cells vs.toArray 48) ∧ w.grownBy W (some b) := by
  have ht : w.there b 0 vs.toArray.size := by
    have := there_of h
    rw [hy] at this
    simpa [hl] using this
  have h2 := run_storeVar_mid (P := Try.prog) w b 0 48 vs.toArray ht (by simpa [hl] using sizeHash) (all_oneCell_toArray h1)
  refine ⟨_, h2, ?_, grow_setCells vs b 0 w⟩
  have := setCells_block vs b 0 w _ _ h
  rw [ovw_all _ _ (hl.trans hy.symm)] at this
  exact this
end Go.Proofs.Ytecmhkkjobflcaa.Ver
