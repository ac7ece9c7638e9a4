/- Two window states of the document's that are the same are the same to the program. -/
import Derived.Test.YtaoelppkognakaaRingEq
namespace Go.Proofs.Ytaoelppkognakaa.Ring
open Go.RowKit Go.Proofs.Ytaoelppkognakaa.Num
set_option linter.unusedVariables false
set_option linter.unusedSimpArgs false
theorem eqIn_rwin (d : Nat) (m l c0 c1 c2 c3 n k e0 e1 e2 e3 : Int) (w : World) :
    (Op.equalIn (d + 4) 59 (.agg #[.int .u32 m, .int .u32 l, .int .u32 c0, .int .u32 c1, .int .u32 c2, .int .u32 c3]) (.agg #[.int .u32 n, .int .u32 k, .int .u32 e0, .int .u32 e1, .int .u32 e2, .int .u32 e3])).run Try.prog w = .ok ((m == n) && same5 l c0 c1 c2 c3 k e0 e1 e2 e3) w := by
  have q0 : ∀ (z a b c d f : Int) w, (part 22 #[.int .u32 z, .int .u32 a, .int .u32 b, .int .u32 c, .int .u32 d, .int .u32 f] 0).run Try.prog w = .ok (.int .u32 z) w := fun _ _ _ _ _ _ _ => by kernel_rfl
  have q1 : ∀ (z a b c d f : Int) w, (part 38 #[.int .u32 z, .int .u32 a, .int .u32 b, .int .u32 c, .int .u32 d, .int .u32 f] 1).run Try.prog w = .ok (.agg #[.int .u32 a, .int .u32 b, .int .u32 c, .int .u32 d, .int .u32 f]) w := fun _ _ _ _ _ _ _ => by kernel_rfl
  rw [run_equalIn_struct w (d + 3) 59 _ _ (by kernel_rfl) (by kernel_rfl)]
  rw [show (Try.prog.fieldsOf 59).toList = [(Try.prog.fieldsOf 59)[0]!, (Try.prog.fieldsOf 59)[1]!] from by kernel_rfl]
  simp only [Op.eqFields, show (Try.prog.fieldsOf 59)[0]!.name = "Min" from by kernel_rfl, show (Try.prog.fieldsOf 59)[0]!.type = 22 from by kernel_rfl, show (Try.prog.fieldsOf 59)[0]!.offset = 0 from by kernel_rfl, show (Try.prog.fieldsOf 59)[1]!.name = "Ring" from by kernel_rfl, show (Try.prog.fieldsOf 59)[1]!.type = 38 from by kernel_rfl, show (Try.prog.fieldsOf 59)[1]!.offset = 1 from by kernel_rfl]
  rw [if_pos (by decide), if_pos (by decide)]
  simp only [Sem.run_bind, q0, eqIn_u32, Result.andThen_ok]
  cases h0 : (m == n) <;> cases h1 : same5 l c0 c1 c2 c3 k e0 e1 e2 e3 <;> simp [Sem.run_bind, q1, eqIn_rring, h1]
theorem same5_self (l c0 c1 c2 c3 : Int) : same5 l c0 c1 c2 c3 l c0 c1 c2 c3 = true := by unfold same5 same4; simp
theorem neq_wsame (m l c0 c1 c2 c3 : Int) (w : World) : (binOp .neq 59 (.agg #[.int .u32 m, .int .u32 l, .int .u32 c0, .int .u32 c1, .int .u32 c2, .int .u32 c3]) (.agg #[.int .u32 m, .int .u32 l, .int .u32 c0, .int .u32 c1, .int .u32 c2, .int .u32 c3])).run Try.prog w = .ok (.bool false) w := by
  rw [run_neq_struct, eqIn_rwin 9996, same5_self, beq_self_eq_true]
  rfl
theorem eql_wsame (m l c0 c1 c2 c3 : Int) (w : World) : (binOp .eql 59 (.agg #[.int .u32 m, .int .u32 l, .int .u32 c0, .int .u32 c1, .int .u32 c2, .int .u32 c3]) (.agg #[.int .u32 m, .int .u32 l, .int .u32 c0, .int .u32 c1, .int .u32 c2, .int .u32 c3])).run Try.prog w = .ok (.bool true) w := by
  rw [run_eql_struct, eqIn_rwin 9996, same5_self, beq_self_eq_true]
  rfl
end Go.Proofs.Ytaoelppkognakaa.Ring
