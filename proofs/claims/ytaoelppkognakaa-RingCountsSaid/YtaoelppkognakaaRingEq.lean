/- Comparing two rings, as the model does it, tells whether the last sub-windows and the four counts are the same. -/
import Derived.Test.YtaoelppkognakaaSlot
import Derived.Laws.StructEq
import Derived.ChangeKeysEq
namespace Go.Proofs.Ytaoelppkognakaa.Ring
open Go.RowKit
set_option linter.unusedVariables false

theorem eqIn_u32 (d : Nat) (a b : Int) (w : World) : (Op.equalIn (d + 1) 22 (.int .u32 a) (.int .u32 b)).run Try.prog w = .ok (a == b) w := run_equalIn_int w d _ .u32 .u32 a b Try.underlying22

/-- Whether four counts are the same. -/
def same4 (c0 c1 c2 c3 e0 e1 e2 e3 : Int) : Bool := (c0 == e0) && ((c1 == e1) && ((c2 == e2) && (c3 == e3)))

theorem eqIn_counts (d : Nat) (c0 c1 c2 c3 e0 e1 e2 e3 : Int) (w : World) :
    (Op.equalIn (d + 2) 33 (.agg #[.int .u32 c0, .int .u32 c1, .int .u32 c2, .int .u32 c3]) (.agg #[.int .u32 e0, .int .u32 e1, .int .u32 e2, .int .u32 e3])).run Try.prog w = .ok (same4 c0 c1 c2 c3 e0 e1 e2 e3) w := by
  have hsz : ∀ w, (sizeOf 22).run Try.prog w = .ok 1 w := fun _ => by kernel_rfl
  have p0 : ∀ (a b c d : Int) w, (part 22 #[.int .u32 a, .int .u32 b, .int .u32 c, .int .u32 d] 0).run Try.prog w = .ok (.int .u32 a) w := fun _ _ _ _ _ => by kernel_rfl
  have p1 : ∀ (a b c d : Int) w, (part 22 #[.int .u32 a, .int .u32 b, .int .u32 c, .int .u32 d] 1).run Try.prog w = .ok (.int .u32 b) w := fun _ _ _ _ _ => by kernel_rfl
  have p2 : ∀ (a b c d : Int) w, (part 22 #[.int .u32 a, .int .u32 b, .int .u32 c, .int .u32 d] 2).run Try.prog w = .ok (.int .u32 c) w := fun _ _ _ _ _ => by kernel_rfl
  have p3 : ∀ (a b c d : Int) w, (part 22 #[.int .u32 a, .int .u32 b, .int .u32 c, .int .u32 d] 3).run Try.prog w = .ok (.int .u32 d) w := fun _ _ _ _ _ => by kernel_rfl
  rw [Op.equalIn]
  simp only [Sem.run_bind, run_underlying Try.underlying33, Result.andThen_ok, hsz, Std.Legacy.Range.forIn_eq_forIn_range', Std.Legacy.Range.size, Nat.sub_zero, Nat.add_sub_cancel, Nat.div_one]
  rw [show List.range' 0 4 1 = [0, 1, 2, 3] from rfl]
  simp only [List.forIn_cons, Sem.run_bind, Nat.zero_mul, Nat.one_mul, p0, eqIn_u32, Result.andThen_ok, Nat.reduceMul]
  unfold same4
  cases h0 : (c0 == e0) <;> cases h1 : (c1 == e1) <;> cases h2 : (c2 == e2) <;> cases h3 : (c3 == e3) <;> simp [Sem.run_bind, p1, p2, p3, eqIn_u32, h1, h2, h3]

/-- Whether two rings are the same. -/
def same5 (l c0 c1 c2 c3 m e0 e1 e2 e3 : Int) : Bool := (l == m) && same4 c0 c1 c2 c3 e0 e1 e2 e3
theorem eqIn_ring (d : Nat) (l c0 c1 c2 c3 m e0 e1 e2 e3 : Int) (w : World) :
    (Op.equalIn (d + 3) 35 (.agg #[.int .u32 l, .int .u32 c0, .int .u32 c1, .int .u32 c2, .int .u32 c3]) (.agg #[.int .u32 m, .int .u32 e0, .int .u32 e1, .int .u32 e2, .int .u32 e3])).run Try.prog w = .ok (same5 l c0 c1 c2 c3 m e0 e1 e2 e3) w := by
  have q0 : ∀ (z a b c d : Int) w, (part 22 #[.int .u32 z, .int .u32 a, .int .u32 b, .int .u32 c, .int .u32 d] 0).run Try.prog w = .ok (.int .u32 z) w := fun _ _ _ _ _ _ => by kernel_rfl
  have q1 : ∀ (z a b c d : Int) w, (part 33 #[.int .u32 z, .int .u32 a, .int .u32 b, .int .u32 c, .int .u32 d] 1).run Try.prog w = .ok (.agg #[.int .u32 a, .int .u32 b, .int .u32 c, .int .u32 d]) w := fun _ _ _ _ _ _ => by kernel_rfl
  rw [run_equalIn_struct w (d + 2) 35 _ _ (by kernel_rfl) (by kernel_rfl)]
  rw [show (Try.prog.fieldsOf 35).toList = [(Try.prog.fieldsOf 35)[0]!, (Try.prog.fieldsOf 35)[1]!] from by kernel_rfl]
  simp only [Op.eqFields, show (Try.prog.fieldsOf 35)[0]!.name = "Last" from by kernel_rfl, show (Try.prog.fieldsOf 35)[0]!.type = 22 from by kernel_rfl, show (Try.prog.fieldsOf 35)[0]!.offset = 0 from by kernel_rfl, show (Try.prog.fieldsOf 35)[1]!.name = "Counts" from by kernel_rfl, show (Try.prog.fieldsOf 35)[1]!.type = 33 from by kernel_rfl, show (Try.prog.fieldsOf 35)[1]!.offset = 1 from by kernel_rfl]
  rw [if_pos (by decide), if_pos (by decide)]
  simp only [Sem.run_bind, q0, eqIn_u32, Result.andThen_ok]
  unfold same5
  cases h0 : (l == m) <;> cases h1 : same4 c0 c1 c2 c3 e0 e1 e2 e3 <;> simp [Sem.run_bind, q1, eqIn_counts, h1]

theorem neq_ring (l c0 c1 c2 c3 m e0 e1 e2 e3 : Int) (w : World) :
    (binOp .neq 35 (.agg #[.int .u32 l, .int .u32 c0, .int .u32 c1, .int .u32 c2, .int .u32 c3]) (.agg #[.int .u32 m, .int .u32 e0, .int .u32 e1, .int .u32 e2, .int .u32 e3])).run Try.prog w = .ok (.bool (!same5 l c0 c1 c2 c3 m e0 e1 e2 e3)) w := by
  rw [run_neq_struct, eqIn_ring 9997]
  rfl
theorem eql_ring (l c0 c1 c2 c3 m e0 e1 e2 e3 : Int) (w : World) :
    (binOp .eql 35 (.agg #[.int .u32 l, .int .u32 c0, .int .u32 c1, .int .u32 c2, .int .u32 c3]) (.agg #[.int .u32 m, .int .u32 e0, .int .u32 e1, .int .u32 e2, .int .u32 e3])).run Try.prog w = .ok (.bool (same5 l c0 c1 c2 c3 m e0 e1 e2 e3)) w := by
  rw [run_eql_struct, eqIn_ring 9997]
  rfl

theorem eqIn_rring (d : Nat) (l c0 c1 c2 c3 m e0 e1 e2 e3 : Int) (w : World) :
    (Op.equalIn (d + 3) 38 (.agg #[.int .u32 l, .int .u32 c0, .int .u32 c1, .int .u32 c2, .int .u32 c3]) (.agg #[.int .u32 m, .int .u32 e0, .int .u32 e1, .int .u32 e2, .int .u32 e3])).run Try.prog w = .ok (same5 l c0 c1 c2 c3 m e0 e1 e2 e3) w := by
  have q0 : ∀ (z a b c d : Int) w, (part 22 #[.int .u32 z, .int .u32 a, .int .u32 b, .int .u32 c, .int .u32 d] 0).run Try.prog w = .ok (.int .u32 z) w := fun _ _ _ _ _ _ => by kernel_rfl
  have q1 : ∀ (z a b c d : Int) w, (part 33 #[.int .u32 z, .int .u32 a, .int .u32 b, .int .u32 c, .int .u32 d] 1).run Try.prog w = .ok (.agg #[.int .u32 a, .int .u32 b, .int .u32 c, .int .u32 d]) w := fun _ _ _ _ _ _ => by kernel_rfl
  rw [run_equalIn_struct w (d + 2) 38 _ _ (by kernel_rfl) (by kernel_rfl)]
  rw [show (Try.prog.fieldsOf 38).toList = [(Try.prog.fieldsOf 38)[0]!, (Try.prog.fieldsOf 38)[1]!] from by kernel_rfl]
  simp only [Op.eqFields, show (Try.prog.fieldsOf 38)[0]!.name = "Last" from by kernel_rfl, show (Try.prog.fieldsOf 38)[0]!.type = 22 from by kernel_rfl, show (Try.prog.fieldsOf 38)[0]!.offset = 0 from by kernel_rfl, show (Try.prog.fieldsOf 38)[1]!.name = "Counts" from by kernel_rfl, show (Try.prog.fieldsOf 38)[1]!.type = 33 from by kernel_rfl, show (Try.prog.fieldsOf 38)[1]!.offset = 1 from by kernel_rfl]
  rw [if_pos (by decide), if_pos (by decide)]
  simp only [Sem.run_bind, q0, eqIn_u32, Result.andThen_ok]
  unfold same5
  cases h0 : (l == m) <;> cases h1 : same4 c0 c1 c2 c3 e0 e1 e2 e3 <;> simp [Sem.run_bind, q1, eqIn_counts, h1]

theorem neq_rring (l c0 c1 c2 c3 m e0 e1 e2 e3 : Int) (w : World) :
    (binOp .neq 38 (.agg #[.int .u32 l, .int .u32 c0, .int .u32 c1, .int .u32 c2, .int .u32 c3]) (.agg #[.int .u32 m, .int .u32 e0, .int .u32 e1, .int .u32 e2, .int .u32 e3])).run Try.prog w = .ok (.bool (!same5 l c0 c1 c2 c3 m e0 e1 e2 e3)) w := by
  rw [run_neq_struct, eqIn_rring 9997]
  rfl
theorem eql_rring (l c0 c1 c2 c3 m e0 e1 e2 e3 : Int) (w : World) :
    (binOp .eql 38 (.agg #[.int .u32 l, .int .u32 c0, .int .u32 c1, .int .u32 c2, .int .u32 c3]) (.agg #[.int .u32 m, .int .u32 e0, .int .u32 e1, .int .u32 e2, .int .u32 e3])).run Try.prog w = .ok (.bool (same5 l c0 c1 c2 c3 m e0 e1 e2 e3)) w := by
  rw [run_eql_struct, eqIn_rring 9997]
  rfl
end Go.Proofs.Ytaoelppkognakaa.Ring
