/- Contracts of package num's functions (those that this translation holds), each at every number of its kind: what it returns, and that it changes nothing that was there. -/
import Derived.Test.YtaoelppkognakaaProg
import Derived.Handy
import Derived.Outline
import Derived.WalkLawsBesides
import Derived.WalkSpells
import Derived.WalkSmall
import Derived.Deep.QuietTactic
import Derived.BigQuiet
namespace Go.Proofs.Ytaoelppkognakaa.Num
open Go.RowKit
set_option linter.unusedVariables false

theorem ret_pair {k : IntKind} {a b : Int} {x y : Bool} (h : a = b) (g : x = y) : Ending.returned (.tuple #[.int k a, .bool x]) = .returned (.tuple #[.int k b, .bool y]) := by rw [h, g]
theorem ret_int {k : IntKind} {a b : Int} (h : a = b) : Ending.returned (.int k a) = .returned (.int k b) := by rw [h]
theorem ret_bool {x y : Bool} (g : x = y) : Ending.returned (.bool x) = .returned (.bool y) := by rw [g]

theorem u8 {n : Int} (h : (Lit.int .u8 n).wf = true) : 0 ≤ n ∧ n < 256 := by
  simp [Lit.wf, IntKind.min, IntKind.max, IntKind.bits, IntKind.signed] at h; omega
theorem u32 {n : Int} (h : (Lit.int .u32 n).wf = true) : 0 ≤ n ∧ n < 4294967296 := by
  simp [Lit.wf, IntKind.min, IntKind.max, IntKind.bits, IntKind.signed] at h; omega
theorem u64 {n : Int} (h : (Lit.int .u64 n).wf = true) : 0 ≤ n ∧ n < 18446744073709551616 := by
  simp [Lit.wf, IntKind.min, IntKind.max, IntKind.bits, IntKind.signed] at h; omega
theorem i32 {n : Int} (h : (Lit.int .i32 n).wf = true) : -2147483648 ≤ n ∧ n < 2147483648 := by
  simp [Lit.wf, IntKind.min, IntKind.max, IntKind.bits, IntKind.signed] at h; omega
theorem i64 {n : Int} (h : (Lit.int .i64 n).wf = true) : -9223372036854775808 ≤ n ∧ n < 9223372036854775808 := by
  simp [Lit.wf, IntKind.min, IntKind.max, IntKind.bits, IntKind.signed] at h; omega

theorem ret_one {u v : Value} (h : u = v) : Ending.returned u = .returned v := by rw [h]
/-- Two calls, one behind the other, each of which changes nothing that was there. -/
theorem seq {a b c : World} (h : Below a.heap.size a b) (k : Below b.heap.size b c) : Below a.heap.size a c := h.trans (k.mono h.size)
theorem drw {B : Nat} {a b : World} (h : Below B a b) (n : Nat) : Below B a (b.drewN n) := below_drewN h n
theorem size_drw (w : World) (n : Nat) : (w.drewN n).heap.size = w.heap.size := rfl
/-- A call behind draws. -/
theorem sed {a b c : World} {n : Nat} (h : Below a.heap.size a b) (k : Below (b.drewN n).heap.size (b.drewN n) c) : Below a.heap.size a c := seq (drw h n) k

theorem split_c (n : Int) (h0 : 0 ≤ n) (h1 : n < 18446744073709551616) (w : World) :
    Calls Try.prog 64 #[.int .u64 n] w fun e w' => e = .returned (.tuple #[.int .u32 (n / 4294967296), .int .u32 (n % 4294967296)]) ∧ w' = w := by
  go_enter Try.func64, Try.ntmps64
  go_wp2
  go_returns
  exact ⟨rfl, rfl⟩

/-- What fits: the number and true; else 0 and false. -/
def fit (n : Int) : Int := if n < 4294967296 then n else 0
def fitB (n : Int) : Bool := decide (n < 4294967296)

theorem narrow_c (n : Int) (h0 : 0 ≤ n) (h1 : n < 18446744073709551616) (w : World) :
    Calls Try.prog 63 #[.int .u64 n] w fun e w' => e = .returned (.tuple #[.int .u32 (fit n), .bool (fitB n)]) ∧ w' = w := by
  by_cases h : n < 4294967296
  · have hb : (n / 4294967296 != 0) = false := by rw [bne_eq_false_iff_eq]; omega
    go_enter Try.func63, Try.ntmps63
    go_wp2_with (go_at_call 64; refine (split_c _ h0 h1 _).mono ?_; rintro e w' ⟨rfl, rfl⟩)
    go_returns
    exact ⟨ret_pair (by unfold fit; omega) (by unfold fitB; simp; omega), rfl⟩
  · have hb : (n / 4294967296 != 0) = true := by rw [bne_iff_ne]; omega
    go_enter Try.func63, Try.ntmps63
    go_wp2_with (go_at_call 64; refine (split_c _ h0 h1 _).mono ?_; rintro e w' ⟨rfl, rfl⟩)
    go_returns
    exact ⟨ret_pair (by unfold fit; omega) (by unfold fitB; simp; omega), rfl⟩

theorem fits1_c (x : Int) (h0 : 0 ≤ x) (h1 : x < 18446744073709551616) (b : Nat) (w : World) (c0 : w.cell? ⟨b, 0, none⟩ = some (.int .u64 x)) :
    Calls Try.prog 62 #[.slice (some ⟨b, 0, none⟩) 1 1] w fun e w' => e = .returned (.tuple #[.int .u32 (fit x), .bool (fitB x)]) ∧ w' = w := by
  go_enter Try.func62, Try.ntmps62
  go_wp2
  refine wp_loop_rounds 2 ?_
  rw [rounds_succ]
  go_wp2
  rw [rounds_succ]
  go_wp2_with (go_at_call 63; refine (narrow_c _ (by omega) (by omega) _).mono ?_; rintro e w' ⟨rfl, rfl⟩)
  go_returns
  exact ⟨rfl, rfl⟩

theorem fits2_c (x y : Int) (h0 : 0 ≤ x) (g0 : 0 ≤ y) (h1 : x + y < 18446744073709551616) (b : Nat) (w : World) (c0 : w.cell? ⟨b, 0, none⟩ = some (.int .u64 x)) (c1 : w.cell? ⟨b, 1, none⟩ = some (.int .u64 y)) :
    Calls Try.prog 62 #[.slice (some ⟨b, 0, none⟩) 2 2] w fun e w' => e = .returned (.tuple #[.int .u32 (fit (x + y)), .bool (fitB (x + y))]) ∧ w' = w := by
  go_enter Try.func62, Try.ntmps62
  go_wp2
  refine wp_loop_rounds 3 ?_
  rw [rounds_succ]
  go_wp2
  rw [rounds_succ]
  go_wp2
  rw [rounds_succ]
  go_wp2_with (go_at_call 63; refine (narrow_c _ (by omega) (by omega) _).mono ?_; rintro e w' ⟨rfl, rfl⟩)
  go_returns
  exact ⟨rfl, rfl⟩

theorem add32_c (a b : Int) (a0 : 0 ≤ a) (a1 : a < 4294967296) (b0 : 0 ≤ b) (b1 : b < 4294967296) (w : World) :
    Calls Try.prog 55 #[.int .u32 a, .int .u32 b] w fun e w' => e = .returned (.tuple #[.int .u32 (fit (a + b)), .bool (fitB (a + b))]) ∧ Below w.heap.size w w' := by
  go_enter Try.func55, Try.ntmps55
  go_wp2_with (go_at_call 62; refine (fits2_c a b a0 b0 (by omega) _ _ (by simp) (by simp)).mono ?_; rintro e w' ⟨rfl, rfl⟩)
  go_returns
  exact ⟨rfl, by go_grown⟩

theorem mul32_c (a b : Int) (a0 : 0 ≤ a) (a1 : a < 4294967296) (b0 : 0 ≤ b) (b1 : b < 4294967296) (hm : 0 ≤ a * b) (hm1 : a * b < 18446744073709551616) (w : World) :
    Calls Try.prog 53 #[.int .u32 a, .int .u32 b] w fun e w' => e = .returned (.tuple #[.int .u32 (fit (a * b)), .bool (fitB (a * b))]) ∧ Below w.heap.size w w' := by
  go_enter Try.func53, Try.ntmps53
  go_wp2_with (go_at_call 62; refine (fits1_c (a * b) hm hm1 _ _ (by simp)).mono ?_; rintro e w' ⟨rfl, rfl⟩)
  go_returns
  exact ⟨rfl, by go_grown⟩
end Go.Proofs.Ytaoelppkognakaa.Num
