import Derived.Test.YtdhhibppcckbkaaReadM2
import Derived.Test.YtdhhibppcckbkaaStrc
namespace Go.Proofs.Ytdhhibppcckbkaa
open Go.RowKit
set_option linter.unusedVariables false
set_option linter.unusedSimpArgs false
theorem textR_le (n : Int) (hn : 0 ≤ n) (s : St) : ((textR n s).1.size : Int) ≤ n := by
  have h := numR_bound 0 n s
  unfold textR
  dsimp only
  generalize numR 0 n s = a at *
  obtain ⟨m, s1⟩ := a
  dsimp only at *
  have hm : 0 ≤ m ∧ m ≤ n := by omega
  obtain ⟨m, rfl⟩ := Int.eq_ofNat_of_zero_le hm.1
  have := cutF_len m s1
  omega
theorem shortR_le (n : Int) (hn : 0 ≤ n) (s : St) : ((shortR n s).1.size : Int) ≤ n := textR_le n hn s
def zMs : Array Value := #[.int .i64 0, .int .i64 0, .int .i64 0, .int .i64 0, .string ⟨#[]⟩, .int .i64 0, .int .i64 0, .int .i64 0, .string ⟨#[]⟩, .slice none 0 0, .slice none 0 0, .int .i64 0, .string ⟨#[]⟩, .slice none 0 0, .int .i64 0, .slice none 0 0, .int .i64 0, .int .i64 0, .string ⟨#[]⟩, .int .i64 0, .string ⟨#[]⟩]
theorem bkSize : (Try.prog.info? 29).map (·.size) = some 6 := by kernel_rfl
theorem ctSize : (Try.prog.info? 26).map (·.size) = some 3 := by kernel_rfl
theorem sgSize : (Try.prog.info? 84).map (·.size) = some 2 := by kernel_rfl
theorem rqSize : (Try.prog.info? 61).map (·.size) = some 3 := by kernel_rfl
theorem inSize : (Try.prog.info? 3).map (·.size) = some 1 := by kernel_rfl
theorem stSize : (Try.prog.info? 9).map (·.size) = some 1 := by kernel_rfl
end Go.Proofs.Ytdhhibppcckbkaa
