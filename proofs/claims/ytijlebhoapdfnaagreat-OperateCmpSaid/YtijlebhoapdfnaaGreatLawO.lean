import Derived.Test.YtijlebhoapdfnaaGreatOperM
import Derived.Test.YtijlebhoapdfnaaGreatRows3
import Derived.Test.YtijlebhoapdfnaaGreatFrame
import Derived.Test.YtijlebhoapdfnaaGreatLocal
/- ch 16: the laws' own small functions. -/
namespace Go.Proofs.YtijlebhoapdfnaaGreat
set_option linter.unusedSimpArgs false
open Go.RowKit
set_option linter.unusedVariables false
theorem lnum_ok (W : World) (n : Int) : Calls Tryz.prog 37 #[.int .i64 n] W fun e W' => e = .returned (.agg #[.int .i64 2, .int .i64 n, .string ⟨#[]⟩]) ∧ Below W.heap.size W W' := by
 go_enter Tryz.func37, Tryz.ntmps37
 go_wp2
 exact bodyPost_ret (v := .agg #[.int .i64 2, .int .i64 n, .string ⟨#[]⟩]) (by simp [results, Tryz.results37, go_sem]) rfl ⟨rfl, by exact belowA⟩
theorem lstr_ok (W : World) (s : ByteArray) : Calls Tryz.prog 36 #[.string s] W fun e W' => e = .returned (.agg #[.int .i64 3, .int .i64 0, .string s]) ∧ Below W.heap.size W W' := by
 go_enter Tryz.func36, Tryz.ntmps36
 go_wp2
 exact bodyPost_ret (v := .agg #[.int .i64 3, .int .i64 0, .string s]) (by simp [results, Tryz.results36, go_sem]) rfl ⟨rfl, by exact belowA⟩
theorem lyes_ok (W : World) (b : Bool) : Calls Tryz.prog 38 #[.bool b] W fun e W' => e = .returned (.agg #[.int .i64 1, .int .i64 (if b = true then 1 else 0), .string ⟨#[]⟩]) ∧ Below W.heap.size W W' := by
 cases b
 ·
  go_enter Tryz.func38, Tryz.ntmps38
  go_wp2
  exact bodyPost_ret (v := .agg #[.int .i64 1, .int .i64 0, .string ⟨#[]⟩]) (by simp [results, Tryz.results38, go_sem]) rfl ⟨rfl, by exact belowA⟩
 ·
  go_enter Tryz.func38, Tryz.ntmps38
  go_wp2
  exact bodyPost_ret (v := .agg #[.int .i64 1, .int .i64 1, .string ⟨#[]⟩]) (by simp [results, Tryz.results38, go_sem]) rfl ⟨rfl, by exact belowA⟩
theorem none_z (W : World) : Calls Tryz.prog 39 #[excZ] W fun e W' => e = .returned (.bool true) ∧ Below W.heap.size W W' := by
 go_enter Tryz.func39, Tryz.ntmps39
 go_wp2
 go_ret
 exact ⟨rfl, by exact belowA⟩
theorem raised_type (W : World) : Calls Tryz.prog 40 #[excN typeError, .string typeError] W fun e W' => e = .returned (.bool true) ∧ Below W.heap.size W W' := by
 go_enter Tryz.func40, Tryz.ntmps40
 go_wp2
 go_ret
 exact ⟨rfl, by exact belowA⟩
end Go.Proofs.YtijlebhoapdfnaaGreat
/- ch 16: what comes in. -/
namespace Go.Proofs.YtijlebhoapdfnaaGreat
set_option linter.unusedSimpArgs false
open Go.RowKit
set_option linter.unusedVariables false
theorem okWide_array {P : Program} {w : World} {r : Reach} {base : Nat} {t e : TypeId} {n : Nat} {v : Value} (ht : P.underlying t = some (.array n e)) (h : Value.okWide P w r base t v) : ∃ cs, v = .agg cs ∧ cs.size = P.cellsOf t := by
 simp only [Value.okWide, ht] at h
 obtain ⟨cs, h1, h2, _⟩ := h
 exact ⟨cs, h1, h2⟩
section
variable {HT : Type} {enc : TypeId × Value → HT} {w : World} {base : Nat} {spare : Nat → Bool} {held : Bool}
end
end Go.Proofs.YtijlebhoapdfnaaGreat
