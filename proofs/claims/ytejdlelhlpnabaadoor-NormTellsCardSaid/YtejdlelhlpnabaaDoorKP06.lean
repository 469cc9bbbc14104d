/- What the head of the statements of layer 6 reads, reckoned. -/
import Derived.Test.YtejdlelhlpnabaaDoorKK04
set_option linter.all false
namespace Go.Rad
open Go Go.Proofs
abbrev tRef : ByteArray := ⟨#[123, 100, 125]⟩
abbrev tRefs : ByteArray := ⟨#[123, 100, 125, 43]⟩
abbrev tRefa : ByteArray := ⟨#[123, 100, 125, 97]⟩
abbrev tCls : ByteArray := ⟨#[91, 48, 45, 57, 93]⟩
abbrev tClss : ByteArray := ⟨#[91, 48, 45, 57, 93, 43]⟩
abbrev tD : ByteArray := ⟨#[100]⟩
abbrev nDig : Node := ⟨2, ⟨287948901175001088, 0, 0, 0⟩, [], 0, 0, ByteArray.empty⟩
abbrev nRep : Node := ⟨5, ⟨0, 0, 0, 0⟩, [0], 1, -1, ByteArray.empty⟩
abbrev nRefD : Node := ⟨6, ⟨0, 0, 0, 0⟩, [], 0, 0, tD⟩
abbrev nA : Node := ⟨2, ⟨0, 8589934592, 0, 0⟩, [], 0, 0, ByteArray.empty⟩
abbrev nCat : Node := ⟨3, ⟨0, 0, 0, 0⟩, [0, 1], 0, 0, ByteArray.empty⟩
theorem p6a : ACall Tryd.prog 20 [.str tRefs] [] fun r s => r = .tup [.sl true false (nodes [nRefD, nRep]), .int .i64 0, .int .i64 0] ∧ s = [] := parse_run (by kernel_rfl)
theorem p6b : ACall Tryd.prog 20 [.str tCls] [] fun r s => r = .tup [.sl true false (nodes [nDig]), .int .i64 0, .int .i64 0] ∧ s = [] := parse_run (by kernel_rfl)
theorem p6c : ACall Tryd.prog 20 [.str tClss] [] fun r s => r = .tup [.sl true false (nodes [nDig, nRep]), .int .i64 0, .int .i64 0] ∧ s = [] := parse_run (by kernel_rfl)
theorem p6d : ACall Tryd.prog 20 [.str tRef] [] fun r s => r = .tup [.sl true false (nodes [nRefD]), .int .i64 0, .int .i64 0] ∧ s = [] := parse_run (by kernel_rfl)
theorem p6e : ACall Tryd.prog 20 [.str tRefa] [] fun r s => r = .tup [.sl true false (nodes [nRefD, nA, nCat]), .int .i64 0, .int .i64 0] ∧ s = [] := parse_run (by kernel_rfl)
end Go.Rad
