/-
  What this seat's program says of its types and functions, as rules for the walks.
  Conditions: none.
-/
import Derived.Test.YtciadbhnodgpgaaK6
import Derived.Test.YtciadbhnodgpgaaProg
set_option linter.unusedVariables false
set_option linter.unusedSimpArgs false
set_option linter.defProp false
namespace Go.Proofs.Ytciadbhnodgpgaa
open Go
set_option maxRecDepth 100000
theorem tyUs : (tyU Try.prog 3 = some (.int (IntKind.i64))) ∧
  (tyU Try.prog 4 = some (.bool)) ∧
  (tyU Try.prog 5 = some (.int (IntKind.u8))) ∧
  (tyU Try.prog 9 = some (.string)) ∧
  (tyU Try.prog 22 = some (.slice 24)) ∧
  (tyU Try.prog 23 = some (.slice 9)) ∧
  (tyU Try.prog 24 = some (.slice 9)) ∧
  (tyU Try.prog 27 = some (.pointer 55)) ∧
  (tyU Try.prog 29 = some (.slice 23)) ∧
  (tyU Try.prog 41 = some (.pointer 72)) ∧
  (tyU Try.prog 47 = some (.pointer 81)) ∧
  (tyU Try.prog 52 = some (.pointer 60)) ∧
  (tyU Try.prog 58 = some (.map 9 52)) ∧
  (tyU Try.prog 69 = some (.pointer 77)) ∧
  (tyU Try.prog 75 = some (.map 9 69)) ∧
  (tyU Try.prog 78 = some (.pointer 86)) ∧
  (tyU Try.prog 84 = some (.map 9 78)) ∧
  (tyU Try.prog 90 = some (.slice 5)) ∧
  (tyU Try.prog 120 = some (.int (IntKind.u64))) ∧
  (tyU Try.prog 122 = some (.int (IntKind.i64))) ∧
  (tyU Try.prog 129 = some (.int (IntKind.u32))) ∧
  (tyU Try.prog 131 = some (.int (IntKind.u64))) ∧
  (tyU Try.prog 132 = some (.int (IntKind.u64))) ∧
  (tyU Try.prog 136 = some (.pointer 3)) := by
  refine ⟨?_, ?_, ?_, ?_, ?_, ?_, ?_, ?_, ?_, ?_, ?_, ?_, ?_, ?_, ?_, ?_, ?_, ?_, ?_, ?_, ?_, ?_, ?_, ?_⟩
  all_goals rfl
theorem tySs : (tyS Try.prog 3 = 1) ∧
  (tyS Try.prog 4 = 1) ∧
  (tyS Try.prog 5 = 1) ∧
  (tyS Try.prog 9 = 1) ∧
  (tyS Try.prog 22 = 1) ∧
  (tyS Try.prog 23 = 1) ∧
  (tyS Try.prog 24 = 1) ∧
  (tyS Try.prog 26 = 1) ∧
  (tyS Try.prog 27 = 1) ∧
  (tyS Try.prog 29 = 1) ∧
  (tyS Try.prog 39 = 1) ∧
  (tyS Try.prog 41 = 1) ∧
  (tyS Try.prog 47 = 1) ∧
  (tyS Try.prog 52 = 1) ∧
  (tyS Try.prog 55 = 2) ∧
  (tyS Try.prog 58 = 1) ∧
  (tyS Try.prog 60 = 3) ∧
  (tyS Try.prog 69 = 1) ∧
  (tyS Try.prog 72 = 2) ∧
  (tyS Try.prog 75 = 1) ∧
  (tyS Try.prog 77 = 3) ∧
  (tyS Try.prog 78 = 1) ∧
  (tyS Try.prog 81 = 2) ∧
  (tyS Try.prog 84 = 1) ∧
  (tyS Try.prog 86 = 3) ∧
  (tyS Try.prog 90 = 1) ∧
  (tyS Try.prog 98 = 1) ∧
  (tyS Try.prog 108 = 1) ∧
  (tyS Try.prog 120 = 1) ∧
  (tyS Try.prog 122 = 1) ∧
  (tyS Try.prog 129 = 1) ∧
  (tyS Try.prog 131 = 1) ∧
  (tyS Try.prog 132 = 1) ∧
  (tyS Try.prog 136 = 1) := by
  refine ⟨?_, ?_, ?_, ?_, ?_, ?_, ?_, ?_, ?_, ?_, ?_, ?_, ?_, ?_, ?_, ?_, ?_, ?_, ?_, ?_, ?_, ?_, ?_, ?_, ?_, ?_, ?_, ?_, ?_, ?_, ?_, ?_, ?_, ?_⟩
  all_goals rfl
theorem tyAs : (tyA Try.prog 3 = false) ∧
  (tyA Try.prog 4 = false) ∧
  (tyA Try.prog 5 = false) ∧
  (tyA Try.prog 9 = false) ∧
  (tyA Try.prog 22 = false) ∧
  (tyA Try.prog 23 = false) ∧
  (tyA Try.prog 24 = false) ∧
  (tyA Try.prog 26 = false) ∧
  (tyA Try.prog 27 = false) ∧
  (tyA Try.prog 29 = false) ∧
  (tyA Try.prog 39 = false) ∧
  (tyA Try.prog 41 = false) ∧
  (tyA Try.prog 47 = false) ∧
  (tyA Try.prog 52 = false) ∧
  (tyA Try.prog 55 = true) ∧
  (tyA Try.prog 58 = false) ∧
  (tyA Try.prog 60 = true) ∧
  (tyA Try.prog 69 = false) ∧
  (tyA Try.prog 72 = true) ∧
  (tyA Try.prog 75 = false) ∧
  (tyA Try.prog 77 = true) ∧
  (tyA Try.prog 78 = false) ∧
  (tyA Try.prog 81 = true) ∧
  (tyA Try.prog 84 = false) ∧
  (tyA Try.prog 86 = true) ∧
  (tyA Try.prog 90 = false) ∧
  (tyA Try.prog 98 = false) ∧
  (tyA Try.prog 108 = false) ∧
  (tyA Try.prog 120 = false) ∧
  (tyA Try.prog 122 = false) ∧
  (tyA Try.prog 129 = false) ∧
  (tyA Try.prog 131 = false) ∧
  (tyA Try.prog 132 = false) ∧
  (tyA Try.prog 136 = false) := by
  refine ⟨?_, ?_, ?_, ?_, ?_, ?_, ?_, ?_, ?_, ?_, ?_, ?_, ?_, ?_, ?_, ?_, ?_, ?_, ?_, ?_, ?_, ?_, ?_, ?_, ?_, ?_, ?_, ?_, ?_, ?_, ?_, ?_, ?_, ?_⟩
  all_goals rfl
theorem tyIs : ((Try.prog.info? 3).isSome = true) ∧
  ((Try.prog.info? 4).isSome = true) ∧
  ((Try.prog.info? 5).isSome = true) ∧
  ((Try.prog.info? 9).isSome = true) ∧
  ((Try.prog.info? 22).isSome = true) ∧
  ((Try.prog.info? 23).isSome = true) ∧
  ((Try.prog.info? 24).isSome = true) ∧
  ((Try.prog.info? 26).isSome = true) ∧
  ((Try.prog.info? 27).isSome = true) ∧
  ((Try.prog.info? 29).isSome = true) ∧
  ((Try.prog.info? 39).isSome = true) ∧
  ((Try.prog.info? 41).isSome = true) ∧
  ((Try.prog.info? 47).isSome = true) ∧
  ((Try.prog.info? 52).isSome = true) ∧
  ((Try.prog.info? 55).isSome = true) ∧
  ((Try.prog.info? 58).isSome = true) ∧
  ((Try.prog.info? 60).isSome = true) ∧
  ((Try.prog.info? 69).isSome = true) ∧
  ((Try.prog.info? 72).isSome = true) ∧
  ((Try.prog.info? 75).isSome = true) ∧
  ((Try.prog.info? 77).isSome = true) ∧
  ((Try.prog.info? 78).isSome = true) ∧
  ((Try.prog.info? 81).isSome = true) ∧
  ((Try.prog.info? 84).isSome = true) ∧
  ((Try.prog.info? 86).isSome = true) ∧
  ((Try.prog.info? 90).isSome = true) ∧
  ((Try.prog.info? 98).isSome = true) ∧
  ((Try.prog.info? 108).isSome = true) ∧
  ((Try.prog.info? 120).isSome = true) ∧
  ((Try.prog.info? 122).isSome = true) ∧
  ((Try.prog.info? 129).isSome = true) ∧
  ((Try.prog.info? 131).isSome = true) ∧
  ((Try.prog.info? 132).isSome = true) ∧
  ((Try.prog.info? 136).isSome = true) := by
  refine ⟨?_, ?_, ?_, ?_, ?_, ?_, ?_, ?_, ?_, ?_, ?_, ?_, ?_, ?_, ?_, ?_, ?_, ?_, ?_, ?_, ?_, ?_, ?_, ?_, ?_, ?_, ?_, ?_, ?_, ?_, ?_, ?_, ?_, ?_⟩
  all_goals rfl
theorem tyNs : ((tyU Try.prog 26).isSome = true) ∧
  ((tyU Try.prog 39).isSome = true) ∧
  ((tyU Try.prog 55).isSome = true) ∧
  ((tyU Try.prog 60).isSome = true) ∧
  ((tyU Try.prog 72).isSome = true) ∧
  ((tyU Try.prog 77).isSome = true) ∧
  ((tyU Try.prog 81).isSome = true) ∧
  ((tyU Try.prog 86).isSome = true) ∧
  ((tyU Try.prog 98).isSome = true) ∧
  ((tyU Try.prog 108).isSome = true) := by
  refine ⟨?_, ?_, ?_, ?_, ?_, ?_, ?_, ?_, ?_, ?_⟩
  all_goals rfl
theorem fns : (callable Try.prog 2 = true) ∧
  (callable Try.prog 3 = true) ∧
  (callable Try.prog 4 = true) ∧
  (callable Try.prog 5 = true) ∧
  (callable Try.prog 6 = true) ∧
  (callable Try.prog 7 = true) ∧
  (callable Try.prog 8 = true) ∧
  (callable Try.prog 9 = true) ∧
  (callable Try.prog 10 = true) ∧
  (callable Try.prog 11 = true) ∧
  (callable Try.prog 12 = true) ∧
  (callable Try.prog 13 = true) ∧
  (callable Try.prog 14 = true) ∧
  (callable Try.prog 15 = true) ∧
  (callable Try.prog 16 = true) ∧
  (callable Try.prog 17 = true) ∧
  (callable Try.prog 18 = true) ∧
  (callable Try.prog 19 = true) ∧
  (callable Try.prog 20 = true) ∧
  (callable Try.prog 21 = true) ∧
  (callable Try.prog 22 = true) ∧
  (callable Try.prog 23 = true) ∧
  (callable Try.prog 24 = true) ∧
  (callable Try.prog 25 = true) ∧
  (callable Try.prog 26 = true) ∧
  (callable Try.prog 27 = true) ∧
  (callable Try.prog 28 = true) ∧
  (callable Try.prog 29 = true) ∧
  (callable Try.prog 30 = true) ∧
  (callable Try.prog 31 = true) ∧
  (callable Try.prog 32 = true) ∧
  (callable Try.prog 33 = true) ∧
  (callable Try.prog 34 = true) ∧
  (callable Try.prog 35 = true) ∧
  (callable Try.prog 36 = true) ∧
  (callable Try.prog 37 = true) ∧
  (callable Try.prog 38 = true) ∧
  (callable Try.prog 39 = true) ∧
  (callable Try.prog 40 = true) ∧
  (callable Try.prog 41 = true) ∧
  (callable Try.prog 42 = true) ∧
  (callable Try.prog 43 = true) ∧
  (callable Try.prog 44 = true) ∧
  (callable Try.prog 45 = true) ∧
  (callable Try.prog 46 = true) ∧
  (callable Try.prog 47 = true) ∧
  (callable Try.prog 48 = true) ∧
  (callable Try.prog 49 = true) ∧
  (callable Try.prog 50 = true) ∧
  (callable Try.prog 51 = true) ∧
  (callable Try.prog 52 = true) ∧
  (callable Try.prog 53 = true) ∧
  (callable Try.prog 54 = true) ∧
  (callable Try.prog 55 = true) ∧
  (callable Try.prog 56 = true) ∧
  (callable Try.prog 57 = true) ∧
  (callable Try.prog 58 = true) ∧
  (callable Try.prog 59 = true) ∧
  (callable Try.prog 60 = true) ∧
  (callable Try.prog 61 = true) ∧
  (callable Try.prog 62 = true) ∧
  (callable Try.prog 63 = true) ∧
  (callable Try.prog 64 = true) ∧
  (callable Try.prog 65 = true) ∧
  (callable Try.prog 66 = true) ∧
  (callable Try.prog 67 = true) ∧
  (callable Try.prog 68 = true) ∧
  (callable Try.prog 69 = true) ∧
  (callable Try.prog 70 = true) ∧
  (callable Try.prog 71 = true) ∧
  (callable Try.prog 72 = true) ∧
  (callable Try.prog 73 = true) ∧
  (callable Try.prog 74 = true) ∧
  (callable Try.prog 75 = true) ∧
  (callable Try.prog 76 = true) ∧
  (callable Try.prog 77 = true) ∧
  (callable Try.prog 78 = true) ∧
  (callable Try.prog 79 = true) ∧
  (callable Try.prog 80 = true) ∧
  (callable Try.prog 81 = true) ∧
  (callable Try.prog 82 = true) ∧
  (callable Try.prog 83 = true) ∧
  (callable Try.prog 84 = true) ∧
  (callable Try.prog 85 = true) ∧
  (callable Try.prog 86 = true) ∧
  (callable Try.prog 88 = true) ∧
  (callable Try.prog 89 = true) ∧
  (callable Try.prog 90 = true) ∧
  (callable Try.prog 91 = true) ∧
  (callable Try.prog 92 = true) ∧
  (callable Try.prog 93 = true) := by
  refine ⟨?_, ?_, ?_, ?_, ?_, ?_, ?_, ?_, ?_, ?_, ?_, ?_, ?_, ?_, ?_, ?_, ?_, ?_, ?_, ?_, ?_, ?_, ?_, ?_, ?_, ?_, ?_, ?_, ?_, ?_, ?_, ?_, ?_, ?_, ?_, ?_, ?_, ?_, ?_, ?_, ?_, ?_, ?_, ?_, ?_, ?_, ?_, ?_, ?_, ?_, ?_, ?_, ?_, ?_, ?_, ?_, ?_, ?_, ?_, ?_, ?_, ?_, ?_, ?_, ?_, ?_, ?_, ?_, ?_, ?_, ?_, ?_, ?_, ?_, ?_, ?_, ?_, ?_, ?_, ?_, ?_, ?_, ?_, ?_, ?_, ?_, ?_, ?_, ?_, ?_, ?_⟩
  all_goals rfl
theorem tyZs : (tyZ Try.prog 3 = some (.int .i64 0)) ∧
  (tyZ Try.prog 4 = some (.bool false)) ∧
  (tyZ Try.prog 5 = some (.int .u8 0)) ∧
  (tyZ Try.prog 9 = some (vs [])) ∧
  (tyZ Try.prog 22 = some (.slice Option.none 0 0)) ∧
  (tyZ Try.prog 23 = some (.slice Option.none 0 0)) ∧
  (tyZ Try.prog 24 = some (.slice Option.none 0 0)) ∧
  (tyZ Try.prog 26 = some (.nilFunc)) ∧
  (tyZ Try.prog 27 = some (.pointer Option.none)) ∧
  (tyZ Try.prog 29 = some (.slice Option.none 0 0)) ∧
  (tyZ Try.prog 39 = some (.nilFunc)) ∧
  (tyZ Try.prog 41 = some (.pointer Option.none)) ∧
  (tyZ Try.prog 47 = some (.pointer Option.none)) ∧
  (tyZ Try.prog 52 = some (.pointer Option.none)) ∧
  (tyZ Try.prog 55 = some (.agg #[.pointer Option.none, .int .i64 0])) ∧
  (tyZ Try.prog 58 = some (.map Option.none)) ∧
  (tyZ Try.prog 60 = some (.agg #[.map Option.none, .int .i64 0, .bool false])) ∧
  (tyZ Try.prog 69 = some (.pointer Option.none)) ∧
  (tyZ Try.prog 72 = some (.agg #[.pointer Option.none, .int .i64 0])) ∧
  (tyZ Try.prog 75 = some (.map Option.none)) ∧
  (tyZ Try.prog 77 = some (.agg #[.map Option.none, vs [], .bool false])) ∧
  (tyZ Try.prog 78 = some (.pointer Option.none)) ∧
  (tyZ Try.prog 81 = some (.agg #[.pointer Option.none, .int .i64 0])) ∧
  (tyZ Try.prog 84 = some (.map Option.none)) ∧
  (tyZ Try.prog 86 = some (.agg #[.map Option.none, .bool false, .bool false])) ∧
  (tyZ Try.prog 90 = some (.slice Option.none 0 0)) ∧
  (tyZ Try.prog 98 = some (.nilFunc)) ∧
  (tyZ Try.prog 108 = some (.nilFunc)) ∧
  (tyZ Try.prog 120 = some (.int .u64 0)) ∧
  (tyZ Try.prog 122 = some (.int .i64 0)) ∧
  (tyZ Try.prog 129 = some (.int .u32 0)) ∧
  (tyZ Try.prog 131 = some (.int .u64 0)) ∧
  (tyZ Try.prog 132 = some (.int .u64 0)) ∧
  (tyZ Try.prog 136 = some (.pointer Option.none)) := by
  refine ⟨?_, ?_, ?_, ?_, ?_, ?_, ?_, ?_, ?_, ?_, ?_, ?_, ?_, ?_, ?_, ?_, ?_, ?_, ?_, ?_, ?_, ?_, ?_, ?_, ?_, ?_, ?_, ?_, ?_, ?_, ?_, ?_, ?_, ?_⟩
  all_goals rfl
theorem fdAs : (∀ a : Addr, fdA Try.prog 55 (.pointer (some a)) 0 = some (.pointer (adr (some a) 0))) ∧
  (∀ a : Addr, fdA Try.prog 55 (.pointer (some a)) 1 = some (.pointer (adr (some a) 1))) ∧
  (∀ a : Addr, fdA Try.prog 60 (.pointer (some a)) 0 = some (.pointer (adr (some a) 0))) ∧
  (∀ a : Addr, fdA Try.prog 60 (.pointer (some a)) 1 = some (.pointer (adr (some a) 1))) ∧
  (∀ a : Addr, fdA Try.prog 60 (.pointer (some a)) 2 = some (.pointer (adr (some a) 2))) ∧
  (∀ a : Addr, fdA Try.prog 72 (.pointer (some a)) 0 = some (.pointer (adr (some a) 0))) ∧
  (∀ a : Addr, fdA Try.prog 72 (.pointer (some a)) 1 = some (.pointer (adr (some a) 1))) ∧
  (∀ a : Addr, fdA Try.prog 77 (.pointer (some a)) 0 = some (.pointer (adr (some a) 0))) ∧
  (∀ a : Addr, fdA Try.prog 77 (.pointer (some a)) 1 = some (.pointer (adr (some a) 1))) ∧
  (∀ a : Addr, fdA Try.prog 77 (.pointer (some a)) 2 = some (.pointer (adr (some a) 2))) ∧
  (∀ a : Addr, fdA Try.prog 81 (.pointer (some a)) 0 = some (.pointer (adr (some a) 0))) ∧
  (∀ a : Addr, fdA Try.prog 81 (.pointer (some a)) 1 = some (.pointer (adr (some a) 1))) ∧
  (∀ a : Addr, fdA Try.prog 86 (.pointer (some a)) 0 = some (.pointer (adr (some a) 0))) ∧
  (∀ a : Addr, fdA Try.prog 86 (.pointer (some a)) 1 = some (.pointer (adr (some a) 1))) ∧
  (∀ a : Addr, fdA Try.prog 86 (.pointer (some a)) 2 = some (.pointer (adr (some a) 2))) := by
  refine ⟨?_, ?_, ?_, ?_, ?_, ?_, ?_, ?_, ?_, ?_, ?_, ?_, ?_, ?_, ?_⟩
  all_goals (intro a; kernel_rfl)
attribute [go_sem] tyUs tySs tyAs tyIs tyNs fns tyZs fdAs
theorem mixed : Try.prog.follows .mixedOrders = true := by rfl
end Go.Proofs.Ytciadbhnodgpgaa
