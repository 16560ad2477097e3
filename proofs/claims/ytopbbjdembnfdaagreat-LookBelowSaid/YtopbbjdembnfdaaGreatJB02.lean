/-
  Texts of a proof, joined: SF, K10, K11, C1, C2, C3, T0, S1, K12, K13, N1, R1, L0.
  Conditions: none.
-/
import Derived.Test.YtopbbjdembnfdaaGreatProg
import Derived.Test.YtopbbjdembnfdaaGreatJB01
import Derived.MapFrom
import Derived.Lib.Bytealg
import Derived.Maps.RangeRun
import Derived.Maps.Range
import Derived.Shelf.Small.Strs
set_option linter.unusedVariables false
set_option linter.unusedSimpArgs false
set_option linter.defProp false
set_option linter.unnecessarySimpa false
namespace Go.Proofs.YtopbbjdembnfdaaGreat
open Go
set_option maxRecDepth 100000
theorem tyUs : (tyU Tryz.prog 3 = some (.int (IntKind.i64))) ∧
 (tyU Tryz.prog 4 = some (.bool)) ∧
 (tyU Tryz.prog 5 = some (.int (IntKind.u8))) ∧
 (tyU Tryz.prog 9 = some (.string)) ∧
 (tyU Tryz.prog 22 = some (.slice 9)) ∧
 (tyU Tryz.prog 23 = some (.slice 9)) ∧
 (tyU Tryz.prog 24 = some (.slice 110)) ∧
 (tyU Tryz.prog 28 = some (.slice 59)) ∧
 (tyU Tryz.prog 29 = some (.slice 112)) ∧
 (tyU Tryz.prog 36 = some (.slice 132)) ∧
 (tyU Tryz.prog 37 = some (.slice 143)) ∧
 (tyU Tryz.prog 41 = some (.slice 139)) ∧
 (tyU Tryz.prog 55 = some (.slice 23)) ∧
 (tyU Tryz.prog 56 = some (.slice 108)) ∧
 (tyU Tryz.prog 57 = some (.slice 5)) ∧
 (tyU Tryz.prog 62 = some (.slice 160)) ∧
 (tyU Tryz.prog 63 = some (.slice 3)) ∧
 (tyU Tryz.prog 70 = some (.slice 176)) ∧
 (tyU Tryz.prog 75 = some (.slice 67)) ∧
 (tyU Tryz.prog 77 = some (.slice 82)) ∧
 (tyU Tryz.prog 87 = some (.slice 95)) ∧
 (tyU Tryz.prog 89 = some (.slice 97)) ∧
 (tyU Tryz.prog 93 = some (.slice 22)) ∧
 (tyU Tryz.prog 95 = some (.array 2 23)) ∧
 (tyU Tryz.prog 98 = some (.int (IntKind.i64))) ∧
 (tyU Tryz.prog 108 = some (.int (IntKind.u32))) ∧
 (tyU Tryz.prog 154 = some (.slice 163)) ∧
 (tyU Tryz.prog 157 = some (.array 4 5)) ∧
 (tyU Tryz.prog 158 = some (.slice 34)) ∧
 (tyU Tryz.prog 161 = some (.slice 166)) ∧
 (tyU Tryz.prog 170 = some (.slice 239)) ∧
 (tyU Tryz.prog 174 = some (.slice 43)) ∧
 (tyU Tryz.prog 195 = some (.pointer 259)) ∧
 (tyU Tryz.prog 235 = some (.array 10 9)) ∧
 (tyU Tryz.prog 237 = some (.slice 241)) ∧
 (tyU Tryz.prog 257 = some (.pointer 297)) ∧
 (tyU Tryz.prog 272 = some (.map 9 4)) ∧
 (tyU Tryz.prog 277 = some (.slice 222)) ∧
 (tyU Tryz.prog 295 = some (.map 9 257)) ∧
 (tyU Tryz.prog 305 = some (.pointer 307)) ∧
 (tyU Tryz.prog 329 = some (.pointer 5)) ∧
 (tyU Tryz.prog 340 = some (.int (IntKind.u64))) ∧
 (tyU Tryz.prog 345 = some (.int (IntKind.i64))) ∧
 (tyU Tryz.prog 353 = some (.int (IntKind.u64))) ∧
 (tyU Tryz.prog 354 = some (.int (IntKind.u64))) ∧
 (tyU Tryz.prog 358 = some (.pointer 3)) := by
 refine ⟨?_, ?_, ?_, ?_, ?_, ?_, ?_, ?_, ?_, ?_, ?_, ?_, ?_, ?_, ?_, ?_, ?_, ?_, ?_, ?_, ?_, ?_, ?_, ?_, ?_, ?_, ?_, ?_, ?_, ?_, ?_, ?_, ?_, ?_, ?_, ?_, ?_, ?_, ?_, ?_, ?_, ?_, ?_, ?_, ?_, ?_⟩
 all_goals rfl
theorem tySs : (tyS Tryz.prog 3 = 1) ∧
 (tyS Tryz.prog 4 = 1) ∧
 (tyS Tryz.prog 5 = 1) ∧
 (tyS Tryz.prog 9 = 1) ∧
 (tyS Tryz.prog 22 = 1) ∧
 (tyS Tryz.prog 23 = 1) ∧
 (tyS Tryz.prog 24 = 1) ∧
 (tyS Tryz.prog 27 = 1) ∧
 (tyS Tryz.prog 28 = 1) ∧
 (tyS Tryz.prog 29 = 1) ∧
 (tyS Tryz.prog 31 = 5) ∧
 (tyS Tryz.prog 34 = 2) ∧
 (tyS Tryz.prog 36 = 1) ∧
 (tyS Tryz.prog 37 = 1) ∧
 (tyS Tryz.prog 39 = 5) ∧
 (tyS Tryz.prog 41 = 1) ∧
 (tyS Tryz.prog 43 = 2) ∧
 (tyS Tryz.prog 55 = 1) ∧
 (tyS Tryz.prog 56 = 1) ∧
 (tyS Tryz.prog 57 = 1) ∧
 (tyS Tryz.prog 59 = 5) ∧
 (tyS Tryz.prog 62 = 1) ∧
 (tyS Tryz.prog 63 = 1) ∧
 (tyS Tryz.prog 65 = 4) ∧
 (tyS Tryz.prog 67 = 6) ∧
 (tyS Tryz.prog 70 = 1) ∧
 (tyS Tryz.prog 72 = 4) ∧
 (tyS Tryz.prog 75 = 1) ∧
 (tyS Tryz.prog 77 = 1) ∧
 (tyS Tryz.prog 82 = 6) ∧
 (tyS Tryz.prog 87 = 1) ∧
 (tyS Tryz.prog 89 = 1) ∧
 (tyS Tryz.prog 93 = 1) ∧
 (tyS Tryz.prog 95 = 2) ∧
 (tyS Tryz.prog 97 = 2) ∧
 (tyS Tryz.prog 98 = 1) ∧
 (tyS Tryz.prog 107 = 1) ∧
 (tyS Tryz.prog 108 = 1) ∧
 (tyS Tryz.prog 110 = 7) ∧
 (tyS Tryz.prog 112 = 2) ∧
 (tyS Tryz.prog 132 = 5) ∧
 (tyS Tryz.prog 139 = 7) ∧
 (tyS Tryz.prog 143 = 2) ∧
 (tyS Tryz.prog 146 = 1) ∧
 (tyS Tryz.prog 148 = 1) ∧
 (tyS Tryz.prog 150 = 1) ∧
 (tyS Tryz.prog 154 = 1) ∧
 (tyS Tryz.prog 156 = 4) ∧
 (tyS Tryz.prog 157 = 4) ∧
 (tyS Tryz.prog 158 = 1) ∧
 (tyS Tryz.prog 160 = 6) ∧
 (tyS Tryz.prog 161 = 1) ∧
 (tyS Tryz.prog 163 = 6) ∧
 (tyS Tryz.prog 166 = 2) ∧
 (tyS Tryz.prog 170 = 1) ∧
 (tyS Tryz.prog 172 = 4) ∧
 (tyS Tryz.prog 174 = 1) ∧
 (tyS Tryz.prog 176 = 6) ∧
 (tyS Tryz.prog 192 = 1) ∧
 (tyS Tryz.prog 195 = 1) ∧
 (tyS Tryz.prog 202 = 1) ∧
 (tyS Tryz.prog 207 = 1) ∧
 (tyS Tryz.prog 209 = 4) ∧
 (tyS Tryz.prog 219 = 1) ∧
 (tyS Tryz.prog 220 = 1) ∧
 (tyS Tryz.prog 222 = 4) ∧
 (tyS Tryz.prog 235 = 10) ∧
 (tyS Tryz.prog 237 = 1) ∧
 (tyS Tryz.prog 239 = 6) ∧
 (tyS Tryz.prog 241 = 2) ∧
 (tyS Tryz.prog 252 = 1) ∧
 (tyS Tryz.prog 257 = 1) ∧
 (tyS Tryz.prog 259 = 2) ∧
 (tyS Tryz.prog 266 = 1) ∧
 (tyS Tryz.prog 272 = 1) ∧
 (tyS Tryz.prog 277 = 1) ∧
 (tyS Tryz.prog 282 = 1) ∧
 (tyS Tryz.prog 295 = 1) ∧
 (tyS Tryz.prog 297 = 3) ∧
 (tyS Tryz.prog 300 = 1) ∧
 (tyS Tryz.prog 305 = 1) ∧
 (tyS Tryz.prog 307 = 2) ∧
 (tyS Tryz.prog 329 = 1) ∧
 (tyS Tryz.prog 338 = 1) ∧
 (tyS Tryz.prog 340 = 1) ∧
 (tyS Tryz.prog 345 = 1) ∧
 (tyS Tryz.prog 353 = 1) ∧
 (tyS Tryz.prog 354 = 1) ∧
 (tyS Tryz.prog 358 = 1) := by
 refine ⟨?_, ?_, ?_, ?_, ?_, ?_, ?_, ?_, ?_, ?_, ?_, ?_, ?_, ?_, ?_, ?_, ?_, ?_, ?_, ?_, ?_, ?_, ?_, ?_, ?_, ?_, ?_, ?_, ?_, ?_, ?_, ?_, ?_, ?_, ?_, ?_, ?_, ?_, ?_, ?_, ?_, ?_, ?_, ?_, ?_, ?_, ?_, ?_, ?_, ?_, ?_, ?_, ?_, ?_, ?_, ?_, ?_, ?_, ?_, ?_, ?_, ?_, ?_, ?_, ?_, ?_, ?_, ?_, ?_, ?_, ?_, ?_, ?_, ?_, ?_, ?_, ?_, ?_, ?_, ?_, ?_, ?_, ?_, ?_, ?_, ?_, ?_, ?_, ?_⟩
 all_goals rfl
theorem tyAs : (tyA Tryz.prog 3 = false) ∧
 (tyA Tryz.prog 4 = false) ∧
 (tyA Tryz.prog 5 = false) ∧
 (tyA Tryz.prog 9 = false) ∧
 (tyA Tryz.prog 22 = false) ∧
 (tyA Tryz.prog 23 = false) ∧
 (tyA Tryz.prog 24 = false) ∧
 (tyA Tryz.prog 27 = false) ∧
 (tyA Tryz.prog 28 = false) ∧
 (tyA Tryz.prog 29 = false) ∧
 (tyA Tryz.prog 31 = true) ∧
 (tyA Tryz.prog 34 = true) ∧
 (tyA Tryz.prog 36 = false) ∧
 (tyA Tryz.prog 37 = false) ∧
 (tyA Tryz.prog 39 = true) ∧
 (tyA Tryz.prog 41 = false) ∧
 (tyA Tryz.prog 43 = true) ∧
 (tyA Tryz.prog 55 = false) ∧
 (tyA Tryz.prog 56 = false) ∧
 (tyA Tryz.prog 57 = false) ∧
 (tyA Tryz.prog 59 = true) ∧
 (tyA Tryz.prog 62 = false) ∧
 (tyA Tryz.prog 63 = false) ∧
 (tyA Tryz.prog 65 = true) ∧
 (tyA Tryz.prog 67 = true) ∧
 (tyA Tryz.prog 70 = false) ∧
 (tyA Tryz.prog 72 = true) ∧
 (tyA Tryz.prog 75 = false) ∧
 (tyA Tryz.prog 77 = false) ∧
 (tyA Tryz.prog 82 = true) ∧
 (tyA Tryz.prog 87 = false) ∧
 (tyA Tryz.prog 89 = false) ∧
 (tyA Tryz.prog 93 = false) ∧
 (tyA Tryz.prog 95 = true) ∧
 (tyA Tryz.prog 97 = true) ∧
 (tyA Tryz.prog 98 = false) ∧
 (tyA Tryz.prog 107 = false) ∧
 (tyA Tryz.prog 108 = false) ∧
 (tyA Tryz.prog 110 = true) ∧
 (tyA Tryz.prog 112 = true) ∧
 (tyA Tryz.prog 132 = true) ∧
 (tyA Tryz.prog 139 = true) ∧
 (tyA Tryz.prog 143 = true) ∧
 (tyA Tryz.prog 146 = false) ∧
 (tyA Tryz.prog 148 = false) ∧
 (tyA Tryz.prog 150 = false) ∧
 (tyA Tryz.prog 154 = false) ∧
 (tyA Tryz.prog 156 = true) ∧
 (tyA Tryz.prog 157 = true) ∧
 (tyA Tryz.prog 158 = false) ∧
 (tyA Tryz.prog 160 = true) ∧
 (tyA Tryz.prog 161 = false) ∧
 (tyA Tryz.prog 163 = true) ∧
 (tyA Tryz.prog 166 = true) ∧
 (tyA Tryz.prog 170 = false) ∧
 (tyA Tryz.prog 172 = true) ∧
 (tyA Tryz.prog 174 = false) ∧
 (tyA Tryz.prog 176 = true) ∧
 (tyA Tryz.prog 192 = false) ∧
 (tyA Tryz.prog 195 = false) ∧
 (tyA Tryz.prog 202 = false) ∧
 (tyA Tryz.prog 207 = false) ∧
 (tyA Tryz.prog 209 = true) ∧
 (tyA Tryz.prog 219 = false) ∧
 (tyA Tryz.prog 220 = false) ∧
 (tyA Tryz.prog 222 = true) ∧
 (tyA Tryz.prog 235 = true) ∧
 (tyA Tryz.prog 237 = false) ∧
 (tyA Tryz.prog 239 = true) ∧
 (tyA Tryz.prog 241 = true) ∧
 (tyA Tryz.prog 252 = false) ∧
 (tyA Tryz.prog 257 = false) ∧
 (tyA Tryz.prog 259 = true) ∧
 (tyA Tryz.prog 266 = false) ∧
 (tyA Tryz.prog 272 = false) ∧
 (tyA Tryz.prog 277 = false) ∧
 (tyA Tryz.prog 282 = false) ∧
 (tyA Tryz.prog 295 = false) ∧
 (tyA Tryz.prog 297 = true) ∧
 (tyA Tryz.prog 300 = false) ∧
 (tyA Tryz.prog 305 = false) ∧
 (tyA Tryz.prog 307 = true) ∧
 (tyA Tryz.prog 329 = false) ∧
 (tyA Tryz.prog 338 = false) ∧
 (tyA Tryz.prog 340 = false) ∧
 (tyA Tryz.prog 345 = false) ∧
 (tyA Tryz.prog 353 = false) ∧
 (tyA Tryz.prog 354 = false) ∧
 (tyA Tryz.prog 358 = false) := by
 refine ⟨?_, ?_, ?_, ?_, ?_, ?_, ?_, ?_, ?_, ?_, ?_, ?_, ?_, ?_, ?_, ?_, ?_, ?_, ?_, ?_, ?_, ?_, ?_, ?_, ?_, ?_, ?_, ?_, ?_, ?_, ?_, ?_, ?_, ?_, ?_, ?_, ?_, ?_, ?_, ?_, ?_, ?_, ?_, ?_, ?_, ?_, ?_, ?_, ?_, ?_, ?_, ?_, ?_, ?_, ?_, ?_, ?_, ?_, ?_, ?_, ?_, ?_, ?_, ?_, ?_, ?_, ?_, ?_, ?_, ?_, ?_, ?_, ?_, ?_, ?_, ?_, ?_, ?_, ?_, ?_, ?_, ?_, ?_, ?_, ?_, ?_, ?_, ?_, ?_⟩
 all_goals rfl
theorem tyIs : ((Tryz.prog.info? 3).isSome = true) ∧
 ((Tryz.prog.info? 4).isSome = true) ∧
 ((Tryz.prog.info? 5).isSome = true) ∧
 ((Tryz.prog.info? 9).isSome = true) ∧
 ((Tryz.prog.info? 22).isSome = true) ∧
 ((Tryz.prog.info? 23).isSome = true) ∧
 ((Tryz.prog.info? 24).isSome = true) ∧
 ((Tryz.prog.info? 27).isSome = true) ∧
 ((Tryz.prog.info? 28).isSome = true) ∧
 ((Tryz.prog.info? 29).isSome = true) ∧
 ((Tryz.prog.info? 31).isSome = true) ∧
 ((Tryz.prog.info? 34).isSome = true) ∧
 ((Tryz.prog.info? 36).isSome = true) ∧
 ((Tryz.prog.info? 37).isSome = true) ∧
 ((Tryz.prog.info? 39).isSome = true) ∧
 ((Tryz.prog.info? 41).isSome = true) ∧
 ((Tryz.prog.info? 43).isSome = true) ∧
 ((Tryz.prog.info? 55).isSome = true) ∧
 ((Tryz.prog.info? 56).isSome = true) ∧
 ((Tryz.prog.info? 57).isSome = true) ∧
 ((Tryz.prog.info? 59).isSome = true) ∧
 ((Tryz.prog.info? 62).isSome = true) ∧
 ((Tryz.prog.info? 63).isSome = true) ∧
 ((Tryz.prog.info? 65).isSome = true) ∧
 ((Tryz.prog.info? 67).isSome = true) ∧
 ((Tryz.prog.info? 70).isSome = true) ∧
 ((Tryz.prog.info? 72).isSome = true) ∧
 ((Tryz.prog.info? 75).isSome = true) ∧
 ((Tryz.prog.info? 77).isSome = true) ∧
 ((Tryz.prog.info? 82).isSome = true) ∧
 ((Tryz.prog.info? 87).isSome = true) ∧
 ((Tryz.prog.info? 89).isSome = true) ∧
 ((Tryz.prog.info? 93).isSome = true) ∧
 ((Tryz.prog.info? 95).isSome = true) ∧
 ((Tryz.prog.info? 97).isSome = true) ∧
 ((Tryz.prog.info? 98).isSome = true) ∧
 ((Tryz.prog.info? 107).isSome = true) ∧
 ((Tryz.prog.info? 108).isSome = true) ∧
 ((Tryz.prog.info? 110).isSome = true) ∧
 ((Tryz.prog.info? 112).isSome = true) ∧
 ((Tryz.prog.info? 132).isSome = true) ∧
 ((Tryz.prog.info? 139).isSome = true) ∧
 ((Tryz.prog.info? 143).isSome = true) ∧
 ((Tryz.prog.info? 146).isSome = true) ∧
 ((Tryz.prog.info? 148).isSome = true) ∧
 ((Tryz.prog.info? 150).isSome = true) ∧
 ((Tryz.prog.info? 154).isSome = true) ∧
 ((Tryz.prog.info? 156).isSome = true) ∧
 ((Tryz.prog.info? 157).isSome = true) ∧
 ((Tryz.prog.info? 158).isSome = true) ∧
 ((Tryz.prog.info? 160).isSome = true) ∧
 ((Tryz.prog.info? 161).isSome = true) ∧
 ((Tryz.prog.info? 163).isSome = true) ∧
 ((Tryz.prog.info? 166).isSome = true) ∧
 ((Tryz.prog.info? 170).isSome = true) ∧
 ((Tryz.prog.info? 172).isSome = true) ∧
 ((Tryz.prog.info? 174).isSome = true) ∧
 ((Tryz.prog.info? 176).isSome = true) ∧
 ((Tryz.prog.info? 192).isSome = true) ∧
 ((Tryz.prog.info? 195).isSome = true) ∧
 ((Tryz.prog.info? 202).isSome = true) ∧
 ((Tryz.prog.info? 207).isSome = true) ∧
 ((Tryz.prog.info? 209).isSome = true) ∧
 ((Tryz.prog.info? 219).isSome = true) ∧
 ((Tryz.prog.info? 220).isSome = true) ∧
 ((Tryz.prog.info? 222).isSome = true) ∧
 ((Tryz.prog.info? 235).isSome = true) ∧
 ((Tryz.prog.info? 237).isSome = true) ∧
 ((Tryz.prog.info? 239).isSome = true) ∧
 ((Tryz.prog.info? 241).isSome = true) ∧
 ((Tryz.prog.info? 252).isSome = true) ∧
 ((Tryz.prog.info? 257).isSome = true) ∧
 ((Tryz.prog.info? 259).isSome = true) ∧
 ((Tryz.prog.info? 266).isSome = true) ∧
 ((Tryz.prog.info? 272).isSome = true) ∧
 ((Tryz.prog.info? 277).isSome = true) ∧
 ((Tryz.prog.info? 282).isSome = true) ∧
 ((Tryz.prog.info? 295).isSome = true) ∧
 ((Tryz.prog.info? 297).isSome = true) ∧
 ((Tryz.prog.info? 300).isSome = true) ∧
 ((Tryz.prog.info? 305).isSome = true) ∧
 ((Tryz.prog.info? 307).isSome = true) ∧
 ((Tryz.prog.info? 329).isSome = true) ∧
 ((Tryz.prog.info? 338).isSome = true) ∧
 ((Tryz.prog.info? 340).isSome = true) ∧
 ((Tryz.prog.info? 345).isSome = true) ∧
 ((Tryz.prog.info? 353).isSome = true) ∧
 ((Tryz.prog.info? 354).isSome = true) ∧
 ((Tryz.prog.info? 358).isSome = true) := by
 refine ⟨?_, ?_, ?_, ?_, ?_, ?_, ?_, ?_, ?_, ?_, ?_, ?_, ?_, ?_, ?_, ?_, ?_, ?_, ?_, ?_, ?_, ?_, ?_, ?_, ?_, ?_, ?_, ?_, ?_, ?_, ?_, ?_, ?_, ?_, ?_, ?_, ?_, ?_, ?_, ?_, ?_, ?_, ?_, ?_, ?_, ?_, ?_, ?_, ?_, ?_, ?_, ?_, ?_, ?_, ?_, ?_, ?_, ?_, ?_, ?_, ?_, ?_, ?_, ?_, ?_, ?_, ?_, ?_, ?_, ?_, ?_, ?_, ?_, ?_, ?_, ?_, ?_, ?_, ?_, ?_, ?_, ?_, ?_, ?_, ?_, ?_, ?_, ?_, ?_⟩
 all_goals rfl
theorem tyNs : ((tyU Tryz.prog 27).isSome = true) ∧
 ((tyU Tryz.prog 31).isSome = true) ∧
 ((tyU Tryz.prog 34).isSome = true) ∧
 ((tyU Tryz.prog 39).isSome = true) ∧
 ((tyU Tryz.prog 43).isSome = true) ∧
 ((tyU Tryz.prog 59).isSome = true) ∧
 ((tyU Tryz.prog 65).isSome = true) ∧
 ((tyU Tryz.prog 67).isSome = true) ∧
 ((tyU Tryz.prog 72).isSome = true) ∧
 ((tyU Tryz.prog 82).isSome = true) ∧
 ((tyU Tryz.prog 97).isSome = true) ∧
 ((tyU Tryz.prog 107).isSome = true) ∧
 ((tyU Tryz.prog 110).isSome = true) ∧
 ((tyU Tryz.prog 112).isSome = true) ∧
 ((tyU Tryz.prog 132).isSome = true) ∧
 ((tyU Tryz.prog 139).isSome = true) ∧
 ((tyU Tryz.prog 143).isSome = true) ∧
 ((tyU Tryz.prog 146).isSome = true) ∧
 ((tyU Tryz.prog 148).isSome = true) ∧
 ((tyU Tryz.prog 150).isSome = true) ∧
 ((tyU Tryz.prog 156).isSome = true) ∧
 ((tyU Tryz.prog 160).isSome = true) ∧
 ((tyU Tryz.prog 163).isSome = true) ∧
 ((tyU Tryz.prog 166).isSome = true) ∧
 ((tyU Tryz.prog 172).isSome = true) ∧
 ((tyU Tryz.prog 176).isSome = true) ∧
 ((tyU Tryz.prog 192).isSome = true) ∧
 ((tyU Tryz.prog 202).isSome = true) ∧
 ((tyU Tryz.prog 207).isSome = true) ∧
 ((tyU Tryz.prog 209).isSome = true) ∧
 ((tyU Tryz.prog 219).isSome = true) ∧
 ((tyU Tryz.prog 220).isSome = true) ∧
 ((tyU Tryz.prog 222).isSome = true) ∧
 ((tyU Tryz.prog 239).isSome = true) ∧
 ((tyU Tryz.prog 241).isSome = true) ∧
 ((tyU Tryz.prog 252).isSome = true) ∧
 ((tyU Tryz.prog 259).isSome = true) ∧
 ((tyU Tryz.prog 266).isSome = true) ∧
 ((tyU Tryz.prog 282).isSome = true) ∧
 ((tyU Tryz.prog 297).isSome = true) ∧
 ((tyU Tryz.prog 300).isSome = true) ∧
 ((tyU Tryz.prog 307).isSome = true) ∧
 ((tyU Tryz.prog 338).isSome = true) := by
 refine ⟨?_, ?_, ?_, ?_, ?_, ?_, ?_, ?_, ?_, ?_, ?_, ?_, ?_, ?_, ?_, ?_, ?_, ?_, ?_, ?_, ?_, ?_, ?_, ?_, ?_, ?_, ?_, ?_, ?_, ?_, ?_, ?_, ?_, ?_, ?_, ?_, ?_, ?_, ?_, ?_, ?_, ?_, ?_⟩
 all_goals rfl
theorem fns : (callable Tryz.prog 0 = false) ∧
 (callable Tryz.prog 1 = false) ∧
 (callable Tryz.prog 2 = true) ∧
 (callable Tryz.prog 3 = true) ∧
 (callable Tryz.prog 4 = true) ∧
 (callable Tryz.prog 5 = true) ∧
 (callable Tryz.prog 6 = true) ∧
 (callable Tryz.prog 7 = true) ∧
 (callable Tryz.prog 8 = true) ∧
 (callable Tryz.prog 9 = true) ∧
 (callable Tryz.prog 10 = true) ∧
 (callable Tryz.prog 11 = true) ∧
 (callable Tryz.prog 12 = true) ∧
 (callable Tryz.prog 13 = true) ∧
 (callable Tryz.prog 14 = true) ∧
 (callable Tryz.prog 15 = true) ∧
 (callable Tryz.prog 16 = true) ∧
 (callable Tryz.prog 17 = true) ∧
 (callable Tryz.prog 18 = true) ∧
 (callable Tryz.prog 19 = true) ∧
 (callable Tryz.prog 20 = true) ∧
 (callable Tryz.prog 21 = true) ∧
 (callable Tryz.prog 22 = true) ∧
 (callable Tryz.prog 23 = true) ∧
 (callable Tryz.prog 24 = true) ∧
 (callable Tryz.prog 25 = true) ∧
 (callable Tryz.prog 26 = true) ∧
 (callable Tryz.prog 27 = true) ∧
 (callable Tryz.prog 28 = true) ∧
 (callable Tryz.prog 29 = true) ∧
 (callable Tryz.prog 30 = true) ∧
 (callable Tryz.prog 31 = true) ∧
 (callable Tryz.prog 32 = true) ∧
 (callable Tryz.prog 33 = true) ∧
 (callable Tryz.prog 34 = true) ∧
 (callable Tryz.prog 35 = true) ∧
 (callable Tryz.prog 36 = true) ∧
 (callable Tryz.prog 37 = true) ∧
 (callable Tryz.prog 38 = true) ∧
 (callable Tryz.prog 39 = true) ∧
 (callable Tryz.prog 40 = true) ∧
 (callable Tryz.prog 41 = true) ∧
 (callable Tryz.prog 42 = true) ∧
 (callable Tryz.prog 43 = true) ∧
 (callable Tryz.prog 44 = true) ∧
 (callable Tryz.prog 45 = true) ∧
 (callable Tryz.prog 46 = true) ∧
 (callable Tryz.prog 47 = true) ∧
 (callable Tryz.prog 48 = true) ∧
 (callable Tryz.prog 49 = true) ∧
 (callable Tryz.prog 50 = true) ∧
 (callable Tryz.prog 51 = true) ∧
 (callable Tryz.prog 52 = true) ∧
 (callable Tryz.prog 53 = true) ∧
 (callable Tryz.prog 54 = true) ∧
 (callable Tryz.prog 55 = true) ∧
 (callable Tryz.prog 56 = true) ∧
 (callable Tryz.prog 57 = true) ∧
 (callable Tryz.prog 58 = true) ∧
 (callable Tryz.prog 59 = true) ∧
 (callable Tryz.prog 60 = true) ∧
 (callable Tryz.prog 61 = true) ∧
 (callable Tryz.prog 62 = true) ∧
 (callable Tryz.prog 63 = true) ∧
 (callable Tryz.prog 64 = true) ∧
 (callable Tryz.prog 65 = true) ∧
 (callable Tryz.prog 66 = true) ∧
 (callable Tryz.prog 67 = true) ∧
 (callable Tryz.prog 68 = true) ∧
 (callable Tryz.prog 69 = true) ∧
 (callable Tryz.prog 70 = true) ∧
 (callable Tryz.prog 71 = true) ∧
 (callable Tryz.prog 72 = true) ∧
 (callable Tryz.prog 73 = true) ∧
 (callable Tryz.prog 74 = true) ∧
 (callable Tryz.prog 75 = true) ∧
 (callable Tryz.prog 76 = true) ∧
 (callable Tryz.prog 77 = true) ∧
 (callable Tryz.prog 78 = true) ∧
 (callable Tryz.prog 79 = true) ∧
 (callable Tryz.prog 80 = true) ∧
 (callable Tryz.prog 81 = true) ∧
 (callable Tryz.prog 82 = true) ∧
 (callable Tryz.prog 83 = true) ∧
 (callable Tryz.prog 84 = true) ∧
 (callable Tryz.prog 85 = true) ∧
 (callable Tryz.prog 86 = true) ∧
 (callable Tryz.prog 87 = true) ∧
 (callable Tryz.prog 88 = true) ∧
 (callable Tryz.prog 89 = true) ∧
 (callable Tryz.prog 90 = true) ∧
 (callable Tryz.prog 91 = true) ∧
 (callable Tryz.prog 92 = true) ∧
 (callable Tryz.prog 93 = true) ∧
 (callable Tryz.prog 94 = true) ∧
 (callable Tryz.prog 95 = true) ∧
 (callable Tryz.prog 96 = true) ∧
 (callable Tryz.prog 97 = true) ∧
 (callable Tryz.prog 98 = true) ∧
 (callable Tryz.prog 99 = true) ∧
 (callable Tryz.prog 100 = true) ∧
 (callable Tryz.prog 101 = true) ∧
 (callable Tryz.prog 102 = true) ∧
 (callable Tryz.prog 103 = true) ∧
 (callable Tryz.prog 104 = true) ∧
 (callable Tryz.prog 105 = true) ∧
 (callable Tryz.prog 106 = true) ∧
 (callable Tryz.prog 107 = true) ∧
 (callable Tryz.prog 108 = true) ∧
 (callable Tryz.prog 109 = true) ∧
 (callable Tryz.prog 110 = true) ∧
 (callable Tryz.prog 111 = true) ∧
 (callable Tryz.prog 112 = true) ∧
 (callable Tryz.prog 113 = true) ∧
 (callable Tryz.prog 114 = true) ∧
 (callable Tryz.prog 115 = true) ∧
 (callable Tryz.prog 116 = true) ∧
 (callable Tryz.prog 117 = true) ∧
 (callable Tryz.prog 118 = true) ∧
 (callable Tryz.prog 119 = true) ∧
 (callable Tryz.prog 120 = true) ∧
 (callable Tryz.prog 121 = true) ∧
 (callable Tryz.prog 122 = true) ∧
 (callable Tryz.prog 123 = true) ∧
 (callable Tryz.prog 124 = true) ∧
 (callable Tryz.prog 125 = true) ∧
 (callable Tryz.prog 126 = true) ∧
 (callable Tryz.prog 127 = true) ∧
 (callable Tryz.prog 128 = true) ∧
 (callable Tryz.prog 129 = true) ∧
 (callable Tryz.prog 130 = true) ∧
 (callable Tryz.prog 131 = true) ∧
 (callable Tryz.prog 132 = true) ∧
 (callable Tryz.prog 133 = true) ∧
 (callable Tryz.prog 134 = true) ∧
 (callable Tryz.prog 135 = true) ∧
 (callable Tryz.prog 136 = true) ∧
 (callable Tryz.prog 137 = true) ∧
 (callable Tryz.prog 138 = true) ∧
 (callable Tryz.prog 139 = true) ∧
 (callable Tryz.prog 140 = true) ∧
 (callable Tryz.prog 141 = true) ∧
 (callable Tryz.prog 142 = true) ∧
 (callable Tryz.prog 143 = true) ∧
 (callable Tryz.prog 144 = true) ∧
 (callable Tryz.prog 145 = true) ∧
 (callable Tryz.prog 146 = true) ∧
 (callable Tryz.prog 147 = true) ∧
 (callable Tryz.prog 148 = true) ∧
 (callable Tryz.prog 149 = true) ∧
 (callable Tryz.prog 150 = true) ∧
 (callable Tryz.prog 151 = true) ∧
 (callable Tryz.prog 152 = true) ∧
 (callable Tryz.prog 153 = true) ∧
 (callable Tryz.prog 154 = true) ∧
 (callable Tryz.prog 155 = true) ∧
 (callable Tryz.prog 156 = true) ∧
 (callable Tryz.prog 157 = true) ∧
 (callable Tryz.prog 158 = true) ∧
 (callable Tryz.prog 159 = true) ∧
 (callable Tryz.prog 160 = true) ∧
 (callable Tryz.prog 161 = true) ∧
 (callable Tryz.prog 162 = true) ∧
 (callable Tryz.prog 163 = true) ∧
 (callable Tryz.prog 164 = true) ∧
 (callable Tryz.prog 165 = true) ∧
 (callable Tryz.prog 166 = true) ∧
 (callable Tryz.prog 167 = true) ∧
 (callable Tryz.prog 168 = true) ∧
 (callable Tryz.prog 169 = true) ∧
 (callable Tryz.prog 170 = true) ∧
 (callable Tryz.prog 171 = true) ∧
 (callable Tryz.prog 172 = true) ∧
 (callable Tryz.prog 173 = true) ∧
 (callable Tryz.prog 174 = true) ∧
 (callable Tryz.prog 175 = true) ∧
 (callable Tryz.prog 176 = true) ∧
 (callable Tryz.prog 177 = true) ∧
 (callable Tryz.prog 178 = true) ∧
 (callable Tryz.prog 179 = true) ∧
 (callable Tryz.prog 180 = true) ∧
 (callable Tryz.prog 181 = true) ∧
 (callable Tryz.prog 182 = true) ∧
 (callable Tryz.prog 183 = true) ∧
 (callable Tryz.prog 184 = true) ∧
 (callable Tryz.prog 185 = true) ∧
 (callable Tryz.prog 186 = true) ∧
 (callable Tryz.prog 187 = true) ∧
 (callable Tryz.prog 188 = true) ∧
 (callable Tryz.prog 189 = true) ∧
 (callable Tryz.prog 190 = true) ∧
 (callable Tryz.prog 191 = true) ∧
 (callable Tryz.prog 192 = true) ∧
 (callable Tryz.prog 193 = true) ∧
 (callable Tryz.prog 194 = true) ∧
 (callable Tryz.prog 195 = true) ∧
 (callable Tryz.prog 196 = true) ∧
 (callable Tryz.prog 197 = true) ∧
 (callable Tryz.prog 198 = true) ∧
 (callable Tryz.prog 199 = true) ∧
 (callable Tryz.prog 200 = true) ∧
 (callable Tryz.prog 201 = true) ∧
 (callable Tryz.prog 202 = true) ∧
 (callable Tryz.prog 203 = true) ∧
 (callable Tryz.prog 204 = true) ∧
 (callable Tryz.prog 205 = true) ∧
 (callable Tryz.prog 206 = true) ∧
 (callable Tryz.prog 207 = true) ∧
 (callable Tryz.prog 208 = true) ∧
 (callable Tryz.prog 209 = true) ∧
 (callable Tryz.prog 210 = true) ∧
 (callable Tryz.prog 211 = true) ∧
 (callable Tryz.prog 212 = true) ∧
 (callable Tryz.prog 213 = true) ∧
 (callable Tryz.prog 214 = true) ∧
 (callable Tryz.prog 215 = true) ∧
 (callable Tryz.prog 216 = true) ∧
 (callable Tryz.prog 217 = true) ∧
 (callable Tryz.prog 218 = true) ∧
 (callable Tryz.prog 219 = true) ∧
 (callable Tryz.prog 220 = true) ∧
 (callable Tryz.prog 221 = true) ∧
 (callable Tryz.prog 222 = false) ∧
 (callable Tryz.prog 223 = true) ∧
 (callable Tryz.prog 224 = true) ∧
 (callable Tryz.prog 225 = true) ∧
 (callable Tryz.prog 226 = true) ∧
 (callable Tryz.prog 227 = true) ∧
 (callable Tryz.prog 228 = true) ∧
 (callable Tryz.prog 229 = true) ∧
 (callable Tryz.prog 230 = true) ∧
 (callable Tryz.prog 231 = true) ∧
 (callable Tryz.prog 232 = true) ∧
 (callable Tryz.prog 233 = true) ∧
 (callable Tryz.prog 234 = true) ∧
 (callable Tryz.prog 235 = false) ∧
 (callable Tryz.prog 236 = true) ∧
 (callable Tryz.prog 237 = true) ∧
 (callable Tryz.prog 238 = true) ∧
 (callable Tryz.prog 239 = true) ∧
 (callable Tryz.prog 240 = true) ∧
 (callable Tryz.prog 241 = true) ∧
 (callable Tryz.prog 242 = true) ∧
 (callable Tryz.prog 243 = true) ∧
 (callable Tryz.prog 244 = true) ∧
 (callable Tryz.prog 245 = true) ∧
 (callable Tryz.prog 246 = true) ∧
 (callable Tryz.prog 247 = true) ∧
 (callable Tryz.prog 248 = true) ∧
 (callable Tryz.prog 249 = false) ∧
 (callable Tryz.prog 250 = true) ∧
 (callable Tryz.prog 251 = true) ∧
 (callable Tryz.prog 252 = true) ∧
 (callable Tryz.prog 253 = true) ∧
 (callable Tryz.prog 254 = true) ∧
 (callable Tryz.prog 255 = true) ∧
 (callable Tryz.prog 256 = false) ∧
 (callable Tryz.prog 257 = true) ∧
 (callable Tryz.prog 258 = true) ∧
 (callable Tryz.prog 259 = true) ∧
 (callable Tryz.prog 260 = true) ∧
 (callable Tryz.prog 261 = true) ∧
 (callable Tryz.prog 262 = true) ∧
 (callable Tryz.prog 263 = true) ∧
 (callable Tryz.prog 264 = true) ∧
 (callable Tryz.prog 265 = true) ∧
 (callable Tryz.prog 266 = true) ∧
 (callable Tryz.prog 267 = true) ∧
 (callable Tryz.prog 268 = true) ∧
 (callable Tryz.prog 269 = true) ∧
 (callable Tryz.prog 270 = true) ∧
 (callable Tryz.prog 271 = true) ∧
 (callable Tryz.prog 272 = true) ∧
 (callable Tryz.prog 273 = true) ∧
 (callable Tryz.prog 274 = true) ∧
 (callable Tryz.prog 275 = false) ∧
 (callable Tryz.prog 276 = false) ∧
 (callable Tryz.prog 277 = false) ∧
 (callable Tryz.prog 278 = false) ∧
 (callable Tryz.prog 279 = false) ∧
 (callable Tryz.prog 280 = false) ∧
 (callable Tryz.prog 281 = false) ∧
 (callable Tryz.prog 282 = false) ∧
 (callable Tryz.prog 283 = false) ∧
 (callable Tryz.prog 284 = false) ∧
 (callable Tryz.prog 285 = false) ∧
 (callable Tryz.prog 286 = false) ∧
 (callable Tryz.prog 287 = false) ∧
 (callable Tryz.prog 288 = false) ∧
 (callable Tryz.prog 289 = false) ∧
 (callable Tryz.prog 290 = false) ∧
 (callable Tryz.prog 291 = false) ∧
 (callable Tryz.prog 292 = false) ∧
 (callable Tryz.prog 293 = false) ∧
 (callable Tryz.prog 294 = false) ∧
 (callable Tryz.prog 295 = false) := by
 refine ⟨?_, ?_, ?_, ?_, ?_, ?_, ?_, ?_, ?_, ?_, ?_, ?_, ?_, ?_, ?_, ?_, ?_, ?_, ?_, ?_, ?_, ?_, ?_, ?_, ?_, ?_, ?_, ?_, ?_, ?_, ?_, ?_, ?_, ?_, ?_, ?_, ?_, ?_, ?_, ?_, ?_, ?_, ?_, ?_, ?_, ?_, ?_, ?_, ?_, ?_, ?_, ?_, ?_, ?_, ?_, ?_, ?_, ?_, ?_, ?_, ?_, ?_, ?_, ?_, ?_, ?_, ?_, ?_, ?_, ?_, ?_, ?_, ?_, ?_, ?_, ?_, ?_, ?_, ?_, ?_, ?_, ?_, ?_, ?_, ?_, ?_, ?_, ?_, ?_, ?_, ?_, ?_, ?_, ?_, ?_, ?_, ?_, ?_, ?_, ?_, ?_, ?_, ?_, ?_, ?_, ?_, ?_, ?_, ?_, ?_, ?_, ?_, ?_, ?_, ?_, ?_, ?_, ?_, ?_, ?_, ?_, ?_, ?_, ?_, ?_, ?_, ?_, ?_, ?_, ?_, ?_, ?_, ?_, ?_, ?_, ?_, ?_, ?_, ?_, ?_, ?_, ?_, ?_, ?_, ?_, ?_, ?_, ?_, ?_, ?_, ?_, ?_, ?_, ?_, ?_, ?_, ?_, ?_, ?_, ?_, ?_, ?_, ?_, ?_, ?_, ?_, ?_, ?_, ?_, ?_, ?_, ?_, ?_, ?_, ?_, ?_, ?_, ?_, ?_, ?_, ?_, ?_, ?_, ?_, ?_, ?_, ?_, ?_, ?_, ?_, ?_, ?_, ?_, ?_, ?_, ?_, ?_, ?_, ?_, ?_, ?_, ?_, ?_, ?_, ?_, ?_, ?_, ?_, ?_, ?_, ?_, ?_, ?_, ?_, ?_, ?_, ?_, ?_, ?_, ?_, ?_, ?_, ?_, ?_, ?_, ?_, ?_, ?_, ?_, ?_, ?_, ?_, ?_, ?_, ?_, ?_, ?_, ?_, ?_, ?_, ?_, ?_, ?_, ?_, ?_, ?_, ?_, ?_, ?_, ?_, ?_, ?_, ?_, ?_, ?_, ?_, ?_, ?_, ?_, ?_, ?_, ?_, ?_, ?_, ?_, ?_, ?_, ?_, ?_, ?_, ?_, ?_, ?_, ?_, ?_, ?_, ?_, ?_, ?_, ?_, ?_, ?_, ?_, ?_, ?_, ?_, ?_, ?_, ?_, ?_, ?_, ?_, ?_, ?_, ?_, ?_⟩
 all_goals rfl
theorem tyZs : (tyZ Tryz.prog 3 = some (.int .i64 0)) ∧
 (tyZ Tryz.prog 4 = some (.bool false)) ∧
 (tyZ Tryz.prog 5 = some (.int .u8 0)) ∧
 (tyZ Tryz.prog 9 = some (vs [])) ∧
 (tyZ Tryz.prog 22 = some (.slice Option.none 0 0)) ∧
 (tyZ Tryz.prog 23 = some (.slice Option.none 0 0)) ∧
 (tyZ Tryz.prog 24 = some (.slice Option.none 0 0)) ∧
 (tyZ Tryz.prog 27 = some (.nilFunc)) ∧
 (tyZ Tryz.prog 28 = some (.slice Option.none 0 0)) ∧
 (tyZ Tryz.prog 29 = some (.slice Option.none 0 0)) ∧
 (tyZ Tryz.prog 31 = some (.agg #[.int .i64 0, .slice Option.none 0 0, .slice Option.none 0 0, .bool false, .slice Option.none 0 0])) ∧
 (tyZ Tryz.prog 34 = some (.agg #[.slice Option.none 0 0, .slice Option.none 0 0])) ∧
 (tyZ Tryz.prog 36 = some (.slice Option.none 0 0)) ∧
 (tyZ Tryz.prog 37 = some (.slice Option.none 0 0)) ∧
 (tyZ Tryz.prog 39 = some (.agg #[.int .i64 0, .slice Option.none 0 0, .slice Option.none 0 0, .bool false, .slice Option.none 0 0])) ∧
 (tyZ Tryz.prog 41 = some (.slice Option.none 0 0)) ∧
 (tyZ Tryz.prog 43 = some (.agg #[.slice Option.none 0 0, .slice Option.none 0 0])) ∧
 (tyZ Tryz.prog 55 = some (.slice Option.none 0 0)) ∧
 (tyZ Tryz.prog 56 = some (.slice Option.none 0 0)) ∧
 (tyZ Tryz.prog 57 = some (.slice Option.none 0 0)) ∧
 (tyZ Tryz.prog 59 = some (.agg #[.int .i64 0, .slice Option.none 0 0, .slice Option.none 0 0, .slice Option.none 0 0, .slice Option.none 0 0])) ∧
 (tyZ Tryz.prog 62 = some (.slice Option.none 0 0)) ∧
 (tyZ Tryz.prog 63 = some (.slice Option.none 0 0)) ∧
 (tyZ Tryz.prog 65 = some (.agg #[.slice Option.none 0 0, .slice Option.none 0 0, .int .i64 0, .int .i64 0])) ∧
 (tyZ Tryz.prog 67 = some (.agg #[.int .i64 0, .slice Option.none 0 0, .int .i64 0, .int .i64 0, .bool false, .int .i64 0])) ∧
 (tyZ Tryz.prog 70 = some (.slice Option.none 0 0)) ∧
 (tyZ Tryz.prog 72 = some (.agg #[.slice Option.none 0 0, .slice Option.none 0 0, .int .i64 0, .int .i64 0])) ∧
 (tyZ Tryz.prog 75 = some (.slice Option.none 0 0)) ∧
 (tyZ Tryz.prog 77 = some (.slice Option.none 0 0)) ∧
 (tyZ Tryz.prog 82 = some (.agg #[.int .i64 0, .slice Option.none 0 0, .int .i64 0, .int .i64 0, .bool false, .int .i64 0])) ∧
 (tyZ Tryz.prog 87 = some (.slice Option.none 0 0)) ∧
 (tyZ Tryz.prog 89 = some (.slice Option.none 0 0)) ∧
 (tyZ Tryz.prog 93 = some (.slice Option.none 0 0)) ∧
 (tyZ Tryz.prog 95 = some (.agg #[.slice Option.none 0 0, .slice Option.none 0 0])) ∧
 (tyZ Tryz.prog 97 = some (.agg #[.slice Option.none 0 0, .slice Option.none 0 0])) ∧
 (tyZ Tryz.prog 98 = some (.int .i64 0)) ∧
 (tyZ Tryz.prog 107 = some (.nilFunc)) ∧
 (tyZ Tryz.prog 108 = some (.int .u32 0)) ∧
 (tyZ Tryz.prog 110 = some (.agg #[.slice Option.none 0 0, .int .u32 0, .int .i64 0, .slice Option.none 0 0, .slice Option.none 0 0, .slice Option.none 0 0, .slice Option.none 0 0])) ∧
 (tyZ Tryz.prog 112 = some (.agg #[.slice Option.none 0 0, .slice Option.none 0 0])) ∧
 (tyZ Tryz.prog 132 = some (.agg #[.int .i64 0, .slice Option.none 0 0, .slice Option.none 0 0, .slice Option.none 0 0, .slice Option.none 0 0])) ∧
 (tyZ Tryz.prog 139 = some (.agg #[.slice Option.none 0 0, .int .u32 0, .int .i64 0, .slice Option.none 0 0, .slice Option.none 0 0, .slice Option.none 0 0, .slice Option.none 0 0])) ∧
 (tyZ Tryz.prog 143 = some (.agg #[.slice Option.none 0 0, .slice Option.none 0 0])) ∧
 (tyZ Tryz.prog 146 = some (.nilFunc)) ∧
 (tyZ Tryz.prog 148 = some (.nilFunc)) ∧
 (tyZ Tryz.prog 150 = some (.nilFunc)) ∧
 (tyZ Tryz.prog 154 = some (.slice Option.none 0 0)) ∧
 (tyZ Tryz.prog 156 = some (.agg #[.slice Option.none 0 0, .slice Option.none 0 0, .int .i64 0, .int .i64 0])) ∧
 (tyZ Tryz.prog 157 = some (.agg #[.int .u8 0, .int .u8 0, .int .u8 0, .int .u8 0])) ∧
 (tyZ Tryz.prog 158 = some (.slice Option.none 0 0)) ∧
 (tyZ Tryz.prog 160 = some (.agg #[.slice Option.none 0 0, .int .u8 0, .int .u8 0, .int .u8 0, .int .u8 0, .slice Option.none 0 0])) ∧
 (tyZ Tryz.prog 161 = some (.slice Option.none 0 0)) ∧
 (tyZ Tryz.prog 163 = some (.agg #[.slice Option.none 0 0, .int .u8 0, .int .u8 0, .int .u8 0, .int .u8 0, .slice Option.none 0 0])) ∧
 (tyZ Tryz.prog 166 = some (.agg #[.slice Option.none 0 0, vs []])) ∧
 (tyZ Tryz.prog 170 = some (.slice Option.none 0 0)) ∧
 (tyZ Tryz.prog 172 = some (.agg #[.slice Option.none 0 0, .slice Option.none 0 0, .int .i64 0, .int .i64 0])) ∧
 (tyZ Tryz.prog 174 = some (.slice Option.none 0 0)) ∧
 (tyZ Tryz.prog 176 = some (.agg #[.slice Option.none 0 0, .int .u8 0, .int .u8 0, .int .u8 0, .int .u8 0, .slice Option.none 0 0])) ∧
 (tyZ Tryz.prog 192 = some (.nilFunc)) ∧
 (tyZ Tryz.prog 195 = some (.pointer Option.none)) ∧
 (tyZ Tryz.prog 202 = some (.nilFunc)) ∧
 (tyZ Tryz.prog 207 = some (.nilFunc)) ∧
 (tyZ Tryz.prog 209 = some (.agg #[.slice Option.none 0 0, .int .i64 0, .int .u32 0, .slice Option.none 0 0])) ∧
 (tyZ Tryz.prog 219 = some (.nilFunc)) ∧
 (tyZ Tryz.prog 220 = some (.nilFunc)) ∧
 (tyZ Tryz.prog 222 = some (.agg #[.slice Option.none 0 0, .int .i64 0, .int .u32 0, .slice Option.none 0 0])) ∧
 (tyZ Tryz.prog 235 = some (.agg #[vs [], vs [], vs [], vs [], vs [], vs [], vs [], vs [], vs [], vs []])) ∧
 (tyZ Tryz.prog 237 = some (.slice Option.none 0 0)) ∧
 (tyZ Tryz.prog 239 = some (.agg #[.slice Option.none 0 0, .int .u8 0, .int .u8 0, .int .u8 0, .int .u8 0, .slice Option.none 0 0])) ∧
 (tyZ Tryz.prog 241 = some (.agg #[.slice Option.none 0 0, vs []])) ∧
 (tyZ Tryz.prog 252 = some (.nilFunc)) ∧
 (tyZ Tryz.prog 257 = some (.pointer Option.none)) ∧
 (tyZ Tryz.prog 259 = some (.agg #[.pointer Option.none, .int .i64 0])) ∧
 (tyZ Tryz.prog 266 = some (.nilFunc)) ∧
 (tyZ Tryz.prog 272 = some (.map Option.none)) ∧
 (tyZ Tryz.prog 277 = some (.slice Option.none 0 0)) ∧
 (tyZ Tryz.prog 282 = some (.nilFunc)) ∧
 (tyZ Tryz.prog 295 = some (.map Option.none)) ∧
 (tyZ Tryz.prog 297 = some (.agg #[.map Option.none, .bool false, .bool false])) ∧
 (tyZ Tryz.prog 300 = some (.nilFunc)) ∧
 (tyZ Tryz.prog 305 = some (.pointer Option.none)) ∧
 (tyZ Tryz.prog 307 = some (.agg #[.pointer Option.none, .slice Option.none 0 0])) ∧
 (tyZ Tryz.prog 329 = some (.pointer Option.none)) ∧
 (tyZ Tryz.prog 338 = some (.pointer Option.none)) ∧
 (tyZ Tryz.prog 340 = some (.int .u64 0)) ∧
 (tyZ Tryz.prog 345 = some (.int .i64 0)) ∧
 (tyZ Tryz.prog 353 = some (.int .u64 0)) ∧
 (tyZ Tryz.prog 354 = some (.int .u64 0)) ∧
 (tyZ Tryz.prog 358 = some (.pointer Option.none)) := by
 refine ⟨?_, ?_, ?_, ?_, ?_, ?_, ?_, ?_, ?_, ?_, ?_, ?_, ?_, ?_, ?_, ?_, ?_, ?_, ?_, ?_, ?_, ?_, ?_, ?_, ?_, ?_, ?_, ?_, ?_, ?_, ?_, ?_, ?_, ?_, ?_, ?_, ?_, ?_, ?_, ?_, ?_, ?_, ?_, ?_, ?_, ?_, ?_, ?_, ?_, ?_, ?_, ?_, ?_, ?_, ?_, ?_, ?_, ?_, ?_, ?_, ?_, ?_, ?_, ?_, ?_, ?_, ?_, ?_, ?_, ?_, ?_, ?_, ?_, ?_, ?_, ?_, ?_, ?_, ?_, ?_, ?_, ?_, ?_, ?_, ?_, ?_, ?_, ?_, ?_⟩
 all_goals rfl
theorem fdAs : (∀ a : Addr, fdA Tryz.prog 31 (.pointer (some a)) 0 = some (.pointer (adr (some a) 0))) ∧
 (∀ a : Addr, fdA Tryz.prog 31 (.pointer (some a)) 1 = some (.pointer (adr (some a) 1))) ∧
 (∀ a : Addr, fdA Tryz.prog 31 (.pointer (some a)) 2 = some (.pointer (adr (some a) 2))) ∧
 (∀ a : Addr, fdA Tryz.prog 31 (.pointer (some a)) 3 = some (.pointer (adr (some a) 3))) ∧
 (∀ a : Addr, fdA Tryz.prog 31 (.pointer (some a)) 4 = some (.pointer (adr (some a) 4))) ∧
 (∀ a : Addr, fdA Tryz.prog 34 (.pointer (some a)) 0 = some (.pointer (adr (some a) 0))) ∧
 (∀ a : Addr, fdA Tryz.prog 34 (.pointer (some a)) 1 = some (.pointer (adr (some a) 1))) ∧
 (∀ a : Addr, fdA Tryz.prog 39 (.pointer (some a)) 0 = some (.pointer (adr (some a) 0))) ∧
 (∀ a : Addr, fdA Tryz.prog 39 (.pointer (some a)) 1 = some (.pointer (adr (some a) 1))) ∧
 (∀ a : Addr, fdA Tryz.prog 39 (.pointer (some a)) 2 = some (.pointer (adr (some a) 2))) ∧
 (∀ a : Addr, fdA Tryz.prog 39 (.pointer (some a)) 3 = some (.pointer (adr (some a) 3))) ∧
 (∀ a : Addr, fdA Tryz.prog 39 (.pointer (some a)) 4 = some (.pointer (adr (some a) 4))) ∧
 (∀ a : Addr, fdA Tryz.prog 43 (.pointer (some a)) 0 = some (.pointer (adr (some a) 0))) ∧
 (∀ a : Addr, fdA Tryz.prog 43 (.pointer (some a)) 1 = some (.pointer (adr (some a) 1))) ∧
 (∀ a : Addr, fdA Tryz.prog 59 (.pointer (some a)) 0 = some (.pointer (adr (some a) 0))) ∧
 (∀ a : Addr, fdA Tryz.prog 59 (.pointer (some a)) 1 = some (.pointer (adr (some a) 1))) ∧
 (∀ a : Addr, fdA Tryz.prog 59 (.pointer (some a)) 2 = some (.pointer (adr (some a) 2))) ∧
 (∀ a : Addr, fdA Tryz.prog 59 (.pointer (some a)) 3 = some (.pointer (adr (some a) 3))) ∧
 (∀ a : Addr, fdA Tryz.prog 59 (.pointer (some a)) 4 = some (.pointer (adr (some a) 4))) ∧
 (∀ a : Addr, fdA Tryz.prog 65 (.pointer (some a)) 0 = some (.pointer (adr (some a) 0))) ∧
 (∀ a : Addr, fdA Tryz.prog 65 (.pointer (some a)) 1 = some (.pointer (adr (some a) 1))) ∧
 (∀ a : Addr, fdA Tryz.prog 65 (.pointer (some a)) 2 = some (.pointer (adr (some a) 2))) ∧
 (∀ a : Addr, fdA Tryz.prog 65 (.pointer (some a)) 3 = some (.pointer (adr (some a) 3))) ∧
 (∀ a : Addr, fdA Tryz.prog 67 (.pointer (some a)) 0 = some (.pointer (adr (some a) 0))) ∧
 (∀ a : Addr, fdA Tryz.prog 67 (.pointer (some a)) 1 = some (.pointer (adr (some a) 1))) ∧
 (∀ a : Addr, fdA Tryz.prog 67 (.pointer (some a)) 2 = some (.pointer (adr (some a) 2))) ∧
 (∀ a : Addr, fdA Tryz.prog 67 (.pointer (some a)) 3 = some (.pointer (adr (some a) 3))) ∧
 (∀ a : Addr, fdA Tryz.prog 67 (.pointer (some a)) 4 = some (.pointer (adr (some a) 4))) ∧
 (∀ a : Addr, fdA Tryz.prog 67 (.pointer (some a)) 5 = some (.pointer (adr (some a) 5))) ∧
 (∀ a : Addr, fdA Tryz.prog 72 (.pointer (some a)) 0 = some (.pointer (adr (some a) 0))) ∧
 (∀ a : Addr, fdA Tryz.prog 72 (.pointer (some a)) 1 = some (.pointer (adr (some a) 1))) ∧
 (∀ a : Addr, fdA Tryz.prog 72 (.pointer (some a)) 2 = some (.pointer (adr (some a) 2))) ∧
 (∀ a : Addr, fdA Tryz.prog 72 (.pointer (some a)) 3 = some (.pointer (adr (some a) 3))) ∧
 (∀ a : Addr, fdA Tryz.prog 82 (.pointer (some a)) 0 = some (.pointer (adr (some a) 0))) ∧
 (∀ a : Addr, fdA Tryz.prog 82 (.pointer (some a)) 1 = some (.pointer (adr (some a) 1))) ∧
 (∀ a : Addr, fdA Tryz.prog 82 (.pointer (some a)) 2 = some (.pointer (adr (some a) 2))) ∧
 (∀ a : Addr, fdA Tryz.prog 82 (.pointer (some a)) 3 = some (.pointer (adr (some a) 3))) ∧
 (∀ a : Addr, fdA Tryz.prog 82 (.pointer (some a)) 4 = some (.pointer (adr (some a) 4))) ∧
 (∀ a : Addr, fdA Tryz.prog 82 (.pointer (some a)) 5 = some (.pointer (adr (some a) 5))) ∧
 (∀ a : Addr, fdA Tryz.prog 97 (.pointer (some a)) 0 = some (.pointer (adr (some a) 0))) ∧
 (∀ a : Addr, fdA Tryz.prog 97 (.pointer (some a)) 1 = some (.pointer (adr (some a) 1))) ∧
 (∀ a : Addr, fdA Tryz.prog 110 (.pointer (some a)) 0 = some (.pointer (adr (some a) 0))) ∧
 (∀ a : Addr, fdA Tryz.prog 110 (.pointer (some a)) 1 = some (.pointer (adr (some a) 1))) ∧
 (∀ a : Addr, fdA Tryz.prog 110 (.pointer (some a)) 2 = some (.pointer (adr (some a) 2))) ∧
 (∀ a : Addr, fdA Tryz.prog 112 (.pointer (some a)) 0 = some (.pointer (adr (some a) 0))) ∧
 (∀ a : Addr, fdA Tryz.prog 112 (.pointer (some a)) 1 = some (.pointer (adr (some a) 1))) ∧
 (∀ a : Addr, fdA Tryz.prog 132 (.pointer (some a)) 0 = some (.pointer (adr (some a) 0))) ∧
 (∀ a : Addr, fdA Tryz.prog 132 (.pointer (some a)) 1 = some (.pointer (adr (some a) 1))) ∧
 (∀ a : Addr, fdA Tryz.prog 132 (.pointer (some a)) 2 = some (.pointer (adr (some a) 2))) ∧
 (∀ a : Addr, fdA Tryz.prog 132 (.pointer (some a)) 3 = some (.pointer (adr (some a) 3))) ∧
 (∀ a : Addr, fdA Tryz.prog 132 (.pointer (some a)) 4 = some (.pointer (adr (some a) 4))) ∧
 (∀ a : Addr, fdA Tryz.prog 139 (.pointer (some a)) 0 = some (.pointer (adr (some a) 0))) ∧
 (∀ a : Addr, fdA Tryz.prog 139 (.pointer (some a)) 1 = some (.pointer (adr (some a) 1))) ∧
 (∀ a : Addr, fdA Tryz.prog 139 (.pointer (some a)) 2 = some (.pointer (adr (some a) 2))) ∧
 (∀ a : Addr, fdA Tryz.prog 143 (.pointer (some a)) 0 = some (.pointer (adr (some a) 0))) ∧
 (∀ a : Addr, fdA Tryz.prog 143 (.pointer (some a)) 1 = some (.pointer (adr (some a) 1))) ∧
 (∀ a : Addr, fdA Tryz.prog 156 (.pointer (some a)) 0 = some (.pointer (adr (some a) 0))) ∧
 (∀ a : Addr, fdA Tryz.prog 156 (.pointer (some a)) 1 = some (.pointer (adr (some a) 1))) ∧
 (∀ a : Addr, fdA Tryz.prog 156 (.pointer (some a)) 2 = some (.pointer (adr (some a) 2))) ∧
 (∀ a : Addr, fdA Tryz.prog 156 (.pointer (some a)) 3 = some (.pointer (adr (some a) 3))) ∧
 (∀ a : Addr, fdA Tryz.prog 160 (.pointer (some a)) 0 = some (.pointer (adr (some a) 0))) ∧
 (∀ a : Addr, fdA Tryz.prog 160 (.pointer (some a)) 1 = some (.pointer (adr (some a) 1))) ∧
 (∀ a : Addr, fdA Tryz.prog 160 (.pointer (some a)) 2 = some (.pointer (adr (some a) 5))) ∧
 (∀ a : Addr, fdA Tryz.prog 163 (.pointer (some a)) 0 = some (.pointer (adr (some a) 0))) ∧
 (∀ a : Addr, fdA Tryz.prog 163 (.pointer (some a)) 1 = some (.pointer (adr (some a) 1))) ∧
 (∀ a : Addr, fdA Tryz.prog 163 (.pointer (some a)) 2 = some (.pointer (adr (some a) 5))) ∧
 (∀ a : Addr, fdA Tryz.prog 166 (.pointer (some a)) 0 = some (.pointer (adr (some a) 0))) ∧
 (∀ a : Addr, fdA Tryz.prog 166 (.pointer (some a)) 1 = some (.pointer (adr (some a) 1))) ∧
 (∀ a : Addr, fdA Tryz.prog 172 (.pointer (some a)) 0 = some (.pointer (adr (some a) 0))) ∧
 (∀ a : Addr, fdA Tryz.prog 172 (.pointer (some a)) 1 = some (.pointer (adr (some a) 1))) ∧
 (∀ a : Addr, fdA Tryz.prog 172 (.pointer (some a)) 2 = some (.pointer (adr (some a) 2))) ∧
 (∀ a : Addr, fdA Tryz.prog 172 (.pointer (some a)) 3 = some (.pointer (adr (some a) 3))) ∧
 (∀ a : Addr, fdA Tryz.prog 176 (.pointer (some a)) 0 = some (.pointer (adr (some a) 0))) ∧
 (∀ a : Addr, fdA Tryz.prog 176 (.pointer (some a)) 1 = some (.pointer (adr (some a) 1))) ∧
 (∀ a : Addr, fdA Tryz.prog 176 (.pointer (some a)) 2 = some (.pointer (adr (some a) 5))) ∧
 (∀ a : Addr, fdA Tryz.prog 209 (.pointer (some a)) 0 = some (.pointer (adr (some a) 0))) ∧
 (∀ a : Addr, fdA Tryz.prog 209 (.pointer (some a)) 1 = some (.pointer (adr (some a) 1))) ∧
 (∀ a : Addr, fdA Tryz.prog 209 (.pointer (some a)) 2 = some (.pointer (adr (some a) 2))) ∧
 (∀ a : Addr, fdA Tryz.prog 209 (.pointer (some a)) 3 = some (.pointer (adr (some a) 3))) ∧
 (∀ a : Addr, fdA Tryz.prog 222 (.pointer (some a)) 0 = some (.pointer (adr (some a) 0))) ∧
 (∀ a : Addr, fdA Tryz.prog 222 (.pointer (some a)) 1 = some (.pointer (adr (some a) 1))) ∧
 (∀ a : Addr, fdA Tryz.prog 222 (.pointer (some a)) 2 = some (.pointer (adr (some a) 2))) ∧
 (∀ a : Addr, fdA Tryz.prog 222 (.pointer (some a)) 3 = some (.pointer (adr (some a) 3))) ∧
 (∀ a : Addr, fdA Tryz.prog 239 (.pointer (some a)) 0 = some (.pointer (adr (some a) 0))) ∧
 (∀ a : Addr, fdA Tryz.prog 239 (.pointer (some a)) 1 = some (.pointer (adr (some a) 1))) ∧
 (∀ a : Addr, fdA Tryz.prog 239 (.pointer (some a)) 2 = some (.pointer (adr (some a) 5))) ∧
 (∀ a : Addr, fdA Tryz.prog 241 (.pointer (some a)) 0 = some (.pointer (adr (some a) 0))) ∧
 (∀ a : Addr, fdA Tryz.prog 241 (.pointer (some a)) 1 = some (.pointer (adr (some a) 1))) ∧
 (∀ a : Addr, fdA Tryz.prog 259 (.pointer (some a)) 0 = some (.pointer (adr (some a) 0))) ∧
 (∀ a : Addr, fdA Tryz.prog 259 (.pointer (some a)) 1 = some (.pointer (adr (some a) 1))) ∧
 (∀ a : Addr, fdA Tryz.prog 297 (.pointer (some a)) 0 = some (.pointer (adr (some a) 0))) ∧
 (∀ a : Addr, fdA Tryz.prog 297 (.pointer (some a)) 1 = some (.pointer (adr (some a) 1))) ∧
 (∀ a : Addr, fdA Tryz.prog 297 (.pointer (some a)) 2 = some (.pointer (adr (some a) 2))) ∧
 (∀ a : Addr, fdA Tryz.prog 307 (.pointer (some a)) 0 = some (.pointer (adr (some a) 0))) ∧
 (∀ a : Addr, fdA Tryz.prog 307 (.pointer (some a)) 1 = some (.pointer (adr (some a) 1))) := by
 refine ⟨?_, ?_, ?_, ?_, ?_, ?_, ?_, ?_, ?_, ?_, ?_, ?_, ?_, ?_, ?_, ?_, ?_, ?_, ?_, ?_, ?_, ?_, ?_, ?_, ?_, ?_, ?_, ?_, ?_, ?_, ?_, ?_, ?_, ?_, ?_, ?_, ?_, ?_, ?_, ?_, ?_, ?_, ?_, ?_, ?_, ?_, ?_, ?_, ?_, ?_, ?_, ?_, ?_, ?_, ?_, ?_, ?_, ?_, ?_, ?_, ?_, ?_, ?_, ?_, ?_, ?_, ?_, ?_, ?_, ?_, ?_, ?_, ?_, ?_, ?_, ?_, ?_, ?_, ?_, ?_, ?_, ?_, ?_, ?_, ?_, ?_, ?_, ?_, ?_, ?_, ?_, ?_, ?_, ?_, ?_⟩
 all_goals (intro a; kernel_rfl)
attribute [go_sem] tyUs tySs tyAs tyIs tyNs fns tyZs fdAs
theorem mixed : Tryz.prog.follows .mixedOrders = true := by rfl
end Go.Proofs.YtopbbjdembnfdaaGreat

namespace Go.Proofs.YtopbbjdembnfdaaGreat
open Go

abbrev Lab := List UInt8
def MapAt (w : World) (r : Nat) (l : List (Lab × Value)) : Prop :=
 ∃ es clk, w.heap[r]? = some (.map es clk) ∧ es.toList.map (fun e => (e.key, e.val)) = l.map (fun p => (vs p.1, p.2)) ∧ (es.toList.map (·.born)).Pairwise (· ≠ ·) ∧ (∀ e ∈ es.toList, e.born < clk)

theorem MapAt.block {w x : World} {r : Nat} {l : List (Lab × Value)} (h : MapAt w r l) (hb : x.heap[r]? = w.heap[r]?) : MapAt x r l := by
 obtain ⟨es, clk, h1, h2⟩ := h
 exact ⟨es, clk, hb.trans h1, h2⟩

theorem sameNow_vs (a b : Lab) : Instr.sameNow .string (vs a) (vs b) = some (a == b) := by
 simp only [vs, Instr.sameNow, Option.some.injEq]
 rw [Bool.eq_iff_iff, MapKept.bytes_beq, beq_iff_eq]
 constructor
 ·intro h
  have := congrArg (fun x : ByteArray => x.data.toList) h
  simpa using this
 ·rintro rfl; rfl

theorem find_none {key : Lab} : ∀ (es : List MapEntry) (l : List (Lab × Value)) (i : Nat), es.map (fun e => (e.key, e.val)) = l.map (fun p => (vs p.1, p.2)) → l.lookup key = Option.none → Instr.findNow .string (vs key) es i = some Option.none
 | [], [], _, _, _ => rfl
 | [], _ :: _, _, h, _ => by simp at h
 | _ :: _, [], _, h, _ => by simp at h
 | e :: es, (k, v) :: l, i, h, hl => by
  simp only [List.map_cons, List.cons.injEq, Prod.mk.injEq] at h
  obtain ⟨⟨h1, h2⟩, h3⟩ := h
  simp only [List.lookup_cons] at hl
  split at hl
  ·cases hl
  ·rename_i hne
   simp only [Instr.findNow, h1, sameNow_vs, hne]
   exact find_none es l (i + 1) h3 hl

theorem find_some {key : Lab} {v : Value} : ∀ (es : List MapEntry) (l : List (Lab × Value)) (i : Nat), es.map (fun e => (e.key, e.val)) = l.map (fun p => (vs p.1, p.2)) → l.lookup key = some v → ∃ j, Instr.findNow .string (vs key) es i = some (some (j, v))
 | [], [], _, _, h => by simp at h
 | [], _ :: _, _, h, _ => by simp at h
 | _ :: _, [], _, h, _ => by simp at h
 | e :: es, (k, u) :: l, i, h, hl => by
  simp only [List.map_cons, List.cons.injEq, Prod.mk.injEq] at h
  obtain ⟨⟨h1, h2⟩, h3⟩ := h
  simp only [List.lookup_cons] at hl
  split at hl
  ·rename_i heq
   cases hl
   exact ⟨i, by simp only [Instr.findNow, h1, sameNow_vs, heq, h2]⟩
  ·rename_i hne
   simp only [Instr.findNow, h1, sameNow_vs, hne]
   exact find_some es l (i + 1) h3 hl

section
variable {P : Program} {d : Option Tmp} {ty : TypeId} {ps : String} {af : Array Edge} {g : Option (Nat × Bool)} {ρ : Operand → Value} {w : World} {K : Value → World → Prop}

theorem MapAt.lk {r : Nat} {l : List (Lab × Value)} (h : MapAt w r l) {t kt et : TypeId} {z : Value} (ht : tyU P t = some (.map kt et)) (hk : tyU P kt = some .string) (hz : tyZ P et = some z) (key : Lab) :
  lkV P w t (.map (some r)) (vs key) false = some ((l.lookup key).getD z) := by
 obtain ⟨es, clk, h1, h2, _⟩ := h
 unfold lkV
 rw [ht]; simp only [hk, hz, h1]
 cases hl : l.lookup key with
 | none => rw [find_none _ _ 0 h2 hl]; rfl
 | some v => obtain ⟨j, hj⟩ := find_some _ _ 0 h2 hl; rw [hj]; rfl

theorem op_mapUpdate {t kt et : TypeId} {m k x : Operand} {r : Nat} {l : List (Lab × Value)} {key : Lab} {v : Value} (ht : tyU P t = some (.map kt et)) (hk : tyU P kt = some .string)
  (hm : ρ m = .map (some r)) (hkey : ρ k = vs key) (hx : ρ x = v) (hat : MapAt w r l) (hno : l.lookup key = Option.none)
  (h : ∀ w', MapAt w' r (l ++ [(key, v)]) → Keep (fun i => i = r) w w' → w'.heap.size = w.heap.size → K undef w') :
  opW P ⟨d, .mapUpdate t m k x, ty, ps, af, g⟩ ρ w K := by
 obtain ⟨es, clk, h1, h2, h3, h4⟩ := hat
 have hf := find_none es.toList l 0 h2 hno
 have hrun : (Instr.mapUpdate t (.map (some r)) (vs key) v).run P w = .ok () (w.putObj r (.map (es.push { key := vs key, val := v, born := clk }) (clk + 1))) := by
  have hck : ∀ e, (Instr.checkKey e 10000 kt (vs key)).run P w = .ok () w := fun e => checkKey_string hk 9999
  simp [Instr.mapUpdate, run_underlying (show P.underlying t = _ from ht), MapKept.run_getObj_map h1, hck, Instr.findKey, run_underlying (show P.underlying kt = _ from hk), hf, MapKept.run_setObj_map _ h1, Result.andThen]
  rfl
 have hlt : r < w.heap.size := (Array.getElem?_eq_some_iff.1 h1).1
 have hat' : MapAt (w.putObj r (.map (es.push { key := vs key, val := v, born := clk }) (clk + 1))) r (l ++ [(key, v)]) := by
  refine ⟨_, _, World.putObj_heap_same hlt, by simp [h2], ?_, ?_⟩
  ·simp only [Array.toList_push, List.map_append, List.map_cons, List.map_nil, List.pairwise_append]
   refine ⟨h3, by simp, fun a ha b hb => ?_⟩
   simp at hb; subst hb
   obtain ⟨e, he, rfl⟩ := List.mem_map.1 ha
   exact Nat.ne_of_lt (h4 e he)
  ·intro e he
   simp only [Array.toList_push, List.mem_append, List.mem_singleton] at he
   rcases he with he | rfl
   ·exact Nat.lt_succ_of_lt (h4 e he)
   ·exact Nat.lt_succ_self _
 have hfin := h _ hat' (keep_put rfl) (by simp)
 show opR P K ((do Instr.mapUpdate t (ρ m) (ρ k) (ρ x); pure .skip : Sem Next).run P w)
 rw [hm, hkey, hx]
 simp only [Sem.run_bind, hrun, Result.andThen_ok, Sem.run_pure]
 exact hfin

theorem new_map (w : World) : MapAt (w.alloc (.map #[] 0)) w.heap.size [] := ⟨_, _, new_block w _, rfl, by simp, by simp⟩
end
end Go.Proofs.YtopbbjdembnfdaaGreat

namespace Go.Proofs.YtopbbjdembnfdaaGreat
open Go

inductive Pln
 | fin
 | run (pl : List (Nat × Bool)) (p : Pln)
 | fork (m : Nat) (is : List Nat) (p : Nat → Pln)

def Pln.len : Pln → Nat
 | .fin => 0
 | .run pl p => pl.length + p.len
 | .fork m _ _ => m + 1

def planPre (ops : Array Oper) (isB : Nat → Bool) : List (Nat × Bool) → Array Bool → Option (Array Bool)
 | [], l => some l
 | (i, true) :: pl, l => if (rdy ops l).contains i && Region.free .any ops l i && !isB i then planPre ops isB pl (l.setIfInBounds i true) else Option.none
 | (i, false) :: pl, l => if rdy ops l == [i] then planPre ops isB pl (l.setIfInBounds i true) else Option.none

def planT (ops : Array Oper) (isB : Nat → Bool) : Pln → Array Bool → Bool
 | .fin, l => (rdy ops l).isEmpty
 | .run pl p, l => match planPre ops isB pl l with | some l' => planT ops isB p l' | Option.none => false
 | .fork m is p, l => (rdy ops l == is) && !is.isEmpty && is.all fun i => (p i).len == m && planT ops isB (p i) (l.setIfInBounds i true)

section
variable {P : Program} {ops : Array Oper} {n : Nat} {isB : Nat → Bool} {K : Sto → World → Prop} {S : Nat → Prop}

theorem anyK_pre (hsel : Region.noSelect ops = true) (hB : waitsB ops isB = true) {f : Nat} {l' : Array Bool} : ∀ (pl : List (Nat × Bool)) (l : Array Bool) (σ : Sto) (w : World), closedL ops l →
  planPre ops isB pl l = some l' → drawW P ops n S isB pl σ w (fun σ' w' => closedL ops l' → anyK P ops n isB K (Keep S w') f l' σ' w') → anyK P ops n isB K (Keep S w) (pl.length + f) l σ w
 | [], l, σ, w, hcl, hp, h => by
  cases hp
  rw [List.length_nil, Nat.zero_add]
  exact h hcl
 | (i, true) :: pl, l, σ, w, hcl, hp, h => by
  unfold planPre at hp
  split at hp
  ·rename_i hc
   simp only [Bool.and_eq_true, Bool.not_eq_true', List.contains_iff_mem] at hc
   obtain ⟨⟨hr, hfree⟩, hni⟩ := hc
   obtain ⟨v, hq, h⟩ := h
   obtain ⟨_, oi, hoi, _⟩ := mem_ready.1 hr
   have hd : dstAt ops i = oi.dst := by simp [dstAt, hoi]
   rw [hd] at h
   have := anyK_first hoi hsel hB hni (pl.length + f) (Keep S w) l σ w hcl (Region.free_spec hoi hfree) hr hq (Keep.refl S w)
    (anyK_pre hsel hB pl _ _ w (closed_set hcl hr) hp h)
   rwa [show ((i, true) :: pl).length + f = (pl.length + f) + 1 from by simp; omega]
  ·cases hp
 | (i, false) :: pl, l, σ, w, hcl, hp, h => by
  unfold planPre at hp
  split at hp
  ·rename_i hr
   rw [beq_iff_eq] at hr
   have hmem : i ∈ rdy ops l := by rw [hr]; exact List.mem_singleton.2 rfl
   rw [show ((i, false) :: pl).length + f = (pl.length + f) + 1 from by simp; omega]
   refine ⟨fun h0 => (by rw [hr] at h0; cases h0), fun j hj => ?_⟩
   rw [hr] at hj
   obtain rfl := List.mem_singleton.1 hj
   refine opAt_mono (fun σ' w' ⟨hor, hk⟩ => ?_) h
   have hrec := anyK_pre hsel hB pl _ σ' w' (closed_set hcl hmem) hp hk
   cases hb : isB j with
   | true => exact .inl ⟨rfl, any0_of_K _ _ _ _ _ hrec⟩
   | false =>
    rw [hb] at hor
    have hkeep := hor.resolve_left (by simp)
    exact .inr ⟨rfl, Keep S w', fun x hx => hkeep.trans hx, Keep.refl S w', hrec⟩
  ·cases hp

def drawTW (P : Program) (ops : Array Oper) (n : Nat) (S : Nat → Prop) (isB : Nat → Bool) (K : Sto → World → Prop) : Pln → Sto → World → Prop
 | .fin, σ, w => K σ w
 | .run pl p, σ, w => drawW P ops n S isB pl σ w (fun σ' w' => drawTW P ops n S isB K p σ' w')
 | .fork _ is p, σ, w => ∀ i ∈ is, opAt P ops n i σ w (fun σ' w' => (isB i = true ∨ Keep S w w') ∧ drawTW P ops n S isB K (p i) σ' w')

theorem drawW_mono {K K' : Sto → World → Prop} (hk : ∀ σ w, K σ w → K' σ w) : ∀ (pl : List (Nat × Bool)) (σ : Sto) (w : World), drawW P ops n S isB pl σ w K → drawW P ops n S isB pl σ w K'
 | [], σ, w, h => hk σ w h
 | (i, true) :: pl, σ, w, ⟨v, h1, h2⟩ => ⟨v, h1, drawW_mono hk pl _ _ h2⟩
 | (i, false) :: pl, σ, w, h => opAt_mono (fun σ' w' ⟨h1, h2⟩ => ⟨h1, drawW_mono hk pl _ _ h2⟩) h

theorem anyK_of_tree (hsel : Region.noSelect ops = true) (hB : waitsB ops isB = true) : ∀ (p : Pln) (l : Array Bool) (σ : Sto) (w : World), closedL ops l →
  planT ops isB p l = true → drawTW P ops n S isB K p σ w → anyK P ops n isB K (Keep S w) p.len l σ w
 | .fin, l, σ, w, _, hp, h => ⟨by simpa [planT] using hp, h⟩
 | .run pl p, l, σ, w, hcl, hp, h => by
  unfold planT at hp
  split at hp
  ·rename_i l' hl'
   exact anyK_pre hsel hB pl l σ w hcl hl' (drawW_mono (fun σ' w' hk hcl' => anyK_of_tree hsel hB p l' σ' w' hcl' hp hk) pl σ w h)
  ·cases hp
 | .fork m is p, l, σ, w, hcl, hp, h => by
  simp only [planT, Bool.and_eq_true, beq_iff_eq, List.all_eq_true, Bool.not_eq_true'] at hp
  obtain ⟨⟨hr, hne⟩, hall⟩ := hp
  refine ⟨fun h0 => (by rw [hr] at h0; subst h0; cases hne), fun j hj => ?_⟩
  have hj' := hj
  rw [hr] at hj'
  obtain ⟨hlen, hpj⟩ := hall j hj'
  refine opAt_mono (fun σ' w' ⟨hor, hk⟩ => ?_) (h j hj')
  have hrec := anyK_of_tree hsel hB (p j) _ σ' w' (closed_set hcl hj) hpj hk
  rw [hlen] at hrec
  cases hb : isB j with
  | true => exact .inl ⟨rfl, any0_of_K _ _ _ _ _ hrec⟩
  | false =>
   rw [hb] at hor
   have hkeep := hor.resolve_left (by simp)
   exact .inr ⟨rfl, Keep S w', fun x hx => hkeep.trans hx, Keep.refl S w', hrec⟩
end

def treeOk (ops : Array Oper) (isB : Nat → Bool) (p : Pln) : Bool :=
 Region.noSelect ops && noDefer ops && waitsB ops isB && decide (p.len = ops.size) && planT ops isB p (Array.replicate ops.size false)

def allL {α : Type} : List α → (α → Prop) → Prop
 | [], _ => True
 | [a], f => f a
 | a :: l, f => f a ∧ allL l f
theorem allL_mem {α : Type} {f : α → Prop} : ∀ {l : List α}, allL l f → ∀ a ∈ l, f a
 | [], _, a, h => by cases h
 | [b], h, a, ha => by rw [List.mem_singleton.1 ha]; exact h
 | b :: c :: l, h, a, ha => by
  rcases List.mem_cons.1 ha with rfl | ha
  ·exact h.1
  ·exact allL_mem h.2 a ha

def drawT (P : Program) (gd : Nat → Option Tmp) (ops : List Oper) (n : Nat) (S : Nat → Prop) (isB : Nat → Bool) : Pln → Sto → World → (Sto → World → Prop) → Prop
 | .fin, σ, w, K => K σ w
 | .run pl p, σ, w, K => drawV P gd ops n S isB pl σ w (fun σ' w' => drawT P gd ops n S isB p σ' w' K)
 | .fork _ is p, σ, w, K => allL is fun i => drawV P gd ops n S isB [(i, false)] σ w (fun σ' w' => drawT P gd ops n S isB (p i) σ' w' K)

section
variable {P : Program} {n : Nat} {S : Nat → Prop} {isB : Nat → Bool} {K : Sto → World → Prop}
theorem drawT_sound {ops : Array Oper} : ∀ (p : Pln) (σ : Sto) (w : World), drawT P (dstL ops.toList) ops.toList n S isB p σ w K → drawTW P ops n S isB K p σ w
 | .fin, _, _, h => h
 | .run pl p, σ, w, h => drawW_mono (fun σ' w' hk => drawT_sound p σ' w' hk) pl σ w (drawV_sound pl σ w h)
 | .fork m is p, σ, w, h => fun i hi => by
  have := drawV_sound _ σ w (allL_mem h i hi)
  exact opAt_mono (fun σ' w' ⟨h1, h2⟩ => ⟨h1, drawT_sound (p i) σ' w' h2⟩) this

variable {r : Option Nat} {Q : Post} {σ : Sto} {ds : List Deferred} {w : World}
theorem W_tree {id : Nat} {ops : Array Oper} (isB : Nat → Bool) (p : Pln) (S : Nat → Prop)
  (hm : P.follows .mixedOrders = true) (hok : treeOk ops isB p = true)
  (h : ∀ (gd : Nat → Option Tmp) (K : Sto → World → Prop) (x : World), gd = dstL ops.toList → Keep S w x → x = w.drew → (∀ σ' w', Q .normal σ' ds w' → K σ' w') → drawT P gd ops.toList n S isB p σ x K) :
  W P r n (.region id ops true) Q σ ds w := by
 simp only [treeOk, Bool.and_eq_true, decide_eq_true_eq] at hok
 obtain ⟨⟨⟨⟨h1, h2⟩, h3⟩, h4⟩, h5⟩ := hok
 refine wpIn_region_any hm ?_
 have := anyK_of_tree (K := fun σ w => Q .normal σ ds w) h1 h3 p _ σ w.drew (closed_start ops) h5 (drawT_sound p σ w.drew (h _ _ _ rfl (Keep.drew S w) rfl (fun _ _ h => h)))
 rw [h4] at this
 exact wpAny_of_any0 h2 (fun σ w hk => ⟨σ, ds, rfl, hk⟩) _ _ _ _ (any0_of_K _ _ _ _ _ this)

variable {gd : Nat → Option Tmp} {ops : List Oper}
theorem drawT_fin : drawT P gd ops n S isB .fin σ w K = K σ w := nr rfl
theorem drawT_run (pl : List (Nat × Bool)) (p : Pln) : drawT P gd ops n S isB (.run pl p) σ w K = drawV P gd ops n S isB pl σ w (fun σ' w' => drawT P gd ops n S isB p σ' w' K) := nr rfl
theorem drawT_fork (m : Nat) (is : List Nat) (p : Nat → Pln) : drawT P gd ops n S isB (.fork m is p) σ w K = allL is fun i => drawV P gd ops n S isB [(i, false)] σ w (fun σ' w' => drawT P gd ops n S isB (p i) σ' w' K) := nr rfl
end
section
variable {α : Type} {f : α → Prop} {a b : α} {l : List α}
theorem allL_one : allL [a] f = f a := nr rfl
theorem allL_more : allL (a :: b :: l) f = (f a ∧ allL (b :: l) f) := nr rfl
end
def above (n : Nat) : Nat → Prop := fun b => n ≤ b
theorem Ext.keep {S : Nat → Prop} {w x : World} (h : Ext w x) : Keep S w x := h.mono (fun _ _ h => h.elim)
attribute [go_sem ↓] drawT_fin drawT_run drawT_fork
end Go.Proofs.YtopbbjdembnfdaaGreat

namespace Go.Proofs.YtopbbjdembnfdaaGreat
open Go
set_option maxRecDepth 10000

theorem cell_keepB {n0 : Nat} {C : Nat → Prop} {w x : World} (hk : KeepB n0 C w x) {a : Addr} (hn : a.block < n0) (hC : ¬ C a.block) {v : Value} (h : w.cell? a = some v) : x.cell? a = some v := by
 rw [← h]; exact World.cell?_of_block (w := w) (hk.block a.block hn hC)
theorem cell_ext {w x : World} (hk : Ext w x) {a : Addr} {v : Value} (h : w.cell? a = some v) : x.cell? a = some v := cell_keep hk (fun h => h) h

theorem take_succ' {α : Type} {l : List α} {i : Nat} (h : i < l.length) : l.take (i + 1) = l.take i ++ [l[i]] := by
 rw [List.take_succ_eq_append_getElem h]
theorem split_at {α : Type} {l : List α} {i : Nat} (h : i < l.length) : l = l.take i ++ l[i] :: l.drop (i + 1) := by
 rw [← List.drop_eq_getElem_cons h, List.take_append_drop]

theorem zipIdx_split {α : Type} {l : List α} {pre suf : List (α × Nat)} {x : α × Nat} (h : l.zipIdx = pre ++ x :: suf) : ∃ hk : pre.length < l.length, x = (l[pre.length], pre.length) := by
 have hk : pre.length < l.length := by have := congrArg List.length h; simp at this; omega
 refine ⟨hk, ?_⟩
 have h1 : l.zipIdx[pre.length]? = some x := by rw [h]; simp
 rw [List.getElem?_zipIdx] at h1
 simp [hk] at h1
 exact h1.symm

def encOct (p : UInt8 × Nat) (_ : World) (args : Array Value) : Prop := args = #[vi p.2, byteV p.1]

theorem octets1_ok {W0 : World} {n0 : Nat} {C : Nat → Prop} {b : Nat} {l : List UInt8} (hb : W0.cell? ⟨b, 0, Option.none⟩ = some (vs l)) (hbn : b < n0) (hbC : ¬ C b) (hl : l.length ≤ 9000000000000000000) :
  Iter Tryz.prog 192 #[.pointer (some ⟨b, 0, Option.none⟩)] W0 n0 C l.zipIdx encOct := by
 intro lp J Jx W hW hnW hJ hJx hY h0
 refine enter Tryz.func192 Tryz.ntmps192 rfl rfl ?_
 repeat (first | refine c_r ?_ | refine rg0 ?_)
 refine W_loop (fun m σ ds v => ds = [] ∧ ∃ i, i + m = l.length ∧ σ 3 = vi i ∧ σ 0 = .func (.yield lp) #[] #[] ∧ σ 1 = .pointer (some ⟨b, 0, Option.none⟩) ∧ J (l.zipIdx.take i) v ∧ KeepB n0 C W v) l.length ?_ ?_
 ·refine ⟨rfl, 0, by omega, ?_, ?_, ?_, by simpa using h0, KeepB.refl _ _ _⟩ <;> simp only [↓reduceIte, go_sem, Nat.reduceLT, Nat.reduceEqDiff, Nat.reduceSub] <;> rfl
 ·rintro m σ ds v ⟨rfl, i, him, h3, hf0, hf1, hj, hK0⟩
  have hcell : cellO v (some ⟨b, 0, Option.none⟩) = some (vs l) := cell_keepB hK0 hbn hbC (cell_ext hW hb)
  repeat refine c_r ?_
  refine rg4 h3 hf0 hf1 hcell ?_
  refine wc0 ?_ ?_
  ·intro hlt
   simp only [decide_eq_true_eq] at hlt
   have hi : i < l.zipIdx.length := by simp; omega
   repeat refine c_r ?_
   refine rq ?_; intro gd K hgd hK
   try simp (disch := first | omega | assumption | rfl) only [↓reduceIte, go_sem, Nat.reduceLT, Nat.reduceEqDiff, Nat.reduceSub, h3, hf0, hf1, hcell]
   refine Yld.mono (hY (l.zipIdx.take i) l.zipIdx[i] (l.zipIdx.drop (i + 1)) v _ (split_at hi) hj hK0 (by simp [encOct, byteV])) ?_
   rintro u x (⟨rfl, hj', hk'⟩ | ⟨rfl, hjx⟩)
   ·try simp (disch := first | omega | assumption | rfl) only [↓reduceIte, go_sem, Nat.reduceLT, Nat.reduceEqDiff, Nat.reduceSub]
    refine hK _ _ ?_; clear hK hgd; clear K; try clear gd
    repeat refine c_r ?_
    refine wc0 ?_ ?_
    ·intro h; simp at h
    ·intro _
     repeat refine c_r ?_
     refine rg1 h3 ?_
     refine thenQ_normal ?_
     refine ⟨m - 1, by omega, rfl, i + 1, by omega, ?_, ?_, ?_, ?_, hK0.trans hk'⟩
     ·simp only [↓reduceIte, go_sem, Nat.reduceLT, Nat.reduceEqDiff, Nat.reduceSub]; rfl
     ·simp only [↓reduceIte, go_sem, Nat.reduceLT, Nat.reduceEqDiff, Nat.reduceSub, hf0]
     ·simp only [↓reduceIte, go_sem, Nat.reduceLT, Nat.reduceEqDiff, Nat.reduceSub, hf1]
     ·rw [take_succ' hi]; exact hj'
   ·try simp (disch := first | omega | assumption | rfl) only [↓reduceIte, go_sem, Nat.reduceLT, Nat.reduceEqDiff, Nat.reduceSub]
    refine hK _ _ ?_; clear hK hgd; clear K; try clear gd
    repeat refine c_r ?_
    refine wc0 ?_ ?_
    ·intro _
     repeat refine c_r ?_
     refine ret_none (by simp) rfl (.inr ⟨_, _, _, split_at hi, hjx⟩)
    ·intro h; simp at h
  ·intro hge
   simp only [decide_eq_false_iff_not] at hge
   repeat refine c_r ?_
   refine ret_none (by simp) rfl (.inl ?_)
   have : l.zipIdx.take i = l.zipIdx := List.take_of_length_le (by simp; omega)
   rw [this] at hj; exact hj

theorem octets_ok (w : World) (l : List UInt8) (hl : l.length ≤ 9000000000000000000) : Fn Tryz.prog 148 #[vs l] w (fun v w' => Ext w w' ∧ ∃ cap, v = .func (.func 192) #[] cap ∧
  ∀ C : Nat → Prop, (∀ b, C b → b < w.heap.size) → Iter Tryz.prog 192 cap w' w'.heap.size C l.zipIdx encOct) := by
 refine enter Tryz.func148 Tryz.ntmps148 rfl rfl ?_
 repeat refine c_r ?_
 refine rg0 ?_
 repeat refine c_r ?_
 refine rg0 ?_
 repeat refine c_r ?_
 refine rt0 Tryz.ntmps148 ?_
 refine ⟨Ext.alloc _ _, _, rfl, fun C hC => octets1_ok ?_ (by simp) (fun h => by have := hC _ h; omega) hl⟩
 rw [cell_of (new_block _ _)]; rfl

def foldB (c : UInt8) : UInt8 := if 65 ≤ c ∧ c ≤ 90 then c + 32 else c
def foldL (l : List UInt8) : List UInt8 := l.map foldB

def foldTo (l : List UInt8) (k : Nat) : List UInt8 := foldL (l.take k) ++ l.drop k

theorem foldTo_step {l : List UInt8} {k : Nat} (hk : k < l.length) : (foldTo l k).set k (foldB l[k]) = foldTo l (k + 1) := by
 unfold foldTo foldL
 have e : (List.map foldB (l.take k)).length = k := by simp; omega
 rw [take_succ' hk, List.map_append, List.set_append_right _ _ (by omega), e, Nat.sub_self, List.drop_eq_getElem_cons hk, List.set_cons_zero]
 simp
theorem foldTo_len (l : List UInt8) (k : Nat) : (foldTo l k).length = l.length := by simp [foldTo, foldL]; omega

theorem foldB_up {c : UInt8} (h : 65 ≤ c ∧ c ≤ 90) : foldB c = c + 32 := if_pos h
theorem foldB_no {c : UInt8} (h : ¬ (65 ≤ c ∧ c ≤ 90)) : foldB c = c := if_neg h
theorem foldTo_same {l : List UInt8} {k : Nat} (hk : k < l.length) (h : ¬ (65 ≤ l[k] ∧ l[k] ≤ 90)) : foldTo l k = foldTo l (k + 1) := by
 rw [← foldTo_step hk, foldB_no h]
 apply List.ext_getElem?
 intro j
 rw [List.getElem?_set]
 split
 ·rename_i hj; subst hj
  rw [if_pos (by rw [foldTo_len]; exact hk)]
  unfold foldTo foldL
  have e : (List.map foldB (l.take k)).length = k := by simp; omega
  rw [List.getElem?_append_right (by omega), e]
  simp [hk]
 ·rfl

theorem LFold_ok (w : World) (l : List UInt8) (hl : l.length ≤ 9000000000000000000) : Fn Tryz.prog 87 #[vs l] w (fun v w' => v = vs (foldL l) ∧ Ext w w') := by
 refine enter Tryz.func87 Tryz.ntmps87 rfl rfl ?_
 repeat (first | refine c_r ?_ | refine rg0 ?_)
 repeat refine c_r ?_
 refine rq ?_; intro gd K hgd hK
 try simp (disch := first | omega | assumption | rfl) only [↓reduceIte, go_sem, Nat.reduceLT, Nat.reduceEqDiff, Nat.reduceSub]
 refine conv_s2b rfl rfl rfl (vq0) ?_
 intro c cur w1 hlc hcur htake hE1 hsz1 hb1
 try simp (disch := first | omega | assumption | rfl) only [↓reduceIte, go_sem, Nat.reduceLT, Nat.reduceEqDiff, Nat.reduceSub]
 refine st_one rfl rfl rfl (new_block _ _) (by simp) (by simp) ?_
 intro w2 hsz2 hb2 hk2
 simp only [World.size_alloc] at hsz2 hb2 hk2
 have hE2 : Ext w w2 := hE1.trans (Keep.to_ext (Ext.alloc w1 _) rfl (fun b hb => by omega) hk2)
 have hgb : w2.heap[w.heap.size]? = some (.cells cur 5 (c, c + 1)) := (hk2.block _ (by simp; omega) (by omega)).trans ((RowKit.Below.heap_alloc _ _ _ (by omega)).trans hb1)
 rw [hsz1] at hsz2 hb2 ⊢
 simp at hb2
 clear hk2 hb1
 refine hK _ _ ?_; clear hK hgd; clear K; try clear gd
 repeat refine c_r ?_
 refine rq ?_; intro gd K hgd hK
 try simp (disch := first | omega | assumption | rfl) only [↓reduceIte, go_sem, Nat.reduceLT, Nat.reduceEqDiff, Nat.reduceSub]
 refine Fn.mono (octets_ok _ _ hl) ?_
 rintro _ w3 ⟨hE3, cap, rfl, hit⟩
 try simp (disch := first | omega | assumption | rfl) only [↓reduceIte, go_sem, Nat.reduceLT, Nat.reduceEqDiff, Nat.reduceSub]
 refine hK _ _ ?_; clear hK hgd; clear K; try clear gd
 repeat refine c_r ?_
 have hE3' := hE2.trans hE3
 have hsz3 := hE3.size
 refine W_range (g := 192) (cap := cap) (vq0) rfl (hit (fun b => b = w.heap.size) (fun b hb => by omega)) (Keep.refl _ _) (Nat.le_refl _) (fun b hb => by omega)
  (fun x A args h => by rw [h]; rfl)
  (fun pre A => Ext w A ∧ A.heap[w.heap.size + 1]? = some (.cells #[.slice (some ⟨w.heap.size, 0, Option.none⟩) l.length c] 57 (0, 0)) ∧
   ∃ cur : Array Value, cur.size = c ∧ cur.toList.take l.length = (foldTo l pre.length).map byteV ∧ A.heap[w.heap.size]? = some (.cells cur 5 (c, c + 1)))
  (fun _ _ _ => False) ?_ (fun _ _ _ _ h _ => h.elim) ?_ ?_ ?_ (fun _ _ _ _ _ _ _ h _ => h.elim)
 ·rintro pre A B ⟨h1, h2, cu, h3, h4, h5⟩ hk
  have ne1 : ¬ two w3.heap.size (w.heap.size + 1) := by unfold two; omega
  have ne2 : ¬ two w3.heap.size w.heap.size := by unfold two; omega
  exact ⟨Keep.to_ext h1 rfl (fun b hb => by unfold two at hb; omega) hk, (hk.block _ (Array.getElem?_eq_some_iff.1 h2).1 ne1).trans h2, cu, h3, h4,
   (hk.block _ (Array.getElem?_eq_some_iff.1 h5).1 ne2).trans h5⟩
 ·refine ⟨hE3', (hE3.block _ (by omega) (fun h => h)).trans hb2, cur, hcur, ?_, (hE3.block _ (by omega) (fun h => h)).trans hgb⟩
  simpa [foldTo, foldL] using htake
 ·rintro lp pre x suf A args hxs hszA ⟨hEA, hbox, cu, hcu, hpre, hrow⟩ rfl
  obtain ⟨hk, rfl⟩ := zipIdx_split hxs
  dsimp only
  repeat (first | refine c_r ?_ | (refine W_reg (by rfl) ?_; intro gd K hgd hK; simp (disch := first | omega | assumption | rfl) only [↓reduceIte, go_sem, Nat.reduceLT, Nat.reduceEqDiff, Nat.reduceSub, byteV]; refine hK _ _ ?_; clear hK hgd; clear K gd))
  refine ⟨rfl, KeepB.refl _ _ _, fun A2 hA2 => ?_⟩
  have ne1 : ¬ two w3.heap.size (w.heap.size + 1) := by unfold two; omega
  have ne2 : ¬ two w3.heap.size w.heap.size := by unfold two; omega
  have hbox2 := (hA2.block _ (Array.getElem?_eq_some_iff.1 hbox).1 ne1).trans hbox
  have hrow2 := (hA2.block _ (Array.getElem?_eq_some_iff.1 hrow).1 ne2).trans hrow
  have hE2' : Ext w A2 := Keep.to_ext hEA rfl (fun b hb => by unfold two at hb; omega) hA2
  have hs2 := hA2.size
  clear hbox hrow hA2 hit hb2 hgb
  have hcu' : cu[pre.length]? = some (byteV (l[pre.length])) := by
   have : (cu.toList.take l.length)[pre.length]? = some (byteV (l[pre.length])) := by
    rw [hpre, List.getElem?_map]
    unfold foldTo
    rw [List.getElem?_append_right (by simp [foldL]; omega)]
    have e : (foldL (l.take pre.length)).length = pre.length := by simp [foldL]; omega
    rw [e]; simp [hk]
   rw [List.getElem?_take, if_pos hk] at this
   simpa using this
  have hbit : ∀ u : UInt8, (65 ≤ u ↔ (65 : Int) ≤ u.toNat) ∧ (u ≤ 90 ↔ (u.toNat : Int) ≤ 90) := fun u => by
   rw [UInt8.le_iff_toNat_le, UInt8.le_iff_toNat_le]
   constructor
   ·show 65 ≤ u.toNat ↔ _; omega
   ·show u.toNat ≤ 90 ↔ _; omega
  have hkeep : ∀ B, A2 = B → ¬ (65 ≤ l[pre.length] ∧ l[pre.length] ≤ 90) → (Ext w B ∧ B.heap[w.heap.size + 1]? = some (.cells #[.slice (some ⟨w.heap.size, 0, Option.none⟩) l.length c] 57 (0, 0)) ∧
   ∃ cur : Array Value, cur.size = c ∧ cur.toList.take l.length = (foldTo l (pre ++ [(l[pre.length], pre.length)]).length).map byteV ∧ B.heap[w.heap.size]? = some (.cells cur 5 (c, c + 1))) ∧
    KeepB (w3.heap.size + 2) (fun b => b = w.heap.size) A2 B := by
   rintro B rfl hno
   refine ⟨⟨hE2', hbox2, cu, hcu, ?_, hrow2⟩, KeepB.refl _ _ _⟩
   rw [hpre, foldTo_same hk hno]; simp
  generalize hcc : l[pre.length] = cc at *
  repeat refine c_r ?_
  refine rq ?_; intro gd K hgd hK
  have hg2 : ∀ n σ b, wantV gd n σ (some (2, b)) = boolIs (ev n σ (.tmp 14)) b := (fun n σ b => by rw [wantV_some, show gd 2 = some 14 from (by rw [hgd]; rfl)]; rfl)
  by_cases h65 : (65 : Int) ≤ cc.toNat
  ·try simp (disch := first | omega | assumption | rfl) only [↓reduceIte, go_sem, Nat.reduceLT, Nat.reduceEqDiff, Nat.reduceSub, hg2, wantV_some, wantO_some, boolIs_bool, decide_eq_true h65, beq_self_eq_true]
   refine hK _ _ ?_; clear hK hgd; clear K; try clear gd
   repeat refine c_r ?_
   refine wc0 ?_ ?_
   ·intro h90
    simp only [decide_eq_true_eq] at h90
    have hc1 : cellO A2 (some ⟨w.heap.size + 1, 0, Option.none⟩) = some (.slice (some ⟨w.heap.size, 0, Option.none⟩) l.length c) := by
     show A2.cell? _ = _
     rw [cell_of hbox2]; rfl
    repeat refine c_r ?_
    refine rq ?_; intro gd K hgd hK
    try simp (disch := first | omega | assumption | rfl) only [↓reduceIte, go_sem, Nat.reduceLT, Nat.reduceEqDiff, Nat.reduceSub, hc1]
    refine st_one rfl rfl rfl hrow2 (by omega) (by simp; omega) ?_
    intro w5 hsz5 hb5 hk5
    refine hK _ _ ?_; clear hK hgd; clear K; try clear gd
    repeat refine c_r ?_
    have hset : ((foldTo l pre.length).map byteV).set pre.length (.int .u8 (↑cc.toNat + 97 - 65)) = (foldTo l (pre.length + 1)).map byteV := by
     rw [← foldTo_step hk, hcc, List.map_set]
     congr 1
     rw [foldB_up ⟨(hbit cc).1.2 h65, (hbit cc).2.2 h90⟩]
     unfold byteV
     congr 1
     have : (cc + 32).toNat = cc.toNat + 32 := by
      rw [UInt8.toNat_add]; show (cc.toNat + 32) % 256 = _; omega
     rw [this]; push_cast; omega
    refine ⟨⟨Keep.to_ext hE2' rfl (fun b hb => by omega) hk5, ?_, cu.setIfInBounds pre.length (.int .u8 (↑cc.toNat + 97 - 65)), by simpa using hcu, ?_, hb5⟩, hk5.toB (by omega) (fun i _ h => h)⟩
    ·exact (hk5.block _ (by omega) (by omega)).trans hbox2
    ·rw [Array.toList_setIfInBounds, List.take_set, hpre, hset]; simp
   ·intro h90
    simp only [decide_eq_false_iff_not] at h90
    repeat refine c_r ?_
    exact hkeep _ rfl (fun h => h90 ((hbit cc).2.1 h.2))
  ·try simp (disch := first | omega | assumption | rfl) only [↓reduceIte, go_sem, Nat.reduceLT, Nat.reduceEqDiff, Nat.reduceSub, hg2, wantV_some, wantO_some, boolIs_bool, decide_eq_false h65, beq_self_eq_true]
   refine hK _ _ ?_; clear hK hgd; clear K; try clear gd
   repeat refine c_r ?_
   refine wc0 ?_ ?_
   ·intro h; simp at h
   ·intro _
    repeat refine c_r ?_
    exact hkeep _ rfl (fun h => h65 ((hbit cc).1.1 h.1))
 ·rintro w4 hsz4 ⟨hE4, hbox, cu, hcu, hpre, hrow⟩ hD
  have hc1 : cellO w4 (some ⟨w.heap.size + 1, 0, Option.none⟩) = some (.slice (some ⟨w.heap.size, 0, Option.none⟩) l.length c) := by
   show w4.cell? _ = _
   rw [cell_of hbox]; rfl
  have hfull : foldTo l l.zipIdx.length = foldL l := by simp [foldTo]
  rw [hfull] at hpre
  have hlen : (foldL l).length = l.length := by simp [foldL]
  repeat refine c_r ?_
  refine rq ?_; intro gd K hgd hK
  try simp (disch := first | omega | assumption | rfl) only [↓reduceIte, go_sem, Nat.reduceLT, Nat.reduceEqDiff, Nat.reduceSub, hc1]
  rw [← hlen]
  refine conv_b2s rfl rfl rfl (vq0) ?_ ?_
  ·intro j hj
   rw [hlen] at hj
   rw [adr_some]
   show w4.cell? _ = _
   rw [cell_of hrow]
   have : (cu.toList.take l.length)[j]? = some (byteV ((foldL l)[j]'(by omega))) := by
    rw [hpre, List.getElem?_map, List.getElem?_eq_getElem (by omega)]; rfl
   rw [List.getElem?_take, if_pos hj] at this
   simpa using this
  try simp (disch := first | omega | assumption | rfl) only [↓reduceIte, go_sem, Nat.reduceLT, Nat.reduceEqDiff, Nat.reduceSub]
  refine hK _ _ ?_; clear hK hgd; clear K; try clear gd
  repeat refine c_r ?_
  refine ret_mark (by simp) rfl Tryz.ntmps87 (by simp only [↓reduceIte, go_sem, Nat.reduceLT, Nat.reduceEqDiff, Nat.reduceSub]; rfl) hD ?_
  intro w5 hk5 _
  exact ⟨rfl, Keep.to_ext hE4 rfl (fun b hb => by omega) hk5⟩
end Go.Proofs.YtopbbjdembnfdaaGreat

namespace Go.Proofs.YtopbbjdembnfdaaGreat
open Go
set_option maxRecDepth 10000

end Go.Proofs.YtopbbjdembnfdaaGreat

namespace Go.Proofs.YtopbbjdembnfdaaGreat
open Go
set_option maxRecDepth 10000

abbrev Nm := List (List UInt8)
def LB (n : Nm) : Prop := ∀ l ∈ n, l.length ≤ 9000000000000000000
theorem LB.get {n : Nm} (h : LB n) {i : Nat} (hi : i < n.length) : n[i].length ≤ 9000000000000000000 := h _ (List.getElem_mem hi)
def foldN (n : Nm) : Nm := n.map foldL
theorem foldN_len (n : Nm) : (foldN n).length = n.length := by simp [foldN]
theorem foldN_take {n : Nm} {i : Nat} (h : i < n.length) : foldN (n.take (i + 1)) = foldN (n.take i) ++ [foldL n[i]] := by
 rw [take_succ' h]; simp only [foldN, List.map_append, List.map_cons, List.map_nil]
theorem foldN_ne_len {a b : Nm} (h : a.length ≠ b.length) : foldN a ≠ foldN b := fun e => h (by rw [← foldN_len a, e, foldN_len])
theorem foldN_ne_at {a b : Nm} {i : Nat} (ha : i < a.length) (hb : i < b.length) (h : foldL a[i] ≠ foldL b[i]) : foldN a ≠ foldN b := by
 intro e
 apply h
 have := congrArg (fun l : Nm => l[i]?) e
 simpa [foldN, ha, hb] using this
theorem Row.cut {w : World} {a : Option Addr} {n c : Nat} {l : List Value} (hn : n = l.length) (hc : n ≤ c) (hl : ∀ j (h : j < l.length), cellO w (adr a j) = some l[j]) {lo hi : Nat} (h1 : lo ≤ hi) (h2 : hi ≤ n) :
  Row w (.slice (if c = lo then a else adr a lo) (hi - lo) (c - lo)) ((l.drop lo).take (hi - lo)) := by
 have hlen : ((l.drop lo).take (hi - lo)).length = hi - lo := by simp; omega
 refine ⟨_, _, by rw [hlen], by omega, fun j hj => ?_⟩
 rw [hlen] at hj
 rw [if_neg (by omega), adr_adr, hl (lo + j) (by omega)]
 simp

theorem Row.tail {w : World} {a : Option Addr} {n c : Nat} {l : List Value} (hn : n = l.length) (hc : n ≤ c) (hl : ∀ j (h : j < l.length), cellO w (adr a j) = some l[j]) {lo : Nat} (h2 : lo ≤ n) :
  Row w (.slice (if c = lo then a else adr a lo) (n - lo) (c - lo)) (l.drop lo) := by
 have := Row.cut hn hc hl h2 (Nat.le_refl _)
 rwa [List.take_of_length_le (by simp; omega)] at this

def under (n z : Nm) : Bool := decide (z.length ≤ n.length) && decide (foldN (n.drop (n.length - z.length)) = foldN z)

theorem LB.drop {n : Nm} (h : LB n) (k : Nat) : LB (n.drop k) := fun l hl => h l (List.drop_subset _ _ hl)

theorem LSame_ok (w : World) (a b : List UInt8) (ha : a.length ≤ 9000000000000000000) (hb : b.length ≤ 9000000000000000000) : Fn Tryz.prog 86 #[vs a, vs b] w (fun v w' => v = .bool (decide (foldL a = foldL b)) ∧ Ext w w') := by
 refine enter Tryz.func86 Tryz.ntmps86 rfl rfl ?_
 repeat refine c_r ?_
 refine rg0 ?_
 repeat refine c_r ?_
 refine rq ?_; intro gd K hgd hK
 try simp (disch := first | omega | assumption | rfl) only [↓reduceIte, go_sem, Nat.reduceLT, Nat.reduceEqDiff, Nat.reduceSub]
 refine Fn.mono (LFold_ok _ _ ha) ?_
 rintro _ w1 ⟨rfl, hE1⟩
 try simp (disch := first | omega | assumption | rfl) only [↓reduceIte, go_sem, Nat.reduceLT, Nat.reduceEqDiff, Nat.reduceSub]
 refine Fn.mono (LFold_ok _ _ hb) ?_
 rintro _ w2 ⟨rfl, hE2⟩
 try simp (disch := first | omega | assumption | rfl) only [↓reduceIte, go_sem, Nat.reduceLT, Nat.reduceEqDiff, Nat.reduceSub]
 refine hK _ _ ?_; clear hK hgd; clear K; try clear gd
 repeat refine c_r ?_
 refine rt0 Tryz.ntmps86 ?_
 exact ⟨rfl, hE1.trans hE2⟩

theorem EqualFunc_ok (w : World) (a b : Value) (xs ys : Nm) (ha : Row w a (xs.map vs)) (hb : Row w b (ys.map vs)) (hx : LB xs) (hy : LB ys) (hxl : xs.length ≤ 9000000000000000000) (hyl : ys.length ≤ 9000000000000000000) :
  Fn Tryz.prog 85 #[a, b, .func (.func 86) #[] #[]] w (fun v w' => v = .bool (decide (foldN xs = foldN ys)) ∧ Ext w w') := by
 obtain ⟨a, ca, rfl, hca, hla⟩ := ha
 obtain ⟨b, cb, rfl, hcb, hlb⟩ := hb
 simp only [List.length_map] at *
 refine enter Tryz.func85 Tryz.ntmps85 rfl rfl ?_
 repeat (first | refine c_r ?_ | refine rg0 ?_)
 refine W_cond (t := !decide ((xs.length : Int) = ys.length)) (by simp only [↓reduceIte, go_sem, Nat.reduceLT, Nat.reduceEqDiff, Nat.reduceSub]) ?_ ?_
 ·intro ht
  repeat (first | refine c_r ?_ | refine rg0 ?_)
  refine rt0 Tryz.ntmps85 ?_
  exact ⟨by rw [decide_eq_false (foldN_ne_len (by simp at ht; omega))], Keep.refl _ _⟩
 ·intro ht
  have hxy : xs.length = ys.length := by simp at ht; omega
  clear ht
  repeat (first | refine c_r ?_ | refine rg0 ?_)
  refine W_loop (fun m σ ds v => ds = [] ∧ ∃ i, i + m = xs.length ∧ σ 17 = vi i ∧ σ 16 = vi xs.length ∧ σ 15 = .slice a xs.length ca ∧ σ 1 = .slice b ys.length cb ∧ σ 2 = .func (.func 86) #[] #[] ∧ Ext w v ∧ foldN (xs.take i) = foldN (ys.take i)) xs.length ?_ ?_
  ·refine ⟨rfl, 0, by omega, ?_, ?_, ?_, ?_, ?_, Keep.refl _ _, by simp [foldN]⟩ <;> simp only [↓reduceIte, go_sem, Nat.reduceLT, Nat.reduceEqDiff, Nat.reduceSub] <;> rfl
  ·rintro m σ ds v ⟨rfl, i, him, h17, h16, h15, h1, h2, hE, hpre⟩
   repeat refine c_r ?_
   refine rg2 h17 h16 ?_
   repeat refine c_r ?_
   refine wc0 ?_ ?_
   ·intro hlt
    simp only [decide_eq_true_eq] at hlt
    have hsa : a.isSome = true := some_of_cellO (hla i (by omega))
    have hsb : b.isSome = true := some_of_cellO (hlb i (by omega))
    have hla' := fun j h => cellO_ext hE (hla j h)
    have hlb' := fun j h => cellO_ext hE (hlb j h)
    repeat (first | refine c_r ?_ | (refine W_reg (by rfl) ?_; intro gd K hgd hK; simp (disch := first | omega | assumption | rfl) only [↓reduceIte, go_sem, Nat.reduceLT, Nat.reduceEqDiff, Nat.reduceSub, h17, h15, h1, hla', hlb', List.getElem_map]; refine hK _ _ ?_; clear hK hgd; clear K gd))
    refine rq ?_; intro gd K hgd hK
    try simp (disch := first | omega | assumption | rfl) only [↓reduceIte, go_sem, Nat.reduceLT, Nat.reduceEqDiff, Nat.reduceSub, h2]
    refine Fn.mono (LSame_ok _ _ _ (LB.get hx _) (LB.get hy _)) ?_
    rintro _ x1 ⟨rfl, hx1⟩
    try simp (disch := first | omega | assumption | rfl) only [↓reduceIte, go_sem, Nat.reduceLT, Nat.reduceEqDiff, Nat.reduceSub]
    refine hK _ _ ?_; clear hK hgd; clear K; try clear gd
    repeat refine c_r ?_
    refine wc0 ?_ ?_
    ·intro hne
     simp only [Bool.not_eq_true', decide_eq_false_iff_not] at hne
     repeat refine c_r ?_
     refine rg0 ?_
     repeat refine c_r ?_
     refine rt0 Tryz.ntmps85 ?_
     exact ⟨by rw [decide_eq_false (foldN_ne_at (i := i) (by omega) (by omega) hne)], hE.trans hx1⟩
    ·intro heq
     simp only [Bool.not_eq_false', decide_eq_true_eq] at heq
     repeat refine c_r ?_
     refine rg1 h17 ?_
     refine thenQ_normal ?_
     refine ⟨m - 1, by omega, rfl, i + 1, by omega, ?_, ?_, ?_, ?_, ?_, hE.trans hx1, ?_⟩
     ·simp only [↓reduceIte, go_sem, Nat.reduceLT, Nat.reduceEqDiff, Nat.reduceSub]; rfl
     ·simp only [↓reduceIte, go_sem, Nat.reduceLT, Nat.reduceEqDiff, Nat.reduceSub, h16]
     ·simp only [↓reduceIte, go_sem, Nat.reduceLT, Nat.reduceEqDiff, Nat.reduceSub, h15]
     ·simp only [↓reduceIte, go_sem, Nat.reduceLT, Nat.reduceEqDiff, Nat.reduceSub, h1]
     ·simp only [↓reduceIte, go_sem, Nat.reduceLT, Nat.reduceEqDiff, Nat.reduceSub, h2]
     ·rw [foldN_take (by omega), foldN_take (by omega), hpre, heq]
   ·intro hge
    simp only [decide_eq_false_iff_not] at hge
    repeat (first | refine c_r ?_ | refine rg0 ?_)
    refine rt0 Tryz.ntmps85 ?_
    refine ⟨?_, hE⟩
    rw [List.take_of_length_le (by omega), List.take_of_length_le (by omega)] at hpre
    rw [decide_eq_true hpre]

theorem Same_ok (w : World) (a b : Value) (xs ys : Nm) (ha : Row w a (xs.map vs)) (hb : Row w b (ys.map vs)) (hx : LB xs) (hy : LB ys) (hxl : xs.length ≤ 9000000000000000000) (hyl : ys.length ≤ 9000000000000000000) :
  Fn Tryz.prog 28 #[a, b] w (fun v w' => v = .bool (decide (foldN xs = foldN ys)) ∧ Ext w w') := by
 refine enter Tryz.func28 Tryz.ntmps28 rfl rfl ?_
 repeat refine c_r ?_
 refine rg0 ?_
 repeat refine c_r ?_
 refine rq ?_; intro gd K hgd hK
 try simp (disch := first | omega | assumption | rfl) only [↓reduceIte, go_sem, Nat.reduceLT, Nat.reduceEqDiff, Nat.reduceSub]
 refine Fn.mono (EqualFunc_ok w _ _ _ _ ha hb hx hy hxl hyl) ?_
 rintro _ w1 ⟨rfl, hE⟩
 try simp (disch := first | omega | assumption | rfl) only [↓reduceIte, go_sem, Nat.reduceLT, Nat.reduceEqDiff, Nat.reduceSub]
 refine hK _ _ ?_; clear hK hgd; clear K; try clear gd
 repeat refine c_r ?_
 refine rt0 Tryz.ntmps28 ?_
 exact ⟨rfl, hE⟩

theorem Under_ok (w : World) (a b : Value) (xs ys : Nm) (ha : Row w a (xs.map vs)) (hb : Row w b (ys.map vs)) (hx : LB xs) (hy : LB ys) (hxl : xs.length ≤ 9000000000000000000) (hyl : ys.length ≤ 9000000000000000000) :
  Fn Tryz.prog 26 #[a, b] w (fun v w' => v = .bool (under xs ys) ∧ Ext w w') := by
 have hb0 := hb
 obtain ⟨a, ca, rfl, hca, hla⟩ := ha
 obtain ⟨b, cb, rfl, hcb, hlb⟩ := hb
 simp only [List.length_map] at *
 refine enter Tryz.func26 Tryz.ntmps26 rfl rfl ?_
 repeat refine c_r ?_
 refine rg0 ?_
 repeat refine c_r ?_
 refine rq ?_; intro gd K hgd hK
 have hg5 : ∀ n σ b, wantV gd n σ (some (5, b)) = boolIs (ev n σ (.tmp 10)) b := (fun n σ b => by rw [wantV_some, show gd 5 = some 10 from (by rw [hgd]; rfl)]; rfl)
 by_cases h : (ys.length : Int) ≤ xs.length
 ·try simp (disch := first | omega | assumption | rfl) only [↓reduceIte, go_sem, Nat.reduceLT, Nat.reduceEqDiff, Nat.reduceSub, decide_eq_true h, ↓hg5]
  have hd : ((xs.length : Int) - ys.length).toNat = xs.length - ys.length := by omega
  have hcut := Row.tail (l := xs.map vs) (by simp) hca (fun j hj => by rw [hla j (by simpa using hj)]) (lo := xs.length - ys.length) (by omega)
  rw [← List.map_drop] at hcut
  rw [hd]
  refine Fn.mono (Same_ok w _ _ _ _ hcut hb0 (hx.drop _) hy (by simp; omega) hyl) ?_
  rintro _ w1 ⟨rfl, hE⟩
  try simp (disch := first | omega | assumption | rfl) only [↓reduceIte, go_sem, Nat.reduceLT, Nat.reduceEqDiff, Nat.reduceSub, decide_eq_true h, ↓hg5]
  refine hK _ _ ?_; clear hK hgd; clear K; try clear gd
  repeat refine c_r ?_
  refine rt0 Tryz.ntmps26 ?_
  exact ⟨by simp [under]; omega, hE⟩
 ·try simp (disch := first | omega | assumption | rfl) only [↓reduceIte, go_sem, Nat.reduceLT, Nat.reduceEqDiff, Nat.reduceSub, decide_eq_false h, ↓hg5]
  refine hK _ _ ?_; clear hK hgd; clear K; try clear gd
  repeat refine c_r ?_
  refine rt0 Tryz.ntmps26 ?_
  exact ⟨by simp [under]; omega, Keep.refl _ _⟩

theorem Child_ok (w : World) (b : Value) (l : List UInt8) (xs : Nm) (hb : Row w b (xs.map vs)) (hxl : xs.length ≤ 1000000000000) :
  Fn Tryz.prog 133 #[vs l, b] w (fun v w' => RowB w.heap.size w' v ((l :: xs).map vs) ∧ Ext w w') := by
 have hb0 := hb
 obtain ⟨b, cb, rfl, hcb, hlb⟩ := hb
 simp only [List.length_map] at *
 refine enter Tryz.func133 Tryz.ntmps133 rfl rfl ?_
 repeat refine c_r ?_
 refine rg0 ?_
 repeat refine c_r ?_
 refine rq ?_; intro gd K hgd hK
 try simp (disch := first | omega | assumption | rfl) only [↓reduceIte, go_sem, Nat.reduceLT, Nat.reduceEqDiff, Nat.reduceSub]
 have hbs : bsC Tryz.prog 23 1 [(0, vs l)] = some (9, #[vs l]) := bsC_one (z := vs []) rfl rfl rfl rfl rfl
 unfold bsL bsK
 rw [hbs]
 simp only []
 have hown : (w.alloc (.cells #[vs l] 9)).ownsRow w.heap.size 9 1 (.slice (some ⟨w.heap.size, 0, Option.none⟩) 1 1) 1 [vs l] :=
  ⟨rfl, .inr ⟨w.heap.size, 1, #[vs l], rfl, Nat.le_refl _, new_block w _, Nat.le_refl _, by decide, rfl, rfl⟩⟩
 try simp (disch := first | omega | assumption | rfl) only [↓reduceIte, go_sem, Nat.reduceLT, Nat.reduceEqDiff, Nat.reduceSub]
 refine op_append (P := Tryz.prog) (e := 9) (size := 1) (bytes := 16) (m := xs.length) rfl rfl rfl rfl rfl rfl (by decide) (vq0) (by simp only [↓reduceIte, go_sem, Nat.reduceLT, Nat.reduceEqDiff, Nat.reduceSub]; rfl) hown (by simpa using Src1.of_row (hb0.ext (Ext.alloc w _))) ?_ ?_ ?_ (by simp) ?_
 ·intro q hq
  obtain ⟨s, _, rfl⟩ := List.mem_map.1 hq
  rfl
 ·simp [maxLen]; omega
 ·omega
 intro v' w' hown' hgr _
 try simp (disch := first | omega | assumption | rfl) only [↓reduceIte, go_sem, Nat.reduceLT, Nat.reduceEqDiff, Nat.reduceSub]
 refine hK _ _ ?_; clear hK hgd; clear K; try clear gd
 repeat refine c_r ?_
 refine rt0 Tryz.ntmps133 ?_
 exact ⟨by simpa using RowB.of_owns hown', Keep.to_ext (Ext.alloc w _) rfl (fun b hb => by simp [Value.ownBlock] at hb; omega) hgr⟩
end Go.Proofs.YtopbbjdembnfdaaGreat

namespace Go.Proofs.YtopbbjdembnfdaaGreat
open Go

structure TS where
 names : List Nm
 val : Nm → Value
 has : Nm → Bool
 nb : Nm → Nat
 mb : Nm → Nat

structure TSok (z : Value) (s : TS) : Prop where
 nil : [] ∈ s.names
 tail : ∀ l f, l :: f ∈ s.names → f ∈ s.names
 nd : s.names.Nodup
 injn : ∀ f ∈ s.names, ∀ g ∈ s.names, s.nb f = s.nb g → f = g
 injm : ∀ f ∈ s.names, ∀ g ∈ s.names, s.mb f = s.mb g → f = g
 one : ∀ f, one (s.val f) = true
 out : ∀ f, f ∉ s.names → s.val f = z ∧ s.has f = false

def kidsOf (names : List Nm) (f : Nm) : List Lab :=
 names.filterMap fun g => match g with
  | l :: h => if h = f then some l else Option.none
  | [] => Option.none

theorem mem_kidsOf {names : List Nm} {f : Nm} {l : Lab} : l ∈ kidsOf names f ↔ l :: f ∈ names := by
 simp only [kidsOf, List.mem_filterMap]
 constructor
 ·rintro ⟨g, hg, h⟩
  cases g with
  | nil => cases h
  | cons a t =>
   simp only at h
   split at h
   ·rename_i e; cases h; subst e; exact hg
   ·cases h
 ·intro h
  exact ⟨_, h, by simp⟩

abbrev ptrOf (b : Nat) : Value := .pointer (some ⟨b, 0, Option.none⟩)
def kidCells (s : TS) (f : Nm) : List (Lab × Value) := (kidsOf s.names f).map fun l => (l, ptrOf (s.nb (l :: f)))

structure TreeAt (tt nt : TypeId) (w : World) (tb : Nat) (s : TS) : Prop where
 root : w.heap[tb]? = some (.cells #[ptrOf (s.nb []), .int .i64 (IntKind.i64.wrap s.names.length)] tt (0, 0))
 node : ∀ f ∈ s.names, w.heap[s.nb f]? = some (.cells #[.map (some (s.mb f)), s.val f, .bool (s.has f)] nt (0, 0))
 map : ∀ f ∈ s.names, MapAt w (s.mb f) (kidCells s f)

theorem TreeAt.ext {tt nt : TypeId} {w x : World} {tb : Nat} {s : TS} (h : TreeAt tt nt w tb s) (hE : Ext w x) : TreeAt tt nt x tb s := by
 have hb : ∀ {b : Nat} {o : Obj}, w.heap[b]? = some o → x.heap[b]? = some o := fun {b o} h => (hE.block b (Array.getElem?_eq_some_iff.1 h).1 (fun h => h)).trans h
 refine ⟨hb h.root, fun f hf => hb (h.node f hf), fun f hf => ?_⟩
 obtain ⟨es, clk, h1, _⟩ := h.map f hf
 exact (h.map f hf).block (by rw [hb h1, h1])

def tblk (tb : Nat) (s : TS) : Nat → Prop := fun b => b = tb ∨ ∃ g ∈ s.names, b = s.nb g ∨ b = s.mb g

theorem TreeAt.lt {tt nt : TypeId} {w : World} {tb : Nat} {s : TS} (h : TreeAt tt nt w tb s) {b : Nat} (hb : tblk tb s b) : b < w.heap.size := by
 rcases hb with rfl | ⟨g, hg, rfl | rfl⟩
 ·exact (Array.getElem?_eq_some_iff.1 h.root).1
 ·exact (Array.getElem?_eq_some_iff.1 (h.node g hg)).1
 ·obtain ⟨es, clk, h1, _⟩ := h.map g hg
  exact (Array.getElem?_eq_some_iff.1 h1).1

theorem TreeAt.keep {tt nt : TypeId} {w x : World} {tb : Nat} {s : TS} (h : TreeAt tt nt w tb s) (hE : ∀ b, tblk tb s b → x.heap[b]? = w.heap[b]?) : TreeAt tt nt x tb s :=
 ⟨(hE _ (.inl rfl)).trans h.root, fun f hf => (hE _ (.inr ⟨f, hf, .inl rfl⟩)).trans (h.node f hf), fun f hf => (h.map f hf).block (hE _ (.inr ⟨f, hf, .inr rfl⟩))⟩

def TS.add (s : TS) (g : Nm) (B : Nat) (z : Value) : TS :=
 {names := s.names ++ [g], val := fun f => if f = g then z else s.val f, has := fun f => if f = g then false else s.has f,
  nb := fun f => if f = g then B + 1 else s.nb f, mb := fun f => if f = g then B else s.mb f }

theorem TSok.add {z : Value} {s : TS} (hs : TSok z s) {l : Lab} {h : Nm} {B : Nat} (hz : _root_.Go.Proofs.YtopbbjdembnfdaaGreat.one z = true) (hh : h ∈ s.names) (hg : l :: h ∉ s.names) (hn : ∀ f ∈ s.names, s.nb f < B) (hm : ∀ f ∈ s.names, s.mb f < B) : TSok z (s.add (l :: h) B z) := by
 have hmem : ∀ f, f ∈ (s.add (l :: h) B z).names ↔ f ∈ s.names ∨ f = l :: h := fun f => by simp [TS.add]
 refine ⟨by rw [hmem]; exact .inl hs.nil, ?_, ?_, ?_, ?_, ?_, ?_⟩
 ·intro l' f hf
  rw [hmem] at hf ⊢
  rcases hf with hf | hf
  ·exact .inl (hs.tail _ _ hf)
  ·cases hf; exact .inl hh
 ·simp only [TS.add, List.nodup_append]
  refine ⟨hs.nd, by simp, fun a ha b hb => ?_⟩
  simp at hb; subst hb
  rintro rfl; exact hg ha
 ·intro f hf g' hg' he
  rw [hmem] at hf hg'
  simp only [TS.add] at he
  split at he <;> split at he
  ·simp_all
  ·rename_i h1 h2
   have := hn g' (hg'.resolve_right h2); omega
  ·rename_i h1 h2
   have := hn f (hf.resolve_right h1); omega
  ·rename_i h1 h2
   exact hs.injn f (hf.resolve_right h1) g' (hg'.resolve_right h2) he
 ·intro f hf g' hg' he
  rw [hmem] at hf hg'
  simp only [TS.add] at he
  split at he <;> split at he
  ·simp_all
  ·rename_i h1 h2
   have := hm g' (hg'.resolve_right h2); omega
  ·rename_i h1 h2
   have := hm f (hf.resolve_right h1); omega
  ·rename_i h1 h2
   exact hs.injm f (hf.resolve_right h1) g' (hg'.resolve_right h2) he
 ·intro f
  simp only [TS.add]
  split
  ·exact hz
  ·exact hs.one f
 ·intro f hf
  rw [hmem] at hf
  have h1 : f ≠ l :: h := fun e => hf (.inr e)
  simp only [TS.add, if_neg h1]
  exact hs.out f (fun e => hf (.inl e))

theorem kidsOf_add (names : List Nm) (l : Lab) (h f : Nm) : kidsOf (names ++ [l :: h]) f = if f = h then kidsOf names f ++ [l] else kidsOf names f := by
 unfold kidsOf
 rw [List.filterMap_append]
 by_cases e : f = h
 ·subst e; simp
 ·have e' : ¬ h = f := fun x => e x.symm
  simp [e, e']

theorem TreeAt.add {tt nt : TypeId} {w x : World} {tb : Nat} {z : Value} {s : TS} (ht : TreeAt tt nt w tb s) (hs : TSok z s) {l : Lab} {h : Nm} {B : Nat} (hh : h ∈ s.names) (hg : l :: h ∉ s.names) (hB : w.heap.size ≤ B)
  (hroot : x.heap[tb]? = some (.cells #[ptrOf (s.nb []), .int .i64 (IntKind.i64.wrap (s.names.length + 1))] tt (0, 0)))
  (hnew : x.heap[B + 1]? = some (.cells #[.map (some B), z, .bool false] nt (0, 0))) (hnm : MapAt x B [])
  (hmap : MapAt x (s.mb h) (kidCells s h ++ [(l, ptrOf (B + 1))]))
  (hrest : ∀ b, tblk tb s b → b ≠ tb → b ≠ s.mb h → x.heap[b]? = w.heap[b]?) : TreeAt tt nt x tb (s.add (l :: h) B z) := by
 have hmem : ∀ f, f ∈ (s.add (l :: h) B z).names ↔ f ∈ s.names ∨ f = l :: h := fun f => by simp [TS.add]
 have hne : ∀ {f}, f ∈ s.names → f ≠ l :: h := fun hf e => hg (e ▸ hf)
 have hnt : ∀ {f}, f ∈ s.names → s.nb f ≠ tb := fun {f} hf e => by
  have h1 := ht.node f hf; rw [e, ht.root] at h1; simp at h1
 have hnm' : ∀ {f g}, f ∈ s.names → g ∈ s.names → s.nb f ≠ s.mb g := fun {f g} hf hg e => by
  have h1 := ht.node f hf
  obtain ⟨es, clk, h2, _⟩ := ht.map g hg
  rw [e, h2] at h1; cases h1
 have hmt : ∀ {f}, f ∈ s.names → s.mb f ≠ tb := fun {f} hf e => by
  obtain ⟨es, clk, h2, _⟩ := ht.map f hf
  rw [e, ht.root] at h2; cases h2
 have hkc : ∀ f, f ∈ s.names → f ≠ h → kidCells (s.add (l :: h) B z) f = kidCells s f := fun f hf e => by
  unfold kidCells
  rw [show (s.add (l :: h) B z).names = s.names ++ [l :: h] from rfl, kidsOf_add, if_neg e]
  refine List.map_congr_left fun k hk => ?_
  rw [mem_kidsOf] at hk
  simp only [TS.add, if_neg (hne hk)]
 refine ⟨?_, ?_, ?_⟩
 ·have e : (s.add (l :: h) B z).names.length = s.names.length + 1 := by simp [TS.add]
  have e2 : (s.add (l :: h) B z).nb [] = s.nb [] := by simp [TS.add]
  rw [e, e2, hroot]; push_cast; rfl
 ·intro f hf
  rw [hmem] at hf
  rcases hf with hf | rfl
  ·have h1 := hne hf
   simp only [TS.add, if_neg h1]
   exact (hrest _ (.inr ⟨f, hf, .inl rfl⟩) (hnt hf) (hnm' hf hh)).trans (ht.node f hf)
  ·simp only [TS.add, if_pos]; exact hnew
 ·intro f hf
  rw [hmem] at hf
  rcases hf with hf | rfl
  ·have h1 := hne hf
   have e3 : (s.add (l :: h) B z).mb f = s.mb f := by simp [TS.add, h1]
   rw [e3]
   by_cases e : f = h
   ·subst e
    have : kidCells (s.add (l :: f) B z) f = kidCells s f ++ [(l, ptrOf (B + 1))] := by
     unfold kidCells
     rw [show (s.add (l :: f) B z).names = s.names ++ [l :: f] from rfl, kidsOf_add, if_pos rfl, List.map_append]
     congr 1
     ·refine List.map_congr_left fun k hk => ?_
      rw [mem_kidsOf] at hk
      simp only [TS.add, if_neg (hne hk)]
     ·simp [TS.add]
    rw [this]; exact hmap
   ·rw [hkc f hf e]
    exact (ht.map f hf).block (hrest _ (.inr ⟨f, hf, .inr rfl⟩) (hmt hf) (fun e' => e (hs.injm _ hf _ hh e')))
  ·have e3 : (s.add (l :: h) B z).mb (l :: h) = B := by simp [TS.add]
   have e4 : kidCells (s.add (l :: h) B z) (l :: h) = [] := by
    unfold kidCells
    rw [show (s.add (l :: h) B z).names = s.names ++ [l :: h] from rfl, kidsOf_add, if_neg (by simp)]
    have : kidsOf s.names (l :: h) = [] := by
     rw [List.eq_nil_iff_forall_not_mem]
     intro k hk
     rw [mem_kidsOf] at hk
     exact hg (hs.tail _ _ hk)
    rw [this]; rfl
   rw [e3, e4]; exact hnm

def TS.set (s : TS) (g : Nm) (v : Value) : TS := { s with val := fun f => if f = g then v else s.val f, has := fun f => if f = g then true else s.has f }

theorem TSok.set {z v : Value} {s : TS} (hs : TSok z s) {g : Nm} (hg : g ∈ s.names) (hv : _root_.Go.Proofs.YtopbbjdembnfdaaGreat.one v = true) : TSok z (s.set g v) := by
 refine ⟨hs.nil, hs.tail, hs.nd, hs.injn, hs.injm, ?_, ?_⟩
 ·intro f; simp only [TS.set]; split
  ·exact hv
  ·exact hs.one f
 ·intro f hf
  have hne : f ≠ g := fun e => hf (e ▸ hg)
  simp only [TS.set, if_neg hne]
  exact hs.out f hf

theorem TreeAt.set {tt nt : TypeId} {w x : World} {tb : Nat} {z v : Value} {s : TS} (ht : TreeAt tt nt w tb s) (hs : TSok z s) {g : Nm} (hg : g ∈ s.names)
  (hnew : x.heap[s.nb g]? = some (.cells #[.map (some (s.mb g)), v, .bool true] nt (0, 0))) (hrest : ∀ b, tblk tb s b → b ≠ s.nb g → x.heap[b]? = w.heap[b]?) : TreeAt tt nt x tb (s.set g v) := by
 refine ⟨?_, ?_, ?_⟩
 ·refine (hrest tb (.inl rfl) (fun e => ?_)).trans ht.root
  have h1 := ht.node g hg; rw [← e, ht.root] at h1; simp at h1
 ·intro f hf
  by_cases e : f = g
  ·subst e
   simp only [TS.set, if_pos]; exact hnew
  ·simp only [TS.set, if_neg e]
   exact (hrest _ (.inr ⟨f, hf, .inl rfl⟩) (fun e' => e (hs.injn _ hf _ hg e'))).trans (ht.node f hf)
 ·intro f hf
  refine (ht.map f hf).block (hrest _ (.inr ⟨f, hf, .inr rfl⟩) (fun e => ?_))
  obtain ⟨es, clk, h2, _⟩ := ht.map f hf
  have h1 := ht.node g hg
  have e' : s.mb f = s.nb g := e
  rw [← e', h2] at h1; cases h1

theorem KeepB.to_ext {n0 : Nat} {C : Nat → Prop} {w0 w x : World} (h0 : Ext w0 w) (h : KeepB n0 C w x) (hn : w0.heap.size ≤ n0) (hC : ∀ b, C b → w0.heap.size ≤ b) : Ext w0 x :=
  ⟨h.os.trans h0.os, h.tape.trans h0.tape, h.output.trans h0.output, Nat.le_trans h0.size h.size,
   fun b hb _ => (h.block b (by omega) (fun hc => by have := hC b hc; omega)).trans (h0.block b hb (fun x => x)), Nat.le_trans h0.drawn h.drawn⟩
end Go.Proofs.YtopbbjdembnfdaaGreat

namespace Go.Proofs.YtopbbjdembnfdaaGreat
open Go

abbrev cmpL : Lab → Lab → Int := Lib.compareBytes

theorem u8_lt_iff {a b : UInt8} : a < b ↔ a.toNat < b.toNat := UInt8.lt_iff_toNat_lt

theorem cmpL_neg : ∀ a b : Lab, cmpL b a = - cmpL a b
 | [], [] => rfl
 | [], _ :: _ => rfl
 | _ :: _, [] => rfl
 | a :: l, b :: m => by
  show (if b < a then _ else if a < b then _ else cmpL m l) = - (if a < b then (-1 : Int) else if b < a then 1 else cmpL l m)
  by_cases h1 : a < b
  ·have h2 : ¬ b < a := by rw [u8_lt_iff] at *; omega
   rw [if_neg h2, if_pos h1, if_pos h1]; rfl
  ·by_cases h2 : b < a
   ·rw [if_pos h2, if_neg h1, if_pos h2]
   ·rw [if_neg h2, if_neg h1, if_neg h1, if_neg h2]; exact cmpL_neg l m

theorem cmpL_zero : ∀ {a b : Lab}, cmpL a b = 0 → a = b
 | [], [], _ => rfl
 | [], _ :: _, h => by cases h
 | _ :: _, [], h => by cases h
 | a :: l, b :: m, h => by
  change (if a < b then (-1 : Int) else if b < a then 1 else cmpL l m) = 0 at h
  by_cases h1 : a < b
  ·rw [if_pos h1] at h; cases h
  ·by_cases h2 : b < a
   ·rw [if_neg h1, if_pos h2] at h; cases h
   ·rw [if_neg h1, if_neg h2] at h
    have e : a = b := by
     apply UInt8.toNat_inj.1
     rw [u8_lt_iff] at *; omega
    rw [e, cmpL_zero h]

theorem cmpL_trans : ∀ {a b c : Lab}, cmpL a b ≤ 0 → cmpL b c ≤ 0 → cmpL a c ≤ 0
 | [], _, [], _, _ => Int.le_refl _
 | [], _, _ :: _, _, _ => by show (-1 : Int) ≤ 0; omega
 | a :: l, [], _, h, _ => by exact absurd h (by show ¬ (1 : Int) ≤ 0; omega)
 | a :: l, b :: m, [], _, h => by exact absurd h (by show ¬ (1 : Int) ≤ 0; omega)
 | a :: l, b :: m, c :: n, h1, h2 => by
  change (if a < b then (-1 : Int) else if b < a then 1 else cmpL l m) ≤ 0 at h1
  change (if b < c then (-1 : Int) else if c < b then 1 else cmpL m n) ≤ 0 at h2
  show (if a < c then (-1 : Int) else if c < a then 1 else cmpL l n) ≤ 0
  by_cases e1 : a < b
  ·have e3 : ¬ c < b ∨ c < b := by by_cases h : c < b <;> simp [h]
   by_cases e2 : c < b
   ·have e4 : ¬ b < c := by rw [u8_lt_iff] at *; omega
    rw [if_neg e4, if_pos e2] at h2; omega
   ·have : a < c := by rw [u8_lt_iff] at *; omega
    rw [if_pos this]; omega
  ·by_cases e2 : b < a
   ·rw [if_neg e1, if_pos e2] at h1; omega
   ·have e : a = b := by
     apply UInt8.toNat_inj.1
     rw [u8_lt_iff] at *; omega
    subst e
    rw [if_neg e1, if_neg e2] at h1
    by_cases e3 : a < c
    ·rw [if_pos e3]; omega
    ·by_cases e4 : c < a
     ·rw [if_neg e3, if_pos e4] at h2; omega
     ·rw [if_neg e3, if_neg e4] at h2
      rw [if_neg e3, if_neg e4]
      exact cmpL_trans h1 h2

end Go.Proofs.YtopbbjdembnfdaaGreat

namespace Go.Proofs.YtopbbjdembnfdaaGreat
open Go

def MapIt (w : World) (r m : Nat) (l : List (Lab × Value)) (pre : List Lab) : Prop :=
 ∃ es clk, ∃ ds : List MapEntry, w.heap[m]? = some (.map es clk) ∧ es.toList.map (fun e => (e.key, e.val)) = l.map (fun p => (vs p.1, p.2)) ∧ (es.toList.map (·.born)).Pairwise (· ≠ ·) ∧ (∀ e ∈ es.toList, e.born < clk) ∧
  w.heap[r]? = some (.mapIter (some m) clk (ds.map (·.born)).toArray clk) ∧ (∀ d ∈ ds, d ∈ es.toList) ∧ ds.map (·.key) = pre.map vs

theorem MapIt.map {w : World} {r m : Nat} {l : List (Lab × Value)} {pre : List Lab} (h : MapIt w r m l pre) : MapAt w m l := by
 obtain ⟨es, clk, ds, h1, h2, h3, h4, _⟩ := h
 exact ⟨es, clk, h1, h2, h3, h4⟩

theorem MapIt.block {w x : World} {r m : Nat} {l : List (Lab × Value)} {pre : List Lab} (h : MapIt w r m l pre) (h1 : x.heap[m]? = w.heap[m]?) (h2 : x.heap[r]? = w.heap[r]?) : MapIt x r m l pre := by
 obtain ⟨es, clk, ds, a, b, c, d, e, f⟩ := h
 exact ⟨es, clk, ds, h1.trans a, b, c, d, h2.trans e, f⟩

section
variable {P : Program} {d : Option Tmp} {ty : TypeId} {ps : String} {af : Array Edge} {g : Option (Nat × Bool)} {ρ : Operand → Value} {w : World} {K : Value → World → Prop}

end
end Go.Proofs.YtopbbjdembnfdaaGreat

namespace Go.Proofs.YtopbbjdembnfdaaGreat
open Go

theorem size_put (w : World) (r : Nat) (o : Obj) : (w.putObj r o).heap.size = w.heap.size := by simp

structure KeepR (n0 n1 : Nat) (X : Nat → Prop) (A B : World) : Prop where
 os : B.os = A.os
 tape : B.tape = A.tape
 output : B.output = A.output
 size : A.heap.size ≤ B.heap.size
 block : ∀ b, b < A.heap.size → (b < n0 ∨ n1 ≤ b) → ¬ X b → B.heap[b]? = A.heap[b]?
 drawn : A.drawn ≤ B.drawn

def IterU {α : Type} (P : Program) (g : FuncId) (cap : Array Value) (W0 : World) (n0 : Nat) (C : Nat → Prop) (own : Nat) (Pre : List α → α → Prop) (Full : List α → Prop) (enc : Nat → α → (Nat → Prop) → World → Array Value → Prop) : Prop :=
 ∀ (l : Nat) (J : List α → (Nat → Prop) → World → Prop) (Jx : List α → World → Prop) (W : World), Ext W0 W → n0 ≤ W.heap.size →
  (∀ pre U A B, J pre U A → Keep (span W.heap.size own) A B → J pre U B) → (∀ pre A B, Jx pre A → Keep (span W.heap.size own) A B → Jx pre B) →
  (∀ pre U x A args, Pre pre x → J pre U A → W.heap.size + own ≤ A.heap.size → KeepB n0 C W A → enc W.heap.size x U A args → Yld P l args A (fun v B =>
   (v = .bool true ∧ ∃ U', J (pre ++ [x]) U' B ∧ (∀ b, U' b → U b ∨ (A.heap.size ≤ b ∧ b < B.heap.size)) ∧ KeepR n0 W.heap.size (fun b => C b ∨ U b) A B) ∨ (v = .bool false ∧ Jx (pre ++ [x]) B))) →
  J [] NoS W → Fn P g (#[.func (.yield l) #[] #[]] ++ cap) W (fun _ B => (∃ xs U, Full xs ∧ J xs U B) ∨ ∃ pre x, Pre pre x ∧ Jx (pre ++ [x]) B)

def roundU {α : Type} (I : List α → (Nat → Prop) → World → Prop) (Ix : Code → List α → World → Prop) (C U : Nat → Prop) (pre' : List α) (A : World) : Post
 | .normal, _, _, B => ∃ U', I pre' U' B ∧ (∀ b, U' b → U b ∨ (A.heap.size ≤ b ∧ b < B.heap.size)) ∧ Keep (fun b => C b ∨ U b) A B
 | .ret, _, _, B => Ix .ret pre' B ∧ Keep (fun b => C b ∨ U b) A B
 | .exit id, _, _, B => Ix (.exit id) pre' B ∧ Keep (fun b => C b ∨ U b) A B
 | .goto t, _, _, B => Ix (.goto t) pre' B ∧ Keep (fun b => C b ∨ U b) A B
 | _, _, _, _ => False

theorem W_rangeU {α : Type} {P : Program} {n : Nat} {f : Operand} {ps : Array Tmp} {assign body : Code} {Q : Post} {σ : Sto} {ds : List Deferred} {w : World}
  {g : FuncId} {cap : Array Value} {W0 : World} {n0 : Nat} {C : Nat → Prop} {own : Nat} {Pre : List α → α → Prop} {Full : List α → Prop} {enc : Nat → α → (Nat → Prop) → World → Array Value → Prop}
  (hf : ev n σ f = .func (.func g) #[] cap) (hc : callable P g = true) (hit : IterU P g cap W0 n0 C own Pre Full enc) (hW0 : Ext W0 w) (hn0 : n0 ≤ w.heap.size) (hCn : ∀ b, C b → b < w.heap.size)
  (henc : ∀ x U A args, enc (w.heap.size + 2) x U A args → args.size = ps.size)
  (I : List α → (Nat → Prop) → World → Prop) (Ix : Code → List α → World → Prop)
  (hI : ∀ pre U A B, I pre U A → (∀ b, U b → w.heap.size + 2 + own ≤ b) → Keep (span w.heap.size (2 + own)) A B → I pre U B)
  (hIx : ∀ c pre A B, Ix c pre A → Keep (span w.heap.size (2 + own)) A B → Ix c pre B)
  (h0 : I [] NoS w)
  (hround : ∀ (l : Nat) (pre : List α) (U : Nat → Prop) (x : α) (A : World) (args : Array Value), Pre pre x → w.heap.size + 2 + own ≤ A.heap.size → I pre U A → (∀ b, U b → w.heap.size + 2 + own ≤ b ∧ b < A.heap.size) → enc (w.heap.size + 2) x U A args →
   W P (some l) n assign (thenQ (fun σ1 ds1 A1 => ds1 = [] ∧ Keep (fun b => C b ∨ U b) A A1 ∧ ∀ A2, Keep (two w.heap.size) A1 A2 → W P (some l) n body (roundU I Ix C U (pre ++ [x]) A2) σ1 [] A2) (fun _ _ _ _ => False))
    (setPs σ (ps.zip args).toList) [] A)
  (hdone : ∀ xs U w', Full xs → w.heap.size + 2 ≤ w'.heap.size → (∀ b, U b → w.heap.size + 2 + own ≤ b ∧ b < w'.heap.size) → I xs U w' → w'.heap[w.heap.size]? = some (.deferred (some [])) → Q .normal σ ({ target := .collected w.heap.size, args := #[] } :: ds) w')
  (hstop : ∀ c pre x w', w.heap.size + 2 ≤ w'.heap.size → Pre pre x → Ix c (pre ++ [x]) w' → w'.heap[w.heap.size]? = some (.deferred (some [])) →
   W P Option.none n c Q σ ({ target := .collected w.heap.size, args := #[] } :: ds) w') :
  W P Option.none n (.rangeFunc f ps assign body) Q σ ds w := by
 refine wpIn_rangeFunc ?_
 intro fn _
 generalize hrec : recOf fn (act n σ ds).tmps ps assign body w.heap.size = rec
 obtain ⟨W1, hW1⟩ : ∃ W1, (w.alloc (.deferred (some []))).alloc (.loop (rec .ready Option.none)) = W1 := ⟨_, rfl⟩
 have hsz1 : W1.heap.size = w.heap.size + 2 := by rw [← hW1]; simp
 have hL1 : W1.heap[w.heap.size + 1]? = some (.loop (rec .ready Option.none)) := by
  rw [← hW1]; have := World.alloc_heap_new (w.alloc (.deferred (some []))) (.loop (rec .ready Option.none)); rwa [World.size_alloc] at this
 have hK1 : W1.heap[w.heap.size]? = some (.deferred (some [])) := by
  rw [← hW1]; exact (RowKit.Below.heap_alloc _ _ _ (by simp)).trans (World.alloc_heap_new w _)
 have hE1 : Ext w W1 := by rw [← hW1]; exact (Ext.alloc w _).trans (Ext.alloc _ _)
 have hI1 : I [] NoS W1 := hI _ _ _ _ h0 (fun _ h => h.elim) (hE1.mono (fun _ _ h => h.elim))
 have hl2 : two w.heap.size (w.heap.size + 1) := .inr rfl
 have hl2' : span w.heap.size (2 + own) (w.heap.size + 1) := by unfold span; omega
 refine ⟨w.heap.size + 1, [{ target := .collected w.heap.size, args := #[] }], W1, { target := .fn (.func g) cap, args := #[.func (.yield (w.heap.size + 1)) #[] #[]] }, W1, g,
  #[.func (.yield (w.heap.size + 1)) #[] #[]] ++ cap, W1, ?_, ?_, ?_, ?_, fw_depth, ?_⟩
 ·rw [← hW1, ← hrec]; exact run_enterLoop_outer _ _ _ _ _
 ·simp only [resolve, act_eval, hf]
  simp [Deferred.ofValue, ev]
 ·intro f' hf'; trivial
 ·simp only [invoke]; exact run_callFunc hc
 ·-- the iterator's contract
  have hsp : ∀ {n : Nat} b, b < n → span W1.heap.size own b → span w.heap.size (2 + own) b := fun b _ h => by unfold span at *; omega
  have hCl : ∀ b, two w.heap.size b → ¬ C b := fun b hb hcb => by have := hCn b hcb; rcases hb with rfl | rfl <;> omega
  refine calls_round (CallsIn.mono (hit (w.heap.size + 1)
   (fun pre U B => (I pre U B ∧ ∀ b, U b → w.heap.size + 2 + own ≤ b ∧ b < B.heap.size) ∧ w.heap.size + 2 ≤ B.heap.size ∧ B.heap[w.heap.size + 1]? = some (.loop (rec .ready Option.none)) ∧ B.heap[w.heap.size]? = some (.deferred (some [])))
   (fun pre B => ∃ c, Ix c pre B ∧ w.heap.size + 2 ≤ B.heap.size ∧ B.heap[w.heap.size + 1]? = some (.loop (rec .done (some c))) ∧ B.heap[w.heap.size]? = some (.deferred (some [])))
   W1 (hW0.trans hE1) (by omega) ?_ ?_ ?_ ⟨⟨hI1, fun _ h => h.elim⟩, by omega, hL1, hK1⟩) ?_)
  ·rintro pre U A B ⟨⟨hi, hu⟩, hs, hl, hk⟩ hAB
   exact ⟨⟨hI _ _ _ _ hi (fun b hb => (hu b hb).1) (hAB.mono hsp), fun b hb => ⟨(hu b hb).1, Nat.lt_of_lt_of_le (hu b hb).2 hAB.size⟩⟩, Nat.le_trans hs hAB.size, (hAB.block _ (by omega) (by unfold span; omega)).trans hl, (hAB.block _ (by omega) (by unfold span; omega)).trans hk⟩
  ·rintro pre A B ⟨c, hi, hs, hl, hk⟩ hAB
   exact ⟨c, hIx _ _ _ _ hi (hAB.mono hsp), Nat.le_trans hs hAB.size, (hAB.block _ (by omega) (by unfold span; omega)).trans hl, (hAB.block _ (by omega) (by unfold span; omega)).trans hk⟩
  ·-- one round
   rintro pre U x A args hxs ⟨⟨hi, hu⟩, hs, hl, hk⟩ hsA _ hx
   have hy := run_yield (P := P) (args := args) hl (by rw [← hrec]; exact henc x U A args (by rw [← hsz1]; exact hx))
   unfold Yld callV
   dsimp only
   rw [show (#[] ++ args : Array Value) = args from by simp]
   rw [hy, ← hrec]
   dsimp only [recOf, opR]
   refine round_round (r := Option.none) (n := 0) (roundIn_of_wpIn (F := fw Option.none) (n := 0) trivial ?_)
   have hin : (fw Option.none).inRound (w.heap.size + 1) = fw (some (w.heap.size + 1)) := rfl
   rw [hin]
   have hfold : (ps.zip args).foldl (fun t (x : Tmp × Value) => t.setIfInBounds x.1 x.2) (act n σ ds).tmps = (act n (setPs σ (ps.zip args).toList) []).tmps := by
    rw [← Array.foldl_toList]
    exact foldl_setPs n ds _ σ
   have hst : ({ tmps := (ps.zip args).foldl (fun t (x : Tmp × Value) => t.setIfInBounds x.1 x.2) (act n σ ds).tmps, defers := [] } : Act) = act n (setPs σ (ps.zip args).toList) [] := by
    rw [hfold]; rfl
   have hD1 := (Array.getElem?_eq_some_iff.1 hl).1
   have hno : ∀ b, two w.heap.size b → ¬ (C b ∨ U b) := fun b hb h => by
    rcases h with h | h
    ·exact hCl b hb h
    ·have := (hu b h).1; rcases hb with rfl | rfl <;> omega
   have hr := hround (w.heap.size + 1) pre U x A args hxs (by omega) hi hu (by rw [← hsz1]; exact hx)
   unfold W at hr
   rw [← hst] at hr
   refine wpIn_mono hr ?_
   rintro e a A1 ⟨σ1, ds1, rfl, hq⟩
   cases e with
   | normal =>
    obtain ⟨rfl, hA1, hbody⟩ := hq
    have hlA1 : A1.heap[w.heap.size + 1]? = some (.loop (rec .ready Option.none)) := (hA1.block _ (by omega) (hno _ hl2)).trans hl
    have hkA1 : A1.heap[w.heap.size]? = some (.deferred (some [])) := (hA1.block _ (by omega) (hno _ (.inl rfl))).trans hk
    have hlt1 : w.heap.size + 1 < A1.heap.size := (Array.getElem?_eq_some_iff.1 hlA1).1
    refine ⟨_, run_beginRound hlA1 (by rw [← hrec]; rfl), ?_⟩
    have hb := hbody _ (keep_put (w := A1) (r := w.heap.size + 1) (o := .loop { rec .ready Option.none with state := .busy }) hl2)
    refine wpIn_mono hb ?_
    have hlA2 : (A1.putObj (w.heap.size + 1) (.loop { rec .ready Option.none with state := .busy })).heap[w.heap.size + 1]? = some (.loop { rec .ready Option.none with state := .busy }) := World.putObj_heap_same hlt1
    have hkA2 : (A1.putObj (w.heap.size + 1) (.loop { rec .ready Option.none with state := .busy })).heap[w.heap.size]? = some (.deferred (some [])) := (World.putObj_heap_other (by omega)).trans hkA1
    have fin : ∀ (jump : Option Code) (B : World), Keep (fun b => C b ∨ U b) (A1.putObj (w.heap.size + 1) (.loop { rec .ready Option.none with state := .busy })) B →
      (Instr.endRound (w.heap.size + 1) jump).run P B = .ok (.bool jump.isNone) (B.putObj (w.heap.size + 1) (.loop (rec (if jump.isNone then .ready else .done) jump))) ∧
      w.heap.size + 2 ≤ (B.putObj (w.heap.size + 1) (.loop (rec (if jump.isNone then .ready else .done) jump))).heap.size ∧
      (B.putObj (w.heap.size + 1) (.loop (rec (if jump.isNone then .ready else .done) jump))).heap[w.heap.size + 1]? = some (.loop (rec (if jump.isNone then .ready else .done) jump)) ∧
      (B.putObj (w.heap.size + 1) (.loop (rec (if jump.isNone then .ready else .done) jump))).heap[w.heap.size]? = some (.deferred (some [])) ∧
      KeepR n0 W1.heap.size (fun b => C b ∨ U b) A (B.putObj (w.heap.size + 1) (.loop (rec (if jump.isNone then .ready else .done) jump))) := by
     intro jump B hB
     have hlB := (hB.block _ (by simp; omega) (hno _ hl2)).trans hlA2
     have hkB := (hB.block _ (by simp; omega) (hno _ (.inl rfl))).trans hkA2
     have hltB : w.heap.size + 1 < B.heap.size := (Array.getElem?_eq_some_iff.1 hlB).1
     have hsB := hB.size
     simp only [size_put] at hsB
     refine ⟨?_, by simp; omega, World.putObj_heap_same hltB, (World.putObj_heap_other (by omega)).trans hkB, ?_⟩
     ·have := run_endRound (P := P) jump hlB
      rw [← hrec] at this ⊢
      exact this
     ·refine ⟨hB.os.trans hA1.os, hB.tape.trans hA1.tape, hB.output.trans hA1.output, ?_, fun b hb hor hn => ?_, Nat.le_trans hA1.drawn hB.drawn⟩
      ·have := hA1.size; simp; omega
      ·have h1 := hA1.size
       have hne : b ≠ w.heap.size + 1 := by omega
       exact (World.putObj_heap_other hne).trans ((hB.block b (by simp; omega) hn).trans ((World.putObj_heap_other hne).trans (hA1.block b hb hn)))
    rintro e a B ⟨σ2, ds2, rfl, hq⟩
    cases e with
    | normal =>
     obtain ⟨U', hi', hU', hB⟩ := hq
     obtain ⟨h1, h2, h3, h4, h5⟩ := fin Option.none B hB
     have hsA1 := hA1.size
     have hsB := hB.size
     simp only [size_put] at hsB
     have hU2 : ∀ b, U' b → U b ∨ (A.heap.size ≤ b ∧ b < B.heap.size) := fun b hb => by
      rcases hU' b hb with h | ⟨h, h'⟩
      ·exact .inl h
      ·simp only [size_put] at h; exact .inr ⟨by omega, h'⟩
     have hu' : ∀ b, U' b → w.heap.size + 2 + own ≤ b ∧ b < B.heap.size := fun b hb => by
      rcases hU2 b hb with h | ⟨h, h'⟩
      ·have := hu b h; omega
      ·omega
     exact ⟨_, _, h1, _, rfl, .inl ⟨rfl, U', ⟨⟨hI _ _ _ _ hi' (fun b hb => (hu' b hb).1) (keep_put hl2'), fun b hb => by rw [size_put]; exact hu' b hb⟩, h2, h3.trans (by rw [← hrec]; rfl), h4⟩, fun b hb => by rw [size_put]; exact hU2 b hb, h5⟩⟩
    | ret =>
     obtain ⟨hi', hB⟩ := hq
     obtain ⟨h1, h2, h3, h4, _⟩ := fin (some .ret) B hB
     exact ⟨_, _, h1, _, rfl, .inr ⟨rfl, _, hIx _ _ _ _ hi' (keep_put hl2'), h2, h3.trans (by rw [← hrec]; rfl), h4⟩⟩
    | exit id =>
     obtain ⟨hi', hB⟩ := hq
     obtain ⟨h1, h2, h3, h4, _⟩ := fin (some (.exit id)) B hB
     exact ⟨_, _, h1, _, rfl, .inr ⟨rfl, _, hIx _ _ _ _ hi' (keep_put hl2'), h2, h3.trans (by rw [← hrec]; rfl), h4⟩⟩
    | goto t =>
     obtain ⟨hi', hB⟩ := hq
     obtain ⟨h1, h2, h3, h4, _⟩ := fin (some (.goto t)) B hB
     exact ⟨_, _, h1, _, rfl, .inr ⟨rfl, _, hIx _ _ _ _ hi' (keep_put hl2'), h2, h3.trans (by rw [← hrec]; rfl), h4⟩⟩
    | panic c => exact hq.elim
    | outgrown => exact hq.elim
   | ret => exact hq.elim
   | exit id => exact hq.elim
   | goto t => exact hq.elim
   | panic c => exact hq.elim
   | outgrown => exact hq.elim
  ·rintro e B ⟨v, rfl, h⟩
   rcases h with ⟨xs, U, hfull, ⟨hi, hu⟩, hs, hl, hk⟩ | ⟨pre, x, hxs, c, hi, hs, hl, hk⟩
   ·have hend := run_endLoop (P := P) hl (by rw [← hrec]; simp [recOf])
    have hp : (rec LoopState.ready Option.none).pending = Option.none := by rw [← hrec]; rfl
    rw [hp] at hend
    refine ⟨Option.none, _, hend, ?_⟩
    exact ⟨σ, _, rfl, hdone xs U _ hfull (by simp; omega) (fun b hb => by rw [size_put]; exact hu b hb) (hI _ _ _ _ hi (fun b hb => (hu b hb).1) (keep_put hl2')) ((World.putObj_heap_other (by omega)).trans hk)⟩
   ·have hend := run_endLoop (P := P) hl (by rw [← hrec]; simp [recOf])
    have hp : (rec LoopState.done (some c)).pending = some c := by rw [← hrec]; rfl
    rw [hp] at hend
    refine ⟨some c, _, hend, ?_⟩
    exact hstop c pre x _ (by simp; omega) hxs (hIx _ _ _ _ hi (keep_put hl2')) ((World.putObj_heap_other (by omega)).trans hk)


end Go.Proofs.YtopbbjdembnfdaaGreat

namespace Go.Proofs.YtopbbjdembnfdaaGreat
open Go

def RowZ (n1 : Nat) (U : Nat → Prop) (w : World) (v : Value) (l : List Value) : Prop :=
 Row w v l ∧ ∀ a n c, v = .slice (some a) n c → n1 ≤ a.block ∧ a.block < w.heap.size ∧ ¬ U a.block

theorem KeepR.next {n0 n1 : Nat} {C U U' : Nat → Prop} {A B D : World} (h : KeepR n0 n1 (fun b => C b ∨ U b) A B) (hU : ∀ b, U' b → U b ∨ (A.heap.size ≤ b ∧ b < B.heap.size)) (k : KeepR n0 n1 (fun b => C b ∨ U' b) B D) : KeepR n0 n1 (fun b => C b ∨ U b) A D :=
 ⟨k.os.trans h.os, k.tape.trans h.tape, k.output.trans h.output, Nat.le_trans h.size k.size, fun b hb hor hn => by
  refine (k.block b (Nat.lt_of_lt_of_le hb h.size) hor (fun hc => ?_)).trans (h.block b hb hor hn)
  rcases hc with hc | hc
  ·exact hn (.inl hc)
  ·rcases hU b hc with h' | h'
   ·exact hn (.inr h')
   ·omega, Nat.le_trans h.drawn k.drawn⟩

theorem RowZ.keep {n0 n1 : Nat} {C U U' : Nat → Prop} {A B : World} {v : Value} {l : List Value} (h : RowZ n1 U A v l) (hk : KeepR n0 n1 (fun b => C b ∨ U b) A B) (hC : ∀ b, C b → b < n1) (hU : ∀ b, U' b → U b ∨ (A.heap.size ≤ b ∧ b < B.heap.size)) : RowZ n1 U' B v l := by
 refine ⟨h.1.blocks (fun a n c hv => ?_), fun a n c hv => ?_⟩
 ·obtain ⟨h1, h2, h3⟩ := h.2 a n c hv
  exact hk.block _ h2 (.inr h1) (fun hc => by
   rcases hc with hc | hc
   ·have := hC _ hc; omega
   ·exact h3 hc)
 ·obtain ⟨h1, h2, h3⟩ := h.2 a n c hv
  have := hk.size
  refine ⟨h1, by omega, fun hc => ?_⟩
  rcases hU _ hc with h' | h'
  ·exact h3 h'
  ·omega

theorem RowZ.ext {n1 : Nat} {U : Nat → Prop} {w x : World} {v : Value} {l : List Value} (h : RowZ n1 U w v l) (hE : Ext w x) : RowZ n1 U x v l :=
 ⟨h.1.ext hE, fun a n c hv => by obtain ⟨h1, h2, h3⟩ := h.2 a n c hv; exact ⟨h1, Nat.lt_of_lt_of_le h2 hE.size, h3⟩⟩

theorem KeepR.toB {n0 n1 : Nat} {C U : Nat → Prop} {W A B : World} (h : KeepR n0 n1 (fun b => C b ∨ U b) A B) (hW : KeepB n0 C W A) (hn : n0 ≤ A.heap.size) (hU : ∀ b, U b → n0 ≤ b) : KeepB n0 C W B :=
 hW.trans ⟨h.os, h.tape, h.output, h.size, fun b hb hc => h.block b (by omega) (.inl hb) (fun hx => by
  rcases hx with hx | hx
  ·exact hc hx
  ·have := hU b hx; omega), h.drawn⟩

end Go.Proofs.YtopbbjdembnfdaaGreat

namespace Go.Proofs.YtopbbjdembnfdaaGreat
open Go
set_option maxRecDepth 10000

theorem cmpL_lt_trans {a b c : Lab} (h1 : cmpL a b < 0) (h2 : cmpL b c ≤ 0) : cmpL a c < 0 := by
 have h3 := cmpL_trans (Int.le_of_lt h1) h2
 by_cases h : cmpL a c = 0
 ·have := cmpL_zero h
  subst this
  have := cmpL_neg a b
  omega
 ·omega
def sgn (n : Int) : Int := if n < 0 then -1 else if 0 < n then 1 else 0

def cmpR : Nm → Nm → Int
 | [], [] => 0
 | [], _ :: _ => -1
 | _ :: _, [] => 1
 | a :: l, b :: m => if cmpL a b = 0 then cmpR l m else cmpL a b
def cmpN (a b : Nm) : Int := cmpR a.reverse b.reverse

theorem cmpR_nil : ∀ a b : Nm, a = [] ∨ b = [] → cmpR a b = sgn ((a.length : Int) - b.length)
 | [], [], _ => rfl
 | [], _ :: _, _ => by simp only [cmpR, sgn, List.length_cons, List.length_nil]; rw [if_pos (by omega)]
 | _ :: _, [], _ => by simp only [cmpR, sgn, List.length_cons, List.length_nil]; rw [if_neg (by omega), if_pos (by omega)]
 | _ :: _, _ :: _, h => by simp at h

theorem cmpR_step {a b : Nm} {i : Nat} (ha : i < a.length) (hb : i < b.length) : cmpR (a.drop i) (b.drop i) = if cmpL a[i] b[i] = 0 then cmpR (a.drop (i + 1)) (b.drop (i + 1)) else cmpL a[i] b[i] := by
 rw [List.drop_eq_getElem_cons ha, List.drop_eq_getElem_cons hb]; rfl

end Go.Proofs.YtopbbjdembnfdaaGreat

namespace Go.Proofs
open Go.Shelf
def Tryz.lays106_ren : Go.Shelf.Ren := ⟨fun | 106 => 170 | 213 => 207 | 265 => 235 | n => n, fun | 9 => 9 | 3 => 3 | n => n, fun | n => n⟩
theorem Tryz.lays106 : Go.Proofs.Lays.n106 Tryz.prog Tryz.lays106_ren := {
 mixed := by kernel_rfl
 f106 := Tryz.func170.trans (congrArg some (by kernel_rfl))
 f213 := Tryz.func207.trans (congrArg some (by kernel_rfl))
 f265 := Tryz.func235.trans (congrArg some (by kernel_rfl))
 t3 := Tryz.underlying3
 a3 := Tryz.isAgg3
 z3 := Tryz.sizeOf3
 v3 := Tryz.zeroValue3
 t9 := Tryz.underlying9
 a9 := Tryz.isAgg9
 z9 := Tryz.sizeOf9
 v9 := Tryz.zeroValue9 }
end Go.Proofs
